/-
  The law ReportLines.
-/
import Derived.Test.YtenlbjobjnpghaaDoorRepPl3
import Derived.Test.YtenlbjobjnpghaaDoorRep11
namespace Go.Proofs.YtenlbjobjnpghaaDoor
open Go.RowKit
set_option linter.unusedVariables false
theorem mkL_bad {bs : List SBal} {rs : List SRow} (h : (mkE bs rs == 0) = false) : mkL bs rs = [] := by
  unfold mkL; rw [if_neg (by simpa using h)]
set_option maxRecDepth 100000 in
set_option maxHeartbeats 16000000 in
theorem lawLines (bs : List SBal) (rs : List SRow) (A A' : Option Addr) (n c n' c' : Nat) (w : World) (hE : Env w) (hr : Reads w w.heap.size 2 A n (balsCells bs)) (hr' : Reads w w.heap.size 5 A' n' (rowsCells rs)) (hn : n ≤ 9223372036854775807) (hn' : n' ≤ 9223372036854775807) (hnc' : n' ≤ c') :
    Calls Tryd.prog 6 #[.slice A n c, .slice A' n' c'] w fun e w' => e = .returned (.bool true) ∧ Below w.heap.size w w' := by
  have HR := Lib.hid hr
  have HR' := Lib.hid hr'
  have HLB := Lib.hid (bals_len hr)
  have HLR := Lib.hid (rows_len hr')
  clear hr hr'
  cases hf : fewL bs rs
  · have HF := Lib.hid hf
    clear hf
    go_enter Tryd.func6, Tryd.ntmps6
    go_wp2_with fail
    refine (awake_true _ hE).mono ?_
    rintro e w1 ⟨rfl, hb1⟩
    go_wp2_with fail
    refine (fewL_any bs rs A A' n c n' c' w.heap.size _ (HR.out.below hb1) (HR'.out.below hb1) hn hn').mono ?_
    rintro e wx ⟨rfl, rfl⟩
    rw [HF.out]
    go_wp2_with fail
    refine (awake_true _ (hE.after hb1)).mono ?_
    rintro e w2 ⟨rfl, hb2⟩
    go_wp2_with fail
    go_ret
    exact ⟨rfl, below_two hb1 hb2⟩
  have HF := Lib.hid hf
  obtain ⟨hs, h60, hfb⟩ := fewL_iff.1 hf
  obtain ⟨h1, h2⟩ := fewB_iff.1 hfb
  have HNM : Hid (∀ r ∈ rs, r.name.length ≤ 3000) := fun r hr => by have := h1 r hr; omega
  have hn60 : n ≤ 60 := by have := HLB.out; omega
  have hn310 : n' ≤ 310 := by have := HLR.out; omega
  have HS := Lib.hid hs
  clear hf hfb h1 h2 hs h60
  cases he : (mkE bs rs == 0)
  · have he' : (mkE bs rs != 0) = true := by rw [bne, he]; rfl
    have HML := Lib.hid (mkL_bad he)
    clear he
    go_enter Tryd.func6, Tryd.ntmps6
    go_wp2_with fail
    refine (awake_true _ hE).mono ?_
    rintro e w1 ⟨rfl, hb1⟩
    go_wp2_with fail
    refine (fewL_any bs rs A A' n c n' c' w.heap.size _ (HR.out.below hb1) (HR'.out.below hb1) hn hn').mono ?_
    rintro e wx ⟨rfl, rfl⟩
    rw [HF.out]
    go_wp2_with fail
    refine (make_any bs rs A A' n c n' c' w.heap.size _ (HR.out.below hb1) (HR'.out.below hb1) hb1.size (by omega) HS.out hn' hnc' HNM.out).mono ?_
    rintro e w2 ⟨v, rfl, hown, hb2⟩
    rw [HML.out] at hown
    obtain ⟨A1, c1, rfl⟩ := own_slice hown
    have hb12 := below_two hb1 hb2
    generalize mkE bs rs = E at *
    clear hown hb1 hb2
    go_wp2_with fail
    go_ret
    exact ⟨rfl, hb12⟩
  have he' : (mkE bs rs != 0) = false := by rw [bne, he]; rfl
  have he0 : mkE bs rs = 0 := by simpa using he
  obtain ⟨hvr, _, hml⟩ := mk_ok he0
  have hvl := validL_mk he0
  have HML := Lib.hid hml
  have HE0 := Lib.hid he0
  have HXL : Hid ((rs.map (lnR bs)).length = n') := by show _ = _; rw [List.length_map, HLR.out]
  have HXR : Hid (∀ k, k < n' → ((rs.map (lnR bs)).getD k default).row = rs.getD k default ∧ nameOk (rs.getD k default).name = true) := by
    show ∀ _, _
    intro k hk
    have hk' : k < rs.length := by rw [HLR.out]; exact hk
    refine ⟨by rw [map_getD bs hk']; rfl, ?_⟩
    exact (okRow_iff.1 (validR_row hvr hk')).1
  have HRT := Lib.hid (rt_yes hvl)
  have HWA := Lib.hid (longL_all hvl)
  have HXN : Hid (∀ x ∈ rs.map (lnR bs), x.row.name.length ≤ 3000) := by
    show ∀ _, _
    intro x hx
    obtain ⟨r, hr, rfl⟩ := List.mem_map.1 hx
    exact HNM.out r hr
  have hlen := linesT_len (W := longL (rs.map (lnR bs))) HWA.out hvl n' (by rw [HXL.out]; exact Nat.le_refl _)
  rw [List.take_of_length_le (by rw [HXL.out]; exact Nat.le_refl _)] at hlen
  have HGE : Hid (∀ k, k < n' → widL ((rs.map (lnR bs)).getD k default) ≤ longL (rs.map (lnR bs))) := fun k hk => longL_ge (by rw [HXL.out]; exact hk)
  clear he he0 hvr hml hvl
  go_enter Tryd.func6, Tryd.ntmps6
  go_wp2_with fail
  refine (awake_true _ hE).mono ?_
  rintro e w1 ⟨rfl, hb1⟩
  go_wp2_with fail
  refine (fewL_any bs rs A A' n c n' c' w.heap.size _ (HR.out.below hb1) (HR'.out.below hb1) hn hn').mono ?_
  rintro e wx ⟨rfl, rfl⟩
  rw [HF.out]
  go_wp2_with fail
  refine (make_any bs rs A A' n c n' c' w.heap.size _ (HR.out.below hb1) (HR'.out.below hb1) hb1.size (by omega) HS.out hn' hnc' HNM.out).mono ?_
  rintro e w2 ⟨v, rfl, hown, hb2⟩
  rw [HML.out] at hown
  rw [HE0.out]
  clear he'
  generalize rs.map (lnR bs) = xs at *
  obtain ⟨A1, c1, rfl⟩ := own_slice hown
  have HRX := Lib.hid (Reads.of_own hown)
  have hb12 := below_two hb1 hb2
  clear hown hb1 hb2
  go_wp2_with fail
  refine (rtext_any xs A1 xs.length c1 _ w2 (hE.after hb12) HRX.out (Nat.le_refl _) (by rw [HXL.out]; omega) HXN.out).mono ?_
  rintro e w3 ⟨rfl, hb3⟩
  have hb13 := below_two hb12 hb3
  rw [HRT.out.1, HRT.out.2]
  have HB13 := Lib.hid hb13
  clear hb12 hb3 hb13
  generalize hWW : longL xs = W at *
  have HWW := Lib.hid hWW
  clear hWW
  have HSN : Hid (st W xs n' = (linesT W xs).length) := st_all (by rw [HXL.out]; exact Nat.le_refl _)
  generalize hSS : linesT W xs = S at *
  have HSS := Lib.hid hSS
  clear hSS
  go_wp2_with fail
  go_loopw [9, 10, 11, 12] (fun a b d i wr => ∃ k p : Nat, k ≤ n' ∧ st W xs k ≤ p ∧ (k < n' → p < st W xs (k + 1)) ∧ (k = n' → p = S.length) ∧ p ≤ S.length ∧ a = .int .i64 k ∧ b = .int .i64 (st W xs k) ∧ d = .int .i64 (wd W xs k) ∧ i = .int .i64 p ∧ Below w3.heap.size w3 wr) (fun _ _ _ i _ => S.length - (intOf i).toNat)
  case atStart => exact ⟨0, 0, Nat.zero_le _, by rw [st_zero]; exact Nat.le_refl _, fun h => by rw [st_step (by rw [HXL.out]; exact h)]; omega, fun h => by rw [← HSN.out, ← h, st_zero], Nat.zero_le _, rfl, by rw [st_zero]; rfl, rfl, rfl, Below.refl _ _⟩
  case round =>
    obtain ⟨k, p, hk, hp1, hp2, hp3, hp4, rfl, rfl, rfl, rfl, hbr⟩ := hrel
    obtain ⟨wo, rfl⟩ : ∃ wo : World, wo = wr := ⟨_, rfl⟩
    have HP2 := Lib.hid hp2
    have HP3 := Lib.hid hp3
    clear hp2 hp3
    by_cases hlt : p < S.length
    · have k3 : decide ((p : Int) < (S.length : Int)) = true := by rw [decide_eq_true_eq]; omega
      have hkn : k < n' := by
        rcases Nat.lt_or_ge k n' with h | h
        · exact h
        · have := HP3.out (by omega); omega
      have hkl : k < xs.length := by rw [HXL.out]; exact hkn
      have hsz : p < (⟨S.toArray⟩ : ByteArray).size := by rw [mk_size]; exact hlt
      have hg := mk_getD S p hsz
      obtain ⟨hxr, hnm⟩ := HXR.out k hkn
      have hstep := st_step (W := W) hkl
      have hpk := HP2.out hkn
      obtain ⟨j, hj⟩ : ∃ j, p = st W xs k + j := ⟨p - st W xs k, by omega⟩
      by_cases hlast : j < (bodyL W (xs.getD k default)).length
      · have hne : S.getD p 0 ≠ 10 := by
          have := byte_in (W := W) (j := j) hkl (by rw [hxr]; exact hnm) hlast
          rw [HSS.out] at this
          rw [hj]; exact this
        have t1 : (((⟨S.toArray⟩ : ByteArray)[p].toNat : Int) != 10) = true := by
          rw [bne_iff_ne, hg]
          intro h
          exact hne (UInt8.toNat_inj.1 (by rw [show (10 : UInt8).toNat = 10 from rfl]; omega))
        have hnx : p + 1 < st W xs (k + 1) := by omega
        have hnx2 : p + 1 ≤ S.length := by
          have := st_le (W := W) (xs := xs) (k := k + 1)
          rw [HSS.out] at this
          omega
        clear hg hstep hpk hj hlast hne hxr
        go_wp2_with fail
        go_roundw
        case rel => exact ⟨k, p + 1, hk, by omega, fun _ => hnx, fun h => by omega, hnx2, rfl, rfl, rfl, by go_num, hbr⟩
        case measure => simp [intOf]; omega
      · have hje : j = (bodyL W (xs.getD k default)).length := by omega
        have hnl : S.getD p 0 = 10 := by
          have := byte_end (W := W) hkl
          rw [HSS.out, ← hje, ← hj] at this
          exact this
        have t1 : (((⟨S.toArray⟩ : ByteArray)[p].toNat : Int) != 10) = false := by
          rw [hg, hnl]; rfl
        have hst1 : st W xs (k + 1) = p + 1 := by omega
        have hgk : decide ((n' : Int) ≤ (k : Int)) = false := by rw [decide_eq_false_iff_not]; omega
        have b1 : (k : Int) < (n' : Int) := by omega
        have hbw := below_two HB13.out hbr
        have HBW := Lib.hid hbw
        obtain ⟨ad, rfl, hab, c0, c1, c2, c3, c4⟩ := (HR'.out.below hbw).row_at hkn
        have HWT : Hid (isTitle (rs.getD k default) = true → wd W xs (k + 1) = wd W xs k) := fun h => wd_title hkl (by rw [hxr]; exact h)
        have HWR : Hid (isTitle (rs.getD k default) = false → wd W xs (k + 1) = W ∧ (p : Int) - (st W xs k : Int) = W) := fun h => ⟨wd_row hkl (by rw [hxr]; exact h), by
          have := body_row (W := W) (x := xs.getD k default) (by rw [hxr]; exact h) (HGE.out k hkn)
          omega⟩
        have HST1 : Hid (st W xs (k + 1) = p + 1) := hst1
        have HNX : Hid (k + 1 < n' → p + 1 < st W xs (k + 1 + 1)) := fun h => by rw [st_step (by rw [HXL.out]; exact h), HST1.out]; omega
        have HNY : Hid (k + 1 = n' → p + 1 = S.length) := fun h => by rw [← HSN.out, ← h, HST1.out]
        have hs2 : st W xs k ≤ p := hp1
        have hW61 := HWA.out
        clear hg hnl hje hj hlast hstep hpk hst1 hkl hbw hxr hnm
        generalize rs.getD k default = r at *
        generalize hs0 : st W xs k = s0 at *
        have HS0 := Lib.hid hs0
        clear hs0
        obtain ⟨nm, lv, fr, to_, ng⟩ := r
        simp only [] at c0 c1 c2 c3 c4
        cases ht : isTitle ⟨nm, lv, fr, to_, ng⟩
        · obtain ⟨g1, g2⟩ := HWR.out ht
          have G1 := Lib.hid g1
          have G2 := Lib.hid g2
          have HT := Lib.hid ht
          clear g1 g2 ht HWT HWR
          have e1 : (p : Int) - (s0 : Int) = (W : Int) := G2.out
          cases hwb : wdB xs k
          · have hwd : wd W xs k = W := by unfold wd; rw [hwb]; rfl
            rw [hwd]
            have d1 : decide ((0 : Int) ≤ (W : Int)) = true := by rw [decide_eq_true_eq]; omega
            have d2 : ((p : Int) - (s0 : Int) != (W : Int)) = false := by rw [e1]; simp
            have D2 := Lib.hid d2
            clear hwd hwb e1
            go_wp2_with fail
            refine (refTitle_any ⟨nm, lv, fr, to_, ng⟩ _).mono ?_
            rintro e w5 ⟨rfl, hb5⟩
            rw [HT.out]
            have hb6 := below_two hbr hb5
            clear hb5 c0 c1 c2 c3 c4
            go_wp2_with fail
            go_roundw
            case rel => exact ⟨k + 1, p + 1, by omega, by rw [HST1.out]; exact Nat.le_refl _, HNX.out, HNY.out, by omega, by go_num, by rw [HST1.out]; go_num, by rw [G1.out, G2.out], by go_num, hb6⟩
            case measure => simp [intOf]; omega
          · have hwd : wd W xs k = -1 := by unfold wd; rw [hwb]; rfl
            rw [hwd]
            have G3 := Lib.hid e1
            clear hwd hwb e1
            go_wp2_with fail
            refine (refTitle_any ⟨nm, lv, fr, to_, ng⟩ _).mono ?_
            rintro e w5 ⟨rfl, hb5⟩
            rw [HT.out]
            have hb6 := below_two hbr hb5
            clear hb5 c0 c1 c2 c3 c4
            go_wp2_with fail
            go_roundw
            case rel => exact ⟨k + 1, p + 1, by omega, by rw [HST1.out]; exact Nat.le_refl _, HNX.out, HNY.out, by omega, by go_num, by rw [HST1.out]; go_num, by rw [G1.out, G2.out], by go_num, hb6⟩
            case measure => simp [intOf]; omega
        · have G1 := Lib.hid (HWT.out ht)
          have HT := Lib.hid ht
          clear ht HWT HWR
          generalize wd W xs k = d0 at *
          go_wp2_with fail
          refine (refTitle_any ⟨nm, lv, fr, to_, ng⟩ _).mono ?_
          rintro e w5 ⟨rfl, hb5⟩
          rw [HT.out]
          have hb6 := below_two hbr hb5
          clear hb5 c0 c1 c2 c3 c4
          go_wp2_with fail
          go_roundw
          case rel => exact ⟨k + 1, p + 1, by omega, by rw [HST1.out]; exact Nat.le_refl _, HNX.out, HNY.out, by omega, by go_num, by rw [HST1.out]; go_num, by rw [G1.out], by go_num, hb6⟩
          case measure => simp [intOf]; omega
    · have k3 : decide ((p : Int) < (S.length : Int)) = false := by rw [decide_eq_false_iff_not]; omega
      have hkn : k = n' := by
        rcases Nat.lt_or_ge k n' with h | h
        · have h1 := HP2.out h
          have h2 := st_le (W := W) (xs := xs) (k := k + 1)
          rw [HSS.out] at h2
          omega
        · omega
      subst hkn
      rw [HSN.out]
      have q1 : ((k : Int) == (k : Int)) = true := by simp
      have q2 : ((S.length : Int) == (S.length : Int)) = true := by simp
      generalize wd W xs k = d0 at *
      go_wp2_with fail
      go_ret
      exact ⟨rfl, below_two HB13.out hbr⟩
end Go.Proofs.YtenlbjobjnpghaaDoor
