/-
  decimal.Parse, joined.
-/
import Derived.Test.YtklpeibmjiolhaaDoorDecW15
import Derived.Test.YtklpeibmjiolhaaDoorDecPz2
import Derived.Test.YtklpeibmjiolhaaDoorRng
namespace Go.Proofs.YtklpeibmjiolhaaDoor
open Go.RowKit
set_option linter.unusedVariables false
def fmOf (ng pn : Bool) (wh pt : List UInt8) : Bool := isNum wh && !lead wh && (!pn || isNum pt) && !(ng && zerosB (wh ++ pt))
theorem rep_any (k : Nat) (n : Int) (zs : List UInt8) (w : World) (hk : k ≤ 1000) (hn : n = k) (hz : List.replicate k 48 = zs) : Calls Tryd.prog 44 #[.string ⟨#[48]⟩, .int .i64 n] w fun e w' => e = .returned (.string ⟨zs.toArray⟩) ∧ Below w.heap.size w w' := by
  subst hn
  subst hz
  have h := Tryd.strings_Repeat ⟨#[48]⟩ k w (by omega) (by show 1 * k ≤ _; omega)
  rw [show (⟨#[48]⟩ : ByteArray).data.toList = [48] from rfl, rep_eq] at h
  exact h
set_option maxRecDepth 100000 in
set_option maxHeartbeats 8000000 in
theorem parse_any (l : List UInt8) (sc : Int) (w : World) (hE : Env w) (hl : l.length ≤ 60) :
    Calls Tryd.prog 26 #[.string ⟨l.toArray⟩, .int .i64 sc] w fun e w' => e = .returned (.tuple #[.int .i64 (pzV l sc), .int .i64 (pzE l sc)]) ∧ Below w.heap.size w w' := by
  generalize hPV : pzV l sc = PV
  generalize hPE : pzE l sc = PE
  have HPV := Lib.hid hPV
  have HPE := Lib.hid hPE
  clear hPV hPE
  cases ho : okSc sc
  · have e1 : PE = 1 := by rw [← HPE.out]; unfold pzE; rw [show (decide (0 ≤ sc) && decide (sc ≤ 9)) = false from ho]; rfl
    have e2 : PV = 0 := by rw [← HPV.out]; unfold pzV; rw [HPE.out, if_neg (by omega)]
    have E := Lib.hid (And.intro e1 e2)
    clear e1 e2
    have HO := Lib.hid ho
    clear ho
    go_enter Tryd.func26, Tryd.ntmps26
    go_wp2_with fail
    refine (scale_any _ _).mono ?_
    rintro e wx ⟨rfl, rfl⟩
    rw [HO.out]
    go_wp2_with fail
    go_ret2
    exact ⟨pair_int E.out.2.symm E.out.1.symm, Below.refl _ _⟩
  · obtain ⟨s1, s2⟩ := okSc_iff.1 ho
    have hcl := @cut_lens l
    have hPE' : PE = if fmB l then (if pzB l sc then 0 else 2) else 3 := by rw [← HPE.out]; unfold pzE; rw [show (decide (0 ≤ sc) && decide (sc ≤ 9)) = true from ho]; rfl
    have hPV' : PV = if PE = 0 then (if negB l then -(pzN l sc : Int) else pzN l sc) else 0 := by rw [← HPV.out, ← HPE.out]; rfl
    have hfm : fmB l = fmOf (negB l) (pnB l) (whL l) (ptL l) := rfl
    rw [hfm] at hPE'
    unfold pzB pzN at hPE'
    unfold pzN at hPV'
    have HO := Lib.hid ho
    clear ho hfm HPE HPV
    have hcm := cut_mk l w hE hl
    have HCM := Lib.hid hcm
    clear hcm
    go_enter Tryd.func26, Tryd.ntmps26
    have HP1 := Lib.hid hPE'
    have HP2 := Lib.hid hPV'
    clear hPE' hPV'
    go_wp2_with fail
    refine (scale_any _ _).mono ?_
    rintro e wx ⟨rfl, rfl⟩
    rw [HO.out]
    go_wp2_with fail
    refine (cutPrefix_mk l _).mono ?_
    rintro e wx ⟨rfl, rfl⟩
    go_wp2_with fail
    refine HCM.out.mono ?_
    rintro e w1 ⟨rfl, hb1⟩
    clear HCM
    have hpn := Lib.hid (@cut_pn l)
    generalize whL l = wh at *
    generalize ptL l = pt at *
    generalize pnB l = pn at *
    generalize negB l = ng at *
    have HB1 := Lib.hid hb1
    have hE1 := hE.after hb1
    clear hb1
    generalize hfm : fmOf ng pn wh pt = fm at *
    have FM := Lib.hid hfm
    clear hfm
    have hwl : wh.length ≤ 60 := by omega
    have hpl : pt.length ≤ 60 := by omega
    go_upto_region 5 with (fail)
    go_cut [58] (fun s58 wx => s58 = .bool (!fm) ∧ Below w1.heap.size w1 wx)
    case first =>
      cases c1 : isNum wh
      · have e : fm = false := by rw [← FM.out]; unfold fmOf; rw [c1]; rfl
        subst e
        have C1 := Lib.hid c1
        clear c1
        go_wp2_with fail
        refine (digits_any wh _ (by omega)).mono ?_
        rintro e w2 ⟨rfl, hb2⟩
        rw [C1.out]
        go_wp2_with fail
        go_meet
        exact ⟨rfl, hb2⟩
      · have hlen : 0 < wh.length := by
          cases wh with
          | nil => simp [isNum] at c1
          | cons a b => simp
        have hsz : 0 < (⟨wh.toArray⟩ : ByteArray).size := by rw [mk_size]; exact hlen
        have t48 : (((⟨wh.toArray⟩ : ByteArray)[0].toNat : Int) == 48) = (wh.getD 0 0 == 48) := by
          rw [mk_getD, Bool.eq_iff_iff, beq_iff_eq, beq_iff_eq]
          constructor
          · intro h; exact UInt8.toNat_inj.1 (by rw [show (48 : UInt8).toNat = 48 from rfl]; omega)
          · intro h; rw [h]; rfl
        have C1 := Lib.hid c1
        clear c1
        cases c2 : lead wh
        · have C2 := Lib.hid c2
          by_cases h1 : 1 < wh.length
          · have hd : decide (1 < (wh.length : Int)) = true := by rw [decide_eq_true_eq]; omega
            have h48 : (wh.getD 0 0 == 48) = false := by
              unfold lead at c2
              rw [decide_eq_true h1, Bool.true_and] at c2
              exact c2
            rw [h48] at t48
            clear c2 h48
            cases pn
            · cases ng
              · have e : fm = true := by rw [← FM.out]; unfold fmOf; rw [C1.out, C2.out]; rfl
                subst e
                go_wp2_with fail
                refine (digits_any wh _ (by omega)).mono ?_
                rintro e w2 ⟨rfl, hb2⟩
                rw [C1.out]
                go_wp2_with fail
                go_meet
                exact ⟨rfl, hb2⟩
              · cases c4 : zerosB (wh ++ pt)
                · have e : fm = true := by rw [← FM.out]; unfold fmOf; rw [C1.out, C2.out, c4]; rfl
                  subst e
                  have C4 : (Lib.trimS (wh ++ pt) [48] == []) = false := by rw [beq_eq_false_iff_ne]; intro h; rw [trim_zeros.1 h] at c4; cases c4
                  clear c4
                  go_wp2_with fail
                  refine (digits_any wh _ (by omega)).mono ?_
                  rintro e w2 ⟨rfl, hb2⟩
                  rw [C1.out]
                  go_wp2_with fail
                  rw [cat_mk]
                  refine (trim_any (wh ++ pt) [48] _ (by rw [List.length_append]; omega) (by decide) (by decide)).mono ?_
                  rintro e w4 ⟨rfl, hb4⟩
                  generalize Lib.trimS (wh ++ pt) [48] = tz at *
                  go_wp2_with fail
                  go_meet
                  exact ⟨rfl, below_two hb2 hb4⟩
                · have e : fm = false := by rw [← FM.out]; unfold fmOf; rw [C1.out, C2.out, c4]; rfl
                  subst e
                  have C4 := Lib.hid (trim_zeros.2 c4)
                  clear c4
                  go_wp2_with fail
                  refine (digits_any wh _ (by omega)).mono ?_
                  rintro e w2 ⟨rfl, hb2⟩
                  rw [C1.out]
                  go_wp2_with fail
                  rw [cat_mk]
                  refine (trim_any (wh ++ pt) [48] _ (by rw [List.length_append]; omega) (by decide) (by decide)).mono ?_
                  rintro e w4 ⟨rfl, hb4⟩
                  rw [C4.out]
                  go_wp2_with fail
                  go_meet
                  exact ⟨rfl, below_two hb2 hb4⟩
            · cases c3 : isNum pt
              · have e : fm = false := by rw [← FM.out]; unfold fmOf; rw [C1.out, C2.out, c3]; rfl
                subst e
                have C3 := Lib.hid c3
                clear c3
                go_wp2_with fail
                refine (digits_any wh _ (by omega)).mono ?_
                rintro e w2 ⟨rfl, hb2⟩
                rw [C1.out]
                go_wp2_with fail
                refine (digits_any pt _ (by omega)).mono ?_
                rintro e w3 ⟨rfl, hb3⟩
                rw [C3.out]
                go_wp2_with fail
                go_meet
                exact ⟨rfl, below_two hb2 hb3⟩
              · have C3 := Lib.hid c3
                clear c3
                cases ng
                · have e : fm = true := by rw [← FM.out]; unfold fmOf; rw [C1.out, C2.out, C3.out]; rfl
                  subst e
                  go_wp2_with fail
                  refine (digits_any wh _ (by omega)).mono ?_
                  rintro e w2 ⟨rfl, hb2⟩
                  rw [C1.out]
                  go_wp2_with fail
                  refine (digits_any pt _ (by omega)).mono ?_
                  rintro e w3 ⟨rfl, hb3⟩
                  rw [C3.out]
                  go_wp2_with fail
                  go_meet
                  exact ⟨rfl, below_two hb2 hb3⟩
                · cases c4 : zerosB (wh ++ pt)
                  · have e : fm = true := by rw [← FM.out]; unfold fmOf; rw [C1.out, C2.out, C3.out, c4]; rfl
                    subst e
                    have C4 : (Lib.trimS (wh ++ pt) [48] == []) = false := by rw [beq_eq_false_iff_ne]; intro h; rw [trim_zeros.1 h] at c4; cases c4
                    clear c4
                    go_wp2_with fail
                    refine (digits_any wh _ (by omega)).mono ?_
                    rintro e w2 ⟨rfl, hb2⟩
                    rw [C1.out]
                    go_wp2_with fail
                    refine (digits_any pt _ (by omega)).mono ?_
                    rintro e w3 ⟨rfl, hb3⟩
                    rw [C3.out]
                    go_wp2_with fail
                    rw [cat_mk]
                    refine (trim_any (wh ++ pt) [48] _ (by rw [List.length_append]; omega) (by decide) (by decide)).mono ?_
                    rintro e w4 ⟨rfl, hb4⟩
                    generalize Lib.trimS (wh ++ pt) [48] = tz at *
                    go_wp2_with fail
                    go_meet
                    exact ⟨rfl, below_two (below_two hb2 hb3) hb4⟩
                  · have e : fm = false := by rw [← FM.out]; unfold fmOf; rw [C1.out, C2.out, C3.out, c4]; rfl
                    subst e
                    have C4 := Lib.hid (trim_zeros.2 c4)
                    clear c4
                    go_wp2_with fail
                    refine (digits_any wh _ (by omega)).mono ?_
                    rintro e w2 ⟨rfl, hb2⟩
                    rw [C1.out]
                    go_wp2_with fail
                    refine (digits_any pt _ (by omega)).mono ?_
                    rintro e w3 ⟨rfl, hb3⟩
                    rw [C3.out]
                    go_wp2_with fail
                    rw [cat_mk]
                    refine (trim_any (wh ++ pt) [48] _ (by rw [List.length_append]; omega) (by decide) (by decide)).mono ?_
                    rintro e w4 ⟨rfl, hb4⟩
                    rw [C4.out]
                    go_wp2_with fail
                    go_meet
                    exact ⟨rfl, below_two (below_two hb2 hb3) hb4⟩
          · have hd : decide (1 < (wh.length : Int)) = false := by rw [decide_eq_false_iff_not]; omega
            have hd' : decide (1 < wh.length) = false := by rw [decide_eq_false_iff_not]; omega
            clear c2 t48
            cases pn
            · cases ng
              · have e : fm = true := by rw [← FM.out]; unfold fmOf; rw [C1.out, C2.out]; rfl
                subst e
                go_wp2_with fail
                refine (digits_any wh _ (by omega)).mono ?_
                rintro e w2 ⟨rfl, hb2⟩
                rw [C1.out]
                go_wp2_with fail
                go_meet
                exact ⟨rfl, hb2⟩
              · cases c4 : zerosB (wh ++ pt)
                · have e : fm = true := by rw [← FM.out]; unfold fmOf; rw [C1.out, C2.out, c4]; rfl
                  subst e
                  have C4 : (Lib.trimS (wh ++ pt) [48] == []) = false := by rw [beq_eq_false_iff_ne]; intro h; rw [trim_zeros.1 h] at c4; cases c4
                  clear c4
                  go_wp2_with fail
                  refine (digits_any wh _ (by omega)).mono ?_
                  rintro e w2 ⟨rfl, hb2⟩
                  rw [C1.out]
                  go_wp2_with fail
                  rw [cat_mk]
                  refine (trim_any (wh ++ pt) [48] _ (by rw [List.length_append]; omega) (by decide) (by decide)).mono ?_
                  rintro e w4 ⟨rfl, hb4⟩
                  generalize Lib.trimS (wh ++ pt) [48] = tz at *
                  go_wp2_with fail
                  go_meet
                  exact ⟨rfl, below_two hb2 hb4⟩
                · have e : fm = false := by rw [← FM.out]; unfold fmOf; rw [C1.out, C2.out, c4]; rfl
                  subst e
                  have C4 := Lib.hid (trim_zeros.2 c4)
                  clear c4
                  go_wp2_with fail
                  refine (digits_any wh _ (by omega)).mono ?_
                  rintro e w2 ⟨rfl, hb2⟩
                  rw [C1.out]
                  go_wp2_with fail
                  rw [cat_mk]
                  refine (trim_any (wh ++ pt) [48] _ (by rw [List.length_append]; omega) (by decide) (by decide)).mono ?_
                  rintro e w4 ⟨rfl, hb4⟩
                  rw [C4.out]
                  go_wp2_with fail
                  go_meet
                  exact ⟨rfl, below_two hb2 hb4⟩
            · cases c3 : isNum pt
              · have e : fm = false := by rw [← FM.out]; unfold fmOf; rw [C1.out, C2.out, c3]; rfl
                subst e
                have C3 := Lib.hid c3
                clear c3
                go_wp2_with fail
                refine (digits_any wh _ (by omega)).mono ?_
                rintro e w2 ⟨rfl, hb2⟩
                rw [C1.out]
                go_wp2_with fail
                refine (digits_any pt _ (by omega)).mono ?_
                rintro e w3 ⟨rfl, hb3⟩
                rw [C3.out]
                go_wp2_with fail
                go_meet
                exact ⟨rfl, below_two hb2 hb3⟩
              · have C3 := Lib.hid c3
                clear c3
                cases ng
                · have e : fm = true := by rw [← FM.out]; unfold fmOf; rw [C1.out, C2.out, C3.out]; rfl
                  subst e
                  go_wp2_with fail
                  refine (digits_any wh _ (by omega)).mono ?_
                  rintro e w2 ⟨rfl, hb2⟩
                  rw [C1.out]
                  go_wp2_with fail
                  refine (digits_any pt _ (by omega)).mono ?_
                  rintro e w3 ⟨rfl, hb3⟩
                  rw [C3.out]
                  go_wp2_with fail
                  go_meet
                  exact ⟨rfl, below_two hb2 hb3⟩
                · cases c4 : zerosB (wh ++ pt)
                  · have e : fm = true := by rw [← FM.out]; unfold fmOf; rw [C1.out, C2.out, C3.out, c4]; rfl
                    subst e
                    have C4 : (Lib.trimS (wh ++ pt) [48] == []) = false := by rw [beq_eq_false_iff_ne]; intro h; rw [trim_zeros.1 h] at c4; cases c4
                    clear c4
                    go_wp2_with fail
                    refine (digits_any wh _ (by omega)).mono ?_
                    rintro e w2 ⟨rfl, hb2⟩
                    rw [C1.out]
                    go_wp2_with fail
                    refine (digits_any pt _ (by omega)).mono ?_
                    rintro e w3 ⟨rfl, hb3⟩
                    rw [C3.out]
                    go_wp2_with fail
                    rw [cat_mk]
                    refine (trim_any (wh ++ pt) [48] _ (by rw [List.length_append]; omega) (by decide) (by decide)).mono ?_
                    rintro e w4 ⟨rfl, hb4⟩
                    generalize Lib.trimS (wh ++ pt) [48] = tz at *
                    go_wp2_with fail
                    go_meet
                    exact ⟨rfl, below_two (below_two hb2 hb3) hb4⟩
                  · have e : fm = false := by rw [← FM.out]; unfold fmOf; rw [C1.out, C2.out, C3.out, c4]; rfl
                    subst e
                    have C4 := Lib.hid (trim_zeros.2 c4)
                    clear c4
                    go_wp2_with fail
                    refine (digits_any wh _ (by omega)).mono ?_
                    rintro e w2 ⟨rfl, hb2⟩
                    rw [C1.out]
                    go_wp2_with fail
                    refine (digits_any pt _ (by omega)).mono ?_
                    rintro e w3 ⟨rfl, hb3⟩
                    rw [C3.out]
                    go_wp2_with fail
                    rw [cat_mk]
                    refine (trim_any (wh ++ pt) [48] _ (by rw [List.length_append]; omega) (by decide) (by decide)).mono ?_
                    rintro e w4 ⟨rfl, hb4⟩
                    rw [C4.out]
                    go_wp2_with fail
                    go_meet
                    exact ⟨rfl, below_two (below_two hb2 hb3) hb4⟩
        · have e : fm = false := by rw [← FM.out]; unfold fmOf; rw [C1.out, c2]; rfl
          subst e
          have h1 : 1 < wh.length ∧ (wh.getD 0 0 == 48) = true := by
            unfold lead at c2
            simp only [Bool.and_eq_true, decide_eq_true_eq] at c2
            exact c2
          have hd : decide (1 < (wh.length : Int)) = true := by rw [decide_eq_true_eq]; omega
          have hl1 := h1.1
          rw [h1.2] at t48
          clear c2 h1
          go_wp2_with fail
          refine (digits_any wh _ (by omega)).mono ?_
          rintro e w2 ⟨rfl, hb2⟩
          rw [C1.out]
          go_wp2_with fail
          go_meet
          exact ⟨rfl, hb2⟩
    case rest =>
      obtain ⟨rfl, hbc⟩ := hcut
      have HB := Lib.hid (below_two HB1.out hbc)
      clear hbc HB1
      cases fm
      · have e1 : PE = 3 := by rw [HP1.out]; rfl
        have e2 : PV = 0 := by rw [HP2.out, if_neg (by omega)]
        have E := Lib.hid (And.intro e1 e2)
        clear e1 e2 HP1 HP2
        go_wp2_with fail
        go_ret2
        exact ⟨pair_int E.out.2.symm E.out.1.symm, HB.out⟩
      · by_cases h1 : (pt.length : Int) ≤ sc
        · have d1 : decide (sc < (pt.length : Int)) = false := by rw [decide_eq_false_iff_not]; omega
          by_cases h2 : wh.length ≤ 16
          · have d2 : decide (16 < (wh.length : Int)) = false := by rw [decide_eq_false_iff_not]; omega
            have hfo := FM.out
            unfold fmOf at hfo
            simp only [Bool.and_eq_true] at hfo
            have hdg := all_digs (sc.toNat - pt.length) hfo.1.1.1 hfo.1.2 hpn.out
            clear hfo
            generalize hzs : List.replicate (sc.toNat - pt.length) (48 : UInt8) = zs at *
            have hzl : zs.length ≤ 9 := by rw [← hzs, List.length_replicate]; omega
            have HZS := Lib.hid hzs
            have HDG := Lib.hid hdg
            clear hzs hdg
            go_wp2_with fail
            refine (rep_any (sc.toNat - pt.length) _ zs _ (by omega) (by omega) HZS.out).mono ?_
            rintro e w3 ⟨rfl, hb3⟩
            have HB' := Lib.hid (below_two HB.out hb3)
            clear HB hb3
            go_wp2_with fail
            rw [cat_mk, cat_mk]
            generalize wh ++ pt ++ zs = L at *
            go_loopw [11] (fun c w' => ∃ (pos m : Nat), w' = w3.iter ⟨L.toArray⟩ pos ∧ c = .int .i64 m ∧ pos ≤ L.length ∧ m ≤ 1000000000000001 ∧ satL (L.drop pos) m = satL L 0) (fun _ w' => L.length - w'.iterPos w3.heap.size)
            case atStart => exact ⟨0, 0, rfl, rfl, by omega, by omega, rfl⟩
            case round =>
              obtain ⟨pos, m, rfl, rfl, hle, hm, hs⟩ := hrel
              have HS := Lib.hid hs
              clear hs
              by_cases hlt : pos < L.length
              · obtain ⟨b1, b2⟩ := dig_at HDG.out hlt
                have hnx := next_ascii w3 L pos hlt (by omega)
                have F : Hid (satL (L.drop (pos + 1)) (satN m (L.getD pos 0)) = satL L 0) := by
                  show _ = _
                  rw [← satL_step hlt]; exact HS.out
                have V : Hid (∀ x : Int, x = min (10 * (m : Int) + (((L.getD pos 0).toNat : Int) - 48)) 1000000000000001 → Value.int .i64 x = .int .i64 (satN m (L.getD pos 0) : Nat)) := by
                  show ∀ _, _
                  intro x hx
                  rw [hx]
                  congr 1
                  unfold satN
                  omega
                generalize (L.getD pos 0).toNat = d at *
                go_wp2_with fail
                go_roundw
                case rel => exact ⟨pos + 1, satN m (L.getD pos 0), rfl, V.out _ (by omega), by omega, satN_le _ _, F.out⟩
                case measure => simp; omega
              · have hnx : ∀ ty, (Instr.next (.pointer (some ⟨w3.heap.size, 0, none⟩)) true ty).run Tryd.prog (w3.iter ⟨L.toArray⟩ pos) = _ := fun ty => run_next_end w3 ⟨L.toArray⟩ pos ty (by rw [mk_size]; exact hlt)
                have hv : m = min (decVal L) 1000000000000001 := by
                  rw [← satL_val, ← HS.out, show pos = L.length by omega, List.drop_length]; rfl
                have hB : Below w.heap.size w (w3.iter ⟨L.toArray⟩ pos) := HB'.out.alloc HB'.out.size _
                have HB2 := Lib.hid hB
                clear hB
                generalize hW : w3.iter ⟨L.toArray⟩ pos = wI at *
                clear hW
                cases ng
                · cases hn : okNo (m : Int)
                  · have hn' := hn
                    simp only [okNo, Bool.and_eq_false_iff, decide_eq_false_iff_not] at hn'
                    have hbad : ¬ decVal L ≤ 1000000000000000 := by omega
                    have e1 : PE = 2 := by rw [HP1.out, decide_eq_false hbad]; simp
                    have e2 : PV = 0 := by rw [HP2.out, if_neg (by omega)]
                    have E := Lib.hid (And.intro e1 e2)
                    have HN := Lib.hid hn
                    clear e1 e2 HP1 HP2 hn hn' hbad hv
                    go_wp2_with fail
                    refine (number_any _ _).mono ?_
                    rintro e wx ⟨rfl, rfl⟩
                    rw [HN.out]
                    go_wp2_with fail
                    go_ret2
                    exact ⟨pair_int E.out.2.symm E.out.1.symm, HB2.out⟩
                  · have hn' := hn
                    simp only [okNo, Bool.and_eq_true, decide_eq_true_eq] at hn'
                    have hok : decVal L ≤ 1000000000000000 := by omega
                    have e1 : PE = 0 := by rw [HP1.out, decide_eq_true hok, decide_eq_true h1, decide_eq_true h2]; rfl
                    have e2 : PV = m := by rw [HP2.out, if_pos e1, if_neg (by simp)]; omega
                    have E := Lib.hid (And.intro e1 e2)
                    have HN := Lib.hid hn
                    clear e1 e2 HP1 HP2 hn hn' hok hv
                    go_wp2_with fail
                    refine (number_any _ _).mono ?_
                    rintro e wx ⟨rfl, rfl⟩
                    rw [HN.out]
                    go_wp2_with fail
                    go_ret2
                    exact ⟨pair_int E.out.2.symm E.out.1.symm, HB2.out⟩
                · cases hn : okNo (-(m : Int))
                  · have hn' := hn
                    simp only [okNo, Bool.and_eq_false_iff, decide_eq_false_iff_not] at hn'
                    have hbad : ¬ decVal L ≤ 1000000000000000 := by omega
                    have e1 : PE = 2 := by rw [HP1.out, decide_eq_false hbad]; simp
                    have e2 : PV = 0 := by rw [HP2.out, if_neg (by omega)]
                    have E := Lib.hid (And.intro e1 e2)
                    have HN := Lib.hid hn
                    clear e1 e2 HP1 HP2 hn hn' hbad hv
                    go_wp2_with fail
                    refine (number_any _ _).mono ?_
                    rintro e wx ⟨rfl, rfl⟩
                    rw [HN.out]
                    go_wp2_with fail
                    go_ret2
                    exact ⟨pair_int E.out.2.symm E.out.1.symm, HB2.out⟩
                  · have hn' := hn
                    simp only [okNo, Bool.and_eq_true, decide_eq_true_eq] at hn'
                    have hok : decVal L ≤ 1000000000000000 := by omega
                    have e1 : PE = 0 := by rw [HP1.out, decide_eq_true hok, decide_eq_true h1, decide_eq_true h2]; rfl
                    have e2 : PV = -(m : Int) := by rw [HP2.out, if_pos e1, if_pos rfl]; omega
                    have E := Lib.hid (And.intro e1 e2)
                    have HN := Lib.hid hn
                    clear e1 e2 HP1 HP2 hn hn' hok hv
                    go_wp2_with fail
                    refine (number_any _ _).mono ?_
                    rintro e wx ⟨rfl, rfl⟩
                    rw [HN.out]
                    go_wp2_with fail
                    go_ret2
                    exact ⟨pair_int E.out.2.symm E.out.1.symm, HB2.out⟩
          · have d2 : decide (16 < (wh.length : Int)) = true := by rw [decide_eq_true_eq]; omega
            have e1 : PE = 2 := by rw [HP1.out, decide_eq_false (p := wh.length ≤ 16) h2]; simp
            have e2 : PV = 0 := by rw [HP2.out, if_neg (by omega)]
            have E := Lib.hid (And.intro e1 e2)
            clear e1 e2 HP1 HP2
            go_wp2_with fail
            go_ret2
            exact ⟨pair_int E.out.2.symm E.out.1.symm, HB.out⟩
        · have d1 : decide (sc < (pt.length : Int)) = true := by rw [decide_eq_true_eq]; omega
          have e1 : PE = 2 := by rw [HP1.out, decide_eq_false (p := (pt.length : Int) ≤ sc) h1]; simp
          have e2 : PV = 0 := by rw [HP2.out, if_neg (by omega)]
          have E := Lib.hid (And.intro e1 e2)
          clear e1 e2 HP1 HP2
          go_wp2_with fail
          go_ret2
          exact ⟨pair_int E.out.2.symm E.out.1.symm, HB.out⟩
end Go.Proofs.YtklpeibmjiolhaaDoor
