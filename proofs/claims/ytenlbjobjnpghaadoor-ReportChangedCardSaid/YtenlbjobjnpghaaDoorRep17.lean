/-
  The law ReportChanged.
-/
import Derived.Test.YtenlbjobjnpghaaDoorRep15
namespace Go.Proofs.YtenlbjobjnpghaaDoor
open Go.RowKit
set_option linter.unusedVariables false
theorem info_bal : (Tryd.prog.info? 57).map (fun i => (i.zero, i.size, i.bytes)) = some (some (.agg #[.int .i64 0, .int .i64 0]), 2, 16) := by kernel_rfl
theorem bals_one (bs : List SBal) : ∀ u ∈ balsCells bs, u.oneCell' = true := by
  intro u hu
  unfold balsCells at hu
  obtain ⟨b, _, hb⟩ := List.mem_flatMap.1 hu
  unfold balCells at hb
  simp only [List.mem_cons, List.not_mem_nil, or_false] at hb
  rcases hb with rfl | rfl <;> rfl
theorem own_empty (w : World) (T : TypeId) (size : Nat) : (w.alloc (.cells #[] T)).ownsRow w.heap.size T size (.slice (some ⟨w.heap.size, 0, none⟩) 0 0) 0 [] :=
  ⟨by simp, .inr ⟨w.heap.size, 0, #[], rfl, Nat.le_refl _, Blk.new w T #[], Nat.le_refl _, by simp [maxLen], by simp, by simp⟩⟩
theorem bals_append (qs bs : List SBal) : [] ++ balsCells qs ++ balsCells bs = balsCells (qs ++ bs) := by simp [balsCells]
theorem own_two {w : World} {base : Nat} {T : TypeId} {v : Value} {n m : Nat} {qs bs : List SBal} (h : w.ownsRow base T 2 v (0 + n + m) ([] ++ balsCells qs ++ balsCells bs)) : w.ownsRow base T 2 v (n + m) (balsCells (qs ++ bs)) := by
  rw [bals_append, Nat.zero_add] at h; exact h
theorem two_blk {w : World} {g : Nat} {T : TypeId} {a b : Value} (h : Blk w g T #[a, b]) : w.cell? ⟨g, 0, none⟩ = some a ∧ w.cell? ⟨g, 1, none⟩ = some b := ⟨h.cell 0, h.cell 1⟩
theorem chO_len {qs bs : List SBal} {rs : List SRow} {n : Nat} (h : rs.length = n) : (chO qs bs rs).length ≤ n := by
  unfold chO
  split
  · rw [← chUp_all, ← h]; exact chUp_le qs bs rs rs.length
  · simp
theorem chO_self (qs : List SBal) (rs : List SRow) : chO qs qs rs = [] := by unfold chO; rw [chL_self]; split <;> rfl
theorem chO_at {qs bs : List SBal} {rs : List SRow} {k : Nat} (h : k < (chO qs bs rs).length) : (chO qs bs rs).getD k 0 < rs.length ∧ (qs ++ bs).any (inR (rs.getD ((chO qs bs rs).getD k 0) default)) = true := by
  unfold chO at h ⊢
  split at h
  · rename_i hc
    rw [if_pos hc]
    have := chL_at h
    exact ⟨this.1, changed_in this.2⟩
  · simp at h
theorem any_stepB {p : SBal → Bool} {xs : List SBal} {k : Nat} (hk : k < xs.length) : (xs.take (k + 1)).any p = ((xs.take k).any p || p (xs.getD k default)) := by
  rw [List.take_succ_eq_append_getElem hk, List.any_append]
  have e : xs.getD k default = xs[k] := by simp [List.getD, hk]
  rw [e]; simp
theorem nat_getD {l : List Nat} {k : Nat} (h : k < l.length) : (l.map Int.ofNat).getD k 0 = ((l.getD k 0 : Nat) : Int) := by
  simp [List.getD, h]
set_option maxRecDepth 100000 in
set_option maxHeartbeats 16000000 in
theorem lawChanged (qs bs : List SBal) (rs : List SRow) (A1 A2 A' : Option Addr) (n1 c1 n2 c2 n' c' : Nat) (w : World) (hE : Env w) (hr1 : Reads w w.heap.size 2 A1 n1 (balsCells qs)) (hr2 : Reads w w.heap.size 2 A2 n2 (balsCells bs)) (hr' : Reads w w.heap.size 5 A' n' (rowsCells rs)) (hn1 : n1 ≤ 9223372036854775807) (hn2 : n2 ≤ 9223372036854775807) (hn' : n' ≤ 9223372036854775807) (hnc' : n' ≤ c') :
    Calls Tryd.prog 7 #[.slice A1 n1 c1, .slice A2 n2 c2, .slice A' n' c'] w fun e w' => e = .returned (.bool true) ∧ Below w.heap.size w w' := by
  obtain ⟨i0, hi0, hz0, hz1, hz2⟩ := info_parts info_bal
  have HR1 := Lib.hid hr1
  have HR2 := Lib.hid hr2
  have HR' := Lib.hid hr'
  have HL1 := Lib.hid (bals_len hr1)
  have HL2 := Lib.hid (bals_len hr2)
  have HLR := Lib.hid (rows_len hr')
  clear hr1 hr2 hr'
  cases hf : fewL qs rs
  · have HF := Lib.hid hf
    clear hf
    go_enter Tryd.func7, Tryd.ntmps7
    go_wp2_with fail
    refine (awake_true _ hE).mono ?_
    rintro e w1 ⟨rfl, hb1⟩
    go_wp2_with fail
    refine (fewL_any qs rs A1 A' n1 c1 n' c' w.heap.size _ (HR1.out.below hb1) (HR'.out.below hb1) hn1 hn').mono ?_
    rintro e wx ⟨rfl, rfl⟩
    rw [HF.out]
    go_wp2_with fail
    refine (awake_true _ (hE.after hb1)).mono ?_
    rintro e w2 ⟨rfl, hb2⟩
    go_wp2_with fail
    go_ret
    exact ⟨rfl, below_two hb1 hb2⟩
  cases hg : fewL bs []
  · have HF := Lib.hid hf
    have HG := Lib.hid hg
    clear hf hg
    go_enter Tryd.func7, Tryd.ntmps7
    go_wp2_with fail
    refine (awake_true _ hE).mono ?_
    rintro e w1 ⟨rfl, hb1⟩
    go_wp2_with fail
    refine (fewL_any qs rs A1 A' n1 c1 n' c' w.heap.size _ (HR1.out.below hb1) (HR'.out.below hb1) hn1 hn').mono ?_
    rintro e wx ⟨rfl, rfl⟩
    rw [HF.out]
    go_wp2_with fail
    refine (fewL_any bs [] A2 none n2 c2 0 0 w.heap.size _ (HR2.out.below hb1) Reads.none_ hn2 (by omega)).mono ?_
    rintro e wx ⟨rfl, rfl⟩
    rw [HG.out]
    go_wp2_with fail
    refine (awake_true _ (hE.after hb1)).mono ?_
    rintro e w2 ⟨rfl, hb2⟩
    go_wp2_with fail
    go_ret
    exact ⟨rfl, below_two hb1 hb2⟩
  have HF := Lib.hid hf
  have HG := Lib.hid hg
  obtain ⟨hs1, h60, hfb⟩ := fewL_iff.1 hf
  obtain ⟨hs2, h60', _⟩ := fewL_iff.1 hg
  obtain ⟨h1, h2⟩ := fewB_iff.1 hfb
  have HNM : Hid (∀ r ∈ rs, r.name.length ≤ 3000) := fun r hr => by have := h1 r hr; omega
  have hn60 : n1 ≤ 60 := by have := HL1.out; omega
  have hn60' : n2 ≤ 60 := by have := HL2.out; omega
  have hn310 : n' ≤ 310 := by have := HLR.out; omega
  have HS1 := Lib.hid hs1
  have HS2 := Lib.hid hs2
  have HCL := Lib.hid (chO_len (qs := qs) (bs := bs) HLR.out)
  have HSE := Lib.hid (chO_self qs rs)
  have HAT : Hid (∀ k, k < (chO qs bs rs).length → (chO qs bs rs).getD k 0 < rs.length ∧ (qs ++ bs).any (inR (rs.getD ((chO qs bs rs).getD k 0) default)) = true) := fun k hk => chO_at hk
  clear hf hg hfb h1 h2 hs1 hs2 h60 h60'
  go_enter Tryd.func7, Tryd.ntmps7
  go_wp2_with fail
  refine (awake_true _ hE).mono ?_
  rintro e w1 ⟨rfl, hb1⟩
  go_wp2_with fail
  refine (fewL_any qs rs A1 A' n1 c1 n' c' w.heap.size _ (HR1.out.below hb1) (HR'.out.below hb1) hn1 hn').mono ?_
  rintro e wx ⟨rfl, rfl⟩
  rw [HF.out]
  go_wp2_with fail
  refine (fewL_any bs [] A2 none n2 c2 0 0 w.heap.size _ (HR2.out.below hb1) Reads.none_ hn2 (by omega)).mono ?_
  rintro e wx ⟨rfl, rfl⟩
  rw [HG.out]
  have hbA := (hb1.alloc hb1.size (.cells #[.int .i64 0, .slice none 0 0, .slice none 0 0, .slice A1 n1 c1] 33)).alloc (by simp only [World.size_alloc]; have := hb1.size; omega) (.cells #[.int .i64 0, .slice none 0 0, .slice none 0 0, .slice A2 n2 c2] 33)
  have hk1 := (Blk.new w1 33 #[.int .i64 0, .slice none 0 0, .slice none 0 0, .slice A1 n1 c1]).alloc (.cells #[.int .i64 0, .slice none 0 0, .slice none 0 0, .slice A2 n2 c2] 33)
  have hk2 := Blk.new (w1.alloc (.cells #[.int .i64 0, .slice none 0 0, .slice none 0 0, .slice A1 n1 c1] 33)) 33 #[.int .i64 0, .slice none 0 0, .slice none 0 0, .slice A2 n2 c2]
  rw [World.size_alloc] at hk2
  have HK1 := Lib.hid hk1
  have HK2 := Lib.hid hk2
  have HBA := Lib.hid hbA
  clear hk1 hk2 hbA hb1
  go_wp2_with fail
  have HC1 : Hid (∀ w', Below w.heap.size w w' → Calls Tryd.prog 21 #[resV A1 n1 c1, resV A2 n2 c2, .slice A' n' c'] w' (ChSays qs bs rs w')) := fun w' hb => changed_any qs bs rs A1 A2 A' n1 c1 n2 c2 n' c' w.heap.size w' (HR1.out.below hb) (HR2.out.below hb) (HR'.out.below hb) hb.size (by omega) (by omega) HS1.out HS2.out (by omega) hnc' HNM.out
  have HC2 : Hid (∀ w', Below w.heap.size w w' → Calls Tryd.prog 22 #[resV A1 n1 c1, resV A2 n2 c2, .slice A' n' c'] w' (ChSays qs bs rs w')) := fun w' hb => refChanged_any qs bs rs A1 A2 A' n1 c1 n2 c2 n' c' w.heap.size w' (HR1.out.below hb) (HR2.out.below hb) (HR'.out.below hb) hb.size (by omega) (by omega) HS1.out HS2.out (by omega) HNM.out
  have HC3 : Hid (∀ w', Below w.heap.size w w' → Calls Tryd.prog 21 #[resV A1 n1 c1, resV A1 n1 c1, .slice A' n' c'] w' (ChSays qs qs rs w')) := fun w' hb => changed_any qs qs rs A1 A1 A' n1 c1 n1 c1 n' c' w.heap.size w' (HR1.out.below hb) (HR1.out.below hb) (HR'.out.below hb) hb.size (by omega) (by omega) HS1.out HS1.out (by omega) hnc' HNM.out
  unfold resV at HC1 HC2 HC3
  refine (HC1.out _ HBA.out).mono ?_
  rintro e w2 ⟨v, rfl, hown, hb2⟩
  obtain ⟨D1, d1, rfl⟩ := own_slice hown
  have HRA := Lib.hid (Reads.of_own hown)
  have hb12 := below_two HBA.out hb2
  have hq1 := HK1.out.below hb2 (by simp only [World.size_alloc]; omega)
  have hq2 := HK2.out.below hb2 (by simp only [World.size_alloc]; omega)
  obtain ⟨y0, y1, y2, y3⟩ := res_blk hq1
  obtain ⟨u0, u1, u2, u3⟩ := res_blk hq2
  clear hown hb2
  go_wp2_with fail
  refine (HC2.out _ hb12).mono ?_
  rintro e w3 ⟨v, rfl, hown, hb3⟩
  obtain ⟨D2, d2, rfl⟩ := own_slice hown
  have HRB := Lib.hid (Reads.of_own hown)
  have HRA := Lib.hid (HRA.out.below hb3)
  have zz1 := hb3.size
  have hb13 := below_two hb12 hb3
  have hp1 := hq1.below hb3 hq1.lt
  clear y0 y1 y2 y3 u0 u1 u2 u3
  obtain ⟨y0, y1, y2, y3⟩ := res_blk hp1
  clear hown hb3 hb12
  go_wp2_with fail
  refine (HC3.out _ hb13).mono ?_
  rintro e w4 ⟨v, rfl, hown, hb4⟩
  rw [HSE.out] at hown
  obtain ⟨D3, d3, rfl⟩ := own_slice hown
  have HRA := Lib.hid ((HRA.out.more zz1).below hb4)
  have HRB := Lib.hid (HRB.out.below hb4)
  have zz2 := hb4.size
  have hb14 := below_two hb13 hb4
  clear hown hb4 hb13 y0 y1 y2 y3 hq1 hq2 hp1
  generalize chE qs bs rs = E at *
  generalize chE qs qs rs = E2 at *
  have q1 : (E != E) = false := by simp
  have q2 : ((chO qs bs rs).length != (chO qs bs rs).length) = false := by simp
  have HLL := HCL.out
  generalize hCO : chO qs bs rs = O at *
  have q3 : ((O.length : Int) != (O.length : Int)) = false := by simp
  have HCO := Lib.hid hCO
  have HBW := Lib.hid hb14
  clear hCO
  go_wp2_with fail
  go_loopw [75] (fun i wr => ∃ k : Nat, k ≤ O.length ∧ i = .int .i64 k ∧ Below w4.heap.size w4 wr) (fun i _ => O.length - (intOf i).toNat)
  case atStart => exact ⟨0, Nat.zero_le _, rfl, Below.refl _ _⟩
  case round =>
    obtain ⟨k, hk, rfl, hbr⟩ := hrel
    obtain ⟨wo, rfl⟩ : ∃ wo : World, wo = wr := ⟨_, rfl⟩
    by_cases hlt : k < O.length
    · have k3 : decide ((k : Int) < (O.length : Int)) = true := by rw [decide_eq_true_eq]; omega
      have b1 : (k : Int) < (O.length : Int) := by omega
      obtain ⟨hql, hany⟩ := HAT.out k hlt
      obtain ⟨x1, rfl, hx1, g1⟩ := (HRA.out.low zz2 (Nat.le_refl _) hbr).int_at hlt
      obtain ⟨x2, rfl, hx2, g2⟩ := (HRB.out.low zz2 (Nat.le_refl _) hbr).int_at hlt
      rw [nat_getD hlt] at g1 g2
      have HG1 : Hid (∀ w', Below w4.heap.size w4 w' → w'.cell? (x1.add k) = some (.int .i64 ((O.getD k 0 : Nat) : Int))) := by
        show ∀ _, _
        intro w' hb
        obtain ⟨x1', e, _, h⟩ := (HRA.out.low zz2 (Nat.le_refl _) hb).int_at hlt
        injection e with e
        subst e
        rw [nat_getD hlt] at h
        exact h
      have hq3 : ((((O.getD k 0 : Nat) : Int)) != ((O.getD k 0 : Nat) : Int)) = false := by simp
      generalize hQ : O.getD k 0 = Q at *
      have HQ := Lib.hid hQ
      have HANY := Lib.hid hany
      clear hQ hany
      have hqn : Q < n' := by rw [← HLR.out]; exact hql
      have HBR := Lib.hid hbr
      have zz3 := hbr.size
      go_wp2_with fail
      go_quiet (fail)
      have HBR2 : Hid (Below w4.heap.size w4 (wo.drewN nq)) := below_drewN HBR.out nq
      have zz4 : w4.heap.size ≤ (wo.drewN nq).heap.size := zz3
      clear g1 g2 hbr
      generalize wo.drewN nq = wq at *
      have HBW2 := Lib.hid (below_two HBW.out HBR2.out)
      have HBE := Lib.hid (HBR2.out.alloc HBR2.out.size (.cells #[] 57))
      have HBE2 := Lib.hid (below_two HBW.out HBE.out)
      go_wp2_with (first
        | (at_builtin; refine wpList_append_any _ rfl (.tmp 87) (.tmp 88) _ rfl wq.heap.size 57 i0 _ 2 16 Tryd.underlying22 hi0 hz0 hz1 hz2 rfl (by omega) (.slice (some ⟨wq.heap.size, 0, none⟩) 0 0) 0 [] rfl (own_empty wq 57 2) w.heap.size A1 n1 c1 (balsCells qs) rfl (HR1.out.below HBE2.out) (bals_one qs) (by simp only [maxLen]; omega) (by omega) (by simp) ?_; intro v5 w5 hown5 hg5 hat5; have hb5 := (HBE.out).grown hg5 (by simp only [World.size_alloc]; omega) (by intro k hk; simp [Value.ownBlock] at hk; omega))
        | (at_builtin; refine wpList_append_any _ rfl (.tmp 89) (.tmp 90) _ rfl wq.heap.size 57 i0 _ 2 16 Tryd.underlying22 hi0 hz0 hz1 hz2 rfl (by omega) v5 (0 + n1) ([] ++ balsCells qs) rfl hown5 w.heap.size A2 n2 c2 (balsCells bs) rfl (HR2.out.below (below_two HBW.out hb5)) (bals_one bs) (by simp only [maxLen]; omega) (by omega) (by have := hg5.size; simp at this; omega) ?_; intro v6 w6 hown6 hg6 hat6; have hb6 := hb5.grown hg6 (by exact hb5.size) (fun k hk => Nat.le_trans zz4 (own_base hown5 k hk)); have hown7 := own_two hown6; clear hown6; obtain ⟨D6, d6, rfl⟩ := own_slice hown7))
      have HR7 := Lib.hid (Reads.of_own hown7)
      have HB6 := Lib.hid hb6
      have HLQ : Hid ((qs ++ bs).length = n1 + n2) := by show _ = _; rw [List.length_append, HL1.out, HL2.out]
      clear hown5 hg5 hat5 hg6 hat6 hb5 hb6 hown7
      have hrow := HR'.out
      generalize hrr : rs.getD Q default = r at *
      have HRR := Lib.hid hrr
      clear hrr hrow
      go_wp2_with fail
      go_loopw [16, 93] (fun f i wr => ∃ (m : Nat) (b : Bool), m ≤ n1 + n2 ∧ i = .int .i64 m ∧ f = .bool b ∧ ((qs ++ bs).take m).any (inR r) = b ∧ Below w6.heap.size w6 wr) (fun _ i _ => n1 + n2 - (intOf i).toNat)
      case atStart => exact ⟨0, false, Nat.zero_le _, rfl, rfl, rfl, Below.refl _ _⟩
      case round =>
        obtain ⟨m, b, hm, rfl, rfl, hbf, hbi⟩ := hrel
        obtain ⟨wi, rfl⟩ : ∃ wi : World, wi = wr := ⟨_, rfl⟩
        have HBF := Lib.hid hbf
        clear hbf
        have hbiw : Below w4.heap.size w4 wi := HB6.out.trans (hbi.mono (by have := HB6.out.size; omega))
        by_cases hlm : m < n1 + n2
        · have j3 : decide ((m : Int) < (n1 : Int) + (n2 : Int)) = true := by rw [decide_eq_true_eq]; omega
          have j4 : decide ((m : Int) < ((n1 + n2 : Nat) : Int)) = true := by rw [decide_eq_true_eq]; omega
          obtain ⟨x6, rfl, hx6, c0, c1'⟩ := (HR7.out.low (Nat.le_refl _) (Nat.le_refl _) hbi).bal_at hlm
          have HST := Lib.hid (any_stepB (p := inR r) (xs := qs ++ bs) (k := m) (by rw [HLQ.out]; exact hlm))
          rw [HBF.out] at HST
          generalize (qs ++ bs).getD m default = s at *
          obtain ⟨ac, am⟩ := s
          simp only [] at c0 c1'
          have HIN : Hid (inR r ⟨ac, am⟩ = (decide (r.from_ ≤ ac) && decide (ac ≤ r.to_))) := rfl
          have hba : Below w4.heap.size w4 (wi.alloc (.cells #[.int .i64 ac, .int .i64 am] 57)) := hbiw.alloc hbiw.size _
          have HBA2 := Lib.hid (hbi.alloc hbi.size (.cells #[.int .i64 ac, .int .i64 am] 57))
          have g1 := HG1.out _ hba
          obtain ⟨y0, y1⟩ := two_blk (Blk.new wi 57 #[.int .i64 ac, .int .i64 am])
          obtain ⟨xr, er, _, r0, r1, r2, r3, r4⟩ := (HR'.out.below (below_two HBW.out hba)).row_at hqn
          subst er
          rw [HRR.out] at r2 r3
          have b2 : (Q : Int) < (n' : Int) := by omega
          clear r0 r1 r4
          cases b
          · cases d1 : decide (r.from_ ≤ ac)
            · have F : Hid (((qs ++ bs).take (m + 1)).any (inR r) = false) := by show _ = _; rw [HST.out, HIN.out, d1]; rfl
              go_wp2_with fail
              go_quiet (fail)
              go_wp2_with fail
              go_roundw
              case rel => exact ⟨m + 1, _, by omega, by go_num, rfl, F.out, below_drewN HBA2.out nq⟩
              case measure => simp [intOf]; omega
            · cases d2 : decide (ac ≤ r.to_)
              all_goals
                have F : Hid (((qs ++ bs).take (m + 1)).any (inR r) = decide (ac ≤ r.to_)) := by show _ = _; rw [HST.out, HIN.out, d1]; rfl
                rw [d2] at F
                go_wp2_with fail
                go_quiet (fail)
                go_wp2_with fail
                go_roundw
                case rel => exact ⟨m + 1, _, by omega, by go_num, rfl, F.out, below_drewN HBA2.out nq⟩
                case measure => simp [intOf]; omega
          · have F : Hid (((qs ++ bs).take (m + 1)).any (inR r) = true) := by show _ = _; rw [HST.out]; rfl
            go_wp2_with fail
            go_quiet (fail)
            go_wp2_with fail
            go_roundw
            case rel => exact ⟨m + 1, _, by omega, by go_num, rfl, F.out, below_drewN HBA2.out nq⟩
            case measure => simp [intOf]; omega
        · have j3 : decide ((m : Int) < (n1 : Int) + (n2 : Int)) = false := by rw [decide_eq_false_iff_not]; omega
          have j4 : decide ((m : Int) < ((n1 + n2 : Nat) : Int)) = false := by rw [decide_eq_false_iff_not]; omega
          have hbt : b = true := by
            have h1 := HBF.out
            rw [List.take_of_length_le (by rw [HLQ.out]; omega), HANY.out] at h1
            exact h1.symm
          subst hbt
          go_wp2_with fail
          go_roundw
          case rel => exact ⟨k + 1, by omega, by go_num, hbiw⟩
          case measure => simp [intOf]; omega
    · have k3 : decide ((k : Int) < (O.length : Int)) = false := by rw [decide_eq_false_iff_not]; omega
      go_wp2_with fail
      go_ret
      exact ⟨rfl, below_two HBW.out hbr⟩
end Go.Proofs.YtenlbjobjnpghaaDoor
