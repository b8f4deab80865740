/-
  Text of both.
-/
import Derived.Test.YtophffmofpmbpaaDoorCel6
namespace Go.Proofs.YtophffmofpmbpaaDoor
open Go.RowKit
set_option linter.unusedVariables false
theorem text_no {c : SCell} (h : validC c = false) : textC c = [] := by unfold textC; rw [h]; rfl
theorem text_yes {c : SCell} (h : validC c = true) : textC c = nmS c.st ++ numT c.en ++ numT c.ot ++ numT c.pe := by unfold textC; rw [h]; rfl
theorem numT_neg {n : Int} (h : ¬ 0 ≤ n) : numT n = [] := by unfold numT; rw [if_neg h]
theorem numT_pos {n : Int} (h : 0 ≤ n) : numT n = 32 :: Lib.decDigits n.toNat := by unfold numT; rw [if_pos h]
theorem numT_len {n : Int} (h : n ≤ 1000) : (numT n).length ≤ 22 := by
  by_cases h0 : 0 ≤ n
  · rw [numT_pos h0]
    have := dec_len_le (m := n.toNat) (by omega)
    simp; omega
  · rw [numT_neg h0]; simp
theorem run_i0 (en ot pe : Int) (w : World) : (Instr.index 48 (.agg #[.int .i64 en, .int .i64 ot, .int .i64 pe]) (.int .i64 0)).run Tryd.prog w = .ok (.int .i64 en) w := by kernel_rfl
theorem run_i1 (en ot pe : Int) (w : World) : (Instr.index 48 (.agg #[.int .i64 en, .int .i64 ot, .int .i64 pe]) (.int .i64 1)).run Tryd.prog w = .ok (.int .i64 ot) w := by kernel_rfl
theorem run_i2 (en ot pe : Int) (w : World) : (Instr.index 48 (.agg #[.int .i64 en, .int .i64 ot, .int .i64 pe]) (.int .i64 2)).run Tryd.prog w = .ok (.int .i64 pe) w := by kernel_rfl
def three (en ot pe : Int) (k : Nat) : List UInt8 := match k with
  | 0 => []
  | 1 => numT en
  | 2 => numT en ++ numT ot
  | _ => numT en ++ numT ot ++ numT pe
def thV (en ot pe : Int) (k : Nat) : Int := match k with
  | 0 => en
  | 1 => ot
  | _ => pe
theorem run_ik (en ot pe : Int) (k : Nat) (h : k < 3) (w : World) : (Instr.index 48 (.agg #[.int .i64 en, .int .i64 ot, .int .i64 pe]) (.int .i64 (k : Int))).run Tryd.prog w = .ok (.int .i64 (thV en ot pe k)) w := by
  match k, h with
  | 0, _ => exact run_i0 en ot pe w
  | 1, _ => exact run_i1 en ot pe w
  | 2, _ => exact run_i2 en ot pe w
theorem three_step (en ot pe : Int) (k : Nat) (h : k < 3) : three en ot pe (k + 1) = three en ot pe k ++ numT (thV en ot pe k) := by
  match k, h with
  | 0, _ => simp [three, thV]
  | 1, _ => rfl
  | 2, _ => rfl
theorem three_len {en ot pe : Int} (h1 : en ≤ 1000) (h2 : ot ≤ 1000) (h3 : pe ≤ 1000) (k : Nat) : (three en ot pe k).length ≤ 66 := by
  have a := numT_len h1
  have b := numT_len h2
  have c := numT_len h3
  match k with
  | 0 => simp [three]
  | 1 => simp only [three]; omega
  | 2 => simp only [three, List.length_append]; omega
  | k + 3 => simp only [three, List.length_append]; omega
theorem thV_le {en ot pe : Int} (h1 : en ≤ 1000) (h2 : ot ≤ 1000) (h3 : pe ≤ 1000) (k : Nat) : thV en ot pe k ≤ 1000 := by
  match k with
  | 0 => exact h1
  | 1 => exact h2
  | k + 2 => exact h3
set_option maxRecDepth 100000 in
set_option maxHeartbeats 8000000 in
theorem text_any (c : SCell) (w : World) (hE : Env w) : Calls Tryd.prog 12 #[cellV c] w fun e w' => e = .returned (.string ⟨(textC c).toArray⟩) ∧ Below w.heap.size w w' := by
  have HVA : Hid (∀ w, Calls Tryd.prog 10 #[cellV c] w fun e w' => e = .returned (.bool (validC c)) ∧ Below w.heap.size w w') := fun w => valid_any c w
  cases hv : validC c
  · have F := Lib.hid (text_no hv)
    have HV := Lib.hid hv
    clear hv
    obtain ⟨st, en, ot, pe⟩ := c
    unfold cellV at *
    simp only [] at *
    have HB0 := Lib.hid ((Below.refl w.heap.size w).alloc (Nat.le_refl _) (.cells (#[.int .i64 st, .int .i64 en, .int .i64 ot, .int .i64 pe] : Array Value) 23))
    go_enter Tryd.func12, Tryd.ntmps12
    go_wp2_with fail
    refine (HVA.out _).mono ?_
    rintro e w1 ⟨rfl, hb⟩
    rw [HV.out]
    have HB1 := Lib.hid (below_two HB0.out hb)
    clear hb
    go_wp2_with fail
    go_ret
    exact ⟨ret_str F.out.symm, HB1.out⟩
  · have F := Lib.hid (text_yes hv)
    have HV := Lib.hid hv
    have hbd := validC_bd hv
    have hnl := nmS_len c.st
    clear hv
    obtain ⟨st, en, ot, pe⟩ := c
    unfold cellV at *
    simp only [] at *
    have q1 : en ≤ 1000 := by omega
    have q2 : ot ≤ 1000 := by omega
    have q3 : pe ≤ 1000 := by omega
    have HT3 : Hid (∀ k, (three en ot pe k).length ≤ 66) := three_len q1 q2 q3
    have HTV : Hid (∀ k, thV en ot pe k ≤ 1000) := thV_le q1 q2 q3
    have HK := Lib.hid (Blk.new w 23 #[.int .i64 st, .int .i64 en, .int .i64 ot, .int .i64 pe])
    have HB0 := Lib.hid ((Below.refl w.heap.size w).alloc (Nat.le_refl _) (.cells (#[.int .i64 st, .int .i64 en, .int .i64 ot, .int .i64 pe] : Array Value) 23))
    clear hbd
    go_enter Tryd.func12, Tryd.ntmps12
    go_wp2_with fail
    refine (HVA.out _).mono ?_
    rintro e w1 ⟨rfl, hb⟩
    rw [HV.out]
    have HB1 := Lib.hid (below_two HB0.out hb)
    have hk1 := HK.out.below hb (by simp)
    obtain ⟨y0, y1, y2, y3⟩ := st_blk hk1
    clear hb
    go_wp2_with fail
    refine (name_any st _).mono ?_
    rintro e w2 ⟨rfl, hb⟩
    have HB2 := Lib.hid (below_two HB1.out hb)
    clear y0 y1 y2 y3
    obtain ⟨y0, y1, y2, y3⟩ := st_blk (hk1.below hb hk1.lt)
    clear hb hk1
    generalize nmS st = NM at *
    go_wp2_with fail
    go_loopw [3, 19] (fun s i wr => ∃ (k : Nat) (ys : List UInt8), k ≤ 3 ∧ i = .int .i64 k ∧ s = .string ⟨ys.toArray⟩ ∧ ys = NM ++ three en ot pe k ∧ Below w.heap.size w wr) (fun _ i _ => 3 - (intOf i).toNat)
    case atStart => exact ⟨0, NM, by omega, rfl, rfl, by simp [three], HB2.out⟩
    case round =>
      obtain ⟨k, ys, hk, rfl, rfl, hy, hbr⟩ := hrel
      obtain ⟨wo, rfl⟩ : ∃ wo : World, wo = wr := ⟨_, rfl⟩
      have hyl : ys.length ≤ 78 := by rw [hy, List.length_append]; have := HT3.out k; omega
      have HY := Lib.hid hy
      clear hy
      by_cases hlt : k < 3
      · have k3 : decide ((k : Int) < 3) = true := by rw [decide_eq_true_eq]; omega
        have hi := run_ik en ot pe k hlt
        have HST := Lib.hid (three_step en ot pe k hlt)
        have hvl := HTV.out k
        generalize thV en ot pe k = v at *
        by_cases h0 : 0 ≤ v
        · have d0 : decide ((0 : Int) ≤ v) = true := by rw [decide_eq_true_eq]; exact h0
          have hnl2 := numT_len hvl
          have F2 : Hid (ys ++ 32 :: Lib.decDigits v.toNat = NM ++ three en ot pe (k + 1)) := by show _ = _; rw [HST.out, HY.out, numT_pos h0, List.append_assoc]
          have hdl : (Lib.decDigits v.toNat).length ≤ 21 := by rw [numT_pos h0] at hnl2; simp at hnl2; omega
          have HIT := Lib.hid (itoa_nat v v.toNat wo (by omega) (by omega) (hE.after hbr))
          generalize Lib.decDigits v.toNat = D at *
          have n1 : ¬9223372036854775807 < 1 + D.length := by omega
          have n2 : ¬9223372036854775807 < ys.length + (1 + D.length) := by omega
          have n3 : ¬9223372036854775807 < D.length + 1 := by omega
          have n4 : ¬9223372036854775807 < ys.length + (D.length + 1) := by omega
          clear hnl2
          go_wp2_with fail
          refine HIT.out.mono ?_
          rintro e w3 ⟨rfl, hb3⟩
          have HB3 := Lib.hid (below_two hbr hb3)
          clear hb3 hbr
          go_wp2_with fail
          go_roundw
          case rel => exact ⟨k + 1, ys ++ 32 :: D, by omega, by go_num, by first | rfl | (congr 1; done) | (congr 1; apply ByteArray.ext; simp), F2.out, HB3.out⟩
          case measure => simp [intOf]; omega
        · have d0 : decide ((0 : Int) ≤ v) = false := by rw [decide_eq_false_iff_not]; exact h0
          have F2 : Hid (ys = NM ++ three en ot pe (k + 1)) := by show _ = _; rw [HST.out, HY.out, numT_neg h0, List.append_nil]
          go_wp2_with fail
          go_roundw
          case rel => exact ⟨k + 1, ys, by omega, by go_num, rfl, F2.out, hbr⟩
          case measure => simp [intOf]; omega
      · have k3 : decide ((k : Int) < 3) = false := by rw [decide_eq_false_iff_not]; omega
        have F2 : Hid (ys = textC ⟨st, en, ot, pe⟩) := by
          show _ = _
          rw [HY.out, F.out, show k = 3 by omega]
          simp [three]
        go_wp2_with fail
        go_ret
        exact ⟨ret_str F2.out, hbr⟩
set_option maxRecDepth 100000 in
set_option maxHeartbeats 8000000 in
theorem refText_any (c : SCell) (w : World) : Calls Tryd.prog 13 #[cellV c] w fun e w' => e = .returned (.string ⟨(textC c).toArray⟩) ∧ Below w.heap.size w w' := by
  have HVA : Hid (∀ w, Calls Tryd.prog 11 #[cellV c] w fun e w' => e = .returned (.bool (validC c)) ∧ Below w.heap.size w w') := fun w => refValid_any c w
  cases hv : validC c
  · have F := Lib.hid (text_no hv)
    have HV := Lib.hid hv
    clear hv
    obtain ⟨st, en, ot, pe⟩ := c
    unfold cellV at *
    simp only [] at *
    have HB0 := Lib.hid ((Below.refl w.heap.size w).alloc (Nat.le_refl _) (.cells (#[.int .i64 st, .int .i64 en, .int .i64 ot, .int .i64 pe] : Array Value) 23))
    go_enter Tryd.func13, Tryd.ntmps13
    go_wp2_with fail
    refine (HVA.out _).mono ?_
    rintro e w1 ⟨rfl, hb⟩
    rw [HV.out]
    have HB1 := Lib.hid (below_two HB0.out hb)
    clear hb
    go_wp2_with fail
    go_ret
    exact ⟨ret_str F.out.symm, HB1.out⟩
  · have F := Lib.hid (text_yes hv)
    have HV := Lib.hid hv
    have hbd := validC_bd hv
    have hnl := nmS_len c.st
    obtain ⟨_, u1, u2, u3, _⟩ := validC_iff.1 hv
    have U1 := Lib.hid (inB_used u1)
    have U2 := Lib.hid (inB_used u2)
    have U3 := Lib.hid (inB_used u3)
    clear hv u1 u2 u3
    obtain ⟨st, en, ot, pe⟩ := c
    unfold cellV at *
    simp only [] at *
    have HK := Lib.hid (Blk.new w 23 #[.int .i64 st, .int .i64 en, .int .i64 ot, .int .i64 pe])
    have HB0 := Lib.hid ((Below.refl w.heap.size w).alloc (Nat.le_refl _) (.cells (#[.int .i64 st, .int .i64 en, .int .i64 ot, .int .i64 pe] : Array Value) 23))
    cases ga : uE st <;> cases gb : uO st <;> cases gc : uP st
    · skip
      have GA := Lib.hid ga
      have GB := Lib.hid gb
      have GC := Lib.hid gc
      clear ga gb gc
      have h1 : ¬ 0 ≤ en := by have := U1.out; rw [GA.out] at this; exact of_decide_eq_false this.symm
      have N1 : Hid (numT en = []) := numT_neg h1
      have h2 : ¬ 0 ≤ ot := by have := U2.out; rw [GB.out] at this; exact of_decide_eq_false this.symm
      have N2 : Hid (numT ot = []) := numT_neg h2
      have h3 : ¬ 0 ≤ pe := by have := U3.out; rw [GC.out] at this; exact of_decide_eq_false this.symm
      have N3 : Hid (numT pe = []) := numT_neg h3
      go_enter Tryd.func13, Tryd.ntmps13
      go_wp2_with fail
      refine (HVA.out _).mono ?_
      rintro e w1 ⟨rfl, hb⟩
      rw [HV.out]
      have HB1 := Lib.hid (below_two HB0.out hb)
      have hk1 := HK.out.below hb (by simp)
      obtain ⟨y0, y1, y2, y3⟩ := st_blk hk1
      clear hb
      go_wp2_with fail
      refine (refUses_any st _).mono ?_
      rintro e wx ⟨rfl, rfl⟩
      rw [GA.out, GB.out, GC.out]
      go_wp2_with fail
      refine (refName_any st _).mono ?_
      rintro e w2 ⟨rfl, hb⟩
      have HB2 := Lib.hid (below_two HB1.out hb)
      clear y0 y1 y2 y3
      obtain ⟨y0, y1, y2, y3⟩ := st_blk (hk1.below hb hk1.lt)
      clear hb hk1
      generalize nmS st = NM at *
      go_wp2_with fail
      go_ret
      exact ⟨ret_str' (by rw [F.out, N1.out, N2.out, N3.out]; apply ByteArray.ext; simp), HB2.out⟩
    · skip
      have GA := Lib.hid ga
      have GB := Lib.hid gb
      have GC := Lib.hid gc
      clear ga gb gc
      have h1 : ¬ 0 ≤ en := by have := U1.out; rw [GA.out] at this; exact of_decide_eq_false this.symm
      have N1 : Hid (numT en = []) := numT_neg h1
      have h2 : ¬ 0 ≤ ot := by have := U2.out; rw [GB.out] at this; exact of_decide_eq_false this.symm
      have N2 : Hid (numT ot = []) := numT_neg h2
      have h3 : 0 ≤ pe := by have := U3.out; rw [GC.out] at this; exact of_decide_eq_true this.symm
      have N3 : Hid (numT pe = 32 :: Lib.decDigits pe.toNat) := numT_pos h3
      have HC3 : Hid (∀ w, Calls Tryd.prog 33 #[.int .i64 pe] w fun e w' => e = .returned (.string ⟨(Lib.decDigits pe.toNat).toArray⟩) ∧ w = w') := fun w => refNumber_any pe pe.toNat w (by omega) (by omega)
      have hl3 : (Lib.decDigits pe.toNat).length ≤ 21 := dec_len_le (by omega)
      generalize Lib.decDigits pe.toNat = D3 at *
      have m3 : ¬9223372036854775807 < (nmS st).length + 1 := by omega
      have n3 : ¬9223372036854775807 < (nmS st).length + 1 + D3.length := by omega
      go_enter Tryd.func13, Tryd.ntmps13
      go_wp2_with fail
      refine (HVA.out _).mono ?_
      rintro e w1 ⟨rfl, hb⟩
      rw [HV.out]
      have HB1 := Lib.hid (below_two HB0.out hb)
      have hk1 := HK.out.below hb (by simp)
      obtain ⟨y0, y1, y2, y3⟩ := st_blk hk1
      clear hb
      go_wp2_with fail
      refine (refUses_any st _).mono ?_
      rintro e wx ⟨rfl, rfl⟩
      rw [GA.out, GB.out, GC.out]
      go_wp2_with fail
      refine (refName_any st _).mono ?_
      rintro e w2 ⟨rfl, hb⟩
      have HB2 := Lib.hid (below_two HB1.out hb)
      clear y0 y1 y2 y3
      obtain ⟨y0, y1, y2, y3⟩ := st_blk (hk1.below hb hk1.lt)
      clear hb hk1
      generalize nmS st = NM at *
      go_wp2_with fail
      refine (HC3.out _).mono ?_
      rintro e wx ⟨rfl, rfl⟩
      go_wp2_with fail
      go_ret
      exact ⟨ret_str' (by rw [F.out, N1.out, N2.out, N3.out]; apply ByteArray.ext; simp), HB2.out⟩
    · skip
      have GA := Lib.hid ga
      have GB := Lib.hid gb
      have GC := Lib.hid gc
      clear ga gb gc
      have h1 : ¬ 0 ≤ en := by have := U1.out; rw [GA.out] at this; exact of_decide_eq_false this.symm
      have N1 : Hid (numT en = []) := numT_neg h1
      have h2 : 0 ≤ ot := by have := U2.out; rw [GB.out] at this; exact of_decide_eq_true this.symm
      have N2 : Hid (numT ot = 32 :: Lib.decDigits ot.toNat) := numT_pos h2
      have HC2 : Hid (∀ w, Calls Tryd.prog 33 #[.int .i64 ot] w fun e w' => e = .returned (.string ⟨(Lib.decDigits ot.toNat).toArray⟩) ∧ w = w') := fun w => refNumber_any ot ot.toNat w (by omega) (by omega)
      have hl2 : (Lib.decDigits ot.toNat).length ≤ 21 := dec_len_le (by omega)
      generalize Lib.decDigits ot.toNat = D2 at *
      have m2 : ¬9223372036854775807 < (nmS st).length + 1 := by omega
      have n2 : ¬9223372036854775807 < (nmS st).length + 1 + D2.length := by omega
      have h3 : ¬ 0 ≤ pe := by have := U3.out; rw [GC.out] at this; exact of_decide_eq_false this.symm
      have N3 : Hid (numT pe = []) := numT_neg h3
      go_enter Tryd.func13, Tryd.ntmps13
      go_wp2_with fail
      refine (HVA.out _).mono ?_
      rintro e w1 ⟨rfl, hb⟩
      rw [HV.out]
      have HB1 := Lib.hid (below_two HB0.out hb)
      have hk1 := HK.out.below hb (by simp)
      obtain ⟨y0, y1, y2, y3⟩ := st_blk hk1
      clear hb
      go_wp2_with fail
      refine (refUses_any st _).mono ?_
      rintro e wx ⟨rfl, rfl⟩
      rw [GA.out, GB.out, GC.out]
      go_wp2_with fail
      refine (refName_any st _).mono ?_
      rintro e w2 ⟨rfl, hb⟩
      have HB2 := Lib.hid (below_two HB1.out hb)
      clear y0 y1 y2 y3
      obtain ⟨y0, y1, y2, y3⟩ := st_blk (hk1.below hb hk1.lt)
      clear hb hk1
      generalize nmS st = NM at *
      go_wp2_with fail
      refine (HC2.out _).mono ?_
      rintro e wx ⟨rfl, rfl⟩
      go_wp2_with fail
      go_ret
      exact ⟨ret_str' (by rw [F.out, N1.out, N2.out, N3.out]; apply ByteArray.ext; simp), HB2.out⟩
    · skip
      have GA := Lib.hid ga
      have GB := Lib.hid gb
      have GC := Lib.hid gc
      clear ga gb gc
      have h1 : ¬ 0 ≤ en := by have := U1.out; rw [GA.out] at this; exact of_decide_eq_false this.symm
      have N1 : Hid (numT en = []) := numT_neg h1
      have h2 : 0 ≤ ot := by have := U2.out; rw [GB.out] at this; exact of_decide_eq_true this.symm
      have N2 : Hid (numT ot = 32 :: Lib.decDigits ot.toNat) := numT_pos h2
      have HC2 : Hid (∀ w, Calls Tryd.prog 33 #[.int .i64 ot] w fun e w' => e = .returned (.string ⟨(Lib.decDigits ot.toNat).toArray⟩) ∧ w = w') := fun w => refNumber_any ot ot.toNat w (by omega) (by omega)
      have hl2 : (Lib.decDigits ot.toNat).length ≤ 21 := dec_len_le (by omega)
      generalize Lib.decDigits ot.toNat = D2 at *
      have m2 : ¬9223372036854775807 < (nmS st).length + 1 := by omega
      have n2 : ¬9223372036854775807 < (nmS st).length + 1 + D2.length := by omega
      have h3 : 0 ≤ pe := by have := U3.out; rw [GC.out] at this; exact of_decide_eq_true this.symm
      have N3 : Hid (numT pe = 32 :: Lib.decDigits pe.toNat) := numT_pos h3
      have HC3 : Hid (∀ w, Calls Tryd.prog 33 #[.int .i64 pe] w fun e w' => e = .returned (.string ⟨(Lib.decDigits pe.toNat).toArray⟩) ∧ w = w') := fun w => refNumber_any pe pe.toNat w (by omega) (by omega)
      have hl3 : (Lib.decDigits pe.toNat).length ≤ 21 := dec_len_le (by omega)
      generalize Lib.decDigits pe.toNat = D3 at *
      have m3 : ¬9223372036854775807 < (nmS st).length + 1 + D2.length + 1 := by omega
      have n3 : ¬9223372036854775807 < (nmS st).length + 1 + D2.length + 1 + D3.length := by omega
      go_enter Tryd.func13, Tryd.ntmps13
      go_wp2_with fail
      refine (HVA.out _).mono ?_
      rintro e w1 ⟨rfl, hb⟩
      rw [HV.out]
      have HB1 := Lib.hid (below_two HB0.out hb)
      have hk1 := HK.out.below hb (by simp)
      obtain ⟨y0, y1, y2, y3⟩ := st_blk hk1
      clear hb
      go_wp2_with fail
      refine (refUses_any st _).mono ?_
      rintro e wx ⟨rfl, rfl⟩
      rw [GA.out, GB.out, GC.out]
      go_wp2_with fail
      refine (refName_any st _).mono ?_
      rintro e w2 ⟨rfl, hb⟩
      have HB2 := Lib.hid (below_two HB1.out hb)
      clear y0 y1 y2 y3
      obtain ⟨y0, y1, y2, y3⟩ := st_blk (hk1.below hb hk1.lt)
      clear hb hk1
      generalize nmS st = NM at *
      go_wp2_with fail
      refine (HC2.out _).mono ?_
      rintro e wx ⟨rfl, rfl⟩
      go_wp2_with fail
      refine (HC3.out _).mono ?_
      rintro e wx ⟨rfl, rfl⟩
      go_wp2_with fail
      go_ret
      exact ⟨ret_str' (by rw [F.out, N1.out, N2.out, N3.out]; apply ByteArray.ext; simp), HB2.out⟩
    · skip
      have GA := Lib.hid ga
      have GB := Lib.hid gb
      have GC := Lib.hid gc
      clear ga gb gc
      have h1 : 0 ≤ en := by have := U1.out; rw [GA.out] at this; exact of_decide_eq_true this.symm
      have N1 : Hid (numT en = 32 :: Lib.decDigits en.toNat) := numT_pos h1
      have HC1 : Hid (∀ w, Calls Tryd.prog 33 #[.int .i64 en] w fun e w' => e = .returned (.string ⟨(Lib.decDigits en.toNat).toArray⟩) ∧ w = w') := fun w => refNumber_any en en.toNat w (by omega) (by omega)
      have hl1 : (Lib.decDigits en.toNat).length ≤ 21 := dec_len_le (by omega)
      generalize Lib.decDigits en.toNat = D1 at *
      have m1 : ¬9223372036854775807 < (nmS st).length + 1 := by omega
      have n1 : ¬9223372036854775807 < (nmS st).length + 1 + D1.length := by omega
      have h2 : ¬ 0 ≤ ot := by have := U2.out; rw [GB.out] at this; exact of_decide_eq_false this.symm
      have N2 : Hid (numT ot = []) := numT_neg h2
      have h3 : ¬ 0 ≤ pe := by have := U3.out; rw [GC.out] at this; exact of_decide_eq_false this.symm
      have N3 : Hid (numT pe = []) := numT_neg h3
      go_enter Tryd.func13, Tryd.ntmps13
      go_wp2_with fail
      refine (HVA.out _).mono ?_
      rintro e w1 ⟨rfl, hb⟩
      rw [HV.out]
      have HB1 := Lib.hid (below_two HB0.out hb)
      have hk1 := HK.out.below hb (by simp)
      obtain ⟨y0, y1, y2, y3⟩ := st_blk hk1
      clear hb
      go_wp2_with fail
      refine (refUses_any st _).mono ?_
      rintro e wx ⟨rfl, rfl⟩
      rw [GA.out, GB.out, GC.out]
      go_wp2_with fail
      refine (refName_any st _).mono ?_
      rintro e w2 ⟨rfl, hb⟩
      have HB2 := Lib.hid (below_two HB1.out hb)
      clear y0 y1 y2 y3
      obtain ⟨y0, y1, y2, y3⟩ := st_blk (hk1.below hb hk1.lt)
      clear hb hk1
      generalize nmS st = NM at *
      go_wp2_with fail
      refine (HC1.out _).mono ?_
      rintro e wx ⟨rfl, rfl⟩
      go_wp2_with fail
      go_ret
      exact ⟨ret_str' (by rw [F.out, N1.out, N2.out, N3.out]; apply ByteArray.ext; simp), HB2.out⟩
    · skip
      have GA := Lib.hid ga
      have GB := Lib.hid gb
      have GC := Lib.hid gc
      clear ga gb gc
      have h1 : 0 ≤ en := by have := U1.out; rw [GA.out] at this; exact of_decide_eq_true this.symm
      have N1 : Hid (numT en = 32 :: Lib.decDigits en.toNat) := numT_pos h1
      have HC1 : Hid (∀ w, Calls Tryd.prog 33 #[.int .i64 en] w fun e w' => e = .returned (.string ⟨(Lib.decDigits en.toNat).toArray⟩) ∧ w = w') := fun w => refNumber_any en en.toNat w (by omega) (by omega)
      have hl1 : (Lib.decDigits en.toNat).length ≤ 21 := dec_len_le (by omega)
      generalize Lib.decDigits en.toNat = D1 at *
      have m1 : ¬9223372036854775807 < (nmS st).length + 1 := by omega
      have n1 : ¬9223372036854775807 < (nmS st).length + 1 + D1.length := by omega
      have h2 : ¬ 0 ≤ ot := by have := U2.out; rw [GB.out] at this; exact of_decide_eq_false this.symm
      have N2 : Hid (numT ot = []) := numT_neg h2
      have h3 : 0 ≤ pe := by have := U3.out; rw [GC.out] at this; exact of_decide_eq_true this.symm
      have N3 : Hid (numT pe = 32 :: Lib.decDigits pe.toNat) := numT_pos h3
      have HC3 : Hid (∀ w, Calls Tryd.prog 33 #[.int .i64 pe] w fun e w' => e = .returned (.string ⟨(Lib.decDigits pe.toNat).toArray⟩) ∧ w = w') := fun w => refNumber_any pe pe.toNat w (by omega) (by omega)
      have hl3 : (Lib.decDigits pe.toNat).length ≤ 21 := dec_len_le (by omega)
      generalize Lib.decDigits pe.toNat = D3 at *
      have m3 : ¬9223372036854775807 < (nmS st).length + 1 + D1.length + 1 := by omega
      have n3 : ¬9223372036854775807 < (nmS st).length + 1 + D1.length + 1 + D3.length := by omega
      go_enter Tryd.func13, Tryd.ntmps13
      go_wp2_with fail
      refine (HVA.out _).mono ?_
      rintro e w1 ⟨rfl, hb⟩
      rw [HV.out]
      have HB1 := Lib.hid (below_two HB0.out hb)
      have hk1 := HK.out.below hb (by simp)
      obtain ⟨y0, y1, y2, y3⟩ := st_blk hk1
      clear hb
      go_wp2_with fail
      refine (refUses_any st _).mono ?_
      rintro e wx ⟨rfl, rfl⟩
      rw [GA.out, GB.out, GC.out]
      go_wp2_with fail
      refine (refName_any st _).mono ?_
      rintro e w2 ⟨rfl, hb⟩
      have HB2 := Lib.hid (below_two HB1.out hb)
      clear y0 y1 y2 y3
      obtain ⟨y0, y1, y2, y3⟩ := st_blk (hk1.below hb hk1.lt)
      clear hb hk1
      generalize nmS st = NM at *
      go_wp2_with fail
      refine (HC1.out _).mono ?_
      rintro e wx ⟨rfl, rfl⟩
      go_wp2_with fail
      refine (HC3.out _).mono ?_
      rintro e wx ⟨rfl, rfl⟩
      go_wp2_with fail
      go_ret
      exact ⟨ret_str' (by rw [F.out, N1.out, N2.out, N3.out]; apply ByteArray.ext; simp), HB2.out⟩
    · skip
      have GA := Lib.hid ga
      have GB := Lib.hid gb
      have GC := Lib.hid gc
      clear ga gb gc
      have h1 : 0 ≤ en := by have := U1.out; rw [GA.out] at this; exact of_decide_eq_true this.symm
      have N1 : Hid (numT en = 32 :: Lib.decDigits en.toNat) := numT_pos h1
      have HC1 : Hid (∀ w, Calls Tryd.prog 33 #[.int .i64 en] w fun e w' => e = .returned (.string ⟨(Lib.decDigits en.toNat).toArray⟩) ∧ w = w') := fun w => refNumber_any en en.toNat w (by omega) (by omega)
      have hl1 : (Lib.decDigits en.toNat).length ≤ 21 := dec_len_le (by omega)
      generalize Lib.decDigits en.toNat = D1 at *
      have m1 : ¬9223372036854775807 < (nmS st).length + 1 := by omega
      have n1 : ¬9223372036854775807 < (nmS st).length + 1 + D1.length := by omega
      have h2 : 0 ≤ ot := by have := U2.out; rw [GB.out] at this; exact of_decide_eq_true this.symm
      have N2 : Hid (numT ot = 32 :: Lib.decDigits ot.toNat) := numT_pos h2
      have HC2 : Hid (∀ w, Calls Tryd.prog 33 #[.int .i64 ot] w fun e w' => e = .returned (.string ⟨(Lib.decDigits ot.toNat).toArray⟩) ∧ w = w') := fun w => refNumber_any ot ot.toNat w (by omega) (by omega)
      have hl2 : (Lib.decDigits ot.toNat).length ≤ 21 := dec_len_le (by omega)
      generalize Lib.decDigits ot.toNat = D2 at *
      have m2 : ¬9223372036854775807 < (nmS st).length + 1 + D1.length + 1 := by omega
      have n2 : ¬9223372036854775807 < (nmS st).length + 1 + D1.length + 1 + D2.length := by omega
      have h3 : ¬ 0 ≤ pe := by have := U3.out; rw [GC.out] at this; exact of_decide_eq_false this.symm
      have N3 : Hid (numT pe = []) := numT_neg h3
      go_enter Tryd.func13, Tryd.ntmps13
      go_wp2_with fail
      refine (HVA.out _).mono ?_
      rintro e w1 ⟨rfl, hb⟩
      rw [HV.out]
      have HB1 := Lib.hid (below_two HB0.out hb)
      have hk1 := HK.out.below hb (by simp)
      obtain ⟨y0, y1, y2, y3⟩ := st_blk hk1
      clear hb
      go_wp2_with fail
      refine (refUses_any st _).mono ?_
      rintro e wx ⟨rfl, rfl⟩
      rw [GA.out, GB.out, GC.out]
      go_wp2_with fail
      refine (refName_any st _).mono ?_
      rintro e w2 ⟨rfl, hb⟩
      have HB2 := Lib.hid (below_two HB1.out hb)
      clear y0 y1 y2 y3
      obtain ⟨y0, y1, y2, y3⟩ := st_blk (hk1.below hb hk1.lt)
      clear hb hk1
      generalize nmS st = NM at *
      go_wp2_with fail
      refine (HC1.out _).mono ?_
      rintro e wx ⟨rfl, rfl⟩
      go_wp2_with fail
      refine (HC2.out _).mono ?_
      rintro e wx ⟨rfl, rfl⟩
      go_wp2_with fail
      go_ret
      exact ⟨ret_str' (by rw [F.out, N1.out, N2.out, N3.out]; apply ByteArray.ext; simp), HB2.out⟩
    · skip
      have GA := Lib.hid ga
      have GB := Lib.hid gb
      have GC := Lib.hid gc
      clear ga gb gc
      have h1 : 0 ≤ en := by have := U1.out; rw [GA.out] at this; exact of_decide_eq_true this.symm
      have N1 : Hid (numT en = 32 :: Lib.decDigits en.toNat) := numT_pos h1
      have HC1 : Hid (∀ w, Calls Tryd.prog 33 #[.int .i64 en] w fun e w' => e = .returned (.string ⟨(Lib.decDigits en.toNat).toArray⟩) ∧ w = w') := fun w => refNumber_any en en.toNat w (by omega) (by omega)
      have hl1 : (Lib.decDigits en.toNat).length ≤ 21 := dec_len_le (by omega)
      generalize Lib.decDigits en.toNat = D1 at *
      have m1 : ¬9223372036854775807 < (nmS st).length + 1 := by omega
      have n1 : ¬9223372036854775807 < (nmS st).length + 1 + D1.length := by omega
      have h2 : 0 ≤ ot := by have := U2.out; rw [GB.out] at this; exact of_decide_eq_true this.symm
      have N2 : Hid (numT ot = 32 :: Lib.decDigits ot.toNat) := numT_pos h2
      have HC2 : Hid (∀ w, Calls Tryd.prog 33 #[.int .i64 ot] w fun e w' => e = .returned (.string ⟨(Lib.decDigits ot.toNat).toArray⟩) ∧ w = w') := fun w => refNumber_any ot ot.toNat w (by omega) (by omega)
      have hl2 : (Lib.decDigits ot.toNat).length ≤ 21 := dec_len_le (by omega)
      generalize Lib.decDigits ot.toNat = D2 at *
      have m2 : ¬9223372036854775807 < (nmS st).length + 1 + D1.length + 1 := by omega
      have n2 : ¬9223372036854775807 < (nmS st).length + 1 + D1.length + 1 + D2.length := by omega
      have h3 : 0 ≤ pe := by have := U3.out; rw [GC.out] at this; exact of_decide_eq_true this.symm
      have N3 : Hid (numT pe = 32 :: Lib.decDigits pe.toNat) := numT_pos h3
      have HC3 : Hid (∀ w, Calls Tryd.prog 33 #[.int .i64 pe] w fun e w' => e = .returned (.string ⟨(Lib.decDigits pe.toNat).toArray⟩) ∧ w = w') := fun w => refNumber_any pe pe.toNat w (by omega) (by omega)
      have hl3 : (Lib.decDigits pe.toNat).length ≤ 21 := dec_len_le (by omega)
      generalize Lib.decDigits pe.toNat = D3 at *
      have m3 : ¬9223372036854775807 < (nmS st).length + 1 + D1.length + 1 + D2.length + 1 := by omega
      have n3 : ¬9223372036854775807 < (nmS st).length + 1 + D1.length + 1 + D2.length + 1 + D3.length := by omega
      go_enter Tryd.func13, Tryd.ntmps13
      go_wp2_with fail
      refine (HVA.out _).mono ?_
      rintro e w1 ⟨rfl, hb⟩
      rw [HV.out]
      have HB1 := Lib.hid (below_two HB0.out hb)
      have hk1 := HK.out.below hb (by simp)
      obtain ⟨y0, y1, y2, y3⟩ := st_blk hk1
      clear hb
      go_wp2_with fail
      refine (refUses_any st _).mono ?_
      rintro e wx ⟨rfl, rfl⟩
      rw [GA.out, GB.out, GC.out]
      go_wp2_with fail
      refine (refName_any st _).mono ?_
      rintro e w2 ⟨rfl, hb⟩
      have HB2 := Lib.hid (below_two HB1.out hb)
      clear y0 y1 y2 y3
      obtain ⟨y0, y1, y2, y3⟩ := st_blk (hk1.below hb hk1.lt)
      clear hb hk1
      generalize nmS st = NM at *
      go_wp2_with fail
      refine (HC1.out _).mono ?_
      rintro e wx ⟨rfl, rfl⟩
      go_wp2_with fail
      refine (HC2.out _).mono ?_
      rintro e wx ⟨rfl, rfl⟩
      go_wp2_with fail
      refine (HC3.out _).mono ?_
      rintro e wx ⟨rfl, rfl⟩
      go_wp2_with fail
      go_ret
      exact ⟨ret_str' (by rw [F.out, N1.out, N2.out, N3.out]; apply ByteArray.ext; simp), HB2.out⟩
end Go.Proofs.YtophffmofpmbpaaDoor
