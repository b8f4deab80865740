/-
  The reference's split.
-/
import Derived.Test.YtfnlddloalineaaGreatDoorQryW6
namespace Go.Proofs.YtfnlddloalineaaGreatDoor
open Go.RowKit
set_option linter.unusedVariables false
theorem info_word : (Tryz.prog.info? 89).map (fun i => (i.zero, i.size, i.bytes)) = some (some (.agg #[.int .i64 0, .string ⟨#[]⟩]), 2, 24) := by kernel_rfl
theorem word_one (a : Int) (x : ByteArray) : ∀ u ∈ ([.int .i64 a, .string x] : List Value), u.oneCell' = true := by
  intro u hu
  simp only [List.mem_cons, List.not_mem_nil, or_false] at hu
  rcases hu with rfl | rfl <;> rfl
/-- words with their places, one after another -/
def wcells : Nat → List (List UInt8) → List Value
  | _, [] => []
  | b, x :: r => .int .i64 (b : Int) :: strV x :: wcells (b + (x.length + 1)) r
theorem wcells_app (b : Nat) (ws : List (List UInt8)) (x : List UInt8) : wcells b (ws ++ [x]) = wcells b ws ++ [.int .i64 ((b + plSum ws : Nat) : Int), .string ⟨x.toArray⟩] := by
  induction ws generalizing b with
  | nil => rfl
  | cons y r ih =>
    simp only [List.cons_append, wcells, plSum, ih]
    rw [show b + (y.length + 1) + plSum r = b + (y.length + 1 + plSum r) by omega]
theorem plSum_app (ws : List (List UInt8)) (x : List UInt8) : plSum (ws ++ [x]) = plSum ws + (x.length + 1) := by
  induction ws with
  | nil => simp [plSum]
  | cons y r ih => simp only [List.cons_append, plSum, ih]; omega
theorem drop_at {l : List UInt8} {f k : Nat} (hf : f ≤ k) (hk : k < l.length) : l.drop f = (l.drop f).take (k - f) ++ l.getD k 0 :: l.drop (k + 1) := by
  conv => lhs; rw [← List.take_append_drop (k - f) (l.drop f)]
  congr 1
  rw [List.drop_drop, show f + (k - f) = k by omega, List.drop_eq_getElem_cons hk, List.getD_eq_getElem?_getD, List.getElem?_eq_getElem hk]
  rfl
theorem take_step {l : List UInt8} {f k : Nat} (hf : f ≤ k) (hk : k < l.length) : (l.drop f).take (k + 1 - f) = (l.drop f).take (k - f) ++ [l.getD k 0] := by
  rw [show k + 1 - f = (k - f) + 1 by omega, List.take_succ_eq_append_getElem (by rw [List.length_drop]; omega)]
  congr 2
  rw [List.getElem_drop, List.getD_eq_getElem?_getD, List.getElem?_eq_getElem hk]
  have : f + (k - f) = k := by omega
  simp [this]
def WdI (c : UInt8) (l : List UInt8) (f k : Nat) (done : List (List UInt8)) : Prop :=
  (k ≤ l.length ∧ f ≤ k ∧ f = plSum done ∧ piecesL c l = done ++ piecesL c (l.drop f) ∧ c ∉ (l.drop f).take (k - f)) ∨ (k = l.length + 1 ∧ plSum done = k ∧ piecesL c l = done)
theorem wd_sep {c : UInt8} {l : List UInt8} {f k : Nat} {done : List (List UInt8)} (h : WdI c l f k done) (hk : k < l.length) (hb : l.getD k 0 = c) : WdI c l (k + 1) (k + 1) (done ++ [(l.take k).drop f]) := by
  rcases h with ⟨h1, h2, h3, h4, h5⟩ | ⟨h1, _⟩
  · refine .inl ⟨by omega, by omega, by rw [plSum_app]; simp only [List.length_drop, List.length_take]; omega, ?_, by simp⟩
    rw [h4, drop_at h2 hk, hb, piecesL_at h5, List.append_assoc]
    congr 1
    rw [List.drop_take]
    rfl
  · omega
theorem wd_go {c : UInt8} {l : List UInt8} {f k : Nat} {done : List (List UInt8)} (h : WdI c l f k done) (hk : k < l.length) (hb : l.getD k 0 ≠ c) : WdI c l f (k + 1) done := by
  rcases h with ⟨h1, h2, h3, h4, h5⟩ | ⟨h1, _⟩
  · refine .inl ⟨by omega, by omega, by omega, h4, ?_⟩
    rw [take_step h2 hk, List.mem_append, List.mem_singleton]
    rintro (h | h)
    · exact h5 h
    · exact hb h.symm
  · omega
theorem wd_end {c : UInt8} {l : List UInt8} {f : Nat} {done : List (List UInt8)} (h : WdI c l f l.length done) : WdI c l (l.length + 1) (l.length + 1) (done ++ [(l.take l.length).drop f]) := by
  rcases h with ⟨h1, h2, h3, h4, h5⟩ | ⟨h1, _⟩
  · refine .inr ⟨rfl, by rw [plSum_app]; simp only [List.length_drop, List.length_take]; omega, ?_⟩
    have e : (l.drop f).take (l.length - f) = l.drop f := List.take_of_length_le (by rw [List.length_drop]; omega)
    rw [e] at h5
    rw [h4, piecesL_no h5, List.take_length]
  · omega
set_option maxRecDepth 100000 in
set_option maxHeartbeats 4000000 in
theorem refSplit_any (c : UInt8) (l : List UInt8) (w : World) (hl : l.length ≤ 1000) : Calls Tryz.prog 35 #[.string ⟨l.toArray⟩, .int .u8 (c.toNat : Int)] w fun e w' => ∃ v, e = .returned v ∧ w'.ownsRow w.heap.size 89 2 v (piecesL c l).length (wcells 0 (piecesL c l)) ∧ Below w.heap.size w w' := by
  obtain ⟨i0, hi0, hz0, hz1, hz2⟩ := info_parts info_word
  go_enter Tryz.func35, Tryz.ntmps35
  go_wp2_with fail
  go_loopw [5, 6, 7] (fun v f i wr => ∃ (done : List (List UInt8)) (fr k : Nat), f = .int .i64 fr ∧ i = .int .i64 k ∧ wr.ownsRow w.heap.size 89 2 v done.length (wcells 0 done) ∧ Below w.heap.size w wr ∧ WdI c l fr k done) (fun _ _ i _ => l.length + 1 - (intOf i).toNat)
  case atStart => exact ⟨[], 0, 0, rfl, rfl, World.ownsRow_nil _ _ _ _, Below.refl _ _, .inl ⟨by omega, by omega, rfl, by simp, by simp⟩⟩
  case round =>
    obtain ⟨done, fr, k, rfl, rfl, hown, hbr, hw⟩ := hrel
    obtain ⟨wo, rfl⟩ : ∃ wo : World, wo = wr := ⟨_, rfl⟩
    have HO := Lib.hid hown
    have HBR := Lib.hid hbr
    have HW := Lib.hid hw
    have hdl : done.length ≤ 1001 ∧ k ≤ l.length + 1 := by
      have := plSum_len done
      rcases hw with ⟨h1, h2, h3, _⟩ | ⟨h1, h3, _⟩ <;> omega
    have hd1 := hdl.1
    have hd2 := hdl.2
    clear hown hbr hdl
    by_cases hlt : k < l.length
    · have hfk : fr ≤ k := by rcases hw with ⟨_, h2, _⟩ | ⟨h1, _⟩ <;> omega
      have hli : decide ((k : Int) ≤ (l.length : Int)) = true := by rw [decide_eq_true_eq]; omega
      have hle : decide (k ≤ l.length) = true := by rw [decide_eq_true_eq]; omega
      have q1 : ((k : Int) == (l.length : Int)) = false := by rw [beq_eq_false_iff_ne]; omega
      have q2 : (k == l.length) = false := by rw [beq_eq_false_iff_ne]; omega
      have b1 : (k : Int) < (l.length : Int) := by omega
      have b2 : (fr : Int) ≤ (k : Int) := by omega
      have b3 : (k : Int) ≤ (l.length : Int) := by omega
      have hsz : k < (⟨l.toArray⟩ : ByteArray).size := by rw [mk_size]; exact hlt
      have hg : (((⟨l.toArray⟩ : ByteArray)[k].toNat : Int) == (c.toNat : Int)) = (l.getD k 0 == c) := by rw [mk_getD]; exact byteEqQ _ c
      have hex := ex_mk l fr k
      clear hw
      cases hb : (l.getD k 0 == c)
      · have F := Lib.hid (wd_go HW.out hlt (by rw [beq_eq_false_iff_ne] at hb; exact hb))
        rw [hb] at hg
        clear hb HW
        go_wp2_with fail
        go_roundw
        case rel => exact ⟨done, fr, k + 1, rfl, by go_num, HO.out, HBR.out, F.out⟩
        case measure => simp [intOf] <;> omega
      · have HFR : Hid (fr = plSum done) := by show _ = _; rcases HW.out with ⟨_, _, h3, _⟩ | ⟨h1, _⟩ <;> omega
        have F := Lib.hid (wd_sep HW.out hlt (by rw [beq_iff_eq] at hb; exact hb))
        rw [hb] at hg
        clear hb HW
        generalize (l.take k).drop fr = piece at *
        go_wp2_with (at_builtin; refine wpList_append_any _ rfl (.tmp 25) (.tmp 32) _ rfl w.heap.size 89 i0 _ 2 24 Tryz.underlying84 hi0 hz0 hz1 hz2 rfl (by omega) _ done.length (wcells 0 done) rfl (HO.out.alloc _) (wo.heap.size + 1) (some ⟨wo.heap.size, 0, none⟩) 1 1 [.int .i64 (fr : Int), .string ⟨piece.toArray⟩] rfl (reads_one wo #[.int .i64 (fr : Int), .string ⟨piece.toArray⟩] 89 2 rfl) (word_one _ _) (by simp only [maxLen]; omega) (by omega) (by simp only [World.size_alloc]; have := HBR.out.size; omega) ?_; intro v4 w4 hown4 hg4 hat4)
        go_wp2_with fail
        go_roundw
        case rel =>
          refine ⟨done ++ [piece], k + 1, k + 1, by go_num, by go_num, by rw [List.length_append, wcells_app, Nat.zero_add, ← HFR.out]; exact hown4, ?_, F.out⟩
          exact (HBR.out.alloc HBR.out.size _).grown hg4 (by simp only [World.size_alloc]; have := HBR.out.size; omega) (fun k hk => by have := own_base HO.out k hk; omega)
        case measure => simp [intOf] <;> omega
    · by_cases he : k = l.length
      · subst he
        have hfk : fr ≤ l.length := by rcases hw with ⟨_, h2, _⟩ | ⟨h1, _⟩ <;> omega
        have b2 : (fr : Int) ≤ (l.length : Int) := by omega
        have hex := ex_mk l fr l.length
        have HFR : Hid (fr = plSum done) := by show _ = _; rcases HW.out with ⟨_, _, h3, _⟩ | ⟨h1, _⟩ <;> omega
        have F := Lib.hid (wd_end HW.out)
        clear hw HW
        generalize (l.take l.length).drop fr = piece at *
        go_wp2_with (at_builtin; refine wpList_append_any _ rfl (.tmp 25) (.tmp 32) _ rfl w.heap.size 89 i0 _ 2 24 Tryz.underlying84 hi0 hz0 hz1 hz2 rfl (by omega) _ done.length (wcells 0 done) rfl (HO.out.alloc _) (wo.heap.size + 1) (some ⟨wo.heap.size, 0, none⟩) 1 1 [.int .i64 (fr : Int), .string ⟨piece.toArray⟩] rfl (reads_one wo #[.int .i64 (fr : Int), .string ⟨piece.toArray⟩] 89 2 rfl) (word_one _ _) (by simp only [maxLen]; omega) (by omega) (by simp only [World.size_alloc]; have := HBR.out.size; omega) ?_; intro v4 w4 hown4 hg4 hat4)
        go_wp2_with fail
        go_roundw
        case rel =>
          refine ⟨done ++ [piece], l.length + 1, l.length + 1, by go_num, by go_num, by rw [List.length_append, wcells_app, Nat.zero_add, ← HFR.out]; exact hown4, ?_, F.out⟩
          exact (HBR.out.alloc HBR.out.size _).grown hg4 (by simp only [World.size_alloc]; have := HBR.out.size; omega) (fun k hk => by have := own_base HO.out k hk; omega)
        case measure => simp [intOf] <;> omega
      · have hwk : k = l.length + 1 ∧ piecesL c l = done := by
          rcases hw with ⟨h1, _⟩ | ⟨h1, _, h2⟩
          · exfalso; omega
          · exact ⟨h1, h2⟩
        obtain ⟨rfl, hwd⟩ := hwk
        have hli : decide (((l.length + 1 : Nat) : Int) ≤ (l.length : Int)) = false := by rw [decide_eq_false_iff_not]; omega
        have hli2 : decide ((l.length : Int) + 1 ≤ (l.length : Int)) = false := by rw [decide_eq_false_iff_not]; omega
        have HWD := Lib.hid hwd
        clear hwd hw HW
        go_wp2_with fail
        go_ret
        exact ⟨_, rfl, by rw [HWD.out]; exact HO.out, HBR.out⟩
end Go.Proofs.YtfnlddloalineaaGreatDoor
