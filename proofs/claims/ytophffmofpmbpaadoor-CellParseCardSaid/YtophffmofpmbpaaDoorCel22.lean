/-
  The reference's words.
-/
import Derived.Test.YtophffmofpmbpaaDoorCel20
namespace Go.Proofs.YtophffmofpmbpaaDoor
open Go.RowKit
set_option linter.unusedVariables false
theorem info_str : (Tryd.prog.info? 9).map (fun i => (i.zero, i.size, i.bytes)) = some (some (.string ⟨#[]⟩), 1, 16) := by kernel_rfl
theorem str_one (x : ByteArray) : ∀ u ∈ ([.string x] : List Value), u.oneCell' = true := by
  intro u hu
  rw [List.mem_singleton] at hu
  subst hu; rfl
theorem byteEqC (a b : UInt8) : (((a.toNat : Nat) : Int) == ((b.toNat : Nat) : Int)) = (a == b) := by
  rw [Bool.eq_iff_iff, beq_iff_eq, beq_iff_eq]
  constructor
  · intro h; exact UInt8.toNat_inj.1 (by omega)
  · intro h; rw [h]
theorem drop_at {l : List UInt8} {f k : Nat} (hf : f ≤ k) (hk : k < l.length) : l.drop f = (l.drop f).take (k - f) ++ l.getD k 0 :: l.drop (k + 1) := by
  conv => lhs; rw [← List.take_append_drop (k - f) (l.drop f)]
  congr 1
  rw [List.drop_drop, show f + (k - f) = k by omega, List.drop_eq_getElem_cons hk, List.getD_eq_getElem?_getD, List.getElem?_eq_getElem hk]
  rfl
theorem take_step {l : List UInt8} {f k : Nat} (hf : f ≤ k) (hk : k < l.length) : (l.drop f).take (k + 1 - f) = (l.drop f).take (k - f) ++ [l.getD k 0] := by
  rw [show k + 1 - f = (k - f) + 1 by omega, List.take_succ_eq_append_getElem (by rw [List.length_drop]; omega)]
  congr 2
  rw [List.getElem_drop, List.getD_eq_getElem?_getD, List.getElem?_eq_getElem hk]
  have : f + (k - f) = k := by omega
  simp [this]
def WdI (l : List UInt8) (f k : Nat) (done : List (List UInt8)) : Prop :=
  (k ≤ l.length ∧ f ≤ k ∧ done.length ≤ k ∧ wordsL l = done ++ wordsL (l.drop f) ∧ (32 : UInt8) ∉ (l.drop f).take (k - f)) ∨ (k = l.length + 1 ∧ done.length ≤ k ∧ wordsL l = done)
theorem wd_sep {l : List UInt8} {f k : Nat} {done : List (List UInt8)} (h : WdI l f k done) (hk : k < l.length) (hb : l.getD k 0 = 32) : WdI l (k + 1) (k + 1) (done ++ [(l.take k).drop f]) := by
  rcases h with ⟨h1, h2, h3, h4, h5⟩ | ⟨h1, _⟩
  · refine .inl ⟨by omega, by omega, by rw [List.length_append, List.length_singleton]; omega, ?_, by simp⟩
    rw [h4, drop_at h2 hk, hb, wordsL_at h5, List.append_assoc]
    congr 1
    rw [List.drop_take]
    rfl
  · omega
theorem wd_go {l : List UInt8} {f k : Nat} {done : List (List UInt8)} (h : WdI l f k done) (hk : k < l.length) (hb : l.getD k 0 ≠ 32) : WdI l f (k + 1) done := by
  rcases h with ⟨h1, h2, h3, h4, h5⟩ | ⟨h1, _⟩
  · refine .inl ⟨by omega, by omega, by omega, h4, ?_⟩
    rw [take_step h2 hk, List.mem_append, List.mem_singleton]
    rintro (h | h)
    · exact h5 h
    · exact hb h.symm
  · omega
theorem wd_end {l : List UInt8} {f : Nat} {done : List (List UInt8)} (h : WdI l f l.length done) : WdI l (l.length + 1) (l.length + 1) (done ++ [(l.take l.length).drop f]) := by
  rcases h with ⟨h1, h2, h3, h4, h5⟩ | ⟨h1, _⟩
  · refine .inr ⟨rfl, by rw [List.length_append, List.length_singleton]; omega, ?_⟩
    have e : (l.drop f).take (l.length - f) = l.drop f := List.take_of_length_le (by rw [List.length_drop]; omega)
    rw [e] at h5
    rw [h4, wordsL_no h5, List.take_length]
  · omega
set_option maxRecDepth 100000 in
set_option maxHeartbeats 4000000 in
theorem words_any (l : List UInt8) (w : World) (hl : l.length ≤ 1000) : Calls Tryd.prog 36 #[.string ⟨l.toArray⟩] w fun e w' => ∃ v, e = .returned v ∧ w'.ownsRow w.heap.size 9 1 v (wordsL l).length ((wordsL l).map strV) ∧ Below w.heap.size w w' := by
  obtain ⟨i0, hi0, hz0, hz1, hz2⟩ := info_parts info_str
  go_enter Tryd.func36, Tryd.ntmps36
  go_wp2_with fail
  go_loopw [3, 4, 5] (fun v f i wr => ∃ (done : List (List UInt8)) (fr k : Nat), f = .int .i64 fr ∧ i = .int .i64 k ∧ wr.ownsRow w.heap.size 9 1 v done.length (done.map strV) ∧ Below w.heap.size w wr ∧ WdI l fr k done) (fun _ _ i _ => l.length + 1 - (intOf i).toNat)
  case atStart => exact ⟨[], 0, 0, rfl, rfl, World.ownsRow_nil _ _ _ _, Below.refl _ _, .inl ⟨by omega, by omega, by simp, by simp, by simp⟩⟩
  case round =>
    obtain ⟨done, fr, k, rfl, rfl, hown, hbr, hw⟩ := hrel
    obtain ⟨wo, rfl⟩ : ∃ wo : World, wo = wr := ⟨_, rfl⟩
    have HO := Lib.hid hown
    have HBR := Lib.hid hbr
    have HW := Lib.hid hw
    have hdl : done.length ≤ k ∧ k ≤ l.length + 1 := by rcases hw with ⟨h1, _, h3, _⟩ | ⟨h1, h3, _⟩ <;> omega
    have hd1 := hdl.1
    have hd2 := hdl.2
    clear hown hbr hdl
    by_cases hlt : k < l.length
    · have hfk : fr ≤ k := by rcases hw with ⟨_, h2, _⟩ | ⟨h1, _⟩ <;> omega
      have hli : decide ((k : Int) ≤ (l.length : Int)) = true := by rw [decide_eq_true_eq]; omega
      have hle : decide (k ≤ l.length) = true := by rw [decide_eq_true_eq]; omega
      have q1 : ((k : Int) == (l.length : Int)) = false := by rw [beq_eq_false_iff_ne]; omega
      have q2 : (k == l.length) = false := by rw [beq_eq_false_iff_ne]; omega
      have b1 : (k : Int) < (l.length : Int) := by omega
      have b2 : (fr : Int) ≤ (k : Int) := by omega
      have b3 : (k : Int) ≤ (l.length : Int) := by omega
      have hsz : k < (⟨l.toArray⟩ : ByteArray).size := by rw [mk_size]; exact hlt
      have hg : (((⟨l.toArray⟩ : ByteArray)[k].toNat : Int) == 32) = (l.getD k 0 == 32) := by rw [mk_getD]; exact byteEqC _ 32
      have hex := ex_mk l fr k
      clear hw
      cases hb : (l.getD k 0 == 32)
      · have F := Lib.hid (wd_go HW.out hlt (by rw [beq_eq_false_iff_ne] at hb; exact hb))
        rw [hb] at hg
        clear hb HW
        go_wp2_with fail
        go_roundw
        case rel => exact ⟨done, fr, k + 1, rfl, by go_num, HO.out, HBR.out, F.out⟩
        case measure => simp [intOf] <;> omega
      · have F := Lib.hid (wd_sep HW.out hlt (by rw [beq_iff_eq] at hb; exact hb))
        rw [hb] at hg
        clear hb HW
        generalize (l.take k).drop fr = piece at *
        go_wp2_with (at_builtin; refine wpList_append_any _ rfl (.tmp 22) (.tmp 27) _ rfl w.heap.size 9 i0 _ 1 16 Tryd.underlying49 hi0 hz0 hz1 hz2 rfl (by omega) _ done.length (done.map strV) rfl (HO.out.alloc _) (wo.heap.size + 1) (some ⟨wo.heap.size, 0, none⟩) 1 1 [.string ⟨piece.toArray⟩] rfl (reads_one wo #[.string ⟨piece.toArray⟩] 9 1 rfl) (str_one _) (by simp only [maxLen]; omega) (by omega) (by simp only [World.size_alloc]; have := HBR.out.size; omega) ?_; intro v4 w4 hown4 hg4 hat4)
        go_wp2_with fail
        go_roundw
        case rel =>
          refine ⟨done ++ [piece], k + 1, k + 1, by go_num, by go_num, by rw [List.length_append, List.map_append]; exact hown4, ?_, F.out⟩
          exact (HBR.out.alloc HBR.out.size _).grown hg4 (by simp only [World.size_alloc]; have := HBR.out.size; omega) (fun k hk => by have := own_base HO.out k hk; omega)
        case measure => simp [intOf] <;> omega
    · by_cases he : k = l.length
      · subst he
        have hfk : fr ≤ l.length := by rcases hw with ⟨_, h2, _⟩ | ⟨h1, _⟩ <;> omega
        have b2 : (fr : Int) ≤ (l.length : Int) := by omega
        have hex := ex_mk l fr l.length
        have F := Lib.hid (wd_end HW.out)
        clear hw HW
        generalize (l.take l.length).drop fr = piece at *
        go_wp2_with (at_builtin; refine wpList_append_any _ rfl (.tmp 22) (.tmp 27) _ rfl w.heap.size 9 i0 _ 1 16 Tryd.underlying49 hi0 hz0 hz1 hz2 rfl (by omega) _ done.length (done.map strV) rfl (HO.out.alloc _) (wo.heap.size + 1) (some ⟨wo.heap.size, 0, none⟩) 1 1 [.string ⟨piece.toArray⟩] rfl (reads_one wo #[.string ⟨piece.toArray⟩] 9 1 rfl) (str_one _) (by simp only [maxLen]; omega) (by omega) (by simp only [World.size_alloc]; have := HBR.out.size; omega) ?_; intro v4 w4 hown4 hg4 hat4)
        go_wp2_with fail
        go_roundw
        case rel =>
          refine ⟨done ++ [piece], l.length + 1, l.length + 1, by go_num, by go_num, by rw [List.length_append, List.map_append]; exact hown4, ?_, F.out⟩
          exact (HBR.out.alloc HBR.out.size _).grown hg4 (by simp only [World.size_alloc]; have := HBR.out.size; omega) (fun k hk => by have := own_base HO.out k hk; omega)
        case measure => simp [intOf] <;> omega
      · obtain ⟨rfl, hwd⟩ : k = l.length + 1 ∧ wordsL l = done := by rcases hw with ⟨h1, _⟩ | ⟨h1, _, h2⟩; · omega
                                                                     · exact ⟨h1, h2⟩
        have hli : decide (((l.length + 1 : Nat) : Int) ≤ (l.length : Int)) = false := by rw [decide_eq_false_iff_not]; omega
        have hli2 : decide ((l.length : Int) + 1 ≤ (l.length : Int)) = false := by rw [decide_eq_false_iff_not]; omega
        have HWD := Lib.hid hwd
        clear hwd hw HW
        go_wp2_with fail
        go_ret
        exact ⟨_, rfl, by rw [HWD.out]; exact HO.out, HBR.out⟩
end Go.Proofs.YtophffmofpmbpaaDoor
