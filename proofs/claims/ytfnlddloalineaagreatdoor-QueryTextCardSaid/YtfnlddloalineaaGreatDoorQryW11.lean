/-
  The program's reader: by.
-/
import Derived.Test.YtfnlddloalineaaGreatDoorQryPs
import Derived.Test.YtfnlddloalineaaGreatDoorQrySq
namespace Go.Proofs.YtfnlddloalineaaGreatDoor
open Go.RowKit Go.Shelf
attribute [local go_sem] Oper.semAt_some
set_option linter.unusedVariables false
theorem splitSeq_any (s c : ByteArray) (w : World) :
    Calls Tryz.prog 100 #[.string s, .string c] w fun e w' => e = .returned (.func (.func 152) #[] #[.pointer (some ⟨w.heap.size + 1, 0, none⟩), .pointer (some ⟨w.heap.size, 0, none⟩), .pointer (some ⟨w.heap.size + 1 + 1, 0, none⟩)]) ∧
      w' = ((w.alloc (.cells #[.string s] 9)).alloc (.cells #[.string c] 9)).alloc (.cells #[.int .i64 0] 3) := by
  have h : Calls Tryz.prog 126 #[.string s, .string c, .int .i64 0] w fun e w' => e = .returned (.func (.func 152) #[] #[.pointer (some ⟨w.heap.size + 1, 0, none⟩), .pointer (some ⟨w.heap.size, 0, none⟩), .pointer (some ⟨w.heap.size + 1 + 1, 0, none⟩)]) ∧
      w' = ((w.alloc (.cells #[.string s] 9)).alloc (.cells #[.string c] 9)).alloc (.cells #[.int .i64 0] 3) := by
    go_enter Tryz.func126, Tryz.ntmps126
    go_wp2_with fail
    go_ret
    exact ⟨rfl, rfl⟩
  go_enter Tryz.func100, Tryz.ntmps100
  go_wp2_with fail
  refine h.mono ?_
  rintro e w' ⟨rfl, rfl⟩
  go_wp2_with fail
  go_ret
  exact ⟨rfl, rfl⟩
/-- what the iterator gives -/
theorem splitSeq_box (n : Nat) (hn : 1 ≤ n) (Bs : Nat) (t : List UInt8) (w : World) (b0 : Boxed w Bs 9 (.string ⟨t.toArray⟩)) (b1 : Boxed w (Bs + 1) 9 (.string ⟨#[44]⟩)) (b2 : Boxed w (Bs + 1 + 1) 3 (.int .i64 0)) (ht : t.length ≤ 100000) :
    SeqBox Fence.wide n Tryz.prog 152 #[.pointer (some ⟨Bs + 1, 0, none⟩), .pointer (some ⟨Bs, 0, none⟩), .pointer (some ⟨Bs + 1 + 1, 0, none⟩)] Bs (fun x : List UInt8 => #[.string ⟨x.toArray⟩]) (piecesL 44 t) w :=
  fun l J Jx W hW hJ _ hY h0 => splitSeq1_in n hn l Bs t J Jx hJ hY W ((hW _ b0.lt).trans b0) ((hW _ b1.lt).trans b1) ((hW _ b2.lt).trans b2) ht h0
theorem dupB_yes {l : List Int} {i : Nat} (hi : i < l.length) (h : (l.take i).contains (l.getD i 0) = true) : dupB l = true := by
  unfold dupB
  rw [List.any_eq_true]
  exact ⟨i, List.mem_range.2 hi, h⟩
theorem dupB_no {l : List Int} (h : ∀ i, i < l.length → (l.take i).contains (l.getD i 0) = false) : dupB l = false := by
  unfold dupB
  rw [List.any_eq_false]
  intro i hi
  rw [h i (List.mem_range.1 hi)]
  simp
theorem byR_unknown {w : Wd} (h : ∃ y, y ∈ piecesL 44 w ∧ idxW fdL y < 0) : byR w = .error 17 := by
  obtain ⟨y, hy, h⟩ := h
  unfold byR
  have hm : idxW fdL y ∈ byN w := List.mem_map.2 ⟨y, hy, rfl⟩
  have ha : (byN w).any (fun x => decide (x < 0)) = true := List.any_eq_true.2 ⟨_, hm, by rw [decide_eq_true_eq]; exact h⟩
  rw [if_pos ha]
theorem byR_known {w : Wd} (h : ∀ y, y ∈ piecesL 44 w → ¬ idxW fdL y < 0) : byR w = if dupB (byN w) = true then .error 9 else .ok (byN w) := by
  unfold byR
  rw [if_neg]
  rw [List.any_eq_true]
  rintro ⟨z, hz, hd⟩
  obtain ⟨y, hy, rfl⟩ := List.mem_map.1 hz
  exact h y hy (by rw [decide_eq_true_eq] at hd; exact hd)
/-- how by ends -/
def BySays (B R : Nat) (x : List UInt8) (ws : List (List UInt8)) (p : Int) (ps : List Int) (len : Int) (w : World) (e : Ending) (w' : World) : Prop := match byR x with
  | .error E => e = .returned (.tuple #[.slice none 0 0, .int .i64 E]) ∧ Rdr w' B R (x :: ws) (p :: ps) len ∧ w.grownBy w' (some R)
  | .ok l => ∃ v, e = .returned (.tuple #[v, .int .i64 0]) ∧ w'.ownsRow w.heap.size 3 1 v l.length (l.map intV) ∧ Rdr w' B R ws ps len ∧ w.grownBy w' (some R)
/-- between two rounds -/
def ByI (n0 : Nat) (w0 : World) (pre : List (List UInt8)) (W : World) : Prop :=
  (n0 + 6 ≤ W.heap.size ∧ (∀ y, y ∈ pre → 0 ≤ idxW fdL y) ∧ Boxed W n0 23 (.slice none 0 0) ∧ Boxed W (n0 + 1) 27 (.int .i64 0)) ∧ (∃ v, Boxed W (n0 + 2) 23 v ∧ W.ownsRow (n0 + 6) 3 1 v pre.length ((pre.map (idxW fdL)).map intV)) ∧ Below n0 w0 W
/-- where a round has left -/
def ByIx (n0 : Nat) (w0 : World) (c : Code) (pre : List (List UInt8)) (W : World) : Prop :=
  c = .ret ∧ n0 + 6 ≤ W.heap.size ∧ (∃ y, y ∈ pre ∧ idxW fdL y < 0) ∧ Boxed W n0 23 (.slice none 0 0) ∧ Boxed W (n0 + 1) 27 (.int .i64 17) ∧ Below n0 w0 W
theorem box_turn {D Bs k row : Nat} {T : TypeId} {v : Value} {A B : World} (h : Boxed A k T v) (h1 : k < D) (h2 : k ≠ Bs) (hr : row = Bs ∨ (D ≤ row ∧ ∃ o : Obj, A.heap[row]? = some o ∧ o.isCells = false)) : some k ≠ some row := by
  intro e
  injection e with e
  subst e
  rcases hr with e | ⟨e, _⟩ <;> omega
theorem box_own {D Bs k : Nat} {T : TypeId} {v : Value} {A B : World} {row : Option Nat} (h : Boxed A k T v) (hg : A.grownBy B row) (h1 : k < D) (h2 : k ≠ Bs) (hr : ∀ r, row = some r → r = Bs ∨ (D ≤ r ∧ ∃ o : Obj, A.heap[r]? = some o ∧ o.isCells = false)) : Boxed B k T v :=
  h.kept hg (fun e => by
    cases row with
    | none => cases e
    | some r => exact box_turn (D := D) (Bs := Bs) (A := A) (B := B) h h1 h2 (hr r rfl) e)
theorem below_own {D Bs n0 : Nat} {w0 A B : World} {row : Option Nat} (h : Below n0 w0 A) (hn : n0 ≤ A.heap.size) (hg : A.grownBy B row) (h1 : n0 ≤ D) (h2 : n0 ≤ Bs) (hr : ∀ r, row = some r → r = Bs ∨ (D ≤ r ∧ ∃ o : Obj, A.heap[r]? = some o ∧ o.isCells = false)) : Below n0 w0 B :=
  h.grown hg hn (fun r e => by rcases hr r e with e | ⟨e, _⟩ <;> omega)
theorem byI_own (n0 : Nat) (w0 : World) : OwnBox (n0 + 6) (n0 + 3) (ByI n0 w0) := by
  rintro pre A B row ⟨⟨h0, h1, h2, h3⟩, ⟨v, h4, h5⟩, h6⟩ hg hr
  have hs : n0 ≤ A.heap.size := Nat.le_of_lt h2.lt
  refine ⟨⟨Nat.le_trans h0 hg.size, h1, box_own h2 hg (by omega) (by omega) hr, box_own h3 hg (by omega) (by omega) hr⟩, ⟨v, box_own h4 hg (by omega) (by omega) hr, h5.kept hg ?_⟩, below_own h6 hs hg (by omega) (by omega) hr⟩
  rcases h5.2 with ⟨rfl, _⟩ | ⟨g, cap, cur, rfl, hgb, hgc, _⟩
  · exact .inl rfl
  · refine .inr fun e' => ?_
    rcases hr g (by simpa [Value.ownBlock] using e'.symm) with e | ⟨_, o, ho, hc⟩
    · omega
    · rw [hgc] at ho; cases ho; cases hc
theorem byIx_own (n0 : Nat) (w0 : World) (c : Code) : OwnBox (n0 + 6) (n0 + 3) (ByIx n0 w0 c) := by
  rintro pre A B row ⟨h0, h0', h1, h2, h3, h6⟩ hg hr
  have hs : n0 ≤ A.heap.size := Nat.le_of_lt h2.lt
  exact ⟨h0, Nat.le_trans h0' hg.size, h1, box_own h2 hg (by omega) (by omega) hr, box_own h3 hg (by omega) (by omega) hr, below_own h6 hs hg (by omega) (by omega) hr⟩
theorem kp_grown {Bs : Nat} {A B : World} {row : Option Nat} (hg : A.grownBy B row) (hs : Bs + 3 ≤ A.heap.size) (hr : ∀ r, row = some r → r < Bs ∨ Bs + 3 ≤ r) : KpBox Bs A B :=
  fun k h1 h2 => hg.block k (by omega) (fun e => by have := hr k e.symm; omega)
theorem own_low {w : World} {b b' : Nat} {e : TypeId} {size n : Nat} {v : Value} {xs : List Value} (h : w.ownsRow b e size v n xs) (hb : b' ≤ b) : w.ownsRow b' e size v n xs := by
  refine ⟨h.1, ?_⟩
  rcases h.2 with h2 | ⟨g, cap, cur, e1, hg, h3⟩
  · exact .inl h2
  · exact .inr ⟨g, cap, cur, e1, Nat.le_trans hb hg, h3⟩
theorem grown_put {w w1 : World} {row : Option Nat} (h : w.grownBy w1 row) {D : Nat} (hD : w.heap.size ≤ D) (o : Obj) : w.grownBy (w1.putObj D o) row :=
  ⟨h.os, h.tape, h.output, by rw [World.putObj_size]; exact h.size, fun i hi hne => (World.putObj_heap_other (by omega)).trans (h.block i hi hne)⟩
theorem below_put {B D : Nat} {w : World} (hD : B ≤ D) (hB : B ≤ w.heap.size) (o : Obj) : Below B w (w.putObj D o) :=
  (Below.refl B w).grown (grownBy_putObj' w D o) hB (fun r e => by cases e; exact hD)
theorem boxed_app {W w1 : World} {n₀ nb B : Nat} {t e : TypeId} {size : Nat} {v v' : Value} {k m : Nat} {xs ys : List Value} {tmp : Obj}
    (hv : Boxed W B t v) (hte : t ≠ e) (hrow : W.ownsRow nb e size v k xs) (hn₀ : n₀ ≤ W.heap.size) (hB : n₀ ≤ B) (hnb : n₀ ≤ nb)
    (hown' : w1.ownsRow nb e size v' m ys) (hgrow : (W.alloc tmp).grownBy w1 v.ownBlock) :
    Boxed w1 B t v ∧ Boxed (w1.setCell ⟨B, 0, none⟩ v') B t v' ∧ (w1.setCell ⟨B, 0, none⟩ v').ownsRow nb e size v' m ys ∧ KeepsOthers W (w1.setCell ⟨B, 0, none⟩ v') ∧ Below n₀ W (w1.setCell ⟨B, 0, none⟩ v') := by
  have hv1 : Boxed w1 B t v := (hv.alloc tmp).kept hgrow (hv.not_row hte hrow)
  refine ⟨hv1, hv1.set v', hown'.kept (grownBy_setCell' w1 B v') (.inr (hv1.not_row hte hown').symm), ?_, ?_⟩
  · refine ((KeepsOthers.alloc W tmp).trans (KeepsOthers.of_grownBy hgrow fun j o ej hj => ?_)).trans (KeepsOthers.setCell _ _ _)
    rcases (hrow.alloc tmp).2 with ⟨rfl, _⟩ | ⟨g, cap, cur, rfl, _, hgb, _⟩
    · simp [Value.ownBlock] at ej
    · obtain rfl : g = j := by simpa [Value.ownBlock] using ej
      rw [hgb] at hj; cases hj; rfl
  · refine (((Below.refl n₀ W).alloc hn₀ tmp).grown hgrow (by simp; omega) fun j ej => ?_).setCell (p := ⟨B, 0, none⟩) hB v'
    have := own_base hrow j ej
    omega
end Go.Proofs.YtfnlddloalineaaGreatDoor
