/-
  Reading decimal numbers: plain laws of the sum that stops at its bound.
-/
import Derived.Test.YtklpeibmjiolhaaDoorDecPz
import Derived.Lib.Repeat
namespace Go.Proofs.YtklpeibmjiolhaaDoor
set_option linter.unusedVariables false
def satN (n : Nat) (b : UInt8) : Nat := min (10 * n + (b.toNat - 48)) 1000000000000001
def satL (l : List UInt8) (n : Nat) : Nat := l.foldl satN n
theorem satL_min : ∀ (l : List UInt8) (n : Nat), satL l (min n 1000000000000001) = min (l.foldl (fun n b => n * 10 + (b.toNat - 48)) n) 1000000000000001 := by
  intro l
  induction l with
  | nil => intro n; rfl
  | cons x r ih =>
    intro n
    show satL r (satN (min n 1000000000000001) x) = min (r.foldl _ (n * 10 + (x.toNat - 48))) _
    rw [← ih]
    congr 1
    unfold satN
    omega
theorem satL_val (l : List UInt8) : satL l 0 = min (decVal l) 1000000000000001 := satL_min l 0
theorem satL_step {l : List UInt8} {pos m : Nat} (h : pos < l.length) : satL (l.drop pos) m = satL (l.drop (pos + 1)) (satN m (l.getD pos 0)) := by
  have e : l.getD pos 0 = l[pos] := by simp [List.getD, h]
  rw [List.drop_eq_getElem_cons h, e]
  unfold satL
  rw [List.foldl_cons]
theorem satN_le (m : Nat) (b : UInt8) : satN m b ≤ 1000000000000001 := by unfold satN; omega
theorem rep_eq (k : Nat) : Lib.repeatL [48] k = List.replicate k 48 := by
  induction k with
  | zero => rfl
  | succ k ih => simp [Lib.repeatL, ih, List.replicate_succ]
theorem cut_pn {l : List UInt8} (h : pnB l = false) : ptL l = [] := by
  unfold pnB at h
  unfold ptL
  by_cases hm : (46 : UInt8) ∈ unS l
  · obtain ⟨a, b, e, hna⟩ := split_at hm
    rw [e, cut_at hna] at h
    simp at h
  · rw [cut_no hm]
theorem all_digs {pn : Bool} {wh pt : List UInt8} (k : Nat) (h1 : isNum wh = true) (h2 : (!pn || isNum pt) = true) (h3 : pn = false → pt = []) : (wh ++ pt ++ List.replicate k 48).all isDig = true := by
  have a : wh.all isDig = true := by unfold isNum at h1; simp only [Bool.and_eq_true] at h1; exact h1.1
  have b : pt.all isDig = true := by
    cases pn
    · rw [h3 rfl]; rfl
    · unfold isNum at h2; simp only [Bool.not_true, Bool.false_or, Bool.and_eq_true] at h2; exact h2.1
  have c : (List.replicate k (48 : UInt8)).all isDig = true := by rw [List.all_eq_true]; intro x hx; rw [(List.mem_replicate.1 hx).2]; decide
  rw [List.all_append, List.all_append, a, b, c]; rfl
theorem dig_at {l : List UInt8} (h : l.all isDig = true) {k : Nat} (hk : k < l.length) : 48 ≤ (l.getD k 0).toNat ∧ (l.getD k 0).toNat ≤ 57 := by
  rw [List.all_eq_true] at h
  refine isDig_iff.1 (h _ ?_)
  simp [List.getD, hk]
end Go.Proofs.YtklpeibmjiolhaaDoor
