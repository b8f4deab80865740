/-
  Bytes, digits, numbers: plain laws, no program in sight.
-/
import Derived.WalkKit
import Derived.Lib.Atoi
import Derived.Lib.IndexMore
import Derived.Lib.Strings
namespace Go.Proofs.YtcmmppkmkejniaaGreatDoor
open Go.Lib
def isDig (b : UInt8) : Bool := decide (48 ≤ b.toNat) && decide (b.toNat ≤ 57)
def isNum (l : List UInt8) : Bool := l.all isDig && !l.isEmpty
def decVal (l : List UInt8) : Nat := l.foldl (fun n b => n * 10 + (b.toNat - 48)) 0
theorem isDig_iff {b : UInt8} : isDig b = true ↔ 48 ≤ b.toNat ∧ b.toNat ≤ 57 := by simp [isDig]
theorem isDig_no {b : UInt8} (h : isDig b = false) : b.toNat < 48 ∨ 57 < b.toNat := by
  simp [isDig] at h; omega
theorem isDig_lt {b : UInt8} (h : b.toNat < 48) : isDig b = false := by simp [isDig]; omega
theorem isDig_gt {b : UInt8} (h : 57 < b.toNat) : isDig b = false := by simp [isDig]; omega
theorem decFrom_digits (l : List UInt8) (h : l.all isDig = true) : ∀ acc, decFrom acc l = some (l.foldl (fun n b => n * 10 + (b.toNat - 48)) acc) := by
  induction l with
  | nil => intro acc; rfl
  | cons b r ih =>
    intro acc
    simp only [List.all_cons, Bool.and_eq_true] at h
    have hb := isDig_iff.1 h.1
    simp only [decFrom, digitVal, if_pos hb, List.foldl_cons]
    exact ih h.2 _
theorem atoi_digits {l : List UInt8} (h : isNum l = true) : atoi l = some (decVal l : Int) := by
  unfold isNum at h
  simp only [Bool.and_eq_true] at h
  cases l with
  | nil => simp at h
  | cons b r =>
    have hb := isDig_iff.1 (show isDig b = true by have := h.1; simp only [List.all_cons, Bool.and_eq_true] at this; exact this.1)
    have h45 : (b == 45) = false := by
      rw [beq_eq_false_iff_ne]; rintro rfl; exact absurd hb.1 (by decide)
    have h43 : (b == 43) = false := by
      rw [beq_eq_false_iff_ne]; rintro rfl; exact absurd hb.1 (by decide)
    simp only [atoi, h45, h43]
    have : decNat (b :: r) = some (decVal (b :: r)) := by
      simp only [decNat]
      exact decFrom_digits (b :: r) h.1 0
    rw [this]; simp
theorem decVal_snoc (l : List UInt8) (b : UInt8) : decVal (l ++ [b]) = decVal l * 10 + (b.toNat - 48) := by simp [decVal]
theorem decVal_lt {l : List UInt8} (h : l.all isDig = true) : decVal l < 10 ^ l.length := by
  unfold decVal
  have key : ∀ (r : List UInt8) (acc k : Nat), r.all isDig = true → acc < 10 ^ k → r.foldl (fun n b => n * 10 + (b.toNat - 48)) acc < 10 ^ (k + r.length) := by
    intro r
    induction r with
    | nil => intro acc k _ h; simpa using h
    | cons b r ih =>
      intro acc k h hk
      simp only [List.all_cons, Bool.and_eq_true] at h
      have hb := isDig_iff.1 h.1
      simp only [List.foldl_cons, List.length_cons]
      have := ih (acc * 10 + (b.toNat - 48)) (k + 1) h.2 (by rw [Nat.pow_succ]; omega)
      rwa [show k + (r.length + 1) = k + 1 + r.length by omega]
  have := key l 0 0 h (by simp)
  simpa using this
theorem decVal_ge {b : UInt8} {l : List UInt8} (hb : 49 ≤ b.toNat) : 10 ^ l.length ≤ decVal (b :: l) := by
  unfold decVal
  have key : ∀ (r : List UInt8) (acc k : Nat), 10 ^ k ≤ acc → 10 ^ (k + r.length) ≤ r.foldl (fun n b => n * 10 + (b.toNat - 48)) acc := by
    intro r
    induction r with
    | nil => intro acc k h; simpa using h
    | cons b r ih =>
      intro acc k hk
      simp only [List.foldl_cons, List.length_cons]
      have := ih (acc * 10 + (b.toNat - 48)) (k + 1) (by rw [Nat.pow_succ]; omega)
      rwa [show k + (r.length + 1) = k + 1 + r.length by omega]
  have := key l (0 * 10 + (b.toNat - 48)) 0 (by simp; omega)
  simpa using this
/-! the first place of a byte -/
theorem index_one_no {l : List UInt8} {c : UInt8} (h : c ∉ l) : index l [c] = -1 := by
  induction l with
  | nil => rfl
  | cons b r ih =>
    simp only [List.mem_cons, not_or] at h
    unfold index
    have : ([c] : List UInt8).isPrefixOf (b :: r) = false := by simp [List.isPrefixOf, h.1]
    rw [this, ih h.2]; rfl
theorem index_one_at {a b : List UInt8} {c : UInt8} (h : c ∉ a) : index (a ++ c :: b) [c] = a.length := by
  induction a with
  | nil => simp [index, List.isPrefixOf]
  | cons x r ih =>
    simp only [List.mem_cons, not_or] at h
    have e := ih h.2
    rw [List.cons_append]
    unfold index
    have : ([c] : List UInt8).isPrefixOf (x :: (r ++ c :: b)) = false := by simp [List.isPrefixOf, h.1]
    rw [this, e]
    have h1 : (((r.length : Nat) : Int) == -1) = false := by rw [beq_eq_false_iff_ne]; omega
    rw [h1]; simp
theorem cut_no {l : List UInt8} {c : UInt8} (h : c ∉ l) : cut l [c] = (l, [], false) := by
  unfold cut; rw [index_one_no h]; rfl
theorem cut_at {a b : List UInt8} {c : UInt8} (h : c ∉ a) : cut (a ++ c :: b) [c] = (a, b, true) := by
  unfold cut
  rw [index_one_at h]
  simp
theorem split_at {l : List UInt8} {c : UInt8} (h : c ∈ l) : ∃ a b, l = a ++ c :: b ∧ c ∉ a := by
  induction l with
  | nil => simp at h
  | cons x r ih =>
    by_cases hx : c = x
    · subst hx; exact ⟨[], r, rfl, by simp⟩
    · obtain ⟨a, b, rfl, hn⟩ := ih (by simpa [hx] using h)
      exact ⟨x :: a, b, rfl, by simp [hx, hn]⟩
theorem hasPrefix_one (l : List UInt8) (c : UInt8) : hasPrefix l [c] = (l.head? == some c) := by
  cases l with
  | nil => rfl
  | cons b r => simp [hasPrefix, List.isPrefixOf, Bool.beq_comm]
theorem trimPrefix_cons (c : UInt8) (l : List UInt8) : trimPrefix (c :: l) [c] = l := by simp [trimPrefix, hasPrefix, List.isPrefixOf]
theorem trimPrefix_no {l : List UInt8} {c : UInt8} (h : l.head? ≠ some c) : trimPrefix l [c] = l := by
  unfold trimPrefix
  rw [hasPrefix_one, show (l.head? == some c) = false from by simpa using h]; rfl
/-! a string's byte, as the walk spells it -/
theorem mk_size (l : List UInt8) : (⟨l.toArray⟩ : ByteArray).size = l.length := by simp [ByteArray.size]
theorem mk_at (l : List UInt8) (k : Nat) (h : k < (⟨l.toArray⟩ : ByteArray).size) (h' : k < l.length) : (⟨l.toArray⟩ : ByteArray)[k]'h = l[k] := rfl
theorem mk_getD (l : List UInt8) (k : Nat) (h : k < (⟨l.toArray⟩ : ByteArray).size) : (⟨l.toArray⟩ : ByteArray)[k]'h = l.getD k 0 := by
  have h' : k < l.length := by rwa [mk_size] at h
  rw [mk_at l k h h']; simp [List.getD, h']
theorem take_all_succ {p : UInt8 → Bool} {l : List UInt8} {k : Nat} (hk : k < l.length) (h : (l.take k).all p = true) (h' : p (l.getD k 0) = true) : (l.take (k + 1)).all p = true := by
  rw [List.take_succ_eq_append_getElem hk, List.all_append, h]
  have : l[k] = l.getD k 0 := by simp [List.getD, hk]
  simp only [List.all_cons, List.all_nil, this, h', Bool.and_true]
theorem all_not_at {p : UInt8 → Bool} {l : List UInt8} {k : Nat} (hk : k < l.length) (h : p (l.getD k 0) = false) : l.all p = false := by
  rw [List.all_eq_false]
  exact ⟨l.getD k 0, by simp [List.getD, hk], by rw [h]; simp⟩
end Go.Proofs.YtcmmppkmkejniaaGreatDoor
