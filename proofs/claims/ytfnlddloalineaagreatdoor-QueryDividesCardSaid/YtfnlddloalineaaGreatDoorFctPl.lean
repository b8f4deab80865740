/-
  Facts, and what conditions say of them (plain).
-/
import Derived.Test.YtfnlddloalineaaGreatDoorArgRes
namespace Go.Proofs.YtfnlddloalineaaGreatDoor
open Go.RowKit
set_option linter.unusedVariables false
structure SFact where
  acc : Int
  ent : Int
  par : Int
  kind : Int
  dat : Int
  amt : Int
instance : Inhabited SFact := ⟨⟨0, 0, 0, 0, 0, 0⟩⟩
def fctC (x : SFact) : List Value := [.int .i64 x.acc, .int .i64 x.ent, .int .i64 x.par, .int .i64 x.kind, .int .i64 x.dat, .int .i64 x.amt]
def fctsC (l : List SFact) : List Value := l.flatMap fctC
def itF (x : SItem) : SFact := ⟨x.acc, x.ent, x.par, 0, x.dat, x.amt⟩
def ptF (p : SPost) (x : SPart) : SFact := ⟨x.acc, p.ent, p.oth, p.kind, 0, x.amt⟩
def poF (p : SPost) : List SFact := p.parts.map (ptF p)
def factsL (its : List SItem) (pos : List SPost) : List SFact := its.map itF ++ pos.flatMap poF
def fldF (f : SFact) (k : Int) : Int := if k = 0 then f.acc else if k = 1 then f.ent else if k = 2 then f.par else if k = 3 then f.kind else f.dat
def fulB (n op v : Int) : Bool := if op = 0 then n == v else if op = 1 then n != v else if op = 2 then decide (n < v) else if op = 3 then decide (n ≤ v) else if op = 4 then decide (v < n) else decide (v ≤ n)
def cndB (c : SCond) (f : SFact) : Bool := fulB (fldF f c.f) c.o c.v
theorem fctsC_app (l : List SFact) (x : SFact) : fctsC (l ++ [x]) = fctsC l ++ fctC x := by
  unfold fctsC
  rw [List.flatMap_append]; simp
theorem fctsC_len (l : List SFact) : (fctsC l).length = l.length * 6 := by
  induction l with
  | nil => rfl
  | cons x r ih =>
    have e : fctsC (x :: r) = fctC x ++ fctsC r := rfl
    rw [e, List.length_append, ih]
    simp only [fctC, List.length_cons, List.length_nil]; omega
/-- the cells of the k-th row -/
theorem rows_at {T : Type} [Inhabited T] (row : T → List Value) {S : Nat} (hrow : ∀ t, (row t).length = S) : ∀ (l : List T) (k j : Nat), k < l.length → j < S → (l.flatMap row)[k * S + j]? = (row (l.getD k default))[j]? := by
  intro l
  induction l with
  | nil => intro k j h; simp at h
  | cons x r ih =>
    intro k j h hj
    rw [List.flatMap_cons]
    cases k with
    | zero =>
      rw [Nat.zero_mul, Nat.zero_add, List.getElem?_append_left (by rw [hrow]; exact hj)]
      rfl
    | succ k =>
      rw [List.getElem?_append_right (by rw [hrow, Nat.add_mul]; omega), hrow, show (k + 1) * S + j - S = k * S + j by rw [Nat.add_mul]; omega, ih k j (by simpa using h) hj]
      rfl
theorem rows_len {T : Type} (row : T → List Value) {S : Nat} (hrow : ∀ t, (row t).length = S) : ∀ l : List T, (l.flatMap row).length = l.length * S := by
  intro l
  induction l with
  | nil => simp
  | cons x r ih => rw [List.flatMap_cons, List.length_append, ih, hrow, List.length_cons, Nat.add_mul]; omega
/-- the k-th row of a slice of rows, cell by cell -/
theorem Reads.row_at {T : Type} [Inhabited T] (row : T → List Value) {S : Nat} (hrow : ∀ t, (row t).length = S) (hS : 0 < S) {w : World} {B n k : Nat} {A : Option Addr} {l : List T} (h : Reads w B S A n (l.flatMap row)) (hk : k < n) :
    ∃ ad, A = some ad ∧ ad.block < B ∧ k < l.length ∧ w.cell? (ad.add (k * S)) = (row (l.getD k default))[0]? ∧ ∀ j, 0 < j → j < S → w.cell? ⟨(ad.add (k * S)).block, (ad.add (k * S)).off + j, none⟩ = (row (l.getD k default))[j]? := by
  have hl : k < l.length := by
    have h1 := h.1
    rw [rows_len row hrow] at h1
    have := Nat.eq_of_mul_eq_mul_right hS h1
    omega
  obtain ⟨ad, rfl, hb, hc⟩ := h.2 (by omega)
  have at_ : ∀ j, j < S → w.cell? (ad.add (k * S + j)) = (row (l.getD k default))[j]? := fun j hj => by
    have e := rows_at row hrow l k j hl hj
    have hx : (row (l.getD k default))[j]? = some ((row (l.getD k default))[j]'(by rw [hrow]; exact hj)) := List.getElem?_eq_getElem _
    rw [hx] at e ⊢
    exact hc _ _ e
  refine ⟨ad, rfl, hb, hl, at_ 0 hS, fun j h0 hj => ?_⟩
  have := at_ j hj
  rwa [← add_of_add, add_posQ _ j (by omega)] at this
theorem factsL_items {its : List SItem} {k : Nat} (hk : k < its.length) : (its.take (k + 1)).map itF = (its.take k).map itF ++ [itF (its.getD k default)] := by
  rw [List.take_succ_eq_append_getElem hk, List.map_append]
  simp [List.getD, hk]
theorem flatMap_take {T : Type} [Inhabited T] (f : T → List SFact) {l : List T} {k : Nat} (hk : k < l.length) : (l.take (k + 1)).flatMap f = (l.take k).flatMap f ++ f (l.getD k default) := by
  rw [List.take_succ_eq_append_getElem hk, List.flatMap_append]
  simp [List.getD, hk]
theorem poF_take {p : SPost} {j : Nat} (hj : j < p.parts.length) : (p.parts.take (j + 1)).map (ptF p) = (p.parts.take j).map (ptF p) ++ [ptF p (p.parts.getD j default)] := by
  rw [List.take_succ_eq_append_getElem hj, List.map_append]
  simp [List.getD, hj]
end Go.Proofs.YtfnlddloalineaaGreatDoor
