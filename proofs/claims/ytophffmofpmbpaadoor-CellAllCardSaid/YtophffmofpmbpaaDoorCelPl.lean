/-
  The stages: plain data and laws.
-/
import Derived.Test.YtophffmofpmbpaaDoorDig
namespace Go.Proofs.YtophffmofpmbpaaDoor
set_option linter.unusedVariables false
def nmL : List (List UInt8) := [[], [101, 110, 116, 114, 105, 101, 115], [114, 97, 116, 101, 115], [104, 111, 108, 100, 105, 110, 103, 115], [109, 97, 116, 99, 104, 101, 115], [115, 116, 111, 99, 107, 115], [114, 117, 108, 101, 115], [105, 116, 101, 109, 115], [115, 99, 111, 112, 101], [115, 104, 97, 114, 101, 115], [99, 111, 110, 116, 114, 105, 98, 117, 116, 105, 111, 110], [114, 101, 115, 101, 114, 118, 101], [100, 105, 115, 112, 111, 115, 97, 108], [105, 110, 116, 101, 114, 99, 111], [99, 97, 112, 105, 116, 97, 108], [115, 116, 101, 112], [109, 105, 110, 111, 114, 105, 116, 121], [97, 115, 115, 111, 99, 105, 97, 116, 101], [105, 110, 118, 101, 110, 116, 111, 114, 121], [100, 105, 118, 105, 100, 101, 110, 100], [101, 120, 101, 99, 117, 116, 101], [116, 111, 116, 97, 108, 115], [114, 101, 115, 117, 108, 116]]
def eL : List Bool := [false, true, false, false, false, false, false, true, true, false, true, true, true, false, true, true, true, true, true, true, false, false, false]
def oL : List Bool := [false, false, false, false, false, false, false, false, false, false, false, false, false, false, false, false, false, false, true, true, false, false, false]
def pL : List Bool := [false, false, false, false, false, true, false, true, false, true, true, true, true, true, true, true, true, true, true, true, true, true, true]
def known (s : Int) : Bool := decide (1 ≤ s) && decide (s ≤ 22)
def nmS (s : Int) : List UInt8 := if known s then nmL.getD s.toNat [] else []
def uE (s : Int) : Bool := known s && eL.getD s.toNat false
def uO (s : Int) : Bool := known s && oL.getD s.toNat false
def uP (s : Int) : Bool := known s && pL.getD s.toNat false
theorem known_iff {s : Int} : known s = true ↔ 1 ≤ s ∧ s ≤ 22 := by unfold known; rw [Bool.and_eq_true, decide_eq_true_eq, decide_eq_true_eq]
theorem known_no {s : Int} : known s = false ↔ s < 1 ∨ 22 < s := by
  rw [← Bool.not_eq_true, known_iff]; omega
theorem known_nat {s : Int} (h : known s = true) : ∃ k : Nat, s = k ∧ 1 ≤ k ∧ k ≤ 22 := by
  have := known_iff.1 h
  exact ⟨s.toNat, by omega, by omega, by omega⟩
theorem cases22 {p : Nat → Prop} (h : p 1 ∧ p 2 ∧ p 3 ∧ p 4 ∧ p 5 ∧ p 6 ∧ p 7 ∧ p 8 ∧ p 9 ∧ p 10 ∧ p 11 ∧ p 12 ∧ p 13 ∧ p 14 ∧ p 15 ∧ p 16 ∧ p 17 ∧ p 18 ∧ p 19 ∧ p 20 ∧ p 21 ∧ p 22) : ∀ k, 1 ≤ k → k ≤ 22 → p k := by
  obtain ⟨h1, h2, h3, h4, h5, h6, h7, h8, h9, h10, h11, h12, h13, h14, h15, h16, h17, h18, h19, h20, h21, h22⟩ := h
  intro k g1 g2
  match k, g1, g2 with
  | 1, _, _ => exact h1
  | 2, _, _ => exact h2
  | 3, _, _ => exact h3
  | 4, _, _ => exact h4
  | 5, _, _ => exact h5
  | 6, _, _ => exact h6
  | 7, _, _ => exact h7
  | 8, _, _ => exact h8
  | 9, _, _ => exact h9
  | 10, _, _ => exact h10
  | 11, _, _ => exact h11
  | 12, _, _ => exact h12
  | 13, _, _ => exact h13
  | 14, _, _ => exact h14
  | 15, _, _ => exact h15
  | 16, _, _ => exact h16
  | 17, _, _ => exact h17
  | 18, _, _ => exact h18
  | 19, _, _ => exact h19
  | 20, _, _ => exact h20
  | 21, _, _ => exact h21
  | 22, _, _ => exact h22
  | n + 23, _, g => omega
/-- names of different stages differ, and none is empty -/
theorem nm_inj : ∀ i j : Fin 23, nmL.getD i [] = nmL.getD j [] → i = j := by decide
theorem nm_ne : ∀ i : Fin 23, 0 < i.val → nmL.getD i [] ≠ [] := by decide
theorem nm_len : ∀ i : Fin 23, (nmL.getD i []).length ≤ 12 := by decide
theorem nm_let : ∀ i : Fin 23, (nmL.getD i []).all (fun b => decide (97 ≤ b.toNat) && decide (b.toNat ≤ 122)) = true := by decide
/-- the stage with a name: the least number, or 0 -/
def stOf (l : List UInt8) : Nat := ((List.range 23).find? fun k => decide (1 ≤ k) && (nmL.getD k [] == l)).getD 0
theorem stOf_at {l : List UInt8} {k : Nat} (h1 : 1 ≤ k) (h2 : k ≤ 22) (h : nmL.getD k [] = l) : stOf l = k := by
  unfold stOf
  have hs : (List.range 23).find? (fun k => decide (1 ≤ k) && (nmL.getD k [] == l)) = some k := by
    rw [List.find?_range_eq_some]
    refine ⟨by rw [h]; simp [h1], List.mem_range.2 (by omega), fun j hj => ?_⟩
    rw [Bool.not_eq_true', Bool.and_eq_false_iff]
    by_cases hj1 : 1 ≤ j
    · right
      rw [beq_eq_false_iff_ne]
      intro e
      have := nm_inj ⟨j, by omega⟩ ⟨k, by omega⟩ (by rw [e, h])
      have := congrArg Fin.val this
      simp only [] at this
      omega
    · left; rw [decide_eq_false_iff_not]; exact hj1
  rw [hs]; rfl
theorem stOf_no {l : List UInt8} (h : ∀ k, 1 ≤ k → k ≤ 22 → nmL.getD k [] ≠ l) : stOf l = 0 := by
  unfold stOf
  have hs : (List.range 23).find? (fun k => decide (1 ≤ k) && (nmL.getD k [] == l)) = none := by
    rw [List.find?_eq_none]
    intro k hk hc
    rw [Bool.and_eq_true, decide_eq_true_eq, beq_iff_eq] at hc
    exact h k hc.1 (by have := List.mem_range.1 hk; omega) hc.2
  rw [hs]; rfl
theorem stOf_le (l : List UInt8) : stOf l ≤ 22 := by
  by_cases h : ∃ k, 1 ≤ k ∧ k ≤ 22 ∧ nmL.getD k [] = l
  · obtain ⟨k, h1, h2, h3⟩ := h
    rw [stOf_at h1 h2 h3]; exact h2
  · rw [stOf_no (fun k h1 h2 h3 => h ⟨k, h1, h2, h3⟩)]; omega
theorem stOf_name {l : List UInt8} (h : 1 ≤ stOf l) : nmL.getD (stOf l) [] = l := by
  by_cases hx : ∃ k, 1 ≤ k ∧ k ≤ 22 ∧ nmL.getD k [] = l
  · obtain ⟨k, h1, h2, h3⟩ := hx
    rw [stOf_at h1 h2 h3]; exact h3
  · rw [stOf_no (fun k h1 h2 h3 => hx ⟨k, h1, h2, h3⟩)] at h; omega
end Go.Proofs.YtophffmofpmbpaaDoor
