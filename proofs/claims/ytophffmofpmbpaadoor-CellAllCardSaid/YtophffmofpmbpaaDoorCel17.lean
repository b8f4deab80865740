/-
  Compare of both, cmp.Or.
-/
import Derived.Test.YtophffmofpmbpaaDoorCel12
import Derived.StillTailTactics
namespace Go.Proofs.YtophffmofpmbpaaDoor
open Go.RowKit
set_option linter.unusedVariables false
def cmpI (x y : Int) : Int := if x < y then -1 else if y < x then 1 else 0
def orL (xs : List Int) : Int := (xs.find? (· != 0)).getD 0
def cmpC (a b : SCell) : Int := orL [cmpI a.st b.st, cmpI a.pe b.pe, cmpI a.en b.en, cmpI a.ot b.ot]
def ltC (a b : SCell) : Prop := a.st < b.st ∨ (a.st = b.st ∧ (a.pe < b.pe ∨ (a.pe = b.pe ∧ (a.en < b.en ∨ (a.en = b.en ∧ a.ot < b.ot)))))
theorem cmpI_spec (x y : Int) : (cmpI x y = -1 ∧ x < y) ∨ (cmpI x y = 1 ∧ y < x) ∨ (cmpI x y = 0 ∧ x = y) := by
  unfold cmpI
  split
  · exact .inl ⟨rfl, by assumption⟩
  · split
    · exact .inr (.inl ⟨rfl, by assumption⟩)
    · exact .inr (.inr ⟨rfl, by omega⟩)
theorem orL_cons (x : Int) (xs : List Int) : orL (x :: xs) = if x = 0 then orL xs else x := by
  unfold orL
  rw [List.find?_cons]
  by_cases h : x = 0
  · rw [if_pos h, h]; rfl
  · rw [if_neg h, show (x != 0) = true by simp [h]]; rfl
theorem orL_nil : orL [] = 0 := rfl
theorem cmpC_spec (a b : SCell) : (cmpC a b = -1 ∧ ltC a b) ∨ (cmpC a b = 1 ∧ ltC b a) ∨ (cmpC a b = 0 ∧ a.st = b.st ∧ a.en = b.en ∧ a.ot = b.ot ∧ a.pe = b.pe) := by
  unfold cmpC ltC
  simp only [orL_cons, orL_nil]
  rcases cmpI_spec a.st b.st with ⟨h1, g1⟩ | ⟨h1, g1⟩ | ⟨h1, g1⟩
  · rw [h1, if_neg (by omega)]; exact .inl ⟨rfl, by omega⟩
  · rw [h1, if_neg (by omega)]; exact .inr (.inl ⟨rfl, by omega⟩)
  · rw [h1, if_pos rfl]
    rcases cmpI_spec a.pe b.pe with ⟨h2, g2⟩ | ⟨h2, g2⟩ | ⟨h2, g2⟩
    · rw [h2, if_neg (by omega)]; exact .inl ⟨rfl, by omega⟩
    · rw [h2, if_neg (by omega)]; exact .inr (.inl ⟨rfl, by omega⟩)
    · rw [h2, if_pos rfl]
      rcases cmpI_spec a.en b.en with ⟨h3, g3⟩ | ⟨h3, g3⟩ | ⟨h3, g3⟩
      · rw [h3, if_neg (by omega)]; exact .inl ⟨rfl, by omega⟩
      · rw [h3, if_neg (by omega)]; exact .inr (.inl ⟨rfl, by omega⟩)
      · rw [h3, if_pos rfl]
        rcases cmpI_spec a.ot b.ot with ⟨h4, g4⟩ | ⟨h4, g4⟩ | ⟨h4, g4⟩
        · rw [h4, if_neg (by omega)]; exact .inl ⟨rfl, by omega⟩
        · rw [h4, if_neg (by omega)]; exact .inr (.inl ⟨rfl, by omega⟩)
        · rw [h4, if_pos rfl]; exact .inr (.inr ⟨rfl, g1, g3, g4, g2⟩)
theorem cmpC_swap (a b : SCell) : cmpC b a = - cmpC a b := by
  have h1 := cmpC_spec a b
  have h2 := cmpC_spec b a
  unfold ltC at h1 h2
  omega
theorem cmpC_trans (a b c : SCell) (h : cmpC a b ≤ 0) (h' : cmpC b c ≤ 0) : cmpC a c ≤ 0 := by
  have h1 := cmpC_spec a b
  have h2 := cmpC_spec b c
  have h3 := cmpC_spec a c
  unfold ltC at h1 h2 h3
  omega
theorem cmpC_self (a : SCell) : cmpC a a = 0 := by
  have h1 := cmpC_spec a a
  unfold ltC at h1
  omega
end Go.Proofs.YtophffmofpmbpaaDoor
