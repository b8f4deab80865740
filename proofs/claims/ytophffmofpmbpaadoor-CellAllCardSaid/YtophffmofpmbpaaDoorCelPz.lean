/-
  Words of a text, the cell with a text: plain laws.
-/
import Derived.Test.YtophffmofpmbpaaDoorCelPl2
import Derived.Lib.SplitLaws
namespace Go.Proofs.YtophffmofpmbpaaDoor
set_option linter.unusedVariables false
/-- the pieces of a text between its spaces -/
def wordsL : List UInt8 → List (List UInt8)
  | [] => [[]]
  | b :: r => if b = 32 then [] :: wordsL r else match wordsL r with
    | [] => [[b]]
    | w :: ws => (b :: w) :: ws
theorem wordsL_ne (l : List UInt8) : wordsL l ≠ [] := by
  cases l with
  | nil => simp [wordsL]
  | cons b r =>
    simp only [wordsL]
    split
    · simp
    · split <;> simp
theorem wordsL_no {l : List UInt8} (h : (32 : UInt8) ∉ l) : wordsL l = [l] := by
  induction l with
  | nil => rfl
  | cons b r ih =>
    simp only [wordsL]
    rw [if_neg (fun e => h (by rw [e]; simp)), ih (fun hm => h (by simp [hm]))]
theorem wordsL_at {a b : List UInt8} (h : (32 : UInt8) ∉ a) : wordsL (a ++ 32 :: b) = a :: wordsL b := by
  induction a with
  | nil => simp [wordsL]
  | cons x r ih =>
    rw [List.cons_append]
    simp only [wordsL]
    rw [if_neg (fun e => h (by rw [e]; simp)), ih (fun hm => h (by simp [hm]))]
theorem splitK_words : ∀ (k : Nat) (l : List UInt8), l.count 32 ≤ k → Lib.splitK [32] 0 k l = wordsL l := by
  intro k
  induction k with
  | zero =>
    intro l h
    have : (32 : UInt8) ∉ l := by
      intro hm
      have := List.count_pos_iff.2 hm
      omega
    rw [wordsL_no this]; rfl
  | succ k ih =>
    intro l h
    by_cases hm : (32 : UInt8) ∈ l
    · obtain ⟨a, b, rfl, ha⟩ := split_at hm
      have e1 := index_one_at (a := a) (b := b) ha
      have hc : b.count 32 ≤ k := by
        rw [List.count_append, List.count_cons_self] at h
        omega
      unfold Lib.splitK
      rw [e1, if_neg (by rw [beq_iff_eq]; omega), wordsL_at ha, ← ih b hc]
      congr 1
      · simp
      · congr 1
        simp
    · have e1 := index_one_no hm
      unfold Lib.splitK
      rw [e1, wordsL_no hm]; rfl
end Go.Proofs.YtophffmofpmbpaaDoor
