/-
  The law's sides: the totals of the titles of a report: plain.
-/
import Derived.Test.YtcmmppkmkejniaaGreatDoorBlSr
import Derived.Test.YtcmmppkmkejniaaGreatDoorGvScP
namespace Go.Proofs.YtcmmppkmkejniaaGreatDoor
open Go.RowKit
set_option linter.unusedVariables false
/-- the totals of the rows of level 0, up to a number of rows; none where one has none -/
def sdUp (xs : List SLine) (rs : List SRow) : Nat → Option (List Int)
  | 0 => some []
  | k + 1 => match sdUp xs rs k with
    | none => none
    | some l => if 0 < (rs.getD k default).level then some l else if suE xs k = 0 then some (l ++ [suN xs k]) else none
theorem sdUp_len {xs : List SLine} {rs : List SRow} : ∀ {k : Nat} {l : List Int}, sdUp xs rs k = some l → l.length ≤ k := by
  intro k
  induction k with
  | zero => intro l h; simp [sdUp] at h; subst h; simp
  | succ k ih =>
    intro l h
    unfold sdUp at h
    cases e : sdUp xs rs k with
    | none => rw [e] at h; cases h
    | some l0 =>
      rw [e] at h
      have := ih e
      simp only [] at h
      split at h
      · cases h; omega
      · split at h
        · cases h; simp; omega
        · cases h
theorem sdUp_none {xs : List SLine} {rs : List SRow} {k : Nat} (h : sdUp xs rs k = none) : ∀ m, k ≤ m → sdUp xs rs m = none := by
  intro m hm
  induction m with
  | zero => obtain rfl : k = 0 := by omega
            exact h
  | succ m ih =>
    by_cases e : k = m + 1
    · subst e; exact h
    · unfold sdUp; rw [ih (by omega)]
theorem sdUp_in {xs : List SLine} {rs : List SRow} {k : Nat} {l : List Int} (h : sdUp xs rs k = some l) (hl : 0 < (rs.getD k default).level) : sdUp xs rs (k + 1) = some l := by
  unfold sdUp; rw [h]; simp only []; rw [if_pos hl]
theorem sdUp_top {xs : List SLine} {rs : List SRow} {k : Nat} {l : List Int} (h : sdUp xs rs k = some l) (hl : ¬ 0 < (rs.getD k default).level) (he : suE xs k = 0) : sdUp xs rs (k + 1) = some (l ++ [suN xs k]) := by
  unfold sdUp; rw [h]; simp only []; rw [if_neg hl, if_pos he]
theorem sdUp_bad {xs : List SLine} {rs : List SRow} {k : Nat} {l : List Int} (h : sdUp xs rs k = some l) (hl : ¬ 0 < (rs.getD k default).level) (he : ¬ suE xs k = 0) : sdUp xs rs (k + 1) = none := by
  unfold sdUp; rw [h]; simp only []; rw [if_neg hl, if_neg he]
end Go.Proofs.YtcmmppkmkejniaaGreatDoor
