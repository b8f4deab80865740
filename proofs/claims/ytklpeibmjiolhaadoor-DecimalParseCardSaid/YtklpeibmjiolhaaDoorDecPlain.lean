/-
  Rounding quotients: plain laws, no program in sight.
-/
import Derived.WalkKit
namespace Go.Proofs.YtklpeibmjiolhaaDoor
def absI (n : Int) : Int := if n < 0 then -n else n
def ngB (num den : Int) : Bool := decide (num < 0) != decide (den < 0)
def qu (num den : Int) : Int := absI num / absI den
def re (num den : Int) : Int := absI num % absI den
/-- is the absolute value increased? -/
def more (mode : Int) (neg : Bool) (q r d : Int) : Bool :=
  if mode = 0 then decide (d ≤ 2 * r) else if mode = 1 then decide (d < 2 * r) || (decide (2 * r = d) && decide (q % 2 = 1)) else if mode = 2 then false
  else if mode = 3 then true else if mode = 4 then neg else !neg
/-- the integer, with or without one more in absolute value -/
def rounded (q r : Int) (neg m : Bool) : Int := if neg then -(if m && decide (0 < r) then q + 1 else q) else (if m && decide (0 < r) then q + 1 else q)
/-- the rounded quotient -/
def rdI (num den mode : Int) : Int := rounded (qu num den) (re num den) (ngB num den) (more mode (ngB num den) (qu num den) (re num den) (absI den))
theorem absI_bd {n A : Int} (h : -A ≤ n ∧ n ≤ A) : 0 ≤ absI n ∧ absI n ≤ A := by unfold absI; split <;> omega
theorem absI_pos {n : Int} (h : n ≠ 0) : 1 ≤ absI n := by unfold absI; split <;> omega
theorem qr_bd {num den : Int} (hd : den ≠ 0) : 0 ≤ qu num den ∧ qu num den ≤ absI num ∧ 0 ≤ re num den ∧ re num den < absI den ∧ re num den ≤ absI num := by
  have h1 := absI_pos hd
  have h2 : 0 ≤ absI num := by unfold absI; split <;> omega
  unfold qu re
  exact ⟨Int.ediv_nonneg h2 (by omega), Int.ediv_le_self _ h2, Int.emod_nonneg _ (by omega), Int.emod_lt_of_pos _ (by omega), by have := Int.emod_lt_of_pos (absI num) (show 0 < absI den by omega); rcases Int.lt_or_le (absI num) (absI den) with h | h; rw [Int.emod_eq_of_lt h2 h]; omega; omega⟩
end Go.Proofs.YtklpeibmjiolhaaDoor
