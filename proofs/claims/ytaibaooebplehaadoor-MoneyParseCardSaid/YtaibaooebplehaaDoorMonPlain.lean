/-
  Plain laws of amounts: no program in sight.
-/
import Derived.WalkKit
namespace Go.Proofs.YtaibaooebplehaaDoor
/-- an integer is an amount -/
def okAmt (n : Int) : Bool := decide (-1000000000000 ≤ n) && decide (n ≤ 1000000000000)
/-- n * num / den, rounded half away from zero -/
def rnd (n num den : Int) : Int := if n < 0 then -((2 * (-n) * num + den) / (2 * den)) else (2 * n * num + den) / (2 * den)
/-- the value and OK, or 0 and ErrRange -/
def chk1 (v : Int) : Int := if okAmt v then v else 0
def chk2 (v : Int) : Int := if okAmt v then 0 else 2
theorem okAmt_yes {n : Int} (h : -1000000000000 ≤ n ∧ n ≤ 1000000000000) : okAmt n = true := by simp [okAmt]; omega
theorem okAmt_no {n : Int} (h : n < -1000000000000 ∨ 1000000000000 < n) : okAmt n = false := by simp [okAmt]; omega
theorem okAmt_iff {n : Int} : okAmt n = true ↔ -1000000000000 ≤ n ∧ n ≤ 1000000000000 := by simp [okAmt]
theorem okAmt_neg (n : Int) : okAmt (-n) = okAmt n := by
  rw [Bool.eq_iff_iff, okAmt_iff, okAmt_iff]; omega

theorem mul_split (a num den : Int) (hd : 1 ≤ den) : (2 * a * num + den) / (2 * den) = a * (num / den) + (2 * a * (num % den) + den) / (2 * den) := by
  have h1 : num = den * (num / den) + num % den := (Int.mul_ediv_add_emod num den).symm
  generalize num / den = q at *
  generalize num % den = r at *
  subst h1
  have h2 : 2 * a * (den * q + r) + den = (2 * a * r + den) + (a * q) * (2 * den) := by
    rw [Int.mul_add]
    have : 2 * a * (den * q) = a * q * (2 * den) := by
      simp only [Int.mul_assoc, Int.mul_left_comm, Int.mul_comm]
    omega
  rw [h2, Int.add_mul_ediv_right _ _ (by omega)]; omega
theorem big (a num den : Int) (ha : 0 ≤ a) (hd : 1 ≤ den) (hw : 1000000000000 < a * (num / den)) : 1000000000000 < (2 * a * num + den) / (2 * den) := by
  rw [mul_split a num den hd]
  have h0 : 0 ≤ num % den := Int.emod_nonneg _ (by omega)
  have h1 : 0 ≤ 2 * a * (num % den) := Int.mul_nonneg (by omega) h0
  have : 0 ≤ (2 * a * (num % den) + den) / (2 * den) := Int.ediv_nonneg (by omega) (by omega)
  omega
theorem gt_of_div (a w : Int) (hw : 0 < w) (h : 1000000000000 / w < a) : 1000000000000 < a * w := by
  have := Int.lt_mul_of_ediv_lt hw h
  omega
theorem le_of_div (a w : Int) (hw : 0 < w) (h : a ≤ 1000000000000 / w) : a * w ≤ 1000000000000 := by
  have := Int.mul_le_of_le_ediv hw h
  omega
/-- the bounds of the terms of a rounded product -/
theorem terms (a num den : Int) (ha : 0 ≤ a) (ha' : a ≤ 1000000000000) (hn : 0 ≤ num) (hd : 1 ≤ den) (hd' : den ≤ 1000000) :
    0 ≤ num / den ∧ num / den ≤ num ∧ 0 ≤ num % den ∧ num % den < den ∧ 0 ≤ a * (num / den) ∧ 0 ≤ 2 * a * (num % den) ∧ 2 * a * (num % den) ≤ 2000000000000000000 ∧
      0 ≤ (2 * a * (num % den) + den) / (2 * den) ∧ (2 * a * (num % den) + den) / (2 * den) ≤ 1000000000001 ∧ 0 ≤ a * (num % den) ∧ a * (num % den) ≤ 1000000000000000000 := by
  have h0 : 0 ≤ num % den := Int.emod_nonneg _ (by omega)
  have h1 : num % den < den := Int.emod_lt_of_pos _ (by omega)
  have h2 : 0 ≤ num / den := Int.ediv_nonneg hn (by omega)
  have h3 : num / den ≤ num := Int.ediv_le_self _ hn
  have h4 : 0 ≤ a * (num / den) := Int.mul_nonneg ha h2
  have h5 : 0 ≤ a * (num % den) := Int.mul_nonneg ha h0
  have h6 : a * (num % den) ≤ 1000000000000 * 1000000 := Int.mul_le_mul ha' (by omega) h0 (by omega)
  have h7 : 2 * a * (num % den) = 2 * (a * (num % den)) := Int.mul_assoc _ _ _
  have h8 : a * (num % den) ≤ a * den := Int.mul_le_mul_of_nonneg_left (by omega) ha
  refine ⟨h2, h3, h0, h1, h4, by omega, by omega, Int.ediv_nonneg (by omega) (by omega), ?_, h5, by omega⟩
  have h9 : 2 * a * (num % den) + den ≤ 1000000000001 * (2 * den) := by
    have : a * den ≤ 1000000000000 * den := Int.mul_le_mul_of_nonneg_right ha' (by omega)
    omega
  exact Int.ediv_le_of_le_mul (by omega) h9
end Go.Proofs.YtaibaooebplehaaDoor
