/-
  Rounding does not reverse the order: plain laws.
-/
import Derived.Test.YtklpeibmjiolhaaDoorDecPlain
namespace Go.Proofs.YtklpeibmjiolhaaDoor
/-- the absolute value of the rounded quotient -/
def fI (m : Int) (neg : Bool) (a d : Int) : Int := if more m neg (a / d) (a % d) d && decide (0 < a % d) then a / d + 1 else a / d
theorem fI_bd (m : Int) (neg : Bool) (a d : Int) : a / d ≤ fI m neg a d ∧ fI m neg a d ≤ a / d + 1 := by unfold fI; split <;> omega
theorem fI_nonneg (m : Int) (neg : Bool) {a d : Int} (ha : 0 ≤ a) (hd : 0 < d) : 0 ≤ fI m neg a d := by
  have := Int.ediv_nonneg ha (show 0 ≤ d by omega)
  have := fI_bd m neg a d
  omega
theorem more_mono (m : Int) (neg : Bool) (q r s d : Int) (h : r ≤ s) (hm : more m neg q r d = true) : more m neg q s d = true := by
  unfold more at hm ⊢
  split
  · rename_i h0; rw [if_pos h0] at hm; simp at hm ⊢; omega
  · rename_i h0; rw [if_neg h0] at hm
    split
    · rename_i h1; rw [if_pos h1] at hm; simp at hm ⊢; omega
    · rename_i h1; rw [if_neg h1] at hm; exact hm
theorem fI_mono (m : Int) (neg : Bool) {a b d : Int} (hd : 0 < d) (h : a ≤ b) : fI m neg a d ≤ fI m neg b d := by
  have h1 := Int.mul_ediv_add_emod a d
  have h2 := Int.mul_ediv_add_emod b d
  have hq : a / d ≤ b / d := Int.ediv_le_ediv hd h
  have r1 := Int.emod_nonneg a (show d ≠ 0 by omega)
  have r2 := Int.emod_nonneg b (show d ≠ 0 by omega)
  have r4 := Int.emod_lt_of_pos b hd
  obtain ⟨a1, a2⟩ := fI_bd m neg a d
  obtain ⟨b1, b2⟩ := fI_bd m neg b d
  rcases Int.lt_or_eq_of_le hq with hlt | he
  · omega
  · have hr : a % d ≤ b % d := by rw [he] at h1; omega
    unfold fI at *
    rw [he] at *
    generalize b / d = q at *
    generalize a % d = r at *
    generalize b % d = s at *
    cases hm : more m neg q r d
    · simp only [Bool.false_and, Bool.false_eq_true, if_false]; split <;> omega
    · have := more_mono m neg q r s d hr hm
      rw [this]
      simp only [Bool.true_and, decide_eq_true_eq]
      split <;> split <;> omega
theorem rdI_pos {x d m : Int} (hx : 0 ≤ x) (hd : 0 < d) : rdI x d m = fI m false x d := by
  have e1 : absI x = x := by unfold absI; rw [if_neg (by omega)]
  have e2 : absI d = d := by unfold absI; rw [if_neg (by omega)]
  have e3 : ngB x d = false := by unfold ngB; rw [show decide (x < 0) = false by simp; omega, show decide (d < 0) = false by simp; omega]; rfl
  unfold rdI qu re
  rw [e1, e2, e3]
  rfl
theorem rdI_neg {x d m : Int} (hx : x < 0) (hd : 0 < d) : rdI x d m = -fI m true (-x) d := by
  have e1 : absI x = -x := by unfold absI; rw [if_pos hx]
  have e2 : absI d = d := by unfold absI; rw [if_neg (by omega)]
  have e3 : ngB x d = true := by unfold ngB; rw [show decide (x < 0) = true by simp; omega, show decide (d < 0) = false by simp; omega]; rfl
  unfold rdI qu re
  rw [e1, e2, e3]
  rfl
/-- in each mode, a greater numerator has no lesser rounded quotient -/
theorem rdI_mono {x y d : Int} (m : Int) (hd : 0 < d) (h : x ≤ y) : rdI x d m ≤ rdI y d m := by
  by_cases hx : x < 0
  · rw [rdI_neg hx hd]
    by_cases hy : y < 0
    · rw [rdI_neg hy hd]
      have := fI_mono m true hd (show -y ≤ -x by omega)
      omega
    · rw [rdI_pos (by omega) hd]
      have := fI_nonneg m true (show 0 ≤ -x by omega) hd
      have := fI_nonneg m false (show 0 ≤ y by omega) hd
      omega
  · rw [rdI_pos (by omega) hd, rdI_pos (by omega) hd]
    exact fI_mono m false hd h
end Go.Proofs.YtklpeibmjiolhaaDoor
