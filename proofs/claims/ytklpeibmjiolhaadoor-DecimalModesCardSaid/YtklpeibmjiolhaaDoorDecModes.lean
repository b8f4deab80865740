/-
  How the modes' results lie to each other: plain laws.
-/
import Derived.Test.YtklpeibmjiolhaaDoorDecNear
namespace Go.Proofs.YtklpeibmjiolhaaDoor
set_option linter.unusedVariables false
theorem absI_nn {x : Int} (h : 0 ≤ x) : absI x = x := by unfold absI; rw [if_neg (by omega)]
theorem absI_neg (n : Int) : absI (-n) = absI n := by unfold absI; (repeat' split) <;> omega
theorem rdI_q (num den m : Int) : rdI num den m = rounded (qu num den) (re num den) (ngB num den) (more m (ngB num den) (qu num den) (re num den) (absI den)) := rfl
theorem qu_neg (num den : Int) : qu (-num) den = qu num den := by unfold qu; rw [absI_neg]
theorem re_neg (num den : Int) : re (-num) den = re num den := by unfold re; rw [absI_neg]
theorem ngB_neg {num den : Int} (h : num ≠ 0) : ngB (-num) den = !ngB num den := by
  unfold ngB
  by_cases h1 : num < 0
  · rw [decide_eq_true h1, decide_eq_false (show ¬ -num < 0 by omega)]; cases decide (den < 0) <;> rfl
  · rw [decide_eq_false h1, decide_eq_true (show -num < 0 by omega)]; cases decide (den < 0) <;> rfl
/-- the modes up to Up do not look at the sign -/
theorem more_sign {m : Int} (h : m = 0 ∨ m = 1 ∨ m = 2 ∨ m = 3) (a b : Bool) (q r d : Int) : more m a q r d = more m b q r d := by
  rcases h with rfl | rfl | rfl | rfl <;> rfl
theorem rounded_flip (q r : Int) (neg b : Bool) : rounded q r (!neg) b = -rounded q r neg b := by
  unfold rounded
  cases neg <;> simp
theorem md_neg {num den m : Int} (h : m = 0 ∨ m = 1 ∨ m = 2 ∨ m = 3) : rdI (-num) den m = -rdI num den m := by
  by_cases h0 : num = 0
  · subst h0
    rw [show (-0 : Int) = 0 from rfl, rd_zero]
    rfl
  · rw [rdI_q, rdI_q, qu_neg, re_neg, ngB_neg h0, more_sign h _ (ngB num den), rounded_flip]
theorem more4 (neg : Bool) (q r d : Int) : more 4 neg q r d = neg := rfl
theorem more5 (neg : Bool) (q r d : Int) : more 5 neg q r d = !neg := rfl
theorem md_swap (num den : Int) : rdI (-num) den 4 = -rdI num den 5 ∧ rdI (-num) den 5 = -rdI num den 4 := by
  by_cases h0 : num = 0
  · subst h0
    rw [show (-0 : Int) = 0 from rfl, rd_zero, rd_zero]
    exact ⟨rfl, rfl⟩
  · constructor
    · rw [rdI_q, rdI_q, qu_neg, re_neg, ngB_neg h0, more4, more5, rounded_flip]
    · rw [rdI_q, rdI_q, qu_neg, re_neg, ngB_neg h0, more4, more5, Bool.not_not, rounded_flip]
theorem md_ends (num den : Int) : rdI num den 5 - rdI num den 4 ≤ 1 ∧ rdI num den 4 ≤ rdI num den 5 := by
  rw [rdI_q, rdI_q, more4, more5]
  unfold rounded
  cases ngB num den <;> simp <;> split <;> omega
theorem md_either (num den m : Int) : rdI num den m = rdI num den 4 ∨ rdI num den m = rdI num den 5 := by
  rw [rdI_q, rdI_q num den 4, rdI_q num den 5, more4, more5]
  unfold rounded
  cases ngB num den <;> cases more m _ (qu num den) (re num den) (absI den) <;> simp
theorem absI_or (n : Int) : absI n = n ∨ absI n = -n := by unfold absI; split <;> omega
theorem re_tmod {num den : Int} (hd : den ≠ 0) : re num den = 0 ↔ num.tmod den = 0 := by
  rw [← Int.dvd_iff_tmod_eq_zero]
  unfold re
  rw [← Int.dvd_iff_emod_eq_zero]
  rcases absI_or num with h1 | h1 <;> rcases absI_or den with h2 | h2 <;> rw [h1, h2] <;> simp
theorem md_exact {num den : Int} (hd : den ≠ 0) : rdI num den 5 = rdI num den 4 ↔ num.tmod den = 0 := by
  rw [← re_tmod hd, rdI_q, rdI_q num den 4, more4, more5]
  obtain ⟨q1, q2, q3, q4, q5⟩ := qr_bd (num := num) hd
  unfold rounded
  cases ngB num den <;> simp <;> constructor <;> intro h
  · by_cases h' : 0 < re num den
    · have := h h'; omega
    · omega
  · intro h'; omega
  · by_cases h' : 0 < re num den
    · have := h h'; omega
    · omega
  · intro h'; omega
/-- the absolute values: what a result and its distance are -/
theorem md_abs {num den : Int} (hd : den ≠ 0) (m : Int) : ∃ F : Int, (rdI num den m = F ∨ rdI num den m = -F) ∧ F = (if more m (ngB num den) (qu num den) (re num den) (absI den) && decide (0 < re num den) then qu num den + 1 else qu num den) ∧
    absI (num - rdI num den m * den) = absI (absI num - F * absI den) := by
  refine ⟨_, ?_, rfl, ?_⟩
  · rw [rdI_q]; unfold rounded; cases ngB num den <;> simp
  · generalize hF : (if more m (ngB num den) (qu num den) (re num den) (absI den) && decide (0 < re num den) then qu num den + 1 else qu num den) = F
    have hr : rdI num den m = if ngB num den then -F else F := by rw [rdI_q, ← hF]; rfl
    rw [hr]
    unfold ngB
    by_cases h1 : num < 0
    · by_cases h2 : den < 0
      · rw [decide_eq_true h1, decide_eq_true h2]
        have e1 : absI num = -num := by unfold absI; rw [if_pos h1]
        have e2 : absI den = -den := by unfold absI; rw [if_pos h2]
        rw [e1, e2, ← absI_neg]
        congr 1
        have : F * -den = -(F * den) := Int.mul_neg _ _
        simp only [bne_self_eq_false, Bool.false_eq_true, if_false]
        omega
      · rw [decide_eq_true h1, decide_eq_false h2]
        have e1 : absI num = -num := by unfold absI; rw [if_pos h1]
        have e2 : absI den = den := by unfold absI; rw [if_neg h2]
        rw [e1, e2, ← absI_neg]
        congr 1
        have : -F * den = -(F * den) := Int.neg_mul _ _
        rw [show (true != false) = true from rfl, if_pos rfl]
        omega
    · by_cases h2 : den < 0
      · rw [decide_eq_false h1, decide_eq_true h2]
        have e1 : absI num = num := by unfold absI; rw [if_neg h1]
        have e2 : absI den = -den := by unfold absI; rw [if_pos h2]
        rw [e1, e2]
        congr 1
        have a : -F * den = -(F * den) := Int.neg_mul _ _
        have b : F * -den = -(F * den) := Int.mul_neg _ _
        rw [show (false != true) = true from rfl, if_pos rfl]
        omega
      · rw [decide_eq_false h1, decide_eq_false h2]
        have e1 : absI num = num := by unfold absI; rw [if_neg h1]
        have e2 : absI den = den := by unfold absI; rw [if_neg h2]
        rw [e1, e2]
        congr 1
/-- halves go to the nearest integer, of two to the even one -/
theorem md_near {num den m : Int} (hd : den ≠ 0) (hm : m = 0 ∨ m = 1) : 2 * absI (num - rdI num den m * den) ≤ absI den ∧ (m = 1 → 2 * absI (num - rdI num den m * den) = absI den → (rdI num den m).tmod 2 = 0) := by
  obtain ⟨F, h1, h2, h3⟩ := md_abs (num := num) hd m
  obtain ⟨q1, q2, q3, q4, q5⟩ := qr_bd (num := num) hd
  have hp := absI_pos hd
  have hmul := Int.mul_ediv_add_emod (absI num) (absI den)
  have e : absI den * (absI num / absI den) = qu num den * absI den := Int.mul_comm _ _
  have e0 : absI num % absI den = re num den := rfl
  have e1 : (qu num den + 1) * absI den = qu num den * absI den + absI den := by rw [Int.add_mul, Int.one_mul]
  have ev : ∀ x : Int, x % 2 = 0 → x.tmod 2 = 0 := fun x h => Int.tmod_eq_zero_of_dvd (Int.dvd_of_emod_eq_zero h)
  rw [h3]
  cases hb : more m (ngB num den) (qu num den) (re num den) (absI den)
  · rw [hb] at h2
    simp only [Bool.false_and, Bool.false_eq_true, if_false] at h2
    rw [h2] at h1 ⊢
    have ha : absI num - qu num den * absI den = re num den := by omega
    rw [ha]
    have hab : absI (re num den) = re num den := absI_nn (by omega)
    rw [hab]
    unfold more at hb
    rcases hm with rfl | rfl
    · simp at hb
      exact ⟨by omega, fun h => absurd h (by decide)⟩
    · simp at hb
      refine ⟨by omega, fun _ hh => ev _ ?_⟩
      have := hb.2 (by omega)
      rcases h1 with h1 | h1 <;> omega
  · have hr : 0 < re num den := by
      unfold more at hb
      rcases hm with rfl | rfl
      · simp at hb; omega
      · simp at hb; omega
    rw [hb, decide_eq_true hr] at h2
    simp only [Bool.and_self, if_true] at h2
    rw [h2] at h1 ⊢
    have ha : absI num - (qu num den + 1) * absI den = -(absI den - re num den) := by rw [e1, ← e0]; omega
    rw [ha, absI_neg]
    have hab : absI (absI den - re num den) = absI den - re num den := absI_nn (by omega)
    rw [hab]
    unfold more at hb
    rcases hm with rfl | rfl
    · simp at hb
      exact ⟨by omega, fun h => absurd h (by decide)⟩
    · simp at hb
      refine ⟨by omega, fun _ hh => ev _ ?_⟩
      rcases h1 with h1 | h1 <;> omega
theorem md_bd {num den : Int} (hd : den ≠ 0) (m : Int) {M : Int} (h : -M ≤ num ∧ num ≤ M) : -(M + 1) ≤ rdI num den m ∧ rdI num den m ≤ M + 1 := by
  obtain ⟨q1, q2, q3, q4, q5⟩ := qr_bd (num := num) hd
  have := absI_bd h
  rw [rdI_q]
  have := rounded_bd (qu num den) (re num den) (ngB num den) (more m (ngB num den) (qu num den) (re num den) (absI den)) q1
  omega
end Go.Proofs.YtklpeibmjiolhaaDoor
