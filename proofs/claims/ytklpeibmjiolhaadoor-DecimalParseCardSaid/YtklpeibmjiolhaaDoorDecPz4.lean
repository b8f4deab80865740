/-
  The reference's reading of the form: plain laws.
-/
import Derived.Test.YtklpeibmjiolhaaDoorDecPz2
namespace Go.Proofs.YtklpeibmjiolhaaDoor
set_option linter.unusedVariables false
theorem num_take (u : List UInt8) : isNum (u.take (runL isDig u)) = decide (0 < runL isDig u) := by
  have ha := runL_all isDig u
  have hl := runL_le isDig u
  unfold isNum
  rw [ha, Bool.true_and]
  by_cases h : 0 < runL isDig u
  · rw [decide_eq_true h]
    cases u with
    | nil => simp at hl; omega
    | cons x r =>
      obtain ⟨k, hk⟩ : ∃ k, runL isDig (x :: r) = k + 1 := ⟨runL isDig (x :: r) - 1, by omega⟩
      rw [hk]; rfl
  · rw [decide_eq_false h, show runL isDig u = 0 by omega]; rfl
theorem lead_take {u : List UInt8} {k : Nat} (hk : k ≤ u.length) : lead (u.take k) = (decide (1 < k) && (u.getD 0 0 == 48)) := by
  unfold lead
  rw [List.length_take, Nat.min_eq_left hk]
  by_cases h : 1 < k
  · have : (u.take k).getD 0 0 = u.getD 0 0 := by
      cases u with
      | nil => simp
      | cons x r =>
        obtain ⟨j, rfl⟩ : ∃ j, k = j + 1 := ⟨k - 1, by omega⟩
        rfl
    rw [this]
  · rw [decide_eq_false h]; rfl
theorem fm_end {l : List UInt8} (h : (unS l).drop (runL isDig (unS l)) = []) : whL l = (unS l).take (runL isDig (unS l)) ∧ ptL l = [] ∧
    fmB l = (decide (0 < runL isDig (unS l)) && !(decide (1 < runL isDig (unS l)) && ((unS l).getD 0 0 == 48)) && !(negB l && zerosB ((unS l).take (runL isDig (unS l)) ++ []))) := by
  have hl := runL_le isDig (unS l)
  have hk : runL isDig (unS l) = (unS l).length := by rw [List.drop_eq_nil_iff] at h; omega
  have hc := cut_end hk
  have e1 : whL l = (unS l).take (runL isDig (unS l)) := by unfold whL; rw [hc, hk, List.take_length]
  have e2 : ptL l = [] := by unfold ptL; rw [hc]
  have e3 : pnB l = false := by unfold pnB; rw [hc]
  refine ⟨e1, e2, ?_⟩
  unfold fmB
  rw [e1, e2, e3, num_take, lead_take hl]
  simp
theorem fm_point {l p : List UInt8} (h : (unS l).drop (runL isDig (unS l)) = 46 :: p) : whL l = (unS l).take (runL isDig (unS l)) ∧ ptL l = p ∧
    fmB l = (decide (0 < runL isDig (unS l)) && !(decide (1 < runL isDig (unS l)) && ((unS l).getD 0 0 == 48)) && isNum p && !(negB l && zerosB ((unS l).take (runL isDig (unS l)) ++ p))) := by
  have hl := runL_le isDig (unS l)
  have hc := cut_point h
  have e1 : whL l = (unS l).take (runL isDig (unS l)) := by unfold whL; rw [hc]
  have e2 : ptL l = p := by unfold ptL; rw [hc]
  have e3 : pnB l = true := by unfold pnB; rw [hc]
  refine ⟨e1, e2, ?_⟩
  unfold fmB
  rw [e1, e2, e3, num_take, lead_take hl]
  simp
theorem fm_other {l p : List UInt8} {c : UInt8} (h : (unS l).drop (runL isDig (unS l)) = c :: p) (hc : c ≠ 46) : fmB l = false := by
  unfold fmB whL
  rw [cut_other h hc]; rfl
theorem num_run (p : List UInt8) : isNum p = (!(p == []) && (runL isDig p == p.length)) := by
  unfold isNum
  have : p.all isDig = (runL isDig p == p.length) := by
    rw [Bool.eq_iff_iff, beq_iff_eq]
    exact runL_full.symm
  rw [this]
  cases p <;> simp
theorem fm_bad {l : List UInt8} (h : (decide (0 < runL isDig (unS l)) && !(decide (1 < runL isDig (unS l)) && ((unS l).getD 0 0 == 48))) = false) : fmB l = false := by
  cases hd : (unS l).drop (runL isDig (unS l)) with
  | nil => rw [(fm_end hd).2.2, h]; rfl
  | cons c p =>
    by_cases hc : c = 46
    · subst hc; rw [(fm_point hd).2.2, h]; rfl
    · exact fm_other hd hc
end Go.Proofs.YtklpeibmjiolhaaDoor
