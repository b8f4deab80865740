/-
  Walks of the reference's Valid, checked, Round, Portion, Convert.
-/
import Derived.Test.YtaibaooebplehaaDoorMonW3
namespace Go.Proofs.YtaibaooebplehaaDoor
open Go.RowKit
set_option linter.unusedVariables false
theorem refValid_any (n : Int) (w : World) : Calls Tryd.prog 15 #[.int .i64 n] w fun e w' => e = .returned (.bool (okAmt n)) ∧ w = w' := by
  by_cases h1 : -1000000000000 ≤ n
  · by_cases h2 : n ≤ 1000000000000
    · rw [okAmt_yes ⟨h1, h2⟩]
      go_enter Tryd.func15, Tryd.ntmps15
      go_wp2
      go_ret
      exact ⟨rfl, rfl⟩
    · rw [okAmt_no (by omega)]
      have h3 : decide (n ≤ 1000000000000) = false := by simp; omega
      clear h2
      go_enter Tryd.func15, Tryd.ntmps15
      go_wp2
      go_ret
      exact ⟨rfl, rfl⟩
  · rw [okAmt_no (by omega)]
    have h3 : decide (-1000000000000 ≤ n) = false := by simp; omega
    clear h1
    go_enter Tryd.func15, Tryd.ntmps15
    go_wp2
    go_ret
    exact ⟨rfl, rfl⟩
theorem refChecked_any (v : Int) (w : World) : Calls Tryd.prog 29 #[.int .i64 v] w fun e w' => e = .returned (.tuple #[.int .i64 (chk1 v), .int .i64 (chk2 v)]) ∧ w = w' := by
  unfold chk1 chk2
  cases ho : okAmt v
  · go_enter Tryd.func29, Tryd.ntmps29
    go_wp2_with (go_at_call 15; refine (refValid_any _ _).mono ?_; rintro e w' ⟨rfl, rfl⟩)
    go_ret2
    exact ⟨rfl, rfl⟩
  · go_enter Tryd.func29, Tryd.ntmps29
    go_wp2_with (go_at_call 15; refine (refValid_any _ _).mono ?_; rintro e w' ⟨rfl, rfl⟩)
    go_ret2
    exact ⟨rfl, rfl⟩
/-- to the nearest integer, halves up -/
def rndUp (a b : Int) : Int := (2 * a + b) / (2 * b)
theorem rndUp_hi {a b : Int} (hb : 1 ≤ b) (ha : 0 ≤ a) (h : b - a % b ≤ a % b) : rndUp a b = a / b + 1 := by
  have h1 : a = b * (a / b) + a % b := (Int.mul_ediv_add_emod a b).symm
  have h2 := Int.emod_lt_of_pos a (show 0 < b by omega)
  unfold rndUp
  generalize a / b = q at *
  generalize a % b = r at *
  subst h1
  have h3 : 2 * (b * q + r) + b = (2 * r - b) + (q + 1) * (2 * b) := by
    rw [Int.mul_add, Int.add_mul]
    have : 2 * (b * q) = q * (2 * b) := by simp only [Int.mul_assoc, Int.mul_left_comm, Int.mul_comm]
    omega
  rw [h3, Int.add_mul_ediv_right _ _ (by omega), Int.ediv_eq_zero_of_lt (by omega) (by omega)]; omega
theorem rndUp_lo {a b : Int} (hb : 1 ≤ b) (ha : 0 ≤ a) (h : a % b < b - a % b) : rndUp a b = a / b := by
  have h1 : a = b * (a / b) + a % b := (Int.mul_ediv_add_emod a b).symm
  have h2 := Int.emod_nonneg a (show b ≠ 0 by omega)
  unfold rndUp
  generalize a / b = q at *
  generalize a % b = r at *
  subst h1
  have h3 : 2 * (b * q + r) + b = (2 * r + b) + q * (2 * b) := by
    rw [Int.mul_add]
    have : 2 * (b * q) = q * (2 * b) := by simp only [Int.mul_assoc, Int.mul_left_comm, Int.mul_comm]
    omega
  rw [h3, Int.add_mul_ediv_right _ _ (by omega), Int.ediv_eq_zero_of_lt (by omega) (by omega)]; omega
theorem refRound_any (a b : Int) (w : World) (h1 : 0 ≤ a) (h2 : a ≤ 1000000000000000000) (h3 : 1 ≤ b) (h4 : b ≤ 1000000) :
    Calls Tryd.prog 30 #[.int .i64 a, .int .i64 b] w fun e w' => e = .returned (.int .i64 (rndUp a b)) ∧ ∃ k, w' = w.drewN k := by
  have hm0 : 0 ≤ a % b := Int.emod_nonneg _ (by omega)
  have hm1 : a % b < b := Int.emod_lt_of_pos _ (by omega)
  have hq0 : 0 ≤ a / b := Int.ediv_nonneg h1 (by omega)
  have hq1 : a / b ≤ a := Int.ediv_le_self _ h1
  have hsub : IntKind.i64.wrap (b - a % b) = b - a % b := IntWalk.i64_in _ (by omega)
  by_cases h : b - a % b ≤ a % b
  · rw [rndUp_hi h3 h1 h]
    go_enter Tryd.func30, Tryd.ntmps30
    go_wp2_with fail
    go_quiet (fail)
    go_wp2_with fail
    go_ret
    exact ⟨rfl, _, rfl⟩
  · rw [rndUp_lo h3 h1 (by omega)]
    have hd : decide (b - a % b ≤ a % b) = false := by simp; omega
    clear h
    go_enter Tryd.func30, Tryd.ntmps30
    go_wp2_with fail
    go_quiet (fail)
    go_wp2_with fail
    go_ret
    exact ⟨rfl, _, rfl⟩
theorem gt_div_iff {a w : Int} (ha : 0 < a) (h : 1000000000000 / a < w) : 1000000000000 < a * w := by
  have := Int.lt_mul_of_ediv_lt ha h
  rw [Int.mul_comm]; omega
theorem le_div_iff {a w : Int} (ha : 0 < a) (h : w ≤ 1000000000000 / a) : a * w ≤ 1000000000000 := by
  have := Int.mul_le_of_le_ediv ha h
  rw [Int.mul_comm]; omega
theorem rndUp_mul (n r den : Int) : rndUp (n * r) den = (2 * n * r + den) / (2 * den) := by unfold rndUp; rw [Int.mul_assoc]
set_option maxHeartbeats 1000000 in
theorem refPortion_pos (n num den : Int) (w : World) (h1 : 0 ≤ n) (h2 : n ≤ 1000000000000) (h3 : 0 ≤ num) (h4 : num ≤ 1000000000000) (h5 : 1 ≤ den) (h6 : den ≤ 1000000) :
    Calls Tryd.prog 19 #[.int .i64 n, .int .i64 num, .int .i64 den] w fun e w' =>
      e = .returned (.tuple #[.int .i64 (chk1 (rnd n num den)), .int .i64 (chk2 (rnd n num den))]) ∧ ∃ k, w' = w.drewN k := by
  have ho : okAmt n = true := okAmt_yes ⟨by omega, h2⟩
  obtain ⟨t1, t2, t3, t4, t5, t6, t7, t8, t9, t10, t11⟩ := terms n num den h1 h2 h3 h5 h6
  have hs := mul_split n num den h5
  have h3d : decide (num < 0) = false := by simp; omega
  have h4d : decide (1000000000000 < num) = false := by simp; omega
  have h5d : decide (den < 1) = false := by simp; omega
  have h6d : decide (1000000 < den) = false := by simp; omega
  by_cases hn : 0 < n
  · by_cases hb : 1000000000000 / n < num / den
    · have hfin : chk1 (rnd n num den) = 0 ∧ chk2 (rnd n num den) = 2 := chk_big (by rw [rnd_pos' h1]; have := big n num den h1 h5 (gt_div_iff hn hb); omega)
      rw [hfin.1, hfin.2]
      clear hfin hs
      go_enter Tryd.func19, Tryd.ntmps19
      go_wp2_with (go_at_call 15; refine (refValid_any _ _).mono ?_; rintro e w' ⟨rfl, rfl⟩)
      go_quiet (fail)
      go_wp2_with fail
      go_ret2
      exact ⟨rfl, _, rfl⟩
    · have hb' := le_div_iff (a := n) (w := num / den) hn (by omega)
      have HS := Lib.hid hs
      clear hs
      go_enter Tryd.func19, Tryd.ntmps19
      go_wp2_with (go_at_call 15; refine (refValid_any _ _).mono ?_; rintro e w' ⟨rfl, rfl⟩)
      go_quiet (fail)
      go_wp2_with fail
      refine (refRound_any _ _ _ t10 t11 h5 h6).mono ?_
      rintro e w' ⟨rfl, k, rfl⟩
      rw [rndUp_mul]
      go_wp2_with fail
      refine (refChecked_any _ _).mono ?_
      rintro e w' ⟨rfl, rfl⟩
      go_wp2_with fail
      go_ret2
      exact ⟨pair_int (by rw [rnd_pos' h1, HS.out]) (by rw [rnd_pos' h1, HS.out]), _, rfl⟩
  · have hn0 : n = 0 := by omega
    subst hn0
    have e0 : rnd 0 num den = 0 := by
      rw [rnd_pos' (by omega)]; simp
      exact Int.ediv_eq_zero_of_lt (by omega) (by omega)
    have e1 : chk1 0 = 0 := by decide
    have e2 : chk2 0 = 0 := by decide
    have e3 : rndUp 0 den = 0 := by
      unfold rndUp; exact Int.ediv_eq_zero_of_lt (by omega) (by omega)
    rw [e0]
    clear e0 hs t5 t6 t7 t8 t9 t10 t11
    go_enter Tryd.func19, Tryd.ntmps19
    go_wp2_with (go_at_call 15; refine (refValid_any _ _).mono ?_; rintro e w' ⟨rfl, rfl⟩)
    go_quiet (fail)
    go_wp2_with fail
    refine (refRound_any _ _ _ (by omega) (by omega) h5 h6).mono ?_
    rintro e w' ⟨rfl, k, rfl⟩
    rw [e3]
    go_wp2_with fail
    refine (refChecked_any _ _).mono ?_
    rintro e w' ⟨rfl, rfl⟩
    go_wp2_with fail
    go_ret2
    exact ⟨pair_int e1.symm e2.symm, _, rfl⟩
end Go.Proofs.YtaibaooebplehaaDoor
