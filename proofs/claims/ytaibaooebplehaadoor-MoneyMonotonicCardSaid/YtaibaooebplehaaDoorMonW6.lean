/-
  The laws MoneyNearest and MoneyMonotonic.
-/
import Derived.Test.YtaibaooebplehaaDoorMonW5
namespace Go.Proofs.YtaibaooebplehaaDoor
open Go.RowKit
set_option linter.unusedVariables false
/-- the result of rounding is within a half of the exact quotient -/
theorem rnd_near (n num den : Int) (h5 : 1 ≤ den) : -den ≤ 2 * (rnd n num den * den) - 2 * (n * num) ∧ 2 * (rnd n num den * den) - 2 * (n * num) ≤ den := by
  have key : ∀ m : Int, -den ≤ 2 * ((2 * m * num + den) / (2 * den) * den) - 2 * (m * num) ∧ 2 * ((2 * m * num + den) / (2 * den) * den) - 2 * (m * num) ≤ den := by
    intro m
    have h1 : 2 * den * ((2 * m * num + den) / (2 * den)) + (2 * m * num + den) % (2 * den) = 2 * m * num + den := Int.mul_ediv_add_emod _ _
    have h2 := Int.emod_nonneg (2 * m * num + den) (show 2 * den ≠ 0 by omega)
    have h3 := Int.emod_lt_of_pos (2 * m * num + den) (show 0 < 2 * den by omega)
    generalize (2 * m * num + den) / (2 * den) = q at *
    generalize (2 * m * num + den) % (2 * den) = r at *
    have h4 : 2 * den * q = 2 * (q * den) := by simp only [Int.mul_assoc, Int.mul_comm, Int.mul_left_comm]
    have h5 : 2 * m * num = 2 * (m * num) := Int.mul_assoc _ _ _
    omega
  unfold rnd
  split
  · have := key (-n)
    have e1 : -n * num = -(n * num) := Int.neg_mul _ _
    have e2 : -((2 * -n * num + den) / (2 * den)) * den = -((2 * -n * num + den) / (2 * den) * den) := Int.neg_mul _ _
    omega
  · exact key n
theorem rnd_mono (a b num den : Int) (h3 : 0 ≤ num) (h5 : 1 ≤ den) (h : a ≤ b) : rnd a num den ≤ rnd b num den := by
  have key : ∀ m k : Int, m ≤ k → (2 * m * num + den) / (2 * den) ≤ (2 * k * num + den) / (2 * den) := by
    intro m k hmk
    apply Int.ediv_le_ediv (by omega)
    have : 2 * m * num ≤ 2 * k * num := Int.mul_le_mul_of_nonneg_right (by omega) h3
    omega
  have pos : ∀ m : Int, 0 ≤ m → 0 ≤ (2 * m * num + den) / (2 * den) := by
    intro m hm
    have : 0 ≤ 2 * m * num := Int.mul_nonneg (by omega) h3
    exact Int.ediv_nonneg (by omega) (by omega)
  unfold rnd
  by_cases ha : a < 0
  · by_cases hb : b < 0
    · rw [if_pos ha, if_pos hb]; have := key (-b) (-a) (by omega); omega
    · rw [if_pos ha, if_neg hb]; have := pos (-a) (by omega); have := pos b (by omega); omega
  · rw [if_neg ha, if_neg (by omega)]; exact key a b h
theorem mul_bd {a b A B : Int} (h1 : -A ≤ a) (h2 : a ≤ A) (h3 : 0 ≤ b) (h4 : b ≤ B) (hA : 0 ≤ A) : -(A * B) ≤ a * b ∧ a * b ≤ A * B := by
  have hB : 0 ≤ B := by omega
  have e1 : a * b ≤ A * b := Int.mul_le_mul_of_nonneg_right h2 h3
  have e2 : A * b ≤ A * B := Int.mul_le_mul_of_nonneg_left h4 hA
  have e3 : -A * b ≤ a * b := Int.mul_le_mul_of_nonneg_right h1 h3
  have e4 : -A * b = -(A * b) := Int.neg_mul _ _
  omega
set_option maxHeartbeats 1000000 in
theorem lawNearest (n num den : Int) (w : World) (hE : Env w) (h1 : -2147483648 ≤ n) (h2 : n ≤ 2147483647) (h3 : 0 ≤ num) (h4 : num ≤ 65535) (h5 : 0 ≤ den) (h6 : den ≤ 65535) :
    Calls Tryd.prog 7 #[.int .i32 n, .int .u16 num, .int .u16 den] w fun e w' => e = .returned (.bool true) ∧ Below w.heap.size w w' := by
  by_cases hd : den = 0
  · subst hd
    go_enter Tryd.func7, Tryd.ntmps7
    go_wp2_with fail
    refine (awake_true _ hE).mono ?_
    rintro e w1 ⟨rfl, hb⟩
    go_wp2_with fail
    go_ret
    exact ⟨rfl, hb⟩
  have h5' : 1 ≤ den := by omega
  have h5d : (den == 0) = false := by simpa using hd
  obtain ⟨x1, x2⟩ := prt_good (n := n) (num := num) (den := den) (okAmt_yes (by omega)) h3 (by omega) h5' (by omega)
  obtain ⟨y1, y2⟩ := prt_good (n := -n) (num := num) (den := den) (okAmt_yes (by omega)) h3 (by omega) h5' (by omega)
  rw [rnd_neg n num den h5', chk1_neg] at y1
  rw [rnd_neg n num den h5', chk2_neg] at y2
  have hnear := rnd_near n num den h5'
  have hp := mul_bd (a := n) (b := num) (A := 2147483648) (B := 65535) (by omega) (by omega) h3 h4 (by omega)
  clear hd
  generalize rnd n num den = r at *
  cases hr : okAmt r
  · have z2 : chk2 r = 2 := by unfold chk2; rw [hr]; rfl
    rw [z2] at x2 y2
    have X2 := Lib.hid x2
    have Y2 := Lib.hid y2
    clear x1 x2 y1 y2 z2 hr hnear hp
    go_enter Tryd.func7, Tryd.ntmps7
    go_wp2_with fail
    refine (awake_true _ hE).mono ?_
    rintro e w1 ⟨rfl, hb⟩
    go_wp2_with fail
    refine (portion_any _ _ _ _).mono ?_
    rintro e w' ⟨rfl, k, rfl⟩
    rw [X2.out]
    go_wp2_with fail
    refine (portion_any _ _ _ _).mono ?_
    rintro e w' ⟨rfl, k', rfl⟩
    rw [Y2.out]
    go_wp2_with fail
    go_ret
    exact ⟨rfl, by repeat (first | exact hb | apply below_drewN)⟩
  · obtain ⟨z1, z2⟩ := chk_ok (okAmt_iff.1 hr)
    rw [z1] at x1 y1
    rw [z2] at x2 y2
    obtain ⟨r1, r2⟩ := okAmt_iff.1 hr
    have X1 := Lib.hid x1
    have X2 := Lib.hid x2
    have Y1 := Lib.hid y1
    have Y2 := Lib.hid y2
    have hq := mul_bd (a := r) (b := den) (A := 1000000000000) (B := 65535) (by omega) (by omega) h5 h6 (by omega)
    obtain ⟨hq1, hq2⟩ := hq
    obtain ⟨hp1, hp2⟩ := hp
    obtain ⟨hn1, hn2⟩ := hnear
    clear x1 x2 y1 y2 z1 z2 hr
    by_cases hs : 2 * (r * den - n * num) < 0
    · go_enter Tryd.func7, Tryd.ntmps7
      go_wp2_with fail
      refine (awake_true _ hE).mono ?_
      rintro e w1 ⟨rfl, hb⟩
      go_wp2_with fail
      refine (portion_any _ _ _ _).mono ?_
      rintro e w' ⟨rfl, k, rfl⟩
      rw [X1.out, X2.out]
      go_wp2_with fail
      refine (portion_any _ _ _ _).mono ?_
      rintro e w' ⟨rfl, k', rfl⟩
      rw [Y1.out, Y2.out]
      go_wp2_with fail
      go_ret
      exact ⟨by simp; omega, by repeat (first | exact hb | apply below_drewN)⟩
    · have hs' : decide (2 * (r * den - n * num) < 0) = false := by simp; omega
      clear hs
      go_enter Tryd.func7, Tryd.ntmps7
      go_wp2_with fail
      refine (awake_true _ hE).mono ?_
      rintro e w1 ⟨rfl, hb⟩
      go_wp2_with fail
      refine (portion_any _ _ _ _).mono ?_
      rintro e w' ⟨rfl, k, rfl⟩
      rw [X1.out, X2.out]
      go_wp2_with fail
      refine (portion_any _ _ _ _).mono ?_
      rintro e w' ⟨rfl, k', rfl⟩
      rw [Y1.out, Y2.out]
      go_wp2_with fail
      go_ret
      exact ⟨by simp; omega, by repeat (first | exact hb | apply below_drewN)⟩
end Go.Proofs.YtaibaooebplehaaDoor
