/-
  Walks of decimal's and the reference's small functions, of Text and Round, and of awake.
-/
import Derived.Test.YtklpeibmjiolhaaDoorDecW2
import Derived.Test.YtklpeibmjiolhaaDoorRefDig03
namespace Go.Proofs.YtklpeibmjiolhaaDoor
open Go.RowKit
set_option linter.unusedVariables false
/-- a power of ten -/
def pw (s : Int) : Int := ((10 ^ s.toNat : Nat) : Int)
theorem pw_bd {s : Int} (h0 : 0 ≤ s) (h9 : s ≤ 9) : 1 ≤ pw s ∧ pw s ≤ 1000000000 := by
  obtain ⟨k, rfl⟩ := Int.eq_ofNat_of_zero_le h0
  unfold pw
  have : k ≤ 9 := by omega
  have h1 : 1 ≤ 10 ^ k := Nat.one_le_pow _ _ (by omega)
  have h2 : 10 ^ k ≤ 10 ^ 9 := Nat.pow_le_pow_right (by omega) this
  rw [Int.toNat_natCast]
  omega
def okSc (s : Int) : Bool := decide (0 ≤ s) && decide (s ≤ 9)
def okNo (n : Int) : Bool := decide (-1000000000000000 ≤ n) && decide (n ≤ 1000000000000000)
def okDec (n s : Int) : Bool := okNo n && okSc s
def okMode (m : Int) : Bool := decide (0 ≤ m) && decide (m ≤ 5)
theorem okSc_iff {s : Int} : okSc s = true ↔ 0 ≤ s ∧ s ≤ 9 := by simp [okSc]
theorem okNo_iff {n : Int} : okNo n = true ↔ -1000000000000000 ≤ n ∧ n ≤ 1000000000000000 := by simp [okNo]
theorem okMode_iff {m : Int} : okMode m = true ↔ 0 ≤ m ∧ m ≤ 5 := by simp [okMode]
theorem okDec_iff {n s : Int} : okDec n s = true ↔ (-1000000000000000 ≤ n ∧ n ≤ 1000000000000000) ∧ 0 ≤ s ∧ s ≤ 9 := by simp [okDec, okSc, okNo]
theorem scale_any (s : Int) (w : World) : Calls Tryd.prog 33 #[.int .i64 s] w fun e w' => e = .returned (.bool (okSc s)) ∧ w = w' := by
  unfold okSc
  by_cases h1 : 0 ≤ s
  · by_cases h2 : s ≤ 9
    · rw [decide_eq_true h1, decide_eq_true h2]
      go_enter Tryd.func33, Tryd.ntmps33
      go_wp2
      go_ret
      exact ⟨rfl, rfl⟩
    · have h3 : decide (s ≤ 9) = false := by rw [decide_eq_false_iff_not]; omega
      rw [decide_eq_true h1, h3]
      clear h2
      go_enter Tryd.func33, Tryd.ntmps33
      go_wp2
      go_ret
      exact ⟨rfl, rfl⟩
  · have h3 : decide (0 ≤ s) = false := by rw [decide_eq_false_iff_not]; omega
    rw [h3, Bool.false_and]
    clear h1
    go_enter Tryd.func33, Tryd.ntmps33
    go_wp2
    go_ret
    exact ⟨rfl, rfl⟩
theorem number_any (n : Int) (w : World) : Calls Tryd.prog 32 #[.int .i64 n] w fun e w' => e = .returned (.bool (okNo n)) ∧ w = w' := by
  unfold okNo
  by_cases h1 : -1000000000000000 ≤ n
  · by_cases h2 : n ≤ 1000000000000000
    · rw [decide_eq_true h1, decide_eq_true h2]
      go_enter Tryd.func32, Tryd.ntmps32
      go_wp2
      go_ret
      exact ⟨rfl, rfl⟩
    · have h3 : decide (n ≤ 1000000000000000) = false := by rw [decide_eq_false_iff_not]; omega
      rw [decide_eq_true h1, h3]
      clear h2
      go_enter Tryd.func32, Tryd.ntmps32
      go_wp2
      go_ret
      exact ⟨rfl, rfl⟩
  · have h3 : decide (-1000000000000000 ≤ n) = false := by rw [decide_eq_false_iff_not]; omega
    rw [h3, Bool.false_and]
    clear h1
    go_enter Tryd.func32, Tryd.ntmps32
    go_wp2
    go_ret
    exact ⟨rfl, rfl⟩
theorem known_any (m : Int) (w : World) : Calls Tryd.prog 28 #[.int .i64 m] w fun e w' => e = .returned (.bool (okMode m)) ∧ w = w' := by
  unfold okMode
  by_cases h1 : 0 ≤ m
  · by_cases h2 : m ≤ 5
    · rw [decide_eq_true h1, decide_eq_true h2]
      go_enter Tryd.func28, Tryd.ntmps28
      go_wp2
      go_ret
      exact ⟨rfl, rfl⟩
    · have h3 : decide (m ≤ 5) = false := by rw [decide_eq_false_iff_not]; omega
      rw [decide_eq_true h1, h3]
      clear h2
      go_enter Tryd.func28, Tryd.ntmps28
      go_wp2
      go_ret
      exact ⟨rfl, rfl⟩
  · have h3 : decide (0 ≤ m) = false := by rw [decide_eq_false_iff_not]; omega
    rw [h3, Bool.false_and]
    clear h1
    go_enter Tryd.func28, Tryd.ntmps28
    go_wp2
    go_ret
    exact ⟨rfl, rfl⟩
theorem refKnown_any (m : Int) (w : World) : Calls Tryd.prog 30 #[.int .i64 m] w fun e w' => e = .returned (.bool (okMode m)) ∧ w = w' := by
  unfold okMode
  by_cases h1 : 0 ≤ m
  · by_cases h2 : m ≤ 5
    · rw [decide_eq_true h1, decide_eq_true h2]
      go_enter Tryd.func30, Tryd.ntmps30
      go_wp2
      go_ret
      exact ⟨rfl, rfl⟩
    · have h3 : decide (m ≤ 5) = false := by rw [decide_eq_false_iff_not]; omega
      rw [decide_eq_true h1, h3]
      clear h2
      go_enter Tryd.func30, Tryd.ntmps30
      go_wp2
      go_ret
      exact ⟨rfl, rfl⟩
  · have h3 : decide (0 ≤ m) = false := by rw [decide_eq_false_iff_not]; omega
    rw [h3, Bool.false_and]
    clear h1
    go_enter Tryd.func30, Tryd.ntmps30
    go_wp2
    go_ret
    exact ⟨rfl, rfl⟩
theorem valid_any (n s : Int) (w : World) : Calls Tryd.prog 23 #[.int .i64 n, .int .i64 s] w fun e w' => e = .returned (.bool (okDec n s)) ∧ w = w' := by
  unfold okDec
  cases hn : okNo n <;> cases hs : okSc s
  all_goals
    go_enter Tryd.func23, Tryd.ntmps23
    go_wp2_with (first | (go_at_call 32; refine (number_any _ _).mono ?_; rintro e w' ⟨rfl, rfl⟩) | (go_at_call 33; refine (scale_any _ _).mono ?_; rintro e w' ⟨rfl, rfl⟩))
    go_ret
    exact ⟨rfl, rfl⟩
theorem refValid_any (n s : Int) (w : World) : Calls Tryd.prog 24 #[.int .i64 n, .int .i64 s] w fun e w' => e = .returned (.bool (okDec n s)) ∧ w = w' := by
  unfold okDec okNo okSc
  by_cases h1 : -1000000000000000 ≤ n
  · by_cases h2 : n ≤ 1000000000000000
    · by_cases h3 : 0 ≤ s
      · by_cases h4 : s ≤ 9
        · rw [decide_eq_true h1, decide_eq_true h2, decide_eq_true h3, decide_eq_true h4]
          go_enter Tryd.func24, Tryd.ntmps24
          go_wp2
          go_ret
          exact ⟨rfl, rfl⟩
        · have g : decide (s ≤ 9) = false := by rw [decide_eq_false_iff_not]; omega
          rw [decide_eq_true h1, decide_eq_true h2, decide_eq_true h3, g]
          clear h4
          go_enter Tryd.func24, Tryd.ntmps24
          go_wp2
          go_ret
          exact ⟨rfl, rfl⟩
      · have g : decide (0 ≤ s) = false := by rw [decide_eq_false_iff_not]; omega
        rw [decide_eq_true h1, decide_eq_true h2, g]
        clear h3
        go_enter Tryd.func24, Tryd.ntmps24
        go_wp2
        go_ret
        exact ⟨rfl, rfl⟩
    · have g : decide (n ≤ 1000000000000000) = false := by rw [decide_eq_false_iff_not]; omega
      rw [decide_eq_true h1, g]
      clear h2
      go_enter Tryd.func24, Tryd.ntmps24
      go_wp2
      go_ret
      exact ⟨rfl, rfl⟩
  · have g : decide (-1000000000000000 ≤ n) = false := by rw [decide_eq_false_iff_not]; omega
    rw [g]
    clear h1
    go_enter Tryd.func24, Tryd.ntmps24
    go_wp2
    go_ret
    exact ⟨rfl, rfl⟩
theorem pow_succ10 (k : Nat) : (10 ^ k : Nat) * 10 = 10 ^ (k + 1) := (Nat.pow_succ 10 k).symm
theorem power_any (s : Int) (w : World) (h0 : 0 ≤ s) (h9 : s ≤ 9) : Calls Tryd.prog 34 #[.int .i64 s] w fun e w' => e = .returned (.int .i64 (pw s)) ∧ w = w' := by
  obtain ⟨m, rfl⟩ := Int.eq_ofNat_of_zero_le h0
  clear h0
  go_enter Tryd.func34, Tryd.ntmps34
  go_wp2
  go_loop [3, 5] (fun n i => ∃ k : Nat, k ≤ m ∧ i = .int .i64 k ∧ n = .int .i64 ((10 ^ k : Nat) : Int)) (fun _ i => m - (intOf i).toNat)
  case atStart => exact ⟨0, Nat.zero_le _, rfl, rfl⟩
  case round =>
    obtain ⟨k, hk, rfl, rfl⟩ := hrel
    have hb : (10 ^ k : Nat) ≤ 10 ^ 9 := Nat.pow_le_pow_right (by omega) (by omega)
    have hs := pow_succ10 k
    generalize hP : (10 ^ k : Nat) = P at *
    have HP := Lib.hid hP
    have HS := Lib.hid hs
    clear hs hP
    by_cases hlt : k < m
    · go_wp2
      go_round
      case rel => exact ⟨k + 1, by omega, by go_num, by rw [← HS.out]; go_num⟩
      case measure => simp [intOf]; omega
    · have hkm : m = k := by omega
      have F := Lib.hid (show (P : Int) = pw m by rw [← HP.out, hkm]; rfl)
      clear hkm
      go_wp2
      go_ret
      exact ⟨ret_int F.out, rfl⟩
end Go.Proofs.YtklpeibmjiolhaaDoor
