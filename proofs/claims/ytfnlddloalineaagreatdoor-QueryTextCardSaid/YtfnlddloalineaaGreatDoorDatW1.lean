/-
  Dates: leap, Days, Valid of both, begin.
-/
import Derived.Test.YtfnlddloalineaaGreatDoorDatPl
import Derived.Test.YtfnlddloalineaaGreatDoorStr
import Derived.Test.YtfnlddloalineaaGreatDoorMem
import Derived.LoopTactic
namespace Go.Proofs.YtfnlddloalineaaGreatDoor
open Go.RowKit
set_option linter.unusedVariables false
theorem leap_any (y : Int) (w : World) (h0 : 0 ≤ y) (h1 : y ≤ 10000) : Calls Tryz.prog 158 #[.int .i64 y] w fun e w' => e = .returned (.bool (leapB y)) ∧ w = w' := by
  have HL : Hid (leapB y = (y % 4 == 0 && (y % 100 != 0 || y % 400 == 0))) := rfl
  cases h4 : (y % 4 == 0)
  · have F : Hid (leapB y = false) := by show _ = _; rw [HL.out, h4]; rfl
    go_enter Tryz.func158, Tryz.ntmps158
    go_wp2_with fail
    go_ret
    exact ⟨ret_bool F.out.symm, rfl⟩
  · cases h100 : (y % 100 != 0)
    · cases h400 : (y % 400 == 0)
      · have F : Hid (leapB y = false) := by show _ = _; rw [HL.out, h4, h100, h400]; rfl
        have h100' : (y % 100 == 0) = true := by rw [bne] at h100; simpa using h100
        go_enter Tryz.func158, Tryz.ntmps158
        go_wp2_with fail
        go_ret
        exact ⟨ret_bool F.out.symm, rfl⟩
      · have F : Hid (leapB y = true) := by show _ = _; rw [HL.out, h4, h100, h400]; rfl
        go_enter Tryz.func158, Tryz.ntmps158
        go_wp2_with fail
        go_ret
        exact ⟨ret_bool F.out.symm, rfl⟩
    · have F : Hid (leapB y = true) := by show _ = _; rw [HL.out, h4, h100]; rfl
      go_enter Tryz.func158, Tryz.ntmps158
      go_wp2_with fail
      go_ret
      exact ⟨ret_bool F.out.symm, rfl⟩
theorem refLeap_any (y : Int) (w : World) (h0 : 0 ≤ y) (h1 : y ≤ 10000) : Calls Tryz.prog 136 #[.int .i64 y] w fun e w' => e = .returned (.bool (leapB y)) ∧ w = w' := by
  have HL : Hid (leapB y = (y % 4 == 0 && (y % 100 != 0 || y % 400 == 0))) := rfl
  cases h4 : (y % 4 == 0)
  · have F : Hid (leapB y = false) := by show _ = _; rw [HL.out, h4]; rfl
    go_enter Tryz.func136, Tryz.ntmps136
    go_wp2_with fail
    go_ret
    exact ⟨ret_bool F.out.symm, rfl⟩
  · cases h100 : (y % 100 != 0)
    · cases h400 : (y % 400 == 0)
      · have F : Hid (leapB y = false) := by show _ = _; rw [HL.out, h4, h100, h400]; rfl
        go_enter Tryz.func136, Tryz.ntmps136
        go_wp2_with fail
        go_ret
        exact ⟨ret_bool F.out.symm, rfl⟩
      · have F : Hid (leapB y = true) := by show _ = _; rw [HL.out, h4, h100, h400]; rfl
        go_enter Tryz.func136, Tryz.ntmps136
        go_wp2_with fail
        go_ret
        exact ⟨ret_bool F.out.symm, rfl⟩
    · have F : Hid (leapB y = true) := by show _ = _; rw [HL.out, h4, h100]; rfl
      go_enter Tryz.func136, Tryz.ntmps136
      go_wp2_with fail
      go_ret
      exact ⟨ret_bool F.out.symm, rfl⟩
def dateB (n : Int) : Bool := decide (-25567 ≤ n) && decide (n ≤ 84005)
theorem dvalid_any (n : Int) (w : World) : Calls Tryz.prog 87 #[.int .i64 n] w fun e w' => e = .returned (.bool (dateB n)) ∧ w = w' := by
  cases d1 : decide (-25567 ≤ n)
  · have F : Hid (dateB n = false) := by show _ = _; unfold dateB; rw [d1]; rfl
    go_enter Tryz.func87, Tryz.ntmps87
    go_wp2_with fail
    go_ret
    exact ⟨ret_bool F.out.symm, rfl⟩
  · have F : Hid (dateB n = decide (n ≤ 84005)) := by show _ = _; unfold dateB; rw [d1]; rfl
    go_enter Tryz.func87, Tryz.ntmps87
    go_wp2_with fail
    go_ret
    exact ⟨ret_bool F.out.symm, rfl⟩
theorem refDvalid_any (n : Int) (w : World) : Calls Tryz.prog 88 #[.int .i64 n] w fun e w' => e = .returned (.bool (dateB n)) ∧ w = w' := by
  cases d1 : decide (-25567 ≤ n)
  · have F : Hid (dateB n = false) := by show _ = _; unfold dateB; rw [d1]; rfl
    go_enter Tryz.func88, Tryz.ntmps88
    go_wp2_with fail
    go_ret
    exact ⟨ret_bool F.out.symm, rfl⟩
  · have F : Hid (dateB n = decide (n ≤ 84005)) := by show _ = _; unfold dateB; rw [d1]; rfl
    go_enter Tryz.func88, Tryz.ntmps88
    go_wp2_with fail
    go_ret
    exact ⟨ret_bool F.out.symm, rfl⟩
theorem begin_any (y : Int) (w : World) (h0 : 1 ≤ y) (h1 : y ≤ 10000) : Calls Tryz.prog 133 #[.int .i64 y] w fun e w' => e = .returned (.int .i64 (beginY y)) ∧ w = w' := by
  have F : Hid (beginY y = 365 * (y - 1) + (y - 1) / 4 - (y - 1) / 100 + (y - 1) / 400 - 719162) := rfl
  go_enter Tryz.func133, Tryz.ntmps133
  go_wp2_with fail
  go_ret
  exact ⟨ret_int F.out.symm, rfl⟩
def mdays : Array Value := #[.int .i64 31, .int .i64 28, .int .i64 31, .int .i64 30, .int .i64 31, .int .i64 30, .int .i64 31, .int .i64 31, .int .i64 30, .int .i64 31, .int .i64 30, .int .i64 31]
theorem month_cases {p : Int → Prop} (h : p 1 ∧ p 2 ∧ p 3 ∧ p 4 ∧ p 5 ∧ p 6 ∧ p 7 ∧ p 8 ∧ p 9 ∧ p 10 ∧ p 11 ∧ p 12) : ∀ m, 1 ≤ m → m ≤ 12 → p m := by
  obtain ⟨h1, h2, h3, h4, h5, h6, h7, h8, h9, h10, h11, h12⟩ := h
  intro m a b
  obtain rfl | rfl | rfl | rfl | rfl | rfl | rfl | rfl | rfl | rfl | rfl | rfl : m = 1 ∨ m = 2 ∨ m = 3 ∨ m = 4 ∨ m = 5 ∨ m = 6 ∨ m = 7 ∨ m = 8 ∨ m = 9 ∨ m = 10 ∨ m = 11 ∨ m = 12 := by omega
  all_goals assumption
theorem run_ix0 (w : World) : (Instr.index 200 (.agg #[.int .i64 31, .int .i64 28, .int .i64 31, .int .i64 30, .int .i64 31, .int .i64 30, .int .i64 31, .int .i64 31, .int .i64 30, .int .i64 31, .int .i64 30, .int .i64 31]) (.int .i64 0)).run Tryz.prog w = .ok (.int .i64 31) w := by kernel_rfl
theorem run_ix1 (w : World) : (Instr.index 200 (.agg #[.int .i64 31, .int .i64 28, .int .i64 31, .int .i64 30, .int .i64 31, .int .i64 30, .int .i64 31, .int .i64 31, .int .i64 30, .int .i64 31, .int .i64 30, .int .i64 31]) (.int .i64 1)).run Tryz.prog w = .ok (.int .i64 28) w := by kernel_rfl
theorem run_ix2 (w : World) : (Instr.index 200 (.agg #[.int .i64 31, .int .i64 28, .int .i64 31, .int .i64 30, .int .i64 31, .int .i64 30, .int .i64 31, .int .i64 31, .int .i64 30, .int .i64 31, .int .i64 30, .int .i64 31]) (.int .i64 2)).run Tryz.prog w = .ok (.int .i64 31) w := by kernel_rfl
theorem run_ix3 (w : World) : (Instr.index 200 (.agg #[.int .i64 31, .int .i64 28, .int .i64 31, .int .i64 30, .int .i64 31, .int .i64 30, .int .i64 31, .int .i64 31, .int .i64 30, .int .i64 31, .int .i64 30, .int .i64 31]) (.int .i64 3)).run Tryz.prog w = .ok (.int .i64 30) w := by kernel_rfl
theorem run_ix4 (w : World) : (Instr.index 200 (.agg #[.int .i64 31, .int .i64 28, .int .i64 31, .int .i64 30, .int .i64 31, .int .i64 30, .int .i64 31, .int .i64 31, .int .i64 30, .int .i64 31, .int .i64 30, .int .i64 31]) (.int .i64 4)).run Tryz.prog w = .ok (.int .i64 31) w := by kernel_rfl
theorem run_ix5 (w : World) : (Instr.index 200 (.agg #[.int .i64 31, .int .i64 28, .int .i64 31, .int .i64 30, .int .i64 31, .int .i64 30, .int .i64 31, .int .i64 31, .int .i64 30, .int .i64 31, .int .i64 30, .int .i64 31]) (.int .i64 5)).run Tryz.prog w = .ok (.int .i64 30) w := by kernel_rfl
theorem run_ix6 (w : World) : (Instr.index 200 (.agg #[.int .i64 31, .int .i64 28, .int .i64 31, .int .i64 30, .int .i64 31, .int .i64 30, .int .i64 31, .int .i64 31, .int .i64 30, .int .i64 31, .int .i64 30, .int .i64 31]) (.int .i64 6)).run Tryz.prog w = .ok (.int .i64 31) w := by kernel_rfl
theorem run_ix7 (w : World) : (Instr.index 200 (.agg #[.int .i64 31, .int .i64 28, .int .i64 31, .int .i64 30, .int .i64 31, .int .i64 30, .int .i64 31, .int .i64 31, .int .i64 30, .int .i64 31, .int .i64 30, .int .i64 31]) (.int .i64 7)).run Tryz.prog w = .ok (.int .i64 31) w := by kernel_rfl
theorem run_ix8 (w : World) : (Instr.index 200 (.agg #[.int .i64 31, .int .i64 28, .int .i64 31, .int .i64 30, .int .i64 31, .int .i64 30, .int .i64 31, .int .i64 31, .int .i64 30, .int .i64 31, .int .i64 30, .int .i64 31]) (.int .i64 8)).run Tryz.prog w = .ok (.int .i64 30) w := by kernel_rfl
theorem run_ix9 (w : World) : (Instr.index 200 (.agg #[.int .i64 31, .int .i64 28, .int .i64 31, .int .i64 30, .int .i64 31, .int .i64 30, .int .i64 31, .int .i64 31, .int .i64 30, .int .i64 31, .int .i64 30, .int .i64 31]) (.int .i64 9)).run Tryz.prog w = .ok (.int .i64 31) w := by kernel_rfl
theorem run_ix10 (w : World) : (Instr.index 200 (.agg #[.int .i64 31, .int .i64 28, .int .i64 31, .int .i64 30, .int .i64 31, .int .i64 30, .int .i64 31, .int .i64 31, .int .i64 30, .int .i64 31, .int .i64 30, .int .i64 31]) (.int .i64 10)).run Tryz.prog w = .ok (.int .i64 30) w := by kernel_rfl
theorem run_ix11 (w : World) : (Instr.index 200 (.agg #[.int .i64 31, .int .i64 28, .int .i64 31, .int .i64 30, .int .i64 31, .int .i64 30, .int .i64 31, .int .i64 31, .int .i64 30, .int .i64 31, .int .i64 30, .int .i64 31]) (.int .i64 11)).run Tryz.prog w = .ok (.int .i64 31) w := by kernel_rfl
set_option maxRecDepth 100000 in
set_option maxHeartbeats 4000000 in
theorem days_in' (y : Int) (hy : 1900 ≤ y ∧ y ≤ 2199) : ∀ m, 1 ≤ m → m ≤ 12 → (Hid (dayM y m = if m = 2 then 28 + lpI y else mtab m) → ∀ w : World, Calls Tryz.prog 134 #[.int .i64 y, .int .i64 m] w fun e w' => e = .returned (.int .i64 (dayM y m)) ∧ Below w.heap.size w w') := by
  have y1 : decide (y < 1900) = false := by rw [decide_eq_false_iff_not]; omega
  have y2 : decide (2199 < y) = false := by rw [decide_eq_false_iff_not]; omega
  have HLP : Hid (∀ w, Calls Tryz.prog 158 #[.int .i64 y] w fun e w' => e = .returned (.bool (leapB y)) ∧ w = w') := fun w => leap_any y w (by omega) (by omega)
  have HI : Hid (lpI y = if leapB y = true then 1 else 0) := rfl
  generalize leapB y = L at *
  clear hy
  refine month_cases ?_
  refine ⟨?_, ?_, ?_, ?_, ?_, ?_, ?_, ?_, ?_, ?_, ?_, ?_⟩
  · intro F w
    clear HI HLP
    go_enter Tryz.func134, Tryz.ntmps134
    go_wp2_with fail
    go_ret
    exact ⟨ret_int (by rw [F.out]; rfl), (Below.refl _ w).alloc (Nat.le_refl _) _⟩
  · intro F w
    cases L
    · go_enter Tryz.func134, Tryz.ntmps134
      go_wp2_with fail
      refine (HLP.out _).mono ?_
      rintro e wx ⟨rfl, rfl⟩
      go_wp2_with fail
      go_ret
      exact ⟨ret_int (by rw [F.out, HI.out]; rfl), (Below.refl _ w).alloc (Nat.le_refl _) _⟩
    · go_enter Tryz.func134, Tryz.ntmps134
      go_wp2_with fail
      refine (HLP.out _).mono ?_
      rintro e wx ⟨rfl, rfl⟩
      go_wp2_with fail
      go_ret
      exact ⟨ret_int (by rw [F.out, HI.out]; rfl), (Below.refl _ w).alloc (Nat.le_refl _) _⟩
  · intro F w
    clear HI HLP
    go_enter Tryz.func134, Tryz.ntmps134
    go_wp2_with fail
    go_ret
    exact ⟨ret_int (by rw [F.out]; rfl), (Below.refl _ w).alloc (Nat.le_refl _) _⟩
  · intro F w
    clear HI HLP
    go_enter Tryz.func134, Tryz.ntmps134
    go_wp2_with fail
    go_ret
    exact ⟨ret_int (by rw [F.out]; rfl), (Below.refl _ w).alloc (Nat.le_refl _) _⟩
  · intro F w
    clear HI HLP
    go_enter Tryz.func134, Tryz.ntmps134
    go_wp2_with fail
    go_ret
    exact ⟨ret_int (by rw [F.out]; rfl), (Below.refl _ w).alloc (Nat.le_refl _) _⟩
  · intro F w
    clear HI HLP
    go_enter Tryz.func134, Tryz.ntmps134
    go_wp2_with fail
    go_ret
    exact ⟨ret_int (by rw [F.out]; rfl), (Below.refl _ w).alloc (Nat.le_refl _) _⟩
  · intro F w
    clear HI HLP
    go_enter Tryz.func134, Tryz.ntmps134
    go_wp2_with fail
    go_ret
    exact ⟨ret_int (by rw [F.out]; rfl), (Below.refl _ w).alloc (Nat.le_refl _) _⟩
  · intro F w
    clear HI HLP
    go_enter Tryz.func134, Tryz.ntmps134
    go_wp2_with fail
    go_ret
    exact ⟨ret_int (by rw [F.out]; rfl), (Below.refl _ w).alloc (Nat.le_refl _) _⟩
  · intro F w
    clear HI HLP
    go_enter Tryz.func134, Tryz.ntmps134
    go_wp2_with fail
    go_ret
    exact ⟨ret_int (by rw [F.out]; rfl), (Below.refl _ w).alloc (Nat.le_refl _) _⟩
  · intro F w
    clear HI HLP
    go_enter Tryz.func134, Tryz.ntmps134
    go_wp2_with fail
    go_ret
    exact ⟨ret_int (by rw [F.out]; rfl), (Below.refl _ w).alloc (Nat.le_refl _) _⟩
  · intro F w
    clear HI HLP
    go_enter Tryz.func134, Tryz.ntmps134
    go_wp2_with fail
    go_ret
    exact ⟨ret_int (by rw [F.out]; rfl), (Below.refl _ w).alloc (Nat.le_refl _) _⟩
  · intro F w
    clear HI HLP
    go_enter Tryz.func134, Tryz.ntmps134
    go_wp2_with fail
    go_ret
    exact ⟨ret_int (by rw [F.out]; rfl), (Below.refl _ w).alloc (Nat.le_refl _) _⟩
theorem days_in (y : Int) (hy : 1900 ≤ y ∧ y ≤ 2199) (m : Int) (h1 : 1 ≤ m) (h2 : m ≤ 12) (w : World) : Calls Tryz.prog 134 #[.int .i64 y, .int .i64 m] w fun e w' => e = .returned (.int .i64 (dayM y m)) ∧ Below w.heap.size w w' := days_in' y hy m h1 h2 (dayM_in hy ⟨h1, h2⟩) w
set_option maxRecDepth 100000 in
set_option maxHeartbeats 4000000 in
theorem refDays_in' (y : Int) (hy : 1900 ≤ y ∧ y ≤ 2199) : ∀ m, 1 ≤ m → m ≤ 12 → (Hid (dayM y m = if m = 2 then 28 + lpI y else mtab m) → ∀ w : World, Calls Tryz.prog 137 #[.int .i64 y, .int .i64 m] w fun e w' => e = .returned (.int .i64 (dayM y m)) ∧ w = w') := by
  have y1 : decide (y < 1900) = false := by rw [decide_eq_false_iff_not]; omega
  have y2 : decide (2199 < y) = false := by rw [decide_eq_false_iff_not]; omega
  have HLP : Hid (∀ w, Calls Tryz.prog 136 #[.int .i64 y] w fun e w' => e = .returned (.bool (leapB y)) ∧ w = w') := fun w => refLeap_any y w (by omega) (by omega)
  have HI : Hid (lpI y = if leapB y = true then 1 else 0) := rfl
  generalize leapB y = L at *
  clear hy
  refine month_cases ?_
  refine ⟨?_, ?_, ?_, ?_, ?_, ?_, ?_, ?_, ?_, ?_, ?_, ?_⟩
  · intro F w
    clear HI HLP
    have hi := run_ix0
    go_enter Tryz.func137, Tryz.ntmps137
    go_wp2_with fail
    go_ret
    exact ⟨ret_int (by rw [F.out]; rfl), rfl⟩
  · intro F w
    cases L
    · go_enter Tryz.func137, Tryz.ntmps137
      have hi := run_ix1
      go_wp2_with fail
      refine (HLP.out _).mono ?_
      rintro e wx ⟨rfl, rfl⟩
      go_wp2_with fail
      go_ret
      exact ⟨ret_int (by rw [F.out, HI.out]; rfl), rfl⟩
    · go_enter Tryz.func137, Tryz.ntmps137
      go_wp2_with fail
      refine (HLP.out _).mono ?_
      rintro e wx ⟨rfl, rfl⟩
      go_wp2_with fail
      go_ret
      exact ⟨ret_int (by rw [F.out, HI.out]; rfl), rfl⟩
  · intro F w
    clear HI HLP
    have hi := run_ix2
    go_enter Tryz.func137, Tryz.ntmps137
    go_wp2_with fail
    go_ret
    exact ⟨ret_int (by rw [F.out]; rfl), rfl⟩
  · intro F w
    clear HI HLP
    have hi := run_ix3
    go_enter Tryz.func137, Tryz.ntmps137
    go_wp2_with fail
    go_ret
    exact ⟨ret_int (by rw [F.out]; rfl), rfl⟩
  · intro F w
    clear HI HLP
    have hi := run_ix4
    go_enter Tryz.func137, Tryz.ntmps137
    go_wp2_with fail
    go_ret
    exact ⟨ret_int (by rw [F.out]; rfl), rfl⟩
  · intro F w
    clear HI HLP
    have hi := run_ix5
    go_enter Tryz.func137, Tryz.ntmps137
    go_wp2_with fail
    go_ret
    exact ⟨ret_int (by rw [F.out]; rfl), rfl⟩
  · intro F w
    clear HI HLP
    have hi := run_ix6
    go_enter Tryz.func137, Tryz.ntmps137
    go_wp2_with fail
    go_ret
    exact ⟨ret_int (by rw [F.out]; rfl), rfl⟩
  · intro F w
    clear HI HLP
    have hi := run_ix7
    go_enter Tryz.func137, Tryz.ntmps137
    go_wp2_with fail
    go_ret
    exact ⟨ret_int (by rw [F.out]; rfl), rfl⟩
  · intro F w
    clear HI HLP
    have hi := run_ix8
    go_enter Tryz.func137, Tryz.ntmps137
    go_wp2_with fail
    go_ret
    exact ⟨ret_int (by rw [F.out]; rfl), rfl⟩
  · intro F w
    clear HI HLP
    have hi := run_ix9
    go_enter Tryz.func137, Tryz.ntmps137
    go_wp2_with fail
    go_ret
    exact ⟨ret_int (by rw [F.out]; rfl), rfl⟩
  · intro F w
    clear HI HLP
    have hi := run_ix10
    go_enter Tryz.func137, Tryz.ntmps137
    go_wp2_with fail
    go_ret
    exact ⟨ret_int (by rw [F.out]; rfl), rfl⟩
  · intro F w
    clear HI HLP
    have hi := run_ix11
    go_enter Tryz.func137, Tryz.ntmps137
    go_wp2_with fail
    go_ret
    exact ⟨ret_int (by rw [F.out]; rfl), rfl⟩
theorem refDays_in (y : Int) (hy : 1900 ≤ y ∧ y ≤ 2199) (m : Int) (h1 : 1 ≤ m) (h2 : m ≤ 12) (w : World) : Calls Tryz.prog 137 #[.int .i64 y, .int .i64 m] w fun e w' => e = .returned (.int .i64 (dayM y m)) ∧ w = w' := refDays_in' y hy m h1 h2 (dayM_in hy ⟨h1, h2⟩) w
set_option maxRecDepth 100000 in
set_option maxHeartbeats 4000000 in
theorem days_any (y m : Int) (w : World) : Calls Tryz.prog 134 #[.int .i64 y, .int .i64 m] w fun e w' => e = .returned (.int .i64 (dayM y m)) ∧ Below w.heap.size w w' := by
  by_cases hc : 1900 ≤ y ∧ y ≤ 2199 ∧ 1 ≤ m ∧ m ≤ 12
  · exact days_in y ⟨hc.1, hc.2.1⟩ m hc.2.2.1 hc.2.2.2 w
  · have F := Lib.hid (dayM_out hc)
    have hs : (decide (y < 1900) = true) ∨ (decide (y < 1900) = false ∧ decide (2199 < y) = true) ∨ (decide (y < 1900) = false ∧ decide (2199 < y) = false ∧ decide (m < 1) = true) ∨ (decide (y < 1900) = false ∧ decide (2199 < y) = false ∧ decide (m < 1) = false ∧ decide (12 < m) = true) := by
      simp only [decide_eq_true_eq, decide_eq_false_iff_not]
      omega
    clear hc
    rcases hs with h | ⟨h, h'⟩ | ⟨h, h', h''⟩ | ⟨h, h', h'', h'''⟩
    all_goals
      go_enter Tryz.func134, Tryz.ntmps134
      go_wp2_with fail
      go_ret
      exact ⟨ret_int F.out.symm, Below.refl _ _⟩
set_option maxRecDepth 100000 in
set_option maxHeartbeats 4000000 in
theorem refDays_any (y m : Int) (w : World) : Calls Tryz.prog 137 #[.int .i64 y, .int .i64 m] w fun e w' => e = .returned (.int .i64 (dayM y m)) ∧ w = w' := by
  by_cases hc : 1900 ≤ y ∧ y ≤ 2199 ∧ 1 ≤ m ∧ m ≤ 12
  · exact refDays_in y ⟨hc.1, hc.2.1⟩ m hc.2.2.1 hc.2.2.2 w
  · have F := Lib.hid (dayM_out hc)
    have hs : (decide (m < 1) = true) ∨ (decide (m < 1) = false ∧ decide (12 < m) = true) ∨ (decide (m < 1) = false ∧ decide (12 < m) = false ∧ decide (y < 1900) = true) ∨ (decide (m < 1) = false ∧ decide (12 < m) = false ∧ decide (y < 1900) = false ∧ decide (2199 < y) = true) := by
      simp only [decide_eq_true_eq, decide_eq_false_iff_not]
      omega
    clear hc
    rcases hs with h | ⟨h, h'⟩ | ⟨h, h', h''⟩ | ⟨h, h', h'', h'''⟩
    all_goals
      go_enter Tryz.func137, Tryz.ntmps137
      go_wp2_with fail
      go_ret
      exact ⟨ret_int F.out.symm, rfl⟩
end Go.Proofs.YtfnlddloalineaaGreatDoor
