/-
  Dates: plain laws.
  Dates: leap, Days, Valid of both, begin.
  Dates: Of, of both.
  Dates: number, Parse of both.
  Dates: Parse of both.
  Dates: Civil of both.
  Dates: the text of a date, of the program.
  Dates: Text of both.
  Dates: Text of the reference.
-/
import Derived.Test.YtfnlddloalineaaGreatDoorDig
import Derived.Test.YtfnlddloalineaaGreatDoorStr
import Derived.Test.YtfnlddloalineaaGreatDoorMem
import Derived.LoopTactic
import Derived.Deep.QuietTactic
import Derived.BigQuiet
import Derived.Test.YtfnlddloalineaaGreatDoorOwn2
import Derived.Laws.IdiomStrings
import Derived.IntWalk
import Derived.Deep.RegionWith
namespace Go.Proofs.YtfnlddloalineaaGreatDoor
set_option linter.unusedVariables false
def leapB (y : Int) : Bool := y % 4 == 0 && (y % 100 != 0 || y % 400 == 0)
def mtab (m : Int) : Int := if m = 2 then 28 else if m = 4 ∨ m = 6 ∨ m = 9 ∨ m = 11 then 30 else 31
def dayM (y m : Int) : Int := if 1900 ≤ y ∧ y ≤ 2199 ∧ 1 ≤ m ∧ m ≤ 12 then (if m = 2 ∧ leapB y = true then 29 else mtab m) else 0
def beginY (y : Int) : Int := 365 * (y - 1) + (y - 1) / 4 - (y - 1) / 100 + (y - 1) / 400 - 719162
def cumM (y : Int) : Nat → Int
  | 0 => 0
  | k + 1 => cumM y k + dayM y (k + 1)
def lpI (y : Int) : Int := if leapB y = true then 1 else 0
theorem leapB_iff {y : Int} : leapB y = true ↔ y % 4 = 0 ∧ (y % 100 ≠ 0 ∨ y % 400 = 0) := by
  unfold leapB
  simp only [Bool.and_eq_true, Bool.or_eq_true, beq_iff_eq, bne_iff_ne, ne_eq]
theorem lpI_bd (y : Int) : 0 ≤ lpI y ∧ lpI y ≤ 1 := by unfold lpI; split <;> omega
theorem beginY_succ (y : Int) : beginY (y + 1) = beginY y + 365 + lpI y := by
  unfold lpI beginY
  by_cases h : leapB y = true
  · rw [if_pos h]
    have := leapB_iff.1 h
    omega
  · rw [if_neg h]
    rw [leapB_iff] at h
    omega
theorem mtab_bd (m : Int) : 28 ≤ mtab m ∧ mtab m ≤ 31 := by
  unfold mtab
  split
  · omega
  · split <;> omega
theorem dayM_in {y m : Int} (hy : 1900 ≤ y ∧ y ≤ 2199) (hm : 1 ≤ m ∧ m ≤ 12) : dayM y m = if m = 2 then 28 + lpI y else mtab m := by
  unfold dayM lpI
  rw [if_pos ⟨hy.1, hy.2, hm.1, hm.2⟩]
  by_cases h2 : m = 2
  · subst h2
    cases leapB y
    · simp [mtab]
    · simp
  · rw [if_neg (fun h => h2 h.1), if_neg h2]
theorem dayM_out {y m : Int} (h : ¬ (1900 ≤ y ∧ y ≤ 2199 ∧ 1 ≤ m ∧ m ≤ 12)) : dayM y m = 0 := by unfold dayM; rw [if_neg h]
theorem dayM_bd (y m : Int) : 0 ≤ dayM y m ∧ dayM y m ≤ 31 := by
  by_cases h : 1900 ≤ y ∧ y ≤ 2199 ∧ 1 ≤ m ∧ m ≤ 12
  · rw [dayM_in ⟨h.1, h.2.1⟩ h.2.2]
    have := lpI_bd y
    have := mtab_bd m
    split <;> omega
  · rw [dayM_out h]; omega
theorem dayM_lo {y m : Int} (hy : 1900 ≤ y ∧ y ≤ 2199) (hm : 1 ≤ m ∧ m ≤ 12) : 28 ≤ dayM y m := by
  rw [dayM_in hy hm]
  have := lpI_bd y
  have := mtab_bd m
  split <;> omega
theorem cumM_bd (y : Int) (k : Nat) : 0 ≤ cumM y k ∧ cumM y k ≤ 31 * k := by
  induction k with
  | zero => simp [cumM]
  | succ k ih =>
    have := dayM_bd y (k + 1)
    show 0 ≤ cumM y k + dayM y (k + 1) ∧ cumM y k + dayM y (k + 1) ≤ 31 * ((k + 1 : Nat) : Int)
    omega
theorem cumM_year {y : Int} (hy : 1900 ≤ y ∧ y ≤ 2199) : cumM y 12 = 365 + lpI y := by
  have d : ∀ m : Int, 1 ≤ m → m ≤ 12 → dayM y m = if m = 2 then 28 + lpI y else mtab m := fun m h1 h2 => dayM_in hy ⟨h1, h2⟩
  simp only [cumM]
  rw [d _ (by omega) (by omega), d _ (by omega) (by omega), d _ (by omega) (by omega), d _ (by omega) (by omega), d _ (by omega) (by omega), d _ (by omega) (by omega), d _ (by omega) (by omega), d _ (by omega) (by omega), d _ (by omega) (by omega), d _ (by omega) (by omega), d _ (by omega) (by omega), d _ (by omega) (by omega)]
  simp [mtab]
  omega
theorem cumM_mono {y : Int} {a b : Nat} (h : a ≤ b) : cumM y a ≤ cumM y b := by
  induction b with
  | zero => have : a = 0 := by omega
            subst this; exact Int.le_refl _
  | succ b ih =>
    by_cases e : a = b + 1
    · subst e; exact Int.le_refl _
    · have := ih (by omega)
      have := dayM_bd y (b + 1)
      show cumM y a ≤ cumM y b + dayM y (b + 1)
      omega
/-- the number of a day, or that there is none -/
def dayOk (y m d : Int) : Bool := decide (1 ≤ d) && decide (d ≤ dayM y m)
def dayN (y m d : Int) : Int := beginY y + cumM y (m - 1).toNat + d - 1
theorem dayOk_iff {y m d : Int} : dayOk y m d = true ↔ 1 ≤ d ∧ d ≤ dayM y m := by
  unfold dayOk
  rw [Bool.and_eq_true, decide_eq_true_eq, decide_eq_true_eq]
theorem dayOk_in {y m d : Int} (h : dayOk y m d = true) : (1900 ≤ y ∧ y ≤ 2199) ∧ (1 ≤ m ∧ m ≤ 12) ∧ 1 ≤ d ∧ d ≤ 31 := by
  have h1 := dayOk_iff.1 h
  have hb := dayM_bd y m
  by_cases hc : 1900 ≤ y ∧ y ≤ 2199 ∧ 1 ≤ m ∧ m ≤ 12
  · exact ⟨⟨hc.1, hc.2.1⟩, hc.2.2, h1.1, by omega⟩
  · rw [dayM_out hc] at h1; omega
theorem beginY_mono {a b : Int} (h : a ≤ b) : beginY a ≤ beginY b := by
  obtain ⟨n, rfl⟩ : ∃ n : Nat, b = a + n := ⟨(b - a).toNat, by omega⟩
  clear h
  induction n with
  | zero => rw [show a + ((0 : Nat) : Int) = a by omega]; exact Int.le_refl _
  | succ n ih =>
    have e := beginY_succ (a + n)
    have := lpI_bd (a + n)
    rw [show a + ((n + 1 : Nat) : Int) = a + n + 1 by omega]
    omega
theorem dayN_year {y m d : Int} (h : dayOk y m d = true) : beginY y ≤ dayN y m d ∧ dayN y m d < beginY (y + 1) := by
  obtain ⟨hy, hm, hd, _⟩ := dayOk_in h
  have h1 := (dayOk_iff.1 h).2
  have hc := cumM_bd y (m - 1).toNat
  have hs : cumM y ((m - 1).toNat + 1) = cumM y (m - 1).toNat + dayM y (((m - 1).toNat : Int) + 1) := rfl
  have hm1 : ((m - 1).toNat : Int) + 1 = m := by omega
  rw [hm1] at hs
  have hle := cumM_mono (y := y) (a := (m - 1).toNat + 1) (b := 12) (by omega)
  rw [cumM_year hy] at hle
  have e := beginY_succ y
  unfold dayN
  omega
theorem dayN_inj {y m d y' m' d' : Int} (h : dayOk y m d = true) (h' : dayOk y' m' d' = true) (e : dayN y m d = dayN y' m' d') : y = y' ∧ m = m' ∧ d = d' := by
  have b := dayN_year h
  have b' := dayN_year h'
  have hy : y = y' := by
    apply Classical.byContradiction
    intro hn
    rcases Int.lt_or_gt_of_ne hn with hl | hl
    · have := beginY_mono (a := y + 1) (b := y') (by omega); omega
    · have := beginY_mono (a := y' + 1) (b := y) (by omega); omega
  subst hy
  obtain ⟨_, hm, hd, _⟩ := dayOk_in h
  obtain ⟨_, hm', hd', _⟩ := dayOk_in h'
  have k := (dayOk_iff.1 h).2
  have k' := (dayOk_iff.1 h').2
  have s : ∀ q : Int, 1 ≤ q → cumM y q.toNat = cumM y (q - 1).toNat + dayM y q := by
    intro q hq
    obtain ⟨n, rfl⟩ : ∃ n : Nat, q = (n : Int) + 1 := ⟨(q - 1).toNat, by omega⟩
    rw [show ((n : Int) + 1).toNat = n + 1 by omega, show ((n : Int) + 1 - 1).toNat = n by omega]
    rfl
  have hm2 : m = m' := by
    apply Classical.byContradiction
    intro hn
    unfold dayN at e
    rcases Int.lt_or_gt_of_ne hn with hl | hl
    · have := cumM_mono (y := y) (a := m.toNat) (b := (m' - 1).toNat) (by omega)
      have := s m hm.1
      omega
    · have := cumM_mono (y := y) (a := m'.toNat) (b := (m - 1).toNat) (by omega)
      have := s m' hm'.1
      omega
  subst hm2
  refine ⟨rfl, rfl, ?_⟩
  unfold dayN at e
  omega
theorem dayN_bd {y m d : Int} (h : dayOk y m d = true) : -25567 ≤ dayN y m d ∧ dayN y m d ≤ 84005 := by
  have b := dayN_year h
  obtain ⟨hy, _⟩ := dayOk_in h
  have h1 := beginY_mono (a := 1900) (b := y) hy.1
  have h2 := beginY_mono (a := y + 1) (b := 2200) (by omega)
  have e1 : beginY 1900 = -25567 := by decide
  have e2 : beginY 2200 = 84006 := by decide
  omega
theorem beginY_bd {y : Int} (h : 0 ≤ y) (h' : y ≤ 10000) : -719600 ≤ beginY y ∧ beginY y ≤ 3000000 := by unfold beginY; omega
end Go.Proofs.YtfnlddloalineaaGreatDoor
namespace Go.Proofs.YtfnlddloalineaaGreatDoor
open Go.RowKit
set_option linter.unusedVariables false
theorem leap_any (y : Int) (w : World) (h0 : 0 ≤ y) (h1 : y ≤ 10000) : Calls Tryz.prog 158 #[.int .i64 y] w fun e w' => e = .returned (.bool (leapB y)) ∧ w = w' := by
  have HL : Hid (leapB y = (y % 4 == 0 && (y % 100 != 0 || y % 400 == 0))) := rfl
  cases h4 : (y % 4 == 0)
  · have F : Hid (leapB y = false) := by show _ = _; rw [HL.out, h4]; rfl
    go_enter Tryz.func158, Tryz.ntmps158
    go_wp2_with fail
    go_ret
    exact ⟨ret_bool F.out.symm, rfl⟩
  · cases h100 : (y % 100 != 0)
    · cases h400 : (y % 400 == 0)
      · have F : Hid (leapB y = false) := by show _ = _; rw [HL.out, h4, h100, h400]; rfl
        have h100' : (y % 100 == 0) = true := by rw [bne] at h100; simpa using h100
        go_enter Tryz.func158, Tryz.ntmps158
        go_wp2_with fail
        go_ret
        exact ⟨ret_bool F.out.symm, rfl⟩
      · have F : Hid (leapB y = true) := by show _ = _; rw [HL.out, h4, h100, h400]; rfl
        go_enter Tryz.func158, Tryz.ntmps158
        go_wp2_with fail
        go_ret
        exact ⟨ret_bool F.out.symm, rfl⟩
    · have F : Hid (leapB y = true) := by show _ = _; rw [HL.out, h4, h100]; rfl
      go_enter Tryz.func158, Tryz.ntmps158
      go_wp2_with fail
      go_ret
      exact ⟨ret_bool F.out.symm, rfl⟩
theorem refLeap_any (y : Int) (w : World) (h0 : 0 ≤ y) (h1 : y ≤ 10000) : Calls Tryz.prog 136 #[.int .i64 y] w fun e w' => e = .returned (.bool (leapB y)) ∧ w = w' := by
  have HL : Hid (leapB y = (y % 4 == 0 && (y % 100 != 0 || y % 400 == 0))) := rfl
  cases h4 : (y % 4 == 0)
  · have F : Hid (leapB y = false) := by show _ = _; rw [HL.out, h4]; rfl
    go_enter Tryz.func136, Tryz.ntmps136
    go_wp2_with fail
    go_ret
    exact ⟨ret_bool F.out.symm, rfl⟩
  · cases h100 : (y % 100 != 0)
    · cases h400 : (y % 400 == 0)
      · have F : Hid (leapB y = false) := by show _ = _; rw [HL.out, h4, h100, h400]; rfl
        go_enter Tryz.func136, Tryz.ntmps136
        go_wp2_with fail
        go_ret
        exact ⟨ret_bool F.out.symm, rfl⟩
      · have F : Hid (leapB y = true) := by show _ = _; rw [HL.out, h4, h100, h400]; rfl
        go_enter Tryz.func136, Tryz.ntmps136
        go_wp2_with fail
        go_ret
        exact ⟨ret_bool F.out.symm, rfl⟩
    · have F : Hid (leapB y = true) := by show _ = _; rw [HL.out, h4, h100]; rfl
      go_enter Tryz.func136, Tryz.ntmps136
      go_wp2_with fail
      go_ret
      exact ⟨ret_bool F.out.symm, rfl⟩
def dateB (n : Int) : Bool := decide (-25567 ≤ n) && decide (n ≤ 84005)
theorem dvalid_any (n : Int) (w : World) : Calls Tryz.prog 87 #[.int .i64 n] w fun e w' => e = .returned (.bool (dateB n)) ∧ w = w' := by
  cases d1 : decide (-25567 ≤ n)
  · have F : Hid (dateB n = false) := by show _ = _; unfold dateB; rw [d1]; rfl
    go_enter Tryz.func87, Tryz.ntmps87
    go_wp2_with fail
    go_ret
    exact ⟨ret_bool F.out.symm, rfl⟩
  · have F : Hid (dateB n = decide (n ≤ 84005)) := by show _ = _; unfold dateB; rw [d1]; rfl
    go_enter Tryz.func87, Tryz.ntmps87
    go_wp2_with fail
    go_ret
    exact ⟨ret_bool F.out.symm, rfl⟩
theorem refDvalid_any (n : Int) (w : World) : Calls Tryz.prog 88 #[.int .i64 n] w fun e w' => e = .returned (.bool (dateB n)) ∧ w = w' := by
  cases d1 : decide (-25567 ≤ n)
  · have F : Hid (dateB n = false) := by show _ = _; unfold dateB; rw [d1]; rfl
    go_enter Tryz.func88, Tryz.ntmps88
    go_wp2_with fail
    go_ret
    exact ⟨ret_bool F.out.symm, rfl⟩
  · have F : Hid (dateB n = decide (n ≤ 84005)) := by show _ = _; unfold dateB; rw [d1]; rfl
    go_enter Tryz.func88, Tryz.ntmps88
    go_wp2_with fail
    go_ret
    exact ⟨ret_bool F.out.symm, rfl⟩
theorem begin_any (y : Int) (w : World) (h0 : 1 ≤ y) (h1 : y ≤ 10000) : Calls Tryz.prog 133 #[.int .i64 y] w fun e w' => e = .returned (.int .i64 (beginY y)) ∧ w = w' := by
  have F : Hid (beginY y = 365 * (y - 1) + (y - 1) / 4 - (y - 1) / 100 + (y - 1) / 400 - 719162) := rfl
  go_enter Tryz.func133, Tryz.ntmps133
  go_wp2_with fail
  go_ret
  exact ⟨ret_int F.out.symm, rfl⟩
def mdays : Array Value := #[.int .i64 31, .int .i64 28, .int .i64 31, .int .i64 30, .int .i64 31, .int .i64 30, .int .i64 31, .int .i64 31, .int .i64 30, .int .i64 31, .int .i64 30, .int .i64 31]
theorem month_cases {p : Int → Prop} (h : p 1 ∧ p 2 ∧ p 3 ∧ p 4 ∧ p 5 ∧ p 6 ∧ p 7 ∧ p 8 ∧ p 9 ∧ p 10 ∧ p 11 ∧ p 12) : ∀ m, 1 ≤ m → m ≤ 12 → p m := by
  obtain ⟨h1, h2, h3, h4, h5, h6, h7, h8, h9, h10, h11, h12⟩ := h
  intro m a b
  obtain rfl | rfl | rfl | rfl | rfl | rfl | rfl | rfl | rfl | rfl | rfl | rfl : m = 1 ∨ m = 2 ∨ m = 3 ∨ m = 4 ∨ m = 5 ∨ m = 6 ∨ m = 7 ∨ m = 8 ∨ m = 9 ∨ m = 10 ∨ m = 11 ∨ m = 12 := by omega
  all_goals assumption
theorem run_ix0 (w : World) : (Instr.index 200 (.agg #[.int .i64 31, .int .i64 28, .int .i64 31, .int .i64 30, .int .i64 31, .int .i64 30, .int .i64 31, .int .i64 31, .int .i64 30, .int .i64 31, .int .i64 30, .int .i64 31]) (.int .i64 0)).run Tryz.prog w = .ok (.int .i64 31) w := by kernel_rfl
theorem run_ix1 (w : World) : (Instr.index 200 (.agg #[.int .i64 31, .int .i64 28, .int .i64 31, .int .i64 30, .int .i64 31, .int .i64 30, .int .i64 31, .int .i64 31, .int .i64 30, .int .i64 31, .int .i64 30, .int .i64 31]) (.int .i64 1)).run Tryz.prog w = .ok (.int .i64 28) w := by kernel_rfl
theorem run_ix2 (w : World) : (Instr.index 200 (.agg #[.int .i64 31, .int .i64 28, .int .i64 31, .int .i64 30, .int .i64 31, .int .i64 30, .int .i64 31, .int .i64 31, .int .i64 30, .int .i64 31, .int .i64 30, .int .i64 31]) (.int .i64 2)).run Tryz.prog w = .ok (.int .i64 31) w := by kernel_rfl
theorem run_ix3 (w : World) : (Instr.index 200 (.agg #[.int .i64 31, .int .i64 28, .int .i64 31, .int .i64 30, .int .i64 31, .int .i64 30, .int .i64 31, .int .i64 31, .int .i64 30, .int .i64 31, .int .i64 30, .int .i64 31]) (.int .i64 3)).run Tryz.prog w = .ok (.int .i64 30) w := by kernel_rfl
theorem run_ix4 (w : World) : (Instr.index 200 (.agg #[.int .i64 31, .int .i64 28, .int .i64 31, .int .i64 30, .int .i64 31, .int .i64 30, .int .i64 31, .int .i64 31, .int .i64 30, .int .i64 31, .int .i64 30, .int .i64 31]) (.int .i64 4)).run Tryz.prog w = .ok (.int .i64 31) w := by kernel_rfl
theorem run_ix5 (w : World) : (Instr.index 200 (.agg #[.int .i64 31, .int .i64 28, .int .i64 31, .int .i64 30, .int .i64 31, .int .i64 30, .int .i64 31, .int .i64 31, .int .i64 30, .int .i64 31, .int .i64 30, .int .i64 31]) (.int .i64 5)).run Tryz.prog w = .ok (.int .i64 30) w := by kernel_rfl
theorem run_ix6 (w : World) : (Instr.index 200 (.agg #[.int .i64 31, .int .i64 28, .int .i64 31, .int .i64 30, .int .i64 31, .int .i64 30, .int .i64 31, .int .i64 31, .int .i64 30, .int .i64 31, .int .i64 30, .int .i64 31]) (.int .i64 6)).run Tryz.prog w = .ok (.int .i64 31) w := by kernel_rfl
theorem run_ix7 (w : World) : (Instr.index 200 (.agg #[.int .i64 31, .int .i64 28, .int .i64 31, .int .i64 30, .int .i64 31, .int .i64 30, .int .i64 31, .int .i64 31, .int .i64 30, .int .i64 31, .int .i64 30, .int .i64 31]) (.int .i64 7)).run Tryz.prog w = .ok (.int .i64 31) w := by kernel_rfl
theorem run_ix8 (w : World) : (Instr.index 200 (.agg #[.int .i64 31, .int .i64 28, .int .i64 31, .int .i64 30, .int .i64 31, .int .i64 30, .int .i64 31, .int .i64 31, .int .i64 30, .int .i64 31, .int .i64 30, .int .i64 31]) (.int .i64 8)).run Tryz.prog w = .ok (.int .i64 30) w := by kernel_rfl
theorem run_ix9 (w : World) : (Instr.index 200 (.agg #[.int .i64 31, .int .i64 28, .int .i64 31, .int .i64 30, .int .i64 31, .int .i64 30, .int .i64 31, .int .i64 31, .int .i64 30, .int .i64 31, .int .i64 30, .int .i64 31]) (.int .i64 9)).run Tryz.prog w = .ok (.int .i64 31) w := by kernel_rfl
theorem run_ix10 (w : World) : (Instr.index 200 (.agg #[.int .i64 31, .int .i64 28, .int .i64 31, .int .i64 30, .int .i64 31, .int .i64 30, .int .i64 31, .int .i64 31, .int .i64 30, .int .i64 31, .int .i64 30, .int .i64 31]) (.int .i64 10)).run Tryz.prog w = .ok (.int .i64 30) w := by kernel_rfl
theorem run_ix11 (w : World) : (Instr.index 200 (.agg #[.int .i64 31, .int .i64 28, .int .i64 31, .int .i64 30, .int .i64 31, .int .i64 30, .int .i64 31, .int .i64 31, .int .i64 30, .int .i64 31, .int .i64 30, .int .i64 31]) (.int .i64 11)).run Tryz.prog w = .ok (.int .i64 31) w := by kernel_rfl
set_option maxRecDepth 100000 in
set_option maxHeartbeats 4000000 in
theorem days_in' (y : Int) (hy : 1900 ≤ y ∧ y ≤ 2199) : ∀ m, 1 ≤ m → m ≤ 12 → (Hid (dayM y m = if m = 2 then 28 + lpI y else mtab m) → ∀ w : World, Calls Tryz.prog 134 #[.int .i64 y, .int .i64 m] w fun e w' => e = .returned (.int .i64 (dayM y m)) ∧ Below w.heap.size w w') := by
  have y1 : decide (y < 1900) = false := by rw [decide_eq_false_iff_not]; omega
  have y2 : decide (2199 < y) = false := by rw [decide_eq_false_iff_not]; omega
  have HLP : Hid (∀ w, Calls Tryz.prog 158 #[.int .i64 y] w fun e w' => e = .returned (.bool (leapB y)) ∧ w = w') := fun w => leap_any y w (by omega) (by omega)
  have HI : Hid (lpI y = if leapB y = true then 1 else 0) := rfl
  generalize leapB y = L at *
  clear hy
  refine month_cases ?_
  refine ⟨?_, ?_, ?_, ?_, ?_, ?_, ?_, ?_, ?_, ?_, ?_, ?_⟩
  · intro F w
    clear HI HLP
    go_enter Tryz.func134, Tryz.ntmps134
    go_wp2_with fail
    go_ret
    exact ⟨ret_int (by rw [F.out]; rfl), (Below.refl _ w).alloc (Nat.le_refl _) _⟩
  · intro F w
    cases L
    · go_enter Tryz.func134, Tryz.ntmps134
      go_wp2_with fail
      refine (HLP.out _).mono ?_
      rintro e wx ⟨rfl, rfl⟩
      go_wp2_with fail
      go_ret
      exact ⟨ret_int (by rw [F.out, HI.out]; rfl), (Below.refl _ w).alloc (Nat.le_refl _) _⟩
    · go_enter Tryz.func134, Tryz.ntmps134
      go_wp2_with fail
      refine (HLP.out _).mono ?_
      rintro e wx ⟨rfl, rfl⟩
      go_wp2_with fail
      go_ret
      exact ⟨ret_int (by rw [F.out, HI.out]; rfl), (Below.refl _ w).alloc (Nat.le_refl _) _⟩
  · intro F w
    clear HI HLP
    go_enter Tryz.func134, Tryz.ntmps134
    go_wp2_with fail
    go_ret
    exact ⟨ret_int (by rw [F.out]; rfl), (Below.refl _ w).alloc (Nat.le_refl _) _⟩
  · intro F w
    clear HI HLP
    go_enter Tryz.func134, Tryz.ntmps134
    go_wp2_with fail
    go_ret
    exact ⟨ret_int (by rw [F.out]; rfl), (Below.refl _ w).alloc (Nat.le_refl _) _⟩
  · intro F w
    clear HI HLP
    go_enter Tryz.func134, Tryz.ntmps134
    go_wp2_with fail
    go_ret
    exact ⟨ret_int (by rw [F.out]; rfl), (Below.refl _ w).alloc (Nat.le_refl _) _⟩
  · intro F w
    clear HI HLP
    go_enter Tryz.func134, Tryz.ntmps134
    go_wp2_with fail
    go_ret
    exact ⟨ret_int (by rw [F.out]; rfl), (Below.refl _ w).alloc (Nat.le_refl _) _⟩
  · intro F w
    clear HI HLP
    go_enter Tryz.func134, Tryz.ntmps134
    go_wp2_with fail
    go_ret
    exact ⟨ret_int (by rw [F.out]; rfl), (Below.refl _ w).alloc (Nat.le_refl _) _⟩
  · intro F w
    clear HI HLP
    go_enter Tryz.func134, Tryz.ntmps134
    go_wp2_with fail
    go_ret
    exact ⟨ret_int (by rw [F.out]; rfl), (Below.refl _ w).alloc (Nat.le_refl _) _⟩
  · intro F w
    clear HI HLP
    go_enter Tryz.func134, Tryz.ntmps134
    go_wp2_with fail
    go_ret
    exact ⟨ret_int (by rw [F.out]; rfl), (Below.refl _ w).alloc (Nat.le_refl _) _⟩
  · intro F w
    clear HI HLP
    go_enter Tryz.func134, Tryz.ntmps134
    go_wp2_with fail
    go_ret
    exact ⟨ret_int (by rw [F.out]; rfl), (Below.refl _ w).alloc (Nat.le_refl _) _⟩
  · intro F w
    clear HI HLP
    go_enter Tryz.func134, Tryz.ntmps134
    go_wp2_with fail
    go_ret
    exact ⟨ret_int (by rw [F.out]; rfl), (Below.refl _ w).alloc (Nat.le_refl _) _⟩
  · intro F w
    clear HI HLP
    go_enter Tryz.func134, Tryz.ntmps134
    go_wp2_with fail
    go_ret
    exact ⟨ret_int (by rw [F.out]; rfl), (Below.refl _ w).alloc (Nat.le_refl _) _⟩
theorem days_in (y : Int) (hy : 1900 ≤ y ∧ y ≤ 2199) (m : Int) (h1 : 1 ≤ m) (h2 : m ≤ 12) (w : World) : Calls Tryz.prog 134 #[.int .i64 y, .int .i64 m] w fun e w' => e = .returned (.int .i64 (dayM y m)) ∧ Below w.heap.size w w' := days_in' y hy m h1 h2 (dayM_in hy ⟨h1, h2⟩) w
set_option maxRecDepth 100000 in
set_option maxHeartbeats 4000000 in
theorem refDays_in' (y : Int) (hy : 1900 ≤ y ∧ y ≤ 2199) : ∀ m, 1 ≤ m → m ≤ 12 → (Hid (dayM y m = if m = 2 then 28 + lpI y else mtab m) → ∀ w : World, Calls Tryz.prog 137 #[.int .i64 y, .int .i64 m] w fun e w' => e = .returned (.int .i64 (dayM y m)) ∧ w = w') := by
  have y1 : decide (y < 1900) = false := by rw [decide_eq_false_iff_not]; omega
  have y2 : decide (2199 < y) = false := by rw [decide_eq_false_iff_not]; omega
  have HLP : Hid (∀ w, Calls Tryz.prog 136 #[.int .i64 y] w fun e w' => e = .returned (.bool (leapB y)) ∧ w = w') := fun w => refLeap_any y w (by omega) (by omega)
  have HI : Hid (lpI y = if leapB y = true then 1 else 0) := rfl
  generalize leapB y = L at *
  clear hy
  refine month_cases ?_
  refine ⟨?_, ?_, ?_, ?_, ?_, ?_, ?_, ?_, ?_, ?_, ?_, ?_⟩
  · intro F w
    clear HI HLP
    have hi := run_ix0
    go_enter Tryz.func137, Tryz.ntmps137
    go_wp2_with fail
    go_ret
    exact ⟨ret_int (by rw [F.out]; rfl), rfl⟩
  · intro F w
    cases L
    · go_enter Tryz.func137, Tryz.ntmps137
      have hi := run_ix1
      go_wp2_with fail
      refine (HLP.out _).mono ?_
      rintro e wx ⟨rfl, rfl⟩
      go_wp2_with fail
      go_ret
      exact ⟨ret_int (by rw [F.out, HI.out]; rfl), rfl⟩
    · go_enter Tryz.func137, Tryz.ntmps137
      go_wp2_with fail
      refine (HLP.out _).mono ?_
      rintro e wx ⟨rfl, rfl⟩
      go_wp2_with fail
      go_ret
      exact ⟨ret_int (by rw [F.out, HI.out]; rfl), rfl⟩
  · intro F w
    clear HI HLP
    have hi := run_ix2
    go_enter Tryz.func137, Tryz.ntmps137
    go_wp2_with fail
    go_ret
    exact ⟨ret_int (by rw [F.out]; rfl), rfl⟩
  · intro F w
    clear HI HLP
    have hi := run_ix3
    go_enter Tryz.func137, Tryz.ntmps137
    go_wp2_with fail
    go_ret
    exact ⟨ret_int (by rw [F.out]; rfl), rfl⟩
  · intro F w
    clear HI HLP
    have hi := run_ix4
    go_enter Tryz.func137, Tryz.ntmps137
    go_wp2_with fail
    go_ret
    exact ⟨ret_int (by rw [F.out]; rfl), rfl⟩
  · intro F w
    clear HI HLP
    have hi := run_ix5
    go_enter Tryz.func137, Tryz.ntmps137
    go_wp2_with fail
    go_ret
    exact ⟨ret_int (by rw [F.out]; rfl), rfl⟩
  · intro F w
    clear HI HLP
    have hi := run_ix6
    go_enter Tryz.func137, Tryz.ntmps137
    go_wp2_with fail
    go_ret
    exact ⟨ret_int (by rw [F.out]; rfl), rfl⟩
  · intro F w
    clear HI HLP
    have hi := run_ix7
    go_enter Tryz.func137, Tryz.ntmps137
    go_wp2_with fail
    go_ret
    exact ⟨ret_int (by rw [F.out]; rfl), rfl⟩
  · intro F w
    clear HI HLP
    have hi := run_ix8
    go_enter Tryz.func137, Tryz.ntmps137
    go_wp2_with fail
    go_ret
    exact ⟨ret_int (by rw [F.out]; rfl), rfl⟩
  · intro F w
    clear HI HLP
    have hi := run_ix9
    go_enter Tryz.func137, Tryz.ntmps137
    go_wp2_with fail
    go_ret
    exact ⟨ret_int (by rw [F.out]; rfl), rfl⟩
  · intro F w
    clear HI HLP
    have hi := run_ix10
    go_enter Tryz.func137, Tryz.ntmps137
    go_wp2_with fail
    go_ret
    exact ⟨ret_int (by rw [F.out]; rfl), rfl⟩
  · intro F w
    clear HI HLP
    have hi := run_ix11
    go_enter Tryz.func137, Tryz.ntmps137
    go_wp2_with fail
    go_ret
    exact ⟨ret_int (by rw [F.out]; rfl), rfl⟩
theorem refDays_in (y : Int) (hy : 1900 ≤ y ∧ y ≤ 2199) (m : Int) (h1 : 1 ≤ m) (h2 : m ≤ 12) (w : World) : Calls Tryz.prog 137 #[.int .i64 y, .int .i64 m] w fun e w' => e = .returned (.int .i64 (dayM y m)) ∧ w = w' := refDays_in' y hy m h1 h2 (dayM_in hy ⟨h1, h2⟩) w
set_option maxRecDepth 100000 in
set_option maxHeartbeats 4000000 in
theorem days_any (y m : Int) (w : World) : Calls Tryz.prog 134 #[.int .i64 y, .int .i64 m] w fun e w' => e = .returned (.int .i64 (dayM y m)) ∧ Below w.heap.size w w' := by
  by_cases hc : 1900 ≤ y ∧ y ≤ 2199 ∧ 1 ≤ m ∧ m ≤ 12
  · exact days_in y ⟨hc.1, hc.2.1⟩ m hc.2.2.1 hc.2.2.2 w
  · have F := Lib.hid (dayM_out hc)
    have hs : (decide (y < 1900) = true) ∨ (decide (y < 1900) = false ∧ decide (2199 < y) = true) ∨ (decide (y < 1900) = false ∧ decide (2199 < y) = false ∧ decide (m < 1) = true) ∨ (decide (y < 1900) = false ∧ decide (2199 < y) = false ∧ decide (m < 1) = false ∧ decide (12 < m) = true) := by
      simp only [decide_eq_true_eq, decide_eq_false_iff_not]
      omega
    clear hc
    rcases hs with h | ⟨h, h'⟩ | ⟨h, h', h''⟩ | ⟨h, h', h'', h'''⟩
    all_goals
      go_enter Tryz.func134, Tryz.ntmps134
      go_wp2_with fail
      go_ret
      exact ⟨ret_int F.out.symm, Below.refl _ _⟩
set_option maxRecDepth 100000 in
set_option maxHeartbeats 4000000 in
theorem refDays_any (y m : Int) (w : World) : Calls Tryz.prog 137 #[.int .i64 y, .int .i64 m] w fun e w' => e = .returned (.int .i64 (dayM y m)) ∧ w = w' := by
  by_cases hc : 1900 ≤ y ∧ y ≤ 2199 ∧ 1 ≤ m ∧ m ≤ 12
  · exact refDays_in y ⟨hc.1, hc.2.1⟩ m hc.2.2.1 hc.2.2.2 w
  · have F := Lib.hid (dayM_out hc)
    have hs : (decide (m < 1) = true) ∨ (decide (m < 1) = false ∧ decide (12 < m) = true) ∨ (decide (m < 1) = false ∧ decide (12 < m) = false ∧ decide (y < 1900) = true) ∨ (decide (m < 1) = false ∧ decide (12 < m) = false ∧ decide (y < 1900) = false ∧ decide (2199 < y) = true) := by
      simp only [decide_eq_true_eq, decide_eq_false_iff_not]
      omega
    clear hc
    rcases hs with h | ⟨h, h'⟩ | ⟨h, h', h''⟩ | ⟨h, h', h'', h'''⟩
    all_goals
      go_enter Tryz.func137, Tryz.ntmps137
      go_wp2_with fail
      go_ret
      exact ⟨ret_int F.out.symm, rfl⟩
end Go.Proofs.YtfnlddloalineaaGreatDoor
namespace Go.Proofs.YtfnlddloalineaaGreatDoor
open Go.RowKit
set_option linter.unusedVariables false
def ofR (y m d : Int) : Value := if dayOk y m d = true then .tuple #[.int .i64 (dayN y m d), .int .i64 0] else .tuple #[.int .i64 0, .int .i64 2]
theorem ofR_no {y m d : Int} (h : ¬ (1 ≤ d ∧ d ≤ dayM y m)) : ofR y m d = .tuple #[.int .i64 0, .int .i64 2] := by
  unfold ofR; rw [if_neg (fun h' => h (dayOk_iff.1 h'))]
theorem ofR_yes {y m d : Int} (h : 1 ≤ d ∧ d ≤ dayM y m) : ofR y m d = .tuple #[.int .i64 (dayN y m d), .int .i64 0] := by
  unfold ofR; rw [if_pos (dayOk_iff.2 h)]
theorem cumM_next (y : Int) (q : Nat) : cumM y (q + 1) = cumM y q + dayM y ((q : Int) + 1) := rfl
set_option maxRecDepth 100000 in
set_option maxHeartbeats 2000000 in
theorem of_any (y m d : Int) (w : World) : Calls Tryz.prog 157 #[.int .i64 y, .int .i64 m, .int .i64 d] w fun e w' => e = .returned (ofR y m d) ∧ Below w.heap.size w w' := by
  by_cases h1 : 1 ≤ d
  · have g1 : decide (d < 1) = false := by rw [decide_eq_false_iff_not]; omega
    have HDA := Lib.hid (days_any y m w)
    by_cases h2 : d ≤ dayM y m
    · have F := Lib.hid (ofR_yes ⟨h1, h2⟩)
      have g2 : decide (dayM y m < d) = false := by rw [decide_eq_false_iff_not]; omega
      obtain ⟨hy, hm, _, hd31⟩ := dayOk_in (dayOk_iff.2 ⟨h1, h2⟩)
      have hB := beginY_bd (y := y) (by omega) (by omega)
      have HND : Hid (dayN y m d = beginY y + cumM y (m - 1).toNat + d - 1) := rfl
      have HBE : Hid (∀ w, Calls Tryz.prog 133 #[.int .i64 y] w fun e w' => e = .returned (.int .i64 (beginY y)) ∧ w = w') := fun w => begin_any y w (by omega) (by omega)
      generalize dayM y m = X at *
      generalize beginY y = B at *
      have hB1 := hB.1
      have hB2 := hB.2
      have hm1 := hm.1
      have hm2 := hm.2
      clear hB hm hy h2
      go_enter Tryz.func157, Tryz.ntmps157
      go_wp2_with fail
      refine HDA.out.mono ?_
      rintro e w1 ⟨rfl, hb1⟩
      have HB1 := Lib.hid hb1
      clear hb1
      go_wp2_with fail
      refine (HBE.out _).mono ?_
      rintro e wx ⟨rfl, rfl⟩
      go_wp2_with fail
      go_loopw [8, 9] (fun n k wr => ∃ q : Nat, (q : Int) + 1 ≤ m ∧ k = .int .i64 ((q : Int) + 1) ∧ n = .int .i64 (B + d - 1 + cumM y q) ∧ Below w.heap.size w wr) (fun _ k _ => (m - intOf k).toNat)
      case atStart => exact ⟨0, by omega, rfl, by rw [show cumM y 0 = 0 from rfl, Int.add_zero], HB1.out⟩
      case round =>
        obtain ⟨q, hq, rfl, rfl, hbr⟩ := hrel
        have HBR := Lib.hid hbr
        clear hbr
        have hcb := cumM_bd y q
        have hc1 := hcb.1
        have hc2 : cumM y q ≤ 400 := by omega
        have G := Lib.hid (cumM_next y q)
        have hdb := dayM_bd y ((q : Int) + 1)
        have hd1 := hdb.1
        have hd2 := hdb.2
        have HDQ : Hid (∀ w, Calls Tryz.prog 134 #[.int .i64 y, .int .i64 ((q : Int) + 1)] w fun e w' => e = .returned (.int .i64 (dayM y ((q : Int) + 1))) ∧ Below w.heap.size w w') := days_any y ((q : Int) + 1)
        clear hcb hdb
        by_cases hlt : (q : Int) + 1 < m
        · have k1 : decide ((q : Int) + 1 < m) = true := by rw [decide_eq_true_eq]; exact hlt
          generalize cumM y q = C at *
          generalize dayM y ((q : Int) + 1) = D at *
          go_wp2_with fail
          refine (HDQ.out _).mono ?_
          rintro e w2 ⟨rfl, hb2⟩
          have HB2 := Lib.hid (below_two HBR.out hb2)
          clear hb2
          go_wp2_with fail
          go_roundw
          case rel => exact ⟨q + 1, by omega, by go_num, by rw [G.out, ← Int.add_assoc], HB2.out⟩
          case measure => simp [intOf]; omega
        · have k1 : decide ((q : Int) + 1 < m) = false := by rw [decide_eq_false_iff_not]; exact hlt
          have E : Hid (dayN y m d = B + d - 1 + cumM y q) := by
            show _ = _
            rw [HND.out, show (m - 1).toNat = q by omega]
            omega
          generalize cumM y q = C at *
          go_wp2_with fail
          go_ret2
          exact ⟨by rw [F.out, E.out]; rfl, HBR.out⟩
    · have F := Lib.hid (ofR_no (fun h => h2 h.2))
      have g2 : decide (dayM y m < d) = true := by rw [decide_eq_true_eq]; omega
      generalize dayM y m = X at *
      clear h2
      go_enter Tryz.func157, Tryz.ntmps157
      go_wp2_with fail
      refine HDA.out.mono ?_
      rintro e w1 ⟨rfl, hb1⟩
      go_wp2_with fail
      go_ret2
      exact ⟨by rw [F.out]; rfl, hb1⟩
  · have g1 : decide (d < 1) = true := by rw [decide_eq_true_eq]; omega
    have F := Lib.hid (ofR_no (y := y) (m := m) (fun h => h1 h.1))
    clear h1
    go_enter Tryz.func157, Tryz.ntmps157
    go_wp2_with fail
    go_ret2
    exact ⟨by rw [F.out]; rfl, Below.refl _ _⟩
set_option maxRecDepth 100000 in
set_option maxHeartbeats 2000000 in
theorem refOf_any (y m d : Int) (w : World) : Calls Tryz.prog 130 #[.int .i64 y, .int .i64 m, .int .i64 d] w fun e w' => e = .returned (ofR y m d) ∧ w = w' := by
  by_cases h1 : 1 ≤ d
  · have g1 : decide (d < 1) = false := by rw [decide_eq_false_iff_not]; omega
    have HDA := Lib.hid (refDays_any y m w)
    by_cases h2 : d ≤ dayM y m
    · have F := Lib.hid (ofR_yes ⟨h1, h2⟩)
      have g2 : decide (dayM y m < d) = false := by rw [decide_eq_false_iff_not]; omega
      obtain ⟨hy, hm, _, hd31⟩ := dayOk_in (dayOk_iff.2 ⟨h1, h2⟩)
      have HND : Hid (dayN y m d = beginY y + cumM y (m - 1).toNat + d - 1) := rfl
      have HB0 : Hid (beginY 1900 = -25567) := by show _ = _; decide
      generalize dayM y m = X at *
      have hm1 := hm.1
      have hm2 := hm.2
      have hy1 := hy.1
      have hy2 := hy.2
      clear hm hy h2
      go_enter Tryz.func130, Tryz.ntmps130
      go_wp2_with fail
      refine HDA.out.mono ?_
      rintro e wx ⟨rfl, rfl⟩
      go_wp2_with fail
      go_loop [8, 9] (fun n k => ∃ a : Int, 1900 ≤ a ∧ a ≤ y ∧ k = .int .i64 a ∧ n = .int .i64 (beginY a)) (fun _ k => (y - intOf k).toNat)
      case atStart => exact ⟨1900, by omega, hy1, rfl, by rw [HB0.out]⟩
      case round =>
        obtain ⟨a, ha1, ha2, rfl, rfl⟩ := hrel
        have hb := beginY_bd (y := a) (by omega) (by omega)
        have hb1 := hb.1
        have hb2 := hb.2
        clear hb
        by_cases hlt : a < y
        · have k1 : decide (a < y) = true := by rw [decide_eq_true_eq]; exact hlt
          have HLP := Lib.hid (refLeap_any a w (by omega) (by omega))
          have G := Lib.hid (beginY_succ a)
          have HI : Hid (lpI a = if leapB a = true then 1 else 0) := rfl
          generalize beginY a = B at *
          generalize lpI a = I at *
          cases hL : leapB a
          · have J : Hid (I = 0) := by show _ = _; rw [HI.out, hL]; rfl
            rw [hL] at HLP
            clear hL HI
            go_wp2_with fail
            refine HLP.out.mono ?_
            rintro e wx ⟨rfl, rfl⟩
            go_wp2_with fail
            go_round
            case rel => exact ⟨a + 1, by omega, by omega, rfl, by rw [G.out, J.out]; go_num⟩
            case measure => simp [intOf]; omega
          · have J : Hid (I = 1) := by show _ = _; rw [HI.out, hL]; rfl
            rw [hL] at HLP
            clear hL HI
            go_wp2_with fail
            refine HLP.out.mono ?_
            rintro e wx ⟨rfl, rfl⟩
            go_wp2_with fail
            go_round
            case rel => exact ⟨a + 1, by omega, by omega, rfl, by rw [G.out, J.out]⟩
            case measure => simp [intOf]; omega
        · have k1 : decide (a < y) = false := by rw [decide_eq_false_iff_not]; exact hlt
          obtain rfl : a = y := by omega
          clear hlt
          generalize beginY a = B at *
          go_wp2_with fail
          go_loop [8, 10] (fun n k => ∃ q : Nat, (q : Int) + 1 ≤ m ∧ k = .int .i64 ((q : Int) + 1) ∧ n = .int .i64 (B + cumM a q)) (fun _ k => (m - intOf k).toNat)
          case atStart => exact ⟨0, by omega, rfl, by rw [show cumM a 0 = 0 from rfl, Int.add_zero]⟩
          case round =>
            obtain ⟨q, hq, rfl, rfl⟩ := hrel
            have hcb := cumM_bd a q
            have hc1 := hcb.1
            have hc2 : cumM a q ≤ 400 := by omega
            have G := Lib.hid (cumM_next a q)
            have hdb := dayM_bd a ((q : Int) + 1)
            have hd1 := hdb.1
            have hd2 := hdb.2
            have HDQ := Lib.hid (refDays_any a ((q : Int) + 1) w)
            clear hcb hdb
            by_cases hlt : (q : Int) + 1 < m
            · have k2 : decide ((q : Int) + 1 < m) = true := by rw [decide_eq_true_eq]; exact hlt
              generalize cumM a q = C at *
              generalize dayM a ((q : Int) + 1) = D at *
              go_wp2_with fail
              refine HDQ.out.mono ?_
              rintro e wx ⟨rfl, rfl⟩
              go_wp2_with fail
              go_round
              case rel => exact ⟨q + 1, by omega, by go_num, by rw [G.out, ← Int.add_assoc]⟩
              case measure => simp [intOf]; omega
            · have k2 : decide ((q : Int) + 1 < m) = false := by rw [decide_eq_false_iff_not]; exact hlt
              have E : Hid (dayN a m d = B + cumM a q + d - 1) := by
                show _ = _
                rw [HND.out, show (m - 1).toNat = q by omega]
              generalize cumM a q = C at *
              go_wp2_with fail
              go_ret2
              exact ⟨by rw [F.out, E.out]; rfl, rfl⟩
    · have F := Lib.hid (ofR_no (fun h => h2 h.2))
      have g2 : decide (dayM y m < d) = true := by rw [decide_eq_true_eq]; omega
      generalize dayM y m = X at *
      clear h2
      go_enter Tryz.func130, Tryz.ntmps130
      go_wp2_with fail
      refine HDA.out.mono ?_
      rintro e wx ⟨rfl, rfl⟩
      go_wp2_with fail
      go_ret2
      exact ⟨by rw [F.out]; rfl, rfl⟩
  · have g1 : decide (d < 1) = true := by rw [decide_eq_true_eq]; omega
    have F := Lib.hid (ofR_no (y := y) (m := m) (fun h => h1 h.1))
    clear h1
    go_enter Tryz.func130, Tryz.ntmps130
    go_wp2_with fail
    go_ret2
    exact ⟨by rw [F.out]; rfl, rfl⟩
end Go.Proofs.YtfnlddloalineaaGreatDoor
namespace Go.Proofs.YtfnlddloalineaaGreatDoor
open Go.RowKit
set_option linter.unusedVariables false
def numOkR (l : List UInt8) : Value := if l.all isDig = true then .tuple #[.int .i64 (decVal l), .bool true] else .tuple #[.int .i64 0, .bool false]
def numI (l : List UInt8) : Int := if l.all isDig = true then (decVal l : Int) else -1
theorem decVal_step {l : List UInt8} {k : Nat} (hk : k < l.length) (hd : isDig (l.getD k 0) = true) : ((decVal (l.take (k + 1)) : Nat) : Int) = 10 * (decVal (l.take k) : Int) + (((l.getD k 0).toNat : Int) - 48) := by
  have e : l.take (k + 1) = l.take k ++ [l.getD k 0] := by
    rw [List.take_succ_eq_append_getElem hk, List.getD_eq_getElem?_getD, List.getElem?_eq_getElem hk]
    rfl
  rw [e, decVal_snoc]
  have := isDig_iff.1 hd
  omega
theorem decVal_4 {l : List UInt8} {k : Nat} (h : (l.take k).all isDig = true) (hk : k ≤ 4) : decVal (l.take k) ≤ 10000 := by
  have := decVal_lt h
  have h2 : (10 : Nat) ^ (l.take k).length ≤ 10 ^ 4 := Nat.pow_le_pow_right (by omega) (by rw [List.length_take]; omega)
  omega
set_option maxHeartbeats 2000000 in
theorem dnumber_any (l : List UInt8) (w : World) (hl : l.length ≤ 4) : Calls Tryz.prog 156 #[.string ⟨l.toArray⟩] w fun e w' => e = .returned (numOkR l) ∧ w = w' := by
  go_enter Tryz.func156, Tryz.ntmps156
  go_wp2_with fail
  go_loop [4, 8] (fun n i => ∃ k : Nat, k ≤ l.length ∧ i = .int .i64 (k : Int) ∧ n = .int .i64 (decVal (l.take k) : Int) ∧ (l.take k).all isDig = true) (fun _ i => l.length - (intOf i).toNat)
  case atStart => exact ⟨0, Nat.zero_le _, rfl, rfl, rfl⟩
  case round =>
    obtain ⟨k, hk, rfl, rfl, ha⟩ := hrel
    have HA := Lib.hid ha
    have hv := decVal_4 ha (by omega)
    clear ha
    by_cases hlt : k < l.length
    · have k1 : decide ((k : Int) < (l.length : Int)) = true := by rw [decide_eq_true_eq]; omega
      have b1 : (k : Int) < (l.length : Int) := by omega
      have b2 : (0 : Int) ≤ (k : Int) := by omega
      have hsz : k < (⟨l.toArray⟩ : ByteArray).size := by rw [mk_size]; exact hlt
      cases hd : isDig (l.getD k 0)
      · have F : Hid (numOkR l = .tuple #[.int .i64 0, .bool false]) := by
          show _ = _
          unfold numOkR
          rw [all_not_at hlt hd]
          rfl
        have hno := isDig_no hd
        rw [← mk_getD l k hsz] at hno
        have hlb : ((⟨l.toArray⟩ : ByteArray)[k]).toNat < 256 := ((⟨l.toArray⟩ : ByteArray)[k]).toNat_lt
        clear hd HA
        generalize decVal (l.take k) = V at *
        rcases hno with h | h
        · have q1 : decide ((((⟨l.toArray⟩ : ByteArray)[k]).toNat : Int) < 48) = true := by rw [decide_eq_true_eq]; omega
          go_wp2_with fail
          go_ret2
          exact ⟨by rw [F.out]; rfl, rfl⟩
        · have q1 : decide ((((⟨l.toArray⟩ : ByteArray)[k]).toNat : Int) < 48) = false := by rw [decide_eq_false_iff_not]; omega
          have q2 : decide (57 < (((⟨l.toArray⟩ : ByteArray)[k]).toNat : Int)) = true := by rw [decide_eq_true_eq]; omega
          go_wp2_with fail
          go_ret2
          exact ⟨by rw [F.out]; rfl, rfl⟩
      · have HS := Lib.hid (decVal_step hlt hd)
        have HA2 := Lib.hid (take_all_succ hlt HA.out hd)
        have hb := isDig_iff.1 hd
        rw [← mk_getD l k hsz] at HS hb
        have r1 : (48 : Int) ≤ (((⟨l.toArray⟩ : ByteArray)[k]).toNat : Int) := by omega
        have r2 : (((⟨l.toArray⟩ : ByteArray)[k]).toNat : Int) ≤ 57 := by omega
        have q1 : decide ((((⟨l.toArray⟩ : ByteArray)[k]).toNat : Int) < 48) = false := by rw [decide_eq_false_iff_not]; omega
        have q2 : decide (57 < (((⟨l.toArray⟩ : ByteArray)[k]).toNat : Int)) = false := by rw [decide_eq_false_iff_not]; omega
        clear hb hd HA
        generalize decVal (l.take k) = V at *
        have v1 : (0 : Int) ≤ (V : Int) := by omega
        have v2 : (V : Int) ≤ 10000 := by omega
        go_wp2_with fail
        go_round
        case rel => exact ⟨k + 1, by omega, by go_num, by rw [HS.out], HA2.out⟩
        case measure => simp [intOf]; omega
    · have k1 : decide ((k : Int) < (l.length : Int)) = false := by rw [decide_eq_false_iff_not]; omega
      have F : Hid (numOkR l = .tuple #[.int .i64 (decVal (l.take k) : Int), .bool true]) := by
        show _ = _
        have := HA.out
        have e : l.take k = l := List.take_of_length_le (by omega)
        rw [e] at this ⊢
        unfold numOkR
        rw [if_pos this]
      generalize decVal (l.take k) = V at *
      go_wp2_with fail
      go_ret2
      exact ⟨by rw [F.out]; rfl, rfl⟩
set_option maxHeartbeats 2000000 in
theorem refDnumber_any (l : List UInt8) (w : World) (hl : l.length ≤ 4) : Calls Tryz.prog 129 #[.string ⟨l.toArray⟩] w fun e w' => e = .returned (.int .i64 (numI l)) ∧ w' = w := by
  go_enter Tryz.func129, Tryz.ntmps129
  go_wp2_with fail
  go_loop [3, 4] (fun n i => ∃ k : Nat, k ≤ l.length ∧ i = .int .i64 (k : Int) ∧ n = .int .i64 (decVal (l.take k) : Int) ∧ (l.take k).all isDig = true) (fun _ i => l.length - (intOf i).toNat)
  case atStart => exact ⟨0, Nat.zero_le _, rfl, rfl, rfl⟩
  case round =>
    obtain ⟨k, hk, rfl, rfl, ha⟩ := hrel
    have HA := Lib.hid ha
    have hv := decVal_4 ha (by omega)
    clear ha
    by_cases hlt : k < l.length
    · have k1 : decide ((k : Int) < (l.length : Int)) = true := by rw [decide_eq_true_eq]; omega
      have b1 : (k : Int) < (l.length : Int) := by omega
      have b2 : (0 : Int) ≤ (k : Int) := by omega
      have hsz : k < (⟨l.toArray⟩ : ByteArray).size := by rw [mk_size]; exact hlt
      cases hd : isDig (l.getD k 0)
      · have F : Hid (numI l = -1) := by
          show _ = _
          unfold numI
          rw [all_not_at hlt hd]
          rfl
        have hno := isDig_no hd
        rw [← mk_getD l k hsz] at hno
        have hlb : ((⟨l.toArray⟩ : ByteArray)[k]).toNat < 256 := ((⟨l.toArray⟩ : ByteArray)[k]).toNat_lt
        clear hd HA
        generalize decVal (l.take k) = V at *
        rcases hno with h | h
        · have q1 : decide ((((⟨l.toArray⟩ : ByteArray)[k]).toNat : Int) < 48) = true := by rw [decide_eq_true_eq]; omega
          go_wp2_with fail
          go_ret
          exact ⟨by rw [F.out]; rfl, rfl⟩
        · have q1 : decide ((((⟨l.toArray⟩ : ByteArray)[k]).toNat : Int) < 48) = false := by rw [decide_eq_false_iff_not]; omega
          have q2 : decide (57 < (((⟨l.toArray⟩ : ByteArray)[k]).toNat : Int)) = true := by rw [decide_eq_true_eq]; omega
          go_wp2_with fail
          go_ret
          exact ⟨by rw [F.out]; rfl, rfl⟩
      · have HS := Lib.hid (decVal_step hlt hd)
        have HA2 := Lib.hid (take_all_succ hlt HA.out hd)
        have hb := isDig_iff.1 hd
        rw [← mk_getD l k hsz] at HS hb
        have r1 : (48 : Int) ≤ (((⟨l.toArray⟩ : ByteArray)[k]).toNat : Int) := by omega
        have r2 : (((⟨l.toArray⟩ : ByteArray)[k]).toNat : Int) ≤ 57 := by omega
        have q1 : decide ((((⟨l.toArray⟩ : ByteArray)[k]).toNat : Int) < 48) = false := by rw [decide_eq_false_iff_not]; omega
        have q2 : decide (57 < (((⟨l.toArray⟩ : ByteArray)[k]).toNat : Int)) = false := by rw [decide_eq_false_iff_not]; omega
        clear hb hd HA
        generalize decVal (l.take k) = V at *
        have v1 : (0 : Int) ≤ (V : Int) := by omega
        have v2 : (V : Int) ≤ 10000 := by omega
        go_wp2_with fail
        go_round
        case rel => exact ⟨k + 1, by omega, by go_num, by rw [HS.out], HA2.out⟩
        case measure => simp [intOf]; omega
    · have k1 : decide ((k : Int) < (l.length : Int)) = false := by rw [decide_eq_false_iff_not]; omega
      have F : Hid (numI l = (decVal (l.take k) : Int)) := by
        show _ = _
        have := HA.out
        have e : l.take k = l := List.take_of_length_le (by omega)
        rw [e] at this ⊢
        unfold numI
        rw [if_pos this]
      generalize decVal (l.take k) = V at *
      go_wp2_with fail
      go_ret
      exact ⟨by rw [F.out]; rfl, rfl⟩
/-- a text of the form of a date: ten bytes, two signs -/
def datF (s : List UInt8) : Bool := decide (s.length = 10) && ((s.getD 4 0 == 45) && (s.getD 7 0 == 45))
def datD (s : List UInt8) : Bool := (s.take 4).all isDig && (((s.take 7).drop 5).all isDig && (s.drop 8).all isDig)
def datR (s : List UInt8) : Value := if (datF s && datD s) = true then ofR (decVal (s.take 4)) (decVal ((s.take 7).drop 5)) (decVal (s.drop 8)) else .tuple #[.int .i64 0, .int .i64 3]
theorem datR_no {s : List UInt8} (h : (datF s && datD s) = false) : datR s = .tuple #[.int .i64 0, .int .i64 3] := by unfold datR; rw [h]; rfl
theorem datR_yes {s : List UInt8} (h : (datF s && datD s) = true) : datR s = ofR (decVal (s.take 4)) (decVal ((s.take 7).drop 5)) (decVal (s.drop 8)) := by unfold datR; rw [if_pos h]
end Go.Proofs.YtfnlddloalineaaGreatDoor
namespace Go.Proofs.YtfnlddloalineaaGreatDoor
open Go.RowKit
set_option linter.unusedVariables false
theorem ofR_two (y m d : Int) : ∃ N E : Int, ofR y m d = .tuple #[.int .i64 N, .int .i64 E] := by
  unfold ofR
  split
  · exact ⟨_, _, rfl⟩
  · exact ⟨_, _, rfl⟩
theorem numOkR_yes {l : List UInt8} (h : l.all isDig = true) : numOkR l = .tuple #[.int .i64 (decVal l), .bool true] := by unfold numOkR; rw [if_pos h]
theorem numOkR_no {l : List UInt8} (h : l.all isDig = false) : numOkR l = .tuple #[.int .i64 0, .bool false] := by unfold numOkR; rw [h]; rfl
theorem numI_yes {l : List UInt8} (h : l.all isDig = true) : numI l = (decVal l : Int) := by unfold numI; rw [if_pos h]
theorem numI_no {l : List UInt8} (h : l.all isDig = false) : numI l = -1 := by unfold numI; rw [h]; rfl
theorem byteNe (a b : UInt8) : (((a.toNat : Nat) : Int) != ((b.toNat : Nat) : Int)) = !(a == b) := by
  have e : (((a.toNat : Nat) : Int) == ((b.toNat : Nat) : Int)) = (a == b) := by
    rw [Bool.eq_iff_iff, beq_iff_eq, beq_iff_eq]
    constructor
    · intro h; exact UInt8.toNat_inj.1 (by omega)
    · intro h; rw [h]
  rw [bne, e]
set_option maxRecDepth 100000 in
set_option maxHeartbeats 4000000 in
theorem dparse_any (s : List UInt8) (w : World) : Calls Tryz.prog 128 #[.string ⟨s.toArray⟩] w fun e w' => e = .returned (datR s) ∧ Below w.heap.size w w' := by
  by_cases h10 : s.length = 10
  · have q0 : ((s.length : Int) != 10) = false := by rw [bne_eq_false_iff_eq]; omega
    have q0' : (s.length != 10) = false := by rw [bne_eq_false_iff_eq]; omega
    have s4 : 4 < (⟨s.toArray⟩ : ByteArray).size := by rw [mk_size]; omega
    have s7 : 7 < (⟨s.toArray⟩ : ByteArray).size := by rw [mk_size]; omega
    have b4 : (4 : Int) < (s.length : Int) := by omega
    have b7 : (7 : Int) < (s.length : Int) := by omega
    have b8 : (8 : Int) ≤ (s.length : Int) := by omega
    have c4 : (4 : Int) ≤ (s.length : Int) := by omega
    have c7 : (7 : Int) ≤ (s.length : Int) := by omega
    have n4 : 4 < s.length := by omega
    have n7 : 7 < s.length := by omega
    have n8 : 8 ≤ s.length := by omega
    have g4 : (((⟨s.toArray⟩ : ByteArray)[4].toNat : Int) != 45) = !(s.getD 4 0 == 45) := by rw [mk_getD]; exact byteNe _ 45
    have g7 : (((⟨s.toArray⟩ : ByteArray)[7].toNat : Int) != 45) = !(s.getD 7 0 == 45) := by rw [mk_getD]; exact byteNe _ 45
    have HF : Hid (datF s = ((s.getD 4 0 == 45) && (s.getD 7 0 == 45))) := by show _ = _; unfold datF; rw [decide_eq_true h10]; rfl
    have x1 : (⟨s.toArray⟩ : ByteArray).extract 0 4 = ⟨(s.take 4).toArray⟩ := by rw [ex_mk]; simp
    have x2 : (⟨s.toArray⟩ : ByteArray).extract 5 7 = ⟨((s.take 7).drop 5).toArray⟩ := ex_mk _ _ _
    have x3 : (⟨s.toArray⟩ : ByteArray).extract 8 s.length = ⟨(s.drop 8).toArray⟩ := by rw [ex_mk, List.take_length]
    have HD : Hid (datD s = ((s.take 4).all isDig && (((s.take 7).drop 5).all isDig && (s.drop 8).all isDig))) := rfl
    have HY : Hid ((datF s && datD s) = true → datR s = ofR (decVal (s.take 4)) (decVal ((s.take 7).drop 5)) (decVal (s.drop 8))) := fun h => datR_yes h
    have HN : Hid ((datF s && datD s) = false → datR s = .tuple #[.int .i64 0, .int .i64 3]) := fun h => datR_no h
    have la : (s.take 4).length ≤ 4 := by rw [List.length_take]; omega
    have lb : ((s.take 7).drop 5).length ≤ 4 := by rw [List.length_drop, List.length_take]; omega
    have lc : (s.drop 8).length ≤ 4 := by rw [List.length_drop]; omega
    generalize s.take 4 = A at *
    generalize (s.take 7).drop 5 = B at *
    generalize s.drop 8 = C at *
    have HA := Lib.hid (dnumber_any A)
    have HB := Lib.hid (dnumber_any B)
    have HC := Lib.hid (dnumber_any C)
    generalize (s.getD 4 0 == 45) = t4 at *
    generalize (s.getD 7 0 == 45) = t7 at *
    clear h10
    cases t4
    · have F := Lib.hid (HN.out (by rw [HF.out]; rfl))
      rw [Bool.not_false] at g4
      clear HY HN HF HD x1 x2 x3
      go_enter Tryz.func128, Tryz.ntmps128
      go_wp2_with fail
      go_ret2
      exact ⟨by rw [F.out]; rfl, Below.refl _ _⟩
    cases t7
    · have F := Lib.hid (HN.out (by rw [HF.out]; rfl))
      rw [Bool.not_true] at g4
      rw [Bool.not_false] at g7
      clear HY HN HF HD x1 x2 x3
      go_enter Tryz.func128, Tryz.ntmps128
      go_wp2_with fail
      go_ret2
      exact ⟨by rw [F.out]; rfl, Below.refl _ _⟩
    rw [Bool.not_true] at g4 g7
    have HFD : Hid ((datF s && datD s) = (A.all isDig && (B.all isDig && C.all isDig))) := by show _ = _; rw [HF.out, HD.out]; rfl
    clear HF HD
    obtain ⟨NA, KA, ea⟩ : ∃ (NA : Int) (KA : Bool), A.all isDig = KA ∧ numOkR A = .tuple #[.int .i64 NA, .bool KA] ∧ (KA = true → NA = (decVal A : Int)) := by
      cases h : A.all isDig
      · exact ⟨_, _, rfl, numOkR_no h, fun h => by cases h⟩
      · exact ⟨_, _, rfl, numOkR_yes h, fun _ => rfl⟩
    obtain ⟨NB, KB, eb⟩ : ∃ (NB : Int) (KB : Bool), B.all isDig = KB ∧ numOkR B = .tuple #[.int .i64 NB, .bool KB] ∧ (KB = true → NB = (decVal B : Int)) := by
      cases h : B.all isDig
      · exact ⟨_, _, rfl, numOkR_no h, fun h => by cases h⟩
      · exact ⟨_, _, rfl, numOkR_yes h, fun _ => rfl⟩
    obtain ⟨NC, KC, ec⟩ : ∃ (NC : Int) (KC : Bool), C.all isDig = KC ∧ numOkR C = .tuple #[.int .i64 NC, .bool KC] ∧ (KC = true → NC = (decVal C : Int)) := by
      cases h : C.all isDig
      · exact ⟨_, _, rfl, numOkR_no h, fun h => by cases h⟩
      · exact ⟨_, _, rfl, numOkR_yes h, fun _ => rfl⟩
    have hfd := HFD.out
    rw [ea.1, eb.1, ec.1] at hfd
    have HFE := Lib.hid hfd
    have EA := Lib.hid ea.2
    have EB := Lib.hid eb.2
    have EC := Lib.hid ec.2
    clear HFD hfd ea eb ec
    go_enter Tryz.func128, Tryz.ntmps128
    go_wp2_with fail
    refine (HA.out _ la).mono ?_
    rintro e wx ⟨rfl, rfl⟩
    rw [EA.out.1]
    go_wp2_with fail
    refine (HB.out _ lb).mono ?_
    rintro e wx ⟨rfl, rfl⟩
    rw [EB.out.1]
    go_wp2_with fail
    refine (HC.out _ lc).mono ?_
    rintro e wx ⟨rfl, rfl⟩
    rw [EC.out.1]
    clear x1 x2 x3
    cases KA
    · have F := Lib.hid (HN.out (by rw [HFE.out]; rfl))
      clear HY HN HFE
      go_wp2_with fail
      go_ret2
      exact ⟨by rw [F.out]; rfl, Below.refl _ _⟩
    cases KB
    · have F := Lib.hid (HN.out (by rw [HFE.out]; rfl))
      clear HY HN HFE
      go_wp2_with fail
      go_ret2
      exact ⟨by rw [F.out]; rfl, Below.refl _ _⟩
    cases KC
    · have F := Lib.hid (HN.out (by rw [HFE.out]; rfl))
      clear HY HN HFE
      go_wp2_with fail
      go_ret2
      exact ⟨by rw [F.out]; rfl, Below.refl _ _⟩
    have F := Lib.hid (HY.out (by rw [HFE.out]; rfl))
    have ga := EA.out.2 rfl
    have gb := EB.out.2 rfl
    have gc := EC.out.2 rfl
    have F2 : Hid (datR s = ofR NA NB NC) := by show _ = _; rw [F.out, ga, gb, gc]
    clear HY HN HFE ga gb gc F EA EB EC
    obtain ⟨N, E, he⟩ := ofR_two NA NB NC
    have HO := Lib.hid (of_any NA NB NC w)
    rw [he] at HO F2
    clear he
    go_wp2_with fail
    refine HO.out.mono ?_
    rintro e w1 ⟨rfl, hb⟩
    go_wp2_with fail
    go_ret2
    exact ⟨by rw [F2.out]; rfl, hb⟩
  · have q0 : ((s.length : Int) != 10) = true := by rw [bne_iff_ne]; omega
    have q0' : (s.length != 10) = true := by rw [bne_iff_ne]; omega
    have F := Lib.hid (datR_no (s := s) (by unfold datF; rw [decide_eq_false h10]; rfl))
    clear h10
    go_enter Tryz.func128, Tryz.ntmps128
    go_wp2_with fail
    go_ret2
    exact ⟨by rw [F.out]; rfl, Below.refl _ _⟩
set_option maxRecDepth 100000 in
set_option maxHeartbeats 4000000 in
theorem refDparse_any (s : List UInt8) (w : World) : Calls Tryz.prog 102 #[.string ⟨s.toArray⟩] w fun e w' => e = .returned (datR s) ∧ Below w.heap.size w w' := by
  by_cases h10 : s.length = 10
  · have q0 : ((s.length : Int) != 10) = false := by rw [bne_eq_false_iff_eq]; omega
    have q0' : (s.length != 10) = false := by rw [bne_eq_false_iff_eq]; omega
    have s4 : 4 < (⟨s.toArray⟩ : ByteArray).size := by rw [mk_size]; omega
    have s7 : 7 < (⟨s.toArray⟩ : ByteArray).size := by rw [mk_size]; omega
    have b4 : (4 : Int) < (s.length : Int) := by omega
    have b7 : (7 : Int) < (s.length : Int) := by omega
    have b8 : (8 : Int) ≤ (s.length : Int) := by omega
    have c4 : (4 : Int) ≤ (s.length : Int) := by omega
    have c7 : (7 : Int) ≤ (s.length : Int) := by omega
    have n4 : 4 < s.length := by omega
    have n7 : 7 < s.length := by omega
    have n8 : 8 ≤ s.length := by omega
    have m4 : 4 ≤ s.length := by omega
    have m7 : 7 ≤ s.length := by omega
    have g4 : (((⟨s.toArray⟩ : ByteArray)[4].toNat : Int) != 45) = !(s.getD 4 0 == 45) := by rw [mk_getD]; exact byteNe _ 45
    have g7 : (((⟨s.toArray⟩ : ByteArray)[7].toNat : Int) != 45) = !(s.getD 7 0 == 45) := by rw [mk_getD]; exact byteNe _ 45
    have HF : Hid (datF s = ((s.getD 4 0 == 45) && (s.getD 7 0 == 45))) := by show _ = _; unfold datF; rw [decide_eq_true h10]; rfl
    have x1 : (⟨s.toArray⟩ : ByteArray).extract 0 4 = ⟨(s.take 4).toArray⟩ := by rw [ex_mk]; simp
    have x2 : (⟨s.toArray⟩ : ByteArray).extract 5 7 = ⟨((s.take 7).drop 5).toArray⟩ := ex_mk _ _ _
    have x3 : (⟨s.toArray⟩ : ByteArray).extract 8 s.length = ⟨(s.drop 8).toArray⟩ := by rw [ex_mk, List.take_length]
    have HD : Hid (datD s = ((s.take 4).all isDig && (((s.take 7).drop 5).all isDig && (s.drop 8).all isDig))) := rfl
    have HY : Hid ((datF s && datD s) = true → datR s = ofR (decVal (s.take 4)) (decVal ((s.take 7).drop 5)) (decVal (s.drop 8))) := fun h => datR_yes h
    have HN : Hid ((datF s && datD s) = false → datR s = .tuple #[.int .i64 0, .int .i64 3]) := fun h => datR_no h
    have la : (s.take 4).length ≤ 4 := by rw [List.length_take]; omega
    have lb : ((s.take 7).drop 5).length ≤ 4 := by rw [List.length_drop, List.length_take]; omega
    have lc : (s.drop 8).length ≤ 4 := by rw [List.length_drop]; omega
    generalize s.take 4 = A at *
    generalize (s.take 7).drop 5 = B at *
    generalize s.drop 8 = C at *
    have HA : Hid (∀ w, Calls Tryz.prog 129 #[.string ⟨A.toArray⟩] w fun e w' => e = .returned (.int .i64 (numI A)) ∧ w' = w) := fun w => refDnumber_any A w la
    have HB : Hid (∀ w, Calls Tryz.prog 129 #[.string ⟨B.toArray⟩] w fun e w' => e = .returned (.int .i64 (numI B)) ∧ w' = w) := fun w => refDnumber_any B w lb
    have HC : Hid (∀ w, Calls Tryz.prog 129 #[.string ⟨C.toArray⟩] w fun e w' => e = .returned (.int .i64 (numI C)) ∧ w' = w) := fun w => refDnumber_any C w lc
    generalize (s.getD 4 0 == 45) = t4 at *
    generalize (s.getD 7 0 == 45) = t7 at *
    clear h10
    cases t4
    · have F := Lib.hid (HN.out (by rw [HF.out]; rfl))
      rw [Bool.not_false] at g4
      clear HY HN HF HD x1 x2 x3
      go_enter Tryz.func102, Tryz.ntmps102
      go_wp2_with fail
      go_ret2
      exact ⟨by rw [F.out]; rfl, Below.refl _ _⟩
    cases t7
    · have F := Lib.hid (HN.out (by rw [HF.out]; rfl))
      rw [Bool.not_true] at g4
      rw [Bool.not_false] at g7
      clear HY HN HF HD x1 x2 x3
      go_enter Tryz.func102, Tryz.ntmps102
      go_wp2_with fail
      go_ret2
      exact ⟨by rw [F.out]; rfl, Below.refl _ _⟩
    rw [Bool.not_true] at g4 g7
    have HFD : Hid ((datF s && datD s) = (A.all isDig && (B.all isDig && C.all isDig))) := by show _ = _; rw [HF.out, HD.out]; rfl
    clear HF HD
    have ia : (A.all isDig = true ∧ numI A = (decVal A : Int)) ∨ (A.all isDig = false ∧ numI A = -1) := by
      cases h : A.all isDig
      · exact .inr ⟨rfl, numI_no h⟩
      · exact .inl ⟨rfl, numI_yes h⟩
    have ib : (B.all isDig = true ∧ numI B = (decVal B : Int)) ∨ (B.all isDig = false ∧ numI B = -1) := by
      cases h : B.all isDig
      · exact .inr ⟨rfl, numI_no h⟩
      · exact .inl ⟨rfl, numI_yes h⟩
    have ic : (C.all isDig = true ∧ numI C = (decVal C : Int)) ∨ (C.all isDig = false ∧ numI C = -1) := by
      cases h : C.all isDig
      · exact .inr ⟨rfl, numI_no h⟩
      · exact .inl ⟨rfl, numI_yes h⟩
    obtain ⟨NA, ea⟩ : ∃ NA, numI A = NA := ⟨_, rfl⟩
    obtain ⟨NB, eb⟩ : ∃ NB, numI B = NB := ⟨_, rfl⟩
    obtain ⟨NC, ec⟩ : ∃ NC, numI C = NC := ⟨_, rfl⟩
    rw [ea] at HA ia
    rw [eb] at HB ib
    rw [ec] at HC ic
    clear ea eb ec
    have hend : ((datF s && datD s) = true ∧ NA = (decVal A : Int) ∧ NB = (decVal B : Int) ∧ NC = (decVal C : Int) ∧ decide (NA < 0) = false ∧ decide (NB < 0) = false ∧ decide (NC < 0) = false) ∨ ((datF s && datD s) = false ∧ (decide (NA < 0) = true ∨ (decide (NA < 0) = false ∧ decide (NB < 0) = true) ∨ (decide (NA < 0) = false ∧ decide (NB < 0) = false ∧ decide (NC < 0) = true))) := by
      simp only [decide_eq_true_eq, decide_eq_false_iff_not]
      rw [HFD.out]
      rcases ia with ⟨h, h'⟩ | ⟨h, h'⟩
      · rcases ib with ⟨k, k'⟩ | ⟨k, k'⟩
        · rcases ic with ⟨l, l'⟩ | ⟨l, l'⟩
          · exact .inl ⟨by rw [h, k, l]; rfl, h', k', l', by omega, by omega, by omega⟩
          · exact .inr ⟨by rw [h, k, l]; rfl, .inr (.inr ⟨by omega, by omega, by omega⟩)⟩
        · exact .inr ⟨by rw [h, k]; rfl, .inr (.inl ⟨by omega, by omega⟩)⟩
      · exact .inr ⟨by rw [h]; rfl, .inl (by omega)⟩
    have HEND := Lib.hid hend
    clear ia ib ic HFD hend
    go_enter Tryz.func102, Tryz.ntmps102
    go_wp2_with fail
    go_quiet ((first
      | (go_at_call 129; with_reducible exact Calls.quiet_of_same (HA.out _))
      | (go_at_call 129; with_reducible exact Calls.quiet_of_same (HB.out _))
      | (go_at_call 129; with_reducible exact Calls.quiet_of_same (HC.out _))))
    have HBW := Lib.hid (below_drewN (Below.refl w.heap.size w) nq)
    clear x1 x2 x3
    generalize w.drewN nq = wp at *
    rcases HEND.out with ⟨h, h1, h2, h3, h4, h5, h6⟩ | ⟨h, h1 | ⟨h1, h2⟩ | ⟨h1, h2, h3⟩⟩
    · have F := Lib.hid (HY.out h)
      have F2 : Hid (datR s = ofR NA NB NC) := by show _ = _; rw [F.out, h1, h2, h3]
      clear HY HN HEND h h1 h2 h3 F HA HB HC
      obtain ⟨N, E, he⟩ := ofR_two NA NB NC
      have HO := Lib.hid (refOf_any NA NB NC wp)
      rw [he] at HO F2
      clear he
      go_wp2_with fail
      refine HO.out.mono ?_
      rintro e wx ⟨rfl, rfl⟩
      go_wp2_with fail
      go_ret2
      exact ⟨by rw [F2.out]; rfl, HBW.out⟩
    all_goals
      have F := Lib.hid (HN.out h)
      clear HY HN HEND h HA HB HC
      go_wp2_with fail
      go_ret2
      exact ⟨by rw [F.out]; rfl, HBW.out⟩
  · have q0 : ((s.length : Int) != 10) = true := by rw [bne_iff_ne]; omega
    have q0' : (s.length != 10) = true := by rw [bne_iff_ne]; omega
    have F := Lib.hid (datR_no (s := s) (by unfold datF; rw [decide_eq_false h10]; rfl))
    clear h10
    go_enter Tryz.func102, Tryz.ntmps102
    go_wp2_with fail
    go_ret2
    exact ⟨by rw [F.out]; rfl, Below.refl _ _⟩
end Go.Proofs.YtfnlddloalineaaGreatDoor
namespace Go.Proofs.YtfnlddloalineaaGreatDoor
open Go.RowKit
set_option linter.unusedVariables false
/-- what Civil returns -/
def CivSays (n : Int) (w : World) (e : Ending) (w' : World) : Prop := ∃ y m d : Int, e = .returned (.tuple #[.int .i64 y, .int .i64 m, .int .i64 d, .int .i64 0]) ∧ dayOk y m d = true ∧ dayN y m d = n ∧ Below w.heap.size w w'
theorem tdiv_366 (n : Int) : (0 ≤ n → n.tdiv 366 = n / 366) ∧ (n < 0 → 366 * n.tdiv 366 - 366 < n ∧ n ≤ 366 * n.tdiv 366) := by
  refine ⟨fun h => Int.tdiv_eq_ediv_of_nonneg h, fun h => ?_⟩
  have e : n.tdiv 366 = -((-n) / 366) := by
    have := Int.neg_tdiv (-n) 366
    rw [Int.neg_neg] at this
    rw [this, Int.tdiv_eq_ediv_of_nonneg (by omega)]
  rw [e]
  omega
theorem civ_first {n q : Int} (h1 : -25567 ≤ n) (h2 : n ≤ 84005) (h : (0 ≤ n ∧ q = n / 366) ∨ (n < 0 ∧ 366 * q - 366 < n ∧ n ≤ 366 * q)) : 1899 ≤ 1970 + q - 2 ∧ 1970 + q - 2 ≤ 2199 ∧ (1900 ≤ 1970 + q - 2 → beginY (1970 + q - 2) ≤ n) := by
  unfold beginY
  omega
theorem civ_last {y n : Int} (h : beginY y ≤ n) (h2 : n ≤ 84005) : y ≤ 2199 := by
  apply Classical.byContradiction
  intro hn
  have := beginY_mono (a := 2200) (b := y) (by omega)
  have e2 : beginY 2200 = 84006 := by decide
  omega
theorem civ_month {y n : Int} {q : Nat} (hy : 1900 ≤ y ∧ y ≤ 2199) (h1 : n < beginY (y + 1)) (hq : q ≤ 11) (h : dayM y ((q : Int) + 1) ≤ n - beginY y - cumM y q) : q + 1 ≤ 11 := by
  apply Classical.byContradiction
  intro hn
  obtain rfl : q = 11 := by omega
  have e1 := cumM_year hy
  have e2 := beginY_succ y
  have e3 : cumM y 12 = cumM y 11 + dayM y (((11 : Nat) : Int) + 1) := rfl
  omega
theorem civ_done {y n : Int} {q : Nat} (h0 : 0 ≤ n - beginY y - cumM y q) (h : ¬ dayM y ((q : Int) + 1) ≤ n - beginY y - cumM y q) : dayOk y ((q : Int) + 1) (n - beginY y - cumM y q + 1) = true ∧ dayN y ((q : Int) + 1) (n - beginY y - cumM y q + 1) = n := by
  refine ⟨dayOk_iff.2 ⟨by omega, by omega⟩, ?_⟩
  unfold dayN
  rw [show ((q : Int) + 1 - 1).toNat = q by omega]
  omega
set_option maxRecDepth 100000 in
set_option maxHeartbeats 4000000 in
theorem civil_yes (n : Int) (w : World) (h1 : -25567 ≤ n) (h2 : n ≤ 84005) : Calls Tryz.prog 106 #[.int .i64 n] w (CivSays n w) := by
  have HV := Lib.hid (dvalid_any n w)
  have hv : dateB n = true := by unfold dateB; rw [decide_eq_true h1, decide_eq_true h2]; rfl
  rw [hv] at HV
  clear hv
  have ht := tdiv_366 n
  obtain ⟨q, hq⟩ : ∃ q, n.tdiv 366 = q := ⟨_, rfl⟩
  rw [hq] at ht
  have hc := civ_first (n := n) (q := q) h1 h2 (by
    by_cases h : 0 ≤ n
    · exact .inl ⟨h, by rw [← ht.1 h]⟩
    · exact .inr ⟨by omega, ht.2 (by omega)⟩)
  have HC := Lib.hid hc
  have qb1 : -100 ≤ q := by omega
  have qb2 : q ≤ 300 := by omega
  clear ht hc
  go_enter Tryz.func106, Tryz.ntmps106
  go_wp2_with fail
  refine HV.out.mono ?_
  rintro e wx ⟨rfl, rfl⟩
  go_wp2_with fail
  clear hq
  go_loop [2] (fun v => ∃ y : Int, v = .int .i64 y ∧ 1899 ≤ y ∧ y ≤ 2199 ∧ (1900 ≤ y → beginY y ≤ n)) (fun v => (2200 - intOf v).toNat)
  case atStart => exact ⟨_, rfl, HC.out.1, HC.out.2.1, HC.out.2.2⟩
  case round =>
    clear HC qb1 qb2
    obtain ⟨y, rfl, hy1, hy2, hyb⟩ := hrel
    have HYB := Lib.hid hyb
    clear hyb
    by_cases hlo : y < 1900
    · have k1 : decide (y < 1900) = true := by rw [decide_eq_true_eq]; exact hlo
      obtain rfl : y = 1899 := by omega
      clear hy1 hy2 hlo
      go_wp2_with fail
      go_round
      case rel => exact ⟨1900, rfl, by omega, by omega, fun _ => by have e1 : beginY 1900 = -25567 := by decide
                                                                    omega⟩
      case measure => simp [intOf]
    · have k1 : decide (y < 1900) = false := by rw [decide_eq_false_iff_not]; exact hlo
      have HBE := Lib.hid (begin_any (y + 1) w (by omega) (by omega))
      have HYN := Lib.hid (HYB.out (by omega))
      have HLS := Lib.hid (fun h => civ_last (y := y + 1) (n := n) h h2)
      by_cases hle : beginY (y + 1) ≤ n
      · have hy3 := HLS.out hle
        have HLE := Lib.hid hle
        clear hle
        have k2 : decide (beginY (y + 1) ≤ n) = true := by rw [decide_eq_true_eq]; exact HLE.out
        generalize hBB : beginY (y + 1) = BB at *
        have HBB := Lib.hid hBB
        clear hBB
        go_wp2_with fail
        refine HBE.out.mono ?_
        rintro e wx ⟨rfl, rfl⟩
        go_wp2_with fail
        go_round
        case rel => exact ⟨y + 1, rfl, by omega, by omega, fun _ => by rw [HBB.out]; exact HLE.out⟩
        case measure => simp [intOf]; omega
      · have HLT : Hid (n < beginY (y + 1)) := by show _ < _; omega
        have k2 : decide (beginY (y + 1) ≤ n) = false := by rw [decide_eq_false_iff_not]; exact hle
        have HB0 := Lib.hid (begin_any y w (by omega) (by omega))
        have hbb := beginY_bd (y := y) (by omega) (by omega)
        have hbb1 := hbb.1
        have hbb2 := hbb.2
        have hyn := HYN.out
        have HMO : Hid (∀ q : Nat, q ≤ 11 → dayM y ((q : Int) + 1) ≤ n - beginY y - cumM y q → q + 1 ≤ 11) := fun q hq h => civ_month ⟨by omega, hy2⟩ HLT.out hq h
        have HDN : Hid (∀ q : Nat, 0 ≤ n - beginY y - cumM y q → ¬ dayM y ((q : Int) + 1) ≤ n - beginY y - cumM y q → dayOk y ((q : Int) + 1) (n - beginY y - cumM y q + 1) = true ∧ dayN y ((q : Int) + 1) (n - beginY y - cumM y q + 1) = n) := fun q h0 h => civ_done h0 h
        clear hbb hle HLS HYB
        generalize beginY (y + 1) = BB at *
        generalize beginY y = B at *
        go_wp2_with fail
        refine HBE.out.mono ?_
        rintro e wx ⟨rfl, rfl⟩
        go_wp2_with fail
        refine HB0.out.mono ?_
        rintro e wx ⟨rfl, rfl⟩
        go_wp2_with fail
        go_loopw [3, 4] (fun mv dv wr => ∃ q : Nat, q ≤ 11 ∧ mv = .int .i64 ((q : Int) + 1) ∧ dv = .int .i64 (n - B - cumM y q) ∧ 0 ≤ n - B - cumM y q ∧ Below w.heap.size w wr) (fun mv _ _ => (13 - intOf mv).toNat)
        case atStart => exact ⟨0, by omega, rfl, by rw [show cumM y 0 = 0 from rfl, Int.sub_zero], by rw [show cumM y 0 = 0 from rfl]; omega, Below.refl _ _⟩
        case round =>
          obtain ⟨q, hq, rfl, rfl, h0, hbr⟩ := hrel
          have HBR := Lib.hid hbr
          clear hbr
          have hcb := cumM_bd y q
          have hc1 := hcb.1
          have hc2 : cumM y q ≤ 400 := by omega
          have G := Lib.hid (cumM_next y q)
          have hdb := dayM_bd y ((q : Int) + 1)
          have hd1 := hdb.1
          have hd2 := hdb.2
          have HDA : Hid (∀ w, Calls Tryz.prog 134 #[.int .i64 y, .int .i64 ((q : Int) + 1)] w fun e w' => e = .returned (.int .i64 (dayM y ((q : Int) + 1))) ∧ Below w.heap.size w w') := days_any y ((q : Int) + 1)
          have HM := Lib.hid (HMO.out q hq)
          have HD := Lib.hid (HDN.out q h0)
          clear hcb hdb
          generalize cumM y q = C at *
          generalize dayM y ((q : Int) + 1) = D at *
          by_cases hgo : D ≤ n - B - C
          · have k3 : decide (D ≤ n - B - C) = true := by rw [decide_eq_true_eq]; exact hgo
            have hq2 := HM.out hgo
            go_wp2_with fail
            refine (HDA.out _).mono ?_
            rintro e w2 ⟨rfl, hb2⟩
            have HB2 := Lib.hid (below_two HBR.out hb2)
            clear hb2
            go_wp2_with fail
            refine (HDA.out _).mono ?_
            rintro e w3 ⟨rfl, hb3⟩
            have HB3 := Lib.hid (below_two HB2.out hb3)
            clear hb3
            go_wp2_with fail
            go_roundw
            case rel => exact ⟨q + 1, by omega, by go_num, by rw [G.out]; exact congrArg (Value.int .i64) (by omega), by rw [G.out]; omega, HB3.out⟩
            case measure => simp [intOf]; omega
          · have k3 : decide (D ≤ n - B - C) = false := by rw [decide_eq_false_iff_not]; exact hgo
            have hd := HD.out (by omega)
            have HDD := Lib.hid hd
            clear hd
            go_wp2_with fail
            refine (HDA.out _).mono ?_
            rintro e w2 ⟨rfl, hb2⟩
            have HB2 := Lib.hid (below_two HBR.out hb2)
            clear hb2
            go_wp2_with fail
            refine bodyPost_ret (v := .tuple #[.int .i64 y, .int .i64 ((q : Int) + 1), .int .i64 (n - B - C + 1), .int .i64 0]) ?_ rfl ⟨y, (q : Int) + 1, n - B - C + 1, rfl, HDD.out.1, HDD.out.2, HB2.out⟩
            simp [results, Tryz.results106, go_sem]
theorem civil_no (n : Int) (w : World) (h : dateB n = false) : Calls Tryz.prog 106 #[.int .i64 n] w fun e w' => e = .returned (.tuple #[.int .i64 0, .int .i64 0, .int .i64 0, .int .i64 2]) ∧ w = w' := by
  have HV := Lib.hid (dvalid_any n w)
  rw [h] at HV
  clear h
  go_enter Tryz.func106, Tryz.ntmps106
  go_wp2_with fail
  refine HV.out.mono ?_
  rintro e wx ⟨rfl, rfl⟩
  go_wp2_with fail
  refine bodyPost_ret (v := .tuple #[.int .i64 0, .int .i64 0, .int .i64 0, .int .i64 2]) ?_ rfl ⟨rfl, rfl⟩
  simp [results, Tryz.results106, go_sem]
set_option maxRecDepth 100000 in
set_option maxHeartbeats 4000000 in
theorem refCivil_yes (n : Int) (w : World) (h1 : -25567 ≤ n) (h2 : n ≤ 84005) : Calls Tryz.prog 109 #[.int .i64 n] w (CivSays n w) := by
  have HV := Lib.hid (refDvalid_any n w)
  have hv : dateB n = true := by unfold dateB; rw [decide_eq_true h1, decide_eq_true h2]; rfl
  rw [hv] at HV
  clear hv
  have HB0 : Hid (beginY 1900 = -25567) := by show _ = _; decide
  go_enter Tryz.func109, Tryz.ntmps109
  go_wp2_with fail
  refine HV.out.mono ?_
  rintro e wx ⟨rfl, rfl⟩
  go_wp2_with fail
  go_loop [6, 8] (fun v r => ∃ y : Int, v = .int .i64 y ∧ 1900 ≤ y ∧ y ≤ 2199 ∧ beginY y ≤ n ∧ r = .int .i64 (n - beginY y)) (fun v _ => (2200 - intOf v).toNat)
  case atStart => exact ⟨1900, rfl, by omega, by omega, by rw [HB0.out]; exact h1, by rw [HB0.out]; first | rfl | go_num⟩
  case round =>
    obtain ⟨y, rfl, hy1, hy2, hyb, rfl⟩ := hrel
    have HLP := Lib.hid (refLeap_any y w (by omega) (by omega))
    have G := Lib.hid (beginY_succ y)
    have HI : Hid (lpI y = if leapB y = true then 1 else 0) := rfl
    have HLS := Lib.hid (fun h => civ_last (y := y + 1) (n := n) h h2)
    have hbb := beginY_bd (y := y) (by omega) (by omega)
    have hbb1 := hbb.1
    have hbb2 := hbb.2
    have HMO : Hid (n < beginY (y + 1) → ∀ q : Nat, q ≤ 11 → dayM y ((q : Int) + 1) ≤ n - beginY y - cumM y q → q + 1 ≤ 11) := fun hl q hq h => civ_month ⟨by omega, hy2⟩ hl hq h
    have HDN : Hid (∀ q : Nat, 0 ≤ n - beginY y - cumM y q → ¬ dayM y ((q : Int) + 1) ≤ n - beginY y - cumM y q → dayOk y ((q : Int) + 1) (n - beginY y - cumM y q + 1) = true ∧ dayN y ((q : Int) + 1) (n - beginY y - cumM y q + 1) = n) := fun q h0 h => civ_done h0 h
    clear hbb
    generalize hBB : beginY (y + 1) = BB at *
    have HBB := Lib.hid hBB
    clear hBB
    generalize beginY y = B at *
    cases hL : leapB y
    · have J : Hid (BB = B + 365) := by show _ = _; rw [G.out, HI.out, hL]; simp; try omega
      rw [hL] at HLP
      clear hL HI G
      by_cases hgo : 365 ≤ n - B
      · have k1 : decide (365 ≤ n - B) = true := by rw [decide_eq_true_eq]; exact hgo
        have hle : B + 365 ≤ n := by omega
        have hy3 := HLS.out (by rw [J.out]; exact hle)
        go_wp2_with fail
        refine HLP.out.mono ?_
        rintro e wx ⟨rfl, rfl⟩
        go_wp2_with fail
        refine HLP.out.mono ?_
        rintro e wx ⟨rfl, rfl⟩
        go_wp2_with fail
        refine HLP.out.mono ?_
        rintro e wx ⟨rfl, rfl⟩
        go_wp2_with fail
        go_round
        case rel => exact ⟨y + 1, rfl, by omega, by omega, by rw [HBB.out, J.out]; exact hle, by rw [HBB.out, J.out]; exact congrArg (Value.int .i64) (by omega)⟩
        case measure => simp [intOf]; omega
      · have k1 : decide (365 ≤ n - B) = false := by rw [decide_eq_false_iff_not]; exact hgo
        have HMQ := Lib.hid (HMO.out (by rw [J.out]; omega))
        go_wp2_with fail
        refine HLP.out.mono ?_
        rintro e wx ⟨rfl, rfl⟩
        go_wp2_with fail
        refine HLP.out.mono ?_
        rintro e wx ⟨rfl, rfl⟩
        go_wp2_with fail
        go_loop [7, 8] (fun mv dv => ∃ q : Nat, q ≤ 11 ∧ mv = .int .i64 ((q : Int) + 1) ∧ dv = .int .i64 (n - B - cumM y q) ∧ 0 ≤ n - B - cumM y q) (fun mv _ => (13 - intOf mv).toNat)
        case atStart => exact ⟨0, by omega, rfl, by rw [show cumM y 0 = 0 from rfl, Int.sub_zero], by rw [show cumM y 0 = 0 from rfl]; omega⟩
        case round =>
          obtain ⟨q, hq, rfl, rfl, h0⟩ := hrel
          have hcb := cumM_bd y q
          have hc1 := hcb.1
          have hc2 : cumM y q ≤ 400 := by omega
          have G2 := Lib.hid (cumM_next y q)
          have hdb := dayM_bd y ((q : Int) + 1)
          have hd1 := hdb.1
          have hd2 := hdb.2
          have HDA := Lib.hid (refDays_any y ((q : Int) + 1) w)
          have HM := Lib.hid (HMQ.out q hq)
          have HD := Lib.hid (HDN.out q h0)
          clear hcb hdb
          generalize cumM y q = C at *
          generalize dayM y ((q : Int) + 1) = D at *
          by_cases hgo : D ≤ n - B - C
          · have k3 : decide (D ≤ n - B - C) = true := by rw [decide_eq_true_eq]; exact hgo
            have hq2 := HM.out hgo
            go_wp2_with fail
            refine HDA.out.mono ?_
            rintro e wx ⟨rfl, rfl⟩
            go_wp2_with fail
            refine HDA.out.mono ?_
            rintro e wx ⟨rfl, rfl⟩
            go_wp2_with fail
            go_round
            case rel => exact ⟨q + 1, by omega, by go_num, by rw [G2.out]; exact congrArg (Value.int .i64) (by omega), by rw [G2.out]; omega⟩
            case measure => simp [intOf]; omega
          · have k3 : decide (D ≤ n - B - C) = false := by rw [decide_eq_false_iff_not]; exact hgo
            have hd := HD.out (by omega)
            have HDD := Lib.hid hd
            clear hd
            go_wp2_with fail
            refine HDA.out.mono ?_
            rintro e wx ⟨rfl, rfl⟩
            go_wp2_with fail
            refine bodyPost_ret (v := .tuple #[.int .i64 y, .int .i64 ((q : Int) + 1), .int .i64 (n - B - C + 1), .int .i64 0]) ?_ rfl ⟨y, (q : Int) + 1, n - B - C + 1, rfl, HDD.out.1, HDD.out.2, Below.refl _ _⟩
            simp [results, Tryz.results109, go_sem]
    · have J : Hid (BB = B + 366) := by show _ = _; rw [G.out, HI.out, hL]; simp; try omega
      rw [hL] at HLP
      clear hL HI G
      by_cases hgo : 366 ≤ n - B
      · have k1 : decide (366 ≤ n - B) = true := by rw [decide_eq_true_eq]; exact hgo
        have hle : B + 366 ≤ n := by omega
        have hy3 := HLS.out (by rw [J.out]; exact hle)
        go_wp2_with fail
        refine HLP.out.mono ?_
        rintro e wx ⟨rfl, rfl⟩
        go_wp2_with fail
        refine HLP.out.mono ?_
        rintro e wx ⟨rfl, rfl⟩
        go_wp2_with fail
        go_round
        case rel => exact ⟨y + 1, rfl, by omega, by omega, by rw [HBB.out, J.out]; exact hle, by rw [HBB.out, J.out]; exact congrArg (Value.int .i64) (by omega)⟩
        case measure => simp [intOf]; omega
      · have k1 : decide (366 ≤ n - B) = false := by rw [decide_eq_false_iff_not]; exact hgo
        have HMQ := Lib.hid (HMO.out (by rw [J.out]; omega))
        go_wp2_with fail
        refine HLP.out.mono ?_
        rintro e wx ⟨rfl, rfl⟩
        go_wp2_with fail
        refine HLP.out.mono ?_
        rintro e wx ⟨rfl, rfl⟩
        go_wp2_with fail
        go_loop [7, 8] (fun mv dv => ∃ q : Nat, q ≤ 11 ∧ mv = .int .i64 ((q : Int) + 1) ∧ dv = .int .i64 (n - B - cumM y q) ∧ 0 ≤ n - B - cumM y q) (fun mv _ => (13 - intOf mv).toNat)
        case atStart => exact ⟨0, by omega, rfl, by rw [show cumM y 0 = 0 from rfl, Int.sub_zero], by rw [show cumM y 0 = 0 from rfl]; omega⟩
        case round =>
          obtain ⟨q, hq, rfl, rfl, h0⟩ := hrel
          have hcb := cumM_bd y q
          have hc1 := hcb.1
          have hc2 : cumM y q ≤ 400 := by omega
          have G2 := Lib.hid (cumM_next y q)
          have hdb := dayM_bd y ((q : Int) + 1)
          have hd1 := hdb.1
          have hd2 := hdb.2
          have HDA := Lib.hid (refDays_any y ((q : Int) + 1) w)
          have HM := Lib.hid (HMQ.out q hq)
          have HD := Lib.hid (HDN.out q h0)
          clear hcb hdb
          generalize cumM y q = C at *
          generalize dayM y ((q : Int) + 1) = D at *
          by_cases hgo : D ≤ n - B - C
          · have k3 : decide (D ≤ n - B - C) = true := by rw [decide_eq_true_eq]; exact hgo
            have hq2 := HM.out hgo
            go_wp2_with fail
            refine HDA.out.mono ?_
            rintro e wx ⟨rfl, rfl⟩
            go_wp2_with fail
            refine HDA.out.mono ?_
            rintro e wx ⟨rfl, rfl⟩
            go_wp2_with fail
            go_round
            case rel => exact ⟨q + 1, by omega, by go_num, by rw [G2.out]; exact congrArg (Value.int .i64) (by omega), by rw [G2.out]; omega⟩
            case measure => simp [intOf]; omega
          · have k3 : decide (D ≤ n - B - C) = false := by rw [decide_eq_false_iff_not]; exact hgo
            have hd := HD.out (by omega)
            have HDD := Lib.hid hd
            clear hd
            go_wp2_with fail
            refine HDA.out.mono ?_
            rintro e wx ⟨rfl, rfl⟩
            go_wp2_with fail
            refine bodyPost_ret (v := .tuple #[.int .i64 y, .int .i64 ((q : Int) + 1), .int .i64 (n - B - C + 1), .int .i64 0]) ?_ rfl ⟨y, (q : Int) + 1, n - B - C + 1, rfl, HDD.out.1, HDD.out.2, Below.refl _ _⟩
            simp [results, Tryz.results109, go_sem]
theorem refCivil_no (n : Int) (w : World) (h : dateB n = false) : Calls Tryz.prog 109 #[.int .i64 n] w fun e w' => e = .returned (.tuple #[.int .i64 0, .int .i64 0, .int .i64 0, .int .i64 2]) ∧ w = w' := by
  have HV := Lib.hid (refDvalid_any n w)
  rw [h] at HV
  clear h
  go_enter Tryz.func109, Tryz.ntmps109
  go_wp2_with fail
  refine HV.out.mono ?_
  rintro e wx ⟨rfl, rfl⟩
  go_wp2_with fail
  refine bodyPost_ret (v := .tuple #[.int .i64 0, .int .i64 0, .int .i64 0, .int .i64 2]) ?_ rfl ⟨rfl, rfl⟩
  simp [results, Tryz.results109, go_sem]
end Go.Proofs.YtfnlddloalineaaGreatDoor
namespace Go.Proofs.YtfnlddloalineaaGreatDoor
open Go.RowKit
set_option linter.unusedVariables false
def twoL (k : Int) : List UInt8 := [UInt8.ofNat (48 + k / 10).toNat, UInt8.ofNat (48 + k % 10).toNat]
def ymdT (y m d : Int) : List UInt8 := twoL (y / 100) ++ twoL (y % 100) ++ [45] ++ twoL m ++ [45] ++ twoL d
/-- the year, the month and the day of a date -/
def civO (n : Int) : Option (Int × Int × Int) :=
  ((List.range 300).flatMap fun (y : Nat) => (List.range 12).flatMap fun (m : Nat) => (List.range 31).map fun (d : Nat) => ((y : Int) + 1900, (m : Int) + 1, (d : Int) + 1)).find? fun p => dayOk p.1 p.2.1 p.2.2 && (dayN p.1 p.2.1 p.2.2 == n)
theorem civO_of {y m d : Int} (h : dayOk y m d = true) : civO (dayN y m d) = some (y, m, d) := by
  obtain ⟨hy, hm, hd⟩ := dayOk_in h
  have hmem : (y, m, d) ∈ ((List.range 300).flatMap fun (y : Nat) => (List.range 12).flatMap fun (m : Nat) => (List.range 31).map fun (d : Nat) => ((y : Int) + 1900, (m : Int) + 1, (d : Int) + 1)) := by
    rw [List.mem_flatMap]
    refine ⟨(y - 1900).toNat, List.mem_range.2 (by omega), ?_⟩
    rw [List.mem_flatMap]
    refine ⟨(m - 1).toNat, List.mem_range.2 (by omega), ?_⟩
    rw [List.mem_map]
    refine ⟨(d - 1).toNat, List.mem_range.2 (by omega), ?_⟩
    rw [Prod.mk.injEq, Prod.mk.injEq]
    exact ⟨by omega, by omega, by omega⟩
  unfold civO
  cases hf : List.find? (fun p : Int × Int × Int => dayOk p.1 p.2.1 p.2.2 && (dayN p.1 p.2.1 p.2.2 == dayN y m d)) ((List.range 300).flatMap fun (y : Nat) => (List.range 12).flatMap fun (m : Nat) => (List.range 31).map fun (d : Nat) => ((y : Int) + 1900, (m : Int) + 1, (d : Int) + 1)) with
  | none =>
    rw [List.find?_eq_none] at hf
    have := hf _ hmem
    simp [h] at this
  | some p =>
    have hp := List.find?_some hf
    rw [Bool.and_eq_true, beq_iff_eq] at hp
    obtain ⟨e1, e2, e3⟩ := dayN_inj hp.1 h hp.2
    obtain ⟨a, b, c⟩ := p
    simp only [] at e1 e2 e3
    rw [e1, e2, e3]
theorem civO_no {n : Int} (h : dateB n = false) : civO n = none := by
  unfold civO
  rw [List.find?_eq_none]
  rintro ⟨a, b, c⟩ _ hp
  rw [Bool.and_eq_true, beq_iff_eq] at hp
  simp only [] at hp
  have := dayN_bd hp.1
  rw [hp.2] at this
  unfold dateB at h
  rw [decide_eq_true this.1, decide_eq_true this.2] at h
  cases h
def datT (n : Int) : List UInt8 := match civO n with
  | some (y, m, d) => ymdT y m d
  | none => []
theorem datT_of {y m d : Int} (h : dayOk y m d = true) : datT (dayN y m d) = ymdT y m d := by unfold datT; rw [civO_of h]
theorem datT_no {n : Int} (h : dateB n = false) : datT n = [] := by unfold datT; rw [civO_no h]
def u8V (b : UInt8) : Value := .int .u8 (b.toNat : Int)
theorem u8_one (l : List UInt8) : ∀ u ∈ l.map u8V, u.oneCell' = true := by
  intro u hu
  obtain ⟨z, _, rfl⟩ := List.mem_map.1 hu
  rfl
theorem info_u8 : (Tryz.prog.info? 5).map (fun i => (i.zero, i.size, i.bytes)) = some (some (.int .u8 0), 1, 1) := by kernel_rfl
theorem dig_val {k : Int} (h0 : 0 ≤ k) (h1 : k ≤ 9) : u8V (UInt8.ofNat (48 + k).toNat) = .int .u8 (48 + k) := by
  unfold u8V
  have hz : (48 + k).toNat < UInt8.size := Nat.lt_of_lt_of_le (show (48 + k).toNat < 60 by omega) (by decide)
  have e : (UInt8.ofNat (48 + k).toNat).toNat = (48 + k).toNat := UInt8.toNat_ofNat_of_lt' hz
  rw [e, show (((48 + k).toNat : Nat) : Int) = 48 + k by omega]
set_option maxRecDepth 100000 in
set_option maxHeartbeats 2000000 in
theorem two_any (v : Value) (bs : List UInt8) (k : Int) (base : Nat) (w : World) (hown : w.ownsRow base 5 1 v bs.length (bs.map u8V)) (h0 : 0 ≤ k) (h1 : k ≤ 99) (hbs : bs.length ≤ 20) (hbase : base ≤ w.heap.size) :
    Calls Tryz.prog 107 #[v, .int .i64 k] w fun e w' => ∃ v', e = .returned v' ∧ w'.ownsRow base 5 1 v' (bs ++ twoL k).length ((bs ++ twoL k).map u8V) ∧ Below base w w' := by
  obtain ⟨i0, hi0, hz0, hz1, hz2⟩ := info_parts info_u8
  obtain ⟨A, c, rfl⟩ := own_slice hown
  have HO := Lib.hid hown
  clear hown
  have e1 := Lib.hid (dig_val (k := k / 10) (by omega) (by omega))
  have e2 := Lib.hid (dig_val (k := k % 10) (by omega) (by omega))
  have d1 : (0 : Int) ≤ k / 10 := by omega
  have d2 : k / 10 ≤ 9 := by omega
  have d3 : (0 : Int) ≤ k % 10 := by omega
  have d4 : k % 10 ≤ 9 := by omega
  have F : Hid ((bs ++ twoL k).map u8V = bs.map u8V ++ [.int .u8 (48 + k / 10), .int .u8 (48 + k % 10)]) := by
    show _ = _
    rw [List.map_append]
    show _ ++ [u8V _, u8V _] = _
    rw [e1.out, e2.out]
  have F2 : Hid ((bs ++ twoL k).length = bs.length + 2) := by show _ = _; rw [List.length_append]; rfl
  have H1 : Hid (∀ u ∈ ([.int .u8 (48 + k / 10), .int .u8 (48 + k % 10)] : List Value), u.oneCell' = true) := by
    show ∀ _, _
    intro u hu
    simp only [List.mem_cons, List.not_mem_nil, or_false] at hu
    rcases hu with rfl | rfl <;> rfl
  go_enter Tryz.func107, Tryz.ntmps107
  go_wp2_with (at_builtin; refine wpList_append_any _ rfl (.tmp 5) (.tmp 14) _ rfl base 5 i0 _ 1 1 Tryz.underlying76 hi0 hz0 hz1 hz2 rfl (by omega) _ bs.length (bs.map u8V) rfl (HO.out.alloc _) (w.heap.size + 1) (some ⟨w.heap.size, 0, none⟩) 2 2 [.int .u8 (48 + k / 10), .int .u8 (48 + k % 10)] rfl (reads_lit w #[.int .u8 (48 + k / 10), .int .u8 (48 + k % 10)] 5) H1.out (by simp only [maxLen]; omega) (by omega) (by simp only [World.size_alloc]; omega) ?_; intro v4 w4 hown4 hg4 hat4)
  have HB4 := Lib.hid ((((Below.refl base w).alloc hbase (.cells (#[.int .u8 (48 + k / 10), .int .u8 (48 + k % 10)] : Array Value) 5))).grown hg4 (by simp only [World.size_alloc]; omega) (fun k hk => own_base HO.out k hk))
  go_wp2_with fail
  go_ret
  exact ⟨_, rfl, by rw [F.out, F2.out]; exact hown4, HB4.out⟩
end Go.Proofs.YtfnlddloalineaaGreatDoor
namespace Go.Proofs.YtfnlddloalineaaGreatDoor
open Go.RowKit
set_option linter.unusedVariables false
theorem own_bytes {w : World} {base g c : Nat} {l : List UInt8} (h : w.ownsRow base 5 1 (.slice (some ⟨g, 0, none⟩) l.length c) l.length (l.map u8V)) :
    (convert 76 9 (.slice (some ⟨g, 0, none⟩) l.length c)).run Tryz.prog w = .ok (.string ⟨l.toArray⟩) w := by
  refine run_convert_bytes_back w _ _ 5 ⟨g, 0, none⟩ c l Tryz.underlying76 Tryz.underlying5 Tryz.underlying9 (fun j hj => ?_)
  refine h.cells (g := g) rfl j _ ?_
  rw [List.getElem?_map, List.getElem?_eq_getElem hj]
  rfl
theorem u8_dash : ([45] : List UInt8).map u8V = [.int .u8 45] := rfl
set_option maxRecDepth 100000 in
set_option maxHeartbeats 1600000 in
theorem dtext_yes (n : Int) (w : World) (h1 : -25567 ≤ n) (h2 : n ≤ 84005) : Calls Tryz.prog 80 #[.int .i64 n] w fun e w' => e = .returned (.string ⟨(datT n).toArray⟩) ∧ Below w.heap.size w w' := by
  obtain ⟨i0, hi0, hz0, hz1, hz2⟩ := info_parts info_u8
  have HC := Lib.hid (civil_yes n w h1 h2)
  have H1 : Hid (∀ u ∈ ([.int .u8 45] : List Value), u.oneCell' = true) := by
    show ∀ _, _
    intro u hu
    simp only [List.mem_cons, List.not_mem_nil, or_false] at hu
    subst hu; rfl
  clear h1 h2
  go_enter Tryz.func80, Tryz.ntmps80
  go_wp2_with fail
  refine HC.out.mono ?_
  rintro e w1 ⟨y, m, d, rfl, hok, hn, hb⟩
  have HB1 := Lib.hid hb
  have HT : Hid (datT n = twoL (y / 100) ++ twoL (y % 100) ++ [45] ++ twoL m ++ [45] ++ twoL d) := by show _ = _; rw [← hn, datT_of hok]; rfl
  obtain ⟨⟨hy1, hy2⟩, ⟨hm1, hm2⟩, hd1, hd2⟩ := dayOk_in hok
  clear hb hn hok HC
  have y0 : (0 : Int) ≤ y := by omega
  have HX1 := Lib.hid (two_any (.slice none 0 0) [] (y / 100) w1.heap.size w1 (World.ownsRow_nil _ _ _ _) (by omega) (by omega) (by simp) (Nat.le_refl _))
  go_wp2_with fail
  refine HX1.out.mono ?_
  rintro e w2 ⟨v2, rfl, hown, hb⟩
  rw [List.nil_append] at hown
  obtain ⟨A2, c2, rfl⟩ := own_slice hown
  have HB2 := Lib.hid hb
  have HX2 := Lib.hid (two_any _ (twoL (y / 100)) (y % 100) w1.heap.size w2 hown (by omega) (by omega) (by simp [twoL]) hb.size)
  clear hown hb HX1
  go_wp2_with fail
  refine HX2.out.mono ?_
  rintro e w3 ⟨v3, rfl, hown, hb⟩
  obtain ⟨A3, c3, rfl⟩ := own_slice hown
  have HB3 := Lib.hid (HB2.out.trans hb)
  have HO3 := Lib.hid hown
  clear hown hb HX2 HB2
  have l3 : (twoL (y / 100) ++ twoL (y % 100)).length = 4 := by simp [twoL]
  generalize twoL (y / 100) ++ twoL (y % 100) = L3 at *
  have hl3 : L3.length ≤ 4 := by omega
  clear l3
  go_wp2_with (at_builtin; refine wpList_append_any _ rfl (.tmp 23) (.tmp 24) _ rfl w1.heap.size 5 i0 _ 1 1 Tryz.underlying76 hi0 hz0 hz1 hz2 rfl (by omega) _ L3.length (L3.map u8V) rfl (HO3.out.alloc _) (w3.heap.size + 1) (some ⟨w3.heap.size, 0, none⟩) 1 1 [.int .u8 45] rfl (reads_lit w3 #[.int .u8 45] 5) H1.out (by simp only [maxLen]; omega) (by omega) (by simp only [World.size_alloc]; have := HB3.out.size; omega) ?_; intro v4 w4 hown4 hg4 hat4)
  have HB4 := Lib.hid ((HB3.out.alloc HB3.out.size (.cells (#[.int .u8 45] : Array Value) 5)).grown hg4 (by simp only [World.size_alloc]; have := HB3.out.size; omega) (fun k hk => own_base HO3.out k hk))
  have hown5 : w4.ownsRow w1.heap.size 5 1 v4 (L3 ++ [45]).length ((L3 ++ [45]).map u8V) := by rw [List.length_append, List.map_append]; exact hown4
  obtain ⟨A4, c4, rfl⟩ := own_slice hown5
  have HX4 := Lib.hid (two_any _ (L3 ++ [45]) m w1.heap.size w4 hown5 (by omega) (by omega) (by rw [List.length_append]; simp; omega) HB4.out.size)
  clear hown5 hown4 hg4 hat4 HB3 HO3
  go_wp2_with fail
  refine HX4.out.mono ?_
  rintro e w5 ⟨v5, rfl, hown, hb⟩
  obtain ⟨A5, c5, rfl⟩ := own_slice hown
  have HB5 := Lib.hid (HB4.out.trans hb)
  have HO5 := Lib.hid hown
  clear hown hb HX4 HB4
  have l5 : (L3 ++ [45] ++ twoL m).length ≤ 7 := by simp [twoL]; omega
  generalize L3 ++ [45] ++ twoL m = L5 at *
  go_wp2_with (at_builtin; refine wpList_append_any _ rfl (.tmp 28) (.tmp 29) _ rfl w1.heap.size 5 i0 _ 1 1 Tryz.underlying76 hi0 hz0 hz1 hz2 rfl (by omega) _ L5.length (L5.map u8V) rfl (HO5.out.alloc _) (w5.heap.size + 1) (some ⟨w5.heap.size, 0, none⟩) 1 1 [.int .u8 45] rfl (reads_lit w5 #[.int .u8 45] 5) H1.out (by simp only [maxLen]; omega) (by omega) (by simp only [World.size_alloc]; have := HB5.out.size; omega) ?_; intro v6 w6 hown6 hg6 hat6)
  have HB6 := Lib.hid ((HB5.out.alloc HB5.out.size (.cells (#[.int .u8 45] : Array Value) 5)).grown hg6 (by simp only [World.size_alloc]; have := HB5.out.size; omega) (fun k hk => own_base HO5.out k hk))
  have hown7 : w6.ownsRow w1.heap.size 5 1 v6 (L5 ++ [45]).length ((L5 ++ [45]).map u8V) := by rw [List.length_append, List.map_append]; exact hown6
  obtain ⟨A6, c6, rfl⟩ := own_slice hown7
  have HX6 := Lib.hid (two_any _ (L5 ++ [45]) d w1.heap.size w6 hown7 (by omega) (by omega) (by rw [List.length_append]; simp; omega) HB6.out.size)
  clear hown7 hown6 hg6 hat6 HB5 HO5
  go_wp2_with fail
  refine HX6.out.mono ?_
  rintro e w7 ⟨v7, rfl, hown, hb⟩
  have HB7 := Lib.hid (below_two HB1.out (HB6.out.trans hb))
  have hpos : 0 < (L5 ++ [45] ++ twoL d).length := by simp [twoL]
  obtain ⟨g, cap, rfl, _, _⟩ := hown.form hpos
  have hcv := own_bytes hown
  clear hown hb HX6 HB6 hpos
  generalize L5 ++ [45] ++ twoL d = L7 at *
  go_wp2_with fail
  go_ret
  exact ⟨by rw [HT.out]; rfl, HB7.out⟩
theorem dtext_any (n : Int) (w : World) : Calls Tryz.prog 80 #[.int .i64 n] w fun e w' => e = .returned (.string ⟨(datT n).toArray⟩) ∧ Below w.heap.size w w' := by
  cases h : dateB n
  · have F := Lib.hid (datT_no h)
    have HC := Lib.hid (civil_no n w h)
    clear h
    go_enter Tryz.func80, Tryz.ntmps80
    go_wp2_with fail
    refine HC.out.mono ?_
    rintro e wx ⟨rfl, rfl⟩
    go_wp2_with fail
    go_ret
    exact ⟨by rw [F.out]; rfl, Below.refl _ _⟩
  · unfold dateB at h
    rw [Bool.and_eq_true, decide_eq_true_eq, decide_eq_true_eq] at h
    exact dtext_yes n w h.1 h.2
def digK : Int → Nat → List UInt8
  | _, 0 => []
  | n, k + 1 => digK (n / 10) k ++ [UInt8.ofNat (48 + n % 10).toNat]
theorem digK_len (n : Int) (k : Nat) : (digK n k).length = k := by
  induction k generalizing n with
  | zero => rfl
  | succ k ih => simp [digK, ih]
theorem digK_2 {n : Int} (h0 : 0 ≤ n) (h1 : n ≤ 99) : digK n 2 = twoL n := by
  show [] ++ [UInt8.ofNat (48 + n / 10 % 10).toNat] ++ [UInt8.ofNat (48 + n % 10).toNat] = _
  unfold twoL
  rw [show n / 10 % 10 = n / 10 by omega]
  rfl
theorem digK_4 {n : Int} (h0 : 0 ≤ n) (h1 : n ≤ 9999) : digK n 4 = twoL (n / 100) ++ twoL (n % 100) := by
  show [] ++ [UInt8.ofNat (48 + n / 10 / 10 / 10 % 10).toNat] ++ [UInt8.ofNat (48 + n / 10 / 10 % 10).toNat] ++ [UInt8.ofNat (48 + n / 10 % 10).toNat] ++ [UInt8.ofNat (48 + n % 10).toNat] = _
  unfold twoL
  rw [show n / 10 / 10 / 10 % 10 = n / 100 / 10 by omega, show n / 10 / 10 % 10 = n / 100 % 10 by omega, show n / 10 % 10 = n % 100 / 10 by omega, show n % 10 = n % 100 % 10 by omega]
  rfl
theorem conv_byte {w : World} {g : Nat} {n : Int} (h : w.cell? ⟨g, 0, none⟩ = some (.int .u8 n)) : (convert 76 9 (.slice (some ⟨g, 0, none⟩) 1 1)).run Tryz.prog w = .ok (.string ⟨[UInt8.ofNat n.toNat].toArray⟩) w := by
  rw [run_convert_bytes_string _ _ _ _ _ _ _ Tryz.underlying76 Tryz.underlying5 Tryz.underlying9]
  rw [run_bytesToString _ _ _ _ [n] (by simp [go_sem, loadCells, h])]
  rfl
set_option maxRecDepth 100000 in
set_option maxHeartbeats 1600000 in
theorem digits_any (k : Nat) : ∀ (n : Int) (w : World), 0 ≤ n → n ≤ 1000000 → k ≤ 10 →
    Calls Tryz.prog 110 #[.int .i64 n, .int .i64 k] w fun e w' => e = .returned (.string ⟨(digK n k).toArray⟩) ∧ Below w.heap.size w w' := by
  induction k with
  | zero =>
    intro n w _ _ _
    go_enter Tryz.func110, Tryz.ntmps110
    go_wp2_with fail
    go_ret
    exact ⟨rfl, Below.refl _ _⟩
  | succ k ih =>
    intro n w h0 h1 hk
    have IH : Hid (∀ w, Calls Tryz.prog 110 #[.int .i64 (n / 10), .int .i64 (k : Int)] w fun e w' => e = .returned (.string ⟨(digK (n / 10) k).toArray⟩) ∧ Below w.heap.size w w') := fun w => ih (n / 10) w (by omega) (by omega) (by omega)
    have F : Hid (digK n (k + 1) = digK (n / 10) k ++ [UInt8.ofNat (48 + n % 10).toNat]) := rfl
    have hl := digK_len (n / 10) k
    have hl2 : (digK (n / 10) k).length ≤ 10 := by omega
    have q1 : (((k + 1 : Nat) : Int) == 0) = false := by rw [beq_eq_false_iff_ne]; omega
    have q2 : ((k : Int) + 1 == 0) = false := by rw [beq_eq_false_iff_ne]; omega
    have d1 : (0 : Int) ≤ n / 10 := by omega
    have d3 : (0 : Int) ≤ n % 10 := by omega
    have d4 : n % 10 ≤ 9 := by omega
    have k0 : (0 : Int) ≤ (k : Int) := by omega
    have k9 : (k : Int) ≤ 10 := by omega
    clear ih hl
    generalize digK (n / 10) k = T at *
    have hcv : ∀ wz : World, (convert 76 9 (.slice (some ⟨wz.heap.size, 0, none⟩) 1 1)).run Tryz.prog (wz.alloc (.cells #[.int .u8 (48 + n % 10)] 5)) = .ok (.string ⟨[UInt8.ofNat (48 + n % 10).toNat].toArray⟩) (wz.alloc (.cells #[.int .u8 (48 + n % 10)] 5)) := fun wz => run_byte_string wz (48 + n % 10)
    go_enter Tryz.func110, Tryz.ntmps110
    go_wp2_with fail
    have v0 : n.tdiv 10 = n / 10 := Int.tdiv_eq_ediv_of_nonneg h0
    have v1 : n.tmod 10 = n % 10 := Int.tmod_eq_emod_of_nonneg h0
    have v2 : IntKind.i64.wrap (n / 10) = n / 10 := IntWalk.i64_in _ (by omega)
    have v3 : IntKind.i64.wrap (n % 10) = n % 10 := IntWalk.i64_in _ (by omega)
    have v4 : IntKind.i64.wrap (48 + n % 10) = 48 + n % 10 := IntWalk.i64_in _ (by omega)
    have v5 : IntKind.u8.wrap (48 + n % 10) = 48 + n % 10 := IntWalk.u8_in _ (by omega)
    have v6 : ((k + 1 : Nat) : Int) - 1 = (k : Int) := by omega
    have v7 : IntKind.i64.wrap (k : Int) = (k : Int) := IntWalk.i64_in _ (by omega)
    have v8 : (k : Int) + 1 - 1 = (k : Int) := by omega
    have hcell : (w.alloc (.cells #[.int .u8 (48 + n % 10)] 5)).drew.cell? ⟨w.heap.size, 0, none⟩ = some (.int .u8 (48 + n % 10)) := (Blk.new w 5 #[.int .u8 (48 + n % 10)]).drew.cell 0
    have hcv2 := conv_byte hcell
    go_region_with (go_at_call 110; (with_reducible refine (IH.out _).mono ?_); (rintro e wx ⟨rfl, hbx⟩); (try have hq := conv_byte ((hbx.cell (p := ⟨w.heap.size, 0, none⟩) (by simp)).trans hcell)))
    all_goals
      clear v0 v1 v2 v3 v4 v5 v6 v7 v8
      go_wp2_with fail
      go_ret
      refine ⟨ret_str' ((cat_mk _ _).trans (mk_congr F.out.symm)), ?_⟩
      first
        | exact below_two (Below.drew ((Below.refl _ w).alloc (Nat.le_refl _) _)) hbx
        | exact below_two ((Below.drew (Below.refl _ w)).alloc (Nat.le_refl _) _) hbx
        | exact (below_two (Below.drew (Below.refl _ w)) hbx).alloc (below_two (Below.drew (Below.refl _ w)) hbx).size _
end Go.Proofs.YtfnlddloalineaaGreatDoor
namespace Go.Proofs.YtfnlddloalineaaGreatDoor
open Go.RowKit
set_option linter.unusedVariables false
set_option maxRecDepth 100000 in
set_option maxHeartbeats 1600000 in
theorem refDtext_any (n : Int) (w : World) : Calls Tryz.prog 83 #[.int .i64 n] w fun e w' => e = .returned (.string ⟨(datT n).toArray⟩) ∧ Below w.heap.size w w' := by
  cases h : dateB n
  · have F := Lib.hid (datT_no h)
    have HC := Lib.hid (refCivil_no n w h)
    clear h
    go_enter Tryz.func83, Tryz.ntmps83
    go_wp2_with fail
    refine HC.out.mono ?_
    rintro e wx ⟨rfl, rfl⟩
    go_wp2_with fail
    go_ret
    exact ⟨by rw [F.out]; rfl, Below.refl _ _⟩
  · unfold dateB at h
    rw [Bool.and_eq_true, decide_eq_true_eq, decide_eq_true_eq] at h
    have HC := Lib.hid (refCivil_yes n w h.1 h.2)
    clear h
    go_enter Tryz.func83, Tryz.ntmps83
    go_wp2_with fail
    refine HC.out.mono ?_
    rintro e w1 ⟨y, m, d, rfl, hok, hn, hb⟩
    have HB1 := Lib.hid hb
    obtain ⟨⟨hy1, hy2⟩, ⟨hm1, hm2⟩, hd1, hd2⟩ := dayOk_in hok
    have HT : Hid (datT n = digK y 4 ++ [45] ++ digK m 2 ++ [45] ++ digK d 2) := by
      show _ = _
      rw [← hn, datT_of hok, digK_4 (by omega) (by omega), digK_2 (by omega) (by omega), digK_2 (by omega) (by omega)]
      rfl
    clear hb hn hok HC
    have HY : Hid (∀ w, Calls Tryz.prog 110 #[.int .i64 y, .int .i64 4] w fun e w' => e = .returned (.string ⟨(digK y 4).toArray⟩) ∧ Below w.heap.size w w') := fun w => digits_any 4 y w (by omega) (by omega) (by omega)
    have HM : Hid (∀ w, Calls Tryz.prog 110 #[.int .i64 m, .int .i64 2] w fun e w' => e = .returned (.string ⟨(digK m 2).toArray⟩) ∧ Below w.heap.size w w') := fun w => digits_any 2 m w (by omega) (by omega) (by omega)
    have HD : Hid (∀ w, Calls Tryz.prog 110 #[.int .i64 d, .int .i64 2] w fun e w' => e = .returned (.string ⟨(digK d 2).toArray⟩) ∧ Below w.heap.size w w') := fun w => digits_any 2 d w (by omega) (by omega) (by omega)
    have ly := digK_len y 4
    have lm := digK_len m 2
    have ld := digK_len d 2
    have ly' : (digK y 4).length ≤ 4 := by omega
    have lm' : (digK m 2).length ≤ 2 := by omega
    have ld' : (digK d 2).length ≤ 2 := by omega
    clear ly lm ld
    generalize digK y 4 = DY at *
    generalize digK m 2 = DM at *
    generalize digK d 2 = DD at *
    go_wp2_with fail
    refine (HY.out _).mono ?_
    rintro e w2 ⟨rfl, hb⟩
    have HB2 := Lib.hid (below_two HB1.out hb)
    clear hb
    go_wp2_with fail
    refine (HM.out _).mono ?_
    rintro e w3 ⟨rfl, hb⟩
    have HB3 := Lib.hid (below_two HB2.out hb)
    clear hb
    go_wp2_with fail
    refine (HD.out _).mono ?_
    rintro e w4 ⟨rfl, hb⟩
    have HB4 := Lib.hid (below_two HB3.out hb)
    clear hb
    go_wp2_with fail
    go_ret
    have e1 : (⟨DY.toArray⟩ ++ ⟨#[45]⟩ ++ ⟨DM.toArray⟩ ++ ⟨#[45]⟩ ++ ⟨DD.toArray⟩ : ByteArray) = ⟨(DY ++ [45] ++ DM ++ [45] ++ DD).toArray⟩ := by
      rw [show (⟨#[45]⟩ : ByteArray) = ⟨([45] : List UInt8).toArray⟩ from rfl, cat_mk, cat_mk, cat_mk, cat_mk]
    exact ⟨by rw [HT.out, ← e1]; rfl, HB4.out⟩
end Go.Proofs.YtfnlddloalineaaGreatDoor
