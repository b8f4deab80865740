/-
  Dates: plain laws.
  Dates: leap, Days, Valid of both, begin.
  Dates: Of, of both.
  Dates: Civil of the reference.
-/
import Derived.Test.YtcmmppkmkejniaaGreatDoorGvPl
import Derived.Test.YtcmmppkmkejniaaGreatDoorDig
import Derived.Test.YtcmmppkmkejniaaGreatDoorStr
import Derived.Test.YtcmmppkmkejniaaGreatDoorMem
import Derived.LoopTactic
import Derived.Deep.QuietTactic
import Derived.BigQuiet
import Derived.Test.YtcmmppkmkejniaaGreatDoorOwn2
import Derived.Laws.IdiomStrings
import Derived.IntWalk
import Derived.Deep.RegionWith
namespace Go.Proofs.YtcmmppkmkejniaaGreatDoor
set_option linter.unusedVariables false
def leapB (y : Int) : Bool := y % 4 == 0 && (y % 100 != 0 || y % 400 == 0)
def mtab (m : Int) : Int := if m = 2 then 28 else if m = 4 ∨ m = 6 ∨ m = 9 ∨ m = 11 then 30 else 31
def dayM (y m : Int) : Int := if 1900 ≤ y ∧ y ≤ 2199 ∧ 1 ≤ m ∧ m ≤ 12 then (if m = 2 ∧ leapB y = true then 29 else mtab m) else 0
def beginY (y : Int) : Int := 365 * (y - 1) + (y - 1) / 4 - (y - 1) / 100 + (y - 1) / 400 - 719162
def cumM (y : Int) : Nat → Int
  | 0 => 0
  | k + 1 => cumM y k + dayM y (k + 1)
def lpI (y : Int) : Int := if leapB y = true then 1 else 0
theorem leapB_iff {y : Int} : leapB y = true ↔ y % 4 = 0 ∧ (y % 100 ≠ 0 ∨ y % 400 = 0) := by
  unfold leapB
  simp only [Bool.and_eq_true, Bool.or_eq_true, beq_iff_eq, bne_iff_ne, ne_eq]
theorem lpI_bd (y : Int) : 0 ≤ lpI y ∧ lpI y ≤ 1 := by unfold lpI; split <;> omega
theorem beginY_succ (y : Int) : beginY (y + 1) = beginY y + 365 + lpI y := by
  unfold lpI beginY
  by_cases h : leapB y = true
  · rw [if_pos h]
    have := leapB_iff.1 h
    omega
  · rw [if_neg h]
    rw [leapB_iff] at h
    omega
theorem mtab_bd (m : Int) : 28 ≤ mtab m ∧ mtab m ≤ 31 := by
  unfold mtab
  split
  · omega
  · split <;> omega
theorem dayM_in {y m : Int} (hy : 1900 ≤ y ∧ y ≤ 2199) (hm : 1 ≤ m ∧ m ≤ 12) : dayM y m = if m = 2 then 28 + lpI y else mtab m := by
  unfold dayM lpI
  rw [if_pos ⟨hy.1, hy.2, hm.1, hm.2⟩]
  by_cases h2 : m = 2
  · subst h2
    cases leapB y
    · simp [mtab]
    · simp
  · rw [if_neg (fun h => h2 h.1), if_neg h2]
theorem dayM_out {y m : Int} (h : ¬ (1900 ≤ y ∧ y ≤ 2199 ∧ 1 ≤ m ∧ m ≤ 12)) : dayM y m = 0 := by unfold dayM; rw [if_neg h]
theorem dayM_bd (y m : Int) : 0 ≤ dayM y m ∧ dayM y m ≤ 31 := by
  by_cases h : 1900 ≤ y ∧ y ≤ 2199 ∧ 1 ≤ m ∧ m ≤ 12
  · rw [dayM_in ⟨h.1, h.2.1⟩ h.2.2]
    have := lpI_bd y
    have := mtab_bd m
    split <;> omega
  · rw [dayM_out h]; omega
theorem dayM_lo {y m : Int} (hy : 1900 ≤ y ∧ y ≤ 2199) (hm : 1 ≤ m ∧ m ≤ 12) : 28 ≤ dayM y m := by
  rw [dayM_in hy hm]
  have := lpI_bd y
  have := mtab_bd m
  split <;> omega
theorem cumM_bd (y : Int) (k : Nat) : 0 ≤ cumM y k ∧ cumM y k ≤ 31 * k := by
  induction k with
  | zero => simp [cumM]
  | succ k ih =>
    have := dayM_bd y (k + 1)
    show 0 ≤ cumM y k + dayM y (k + 1) ∧ cumM y k + dayM y (k + 1) ≤ 31 * ((k + 1 : Nat) : Int)
    omega
theorem cumM_year {y : Int} (hy : 1900 ≤ y ∧ y ≤ 2199) : cumM y 12 = 365 + lpI y := by
  have d : ∀ m : Int, 1 ≤ m → m ≤ 12 → dayM y m = if m = 2 then 28 + lpI y else mtab m := fun m h1 h2 => dayM_in hy ⟨h1, h2⟩
  simp only [cumM]
  rw [d _ (by omega) (by omega), d _ (by omega) (by omega), d _ (by omega) (by omega), d _ (by omega) (by omega), d _ (by omega) (by omega), d _ (by omega) (by omega), d _ (by omega) (by omega), d _ (by omega) (by omega), d _ (by omega) (by omega), d _ (by omega) (by omega), d _ (by omega) (by omega), d _ (by omega) (by omega)]
  simp [mtab]
  omega
theorem cumM_mono {y : Int} {a b : Nat} (h : a ≤ b) : cumM y a ≤ cumM y b := by
  induction b with
  | zero => have : a = 0 := by omega
            subst this; exact Int.le_refl _
  | succ b ih =>
    by_cases e : a = b + 1
    · subst e; exact Int.le_refl _
    · have := ih (by omega)
      have := dayM_bd y (b + 1)
      show cumM y a ≤ cumM y b + dayM y (b + 1)
      omega
/-- the number of a day, or that there is none -/
def dayOk (y m d : Int) : Bool := decide (1 ≤ d) && decide (d ≤ dayM y m)
def dayN (y m d : Int) : Int := beginY y + cumM y (m - 1).toNat + d - 1
theorem dayOk_iff {y m d : Int} : dayOk y m d = true ↔ 1 ≤ d ∧ d ≤ dayM y m := by
  unfold dayOk
  rw [Bool.and_eq_true, decide_eq_true_eq, decide_eq_true_eq]
theorem dayOk_in {y m d : Int} (h : dayOk y m d = true) : (1900 ≤ y ∧ y ≤ 2199) ∧ (1 ≤ m ∧ m ≤ 12) ∧ 1 ≤ d ∧ d ≤ 31 := by
  have h1 := dayOk_iff.1 h
  have hb := dayM_bd y m
  by_cases hc : 1900 ≤ y ∧ y ≤ 2199 ∧ 1 ≤ m ∧ m ≤ 12
  · exact ⟨⟨hc.1, hc.2.1⟩, hc.2.2, h1.1, by omega⟩
  · rw [dayM_out hc] at h1; omega
theorem beginY_mono {a b : Int} (h : a ≤ b) : beginY a ≤ beginY b := by
  obtain ⟨n, rfl⟩ : ∃ n : Nat, b = a + n := ⟨(b - a).toNat, by omega⟩
  clear h
  induction n with
  | zero => rw [show a + ((0 : Nat) : Int) = a by omega]; exact Int.le_refl _
  | succ n ih =>
    have e := beginY_succ (a + n)
    have := lpI_bd (a + n)
    rw [show a + ((n + 1 : Nat) : Int) = a + n + 1 by omega]
    omega
theorem dayN_year {y m d : Int} (h : dayOk y m d = true) : beginY y ≤ dayN y m d ∧ dayN y m d < beginY (y + 1) := by
  obtain ⟨hy, hm, hd, _⟩ := dayOk_in h
  have h1 := (dayOk_iff.1 h).2
  have hc := cumM_bd y (m - 1).toNat
  have hs : cumM y ((m - 1).toNat + 1) = cumM y (m - 1).toNat + dayM y (((m - 1).toNat : Int) + 1) := rfl
  have hm1 : ((m - 1).toNat : Int) + 1 = m := by omega
  rw [hm1] at hs
  have hle := cumM_mono (y := y) (a := (m - 1).toNat + 1) (b := 12) (by omega)
  rw [cumM_year hy] at hle
  have e := beginY_succ y
  unfold dayN
  omega
theorem dayN_inj {y m d y' m' d' : Int} (h : dayOk y m d = true) (h' : dayOk y' m' d' = true) (e : dayN y m d = dayN y' m' d') : y = y' ∧ m = m' ∧ d = d' := by
  have b := dayN_year h
  have b' := dayN_year h'
  have hy : y = y' := by
    apply Classical.byContradiction
    intro hn
    rcases Int.lt_or_gt_of_ne hn with hl | hl
    · have := beginY_mono (a := y + 1) (b := y') (by omega); omega
    · have := beginY_mono (a := y' + 1) (b := y) (by omega); omega
  subst hy
  obtain ⟨_, hm, hd, _⟩ := dayOk_in h
  obtain ⟨_, hm', hd', _⟩ := dayOk_in h'
  have k := (dayOk_iff.1 h).2
  have k' := (dayOk_iff.1 h').2
  have s : ∀ q : Int, 1 ≤ q → cumM y q.toNat = cumM y (q - 1).toNat + dayM y q := by
    intro q hq
    obtain ⟨n, rfl⟩ : ∃ n : Nat, q = (n : Int) + 1 := ⟨(q - 1).toNat, by omega⟩
    rw [show ((n : Int) + 1).toNat = n + 1 by omega, show ((n : Int) + 1 - 1).toNat = n by omega]
    rfl
  have hm2 : m = m' := by
    apply Classical.byContradiction
    intro hn
    unfold dayN at e
    rcases Int.lt_or_gt_of_ne hn with hl | hl
    · have := cumM_mono (y := y) (a := m.toNat) (b := (m' - 1).toNat) (by omega)
      have := s m hm.1
      omega
    · have := cumM_mono (y := y) (a := m'.toNat) (b := (m - 1).toNat) (by omega)
      have := s m' hm'.1
      omega
  subst hm2
  refine ⟨rfl, rfl, ?_⟩
  unfold dayN at e
  omega
theorem dayN_bd {y m d : Int} (h : dayOk y m d = true) : -25567 ≤ dayN y m d ∧ dayN y m d ≤ 84005 := by
  have b := dayN_year h
  obtain ⟨hy, _⟩ := dayOk_in h
  have h1 := beginY_mono (a := 1900) (b := y) hy.1
  have h2 := beginY_mono (a := y + 1) (b := 2200) (by omega)
  have e1 : beginY 1900 = -25567 := by decide
  have e2 : beginY 2200 = 84006 := by decide
  omega
theorem beginY_bd {y : Int} (h : 0 ≤ y) (h' : y ≤ 10000) : -719600 ≤ beginY y ∧ beginY y ≤ 3000000 := by unfold beginY; omega
end Go.Proofs.YtcmmppkmkejniaaGreatDoor
namespace Go.Proofs.YtcmmppkmkejniaaGreatDoor
open Go.RowKit
set_option linter.unusedVariables false
theorem leap_any (y : Int) (w : World) (h0 : 0 ≤ y) (h1 : y ≤ 10000) : Calls Tryz.prog 136 #[.int .i64 y] w fun e w' => e = .returned (.bool (leapB y)) ∧ w = w' := by
  have HL : Hid (leapB y = (y % 4 == 0 && (y % 100 != 0 || y % 400 == 0))) := rfl
  cases h4 : (y % 4 == 0)
  · have F : Hid (leapB y = false) := by show _ = _; rw [HL.out, h4]; rfl
    go_enter Tryz.func136, Tryz.ntmps136
    go_wp2_with fail
    go_ret
    exact ⟨ret_bool F.out.symm, rfl⟩
  · cases h100 : (y % 100 != 0)
    · cases h400 : (y % 400 == 0)
      · have F : Hid (leapB y = false) := by show _ = _; rw [HL.out, h4, h100, h400]; rfl
        have h100' : (y % 100 == 0) = true := by rw [bne] at h100; simpa using h100
        go_enter Tryz.func136, Tryz.ntmps136
        go_wp2_with fail
        go_ret
        exact ⟨ret_bool F.out.symm, rfl⟩
      · have F : Hid (leapB y = true) := by show _ = _; rw [HL.out, h4, h100, h400]; rfl
        go_enter Tryz.func136, Tryz.ntmps136
        go_wp2_with fail
        go_ret
        exact ⟨ret_bool F.out.symm, rfl⟩
    · have F : Hid (leapB y = true) := by show _ = _; rw [HL.out, h4, h100]; rfl
      go_enter Tryz.func136, Tryz.ntmps136
      go_wp2_with fail
      go_ret
      exact ⟨ret_bool F.out.symm, rfl⟩
theorem refLeap_any (y : Int) (w : World) (h0 : 0 ≤ y) (h1 : y ≤ 10000) : Calls Tryz.prog 117 #[.int .i64 y] w fun e w' => e = .returned (.bool (leapB y)) ∧ w = w' := by
  have HL : Hid (leapB y = (y % 4 == 0 && (y % 100 != 0 || y % 400 == 0))) := rfl
  cases h4 : (y % 4 == 0)
  · have F : Hid (leapB y = false) := by show _ = _; rw [HL.out, h4]; rfl
    go_enter Tryz.func117, Tryz.ntmps117
    go_wp2_with fail
    go_ret
    exact ⟨ret_bool F.out.symm, rfl⟩
  · cases h100 : (y % 100 != 0)
    · cases h400 : (y % 400 == 0)
      · have F : Hid (leapB y = false) := by show _ = _; rw [HL.out, h4, h100, h400]; rfl
        go_enter Tryz.func117, Tryz.ntmps117
        go_wp2_with fail
        go_ret
        exact ⟨ret_bool F.out.symm, rfl⟩
      · have F : Hid (leapB y = true) := by show _ = _; rw [HL.out, h4, h100, h400]; rfl
        go_enter Tryz.func117, Tryz.ntmps117
        go_wp2_with fail
        go_ret
        exact ⟨ret_bool F.out.symm, rfl⟩
    · have F : Hid (leapB y = true) := by show _ = _; rw [HL.out, h4, h100]; rfl
      go_enter Tryz.func117, Tryz.ntmps117
      go_wp2_with fail
      go_ret
      exact ⟨ret_bool F.out.symm, rfl⟩
theorem dvalid_any (n : Int) (w : World) : Calls Tryz.prog 127 #[.int .i64 n] w fun e w' => e = .returned (.bool (dateB n)) ∧ w = w' := by
  cases d1 : decide (-25567 ≤ n)
  · have F : Hid (dateB n = false) := by show _ = _; unfold dateB; rw [d1]; rfl
    go_enter Tryz.func127, Tryz.ntmps127
    go_wp2_with fail
    go_ret
    exact ⟨ret_bool F.out.symm, rfl⟩
  · have F : Hid (dateB n = decide (n ≤ 84005)) := by show _ = _; unfold dateB; rw [d1]; rfl
    go_enter Tryz.func127, Tryz.ntmps127
    go_wp2_with fail
    go_ret
    exact ⟨ret_bool F.out.symm, rfl⟩
theorem refDvalid_any (n : Int) (w : World) : Calls Tryz.prog 70 #[.int .i64 n] w fun e w' => e = .returned (.bool (dateB n)) ∧ w = w' := by
  cases d1 : decide (-25567 ≤ n)
  · have F : Hid (dateB n = false) := by show _ = _; unfold dateB; rw [d1]; rfl
    go_enter Tryz.func70, Tryz.ntmps70
    go_wp2_with fail
    go_ret
    exact ⟨ret_bool F.out.symm, rfl⟩
  · have F : Hid (dateB n = decide (n ≤ 84005)) := by show _ = _; unfold dateB; rw [d1]; rfl
    go_enter Tryz.func70, Tryz.ntmps70
    go_wp2_with fail
    go_ret
    exact ⟨ret_bool F.out.symm, rfl⟩
theorem begin_any (y : Int) (w : World) (h0 : 1 ≤ y) (h1 : y ≤ 10000) : Calls Tryz.prog 125 #[.int .i64 y] w fun e w' => e = .returned (.int .i64 (beginY y)) ∧ w = w' := by
  have F : Hid (beginY y = 365 * (y - 1) + (y - 1) / 4 - (y - 1) / 100 + (y - 1) / 400 - 719162) := rfl
  go_enter Tryz.func125, Tryz.ntmps125
  go_wp2_with fail
  go_ret
  exact ⟨ret_int F.out.symm, rfl⟩
def mdays : Array Value := #[.int .i64 31, .int .i64 28, .int .i64 31, .int .i64 30, .int .i64 31, .int .i64 30, .int .i64 31, .int .i64 31, .int .i64 30, .int .i64 31, .int .i64 30, .int .i64 31]
theorem month_cases {p : Int → Prop} (h : p 1 ∧ p 2 ∧ p 3 ∧ p 4 ∧ p 5 ∧ p 6 ∧ p 7 ∧ p 8 ∧ p 9 ∧ p 10 ∧ p 11 ∧ p 12) : ∀ m, 1 ≤ m → m ≤ 12 → p m := by
  obtain ⟨h1, h2, h3, h4, h5, h6, h7, h8, h9, h10, h11, h12⟩ := h
  intro m a b
  obtain rfl | rfl | rfl | rfl | rfl | rfl | rfl | rfl | rfl | rfl | rfl | rfl : m = 1 ∨ m = 2 ∨ m = 3 ∨ m = 4 ∨ m = 5 ∨ m = 6 ∨ m = 7 ∨ m = 8 ∨ m = 9 ∨ m = 10 ∨ m = 11 ∨ m = 12 := by omega
  all_goals assumption
theorem run_ix0 (w : World) : (Instr.index 177 (.agg #[.int .i64 31, .int .i64 28, .int .i64 31, .int .i64 30, .int .i64 31, .int .i64 30, .int .i64 31, .int .i64 31, .int .i64 30, .int .i64 31, .int .i64 30, .int .i64 31]) (.int .i64 0)).run Tryz.prog w = .ok (.int .i64 31) w := by kernel_rfl
theorem run_ix1 (w : World) : (Instr.index 177 (.agg #[.int .i64 31, .int .i64 28, .int .i64 31, .int .i64 30, .int .i64 31, .int .i64 30, .int .i64 31, .int .i64 31, .int .i64 30, .int .i64 31, .int .i64 30, .int .i64 31]) (.int .i64 1)).run Tryz.prog w = .ok (.int .i64 28) w := by kernel_rfl
theorem run_ix2 (w : World) : (Instr.index 177 (.agg #[.int .i64 31, .int .i64 28, .int .i64 31, .int .i64 30, .int .i64 31, .int .i64 30, .int .i64 31, .int .i64 31, .int .i64 30, .int .i64 31, .int .i64 30, .int .i64 31]) (.int .i64 2)).run Tryz.prog w = .ok (.int .i64 31) w := by kernel_rfl
theorem run_ix3 (w : World) : (Instr.index 177 (.agg #[.int .i64 31, .int .i64 28, .int .i64 31, .int .i64 30, .int .i64 31, .int .i64 30, .int .i64 31, .int .i64 31, .int .i64 30, .int .i64 31, .int .i64 30, .int .i64 31]) (.int .i64 3)).run Tryz.prog w = .ok (.int .i64 30) w := by kernel_rfl
theorem run_ix4 (w : World) : (Instr.index 177 (.agg #[.int .i64 31, .int .i64 28, .int .i64 31, .int .i64 30, .int .i64 31, .int .i64 30, .int .i64 31, .int .i64 31, .int .i64 30, .int .i64 31, .int .i64 30, .int .i64 31]) (.int .i64 4)).run Tryz.prog w = .ok (.int .i64 31) w := by kernel_rfl
theorem run_ix5 (w : World) : (Instr.index 177 (.agg #[.int .i64 31, .int .i64 28, .int .i64 31, .int .i64 30, .int .i64 31, .int .i64 30, .int .i64 31, .int .i64 31, .int .i64 30, .int .i64 31, .int .i64 30, .int .i64 31]) (.int .i64 5)).run Tryz.prog w = .ok (.int .i64 30) w := by kernel_rfl
theorem run_ix6 (w : World) : (Instr.index 177 (.agg #[.int .i64 31, .int .i64 28, .int .i64 31, .int .i64 30, .int .i64 31, .int .i64 30, .int .i64 31, .int .i64 31, .int .i64 30, .int .i64 31, .int .i64 30, .int .i64 31]) (.int .i64 6)).run Tryz.prog w = .ok (.int .i64 31) w := by kernel_rfl
theorem run_ix7 (w : World) : (Instr.index 177 (.agg #[.int .i64 31, .int .i64 28, .int .i64 31, .int .i64 30, .int .i64 31, .int .i64 30, .int .i64 31, .int .i64 31, .int .i64 30, .int .i64 31, .int .i64 30, .int .i64 31]) (.int .i64 7)).run Tryz.prog w = .ok (.int .i64 31) w := by kernel_rfl
theorem run_ix8 (w : World) : (Instr.index 177 (.agg #[.int .i64 31, .int .i64 28, .int .i64 31, .int .i64 30, .int .i64 31, .int .i64 30, .int .i64 31, .int .i64 31, .int .i64 30, .int .i64 31, .int .i64 30, .int .i64 31]) (.int .i64 8)).run Tryz.prog w = .ok (.int .i64 30) w := by kernel_rfl
theorem run_ix9 (w : World) : (Instr.index 177 (.agg #[.int .i64 31, .int .i64 28, .int .i64 31, .int .i64 30, .int .i64 31, .int .i64 30, .int .i64 31, .int .i64 31, .int .i64 30, .int .i64 31, .int .i64 30, .int .i64 31]) (.int .i64 9)).run Tryz.prog w = .ok (.int .i64 31) w := by kernel_rfl
theorem run_ix10 (w : World) : (Instr.index 177 (.agg #[.int .i64 31, .int .i64 28, .int .i64 31, .int .i64 30, .int .i64 31, .int .i64 30, .int .i64 31, .int .i64 31, .int .i64 30, .int .i64 31, .int .i64 30, .int .i64 31]) (.int .i64 10)).run Tryz.prog w = .ok (.int .i64 30) w := by kernel_rfl
theorem run_ix11 (w : World) : (Instr.index 177 (.agg #[.int .i64 31, .int .i64 28, .int .i64 31, .int .i64 30, .int .i64 31, .int .i64 30, .int .i64 31, .int .i64 31, .int .i64 30, .int .i64 31, .int .i64 30, .int .i64 31]) (.int .i64 11)).run Tryz.prog w = .ok (.int .i64 31) w := by kernel_rfl
set_option maxRecDepth 100000 in
set_option maxHeartbeats 4000000 in
theorem days_in' (y : Int) (hy : 1900 ≤ y ∧ y ≤ 2199) : ∀ m, 1 ≤ m → m ≤ 12 → (Hid (dayM y m = if m = 2 then 28 + lpI y else mtab m) → ∀ w : World, Calls Tryz.prog 124 #[.int .i64 y, .int .i64 m] w fun e w' => e = .returned (.int .i64 (dayM y m)) ∧ Below w.heap.size w w') := by
  have y1 : decide (y < 1900) = false := by rw [decide_eq_false_iff_not]; omega
  have y2 : decide (2199 < y) = false := by rw [decide_eq_false_iff_not]; omega
  have HLP : Hid (∀ w, Calls Tryz.prog 136 #[.int .i64 y] w fun e w' => e = .returned (.bool (leapB y)) ∧ w = w') := fun w => leap_any y w (by omega) (by omega)
  have HI : Hid (lpI y = if leapB y = true then 1 else 0) := rfl
  generalize leapB y = L at *
  clear hy
  refine month_cases ?_
  refine ⟨?_, ?_, ?_, ?_, ?_, ?_, ?_, ?_, ?_, ?_, ?_, ?_⟩
  · intro F w
    clear HI HLP
    go_enter Tryz.func124, Tryz.ntmps124
    go_wp2_with fail
    go_ret
    exact ⟨ret_int (by rw [F.out]; rfl), (Below.refl _ w).alloc (Nat.le_refl _) _⟩
  · intro F w
    cases L
    · go_enter Tryz.func124, Tryz.ntmps124
      go_wp2_with fail
      refine (HLP.out _).mono ?_
      rintro e wx ⟨rfl, rfl⟩
      go_wp2_with fail
      go_ret
      exact ⟨ret_int (by rw [F.out, HI.out]; rfl), (Below.refl _ w).alloc (Nat.le_refl _) _⟩
    · go_enter Tryz.func124, Tryz.ntmps124
      go_wp2_with fail
      refine (HLP.out _).mono ?_
      rintro e wx ⟨rfl, rfl⟩
      go_wp2_with fail
      go_ret
      exact ⟨ret_int (by rw [F.out, HI.out]; rfl), (Below.refl _ w).alloc (Nat.le_refl _) _⟩
  · intro F w
    clear HI HLP
    go_enter Tryz.func124, Tryz.ntmps124
    go_wp2_with fail
    go_ret
    exact ⟨ret_int (by rw [F.out]; rfl), (Below.refl _ w).alloc (Nat.le_refl _) _⟩
  · intro F w
    clear HI HLP
    go_enter Tryz.func124, Tryz.ntmps124
    go_wp2_with fail
    go_ret
    exact ⟨ret_int (by rw [F.out]; rfl), (Below.refl _ w).alloc (Nat.le_refl _) _⟩
  · intro F w
    clear HI HLP
    go_enter Tryz.func124, Tryz.ntmps124
    go_wp2_with fail
    go_ret
    exact ⟨ret_int (by rw [F.out]; rfl), (Below.refl _ w).alloc (Nat.le_refl _) _⟩
  · intro F w
    clear HI HLP
    go_enter Tryz.func124, Tryz.ntmps124
    go_wp2_with fail
    go_ret
    exact ⟨ret_int (by rw [F.out]; rfl), (Below.refl _ w).alloc (Nat.le_refl _) _⟩
  · intro F w
    clear HI HLP
    go_enter Tryz.func124, Tryz.ntmps124
    go_wp2_with fail
    go_ret
    exact ⟨ret_int (by rw [F.out]; rfl), (Below.refl _ w).alloc (Nat.le_refl _) _⟩
  · intro F w
    clear HI HLP
    go_enter Tryz.func124, Tryz.ntmps124
    go_wp2_with fail
    go_ret
    exact ⟨ret_int (by rw [F.out]; rfl), (Below.refl _ w).alloc (Nat.le_refl _) _⟩
  · intro F w
    clear HI HLP
    go_enter Tryz.func124, Tryz.ntmps124
    go_wp2_with fail
    go_ret
    exact ⟨ret_int (by rw [F.out]; rfl), (Below.refl _ w).alloc (Nat.le_refl _) _⟩
  · intro F w
    clear HI HLP
    go_enter Tryz.func124, Tryz.ntmps124
    go_wp2_with fail
    go_ret
    exact ⟨ret_int (by rw [F.out]; rfl), (Below.refl _ w).alloc (Nat.le_refl _) _⟩
  · intro F w
    clear HI HLP
    go_enter Tryz.func124, Tryz.ntmps124
    go_wp2_with fail
    go_ret
    exact ⟨ret_int (by rw [F.out]; rfl), (Below.refl _ w).alloc (Nat.le_refl _) _⟩
  · intro F w
    clear HI HLP
    go_enter Tryz.func124, Tryz.ntmps124
    go_wp2_with fail
    go_ret
    exact ⟨ret_int (by rw [F.out]; rfl), (Below.refl _ w).alloc (Nat.le_refl _) _⟩
theorem days_in (y : Int) (hy : 1900 ≤ y ∧ y ≤ 2199) (m : Int) (h1 : 1 ≤ m) (h2 : m ≤ 12) (w : World) : Calls Tryz.prog 124 #[.int .i64 y, .int .i64 m] w fun e w' => e = .returned (.int .i64 (dayM y m)) ∧ Below w.heap.size w w' := days_in' y hy m h1 h2 (dayM_in hy ⟨h1, h2⟩) w
set_option maxRecDepth 100000 in
set_option maxHeartbeats 4000000 in
theorem refDays_in' (y : Int) (hy : 1900 ≤ y ∧ y ≤ 2199) : ∀ m, 1 ≤ m → m ≤ 12 → (Hid (dayM y m = if m = 2 then 28 + lpI y else mtab m) → ∀ w : World, Calls Tryz.prog 116 #[.int .i64 y, .int .i64 m] w fun e w' => e = .returned (.int .i64 (dayM y m)) ∧ w = w') := by
  have y1 : decide (y < 1900) = false := by rw [decide_eq_false_iff_not]; omega
  have y2 : decide (2199 < y) = false := by rw [decide_eq_false_iff_not]; omega
  have HLP : Hid (∀ w, Calls Tryz.prog 117 #[.int .i64 y] w fun e w' => e = .returned (.bool (leapB y)) ∧ w = w') := fun w => refLeap_any y w (by omega) (by omega)
  have HI : Hid (lpI y = if leapB y = true then 1 else 0) := rfl
  generalize leapB y = L at *
  clear hy
  refine month_cases ?_
  refine ⟨?_, ?_, ?_, ?_, ?_, ?_, ?_, ?_, ?_, ?_, ?_, ?_⟩
  · intro F w
    clear HI HLP
    have hi := run_ix0
    go_enter Tryz.func116, Tryz.ntmps116
    go_wp2_with fail
    go_ret
    exact ⟨ret_int (by rw [F.out]; rfl), rfl⟩
  · intro F w
    cases L
    · go_enter Tryz.func116, Tryz.ntmps116
      have hi := run_ix1
      go_wp2_with fail
      refine (HLP.out _).mono ?_
      rintro e wx ⟨rfl, rfl⟩
      go_wp2_with fail
      go_ret
      exact ⟨ret_int (by rw [F.out, HI.out]; rfl), rfl⟩
    · go_enter Tryz.func116, Tryz.ntmps116
      go_wp2_with fail
      refine (HLP.out _).mono ?_
      rintro e wx ⟨rfl, rfl⟩
      go_wp2_with fail
      go_ret
      exact ⟨ret_int (by rw [F.out, HI.out]; rfl), rfl⟩
  · intro F w
    clear HI HLP
    have hi := run_ix2
    go_enter Tryz.func116, Tryz.ntmps116
    go_wp2_with fail
    go_ret
    exact ⟨ret_int (by rw [F.out]; rfl), rfl⟩
  · intro F w
    clear HI HLP
    have hi := run_ix3
    go_enter Tryz.func116, Tryz.ntmps116
    go_wp2_with fail
    go_ret
    exact ⟨ret_int (by rw [F.out]; rfl), rfl⟩
  · intro F w
    clear HI HLP
    have hi := run_ix4
    go_enter Tryz.func116, Tryz.ntmps116
    go_wp2_with fail
    go_ret
    exact ⟨ret_int (by rw [F.out]; rfl), rfl⟩
  · intro F w
    clear HI HLP
    have hi := run_ix5
    go_enter Tryz.func116, Tryz.ntmps116
    go_wp2_with fail
    go_ret
    exact ⟨ret_int (by rw [F.out]; rfl), rfl⟩
  · intro F w
    clear HI HLP
    have hi := run_ix6
    go_enter Tryz.func116, Tryz.ntmps116
    go_wp2_with fail
    go_ret
    exact ⟨ret_int (by rw [F.out]; rfl), rfl⟩
  · intro F w
    clear HI HLP
    have hi := run_ix7
    go_enter Tryz.func116, Tryz.ntmps116
    go_wp2_with fail
    go_ret
    exact ⟨ret_int (by rw [F.out]; rfl), rfl⟩
  · intro F w
    clear HI HLP
    have hi := run_ix8
    go_enter Tryz.func116, Tryz.ntmps116
    go_wp2_with fail
    go_ret
    exact ⟨ret_int (by rw [F.out]; rfl), rfl⟩
  · intro F w
    clear HI HLP
    have hi := run_ix9
    go_enter Tryz.func116, Tryz.ntmps116
    go_wp2_with fail
    go_ret
    exact ⟨ret_int (by rw [F.out]; rfl), rfl⟩
  · intro F w
    clear HI HLP
    have hi := run_ix10
    go_enter Tryz.func116, Tryz.ntmps116
    go_wp2_with fail
    go_ret
    exact ⟨ret_int (by rw [F.out]; rfl), rfl⟩
  · intro F w
    clear HI HLP
    have hi := run_ix11
    go_enter Tryz.func116, Tryz.ntmps116
    go_wp2_with fail
    go_ret
    exact ⟨ret_int (by rw [F.out]; rfl), rfl⟩
theorem refDays_in (y : Int) (hy : 1900 ≤ y ∧ y ≤ 2199) (m : Int) (h1 : 1 ≤ m) (h2 : m ≤ 12) (w : World) : Calls Tryz.prog 116 #[.int .i64 y, .int .i64 m] w fun e w' => e = .returned (.int .i64 (dayM y m)) ∧ w = w' := refDays_in' y hy m h1 h2 (dayM_in hy ⟨h1, h2⟩) w
set_option maxRecDepth 100000 in
set_option maxHeartbeats 4000000 in
theorem days_any (y m : Int) (w : World) : Calls Tryz.prog 124 #[.int .i64 y, .int .i64 m] w fun e w' => e = .returned (.int .i64 (dayM y m)) ∧ Below w.heap.size w w' := by
  by_cases hc : 1900 ≤ y ∧ y ≤ 2199 ∧ 1 ≤ m ∧ m ≤ 12
  · exact days_in y ⟨hc.1, hc.2.1⟩ m hc.2.2.1 hc.2.2.2 w
  · have F := Lib.hid (dayM_out hc)
    have hs : (decide (y < 1900) = true) ∨ (decide (y < 1900) = false ∧ decide (2199 < y) = true) ∨ (decide (y < 1900) = false ∧ decide (2199 < y) = false ∧ decide (m < 1) = true) ∨ (decide (y < 1900) = false ∧ decide (2199 < y) = false ∧ decide (m < 1) = false ∧ decide (12 < m) = true) := by
      simp only [decide_eq_true_eq, decide_eq_false_iff_not]
      omega
    clear hc
    rcases hs with h | ⟨h, h'⟩ | ⟨h, h', h''⟩ | ⟨h, h', h'', h'''⟩
    all_goals
      go_enter Tryz.func124, Tryz.ntmps124
      go_wp2_with fail
      go_ret
      exact ⟨ret_int F.out.symm, Below.refl _ _⟩
set_option maxRecDepth 100000 in
set_option maxHeartbeats 4000000 in
theorem refDays_any (y m : Int) (w : World) : Calls Tryz.prog 116 #[.int .i64 y, .int .i64 m] w fun e w' => e = .returned (.int .i64 (dayM y m)) ∧ w = w' := by
  by_cases hc : 1900 ≤ y ∧ y ≤ 2199 ∧ 1 ≤ m ∧ m ≤ 12
  · exact refDays_in y ⟨hc.1, hc.2.1⟩ m hc.2.2.1 hc.2.2.2 w
  · have F := Lib.hid (dayM_out hc)
    have hs : (decide (m < 1) = true) ∨ (decide (m < 1) = false ∧ decide (12 < m) = true) ∨ (decide (m < 1) = false ∧ decide (12 < m) = false ∧ decide (y < 1900) = true) ∨ (decide (m < 1) = false ∧ decide (12 < m) = false ∧ decide (y < 1900) = false ∧ decide (2199 < y) = true) := by
      simp only [decide_eq_true_eq, decide_eq_false_iff_not]
      omega
    clear hc
    rcases hs with h | ⟨h, h'⟩ | ⟨h, h', h''⟩ | ⟨h, h', h'', h'''⟩
    all_goals
      go_enter Tryz.func116, Tryz.ntmps116
      go_wp2_with fail
      go_ret
      exact ⟨ret_int F.out.symm, rfl⟩
end Go.Proofs.YtcmmppkmkejniaaGreatDoor
namespace Go.Proofs.YtcmmppkmkejniaaGreatDoor
open Go.RowKit
set_option linter.unusedVariables false
def ofR (y m d : Int) : Value := if dayOk y m d = true then .tuple #[.int .i64 (dayN y m d), .int .i64 0] else .tuple #[.int .i64 0, .int .i64 2]
theorem ofR_no {y m d : Int} (h : ¬ (1 ≤ d ∧ d ≤ dayM y m)) : ofR y m d = .tuple #[.int .i64 0, .int .i64 2] := by
  unfold ofR; rw [if_neg (fun h' => h (dayOk_iff.1 h'))]
theorem ofR_yes {y m d : Int} (h : 1 ≤ d ∧ d ≤ dayM y m) : ofR y m d = .tuple #[.int .i64 (dayN y m d), .int .i64 0] := by
  unfold ofR; rw [if_pos (dayOk_iff.2 h)]
theorem cumM_next (y : Int) (q : Nat) : cumM y (q + 1) = cumM y q + dayM y ((q : Int) + 1) := rfl
set_option maxRecDepth 100000 in
set_option maxHeartbeats 2000000 in
theorem of_any (y m d : Int) (w : World) : Calls Tryz.prog 106 #[.int .i64 y, .int .i64 m, .int .i64 d] w fun e w' => e = .returned (ofR y m d) ∧ Below w.heap.size w w' := by
  by_cases h1 : 1 ≤ d
  · have g1 : decide (d < 1) = false := by rw [decide_eq_false_iff_not]; omega
    have HDA := Lib.hid (days_any y m w)
    by_cases h2 : d ≤ dayM y m
    · have F := Lib.hid (ofR_yes ⟨h1, h2⟩)
      have g2 : decide (dayM y m < d) = false := by rw [decide_eq_false_iff_not]; omega
      obtain ⟨hy, hm, _, hd31⟩ := dayOk_in (dayOk_iff.2 ⟨h1, h2⟩)
      have hB := beginY_bd (y := y) (by omega) (by omega)
      have HND : Hid (dayN y m d = beginY y + cumM y (m - 1).toNat + d - 1) := rfl
      have HBE : Hid (∀ w, Calls Tryz.prog 125 #[.int .i64 y] w fun e w' => e = .returned (.int .i64 (beginY y)) ∧ w = w') := fun w => begin_any y w (by omega) (by omega)
      generalize dayM y m = X at *
      generalize beginY y = B at *
      have hB1 := hB.1
      have hB2 := hB.2
      have hm1 := hm.1
      have hm2 := hm.2
      clear hB hm hy h2
      go_enter Tryz.func106, Tryz.ntmps106
      go_wp2_with fail
      refine HDA.out.mono ?_
      rintro e w1 ⟨rfl, hb1⟩
      have HB1 := Lib.hid hb1
      clear hb1
      go_wp2_with fail
      refine (HBE.out _).mono ?_
      rintro e wx ⟨rfl, rfl⟩
      go_wp2_with fail
      go_loopw [8, 9] (fun n k wr => ∃ q : Nat, (q : Int) + 1 ≤ m ∧ k = .int .i64 ((q : Int) + 1) ∧ n = .int .i64 (B + d - 1 + cumM y q) ∧ Below w.heap.size w wr) (fun _ k _ => (m - intOf k).toNat)
      case atStart => exact ⟨0, by omega, rfl, by rw [show cumM y 0 = 0 from rfl, Int.add_zero], HB1.out⟩
      case round =>
        obtain ⟨q, hq, rfl, rfl, hbr⟩ := hrel
        have HBR := Lib.hid hbr
        clear hbr
        have hcb := cumM_bd y q
        have hc1 := hcb.1
        have hc2 : cumM y q ≤ 400 := by omega
        have G := Lib.hid (cumM_next y q)
        have hdb := dayM_bd y ((q : Int) + 1)
        have hd1 := hdb.1
        have hd2 := hdb.2
        have HDQ : Hid (∀ w, Calls Tryz.prog 124 #[.int .i64 y, .int .i64 ((q : Int) + 1)] w fun e w' => e = .returned (.int .i64 (dayM y ((q : Int) + 1))) ∧ Below w.heap.size w w') := days_any y ((q : Int) + 1)
        clear hcb hdb
        by_cases hlt : (q : Int) + 1 < m
        · have k1 : decide ((q : Int) + 1 < m) = true := by rw [decide_eq_true_eq]; exact hlt
          generalize cumM y q = C at *
          generalize dayM y ((q : Int) + 1) = D at *
          go_wp2_with fail
          refine (HDQ.out _).mono ?_
          rintro e w2 ⟨rfl, hb2⟩
          have HB2 := Lib.hid (below_two HBR.out hb2)
          clear hb2
          go_wp2_with fail
          go_roundw
          case rel => exact ⟨q + 1, by omega, by go_num, by rw [G.out, ← Int.add_assoc], HB2.out⟩
          case measure => simp [intOf]; omega
        · have k1 : decide ((q : Int) + 1 < m) = false := by rw [decide_eq_false_iff_not]; exact hlt
          have E : Hid (dayN y m d = B + d - 1 + cumM y q) := by
            show _ = _
            rw [HND.out, show (m - 1).toNat = q by omega]
            omega
          generalize cumM y q = C at *
          go_wp2_with fail
          go_ret2
          exact ⟨by rw [F.out, E.out]; rfl, HBR.out⟩
    · have F := Lib.hid (ofR_no (fun h => h2 h.2))
      have g2 : decide (dayM y m < d) = true := by rw [decide_eq_true_eq]; omega
      generalize dayM y m = X at *
      clear h2
      go_enter Tryz.func106, Tryz.ntmps106
      go_wp2_with fail
      refine HDA.out.mono ?_
      rintro e w1 ⟨rfl, hb1⟩
      go_wp2_with fail
      go_ret2
      exact ⟨by rw [F.out]; rfl, hb1⟩
  · have g1 : decide (d < 1) = true := by rw [decide_eq_true_eq]; omega
    have F := Lib.hid (ofR_no (y := y) (m := m) (fun h => h1 h.1))
    clear h1
    go_enter Tryz.func106, Tryz.ntmps106
    go_wp2_with fail
    go_ret2
    exact ⟨by rw [F.out]; rfl, Below.refl _ _⟩
set_option maxRecDepth 100000 in
set_option maxHeartbeats 2000000 in
theorem refOf_any (y m d : Int) (w : World) : Calls Tryz.prog 92 #[.int .i64 y, .int .i64 m, .int .i64 d] w fun e w' => e = .returned (ofR y m d) ∧ w = w' := by
  by_cases h1 : 1 ≤ d
  · have g1 : decide (d < 1) = false := by rw [decide_eq_false_iff_not]; omega
    have HDA := Lib.hid (refDays_any y m w)
    by_cases h2 : d ≤ dayM y m
    · have F := Lib.hid (ofR_yes ⟨h1, h2⟩)
      have g2 : decide (dayM y m < d) = false := by rw [decide_eq_false_iff_not]; omega
      obtain ⟨hy, hm, _, hd31⟩ := dayOk_in (dayOk_iff.2 ⟨h1, h2⟩)
      have HND : Hid (dayN y m d = beginY y + cumM y (m - 1).toNat + d - 1) := rfl
      have HB0 : Hid (beginY 1900 = -25567) := by show _ = _; decide
      generalize dayM y m = X at *
      have hm1 := hm.1
      have hm2 := hm.2
      have hy1 := hy.1
      have hy2 := hy.2
      clear hm hy h2
      go_enter Tryz.func92, Tryz.ntmps92
      go_wp2_with fail
      refine HDA.out.mono ?_
      rintro e wx ⟨rfl, rfl⟩
      go_wp2_with fail
      go_loop [8, 9] (fun n k => ∃ a : Int, 1900 ≤ a ∧ a ≤ y ∧ k = .int .i64 a ∧ n = .int .i64 (beginY a)) (fun _ k => (y - intOf k).toNat)
      case atStart => exact ⟨1900, by omega, hy1, rfl, by rw [HB0.out]⟩
      case round =>
        obtain ⟨a, ha1, ha2, rfl, rfl⟩ := hrel
        have hb := beginY_bd (y := a) (by omega) (by omega)
        have hb1 := hb.1
        have hb2 := hb.2
        clear hb
        by_cases hlt : a < y
        · have k1 : decide (a < y) = true := by rw [decide_eq_true_eq]; exact hlt
          have HLP := Lib.hid (refLeap_any a w (by omega) (by omega))
          have G := Lib.hid (beginY_succ a)
          have HI : Hid (lpI a = if leapB a = true then 1 else 0) := rfl
          generalize beginY a = B at *
          generalize lpI a = I at *
          cases hL : leapB a
          · have J : Hid (I = 0) := by show _ = _; rw [HI.out, hL]; rfl
            rw [hL] at HLP
            clear hL HI
            go_wp2_with fail
            refine HLP.out.mono ?_
            rintro e wx ⟨rfl, rfl⟩
            go_wp2_with fail
            go_round
            case rel => exact ⟨a + 1, by omega, by omega, rfl, by rw [G.out, J.out]; go_num⟩
            case measure => simp [intOf]; omega
          · have J : Hid (I = 1) := by show _ = _; rw [HI.out, hL]; rfl
            rw [hL] at HLP
            clear hL HI
            go_wp2_with fail
            refine HLP.out.mono ?_
            rintro e wx ⟨rfl, rfl⟩
            go_wp2_with fail
            go_round
            case rel => exact ⟨a + 1, by omega, by omega, rfl, by rw [G.out, J.out]⟩
            case measure => simp [intOf]; omega
        · have k1 : decide (a < y) = false := by rw [decide_eq_false_iff_not]; exact hlt
          obtain rfl : a = y := by omega
          clear hlt
          generalize beginY a = B at *
          go_wp2_with fail
          go_loop [8, 10] (fun n k => ∃ q : Nat, (q : Int) + 1 ≤ m ∧ k = .int .i64 ((q : Int) + 1) ∧ n = .int .i64 (B + cumM a q)) (fun _ k => (m - intOf k).toNat)
          case atStart => exact ⟨0, by omega, rfl, by rw [show cumM a 0 = 0 from rfl, Int.add_zero]⟩
          case round =>
            obtain ⟨q, hq, rfl, rfl⟩ := hrel
            have hcb := cumM_bd a q
            have hc1 := hcb.1
            have hc2 : cumM a q ≤ 400 := by omega
            have G := Lib.hid (cumM_next a q)
            have hdb := dayM_bd a ((q : Int) + 1)
            have hd1 := hdb.1
            have hd2 := hdb.2
            have HDQ := Lib.hid (refDays_any a ((q : Int) + 1) w)
            clear hcb hdb
            by_cases hlt : (q : Int) + 1 < m
            · have k2 : decide ((q : Int) + 1 < m) = true := by rw [decide_eq_true_eq]; exact hlt
              generalize cumM a q = C at *
              generalize dayM a ((q : Int) + 1) = D at *
              go_wp2_with fail
              refine HDQ.out.mono ?_
              rintro e wx ⟨rfl, rfl⟩
              go_wp2_with fail
              go_round
              case rel => exact ⟨q + 1, by omega, by go_num, by rw [G.out, ← Int.add_assoc]⟩
              case measure => simp [intOf]; omega
            · have k2 : decide ((q : Int) + 1 < m) = false := by rw [decide_eq_false_iff_not]; exact hlt
              have E : Hid (dayN a m d = B + cumM a q + d - 1) := by
                show _ = _
                rw [HND.out, show (m - 1).toNat = q by omega]
              generalize cumM a q = C at *
              go_wp2_with fail
              go_ret2
              exact ⟨by rw [F.out, E.out]; rfl, rfl⟩
    · have F := Lib.hid (ofR_no (fun h => h2 h.2))
      have g2 : decide (dayM y m < d) = true := by rw [decide_eq_true_eq]; omega
      generalize dayM y m = X at *
      clear h2
      go_enter Tryz.func92, Tryz.ntmps92
      go_wp2_with fail
      refine HDA.out.mono ?_
      rintro e wx ⟨rfl, rfl⟩
      go_wp2_with fail
      go_ret2
      exact ⟨by rw [F.out]; rfl, rfl⟩
  · have g1 : decide (d < 1) = true := by rw [decide_eq_true_eq]; omega
    have F := Lib.hid (ofR_no (y := y) (m := m) (fun h => h1 h.1))
    clear h1
    go_enter Tryz.func92, Tryz.ntmps92
    go_wp2_with fail
    go_ret2
    exact ⟨by rw [F.out]; rfl, rfl⟩
end Go.Proofs.YtcmmppkmkejniaaGreatDoor
namespace Go.Proofs.YtcmmppkmkejniaaGreatDoor
open Go.RowKit
set_option linter.unusedVariables false
/-- what Civil returns -/
def CivSays (n : Int) (w : World) (e : Ending) (w' : World) : Prop := ∃ y m d : Int, e = .returned (.tuple #[.int .i64 y, .int .i64 m, .int .i64 d, .int .i64 0]) ∧ dayOk y m d = true ∧ dayN y m d = n ∧ Below w.heap.size w w'
theorem tdiv_366 (n : Int) : (0 ≤ n → n.tdiv 366 = n / 366) ∧ (n < 0 → 366 * n.tdiv 366 - 366 < n ∧ n ≤ 366 * n.tdiv 366) := by
  refine ⟨fun h => Int.tdiv_eq_ediv_of_nonneg h, fun h => ?_⟩
  have e : n.tdiv 366 = -((-n) / 366) := by
    have := Int.neg_tdiv (-n) 366
    rw [Int.neg_neg] at this
    rw [this, Int.tdiv_eq_ediv_of_nonneg (by omega)]
  rw [e]
  omega
theorem civ_first {n q : Int} (h1 : -25567 ≤ n) (h2 : n ≤ 84005) (h : (0 ≤ n ∧ q = n / 366) ∨ (n < 0 ∧ 366 * q - 366 < n ∧ n ≤ 366 * q)) : 1899 ≤ 1970 + q - 2 ∧ 1970 + q - 2 ≤ 2199 ∧ (1900 ≤ 1970 + q - 2 → beginY (1970 + q - 2) ≤ n) := by
  unfold beginY
  omega
theorem civ_last {y n : Int} (h : beginY y ≤ n) (h2 : n ≤ 84005) : y ≤ 2199 := by
  apply Classical.byContradiction
  intro hn
  have := beginY_mono (a := 2200) (b := y) (by omega)
  have e2 : beginY 2200 = 84006 := by decide
  omega
theorem civ_month {y n : Int} {q : Nat} (hy : 1900 ≤ y ∧ y ≤ 2199) (h1 : n < beginY (y + 1)) (hq : q ≤ 11) (h : dayM y ((q : Int) + 1) ≤ n - beginY y - cumM y q) : q + 1 ≤ 11 := by
  apply Classical.byContradiction
  intro hn
  obtain rfl : q = 11 := by omega
  have e1 := cumM_year hy
  have e2 := beginY_succ y
  have e3 : cumM y 12 = cumM y 11 + dayM y (((11 : Nat) : Int) + 1) := rfl
  omega
theorem civ_done {y n : Int} {q : Nat} (h0 : 0 ≤ n - beginY y - cumM y q) (h : ¬ dayM y ((q : Int) + 1) ≤ n - beginY y - cumM y q) : dayOk y ((q : Int) + 1) (n - beginY y - cumM y q + 1) = true ∧ dayN y ((q : Int) + 1) (n - beginY y - cumM y q + 1) = n := by
  refine ⟨dayOk_iff.2 ⟨by omega, by omega⟩, ?_⟩
  unfold dayN
  rw [show ((q : Int) + 1 - 1).toNat = q by omega]
  omega
set_option maxRecDepth 100000 in
set_option maxHeartbeats 4000000 in
theorem refCivil_yes (n : Int) (w : World) (h1 : -25567 ≤ n) (h2 : n ≤ 84005) : Calls Tryz.prog 118 #[.int .i64 n] w (CivSays n w) := by
  have HV := Lib.hid (refDvalid_any n w)
  have hv : dateB n = true := by unfold dateB; rw [decide_eq_true h1, decide_eq_true h2]; rfl
  rw [hv] at HV
  clear hv
  have HB0 : Hid (beginY 1900 = -25567) := by show _ = _; decide
  go_enter Tryz.func118, Tryz.ntmps118
  go_wp2_with fail
  refine HV.out.mono ?_
  rintro e wx ⟨rfl, rfl⟩
  go_wp2_with fail
  go_loop [6, 8] (fun v r => ∃ y : Int, v = .int .i64 y ∧ 1900 ≤ y ∧ y ≤ 2199 ∧ beginY y ≤ n ∧ r = .int .i64 (n - beginY y)) (fun v _ => (2200 - intOf v).toNat)
  case atStart => exact ⟨1900, rfl, by omega, by omega, by rw [HB0.out]; exact h1, by rw [HB0.out]; first | rfl | go_num⟩
  case round =>
    obtain ⟨y, rfl, hy1, hy2, hyb, rfl⟩ := hrel
    have HLP := Lib.hid (refLeap_any y w (by omega) (by omega))
    have G := Lib.hid (beginY_succ y)
    have HI : Hid (lpI y = if leapB y = true then 1 else 0) := rfl
    have HLS := Lib.hid (fun h => civ_last (y := y + 1) (n := n) h h2)
    have hbb := beginY_bd (y := y) (by omega) (by omega)
    have hbb1 := hbb.1
    have hbb2 := hbb.2
    have HMO : Hid (n < beginY (y + 1) → ∀ q : Nat, q ≤ 11 → dayM y ((q : Int) + 1) ≤ n - beginY y - cumM y q → q + 1 ≤ 11) := fun hl q hq h => civ_month ⟨by omega, hy2⟩ hl hq h
    have HDN : Hid (∀ q : Nat, 0 ≤ n - beginY y - cumM y q → ¬ dayM y ((q : Int) + 1) ≤ n - beginY y - cumM y q → dayOk y ((q : Int) + 1) (n - beginY y - cumM y q + 1) = true ∧ dayN y ((q : Int) + 1) (n - beginY y - cumM y q + 1) = n) := fun q h0 h => civ_done h0 h
    clear hbb
    generalize hBB : beginY (y + 1) = BB at *
    have HBB := Lib.hid hBB
    clear hBB
    generalize beginY y = B at *
    cases hL : leapB y
    · have J : Hid (BB = B + 365) := by show _ = _; rw [G.out, HI.out, hL]; simp; try omega
      rw [hL] at HLP
      clear hL HI G
      by_cases hgo : 365 ≤ n - B
      · have k1 : decide (365 ≤ n - B) = true := by rw [decide_eq_true_eq]; exact hgo
        have hle : B + 365 ≤ n := by omega
        have hy3 := HLS.out (by rw [J.out]; exact hle)
        go_wp2_with fail
        refine HLP.out.mono ?_
        rintro e wx ⟨rfl, rfl⟩
        go_wp2_with fail
        refine HLP.out.mono ?_
        rintro e wx ⟨rfl, rfl⟩
        go_wp2_with fail
        refine HLP.out.mono ?_
        rintro e wx ⟨rfl, rfl⟩
        go_wp2_with fail
        go_round
        case rel => exact ⟨y + 1, rfl, by omega, by omega, by rw [HBB.out, J.out]; exact hle, by rw [HBB.out, J.out]; exact congrArg (Value.int .i64) (by omega)⟩
        case measure => simp [intOf]; omega
      · have k1 : decide (365 ≤ n - B) = false := by rw [decide_eq_false_iff_not]; exact hgo
        have HMQ := Lib.hid (HMO.out (by rw [J.out]; omega))
        go_wp2_with fail
        refine HLP.out.mono ?_
        rintro e wx ⟨rfl, rfl⟩
        go_wp2_with fail
        refine HLP.out.mono ?_
        rintro e wx ⟨rfl, rfl⟩
        go_wp2_with fail
        go_loop [7, 8] (fun mv dv => ∃ q : Nat, q ≤ 11 ∧ mv = .int .i64 ((q : Int) + 1) ∧ dv = .int .i64 (n - B - cumM y q) ∧ 0 ≤ n - B - cumM y q) (fun mv _ => (13 - intOf mv).toNat)
        case atStart => exact ⟨0, by omega, rfl, by rw [show cumM y 0 = 0 from rfl, Int.sub_zero], by rw [show cumM y 0 = 0 from rfl]; omega⟩
        case round =>
          obtain ⟨q, hq, rfl, rfl, h0⟩ := hrel
          have hcb := cumM_bd y q
          have hc1 := hcb.1
          have hc2 : cumM y q ≤ 400 := by omega
          have G2 := Lib.hid (cumM_next y q)
          have hdb := dayM_bd y ((q : Int) + 1)
          have hd1 := hdb.1
          have hd2 := hdb.2
          have HDA := Lib.hid (refDays_any y ((q : Int) + 1) w)
          have HM := Lib.hid (HMQ.out q hq)
          have HD := Lib.hid (HDN.out q h0)
          clear hcb hdb
          generalize cumM y q = C at *
          generalize dayM y ((q : Int) + 1) = D at *
          by_cases hgo : D ≤ n - B - C
          · have k3 : decide (D ≤ n - B - C) = true := by rw [decide_eq_true_eq]; exact hgo
            have hq2 := HM.out hgo
            go_wp2_with fail
            refine HDA.out.mono ?_
            rintro e wx ⟨rfl, rfl⟩
            go_wp2_with fail
            refine HDA.out.mono ?_
            rintro e wx ⟨rfl, rfl⟩
            go_wp2_with fail
            go_round
            case rel => exact ⟨q + 1, by omega, by go_num, by rw [G2.out]; exact congrArg (Value.int .i64) (by omega), by rw [G2.out]; omega⟩
            case measure => simp [intOf]; omega
          · have k3 : decide (D ≤ n - B - C) = false := by rw [decide_eq_false_iff_not]; exact hgo
            have hd := HD.out (by omega)
            have HDD := Lib.hid hd
            clear hd
            go_wp2_with fail
            refine HDA.out.mono ?_
            rintro e wx ⟨rfl, rfl⟩
            go_wp2_with fail
            refine bodyPost_ret (v := .tuple #[.int .i64 y, .int .i64 ((q : Int) + 1), .int .i64 (n - B - C + 1), .int .i64 0]) ?_ rfl ⟨y, (q : Int) + 1, n - B - C + 1, rfl, HDD.out.1, HDD.out.2, Below.refl _ _⟩
            simp [results, Tryz.results118, go_sem]
    · have J : Hid (BB = B + 366) := by show _ = _; rw [G.out, HI.out, hL]; simp; try omega
      rw [hL] at HLP
      clear hL HI G
      by_cases hgo : 366 ≤ n - B
      · have k1 : decide (366 ≤ n - B) = true := by rw [decide_eq_true_eq]; exact hgo
        have hle : B + 366 ≤ n := by omega
        have hy3 := HLS.out (by rw [J.out]; exact hle)
        go_wp2_with fail
        refine HLP.out.mono ?_
        rintro e wx ⟨rfl, rfl⟩
        go_wp2_with fail
        refine HLP.out.mono ?_
        rintro e wx ⟨rfl, rfl⟩
        go_wp2_with fail
        go_round
        case rel => exact ⟨y + 1, rfl, by omega, by omega, by rw [HBB.out, J.out]; exact hle, by rw [HBB.out, J.out]; exact congrArg (Value.int .i64) (by omega)⟩
        case measure => simp [intOf]; omega
      · have k1 : decide (366 ≤ n - B) = false := by rw [decide_eq_false_iff_not]; exact hgo
        have HMQ := Lib.hid (HMO.out (by rw [J.out]; omega))
        go_wp2_with fail
        refine HLP.out.mono ?_
        rintro e wx ⟨rfl, rfl⟩
        go_wp2_with fail
        refine HLP.out.mono ?_
        rintro e wx ⟨rfl, rfl⟩
        go_wp2_with fail
        go_loop [7, 8] (fun mv dv => ∃ q : Nat, q ≤ 11 ∧ mv = .int .i64 ((q : Int) + 1) ∧ dv = .int .i64 (n - B - cumM y q) ∧ 0 ≤ n - B - cumM y q) (fun mv _ => (13 - intOf mv).toNat)
        case atStart => exact ⟨0, by omega, rfl, by rw [show cumM y 0 = 0 from rfl, Int.sub_zero], by rw [show cumM y 0 = 0 from rfl]; omega⟩
        case round =>
          obtain ⟨q, hq, rfl, rfl, h0⟩ := hrel
          have hcb := cumM_bd y q
          have hc1 := hcb.1
          have hc2 : cumM y q ≤ 400 := by omega
          have G2 := Lib.hid (cumM_next y q)
          have hdb := dayM_bd y ((q : Int) + 1)
          have hd1 := hdb.1
          have hd2 := hdb.2
          have HDA := Lib.hid (refDays_any y ((q : Int) + 1) w)
          have HM := Lib.hid (HMQ.out q hq)
          have HD := Lib.hid (HDN.out q h0)
          clear hcb hdb
          generalize cumM y q = C at *
          generalize dayM y ((q : Int) + 1) = D at *
          by_cases hgo : D ≤ n - B - C
          · have k3 : decide (D ≤ n - B - C) = true := by rw [decide_eq_true_eq]; exact hgo
            have hq2 := HM.out hgo
            go_wp2_with fail
            refine HDA.out.mono ?_
            rintro e wx ⟨rfl, rfl⟩
            go_wp2_with fail
            refine HDA.out.mono ?_
            rintro e wx ⟨rfl, rfl⟩
            go_wp2_with fail
            go_round
            case rel => exact ⟨q + 1, by omega, by go_num, by rw [G2.out]; exact congrArg (Value.int .i64) (by omega), by rw [G2.out]; omega⟩
            case measure => simp [intOf]; omega
          · have k3 : decide (D ≤ n - B - C) = false := by rw [decide_eq_false_iff_not]; exact hgo
            have hd := HD.out (by omega)
            have HDD := Lib.hid hd
            clear hd
            go_wp2_with fail
            refine HDA.out.mono ?_
            rintro e wx ⟨rfl, rfl⟩
            go_wp2_with fail
            refine bodyPost_ret (v := .tuple #[.int .i64 y, .int .i64 ((q : Int) + 1), .int .i64 (n - B - C + 1), .int .i64 0]) ?_ rfl ⟨y, (q : Int) + 1, n - B - C + 1, rfl, HDD.out.1, HDD.out.2, Below.refl _ _⟩
            simp [results, Tryz.results118, go_sem]
theorem refCivil_no (n : Int) (w : World) (h : dateB n = false) : Calls Tryz.prog 118 #[.int .i64 n] w fun e w' => e = .returned (.tuple #[.int .i64 0, .int .i64 0, .int .i64 0, .int .i64 2]) ∧ w = w' := by
  have HV := Lib.hid (refDvalid_any n w)
  rw [h] at HV
  clear h
  go_enter Tryz.func118, Tryz.ntmps118
  go_wp2_with fail
  refine HV.out.mono ?_
  rintro e wx ⟨rfl, rfl⟩
  go_wp2_with fail
  refine bodyPost_ret (v := .tuple #[.int .i64 0, .int .i64 0, .int .i64 0, .int .i64 2]) ?_ rfl ⟨rfl, rfl⟩
  simp [results, Tryz.results118, go_sem]
end Go.Proofs.YtcmmppkmkejniaaGreatDoor
