/-
  Dates: plain laws.   Dates: leap, Days, Valid of both, begin.   Dates: Of, of both.   Dates: Civil of the reference.
  mapping.link: a link leads from an account of the entity to one of the group.
  mapping.Valid.
  group.accounts: the chart and the roles of a group.
  group.entity: an entity is valid in a group.
-/
import Derived.Test.YtcmmppkmkejniaaGreatDoorGvPl
import Derived.Test.YtcmmppkmkejniaaGreatDoorDig
import Derived.Test.YtcmmppkmkejniaaGreatDoorBlSt
import Derived.LoopTactic
import Derived.Deep.QuietTactic
import Derived.BigQuiet
import Derived.Laws.IdiomStrings
import Derived.IntWalk
import Derived.Deep.RegionWith
import Derived.Test.YtcmmppkmkejniaaGreatDoorGvCv
import Derived.Test.YtcmmppkmkejniaaGreatDoorMpK
import Derived.Test.YtcmmppkmkejniaaGreatDoorBlG1
namespace Go.Proofs.YtcmmppkmkejniaaGreatDoor
set_option linter.unusedVariables false
def leapB (y : Int) : Bool := y % 4 == 0 && (y % 100 != 0 || y % 400 == 0)
def mtab (m : Int) : Int := if m = 2 then 28 else if m = 4 ∨ m = 6 ∨ m = 9 ∨ m = 11 then 30 else 31
def dayM (y m : Int) : Int := if 1900 ≤ y ∧ y ≤ 2199 ∧ 1 ≤ m ∧ m ≤ 12 then (if m = 2 ∧ leapB y = true then 29 else mtab m) else 0
def beginY (y : Int) : Int := 365 * (y - 1) + (y - 1) / 4 - (y - 1) / 100 + (y - 1) / 400 - 719162
def cumM (y : Int) : Nat → Int
  | 0 => 0
  | k + 1 => cumM y k + dayM y (k + 1)
def lpI (y : Int) : Int := if leapB y = true then 1 else 0
theorem leapB_iff {y : Int} : leapB y = true ↔ y % 4 = 0 ∧ (y % 100 ≠ 0 ∨ y % 400 = 0) := by
  unfold leapB
  simp only [Bool.and_eq_true, Bool.or_eq_true, beq_iff_eq, bne_iff_ne, ne_eq]
theorem lpI_bd (y : Int) : 0 ≤ lpI y ∧ lpI y ≤ 1 := by unfold lpI; split <;> omega
theorem beginY_succ (y : Int) : beginY (y + 1) = beginY y + 365 + lpI y := by
  unfold lpI beginY
  by_cases h : leapB y = true
  · rw [if_pos h]
    have := leapB_iff.1 h
    omega
  · rw [if_neg h]
    rw [leapB_iff] at h
    omega
theorem mtab_bd (m : Int) : 28 ≤ mtab m ∧ mtab m ≤ 31 := by
  unfold mtab
  split
  · omega
  · split <;> omega
theorem dayM_in {y m : Int} (hy : 1900 ≤ y ∧ y ≤ 2199) (hm : 1 ≤ m ∧ m ≤ 12) : dayM y m = if m = 2 then 28 + lpI y else mtab m := by
  unfold dayM lpI
  rw [if_pos ⟨hy.1, hy.2, hm.1, hm.2⟩]
  by_cases h2 : m = 2
  · subst h2
    cases leapB y
    · simp [mtab]
    · simp
  · rw [if_neg (fun h => h2 h.1), if_neg h2]
theorem dayM_out {y m : Int} (h : ¬ (1900 ≤ y ∧ y ≤ 2199 ∧ 1 ≤ m ∧ m ≤ 12)) : dayM y m = 0 := by unfold dayM; rw [if_neg h]
theorem dayM_bd (y m : Int) : 0 ≤ dayM y m ∧ dayM y m ≤ 31 := by
  by_cases h : 1900 ≤ y ∧ y ≤ 2199 ∧ 1 ≤ m ∧ m ≤ 12
  · rw [dayM_in ⟨h.1, h.2.1⟩ h.2.2]
    have := lpI_bd y
    have := mtab_bd m
    split <;> omega
  · rw [dayM_out h]; omega
theorem dayM_lo {y m : Int} (hy : 1900 ≤ y ∧ y ≤ 2199) (hm : 1 ≤ m ∧ m ≤ 12) : 28 ≤ dayM y m := by
  rw [dayM_in hy hm]
  have := lpI_bd y
  have := mtab_bd m
  split <;> omega
theorem cumM_bd (y : Int) (k : Nat) : 0 ≤ cumM y k ∧ cumM y k ≤ 31 * k := by
  induction k with
  | zero => simp [cumM]
  | succ k ih =>
    have := dayM_bd y (k + 1)
    show 0 ≤ cumM y k + dayM y (k + 1) ∧ cumM y k + dayM y (k + 1) ≤ 31 * ((k + 1 : Nat) : Int)
    omega
theorem cumM_year {y : Int} (hy : 1900 ≤ y ∧ y ≤ 2199) : cumM y 12 = 365 + lpI y := by
  have d : ∀ m : Int, 1 ≤ m → m ≤ 12 → dayM y m = if m = 2 then 28 + lpI y else mtab m := fun m h1 h2 => dayM_in hy ⟨h1, h2⟩
  simp only [cumM]
  rw [d _ (by omega) (by omega), d _ (by omega) (by omega), d _ (by omega) (by omega), d _ (by omega) (by omega), d _ (by omega) (by omega), d _ (by omega) (by omega), d _ (by omega) (by omega), d _ (by omega) (by omega), d _ (by omega) (by omega), d _ (by omega) (by omega), d _ (by omega) (by omega), d _ (by omega) (by omega)]
  simp [mtab]
  omega
theorem cumM_mono {y : Int} {a b : Nat} (h : a ≤ b) : cumM y a ≤ cumM y b := by
  induction b with
  | zero => have : a = 0 := by omega
            subst this; exact Int.le_refl _
  | succ b ih =>
    by_cases e : a = b + 1
    · subst e; exact Int.le_refl _
    · have := ih (by omega)
      have := dayM_bd y (b + 1)
      show cumM y a ≤ cumM y b + dayM y (b + 1)
      omega
/-- the number of a day, or that there is none -/
def dayOk (y m d : Int) : Bool := decide (1 ≤ d) && decide (d ≤ dayM y m)
def dayN (y m d : Int) : Int := beginY y + cumM y (m - 1).toNat + d - 1
theorem dayOk_iff {y m d : Int} : dayOk y m d = true ↔ 1 ≤ d ∧ d ≤ dayM y m := by
  unfold dayOk
  rw [Bool.and_eq_true, decide_eq_true_eq, decide_eq_true_eq]
theorem dayOk_in {y m d : Int} (h : dayOk y m d = true) : (1900 ≤ y ∧ y ≤ 2199) ∧ (1 ≤ m ∧ m ≤ 12) ∧ 1 ≤ d ∧ d ≤ 31 := by
  have h1 := dayOk_iff.1 h
  have hb := dayM_bd y m
  by_cases hc : 1900 ≤ y ∧ y ≤ 2199 ∧ 1 ≤ m ∧ m ≤ 12
  · exact ⟨⟨hc.1, hc.2.1⟩, hc.2.2, h1.1, by omega⟩
  · rw [dayM_out hc] at h1; omega
theorem beginY_mono {a b : Int} (h : a ≤ b) : beginY a ≤ beginY b := by
  obtain ⟨n, rfl⟩ : ∃ n : Nat, b = a + n := ⟨(b - a).toNat, by omega⟩
  clear h
  induction n with
  | zero => rw [show a + ((0 : Nat) : Int) = a by omega]; exact Int.le_refl _
  | succ n ih =>
    have e := beginY_succ (a + n)
    have := lpI_bd (a + n)
    rw [show a + ((n + 1 : Nat) : Int) = a + n + 1 by omega]
    omega
theorem dayN_year {y m d : Int} (h : dayOk y m d = true) : beginY y ≤ dayN y m d ∧ dayN y m d < beginY (y + 1) := by
  obtain ⟨hy, hm, hd, _⟩ := dayOk_in h
  have h1 := (dayOk_iff.1 h).2
  have hc := cumM_bd y (m - 1).toNat
  have hs : cumM y ((m - 1).toNat + 1) = cumM y (m - 1).toNat + dayM y (((m - 1).toNat : Int) + 1) := rfl
  have hm1 : ((m - 1).toNat : Int) + 1 = m := by omega
  rw [hm1] at hs
  have hle := cumM_mono (y := y) (a := (m - 1).toNat + 1) (b := 12) (by omega)
  rw [cumM_year hy] at hle
  have e := beginY_succ y
  unfold dayN
  omega
theorem dayN_inj {y m d y' m' d' : Int} (h : dayOk y m d = true) (h' : dayOk y' m' d' = true) (e : dayN y m d = dayN y' m' d') : y = y' ∧ m = m' ∧ d = d' := by
  have b := dayN_year h
  have b' := dayN_year h'
  have hy : y = y' := by
    apply Classical.byContradiction
    intro hn
    rcases Int.lt_or_gt_of_ne hn with hl | hl
    · have := beginY_mono (a := y + 1) (b := y') (by omega); omega
    · have := beginY_mono (a := y' + 1) (b := y) (by omega); omega
  subst hy
  obtain ⟨_, hm, hd, _⟩ := dayOk_in h
  obtain ⟨_, hm', hd', _⟩ := dayOk_in h'
  have k := (dayOk_iff.1 h).2
  have k' := (dayOk_iff.1 h').2
  have s : ∀ q : Int, 1 ≤ q → cumM y q.toNat = cumM y (q - 1).toNat + dayM y q := by
    intro q hq
    obtain ⟨n, rfl⟩ : ∃ n : Nat, q = (n : Int) + 1 := ⟨(q - 1).toNat, by omega⟩
    rw [show ((n : Int) + 1).toNat = n + 1 by omega, show ((n : Int) + 1 - 1).toNat = n by omega]
    rfl
  have hm2 : m = m' := by
    apply Classical.byContradiction
    intro hn
    unfold dayN at e
    rcases Int.lt_or_gt_of_ne hn with hl | hl
    · have := cumM_mono (y := y) (a := m.toNat) (b := (m' - 1).toNat) (by omega)
      have := s m hm.1
      omega
    · have := cumM_mono (y := y) (a := m'.toNat) (b := (m - 1).toNat) (by omega)
      have := s m' hm'.1
      omega
  subst hm2
  refine ⟨rfl, rfl, ?_⟩
  unfold dayN at e
  omega
theorem dayN_bd {y m d : Int} (h : dayOk y m d = true) : -25567 ≤ dayN y m d ∧ dayN y m d ≤ 84005 := by
  have b := dayN_year h
  obtain ⟨hy, _⟩ := dayOk_in h
  have h1 := beginY_mono (a := 1900) (b := y) hy.1
  have h2 := beginY_mono (a := y + 1) (b := 2200) (by omega)
  have e1 : beginY 1900 = -25567 := by decide
  have e2 : beginY 2200 = 84006 := by decide
  omega
theorem beginY_bd {y : Int} (h : 0 ≤ y) (h' : y ≤ 10000) : -719600 ≤ beginY y ∧ beginY y ≤ 3000000 := by unfold beginY; omega
end Go.Proofs.YtcmmppkmkejniaaGreatDoor
namespace Go.Proofs.YtcmmppkmkejniaaGreatDoor
open Go.RowKit
set_option linter.unusedVariables false
theorem leap_any (y : Int) (w : World) (h0 : 0 ≤ y) (h1 : y ≤ 10000) : Calls Tryz.prog 136 #[.int .i64 y] w fun e w' => e = .returned (.bool (leapB y)) ∧ w = w' := by
  have HL : Hid (leapB y = (y % 4 == 0 && (y % 100 != 0 || y % 400 == 0))) := rfl
  cases h4 : (y % 4 == 0)
  · have F : Hid (leapB y = false) := by show _ = _; rw [HL.out, h4]; rfl
    go_enter Tryz.func136, Tryz.ntmps136
    go_wp2_with fail
    go_ret
    exact ⟨ret_bool F.out.symm, rfl⟩
  · cases h100 : (y % 100 != 0)
    · cases h400 : (y % 400 == 0)
      · have F : Hid (leapB y = false) := by show _ = _; rw [HL.out, h4, h100, h400]; rfl
        have h100' : (y % 100 == 0) = true := by rw [bne] at h100; simpa using h100
        go_enter Tryz.func136, Tryz.ntmps136
        go_wp2_with fail
        go_ret
        exact ⟨ret_bool F.out.symm, rfl⟩
      · have F : Hid (leapB y = true) := by show _ = _; rw [HL.out, h4, h100, h400]; rfl
        go_enter Tryz.func136, Tryz.ntmps136
        go_wp2_with fail
        go_ret
        exact ⟨ret_bool F.out.symm, rfl⟩
    · have F : Hid (leapB y = true) := by show _ = _; rw [HL.out, h4, h100]; rfl
      go_enter Tryz.func136, Tryz.ntmps136
      go_wp2_with fail
      go_ret
      exact ⟨ret_bool F.out.symm, rfl⟩
theorem refLeap_any (y : Int) (w : World) (h0 : 0 ≤ y) (h1 : y ≤ 10000) : Calls Tryz.prog 117 #[.int .i64 y] w fun e w' => e = .returned (.bool (leapB y)) ∧ w = w' := by
  have HL : Hid (leapB y = (y % 4 == 0 && (y % 100 != 0 || y % 400 == 0))) := rfl
  cases h4 : (y % 4 == 0)
  · have F : Hid (leapB y = false) := by show _ = _; rw [HL.out, h4]; rfl
    go_enter Tryz.func117, Tryz.ntmps117
    go_wp2_with fail
    go_ret
    exact ⟨ret_bool F.out.symm, rfl⟩
  · cases h100 : (y % 100 != 0)
    · cases h400 : (y % 400 == 0)
      · have F : Hid (leapB y = false) := by show _ = _; rw [HL.out, h4, h100, h400]; rfl
        go_enter Tryz.func117, Tryz.ntmps117
        go_wp2_with fail
        go_ret
        exact ⟨ret_bool F.out.symm, rfl⟩
      · have F : Hid (leapB y = true) := by show _ = _; rw [HL.out, h4, h100, h400]; rfl
        go_enter Tryz.func117, Tryz.ntmps117
        go_wp2_with fail
        go_ret
        exact ⟨ret_bool F.out.symm, rfl⟩
    · have F : Hid (leapB y = true) := by show _ = _; rw [HL.out, h4, h100]; rfl
      go_enter Tryz.func117, Tryz.ntmps117
      go_wp2_with fail
      go_ret
      exact ⟨ret_bool F.out.symm, rfl⟩
theorem dvalid_any (n : Int) (w : World) : Calls Tryz.prog 127 #[.int .i64 n] w fun e w' => e = .returned (.bool (dateB n)) ∧ w = w' := by
  cases d1 : decide (-25567 ≤ n)
  · have F : Hid (dateB n = false) := by show _ = _; unfold dateB; rw [d1]; rfl
    go_enter Tryz.func127, Tryz.ntmps127
    go_wp2_with fail
    go_ret
    exact ⟨ret_bool F.out.symm, rfl⟩
  · have F : Hid (dateB n = decide (n ≤ 84005)) := by show _ = _; unfold dateB; rw [d1]; rfl
    go_enter Tryz.func127, Tryz.ntmps127
    go_wp2_with fail
    go_ret
    exact ⟨ret_bool F.out.symm, rfl⟩
theorem refDvalid_any (n : Int) (w : World) : Calls Tryz.prog 70 #[.int .i64 n] w fun e w' => e = .returned (.bool (dateB n)) ∧ w = w' := by
  cases d1 : decide (-25567 ≤ n)
  · have F : Hid (dateB n = false) := by show _ = _; unfold dateB; rw [d1]; rfl
    go_enter Tryz.func70, Tryz.ntmps70
    go_wp2_with fail
    go_ret
    exact ⟨ret_bool F.out.symm, rfl⟩
  · have F : Hid (dateB n = decide (n ≤ 84005)) := by show _ = _; unfold dateB; rw [d1]; rfl
    go_enter Tryz.func70, Tryz.ntmps70
    go_wp2_with fail
    go_ret
    exact ⟨ret_bool F.out.symm, rfl⟩
theorem begin_any (y : Int) (w : World) (h0 : 1 ≤ y) (h1 : y ≤ 10000) : Calls Tryz.prog 125 #[.int .i64 y] w fun e w' => e = .returned (.int .i64 (beginY y)) ∧ w = w' := by
  have F : Hid (beginY y = 365 * (y - 1) + (y - 1) / 4 - (y - 1) / 100 + (y - 1) / 400 - 719162) := rfl
  go_enter Tryz.func125, Tryz.ntmps125
  go_wp2_with fail
  go_ret
  exact ⟨ret_int F.out.symm, rfl⟩
def mdays : Array Value := #[.int .i64 31, .int .i64 28, .int .i64 31, .int .i64 30, .int .i64 31, .int .i64 30, .int .i64 31, .int .i64 31, .int .i64 30, .int .i64 31, .int .i64 30, .int .i64 31]
theorem month_cases {p : Int → Prop} (h : p 1 ∧ p 2 ∧ p 3 ∧ p 4 ∧ p 5 ∧ p 6 ∧ p 7 ∧ p 8 ∧ p 9 ∧ p 10 ∧ p 11 ∧ p 12) : ∀ m, 1 ≤ m → m ≤ 12 → p m := by
  obtain ⟨h1, h2, h3, h4, h5, h6, h7, h8, h9, h10, h11, h12⟩ := h
  intro m a b
  obtain rfl | rfl | rfl | rfl | rfl | rfl | rfl | rfl | rfl | rfl | rfl | rfl : m = 1 ∨ m = 2 ∨ m = 3 ∨ m = 4 ∨ m = 5 ∨ m = 6 ∨ m = 7 ∨ m = 8 ∨ m = 9 ∨ m = 10 ∨ m = 11 ∨ m = 12 := by omega
  all_goals assumption
theorem run_ix0 (w : World) : (Instr.index 177 (.agg #[.int .i64 31, .int .i64 28, .int .i64 31, .int .i64 30, .int .i64 31, .int .i64 30, .int .i64 31, .int .i64 31, .int .i64 30, .int .i64 31, .int .i64 30, .int .i64 31]) (.int .i64 0)).run Tryz.prog w = .ok (.int .i64 31) w := by kernel_rfl
theorem run_ix1 (w : World) : (Instr.index 177 (.agg #[.int .i64 31, .int .i64 28, .int .i64 31, .int .i64 30, .int .i64 31, .int .i64 30, .int .i64 31, .int .i64 31, .int .i64 30, .int .i64 31, .int .i64 30, .int .i64 31]) (.int .i64 1)).run Tryz.prog w = .ok (.int .i64 28) w := by kernel_rfl
theorem run_ix2 (w : World) : (Instr.index 177 (.agg #[.int .i64 31, .int .i64 28, .int .i64 31, .int .i64 30, .int .i64 31, .int .i64 30, .int .i64 31, .int .i64 31, .int .i64 30, .int .i64 31, .int .i64 30, .int .i64 31]) (.int .i64 2)).run Tryz.prog w = .ok (.int .i64 31) w := by kernel_rfl
theorem run_ix3 (w : World) : (Instr.index 177 (.agg #[.int .i64 31, .int .i64 28, .int .i64 31, .int .i64 30, .int .i64 31, .int .i64 30, .int .i64 31, .int .i64 31, .int .i64 30, .int .i64 31, .int .i64 30, .int .i64 31]) (.int .i64 3)).run Tryz.prog w = .ok (.int .i64 30) w := by kernel_rfl
theorem run_ix4 (w : World) : (Instr.index 177 (.agg #[.int .i64 31, .int .i64 28, .int .i64 31, .int .i64 30, .int .i64 31, .int .i64 30, .int .i64 31, .int .i64 31, .int .i64 30, .int .i64 31, .int .i64 30, .int .i64 31]) (.int .i64 4)).run Tryz.prog w = .ok (.int .i64 31) w := by kernel_rfl
theorem run_ix5 (w : World) : (Instr.index 177 (.agg #[.int .i64 31, .int .i64 28, .int .i64 31, .int .i64 30, .int .i64 31, .int .i64 30, .int .i64 31, .int .i64 31, .int .i64 30, .int .i64 31, .int .i64 30, .int .i64 31]) (.int .i64 5)).run Tryz.prog w = .ok (.int .i64 30) w := by kernel_rfl
theorem run_ix6 (w : World) : (Instr.index 177 (.agg #[.int .i64 31, .int .i64 28, .int .i64 31, .int .i64 30, .int .i64 31, .int .i64 30, .int .i64 31, .int .i64 31, .int .i64 30, .int .i64 31, .int .i64 30, .int .i64 31]) (.int .i64 6)).run Tryz.prog w = .ok (.int .i64 31) w := by kernel_rfl
theorem run_ix7 (w : World) : (Instr.index 177 (.agg #[.int .i64 31, .int .i64 28, .int .i64 31, .int .i64 30, .int .i64 31, .int .i64 30, .int .i64 31, .int .i64 31, .int .i64 30, .int .i64 31, .int .i64 30, .int .i64 31]) (.int .i64 7)).run Tryz.prog w = .ok (.int .i64 31) w := by kernel_rfl
theorem run_ix8 (w : World) : (Instr.index 177 (.agg #[.int .i64 31, .int .i64 28, .int .i64 31, .int .i64 30, .int .i64 31, .int .i64 30, .int .i64 31, .int .i64 31, .int .i64 30, .int .i64 31, .int .i64 30, .int .i64 31]) (.int .i64 8)).run Tryz.prog w = .ok (.int .i64 30) w := by kernel_rfl
theorem run_ix9 (w : World) : (Instr.index 177 (.agg #[.int .i64 31, .int .i64 28, .int .i64 31, .int .i64 30, .int .i64 31, .int .i64 30, .int .i64 31, .int .i64 31, .int .i64 30, .int .i64 31, .int .i64 30, .int .i64 31]) (.int .i64 9)).run Tryz.prog w = .ok (.int .i64 31) w := by kernel_rfl
theorem run_ix10 (w : World) : (Instr.index 177 (.agg #[.int .i64 31, .int .i64 28, .int .i64 31, .int .i64 30, .int .i64 31, .int .i64 30, .int .i64 31, .int .i64 31, .int .i64 30, .int .i64 31, .int .i64 30, .int .i64 31]) (.int .i64 10)).run Tryz.prog w = .ok (.int .i64 30) w := by kernel_rfl
theorem run_ix11 (w : World) : (Instr.index 177 (.agg #[.int .i64 31, .int .i64 28, .int .i64 31, .int .i64 30, .int .i64 31, .int .i64 30, .int .i64 31, .int .i64 31, .int .i64 30, .int .i64 31, .int .i64 30, .int .i64 31]) (.int .i64 11)).run Tryz.prog w = .ok (.int .i64 31) w := by kernel_rfl
set_option maxRecDepth 100000 in
set_option maxHeartbeats 4000000 in
theorem days_in' (y : Int) (hy : 1900 ≤ y ∧ y ≤ 2199) : ∀ m, 1 ≤ m → m ≤ 12 → (Hid (dayM y m = if m = 2 then 28 + lpI y else mtab m) → ∀ w : World, Calls Tryz.prog 124 #[.int .i64 y, .int .i64 m] w fun e w' => e = .returned (.int .i64 (dayM y m)) ∧ Below w.heap.size w w') := by
  have y1 : decide (y < 1900) = false := by rw [decide_eq_false_iff_not]; omega
  have y2 : decide (2199 < y) = false := by rw [decide_eq_false_iff_not]; omega
  have HLP : Hid (∀ w, Calls Tryz.prog 136 #[.int .i64 y] w fun e w' => e = .returned (.bool (leapB y)) ∧ w = w') := fun w => leap_any y w (by omega) (by omega)
  have HI : Hid (lpI y = if leapB y = true then 1 else 0) := rfl
  generalize leapB y = L at *
  clear hy
  refine month_cases ?_
  refine ⟨?_, ?_, ?_, ?_, ?_, ?_, ?_, ?_, ?_, ?_, ?_, ?_⟩
  · intro F w
    clear HI HLP
    go_enter Tryz.func124, Tryz.ntmps124
    go_wp2_with fail
    go_ret
    exact ⟨ret_int (by rw [F.out]; rfl), (Below.refl _ w).alloc (Nat.le_refl _) _⟩
  · intro F w
    cases L
    · go_enter Tryz.func124, Tryz.ntmps124
      go_wp2_with fail
      refine (HLP.out _).mono ?_
      rintro e wx ⟨rfl, rfl⟩
      go_wp2_with fail
      go_ret
      exact ⟨ret_int (by rw [F.out, HI.out]; rfl), (Below.refl _ w).alloc (Nat.le_refl _) _⟩
    · go_enter Tryz.func124, Tryz.ntmps124
      go_wp2_with fail
      refine (HLP.out _).mono ?_
      rintro e wx ⟨rfl, rfl⟩
      go_wp2_with fail
      go_ret
      exact ⟨ret_int (by rw [F.out, HI.out]; rfl), (Below.refl _ w).alloc (Nat.le_refl _) _⟩
  · intro F w
    clear HI HLP
    go_enter Tryz.func124, Tryz.ntmps124
    go_wp2_with fail
    go_ret
    exact ⟨ret_int (by rw [F.out]; rfl), (Below.refl _ w).alloc (Nat.le_refl _) _⟩
  · intro F w
    clear HI HLP
    go_enter Tryz.func124, Tryz.ntmps124
    go_wp2_with fail
    go_ret
    exact ⟨ret_int (by rw [F.out]; rfl), (Below.refl _ w).alloc (Nat.le_refl _) _⟩
  · intro F w
    clear HI HLP
    go_enter Tryz.func124, Tryz.ntmps124
    go_wp2_with fail
    go_ret
    exact ⟨ret_int (by rw [F.out]; rfl), (Below.refl _ w).alloc (Nat.le_refl _) _⟩
  · intro F w
    clear HI HLP
    go_enter Tryz.func124, Tryz.ntmps124
    go_wp2_with fail
    go_ret
    exact ⟨ret_int (by rw [F.out]; rfl), (Below.refl _ w).alloc (Nat.le_refl _) _⟩
  · intro F w
    clear HI HLP
    go_enter Tryz.func124, Tryz.ntmps124
    go_wp2_with fail
    go_ret
    exact ⟨ret_int (by rw [F.out]; rfl), (Below.refl _ w).alloc (Nat.le_refl _) _⟩
  · intro F w
    clear HI HLP
    go_enter Tryz.func124, Tryz.ntmps124
    go_wp2_with fail
    go_ret
    exact ⟨ret_int (by rw [F.out]; rfl), (Below.refl _ w).alloc (Nat.le_refl _) _⟩
  · intro F w
    clear HI HLP
    go_enter Tryz.func124, Tryz.ntmps124
    go_wp2_with fail
    go_ret
    exact ⟨ret_int (by rw [F.out]; rfl), (Below.refl _ w).alloc (Nat.le_refl _) _⟩
  · intro F w
    clear HI HLP
    go_enter Tryz.func124, Tryz.ntmps124
    go_wp2_with fail
    go_ret
    exact ⟨ret_int (by rw [F.out]; rfl), (Below.refl _ w).alloc (Nat.le_refl _) _⟩
  · intro F w
    clear HI HLP
    go_enter Tryz.func124, Tryz.ntmps124
    go_wp2_with fail
    go_ret
    exact ⟨ret_int (by rw [F.out]; rfl), (Below.refl _ w).alloc (Nat.le_refl _) _⟩
  · intro F w
    clear HI HLP
    go_enter Tryz.func124, Tryz.ntmps124
    go_wp2_with fail
    go_ret
    exact ⟨ret_int (by rw [F.out]; rfl), (Below.refl _ w).alloc (Nat.le_refl _) _⟩
theorem days_in (y : Int) (hy : 1900 ≤ y ∧ y ≤ 2199) (m : Int) (h1 : 1 ≤ m) (h2 : m ≤ 12) (w : World) : Calls Tryz.prog 124 #[.int .i64 y, .int .i64 m] w fun e w' => e = .returned (.int .i64 (dayM y m)) ∧ Below w.heap.size w w' := days_in' y hy m h1 h2 (dayM_in hy ⟨h1, h2⟩) w
set_option maxRecDepth 100000 in
set_option maxHeartbeats 4000000 in
theorem refDays_in' (y : Int) (hy : 1900 ≤ y ∧ y ≤ 2199) : ∀ m, 1 ≤ m → m ≤ 12 → (Hid (dayM y m = if m = 2 then 28 + lpI y else mtab m) → ∀ w : World, Calls Tryz.prog 116 #[.int .i64 y, .int .i64 m] w fun e w' => e = .returned (.int .i64 (dayM y m)) ∧ w = w') := by
  have y1 : decide (y < 1900) = false := by rw [decide_eq_false_iff_not]; omega
  have y2 : decide (2199 < y) = false := by rw [decide_eq_false_iff_not]; omega
  have HLP : Hid (∀ w, Calls Tryz.prog 117 #[.int .i64 y] w fun e w' => e = .returned (.bool (leapB y)) ∧ w = w') := fun w => refLeap_any y w (by omega) (by omega)
  have HI : Hid (lpI y = if leapB y = true then 1 else 0) := rfl
  generalize leapB y = L at *
  clear hy
  refine month_cases ?_
  refine ⟨?_, ?_, ?_, ?_, ?_, ?_, ?_, ?_, ?_, ?_, ?_, ?_⟩
  · intro F w
    clear HI HLP
    have hi := run_ix0
    go_enter Tryz.func116, Tryz.ntmps116
    go_wp2_with fail
    go_ret
    exact ⟨ret_int (by rw [F.out]; rfl), rfl⟩
  · intro F w
    cases L
    · go_enter Tryz.func116, Tryz.ntmps116
      have hi := run_ix1
      go_wp2_with fail
      refine (HLP.out _).mono ?_
      rintro e wx ⟨rfl, rfl⟩
      go_wp2_with fail
      go_ret
      exact ⟨ret_int (by rw [F.out, HI.out]; rfl), rfl⟩
    · go_enter Tryz.func116, Tryz.ntmps116
      go_wp2_with fail
      refine (HLP.out _).mono ?_
      rintro e wx ⟨rfl, rfl⟩
      go_wp2_with fail
      go_ret
      exact ⟨ret_int (by rw [F.out, HI.out]; rfl), rfl⟩
  · intro F w
    clear HI HLP
    have hi := run_ix2
    go_enter Tryz.func116, Tryz.ntmps116
    go_wp2_with fail
    go_ret
    exact ⟨ret_int (by rw [F.out]; rfl), rfl⟩
  · intro F w
    clear HI HLP
    have hi := run_ix3
    go_enter Tryz.func116, Tryz.ntmps116
    go_wp2_with fail
    go_ret
    exact ⟨ret_int (by rw [F.out]; rfl), rfl⟩
  · intro F w
    clear HI HLP
    have hi := run_ix4
    go_enter Tryz.func116, Tryz.ntmps116
    go_wp2_with fail
    go_ret
    exact ⟨ret_int (by rw [F.out]; rfl), rfl⟩
  · intro F w
    clear HI HLP
    have hi := run_ix5
    go_enter Tryz.func116, Tryz.ntmps116
    go_wp2_with fail
    go_ret
    exact ⟨ret_int (by rw [F.out]; rfl), rfl⟩
  · intro F w
    clear HI HLP
    have hi := run_ix6
    go_enter Tryz.func116, Tryz.ntmps116
    go_wp2_with fail
    go_ret
    exact ⟨ret_int (by rw [F.out]; rfl), rfl⟩
  · intro F w
    clear HI HLP
    have hi := run_ix7
    go_enter Tryz.func116, Tryz.ntmps116
    go_wp2_with fail
    go_ret
    exact ⟨ret_int (by rw [F.out]; rfl), rfl⟩
  · intro F w
    clear HI HLP
    have hi := run_ix8
    go_enter Tryz.func116, Tryz.ntmps116
    go_wp2_with fail
    go_ret
    exact ⟨ret_int (by rw [F.out]; rfl), rfl⟩
  · intro F w
    clear HI HLP
    have hi := run_ix9
    go_enter Tryz.func116, Tryz.ntmps116
    go_wp2_with fail
    go_ret
    exact ⟨ret_int (by rw [F.out]; rfl), rfl⟩
  · intro F w
    clear HI HLP
    have hi := run_ix10
    go_enter Tryz.func116, Tryz.ntmps116
    go_wp2_with fail
    go_ret
    exact ⟨ret_int (by rw [F.out]; rfl), rfl⟩
  · intro F w
    clear HI HLP
    have hi := run_ix11
    go_enter Tryz.func116, Tryz.ntmps116
    go_wp2_with fail
    go_ret
    exact ⟨ret_int (by rw [F.out]; rfl), rfl⟩
theorem refDays_in (y : Int) (hy : 1900 ≤ y ∧ y ≤ 2199) (m : Int) (h1 : 1 ≤ m) (h2 : m ≤ 12) (w : World) : Calls Tryz.prog 116 #[.int .i64 y, .int .i64 m] w fun e w' => e = .returned (.int .i64 (dayM y m)) ∧ w = w' := refDays_in' y hy m h1 h2 (dayM_in hy ⟨h1, h2⟩) w
set_option maxRecDepth 100000 in
set_option maxHeartbeats 4000000 in
theorem days_any (y m : Int) (w : World) : Calls Tryz.prog 124 #[.int .i64 y, .int .i64 m] w fun e w' => e = .returned (.int .i64 (dayM y m)) ∧ Below w.heap.size w w' := by
  by_cases hc : 1900 ≤ y ∧ y ≤ 2199 ∧ 1 ≤ m ∧ m ≤ 12
  · exact days_in y ⟨hc.1, hc.2.1⟩ m hc.2.2.1 hc.2.2.2 w
  · have F := Lib.hid (dayM_out hc)
    have hs : (decide (y < 1900) = true) ∨ (decide (y < 1900) = false ∧ decide (2199 < y) = true) ∨ (decide (y < 1900) = false ∧ decide (2199 < y) = false ∧ decide (m < 1) = true) ∨ (decide (y < 1900) = false ∧ decide (2199 < y) = false ∧ decide (m < 1) = false ∧ decide (12 < m) = true) := by
      simp only [decide_eq_true_eq, decide_eq_false_iff_not]
      omega
    clear hc
    rcases hs with h | ⟨h, h'⟩ | ⟨h, h', h''⟩ | ⟨h, h', h'', h'''⟩
    all_goals
      go_enter Tryz.func124, Tryz.ntmps124
      go_wp2_with fail
      go_ret
      exact ⟨ret_int F.out.symm, Below.refl _ _⟩
set_option maxRecDepth 100000 in
set_option maxHeartbeats 4000000 in
theorem refDays_any (y m : Int) (w : World) : Calls Tryz.prog 116 #[.int .i64 y, .int .i64 m] w fun e w' => e = .returned (.int .i64 (dayM y m)) ∧ w = w' := by
  by_cases hc : 1900 ≤ y ∧ y ≤ 2199 ∧ 1 ≤ m ∧ m ≤ 12
  · exact refDays_in y ⟨hc.1, hc.2.1⟩ m hc.2.2.1 hc.2.2.2 w
  · have F := Lib.hid (dayM_out hc)
    have hs : (decide (m < 1) = true) ∨ (decide (m < 1) = false ∧ decide (12 < m) = true) ∨ (decide (m < 1) = false ∧ decide (12 < m) = false ∧ decide (y < 1900) = true) ∨ (decide (m < 1) = false ∧ decide (12 < m) = false ∧ decide (y < 1900) = false ∧ decide (2199 < y) = true) := by
      simp only [decide_eq_true_eq, decide_eq_false_iff_not]
      omega
    clear hc
    rcases hs with h | ⟨h, h'⟩ | ⟨h, h', h''⟩ | ⟨h, h', h'', h'''⟩
    all_goals
      go_enter Tryz.func116, Tryz.ntmps116
      go_wp2_with fail
      go_ret
      exact ⟨ret_int F.out.symm, rfl⟩
end Go.Proofs.YtcmmppkmkejniaaGreatDoor
namespace Go.Proofs.YtcmmppkmkejniaaGreatDoor
open Go.RowKit
set_option linter.unusedVariables false
def ofR (y m d : Int) : Value := if dayOk y m d = true then .tuple #[.int .i64 (dayN y m d), .int .i64 0] else .tuple #[.int .i64 0, .int .i64 2]
theorem ofR_no {y m d : Int} (h : ¬ (1 ≤ d ∧ d ≤ dayM y m)) : ofR y m d = .tuple #[.int .i64 0, .int .i64 2] := by
  unfold ofR; rw [if_neg (fun h' => h (dayOk_iff.1 h'))]
theorem ofR_yes {y m d : Int} (h : 1 ≤ d ∧ d ≤ dayM y m) : ofR y m d = .tuple #[.int .i64 (dayN y m d), .int .i64 0] := by
  unfold ofR; rw [if_pos (dayOk_iff.2 h)]
theorem cumM_next (y : Int) (q : Nat) : cumM y (q + 1) = cumM y q + dayM y ((q : Int) + 1) := rfl
set_option maxRecDepth 100000 in
set_option maxHeartbeats 2000000 in
theorem of_any (y m d : Int) (w : World) : Calls Tryz.prog 106 #[.int .i64 y, .int .i64 m, .int .i64 d] w fun e w' => e = .returned (ofR y m d) ∧ Below w.heap.size w w' := by
  by_cases h1 : 1 ≤ d
  · have g1 : decide (d < 1) = false := by rw [decide_eq_false_iff_not]; omega
    have HDA := Lib.hid (days_any y m w)
    by_cases h2 : d ≤ dayM y m
    · have F := Lib.hid (ofR_yes ⟨h1, h2⟩)
      have g2 : decide (dayM y m < d) = false := by rw [decide_eq_false_iff_not]; omega
      obtain ⟨hy, hm, _, hd31⟩ := dayOk_in (dayOk_iff.2 ⟨h1, h2⟩)
      have hB := beginY_bd (y := y) (by omega) (by omega)
      have HND : Hid (dayN y m d = beginY y + cumM y (m - 1).toNat + d - 1) := rfl
      have HBE : Hid (∀ w, Calls Tryz.prog 125 #[.int .i64 y] w fun e w' => e = .returned (.int .i64 (beginY y)) ∧ w = w') := fun w => begin_any y w (by omega) (by omega)
      generalize dayM y m = X at *
      generalize beginY y = B at *
      have hB1 := hB.1
      have hB2 := hB.2
      have hm1 := hm.1
      have hm2 := hm.2
      clear hB hm hy h2
      go_enter Tryz.func106, Tryz.ntmps106
      go_wp2_with fail
      refine HDA.out.mono ?_
      rintro e w1 ⟨rfl, hb1⟩
      have HB1 := Lib.hid hb1
      clear hb1
      go_wp2_with fail
      refine (HBE.out _).mono ?_
      rintro e wx ⟨rfl, rfl⟩
      go_wp2_with fail
      go_loopw [8, 9] (fun n k wr => ∃ q : Nat, (q : Int) + 1 ≤ m ∧ k = .int .i64 ((q : Int) + 1) ∧ n = .int .i64 (B + d - 1 + cumM y q) ∧ Below w.heap.size w wr) (fun _ k _ => (m - intOf k).toNat)
      case atStart => exact ⟨0, by omega, rfl, by rw [show cumM y 0 = 0 from rfl, Int.add_zero], HB1.out⟩
      case round =>
        obtain ⟨q, hq, rfl, rfl, hbr⟩ := hrel
        have HBR := Lib.hid hbr
        clear hbr
        have hcb := cumM_bd y q
        have hc1 := hcb.1
        have hc2 : cumM y q ≤ 400 := by omega
        have G := Lib.hid (cumM_next y q)
        have hdb := dayM_bd y ((q : Int) + 1)
        have hd1 := hdb.1
        have hd2 := hdb.2
        have HDQ : Hid (∀ w, Calls Tryz.prog 124 #[.int .i64 y, .int .i64 ((q : Int) + 1)] w fun e w' => e = .returned (.int .i64 (dayM y ((q : Int) + 1))) ∧ Below w.heap.size w w') := days_any y ((q : Int) + 1)
        clear hcb hdb
        by_cases hlt : (q : Int) + 1 < m
        · have k1 : decide ((q : Int) + 1 < m) = true := by rw [decide_eq_true_eq]; exact hlt
          generalize cumM y q = C at *
          generalize dayM y ((q : Int) + 1) = D at *
          go_wp2_with fail
          refine (HDQ.out _).mono ?_
          rintro e w2 ⟨rfl, hb2⟩
          have HB2 := Lib.hid (below_two HBR.out hb2)
          clear hb2
          go_wp2_with fail
          go_roundw
          case rel => exact ⟨q + 1, by omega, by go_num, by rw [G.out, ← Int.add_assoc], HB2.out⟩
          case measure => simp [intOf]; omega
        · have k1 : decide ((q : Int) + 1 < m) = false := by rw [decide_eq_false_iff_not]; exact hlt
          have E : Hid (dayN y m d = B + d - 1 + cumM y q) := by
            show _ = _
            rw [HND.out, show (m - 1).toNat = q by omega]
            omega
          generalize cumM y q = C at *
          go_wp2_with fail
          go_ret2
          exact ⟨by rw [F.out, E.out]; rfl, HBR.out⟩
    · have F := Lib.hid (ofR_no (fun h => h2 h.2))
      have g2 : decide (dayM y m < d) = true := by rw [decide_eq_true_eq]; omega
      generalize dayM y m = X at *
      clear h2
      go_enter Tryz.func106, Tryz.ntmps106
      go_wp2_with fail
      refine HDA.out.mono ?_
      rintro e w1 ⟨rfl, hb1⟩
      go_wp2_with fail
      go_ret2
      exact ⟨by rw [F.out]; rfl, hb1⟩
  · have g1 : decide (d < 1) = true := by rw [decide_eq_true_eq]; omega
    have F := Lib.hid (ofR_no (y := y) (m := m) (fun h => h1 h.1))
    clear h1
    go_enter Tryz.func106, Tryz.ntmps106
    go_wp2_with fail
    go_ret2
    exact ⟨by rw [F.out]; rfl, Below.refl _ _⟩
set_option maxRecDepth 100000 in
set_option maxHeartbeats 2000000 in
theorem refOf_any (y m d : Int) (w : World) : Calls Tryz.prog 92 #[.int .i64 y, .int .i64 m, .int .i64 d] w fun e w' => e = .returned (ofR y m d) ∧ w = w' := by
  by_cases h1 : 1 ≤ d
  · have g1 : decide (d < 1) = false := by rw [decide_eq_false_iff_not]; omega
    have HDA := Lib.hid (refDays_any y m w)
    by_cases h2 : d ≤ dayM y m
    · have F := Lib.hid (ofR_yes ⟨h1, h2⟩)
      have g2 : decide (dayM y m < d) = false := by rw [decide_eq_false_iff_not]; omega
      obtain ⟨hy, hm, _, hd31⟩ := dayOk_in (dayOk_iff.2 ⟨h1, h2⟩)
      have HND : Hid (dayN y m d = beginY y + cumM y (m - 1).toNat + d - 1) := rfl
      have HB0 : Hid (beginY 1900 = -25567) := by show _ = _; decide
      generalize dayM y m = X at *
      have hm1 := hm.1
      have hm2 := hm.2
      have hy1 := hy.1
      have hy2 := hy.2
      clear hm hy h2
      go_enter Tryz.func92, Tryz.ntmps92
      go_wp2_with fail
      refine HDA.out.mono ?_
      rintro e wx ⟨rfl, rfl⟩
      go_wp2_with fail
      go_loop [8, 9] (fun n k => ∃ a : Int, 1900 ≤ a ∧ a ≤ y ∧ k = .int .i64 a ∧ n = .int .i64 (beginY a)) (fun _ k => (y - intOf k).toNat)
      case atStart => exact ⟨1900, by omega, hy1, rfl, by rw [HB0.out]⟩
      case round =>
        obtain ⟨a, ha1, ha2, rfl, rfl⟩ := hrel
        have hb := beginY_bd (y := a) (by omega) (by omega)
        have hb1 := hb.1
        have hb2 := hb.2
        clear hb
        by_cases hlt : a < y
        · have k1 : decide (a < y) = true := by rw [decide_eq_true_eq]; exact hlt
          have HLP := Lib.hid (refLeap_any a w (by omega) (by omega))
          have G := Lib.hid (beginY_succ a)
          have HI : Hid (lpI a = if leapB a = true then 1 else 0) := rfl
          generalize beginY a = B at *
          generalize lpI a = I at *
          cases hL : leapB a
          · have J : Hid (I = 0) := by show _ = _; rw [HI.out, hL]; rfl
            rw [hL] at HLP
            clear hL HI
            go_wp2_with fail
            refine HLP.out.mono ?_
            rintro e wx ⟨rfl, rfl⟩
            go_wp2_with fail
            go_round
            case rel => exact ⟨a + 1, by omega, by omega, rfl, by rw [G.out, J.out]; go_num⟩
            case measure => simp [intOf]; omega
          · have J : Hid (I = 1) := by show _ = _; rw [HI.out, hL]; rfl
            rw [hL] at HLP
            clear hL HI
            go_wp2_with fail
            refine HLP.out.mono ?_
            rintro e wx ⟨rfl, rfl⟩
            go_wp2_with fail
            go_round
            case rel => exact ⟨a + 1, by omega, by omega, rfl, by rw [G.out, J.out]⟩
            case measure => simp [intOf]; omega
        · have k1 : decide (a < y) = false := by rw [decide_eq_false_iff_not]; exact hlt
          obtain rfl : a = y := by omega
          clear hlt
          generalize beginY a = B at *
          go_wp2_with fail
          go_loop [8, 10] (fun n k => ∃ q : Nat, (q : Int) + 1 ≤ m ∧ k = .int .i64 ((q : Int) + 1) ∧ n = .int .i64 (B + cumM a q)) (fun _ k => (m - intOf k).toNat)
          case atStart => exact ⟨0, by omega, rfl, by rw [show cumM a 0 = 0 from rfl, Int.add_zero]⟩
          case round =>
            obtain ⟨q, hq, rfl, rfl⟩ := hrel
            have hcb := cumM_bd a q
            have hc1 := hcb.1
            have hc2 : cumM a q ≤ 400 := by omega
            have G := Lib.hid (cumM_next a q)
            have hdb := dayM_bd a ((q : Int) + 1)
            have hd1 := hdb.1
            have hd2 := hdb.2
            have HDQ := Lib.hid (refDays_any a ((q : Int) + 1) w)
            clear hcb hdb
            by_cases hlt : (q : Int) + 1 < m
            · have k2 : decide ((q : Int) + 1 < m) = true := by rw [decide_eq_true_eq]; exact hlt
              generalize cumM a q = C at *
              generalize dayM a ((q : Int) + 1) = D at *
              go_wp2_with fail
              refine HDQ.out.mono ?_
              rintro e wx ⟨rfl, rfl⟩
              go_wp2_with fail
              go_round
              case rel => exact ⟨q + 1, by omega, by go_num, by rw [G.out, ← Int.add_assoc]⟩
              case measure => simp [intOf]; omega
            · have k2 : decide ((q : Int) + 1 < m) = false := by rw [decide_eq_false_iff_not]; exact hlt
              have E : Hid (dayN a m d = B + cumM a q + d - 1) := by
                show _ = _
                rw [HND.out, show (m - 1).toNat = q by omega]
              generalize cumM a q = C at *
              go_wp2_with fail
              go_ret2
              exact ⟨by rw [F.out, E.out]; rfl, rfl⟩
    · have F := Lib.hid (ofR_no (fun h => h2 h.2))
      have g2 : decide (dayM y m < d) = true := by rw [decide_eq_true_eq]; omega
      generalize dayM y m = X at *
      clear h2
      go_enter Tryz.func92, Tryz.ntmps92
      go_wp2_with fail
      refine HDA.out.mono ?_
      rintro e wx ⟨rfl, rfl⟩
      go_wp2_with fail
      go_ret2
      exact ⟨by rw [F.out]; rfl, rfl⟩
  · have g1 : decide (d < 1) = true := by rw [decide_eq_true_eq]; omega
    have F := Lib.hid (ofR_no (y := y) (m := m) (fun h => h1 h.1))
    clear h1
    go_enter Tryz.func92, Tryz.ntmps92
    go_wp2_with fail
    go_ret2
    exact ⟨by rw [F.out]; rfl, rfl⟩
end Go.Proofs.YtcmmppkmkejniaaGreatDoor
namespace Go.Proofs.YtcmmppkmkejniaaGreatDoor
open Go.RowKit
set_option linter.unusedVariables false
/-- what Civil returns -/
def CivSays (n : Int) (w : World) (e : Ending) (w' : World) : Prop := ∃ y m d : Int, e = .returned (.tuple #[.int .i64 y, .int .i64 m, .int .i64 d, .int .i64 0]) ∧ dayOk y m d = true ∧ dayN y m d = n ∧ Below w.heap.size w w'
theorem tdiv_366 (n : Int) : (0 ≤ n → n.tdiv 366 = n / 366) ∧ (n < 0 → 366 * n.tdiv 366 - 366 < n ∧ n ≤ 366 * n.tdiv 366) := by
  refine ⟨fun h => Int.tdiv_eq_ediv_of_nonneg h, fun h => ?_⟩
  have e : n.tdiv 366 = -((-n) / 366) := by
    have := Int.neg_tdiv (-n) 366
    rw [Int.neg_neg] at this
    rw [this, Int.tdiv_eq_ediv_of_nonneg (by omega)]
  rw [e]
  omega
theorem civ_first {n q : Int} (h1 : -25567 ≤ n) (h2 : n ≤ 84005) (h : (0 ≤ n ∧ q = n / 366) ∨ (n < 0 ∧ 366 * q - 366 < n ∧ n ≤ 366 * q)) : 1899 ≤ 1970 + q - 2 ∧ 1970 + q - 2 ≤ 2199 ∧ (1900 ≤ 1970 + q - 2 → beginY (1970 + q - 2) ≤ n) := by
  unfold beginY
  omega
theorem civ_last {y n : Int} (h : beginY y ≤ n) (h2 : n ≤ 84005) : y ≤ 2199 := by
  apply Classical.byContradiction
  intro hn
  have := beginY_mono (a := 2200) (b := y) (by omega)
  have e2 : beginY 2200 = 84006 := by decide
  omega
theorem civ_month {y n : Int} {q : Nat} (hy : 1900 ≤ y ∧ y ≤ 2199) (h1 : n < beginY (y + 1)) (hq : q ≤ 11) (h : dayM y ((q : Int) + 1) ≤ n - beginY y - cumM y q) : q + 1 ≤ 11 := by
  apply Classical.byContradiction
  intro hn
  obtain rfl : q = 11 := by omega
  have e1 := cumM_year hy
  have e2 := beginY_succ y
  have e3 : cumM y 12 = cumM y 11 + dayM y (((11 : Nat) : Int) + 1) := rfl
  omega
theorem civ_done {y n : Int} {q : Nat} (h0 : 0 ≤ n - beginY y - cumM y q) (h : ¬ dayM y ((q : Int) + 1) ≤ n - beginY y - cumM y q) : dayOk y ((q : Int) + 1) (n - beginY y - cumM y q + 1) = true ∧ dayN y ((q : Int) + 1) (n - beginY y - cumM y q + 1) = n := by
  refine ⟨dayOk_iff.2 ⟨by omega, by omega⟩, ?_⟩
  unfold dayN
  rw [show ((q : Int) + 1 - 1).toNat = q by omega]
  omega
set_option maxRecDepth 100000 in
set_option maxHeartbeats 4000000 in
theorem refCivil_yes (n : Int) (w : World) (h1 : -25567 ≤ n) (h2 : n ≤ 84005) : Calls Tryz.prog 118 #[.int .i64 n] w (CivSays n w) := by
  have HV := Lib.hid (refDvalid_any n w)
  have hv : dateB n = true := by unfold dateB; rw [decide_eq_true h1, decide_eq_true h2]; rfl
  rw [hv] at HV
  clear hv
  have HB0 : Hid (beginY 1900 = -25567) := by show _ = _; decide
  go_enter Tryz.func118, Tryz.ntmps118
  go_wp2_with fail
  refine HV.out.mono ?_
  rintro e wx ⟨rfl, rfl⟩
  go_wp2_with fail
  go_loop [6, 8] (fun v r => ∃ y : Int, v = .int .i64 y ∧ 1900 ≤ y ∧ y ≤ 2199 ∧ beginY y ≤ n ∧ r = .int .i64 (n - beginY y)) (fun v _ => (2200 - intOf v).toNat)
  case atStart => exact ⟨1900, rfl, by omega, by omega, by rw [HB0.out]; exact h1, by rw [HB0.out]; first | rfl | go_num⟩
  case round =>
    obtain ⟨y, rfl, hy1, hy2, hyb, rfl⟩ := hrel
    have HLP := Lib.hid (refLeap_any y w (by omega) (by omega))
    have G := Lib.hid (beginY_succ y)
    have HI : Hid (lpI y = if leapB y = true then 1 else 0) := rfl
    have HLS := Lib.hid (fun h => civ_last (y := y + 1) (n := n) h h2)
    have hbb := beginY_bd (y := y) (by omega) (by omega)
    have hbb1 := hbb.1
    have hbb2 := hbb.2
    have HMO : Hid (n < beginY (y + 1) → ∀ q : Nat, q ≤ 11 → dayM y ((q : Int) + 1) ≤ n - beginY y - cumM y q → q + 1 ≤ 11) := fun hl q hq h => civ_month ⟨by omega, hy2⟩ hl hq h
    have HDN : Hid (∀ q : Nat, 0 ≤ n - beginY y - cumM y q → ¬ dayM y ((q : Int) + 1) ≤ n - beginY y - cumM y q → dayOk y ((q : Int) + 1) (n - beginY y - cumM y q + 1) = true ∧ dayN y ((q : Int) + 1) (n - beginY y - cumM y q + 1) = n) := fun q h0 h => civ_done h0 h
    clear hbb
    generalize hBB : beginY (y + 1) = BB at *
    have HBB := Lib.hid hBB
    clear hBB
    generalize beginY y = B at *
    cases hL : leapB y
    · have J : Hid (BB = B + 365) := by show _ = _; rw [G.out, HI.out, hL]; simp; try omega
      rw [hL] at HLP
      clear hL HI G
      by_cases hgo : 365 ≤ n - B
      · have k1 : decide (365 ≤ n - B) = true := by rw [decide_eq_true_eq]; exact hgo
        have hle : B + 365 ≤ n := by omega
        have hy3 := HLS.out (by rw [J.out]; exact hle)
        go_wp2_with fail
        refine HLP.out.mono ?_
        rintro e wx ⟨rfl, rfl⟩
        go_wp2_with fail
        refine HLP.out.mono ?_
        rintro e wx ⟨rfl, rfl⟩
        go_wp2_with fail
        refine HLP.out.mono ?_
        rintro e wx ⟨rfl, rfl⟩
        go_wp2_with fail
        go_round
        case rel => exact ⟨y + 1, rfl, by omega, by omega, by rw [HBB.out, J.out]; exact hle, by rw [HBB.out, J.out]; exact congrArg (Value.int .i64) (by omega)⟩
        case measure => simp [intOf]; omega
      · have k1 : decide (365 ≤ n - B) = false := by rw [decide_eq_false_iff_not]; exact hgo
        have HMQ := Lib.hid (HMO.out (by rw [J.out]; omega))
        go_wp2_with fail
        refine HLP.out.mono ?_
        rintro e wx ⟨rfl, rfl⟩
        go_wp2_with fail
        refine HLP.out.mono ?_
        rintro e wx ⟨rfl, rfl⟩
        go_wp2_with fail
        go_loop [7, 8] (fun mv dv => ∃ q : Nat, q ≤ 11 ∧ mv = .int .i64 ((q : Int) + 1) ∧ dv = .int .i64 (n - B - cumM y q) ∧ 0 ≤ n - B - cumM y q) (fun mv _ => (13 - intOf mv).toNat)
        case atStart => exact ⟨0, by omega, rfl, by rw [show cumM y 0 = 0 from rfl, Int.sub_zero], by rw [show cumM y 0 = 0 from rfl]; omega⟩
        case round =>
          obtain ⟨q, hq, rfl, rfl, h0⟩ := hrel
          have hcb := cumM_bd y q
          have hc1 := hcb.1
          have hc2 : cumM y q ≤ 400 := by omega
          have G2 := Lib.hid (cumM_next y q)
          have hdb := dayM_bd y ((q : Int) + 1)
          have hd1 := hdb.1
          have hd2 := hdb.2
          have HDA := Lib.hid (refDays_any y ((q : Int) + 1) w)
          have HM := Lib.hid (HMQ.out q hq)
          have HD := Lib.hid (HDN.out q h0)
          clear hcb hdb
          generalize cumM y q = C at *
          generalize dayM y ((q : Int) + 1) = D at *
          by_cases hgo : D ≤ n - B - C
          · have k3 : decide (D ≤ n - B - C) = true := by rw [decide_eq_true_eq]; exact hgo
            have hq2 := HM.out hgo
            go_wp2_with fail
            refine HDA.out.mono ?_
            rintro e wx ⟨rfl, rfl⟩
            go_wp2_with fail
            refine HDA.out.mono ?_
            rintro e wx ⟨rfl, rfl⟩
            go_wp2_with fail
            go_round
            case rel => exact ⟨q + 1, by omega, by go_num, by rw [G2.out]; exact congrArg (Value.int .i64) (by omega), by rw [G2.out]; omega⟩
            case measure => simp [intOf]; omega
          · have k3 : decide (D ≤ n - B - C) = false := by rw [decide_eq_false_iff_not]; exact hgo
            have hd := HD.out (by omega)
            have HDD := Lib.hid hd
            clear hd
            go_wp2_with fail
            refine HDA.out.mono ?_
            rintro e wx ⟨rfl, rfl⟩
            go_wp2_with fail
            refine bodyPost_ret (v := .tuple #[.int .i64 y, .int .i64 ((q : Int) + 1), .int .i64 (n - B - C + 1), .int .i64 0]) ?_ rfl ⟨y, (q : Int) + 1, n - B - C + 1, rfl, HDD.out.1, HDD.out.2, Below.refl _ _⟩
            simp [results, Tryz.results118, go_sem]
    · have J : Hid (BB = B + 366) := by show _ = _; rw [G.out, HI.out, hL]; simp; try omega
      rw [hL] at HLP
      clear hL HI G
      by_cases hgo : 366 ≤ n - B
      · have k1 : decide (366 ≤ n - B) = true := by rw [decide_eq_true_eq]; exact hgo
        have hle : B + 366 ≤ n := by omega
        have hy3 := HLS.out (by rw [J.out]; exact hle)
        go_wp2_with fail
        refine HLP.out.mono ?_
        rintro e wx ⟨rfl, rfl⟩
        go_wp2_with fail
        refine HLP.out.mono ?_
        rintro e wx ⟨rfl, rfl⟩
        go_wp2_with fail
        go_round
        case rel => exact ⟨y + 1, rfl, by omega, by omega, by rw [HBB.out, J.out]; exact hle, by rw [HBB.out, J.out]; exact congrArg (Value.int .i64) (by omega)⟩
        case measure => simp [intOf]; omega
      · have k1 : decide (366 ≤ n - B) = false := by rw [decide_eq_false_iff_not]; exact hgo
        have HMQ := Lib.hid (HMO.out (by rw [J.out]; omega))
        go_wp2_with fail
        refine HLP.out.mono ?_
        rintro e wx ⟨rfl, rfl⟩
        go_wp2_with fail
        refine HLP.out.mono ?_
        rintro e wx ⟨rfl, rfl⟩
        go_wp2_with fail
        go_loop [7, 8] (fun mv dv => ∃ q : Nat, q ≤ 11 ∧ mv = .int .i64 ((q : Int) + 1) ∧ dv = .int .i64 (n - B - cumM y q) ∧ 0 ≤ n - B - cumM y q) (fun mv _ => (13 - intOf mv).toNat)
        case atStart => exact ⟨0, by omega, rfl, by rw [show cumM y 0 = 0 from rfl, Int.sub_zero], by rw [show cumM y 0 = 0 from rfl]; omega⟩
        case round =>
          obtain ⟨q, hq, rfl, rfl, h0⟩ := hrel
          have hcb := cumM_bd y q
          have hc1 := hcb.1
          have hc2 : cumM y q ≤ 400 := by omega
          have G2 := Lib.hid (cumM_next y q)
          have hdb := dayM_bd y ((q : Int) + 1)
          have hd1 := hdb.1
          have hd2 := hdb.2
          have HDA := Lib.hid (refDays_any y ((q : Int) + 1) w)
          have HM := Lib.hid (HMQ.out q hq)
          have HD := Lib.hid (HDN.out q h0)
          clear hcb hdb
          generalize cumM y q = C at *
          generalize dayM y ((q : Int) + 1) = D at *
          by_cases hgo : D ≤ n - B - C
          · have k3 : decide (D ≤ n - B - C) = true := by rw [decide_eq_true_eq]; exact hgo
            have hq2 := HM.out hgo
            go_wp2_with fail
            refine HDA.out.mono ?_
            rintro e wx ⟨rfl, rfl⟩
            go_wp2_with fail
            refine HDA.out.mono ?_
            rintro e wx ⟨rfl, rfl⟩
            go_wp2_with fail
            go_round
            case rel => exact ⟨q + 1, by omega, by go_num, by rw [G2.out]; exact congrArg (Value.int .i64) (by omega), by rw [G2.out]; omega⟩
            case measure => simp [intOf]; omega
          · have k3 : decide (D ≤ n - B - C) = false := by rw [decide_eq_false_iff_not]; exact hgo
            have hd := HD.out (by omega)
            have HDD := Lib.hid hd
            clear hd
            go_wp2_with fail
            refine HDA.out.mono ?_
            rintro e wx ⟨rfl, rfl⟩
            go_wp2_with fail
            refine bodyPost_ret (v := .tuple #[.int .i64 y, .int .i64 ((q : Int) + 1), .int .i64 (n - B - C + 1), .int .i64 0]) ?_ rfl ⟨y, (q : Int) + 1, n - B - C + 1, rfl, HDD.out.1, HDD.out.2, Below.refl _ _⟩
            simp [results, Tryz.results118, go_sem]
theorem refCivil_no (n : Int) (w : World) (h : dateB n = false) : Calls Tryz.prog 118 #[.int .i64 n] w fun e w' => e = .returned (.tuple #[.int .i64 0, .int .i64 0, .int .i64 0, .int .i64 2]) ∧ w = w' := by
  have HV := Lib.hid (refDvalid_any n w)
  rw [h] at HV
  clear h
  go_enter Tryz.func118, Tryz.ntmps118
  go_wp2_with fail
  refine HV.out.mono ?_
  rintro e wx ⟨rfl, rfl⟩
  go_wp2_with fail
  refine bodyPost_ret (v := .tuple #[.int .i64 0, .int .i64 0, .int .i64 0, .int .i64 2]) ?_ rfl ⟨rfl, rfl⟩
  simp [results, Tryz.results118, go_sem]
end Go.Proofs.YtcmmppkmkejniaaGreatDoor
namespace Go.Proofs.YtcmmppkmkejniaaGreatDoor
open Go.RowKit
set_option linter.unusedVariables false
theorem linkOk_a {ec gc : List SAcc} {x : SLink} (h : findA ec x.frm = none) : linkOk ec gc x = false := by unfold linkOk; rw [h]
theorem linkOk_b {ec gc : List SAcc} {x : SLink} (h : findA gc x.to_ = none) : linkOk ec gc x = false := by
  unfold linkOk
  rw [h]
  cases findA ec x.frm <;> rfl
theorem linkOk_ab {ec gc : List SAcc} {x : SLink} {a b : SAcc} (h : findA ec x.frm = some a) (h2 : findA gc x.to_ = some b) : linkOk ec gc x = ((a.kind == b.kind) && dateB x.since) := by unfold linkOk; rw [h, h2]
set_option maxRecDepth 100000 in
set_option maxHeartbeats 8000000 in
theorem link_any (x : SEnt) (l : SLink) (gA : Option Addr) (gn gc : Nat) (gl : List SAcc) (B : Nat) (w : World) (hx : EntIn w B x) (hg : ChartIn w B gA gn gc gl) (hB : B ≤ w.heap.size) :
    Calls Tryz.prog 110 #[entV x, .slice gA gn gc, linkV l] w fun e w' => e = .returned (.bool (linkOk x.chart gl l)) ∧ Below w.heap.size w w' := by
  obtain ⟨nm, cu, Ac, nc, cc, ch, Al, nl, cl, ls, jt⟩ := x
  obtain ⟨l0, l1, l2⟩ := l
  unfold entV linkV
  have HC := Lib.hid hx.ch
  have HGC := Lib.hid hg
  clear hx hg
  simp only [] at HC ⊢
  generalize hgo : linkOk ch gl ⟨l0, l1, l2⟩ = ok
  have HG := Lib.hid hgo.symm
  clear hgo
  have HB0 := Lib.hid (((Below.refl w.heap.size w).alloc (Nat.le_refl _) (.cells #[.string ⟨nm.toArray⟩, .string ⟨cu.toArray⟩, .slice Ac nc cc, .slice Al nl cl, .bool jt] 61)).alloc (by simp) (.cells #[.int .i64 l0, .int .i64 l1, .int .i64 l2] 99))
  have HL : Hid (Blk ((w.alloc (.cells #[.string ⟨nm.toArray⟩, .string ⟨cu.toArray⟩, .slice Ac nc cc, .slice Al nl cl, .bool jt] 61)).alloc (.cells #[.int .i64 l0, .int .i64 l1, .int .i64 l2] 99)) (w.heap.size + 1) 99 #[.int .i64 l0, .int .i64 l1, .int .i64 l2]) := by
    have := Blk.new (w.alloc (.cells #[.string ⟨nm.toArray⟩, .string ⟨cu.toArray⟩, .slice Ac nc cc, .slice Al nl cl, .bool jt] 61)) 99 #[.int .i64 l0, .int .i64 l1, .int .i64 l2]
    simp only [World.size_alloc] at this
    exact this
  cases hfa : findA ch l0 with
  | none =>
    have FA := Lib.hid (findV_no hfa)
    have F : Hid (linkOk ch gl ⟨l0, l1, l2⟩ = false) := linkOk_a hfa
    clear hfa
    cases hfb : findA gl l1 with
    | none =>
      have FB := Lib.hid (findV_no hfb)
      clear hfb
      skip
      go_enter Tryz.func110, Tryz.ntmps110
      go_wp2_with fail
      have HF1 := Lib.hid (find_any ch Ac nc cc l0 B _ (HC.out.rd.lowg hB (Nat.le_refl _) HB0.out) (by simp only [World.size_alloc]; omega) HC.out.le)
      refine HF1.out.mono ?_
      rintro e w1 ⟨rfl, hb1⟩
      rw [FA.out]
      have HB1 := Lib.hid (below_two HB0.out hb1)
      have HL1 := Lib.hid (HL.out.below hb1 (by simp))
      obtain ⟨c0, c1, c2⟩ := link_blk HL1.out
      have hs1 : w.heap.size + 1 < w1.heap.size := by have := hb1.size; simp only [World.size_alloc] at this; omega
      clear hb1 HF1
      have HF2 := Lib.hid (find_any gl gA gn gc l1 B (w1.alloc (.cells #[.int .i64 0, .int .i64 0, .int .i64 0, .int .i64 0] 42)) (HGC.out.rd.lowg hB (Nat.le_refl _) (HB1.out.alloc (by omega) _)) (by simp only [World.size_alloc]; omega) HGC.out.le)
      go_wp2_with fail
      refine HF2.out.mono ?_
      rintro e w2 ⟨rfl, hb2⟩
      rw [FB.out]
      have HB2 := Lib.hid (below_two (HB1.out.alloc (by omega) (.cells #[.int .i64 0, .int .i64 0, .int .i64 0, .int .i64 0] 42)) hb2)
      have HK2 := Lib.hid ((Blk.new w1 42 #[.int .i64 0, .int .i64 0, .int .i64 0, .int .i64 0]).below hb2 (by simp))
      have HL2 := Lib.hid ((HL1.out.alloc (.cells #[.int .i64 0, .int .i64 0, .int .i64 0, .int .i64 0] 42)).below hb2 (by simp only [World.size_alloc]; omega))
      have hs2 : w1.heap.size < w2.heap.size := by have := hb2.size; simp only [World.size_alloc] at this; omega
      have hs2' : w.heap.size + 1 < w2.heap.size := by omega
      obtain ⟨k0, k1, k2, k3⟩ := acc_blk HK2.out
      obtain ⟨m0, m1, m2⟩ := link_blk HL2.out
      clear hb2 HF2 c0 c1 c2
      go_wp2_with fail
      go_ret
      exact ⟨ret_bool (HG.out.trans F.out).symm, HB2.out.alloc (by omega) _⟩
    | some b =>
      have FB := Lib.hid (findV_yes hfb)
      clear hfb
      obtain ⟨b0, b1, b2, b3⟩ := b
      simp only [] at FB
      skip
      go_enter Tryz.func110, Tryz.ntmps110
      go_wp2_with fail
      have HF1 := Lib.hid (find_any ch Ac nc cc l0 B _ (HC.out.rd.lowg hB (Nat.le_refl _) HB0.out) (by simp only [World.size_alloc]; omega) HC.out.le)
      refine HF1.out.mono ?_
      rintro e w1 ⟨rfl, hb1⟩
      rw [FA.out]
      have HB1 := Lib.hid (below_two HB0.out hb1)
      have HL1 := Lib.hid (HL.out.below hb1 (by simp))
      obtain ⟨c0, c1, c2⟩ := link_blk HL1.out
      have hs1 : w.heap.size + 1 < w1.heap.size := by have := hb1.size; simp only [World.size_alloc] at this; omega
      clear hb1 HF1
      have HF2 := Lib.hid (find_any gl gA gn gc l1 B (w1.alloc (.cells #[.int .i64 0, .int .i64 0, .int .i64 0, .int .i64 0] 42)) (HGC.out.rd.lowg hB (Nat.le_refl _) (HB1.out.alloc (by omega) _)) (by simp only [World.size_alloc]; omega) HGC.out.le)
      go_wp2_with fail
      refine HF2.out.mono ?_
      rintro e w2 ⟨rfl, hb2⟩
      rw [FB.out]
      have HB2 := Lib.hid (below_two (HB1.out.alloc (by omega) (.cells #[.int .i64 0, .int .i64 0, .int .i64 0, .int .i64 0] 42)) hb2)
      have HK2 := Lib.hid ((Blk.new w1 42 #[.int .i64 0, .int .i64 0, .int .i64 0, .int .i64 0]).below hb2 (by simp))
      have HL2 := Lib.hid ((HL1.out.alloc (.cells #[.int .i64 0, .int .i64 0, .int .i64 0, .int .i64 0] 42)).below hb2 (by simp only [World.size_alloc]; omega))
      have hs2 : w1.heap.size < w2.heap.size := by have := hb2.size; simp only [World.size_alloc] at this; omega
      have hs2' : w.heap.size + 1 < w2.heap.size := by omega
      obtain ⟨k0, k1, k2, k3⟩ := acc_blk HK2.out
      obtain ⟨m0, m1, m2⟩ := link_blk HL2.out
      clear hb2 HF2 c0 c1 c2
      go_wp2_with fail
      go_ret
      exact ⟨ret_bool (HG.out.trans F.out).symm, HB2.out.alloc (by omega) _⟩
  | some a =>
    have FA := Lib.hid (findV_yes hfa)
    cases hfb : findA gl l1 with
    | none =>
      have FB := Lib.hid (findV_no hfb)
      have F : Hid (linkOk ch gl ⟨l0, l1, l2⟩ = false) := linkOk_b hfb
      clear hfa hfb
      obtain ⟨a0, a1, a2, a3⟩ := a
      simp only [] at FA
      skip
      go_enter Tryz.func110, Tryz.ntmps110
      go_wp2_with fail
      have HF1 := Lib.hid (find_any ch Ac nc cc l0 B _ (HC.out.rd.lowg hB (Nat.le_refl _) HB0.out) (by simp only [World.size_alloc]; omega) HC.out.le)
      refine HF1.out.mono ?_
      rintro e w1 ⟨rfl, hb1⟩
      rw [FA.out]
      have HB1 := Lib.hid (below_two HB0.out hb1)
      have HL1 := Lib.hid (HL.out.below hb1 (by simp))
      obtain ⟨c0, c1, c2⟩ := link_blk HL1.out
      have hs1 : w.heap.size + 1 < w1.heap.size := by have := hb1.size; simp only [World.size_alloc] at this; omega
      clear hb1 HF1
      have HF2 := Lib.hid (find_any gl gA gn gc l1 B (w1.alloc (.cells #[.int .i64 a0, .int .i64 a1, .int .i64 a2, .int .i64 a3] 42)) (HGC.out.rd.lowg hB (Nat.le_refl _) (HB1.out.alloc (by omega) _)) (by simp only [World.size_alloc]; omega) HGC.out.le)
      go_wp2_with fail
      refine HF2.out.mono ?_
      rintro e w2 ⟨rfl, hb2⟩
      rw [FB.out]
      have HB2 := Lib.hid (below_two (HB1.out.alloc (by omega) (.cells #[.int .i64 a0, .int .i64 a1, .int .i64 a2, .int .i64 a3] 42)) hb2)
      have HK2 := Lib.hid ((Blk.new w1 42 #[.int .i64 a0, .int .i64 a1, .int .i64 a2, .int .i64 a3]).below hb2 (by simp))
      have HL2 := Lib.hid ((HL1.out.alloc (.cells #[.int .i64 a0, .int .i64 a1, .int .i64 a2, .int .i64 a3] 42)).below hb2 (by simp only [World.size_alloc]; omega))
      have hs2 : w1.heap.size < w2.heap.size := by have := hb2.size; simp only [World.size_alloc] at this; omega
      have hs2' : w.heap.size + 1 < w2.heap.size := by omega
      obtain ⟨k0, k1, k2, k3⟩ := acc_blk HK2.out
      obtain ⟨m0, m1, m2⟩ := link_blk HL2.out
      clear hb2 HF2 c0 c1 c2
      go_wp2_with fail
      go_ret
      exact ⟨ret_bool (HG.out.trans F.out).symm, HB2.out.alloc (by omega) _⟩
    | some b =>
      have FB := Lib.hid (findV_yes hfb)
      have FO : Hid (linkOk ch gl ⟨l0, l1, l2⟩ = ((a.kind == b.kind) && dateB l2)) := linkOk_ab hfa hfb
      clear hfa hfb
      obtain ⟨a0, a1, a2, a3⟩ := a
      obtain ⟨b0, b1, b2, b3⟩ := b
      simp only [] at FA FB FO
      cases hk : a1 == b1
      case false =>
        have F : Hid (linkOk ch gl ⟨l0, l1, l2⟩ = false) := by show _ = _; rw [FO.out, hk]; rfl
        skip
        go_enter Tryz.func110, Tryz.ntmps110
        go_wp2_with fail
        have HF1 := Lib.hid (find_any ch Ac nc cc l0 B _ (HC.out.rd.lowg hB (Nat.le_refl _) HB0.out) (by simp only [World.size_alloc]; omega) HC.out.le)
        refine HF1.out.mono ?_
        rintro e w1 ⟨rfl, hb1⟩
        rw [FA.out]
        have HB1 := Lib.hid (below_two HB0.out hb1)
        have HL1 := Lib.hid (HL.out.below hb1 (by simp))
        obtain ⟨c0, c1, c2⟩ := link_blk HL1.out
        have hs1 : w.heap.size + 1 < w1.heap.size := by have := hb1.size; simp only [World.size_alloc] at this; omega
        clear hb1 HF1
        have HF2 := Lib.hid (find_any gl gA gn gc l1 B (w1.alloc (.cells #[.int .i64 a0, .int .i64 a1, .int .i64 a2, .int .i64 a3] 42)) (HGC.out.rd.lowg hB (Nat.le_refl _) (HB1.out.alloc (by omega) _)) (by simp only [World.size_alloc]; omega) HGC.out.le)
        go_wp2_with fail
        refine HF2.out.mono ?_
        rintro e w2 ⟨rfl, hb2⟩
        rw [FB.out]
        have HB2 := Lib.hid (below_two (HB1.out.alloc (by omega) (.cells #[.int .i64 a0, .int .i64 a1, .int .i64 a2, .int .i64 a3] 42)) hb2)
        have HK2 := Lib.hid ((Blk.new w1 42 #[.int .i64 a0, .int .i64 a1, .int .i64 a2, .int .i64 a3]).below hb2 (by simp))
        have HL2 := Lib.hid ((HL1.out.alloc (.cells #[.int .i64 a0, .int .i64 a1, .int .i64 a2, .int .i64 a3] 42)).below hb2 (by simp only [World.size_alloc]; omega))
        have hs2 : w1.heap.size < w2.heap.size := by have := hb2.size; simp only [World.size_alloc] at this; omega
        have hs2' : w.heap.size + 1 < w2.heap.size := by omega
        obtain ⟨k0, k1, k2, k3⟩ := acc_blk HK2.out
        obtain ⟨m0, m1, m2⟩ := link_blk HL2.out
        clear hb2 HF2 c0 c1 c2
        go_wp2_with fail
        go_ret
        exact ⟨ret_bool (HG.out.trans F.out).symm, HB2.out.alloc (by omega) _⟩
      case true =>
        have F : Hid (linkOk ch gl ⟨l0, l1, l2⟩ = dateB l2) := by show _ = _; rw [FO.out, hk]; rfl
        skip
        go_enter Tryz.func110, Tryz.ntmps110
        go_wp2_with fail
        have HF1 := Lib.hid (find_any ch Ac nc cc l0 B _ (HC.out.rd.lowg hB (Nat.le_refl _) HB0.out) (by simp only [World.size_alloc]; omega) HC.out.le)
        refine HF1.out.mono ?_
        rintro e w1 ⟨rfl, hb1⟩
        rw [FA.out]
        have HB1 := Lib.hid (below_two HB0.out hb1)
        have HL1 := Lib.hid (HL.out.below hb1 (by simp))
        obtain ⟨c0, c1, c2⟩ := link_blk HL1.out
        have hs1 : w.heap.size + 1 < w1.heap.size := by have := hb1.size; simp only [World.size_alloc] at this; omega
        clear hb1 HF1
        have HF2 := Lib.hid (find_any gl gA gn gc l1 B (w1.alloc (.cells #[.int .i64 a0, .int .i64 a1, .int .i64 a2, .int .i64 a3] 42)) (HGC.out.rd.lowg hB (Nat.le_refl _) (HB1.out.alloc (by omega) _)) (by simp only [World.size_alloc]; omega) HGC.out.le)
        go_wp2_with fail
        refine HF2.out.mono ?_
        rintro e w2 ⟨rfl, hb2⟩
        rw [FB.out]
        have HB2 := Lib.hid (below_two (HB1.out.alloc (by omega) (.cells #[.int .i64 a0, .int .i64 a1, .int .i64 a2, .int .i64 a3] 42)) hb2)
        have HK2 := Lib.hid ((Blk.new w1 42 #[.int .i64 a0, .int .i64 a1, .int .i64 a2, .int .i64 a3]).below hb2 (by simp))
        have HL2 := Lib.hid ((HL1.out.alloc (.cells #[.int .i64 a0, .int .i64 a1, .int .i64 a2, .int .i64 a3] 42)).below hb2 (by simp only [World.size_alloc]; omega))
        have hs2 : w1.heap.size < w2.heap.size := by have := hb2.size; simp only [World.size_alloc] at this; omega
        have hs2' : w.heap.size + 1 < w2.heap.size := by omega
        obtain ⟨k0, k1, k2, k3⟩ := acc_blk HK2.out
        obtain ⟨m0, m1, m2⟩ := link_blk HL2.out
        clear hb2 HF2 c0 c1 c2
        go_wp2_with fail
        refine (dvalid_any l2 _).mono ?_
        rintro e wx ⟨rfl, rfl⟩
        go_wp2_with fail
        go_ret
        exact ⟨ret_bool (HG.out.trans F.out).symm, HB2.out.alloc (by omega) _⟩
end Go.Proofs.YtcmmppkmkejniaaGreatDoor
namespace Go.Proofs.YtcmmppkmkejniaaGreatDoor
open Go.RowKit
set_option linter.unusedVariables false
theorem any_take {α : Type} [Inhabited α] {p : α → Bool} {xs : List α} {k : Nat} (hk : k < xs.length) : (xs.take (k + 1)).any p = ((xs.take k).any p || p (xs.getD k default)) := by
  rw [List.take_succ_eq_append_getElem hk, List.any_append]
  simp [List.getD, hk]
theorem linksOk_no {ec gc : List SAcc} {ls : List SLink} {k : Nat} (hk : k < ls.length) (h : linkAt ec gc ls k = false) : linksOk ec gc ls = false := by unfold linksOk; exact allR_no hk h
theorem mapP_1 {ec gc : List SAcc} {ls : List SLink} (h : chartP gc true = false) : mapP ec gc ls = false := by unfold mapP; rw [h]; rfl
theorem mapP_2 {ec gc : List SAcc} {ls : List SLink} (h : chartP ec false = false) : mapP ec gc ls = false := by unfold mapP; rw [h]; simp
theorem mapP_3 {ec gc : List SAcc} {ls : List SLink} (h : ¬ ls.length ≤ 400) : mapP ec gc ls = false := by unfold mapP; rw [decide_eq_false h]; simp
theorem mapP_4 {ec gc : List SAcc} {ls : List SLink} (h : linksOk ec gc ls = false) : mapP ec gc ls = false := by unfold mapP; rw [h]; simp
theorem mapP_yes {ec gc : List SAcc} {ls : List SLink} (h1 : chartP gc true = true) (h2 : chartP ec false = true) (h3 : ls.length ≤ 400) (h4 : linksOk ec gc ls = true) : mapP ec gc ls = true := by unfold mapP; rw [h1, h2, h4, decide_eq_true h3]; rfl
theorem okI_0 : okI 0 := by unfold okI; decide
set_option maxRecDepth 100000 in
set_option maxHeartbeats 8000000 in
theorem mapv_any (x : SEnt) (gA : Option Addr) (gn gc : Nat) (gl : List SAcc) (B : Nat) (w : World) (hx : EntIn w B x) (hg : ChartIn w B gA gn gc gl) (hB : B ≤ w.heap.size) (hn : x.nc ≤ 1000) (hgn : gn ≤ 1000) :
    Calls Tryz.prog 88 #[entV x, .slice gA gn gc] w fun e w' => e = .returned (.bool (mapP x.chart gl x.links)) ∧ Below w.heap.size w w' := by
  obtain ⟨nm, cu, Ac, nc, cc, ch, Al, nl, cl, ls, jt⟩ := x
  unfold entV
  have HX := Lib.hid hx
  have HC := Lib.hid hx.ch
  have HLI := Lib.hid hx.li
  have HGC := Lib.hid hg
  clear hx hg
  simp only [] at HC HLI hn ⊢
  have HLL := Lib.hid HLI.out.len
  have hle := HLI.out.le
  generalize hgo : mapP ch gl ls = ok
  have HG := Lib.hid hgo.symm
  clear hgo
  have HB0 := Lib.hid ((Below.refl w.heap.size w).alloc (Nat.le_refl _) (.cells #[.string ⟨nm.toArray⟩, .string ⟨cu.toArray⟩, .slice Ac nc cc, .slice Al nl cl, .bool jt] 61))
  have HE := Lib.hid (Blk.new w 61 #[.string ⟨nm.toArray⟩, .string ⟨cu.toArray⟩, .slice Ac nc cc, .slice Al nl cl, .bool jt])
  have hmm := @run_makeMap Tryz.prog
  go_enter Tryz.func88, Tryz.ntmps88
  go_wp2_with fail
  have H1 := Lib.hid (chart_any gl gA gn gc true B _ (HGC.out.rd.lowg hB (Nat.le_refl _) HB0.out) (by simp only [World.size_alloc]; omega) hgn HGC.out.ok)
  refine H1.out.mono ?_
  rintro e w1 ⟨rfl, hb1⟩
  have HB1 := Lib.hid (below_two HB0.out hb1)
  have HE1 := Lib.hid (HE.out.below hb1 (by simp))
  have hs1 : w.heap.size < w1.heap.size := by have := hb1.size; simp only [World.size_alloc] at this; omega
  obtain ⟨e0, e1, e2, e3, e4⟩ := ent_blk HE1.out
  clear hb1 H1
  cases v1 : chartP gl true
  case false =>
    have F : Hid (mapP ch gl ls = false) := mapP_1 v1
    clear v1
    go_wp2_with fail
    go_ret
    exact ⟨ret_bool (HG.out.trans F.out).symm, HB1.out⟩
  case true =>
    have V1 := Lib.hid v1
    clear v1
    have H2 := Lib.hid (chart_any ch Ac nc cc false B w1 (HC.out.rd.lowg hB (Nat.le_refl _) HB1.out) (by omega) hn HC.out.ok)
    go_wp2_with fail
    refine H2.out.mono ?_
    rintro e w2 ⟨rfl, hb2⟩
    have HB2 := Lib.hid (below_two HB1.out hb2)
    have HE2 := Lib.hid (HE1.out.below hb2 hs1)
    have hs2 : w.heap.size < w2.heap.size := by have := hb2.size; omega
    clear hb2 H2 e0 e1 e2 e3 e4
    obtain ⟨e0, e1, e2, e3, e4⟩ := ent_blk HE2.out
    cases v2 : chartP ch false
    case false =>
      have F : Hid (mapP ch gl ls = false) := mapP_2 v2
      clear v2
      go_wp2_with fail
      go_ret
      exact ⟨ret_bool (HG.out.trans F.out).symm, HB2.out⟩
    case true =>
      have V2 := Lib.hid v2
      clear v2
      by_cases h400 : nl ≤ 400
      case neg =>
        have d4 : decide ((400 : Int) < (nl : Int)) = true := by rw [decide_eq_true_eq]; omega
        have F : Hid (mapP ch gl ls = false) := mapP_3 (by rw [HLL.out]; exact h400)
        go_wp2_with fail
        go_ret
        exact ⟨ret_bool (HG.out.trans F.out).symm, HB2.out⟩
      case pos =>
        have d4 : decide ((400 : Int) < (nl : Int)) = false := by rw [decide_eq_false_iff_not]; omega
        have HM0 := Lib.hid (MapB.made (M := ML) w2)
        have HB3 := Lib.hid (HB2.out.alloc (by omega) (.map #[] 0))
        have HE3 := Lib.hid (HE2.out.alloc (.map #[] 0))
        go_wp2_with fail
        clear e0 e1 e2 e3 e4
        go_loopw [28] (fun i wr => ∃ (k : Nat) (m : List (SLink × Bool)), i = .int .i64 k ∧ k ≤ nl ∧ (List.range k).all (linkAt ch gl ls) = true ∧ MapB ML wr w2.heap.size m ∧ (∀ a b : Int, getB m ⟨a, 0, b⟩ = (ls.take k).any fun y => (y.frm == a) && (y.since == b)) ∧ Below w.heap.size w wr ∧
          Blk wr w.heap.size 61 #[.string ⟨nm.toArray⟩, .string ⟨cu.toArray⟩, .slice Ac nc cc, .slice Al nl cl, .bool jt]) (fun i _ => nl - (intOf i).toNat)
        case atStart => exact ⟨0, [], rfl, by omega, rfl, HM0.out, fun _ _ => rfl, HB3.out, HE3.out⟩
        case round =>
          obtain ⟨k, m, rfl, hk, hd, hm, hg, hbr, hbl⟩ := hrel
          obtain ⟨wo, rfl⟩ : ∃ wo : World, wo = wr := ⟨_, rfl⟩
          have HD := Lib.hid hd
          have HM := Lib.hid hm
          have HGT := Lib.hid hg
          have HEO := Lib.hid hbl
          have hlt0 := hbl.lt
          have hml := hm.lt
          clear hd hm hg hbl
          by_cases hlt : k < nl
          case neg =>
            have k3 : decide ((k : Int) < (nl : Int)) = false := by rw [decide_eq_false_iff_not]; omega
            have F : Hid (mapP ch gl ls = true) := mapP_yes V1.out V2.out (by rw [HLL.out]; exact h400) (by unfold linksOk; rw [HLL.out, show nl = k by omega]; exact HD.out)
            go_wp2_with fail
            go_ret
            exact ⟨ret_bool (HG.out.trans F.out).symm, hbr⟩
          case pos =>
            have k3 : decide ((k : Int) < (nl : Int)) = true := by rw [decide_eq_true_eq]; omega
            have hkl : k < ls.length := by rw [HLL.out]; exact hlt
            obtain ⟨ad, rfl, hbk, c0, c1, c2⟩ := (HLI.out.rd.lowg hB (Nat.le_refl _) hbr).link_at hlt
            have HOKX := Lib.hid (HLI.out.ok (ls.getD k default) (by simp [List.getD, hkl]))
            have HAT : Hid (linkAt ch gl ls k = (linkOk ch gl (ls.getD k default) && !linkSeen ls k (ls.getD k default))) := rfl
            have HSN : Hid (getB m ⟨(ls.getD k default).frm, 0, (ls.getD k default).since⟩ = linkSeen ls k (ls.getD k default)) := HGT.out _ _
            have HST : Hid (∀ a b : Int, (ls.take (k + 1)).any (fun y => (y.frm == a) && (y.since == b)) = ((ls.take k).any (fun y => (y.frm == a) && (y.since == b)) || (((ls.getD k default).frm == a) && ((ls.getD k default).since == b)))) := fun a b => any_take hkl
            have HKL := Lib.hid hkl
            clear hkl
            generalize ls.getD k default = x at *
            obtain ⟨x0, x1, x2⟩ := x
            simp only [] at c0 c1 c2 HAT HSN HST HOKX
            have HKO : Hid (ML.ok ⟨x0, 0, x2⟩) := ⟨HOKX.out.1, okI_0, HOKX.out.2.2⟩
            have hs3 := hbr.size
            have HB4 := Lib.hid ((hbr.alloc hs3 (.cells #[.int .i64 x0, .int .i64 x1, .int .i64 x2] 99)).alloc (by simp only [World.size_alloc]; omega) (.cells #[.int .i64 x0, .int .i64 0, .int .i64 x2] 99))
            have HM4 := Lib.hid ((HM.out.alloc (.cells #[.int .i64 x0, .int .i64 x1, .int .i64 x2] 99)).alloc (.cells #[.int .i64 x0, .int .i64 0, .int .i64 x2] 99))
            have hE4 := (HEO.out.alloc (.cells #[.int .i64 x0, .int .i64 x1, .int .i64 x2] 99)).alloc (.cells #[.int .i64 x0, .int .i64 0, .int .i64 x2] 99)
            obtain ⟨e0, e1, e2, e3, e4⟩ := ent_blk HEO.out
            have HE4 := Lib.hid hE4
            have HK4 : Hid (Blk ((wo.alloc (.cells #[.int .i64 x0, .int .i64 x1, .int .i64 x2] 99)).alloc (.cells #[.int .i64 x0, .int .i64 0, .int .i64 x2] 99)) (wo.heap.size + 1) 99 #[.int .i64 x0, .int .i64 0, .int .i64 x2]) := by
              have := Blk.new (wo.alloc (.cells #[.int .i64 x0, .int .i64 x1, .int .i64 x2] 99)) 99 #[.int .i64 x0, .int .i64 0, .int .i64 x2]
              simp only [World.size_alloc] at this
              exact this
            clear hE4
            cases sv : linkSeen ls k ⟨x0, x1, x2⟩
            case true =>
              have F : Hid (mapP ch gl ls = false) := mapP_4 (linksOk_no HKL.out (by rw [HAT.out, sv]; simp))
              have HS2 : Hid (getB m ⟨x0, 0, x2⟩ = true) := HSN.out.trans sv
              clear sv
              go_wp2_with (at_lookup; refine wpList_lookupB (M := ML) _ rfl _ _ rfl w2.heap.size m ⟨x0, 0, x2⟩ rfl rfl HM4.out HKO.out ?_; rw [HS2.out])
              go_ret
              exact ⟨ret_bool (HG.out.trans F.out).symm, HB4.out⟩
            case false =>
              have HS2 : Hid (getB m ⟨x0, 0, x2⟩ = false) := HSN.out.trans sv
              have HAT2 : Hid (linkAt ch gl ls k = linkOk ch gl ⟨x0, x1, x2⟩) := by show _ = _; rw [HAT.out, sv]; simp
              clear sv
              have HLK := Lib.hid (link_any ⟨nm, cu, Ac, nc, cc, ch, some ad, nl, cl, ls, jt⟩ ⟨x0, x1, x2⟩ gA gn gc gl B _ (HX.out.low hB (Nat.le_refl _) HB4.out) (HGC.out.low hB (Nat.le_refl _) HB4.out) (by simp only [World.size_alloc]; omega))
              unfold entV linkV at HLK
              simp only [] at HLK
              go_wp2_with (at_lookup; refine wpList_lookupB (M := ML) _ rfl _ _ rfl w2.heap.size m ⟨x0, 0, x2⟩ rfl rfl HM4.out HKO.out ?_; rw [HS2.out])
              refine HLK.out.mono ?_
              rintro e w5 ⟨rfl, hb5⟩
              have HB5 := Lib.hid (below_two HB4.out hb5)
              have HM5 := Lib.hid (HM4.out.below hb5 (by simp only [World.size_alloc]; omega))
              have HE5 := Lib.hid (HE4.out.below hb5 (by simp only [World.size_alloc]; omega))
              have HK5 := Lib.hid (HK4.out.below hb5 (by simp only [World.size_alloc]; omega))
              obtain ⟨q0, q1, q2⟩ := link_blk HK5.out
              have hs5 := HB5.out.size
              clear hb5 HLK c0 c1 c2 e0 e1 e2 e3 e4
              cases lv : linkOk ch gl ⟨x0, x1, x2⟩
              case false =>
                have F : Hid (mapP ch gl ls = false) := mapP_4 (linksOk_no HKL.out (by rw [HAT2.out, lv]))
                clear lv
                go_wp2_with fail
                go_ret
                exact ⟨ret_bool (HG.out.trans F.out).symm, HB5.out⟩
              case true =>
                have F := Lib.hid (allR_step HD.out (HAT2.out.trans lv))
                clear lv
                go_wp2_with (at_mapUpdate; refine wpList_storeB (M := ML) _ rfl _ _ _ rfl w2.heap.size m ⟨x0, 0, x2⟩ true rfl rfl rfl HM5.out HKO.out ?_; intro w6 hm6 hg6)
                refine ⟨⟨k + 1, putB m ⟨x0, 0, x2⟩ true, by go_num, by omega, F.out, hm6, ?_, HB5.out.grown hg6 (by omega) (fun j hj => by cases hj; omega), HE5.out.grown hg6 (by intro e; have := Option.some.inj e; omega)⟩, by simp [intOf]; omega⟩
                intro a b
                rw [getB_putB, HST.out, HGT.out]
                by_cases hab : (⟨x0, 0, x2⟩ : SLink) = ⟨a, 0, b⟩
                · rw [if_pos hab]
                  injection hab with h1 _ h3
                  subst h1 h3
                  simp
                · rw [if_neg hab]
                  have : ((x0 == a) && (x2 == b)) = false := by
                    cases e1 : (x0 == a) && (x2 == b)
                    · rfl
                    · rw [Bool.and_eq_true, beq_iff_eq, beq_iff_eq] at e1
                      exact absurd (by rw [e1.1, e1.2]) hab
                  rw [this, Bool.or_false]
end Go.Proofs.YtcmmppkmkejniaaGreatDoor
namespace Go.Proofs.YtcmmppkmkejniaaGreatDoor
open Go.RowKit
set_option linter.unusedVariables false
/-- a block of the call's own reads as a list -/
def LitAt (w : World) (ad : Addr) (xs : List Value) : Prop := ad.block < w.heap.size ∧ ∀ j u, xs[j]? = some u → w.cell? (ad.add j) = some u
section
variable {w w' : World} {ad : Addr} {xs : List Value}
theorem LitAt.of {size n : Nat} (h : Reads w w.heap.size size (some ad) n xs) (hn : 0 < n) : LitAt w ad xs := by
  obtain ⟨ad', e, hb, hc⟩ := h.2 hn
  injection e with e
  subst e
  exact ⟨hb, hc⟩
theorem LitAt.reads {size n : Nat} (h : LitAt w ad xs) (hl : xs.length = n * size) : Reads w w.heap.size size (some ad) n xs := ⟨hl, fun _ => ⟨ad, rfl, h.1, h.2⟩⟩
theorem LitAt.below (h : LitAt w ad xs) (hb : Below w.heap.size w w') : LitAt w' ad xs := ⟨Nat.lt_of_lt_of_le h.1 hb.size, fun j u hu => (hb.cell (by rw [block_of_add]; exact h.1)).trans (h.2 j u hu)⟩
theorem LitAt.alloc (h : LitAt w ad xs) (o : Obj) : LitAt (w.alloc o) ad xs := h.below ((Below.refl _ _).alloc (Nat.le_refl _) _)
theorem LitAt.grown {row : Option Nat} (h : LitAt w ad xs) (hg : w.grownBy w' row) (hr : some ad.block ≠ row) : LitAt w' ad xs :=
  ⟨Nat.lt_of_lt_of_le h.1 hg.size, fun j u hu => (World.cell?_of_block (hg.block (ad.add j).block (by rw [block_of_add]; exact h.1) (by rw [block_of_add]; exact hr))).trans (h.2 j u hu)⟩
end
theorem rolesOk_no {l : List SAcc} {rs : List SRole} {k : Nat} (hk : k < rs.length) (h : roleAt l rs k = false) : rolesOk l rs = false := by unfold rolesOk; exact allR_no hk h
theorem accsP_1 {g : PGrp} (h : chartP g.chart true = false) : accsP g = false := by unfold accsP; rw [h]; rfl
theorem accsP_2 {g : PGrp} (h : (g.chart.any fun a => !basedB a) = true) : accsP g = false := by unfold accsP; rw [h]; simp
theorem accsP_3 {g : PGrp} (h : rolesOk g.chart (rolesL g.roles) = false) : accsP g = false := by unfold accsP; rw [h]; simp
theorem accsP_yes {g : PGrp} (h1 : chartP g.chart true = true) (h2 : (g.chart.any fun a => !basedB a) = false) (h3 : rolesOk g.chart (rolesL g.roles) = true) : accsP g = true := by unfold accsP; rw [h1, h2, h3]; rfl
theorem roleIs_none {l : List SAcc} {r : SRole} (h : findA l r.code = none) : roleIs l r = false := by unfold roleIs; rw [h]
theorem roleIs_some {l : List SAcc} {r : SRole} {a : SAcc} (h : findA l r.code = some a) : roleIs l r = ((a.kind == r.kind) && (a.basis == r.basis)) := by unfold roleIs; rw [h]
theorem rolesC_len (r : SRoles) : (rolesC (rolesL r)).length = 15 * 5 := rfl
theorem roleSeen_step {rs : List SRole} {k : Nat} (hk : k < rs.length) (c : Int) : roleSeen rs (k + 1) c = (roleSeen rs k c || (rs.getD k default).code == c) := any_take hk
theorem contB_any (l : List SAcc) (A : Option Addr) (n c B : Nat) (w : World) (hr : Reads w B 4 A n (accsC l)) (hB : B ≤ w.heap.size) (hn : n ≤ 9223372036854775807) :
    Calls Tryz.prog 82 #[.slice A n c, .func (.func 83) #[] #[]] w fun e w' => e = .returned (.bool (l.any fun a => !basedB a)) ∧ Below w.heap.size w w' :=
  contA_any 83 #[] (fun a => !basedB a) (fun _ => True) enter_acc1 (fun _ _ _ _ => trivial) l (fun x _ w _ => acc1_any x w) A n c B w hr hB hn trivial
set_option maxRecDepth 100000 in
set_option maxHeartbeats 8000000 in
theorem accs_any (g : SGrp) (B : Nat) (w : World) (hg : GrpIn w B g) (hB : B ≤ w.heap.size) (hn : g.nc ≤ 1000) :
    Calls Tryz.prog 62 #[grpV g] w fun e w' => e = .returned (.bool (accsP g.p)) ∧ Below w.heap.size w w' := by
  obtain ⟨cu, yr, mo, pe, Ac, nc, cc, ch, ro, Ae, ne, ce, es⟩ := g
  unfold grpV
  have HC := Lib.hid hg.ch
  have HRO := Lib.hid hg.ro
  clear hg
  simp only [] at HC HRO hn ⊢
  obtain ⟨gp, hgp⟩ : ∃ gp, SGrp.p ⟨cu, yr, mo, pe, Ac, nc, cc, ch, ro, Ae, ne, ce, es⟩ = gp := ⟨_, rfl⟩
  have HGC : Hid (gp.chart = ch) := by show _ = _; rw [← hgp]; rfl
  have HGR : Hid (gp.roles = ro) := by show _ = _; rw [← hgp]; rfl
  rw [hgp]
  clear hgp
  generalize hgo : accsP gp = ok
  have HG := Lib.hid hgo.symm
  clear hgo
  have HB0 := Lib.hid ((Below.refl w.heap.size w).alloc (Nat.le_refl _) (.cells #[.string ⟨cu.toArray⟩, .int .i64 yr, .int .i64 mo, .int .i64 pe, .slice Ac nc cc, .int .i64 ro.c0, .int .i64 ro.c1, .int .i64 ro.c2, .int .i64 ro.c3, .int .i64 ro.c4, .int .i64 ro.c5, .int .i64 ro.c6, .int .i64 ro.c7, .int .i64 ro.c8, .int .i64 ro.c9, .int .i64 ro.c10, .int .i64 ro.c11, .int .i64 ro.c12, .int .i64 ro.c13, .int .i64 ro.c14, .slice Ae ne ce] 29))
  have HE := Lib.hid (Blk.new w 29 #[.string ⟨cu.toArray⟩, .int .i64 yr, .int .i64 mo, .int .i64 pe, .slice Ac nc cc, .int .i64 ro.c0, .int .i64 ro.c1, .int .i64 ro.c2, .int .i64 ro.c3, .int .i64 ro.c4, .int .i64 ro.c5, .int .i64 ro.c6, .int .i64 ro.c7, .int .i64 ro.c8, .int .i64 ro.c9, .int .i64 ro.c10, .int .i64 ro.c11, .int .i64 ro.c12, .int .i64 ro.c13, .int .i64 ro.c14, .slice Ae ne ce])
  have hmm := @run_makeMap Tryz.prog
  go_enter Tryz.func62, Tryz.ntmps62
  go_wp2_with fail
  have H1 := Lib.hid (chart_any ch Ac nc cc true B _ (HC.out.rd.lowg hB (Nat.le_refl _) HB0.out) (by simp only [World.size_alloc]; omega) hn HC.out.ok)
  refine H1.out.mono ?_
  rintro e w1 ⟨rfl, hb1⟩
  have HB1 := Lib.hid (below_two HB0.out hb1)
  have HE1 := Lib.hid (HE.out.below hb1 (by simp))
  have hs1 : w.heap.size < w1.heap.size := by have := hb1.size; simp only [World.size_alloc] at this; omega
  have g4 := HE1.out.cell 4
  simp only [List.getElem?_toArray, List.getElem?_cons_succ, List.getElem?_cons_zero] at g4
  clear hb1 H1
  cases v1 : chartP ch true
  case false =>
    have F : Hid (accsP gp = false) := accsP_1 (by rw [HGC.out]; exact v1)
    clear v1
    go_wp2_with fail
    go_ret
    exact ⟨ret_bool (HG.out.trans F.out).symm, HB1.out⟩
  case true =>
    have V1 := Lib.hid v1
    clear v1
    have H2 := Lib.hid (contB_any ch Ac nc cc B w1 (HC.out.rd.lowg hB (Nat.le_refl _) HB1.out) (by omega) HC.out.le)
    go_wp2_with fail
    refine H2.out.mono ?_
    rintro e w2 ⟨rfl, hb2⟩
    have HB2 := Lib.hid (below_two HB1.out hb2)
    have HE2 := Lib.hid (HE1.out.below hb2 hs1)
    have hs2 : w.heap.size < w2.heap.size := by have := hb2.size; omega
    clear hb2 H2 g4
    cases v2 : (ch.any fun a => !basedB a)
    case true =>
      have F : Hid (accsP gp = false) := accsP_2 (by rw [HGC.out]; exact v2)
      clear v2
      go_wp2_with fail
      go_ret
      exact ⟨ret_bool (HG.out.trans F.out).symm, HB2.out⟩
    case false =>
      have V2 := Lib.hid v2
      clear v2
      have HM0 := Lib.hid (MapB.made (M := MI) w2)
      have HB3 := Lib.hid (HB2.out.alloc (by omega) (.map #[] 0))
      have HE3 := Lib.hid (HE2.out.alloc (.map #[] 0))
      obtain ⟨g0, g1, g2, g3, g4, g5, g6, g7, g8, g9, g10, g11, g12, g13, g14, g15, g16, g17, g18, g19, g20⟩ := grp_blk HE2.out
      have H4 : Hid (∀ W : World, Calls Tryz.prog 85 #[.agg #[.int .i64 ro.c0, .int .i64 ro.c1, .int .i64 ro.c2, .int .i64 ro.c3, .int .i64 ro.c4, .int .i64 ro.c5, .int .i64 ro.c6, .int .i64 ro.c7, .int .i64 ro.c8, .int .i64 ro.c9, .int .i64 ro.c10, .int .i64 ro.c11, .int .i64 ro.c12, .int .i64 ro.c13, .int .i64 ro.c14]] W fun e w' => ∃ ad : Addr, e = .returned (.slice (some ad) 15 15) ∧ Reads w' w'.heap.size 5 (some ad) 15 (rolesC (rolesL ro)) ∧ W.heap.size ≤ ad.block ∧ Below W.heap.size W w') := fun W => roles_any ro W
      go_wp2_with fail
      refine (H4.out _).mono ?_
      rintro e w4 ⟨ad, rfl, hrd, had, hb4⟩
      have HB4 := Lib.hid (below_two HB3.out hb4)
      have HE4 := Lib.hid (HE3.out.below hb4 (by simp only [World.size_alloc]; omega))
      have HM4 := Lib.hid (HM0.out.below hb4 (by simp))
      have HLT4 := Lib.hid (LitAt.of hrd (by omega))
      have hmb : w.heap.size < w2.heap.size := hs2
      have HNE : Hid (w2.heap.size < ad.block) := by show _ < _; simp only [World.size_alloc] at had; omega
      clear hrd had hb4 H4 g0 g1 g2 g3 g4 g5 g6 g7 g8 g9 g10 g11 g12 g13 g14 g15 g16 g17 g18 g19 g20
      have HYES : Hid (rolesOk ch (rolesL ro) = true → accsP gp = true) := fun h => accsP_yes (by rw [HGC.out]; exact V1.out) (by rw [HGC.out]; exact V2.out) (by rw [HGC.out, HGR.out]; exact h)
      have HNO' : Hid (∀ k, k < 15 → roleAt ch (rolesL ro) k = false → accsP gp = false) := fun k hk h => accsP_3 (by rw [HGC.out, HGR.out]; exact rolesOk_no (by rw [rolesL_len]; exact hk) h)
      have HRL : Hid ((rolesL ro).length = 15) := rolesL_len ro
      have HRCL : Hid ((rolesC (rolesL ro)).length = 15 * 5) := rolesC_len ro
      generalize rolesL ro = rs at *
      generalize hmbe : w2.heap.size = mb at *
      clear hmbe
      go_wp2_with fail
      go_loopw [22] (fun i wr => ∃ (k : Nat) (m : List (Int × Bool)), i = .int .i64 k ∧ k ≤ 15 ∧ (List.range k).all (roleAt ch rs) = true ∧ MapB MI wr mb m ∧ (∀ c, getB m c = roleSeen rs k c) ∧ Below w.heap.size w wr ∧
        Blk wr w.heap.size 29 #[.string ⟨cu.toArray⟩, .int .i64 yr, .int .i64 mo, .int .i64 pe, .slice Ac nc cc, .int .i64 ro.c0, .int .i64 ro.c1, .int .i64 ro.c2, .int .i64 ro.c3, .int .i64 ro.c4, .int .i64 ro.c5, .int .i64 ro.c6, .int .i64 ro.c7, .int .i64 ro.c8, .int .i64 ro.c9, .int .i64 ro.c10, .int .i64 ro.c11, .int .i64 ro.c12, .int .i64 ro.c13, .int .i64 ro.c14, .slice Ae ne ce] ∧ LitAt wr ad (rolesC rs)) (fun i _ => 15 - (intOf i).toNat)
      case atStart => exact ⟨0, [], rfl, by omega, rfl, HM4.out, fun _ => rfl, HB4.out, HE4.out, HLT4.out⟩
      case round =>
        obtain ⟨k, m, rfl, hk, hd, hm, hgt, hbr, hbl, hlit⟩ := hrel
        obtain ⟨wo, rfl⟩ : ∃ wo : World, wo = wr := ⟨_, rfl⟩
        have HD := Lib.hid hd
        have HM := Lib.hid hm
        have HGT := Lib.hid hgt
        have HEO := Lib.hid hbl
        have HLT := Lib.hid hlit
        have hlt0 := hbl.lt
        have hml := hm.lt
        have g4 := hbl.cell 4
        simp only [List.getElem?_toArray, List.getElem?_cons_succ, List.getElem?_cons_zero] at g4
        clear hd hm hgt hbl hlit
        by_cases hlt : k < 15
        case neg =>
          have k3 : decide ((k : Int) < 15) = false := by rw [decide_eq_false_iff_not]; omega
          have F : Hid (accsP gp = true) := HYES.out (by unfold rolesOk; rw [HRL.out, show 15 = k by omega]; exact HD.out)
          go_wp2_with fail
          go_ret
          exact ⟨ret_bool (HG.out.trans F.out).symm, hbr⟩
        case pos =>
          have k3 : decide ((k : Int) < 15) = true := by rw [decide_eq_true_eq]; omega
          have b15 : (k : Int) < 15 := by omega
          have hkl : k < rs.length := by rw [HRL.out]; exact hlt
          obtain ⟨ad', ead, hbk, c0, c1, c2, c3, c4⟩ := (HLT.out.reads HRCL.out).role_at hlt
          injection ead with ead
          subst ead
          have HOKX := Lib.hid (HRO.out (rs.getD k default) (by simp [List.getD, hkl]))
          have HAT : Hid (roleAt ch rs k = (roleIs ch (rs.getD k default) && !roleSeen rs k (rs.getD k default).code)) := rfl
          have HSN : Hid (getB m (rs.getD k default).code = roleSeen rs k (rs.getD k default).code) := HGT.out _
          have HST : Hid (∀ c : Int, roleSeen rs (k + 1) c = (roleSeen rs k c || (rs.getD k default).code == c)) := fun c => roleSeen_step hkl c
          have HNO := Lib.hid (HNO'.out k hlt)
          clear hkl
          generalize rs.getD k default = x at *
          obtain ⟨rnm, rc, rk, rb, rm⟩ := x
          simp only [] at c0 c1 c2 c3 c4 HAT HSN HST HOKX
          have HKO : Hid (MI.ok rc) := HOKX.out
          have hs3 := hbr.size
          have HB6 := Lib.hid (hbr.alloc hs3 (.cells #[.string ⟨rnm.toArray⟩, .int .i64 rc, .int .i64 rk, .int .i64 rb, .bool rm] 136))
          have HM6 := Lib.hid (HM.out.alloc (.cells #[.string ⟨rnm.toArray⟩, .int .i64 rc, .int .i64 rk, .int .i64 rb, .bool rm] 136))
          have HE6 := Lib.hid (HEO.out.alloc (.cells #[.string ⟨rnm.toArray⟩, .int .i64 rc, .int .i64 rk, .int .i64 rb, .bool rm] 136))
          have HK6 := Lib.hid (Blk.new wo 136 #[.string ⟨rnm.toArray⟩, .int .i64 rc, .int .i64 rk, .int .i64 rb, .bool rm])
          have HLT6 := Lib.hid (HLT.out.alloc (.cells #[.string ⟨rnm.toArray⟩, .int .i64 rc, .int .i64 rk, .int .i64 rb, .bool rm] 136))
          cases hf : findA ch rc with
          | none =>
            have FV := Lib.hid (findV_no hf)
            have F : Hid (accsP gp = false) := HNO.out (by rw [HAT.out, roleIs_none hf]; rfl)
            clear hf
            go_wp2_with fail
            have HFC := Lib.hid (find_any ch Ac nc cc rc B _ (HC.out.rd.lowg hB (Nat.le_refl _) HB6.out) (by simp only [World.size_alloc]; omega) HC.out.le)
            refine HFC.out.mono ?_
            rintro e w7 ⟨rfl, hb7⟩
            rw [FV.out]
            have HB7 := Lib.hid ((below_two HB6.out hb7).alloc (by have := hb7.size; simp only [World.size_alloc] at this; omega) (.cells #[.int .i64 0, .int .i64 0, .int .i64 0, .int .i64 0] 42))
            have hk7 := HK6.out.below hb7 (by simp)
            have HM7 := Lib.hid ((HM6.out.below hb7 (by simp only [World.size_alloc]; omega)).alloc (.cells #[.int .i64 0, .int .i64 0, .int .i64 0, .int .i64 0] 42))
            have HE7 := Lib.hid ((HE6.out.below hb7 (by simp only [World.size_alloc]; omega)).alloc (.cells #[.int .i64 0, .int .i64 0, .int .i64 0, .int .i64 0] 42))
            have HLT7 := Lib.hid ((HLT6.out.below hb7).alloc (.cells #[.int .i64 0, .int .i64 0, .int .i64 0, .int .i64 0] 42))
            have HK7 := Lib.hid (hk7.alloc (.cells #[.int .i64 0, .int .i64 0, .int .i64 0, .int .i64 0] 42))
            have hs7 : wo.heap.size < w7.heap.size := by have := hb7.size; simp only [World.size_alloc] at this; omega
            obtain ⟨q0, q1, q2, q3, q4⟩ := role_blk hk7
            clear hb7 HFC hk7 g4 c0 c1 c2 c3 c4
            go_wp2_with fail
            go_ret
            exact ⟨ret_bool (HG.out.trans F.out).symm, HB7.out⟩
          | some a =>
            have FV := Lib.hid (findV_yes hf)
            have HRI : Hid (roleIs ch ⟨rnm, rc, rk, rb, rm⟩ = ((a.kind == rk) && (a.basis == rb))) := roleIs_some hf
            clear hf
            obtain ⟨a0, a1, a2, a3⟩ := a
            simp only [] at FV HRI
            cases sv : roleSeen rs k rc
            case true =>
              have F : Hid (accsP gp = false) := HNO.out (by rw [HAT.out, sv]; simp)
              have HS2 : Hid (getB m rc = true) := HSN.out.trans sv
              clear sv
              go_wp2_with fail
              have HFC := Lib.hid (find_any ch Ac nc cc rc B _ (HC.out.rd.lowg hB (Nat.le_refl _) HB6.out) (by simp only [World.size_alloc]; omega) HC.out.le)
              refine HFC.out.mono ?_
              rintro e w7 ⟨rfl, hb7⟩
              rw [FV.out]
              have HB7 := Lib.hid ((below_two HB6.out hb7).alloc (by have := hb7.size; simp only [World.size_alloc] at this; omega) (.cells #[.int .i64 a0, .int .i64 a1, .int .i64 a2, .int .i64 a3] 42))
              have hk7 := HK6.out.below hb7 (by simp)
              have HM7 := Lib.hid ((HM6.out.below hb7 (by simp only [World.size_alloc]; omega)).alloc (.cells #[.int .i64 a0, .int .i64 a1, .int .i64 a2, .int .i64 a3] 42))
              have HE7 := Lib.hid ((HE6.out.below hb7 (by simp only [World.size_alloc]; omega)).alloc (.cells #[.int .i64 a0, .int .i64 a1, .int .i64 a2, .int .i64 a3] 42))
              have HLT7 := Lib.hid ((HLT6.out.below hb7).alloc (.cells #[.int .i64 a0, .int .i64 a1, .int .i64 a2, .int .i64 a3] 42))
              have HK7 := Lib.hid (hk7.alloc (.cells #[.int .i64 a0, .int .i64 a1, .int .i64 a2, .int .i64 a3] 42))
              have hs7 : wo.heap.size < w7.heap.size := by have := hb7.size; simp only [World.size_alloc] at this; omega
              obtain ⟨q0, q1, q2, q3, q4⟩ := role_blk hk7
              clear hb7 HFC hk7 g4 c0 c1 c2 c3 c4
              go_wp2_with (at_lookup; refine wpList_lookupB_want (M := MI) _ (by first | rfl | simp [Region.wanted, yielded]) _ _ rfl mb m rc rfl rfl HM7.out HKO.out ?_; rw [HS2.out])
              go_ret
              exact ⟨ret_bool (HG.out.trans F.out).symm, HB7.out⟩
            case false =>
              have HS2 : Hid (getB m rc = false) := HSN.out.trans sv
              have HAT2 : Hid (roleAt ch rs k = ((a1 == rk) && (a2 == rb))) := by show _ = _; rw [HAT.out, sv, HRI.out]; simp
              clear sv
              cases e1 : a1 == rk
              case false =>
                have e1' : (a1 != rk) = true := by rw [bne, e1]; rfl
                have F : Hid (accsP gp = false) := HNO.out (by rw [HAT2.out, e1]; rfl)
                go_wp2_with fail
                have HFC := Lib.hid (find_any ch Ac nc cc rc B _ (HC.out.rd.lowg hB (Nat.le_refl _) HB6.out) (by simp only [World.size_alloc]; omega) HC.out.le)
                refine HFC.out.mono ?_
                rintro e w7 ⟨rfl, hb7⟩
                rw [FV.out]
                have HB7 := Lib.hid ((below_two HB6.out hb7).alloc (by have := hb7.size; simp only [World.size_alloc] at this; omega) (.cells #[.int .i64 a0, .int .i64 a1, .int .i64 a2, .int .i64 a3] 42))
                have hk7 := HK6.out.below hb7 (by simp)
                have HM7 := Lib.hid ((HM6.out.below hb7 (by simp only [World.size_alloc]; omega)).alloc (.cells #[.int .i64 a0, .int .i64 a1, .int .i64 a2, .int .i64 a3] 42))
                have HE7 := Lib.hid ((HE6.out.below hb7 (by simp only [World.size_alloc]; omega)).alloc (.cells #[.int .i64 a0, .int .i64 a1, .int .i64 a2, .int .i64 a3] 42))
                have HLT7 := Lib.hid ((HLT6.out.below hb7).alloc (.cells #[.int .i64 a0, .int .i64 a1, .int .i64 a2, .int .i64 a3] 42))
                have HK7 := Lib.hid (hk7.alloc (.cells #[.int .i64 a0, .int .i64 a1, .int .i64 a2, .int .i64 a3] 42))
                have hs7 : wo.heap.size < w7.heap.size := by have := hb7.size; simp only [World.size_alloc] at this; omega
                obtain ⟨q0, q1, q2, q3, q4⟩ := role_blk hk7
                clear hb7 HFC hk7 g4 c0 c1 c2 c3 c4
                go_wp2_with (at_lookup; refine wpList_lookupB_want (M := MI) _ (by first | rfl | simp [Region.wanted, yielded]) _ _ rfl mb m rc rfl rfl HM7.out HKO.out ?_; rw [HS2.out])
                go_ret
                exact ⟨ret_bool (HG.out.trans F.out).symm, HB7.out⟩
              case true =>
                have e1' : (a1 != rk) = false := by rw [bne, e1]; rfl
                cases e2 : a2 == rb
                case false =>
                  have e2' : (a2 != rb) = true := by rw [bne, e2]; rfl
                  have F : Hid (accsP gp = false) := HNO.out (by rw [HAT2.out, e1, e2]; rfl)
                  have HEE := Lib.hid e1
                  clear e1
                  go_wp2_with fail
                  have HFC := Lib.hid (find_any ch Ac nc cc rc B _ (HC.out.rd.lowg hB (Nat.le_refl _) HB6.out) (by simp only [World.size_alloc]; omega) HC.out.le)
                  refine HFC.out.mono ?_
                  rintro e w7 ⟨rfl, hb7⟩
                  rw [FV.out]
                  have HB7 := Lib.hid ((below_two HB6.out hb7).alloc (by have := hb7.size; simp only [World.size_alloc] at this; omega) (.cells #[.int .i64 a0, .int .i64 a1, .int .i64 a2, .int .i64 a3] 42))
                  have hk7 := HK6.out.below hb7 (by simp)
                  have HM7 := Lib.hid ((HM6.out.below hb7 (by simp only [World.size_alloc]; omega)).alloc (.cells #[.int .i64 a0, .int .i64 a1, .int .i64 a2, .int .i64 a3] 42))
                  have HE7 := Lib.hid ((HE6.out.below hb7 (by simp only [World.size_alloc]; omega)).alloc (.cells #[.int .i64 a0, .int .i64 a1, .int .i64 a2, .int .i64 a3] 42))
                  have HLT7 := Lib.hid ((HLT6.out.below hb7).alloc (.cells #[.int .i64 a0, .int .i64 a1, .int .i64 a2, .int .i64 a3] 42))
                  have HK7 := Lib.hid (hk7.alloc (.cells #[.int .i64 a0, .int .i64 a1, .int .i64 a2, .int .i64 a3] 42))
                  have hs7 : wo.heap.size < w7.heap.size := by have := hb7.size; simp only [World.size_alloc] at this; omega
                  obtain ⟨q0, q1, q2, q3, q4⟩ := role_blk hk7
                  clear hb7 HFC hk7 g4 c0 c1 c2 c3 c4
                  go_wp2_with (at_lookup; refine wpList_lookupB_want (M := MI) _ (by first | rfl | simp [Region.wanted, yielded]) _ _ rfl mb m rc rfl rfl HM7.out HKO.out ?_; rw [HS2.out])
                  go_ret
                  exact ⟨ret_bool (HG.out.trans F.out).symm, HB7.out⟩
                case true =>
                  have e2' : (a2 != rb) = false := by rw [bne, e2]; rfl
                  have F := Lib.hid (allR_step HD.out (by rw [HAT2.out, e1, e2]; rfl))
                  have HEE := Lib.hid (And.intro e1 e2)
                  clear e1 e2
                  go_wp2_with fail
                  have HFC := Lib.hid (find_any ch Ac nc cc rc B _ (HC.out.rd.lowg hB (Nat.le_refl _) HB6.out) (by simp only [World.size_alloc]; omega) HC.out.le)
                  refine HFC.out.mono ?_
                  rintro e w7 ⟨rfl, hb7⟩
                  rw [FV.out]
                  have HB7 := Lib.hid ((below_two HB6.out hb7).alloc (by have := hb7.size; simp only [World.size_alloc] at this; omega) (.cells #[.int .i64 a0, .int .i64 a1, .int .i64 a2, .int .i64 a3] 42))
                  have hk7 := HK6.out.below hb7 (by simp)
                  have HM7 := Lib.hid ((HM6.out.below hb7 (by simp only [World.size_alloc]; omega)).alloc (.cells #[.int .i64 a0, .int .i64 a1, .int .i64 a2, .int .i64 a3] 42))
                  have HE7 := Lib.hid ((HE6.out.below hb7 (by simp only [World.size_alloc]; omega)).alloc (.cells #[.int .i64 a0, .int .i64 a1, .int .i64 a2, .int .i64 a3] 42))
                  have HLT7 := Lib.hid ((HLT6.out.below hb7).alloc (.cells #[.int .i64 a0, .int .i64 a1, .int .i64 a2, .int .i64 a3] 42))
                  have HK7 := Lib.hid (hk7.alloc (.cells #[.int .i64 a0, .int .i64 a1, .int .i64 a2, .int .i64 a3] 42))
                  have hs7 : wo.heap.size < w7.heap.size := by have := hb7.size; simp only [World.size_alloc] at this; omega
                  obtain ⟨q0, q1, q2, q3, q4⟩ := role_blk hk7
                  clear hb7 HFC hk7 g4 c0 c1 c2 c3 c4
                  go_wp2_with (first
                    | (at_lookup; refine wpList_lookupB_want (M := MI) _ (by first | rfl | simp [Region.wanted, yielded]) _ _ rfl mb m rc rfl rfl HM7.out HKO.out ?_; rw [HS2.out])
                    | (at_mapUpdate; refine wpList_storeB (M := MI) _ rfl _ _ _ rfl mb m rc true rfl rfl rfl HM7.out HKO.out ?_; intro w8 hm8 hg8))
                  have hs8 := HB7.out.size
                  refine ⟨⟨k + 1, putB m rc true, by go_num, by omega, F.out, hm8, ?_, HB7.out.grown hg8 hs8 (fun j hj => by cases hj; omega), HE7.out.grown hg8 (by intro e; have := Option.some.inj e; omega), HLT7.out.grown hg8 (by intro e; have := Option.some.inj e; have := HNE.out; omega)⟩, by simp [intOf]; omega⟩
                  intro c
                  rw [getB_putB, HST.out, HGT.out]
                  by_cases hcc : rc = c
                  · rw [if_pos hcc, beq_iff_eq.2 hcc, Bool.or_true]
                  · rw [if_neg hcc, beq_eq_false_iff_ne.2 hcc, Bool.or_false]
end Go.Proofs.YtcmmppkmkejniaaGreatDoor
namespace Go.Proofs.YtcmmppkmkejniaaGreatDoor
open Go.RowKit
set_option linter.unusedVariables false
def clsK (rs : List SRole) (k : Nat) (c : Int) : Bool := (rs.take k).foldl (fun v r => if r.code = c then !r.mapped else v) false
theorem clsK_step {rs : List SRole} {k : Nat} (hk : k < rs.length) (c : Int) : clsK rs (k + 1) c = if (rs.getD k default).code = c then !(rs.getD k default).mapped else clsK rs k c := by
  unfold clsK
  rw [List.take_succ_eq_append_getElem hk, List.foldl_append]
  simp [List.getD, hk]
theorem clsK_all {rs : List SRole} {k : Nat} (hk : rs.length ≤ k) (c : Int) : clsK rs k c = closedP rs c := by
  unfold clsK closedP
  rw [List.take_of_length_le hk]
theorem entP_1 {g : PGrp} {e : PEnt} (h : nmOk e.name = false) : entP g e = false := by unfold entP; rw [h]; rfl
theorem entP_2 {g : PGrp} {e : PEnt} (h : curOk e.cur = false) : entP g e = false := by unfold entP; rw [h]; simp
theorem entP_3 {g : PGrp} {e : PEnt} (h : mapP e.chart g.chart e.links = false) : entP g e = false := by unfold entP; rw [h]; simp
theorem entP_4 {g : PGrp} {e : PEnt} (h1 : nmOk e.name = true) (h2 : curOk e.cur = true) (h3 : mapP e.chart g.chart e.links = true) : entP g e = !e.links.any fun x => closedP (rolesL g.roles) x.to_ := by unfold entP; rw [h1, h2, h3]; simp
theorem contC_any (ls : List SLink) (g mb : Nat) (m : List (Int × Bool)) (hok : ∀ x ∈ ls, LinkOk x) (A : Option Addr) (n c B : Nat) (w : World) (hr : Reads w B 3 A n (linksC ls)) (hB : B ≤ w.heap.size) (hn : n ≤ 9223372036854775807) (hb : BoxM g mb m w) :
    Calls Tryz.prog 89 #[.slice A n c, .func (.func 90) #[] #[.pointer (some ⟨g, 0, none⟩)]] w fun e w' => e = .returned (.bool (ls.any fun x => getB m x.to_)) ∧ Below w.heap.size w w' :=
  contL_any 90 #[.pointer (some ⟨g, 0, none⟩)] (fun x => getB m x.to_) (BoxM g mb m) enter_ent1 (fun _ _ h hb => h.below hb) ls (fun x hx w hw => ent1_any x g mb m w (hok x hx) hw) A n c B w hr hB hn hb
set_option maxRecDepth 100000 in
set_option maxHeartbeats 8000000 in
theorem ent_any (g : SGrp) (x : SEnt) (B : Nat) (w : World) (hg : GrpIn w B g) (hx : EntIn w B x) (hB : B ≤ w.heap.size) (hn : g.nc ≤ 1000) (hxn : x.nc ≤ 1000) :
    Calls Tryz.prog 63 #[grpV g, entV x] w fun e w' => e = .returned (.bool (entP g.p x.p)) ∧ Below w.heap.size w w' := by
  obtain ⟨cu, yr, mo, pe, Ac, nc, cc, ch, ro, Ae, ne, ce, es⟩ := g
  obtain ⟨nm, xu, Xc, xn, xc, xch, Al, nl, cl, ls, jt⟩ := x
  have HMV : Hid (∀ W : World, Below w.heap.size w W → Calls Tryz.prog 88 #[.agg #[.string ⟨nm.toArray⟩, .string ⟨xu.toArray⟩, .slice Xc xn xc, .slice Al nl cl, .bool jt], .slice Ac nc cc] W fun e w' => e = .returned (.bool (mapP xch ch ls)) ∧ Below W.heap.size W w') := fun W hW =>
    mapv_any ⟨nm, xu, Xc, xn, xc, xch, Al, nl, cl, ls, jt⟩ Ac nc cc ch B W (hx.low hB (Nat.le_refl _) hW) (hg.ch.low hB (Nat.le_refl _) hW) (by have := hW.size; omega) hxn hn
  unfold grpV entV
  have HRO := Lib.hid hg.ro
  have HLI := Lib.hid hx.li
  have hnm := hx.nm
  have hcu := hx.cu
  clear hg hx
  simp only [] at HRO HLI hn hxn hnm hcu ⊢
  obtain ⟨gp, hgp⟩ : ∃ gp, SGrp.p ⟨cu, yr, mo, pe, Ac, nc, cc, ch, ro, Ae, ne, ce, es⟩ = gp := ⟨_, rfl⟩
  have HGC : Hid (gp.chart = ch) := by show _ = _; rw [← hgp]; rfl
  have HGR : Hid (gp.roles = ro) := by show _ = _; rw [← hgp]; rfl
  obtain ⟨xp, hxp⟩ : ∃ xp, SEnt.p ⟨nm, xu, Xc, xn, xc, xch, Al, nl, cl, ls, jt⟩ = xp := ⟨_, rfl⟩
  have HXN : Hid (xp.name = nm) := by show _ = _; rw [← hxp]; rfl
  have HXU : Hid (xp.cur = xu) := by show _ = _; rw [← hxp]; rfl
  have HXC : Hid (xp.chart = xch) := by show _ = _; rw [← hxp]; rfl
  have HXL : Hid (xp.links = ls) := by show _ = _; rw [← hxp]; rfl
  rw [hgp, hxp]
  clear hgp hxp
  generalize hgo : entP gp xp = ok
  have HG := Lib.hid hgo.symm
  clear hgo
  have HB0 := Lib.hid (((Below.refl w.heap.size w).alloc (Nat.le_refl _) (.cells #[.string ⟨cu.toArray⟩, .int .i64 yr, .int .i64 mo, .int .i64 pe, .slice Ac nc cc, .int .i64 ro.c0, .int .i64 ro.c1, .int .i64 ro.c2, .int .i64 ro.c3, .int .i64 ro.c4, .int .i64 ro.c5, .int .i64 ro.c6, .int .i64 ro.c7, .int .i64 ro.c8, .int .i64 ro.c9, .int .i64 ro.c10, .int .i64 ro.c11, .int .i64 ro.c12, .int .i64 ro.c13, .int .i64 ro.c14, .slice Ae ne ce] 29)).alloc (by simp) (.cells #[.string ⟨nm.toArray⟩, .string ⟨xu.toArray⟩, .slice Xc xn xc, .slice Al nl cl, .bool jt] 61))
  have HE := Lib.hid ((Blk.new w 29 #[.string ⟨cu.toArray⟩, .int .i64 yr, .int .i64 mo, .int .i64 pe, .slice Ac nc cc, .int .i64 ro.c0, .int .i64 ro.c1, .int .i64 ro.c2, .int .i64 ro.c3, .int .i64 ro.c4, .int .i64 ro.c5, .int .i64 ro.c6, .int .i64 ro.c7, .int .i64 ro.c8, .int .i64 ro.c9, .int .i64 ro.c10, .int .i64 ro.c11, .int .i64 ro.c12, .int .i64 ro.c13, .int .i64 ro.c14, .slice Ae ne ce]).alloc (.cells #[.string ⟨nm.toArray⟩, .string ⟨xu.toArray⟩, .slice Xc xn xc, .slice Al nl cl, .bool jt] 61))
  have HX : Hid (Blk ((w.alloc (.cells #[.string ⟨cu.toArray⟩, .int .i64 yr, .int .i64 mo, .int .i64 pe, .slice Ac nc cc, .int .i64 ro.c0, .int .i64 ro.c1, .int .i64 ro.c2, .int .i64 ro.c3, .int .i64 ro.c4, .int .i64 ro.c5, .int .i64 ro.c6, .int .i64 ro.c7, .int .i64 ro.c8, .int .i64 ro.c9, .int .i64 ro.c10, .int .i64 ro.c11, .int .i64 ro.c12, .int .i64 ro.c13, .int .i64 ro.c14, .slice Ae ne ce] 29)).alloc (.cells #[.string ⟨nm.toArray⟩, .string ⟨xu.toArray⟩, .slice Xc xn xc, .slice Al nl cl, .bool jt] 61)) (w.heap.size + 1) 61 #[.string ⟨nm.toArray⟩, .string ⟨xu.toArray⟩, .slice Xc xn xc, .slice Al nl cl, .bool jt]) := by
    have := Blk.new (w.alloc (.cells #[.string ⟨cu.toArray⟩, .int .i64 yr, .int .i64 mo, .int .i64 pe, .slice Ac nc cc, .int .i64 ro.c0, .int .i64 ro.c1, .int .i64 ro.c2, .int .i64 ro.c3, .int .i64 ro.c4, .int .i64 ro.c5, .int .i64 ro.c6, .int .i64 ro.c7, .int .i64 ro.c8, .int .i64 ro.c9, .int .i64 ro.c10, .int .i64 ro.c11, .int .i64 ro.c12, .int .i64 ro.c13, .int .i64 ro.c14, .slice Ae ne ce] 29)) 61 #[.string ⟨nm.toArray⟩, .string ⟨xu.toArray⟩, .slice Xc xn xc, .slice Al nl cl, .bool jt]
    simp only [World.size_alloc] at this
    exact this
  have hs0 : ((w.alloc (.cells #[.string ⟨cu.toArray⟩, .int .i64 yr, .int .i64 mo, .int .i64 pe, .slice Ac nc cc, .int .i64 ro.c0, .int .i64 ro.c1, .int .i64 ro.c2, .int .i64 ro.c3, .int .i64 ro.c4, .int .i64 ro.c5, .int .i64 ro.c6, .int .i64 ro.c7, .int .i64 ro.c8, .int .i64 ro.c9, .int .i64 ro.c10, .int .i64 ro.c11, .int .i64 ro.c12, .int .i64 ro.c13, .int .i64 ro.c14, .slice Ae ne ce] 29)).alloc (.cells #[.string ⟨nm.toArray⟩, .string ⟨xu.toArray⟩, .slice Xc xn xc, .slice Al nl cl, .bool jt] 61)).heap.size = w.heap.size + 1 + 1 := by simp
  have hmm := @run_makeMap Tryz.prog
  go_enter Tryz.func63, Tryz.ntmps63
  go_wp2_with fail
  generalize hw0 : (w.alloc _).alloc _ = w0 at *
  clear hw0
  obtain ⟨x0, x1, x2, x3, x4⟩ := ent_blk HX.out
  refine (nm_any nm _ hnm).mono ?_
  rintro e wx ⟨rfl, rfl⟩
  cases v1 : nmOk nm
  case false =>
    have F : Hid (entP gp xp = false) := entP_1 (by rw [HXN.out]; exact v1)
    clear v1
    go_wp2_with fail
    go_ret
    exact ⟨ret_bool (HG.out.trans F.out).symm, HB0.out⟩
  case true =>
    have V1 := Lib.hid v1
    clear v1
    go_wp2_with fail
    refine (cur_any xu _ hcu).mono ?_
    rintro e wx ⟨rfl, rfl⟩
    cases v2 : curOk xu
    case false =>
      have F : Hid (entP gp xp = false) := entP_2 (by rw [HXU.out]; exact v2)
      clear v2
      go_wp2_with fail
      go_ret
      exact ⟨ret_bool (HG.out.trans F.out).symm, HB0.out⟩
    case true =>
      have V2 := Lib.hid v2
      clear v2
      have g4 := HE.out.cell 4
      simp only [List.getElem?_toArray, List.getElem?_cons_succ, List.getElem?_cons_zero] at g4
      go_wp2_with fail
      refine (HMV.out _ HB0.out).mono ?_
      rintro e w1 ⟨rfl, hb1⟩
      have HB1 := Lib.hid (below_two HB0.out hb1)
      have HE1 := Lib.hid (HE.out.below hb1 (by omega))
      have HX1 := Lib.hid (HX.out.below hb1 (by omega))
      have hs1 : w.heap.size + 1 < w1.heap.size := by have := hb1.size; omega
      clear hb1 g4 x0 x1 x2 x3 x4
      cases v3 : mapP xch ch ls
      case false =>
        have F : Hid (entP gp xp = false) := entP_3 (by rw [HXC.out, HGC.out, HXL.out]; exact v3)
        clear v3
        go_wp2_with fail
        go_ret
        exact ⟨ret_bool (HG.out.trans F.out).symm, HB1.out⟩
      case true =>
        have HEQ : Hid (entP gp xp = !ls.any fun x => closedP (rolesL ro) x.to_) := by
          have := entP_4 (g := gp) (e := xp) (by rw [HXN.out]; exact V1.out) (by rw [HXU.out]; exact V2.out) (by rw [HXC.out, HGC.out, HXL.out]; exact v3)
          rw [HXL.out, HGR.out] at this
          exact this
        clear v3
        have HM0 := Lib.hid ((MapB.made (M := MI) w1).alloc (.cells #[.map (some w1.heap.size)] 132))
        have HB3 := Lib.hid ((HB1.out.alloc (by omega) (.map #[] 0)).alloc (by simp only [World.size_alloc]; omega) (.cells #[.map (some w1.heap.size)] 132))
        have HE3 := Lib.hid ((HE1.out.alloc (.map #[] 0)).alloc (.cells #[.map (some w1.heap.size)] 132))
        have HX3 := Lib.hid ((HX1.out.alloc (.map #[] 0)).alloc (.cells #[.map (some w1.heap.size)] 132))
        have HK3 : Hid (Blk ((w1.alloc (.map #[] 0)).alloc (.cells #[.map (some w1.heap.size)] 132)) (w1.heap.size + 1) 132 #[.map (some w1.heap.size)]) := by
          have := Blk.new (w1.alloc (.map #[] 0)) 132 #[.map (some w1.heap.size)]
          simp only [World.size_alloc] at this
          exact this
        obtain ⟨g0, g1, g2, g3, g4, g5, g6, g7, g8, g9, g10, g11, g12, g13, g14, g15, g16, g17, g18, g19, g20⟩ := grp_blk HE1.out
        have hs1b : w.heap.size < w1.heap.size := by omega
        have H4 : Hid (∀ W : World, Calls Tryz.prog 85 #[.agg #[.int .i64 ro.c0, .int .i64 ro.c1, .int .i64 ro.c2, .int .i64 ro.c3, .int .i64 ro.c4, .int .i64 ro.c5, .int .i64 ro.c6, .int .i64 ro.c7, .int .i64 ro.c8, .int .i64 ro.c9, .int .i64 ro.c10, .int .i64 ro.c11, .int .i64 ro.c12, .int .i64 ro.c13, .int .i64 ro.c14]] W fun e w' => ∃ ad : Addr, e = .returned (.slice (some ad) 15 15) ∧ Reads w' w'.heap.size 5 (some ad) 15 (rolesC (rolesL ro)) ∧ W.heap.size ≤ ad.block ∧ Below W.heap.size W w') := fun W => roles_any ro W
        go_wp2_with fail
        refine (H4.out _).mono ?_
        rintro e w4 ⟨ad, rfl, hrd, had, hb4⟩
        have HB4 := Lib.hid (below_two HB3.out hb4)
        have HX4 := Lib.hid (HX3.out.below hb4 (by simp only [World.size_alloc]; omega))
        have HM4 := Lib.hid (HM0.out.below hb4 (by simp only [World.size_alloc]; omega))
        have HK4 := Lib.hid (HK3.out.below hb4 (by simp))
        have HLT4 := Lib.hid (LitAt.of hrd (by omega))
        have HNE : Hid (w1.heap.size + 1 < ad.block) := by show _ < _; simp only [World.size_alloc] at had; omega
        clear hrd had hb4 H4 g0 g1 g2 g3 g4 g5 g6 g7 g8 g9 g10 g11 g12 g13 g14 g15 g16 g17 g18 g19 g20
        have HRL : Hid ((rolesL ro).length = 15) := rolesL_len ro
        have HRCL : Hid ((rolesC (rolesL ro)).length = 15 * 5) := rolesC_len ro
        generalize rolesL ro = rs at *
        generalize hmbe : w1.heap.size = mb at *
        clear hmbe
        go_wp2_with fail
        go_loopw [30] (fun i wr => ∃ (k : Nat) (m : List (Int × Bool)), i = .int .i64 k ∧ k ≤ 15 ∧ MapB MI wr mb m ∧ (∀ c, getB m c = clsK rs k c) ∧ Below w.heap.size w wr ∧
          Blk wr (w.heap.size + 1) 61 #[.string ⟨nm.toArray⟩, .string ⟨xu.toArray⟩, .slice Xc xn xc, .slice Al nl cl, .bool jt] ∧ LitAt wr ad (rolesC rs) ∧ Blk wr (mb + 1) 132 #[.map (some mb)]) (fun i _ => 15 - (intOf i).toNat)
        case atStart => exact ⟨0, [], rfl, by omega, HM4.out, fun _ => rfl, HB4.out, HX4.out, HLT4.out, HK4.out⟩
        case round =>
          obtain ⟨k, m, rfl, hk, hm, hgt, hbr, hbl, hlit, hbk⟩ := hrel
          obtain ⟨wo, rfl⟩ : ∃ wo : World, wo = wr := ⟨_, rfl⟩
          have HM := Lib.hid hm
          have HGT := Lib.hid hgt
          have HXO := Lib.hid hbl
          have HLT := Lib.hid hlit
          have HBK := Lib.hid hbk
          have hlt0 := hbl.lt
          have hml := hm.lt
          have hkl0 := hbk.lt
          have b0 := hbk.cell 0
          simp only [List.getElem?_toArray, List.getElem?_cons_zero] at b0
          clear hm hgt hlit hbk
          by_cases hlt : k < 15
          case neg =>
            have k3 : decide ((k : Int) < 15) = false := by rw [decide_eq_false_iff_not]; omega
            obtain ⟨x0, x1, x2, x3, x4⟩ := ent_blk hbl
            have HCC := Lib.hid (contC_any ls (mb + 1) mb m HLI.out.ok Al nl cl B wo (HLI.out.rd.lowg hB (Nat.le_refl _) hbr) (by have := hbr.size; omega) HLI.out.le ⟨HBK.out, HM.out⟩)
            have HFIN : Hid ((ls.any fun x => getB m x.to_) = ls.any fun x => closedP rs x.to_) := by
              show _ = _
              congr 1
              funext x
              rw [HGT.out, clsK_all (by rw [HRL.out]; omega)]
            go_wp2_with fail
            refine HCC.out.mono ?_
            rintro e w9 ⟨rfl, hb9⟩
            rw [HFIN.out]
            have HB9 := Lib.hid (below_two hbr hb9)
            clear hb9 HCC
            generalize (ls.any fun x => closedP rs x.to_) = av at *
            go_wp2_with fail
            go_ret
            exact ⟨ret_bool (HG.out.trans HEQ.out).symm, HB9.out⟩
          case pos =>
            have k3 : decide ((k : Int) < 15) = true := by rw [decide_eq_true_eq]; omega
            have b15 : (k : Int) < 15 := by omega
            have hkl : k < rs.length := by rw [HRL.out]; exact hlt
            obtain ⟨ad', ead, hbk2, c0, c1, c2, c3, c4⟩ := (HLT.out.reads HRCL.out).role_at hlt
            injection ead with ead
            subst ead
            have HOKX := Lib.hid (HRO.out (rs.getD k default) (by simp [List.getD, hkl]))
            have HST : Hid (∀ c : Int, clsK rs (k + 1) c = if (rs.getD k default).code = c then !(rs.getD k default).mapped else clsK rs k c) := fun c => clsK_step hkl c
            clear hkl hbl
            generalize rs.getD k default = x at *
            obtain ⟨rnm, rc, rk, rb, rm⟩ := x
            simp only [] at c0 c1 c2 c3 c4 HST HOKX
            have HKO : Hid (MI.ok rc) := HOKX.out
            have hs3 := hbr.size
            have HB6 := Lib.hid (hbr.alloc hs3 (.cells #[.string ⟨rnm.toArray⟩, .int .i64 rc, .int .i64 rk, .int .i64 rb, .bool rm] 136))
            have HM6 := Lib.hid (HM.out.alloc (.cells #[.string ⟨rnm.toArray⟩, .int .i64 rc, .int .i64 rk, .int .i64 rb, .bool rm] 136))
            have HX6 := Lib.hid (HXO.out.alloc (.cells #[.string ⟨rnm.toArray⟩, .int .i64 rc, .int .i64 rk, .int .i64 rb, .bool rm] 136))
            have HLT6 := Lib.hid (HLT.out.alloc (.cells #[.string ⟨rnm.toArray⟩, .int .i64 rc, .int .i64 rk, .int .i64 rb, .bool rm] 136))
            have HBK6 := Lib.hid (HBK.out.alloc (.cells #[.string ⟨rnm.toArray⟩, .int .i64 rc, .int .i64 rk, .int .i64 rb, .bool rm] 136))
            go_wp2_with (at_mapUpdate; refine wpList_storeB (M := MI) _ rfl _ _ _ rfl mb m rc (!rm) rfl rfl rfl HM6.out HKO.out ?_; intro w8 hm8 hg8)
            refine ⟨⟨k + 1, putB m rc (!rm), by go_num, by omega, hm8, ?_, HB6.out.grown hg8 (by simp only [World.size_alloc]; omega) (fun j hj => by cases hj; omega), HX6.out.grown hg8 (by intro e; have := Option.some.inj e; omega), HLT6.out.grown hg8 (by intro e; have := Option.some.inj e; have := HNE.out; omega), HBK6.out.grown hg8 (by intro e; have := Option.some.inj e; omega)⟩, by simp [intOf]; omega⟩
            intro c
            rw [getB_putB, HST.out, HGT.out]
end Go.Proofs.YtcmmppkmkejniaaGreatDoor
