/-
  Dates: plain laws.
-/
import Derived.Test.YtfnlddloalineaaGreatDoorDig
namespace Go.Proofs.YtfnlddloalineaaGreatDoor
set_option linter.unusedVariables false
def leapB (y : Int) : Bool := y % 4 == 0 && (y % 100 != 0 || y % 400 == 0)
def mtab (m : Int) : Int := if m = 2 then 28 else if m = 4 ∨ m = 6 ∨ m = 9 ∨ m = 11 then 30 else 31
def dayM (y m : Int) : Int := if 1900 ≤ y ∧ y ≤ 2199 ∧ 1 ≤ m ∧ m ≤ 12 then (if m = 2 ∧ leapB y = true then 29 else mtab m) else 0
def beginY (y : Int) : Int := 365 * (y - 1) + (y - 1) / 4 - (y - 1) / 100 + (y - 1) / 400 - 719162
def cumM (y : Int) : Nat → Int
  | 0 => 0
  | k + 1 => cumM y k + dayM y (k + 1)
def lpI (y : Int) : Int := if leapB y = true then 1 else 0
theorem leapB_iff {y : Int} : leapB y = true ↔ y % 4 = 0 ∧ (y % 100 ≠ 0 ∨ y % 400 = 0) := by
  unfold leapB
  simp only [Bool.and_eq_true, Bool.or_eq_true, beq_iff_eq, bne_iff_ne, ne_eq]
theorem lpI_bd (y : Int) : 0 ≤ lpI y ∧ lpI y ≤ 1 := by unfold lpI; split <;> omega
theorem beginY_succ (y : Int) : beginY (y + 1) = beginY y + 365 + lpI y := by
  unfold lpI beginY
  by_cases h : leapB y = true
  · rw [if_pos h]
    have := leapB_iff.1 h
    omega
  · rw [if_neg h]
    rw [leapB_iff] at h
    omega
theorem mtab_bd (m : Int) : 28 ≤ mtab m ∧ mtab m ≤ 31 := by
  unfold mtab
  split
  · omega
  · split <;> omega
theorem dayM_in {y m : Int} (hy : 1900 ≤ y ∧ y ≤ 2199) (hm : 1 ≤ m ∧ m ≤ 12) : dayM y m = if m = 2 then 28 + lpI y else mtab m := by
  unfold dayM lpI
  rw [if_pos ⟨hy.1, hy.2, hm.1, hm.2⟩]
  by_cases h2 : m = 2
  · subst h2
    cases leapB y
    · simp [mtab]
    · simp
  · rw [if_neg (fun h => h2 h.1), if_neg h2]
theorem dayM_out {y m : Int} (h : ¬ (1900 ≤ y ∧ y ≤ 2199 ∧ 1 ≤ m ∧ m ≤ 12)) : dayM y m = 0 := by unfold dayM; rw [if_neg h]
theorem dayM_bd (y m : Int) : 0 ≤ dayM y m ∧ dayM y m ≤ 31 := by
  by_cases h : 1900 ≤ y ∧ y ≤ 2199 ∧ 1 ≤ m ∧ m ≤ 12
  · rw [dayM_in ⟨h.1, h.2.1⟩ h.2.2]
    have := lpI_bd y
    have := mtab_bd m
    split <;> omega
  · rw [dayM_out h]; omega
theorem dayM_lo {y m : Int} (hy : 1900 ≤ y ∧ y ≤ 2199) (hm : 1 ≤ m ∧ m ≤ 12) : 28 ≤ dayM y m := by
  rw [dayM_in hy hm]
  have := lpI_bd y
  have := mtab_bd m
  split <;> omega
theorem cumM_bd (y : Int) (k : Nat) : 0 ≤ cumM y k ∧ cumM y k ≤ 31 * k := by
  induction k with
  | zero => simp [cumM]
  | succ k ih =>
    have := dayM_bd y (k + 1)
    show 0 ≤ cumM y k + dayM y (k + 1) ∧ cumM y k + dayM y (k + 1) ≤ 31 * ((k + 1 : Nat) : Int)
    omega
theorem cumM_year {y : Int} (hy : 1900 ≤ y ∧ y ≤ 2199) : cumM y 12 = 365 + lpI y := by
  have d : ∀ m : Int, 1 ≤ m → m ≤ 12 → dayM y m = if m = 2 then 28 + lpI y else mtab m := fun m h1 h2 => dayM_in hy ⟨h1, h2⟩
  simp only [cumM]
  rw [d _ (by omega) (by omega), d _ (by omega) (by omega), d _ (by omega) (by omega), d _ (by omega) (by omega), d _ (by omega) (by omega), d _ (by omega) (by omega), d _ (by omega) (by omega), d _ (by omega) (by omega), d _ (by omega) (by omega), d _ (by omega) (by omega), d _ (by omega) (by omega), d _ (by omega) (by omega)]
  simp [mtab]
  omega
theorem cumM_mono {y : Int} {a b : Nat} (h : a ≤ b) : cumM y a ≤ cumM y b := by
  induction b with
  | zero => have : a = 0 := by omega
            subst this; exact Int.le_refl _
  | succ b ih =>
    by_cases e : a = b + 1
    · subst e; exact Int.le_refl _
    · have := ih (by omega)
      have := dayM_bd y (b + 1)
      show cumM y a ≤ cumM y b + dayM y (b + 1)
      omega
/-- the number of a day, or that there is none -/
def dayOk (y m d : Int) : Bool := decide (1 ≤ d) && decide (d ≤ dayM y m)
def dayN (y m d : Int) : Int := beginY y + cumM y (m - 1).toNat + d - 1
theorem dayOk_iff {y m d : Int} : dayOk y m d = true ↔ 1 ≤ d ∧ d ≤ dayM y m := by
  unfold dayOk
  rw [Bool.and_eq_true, decide_eq_true_eq, decide_eq_true_eq]
theorem dayOk_in {y m d : Int} (h : dayOk y m d = true) : (1900 ≤ y ∧ y ≤ 2199) ∧ (1 ≤ m ∧ m ≤ 12) ∧ 1 ≤ d ∧ d ≤ 31 := by
  have h1 := dayOk_iff.1 h
  have hb := dayM_bd y m
  by_cases hc : 1900 ≤ y ∧ y ≤ 2199 ∧ 1 ≤ m ∧ m ≤ 12
  · exact ⟨⟨hc.1, hc.2.1⟩, hc.2.2, h1.1, by omega⟩
  · rw [dayM_out hc] at h1; omega
theorem beginY_mono {a b : Int} (h : a ≤ b) : beginY a ≤ beginY b := by
  obtain ⟨n, rfl⟩ : ∃ n : Nat, b = a + n := ⟨(b - a).toNat, by omega⟩
  clear h
  induction n with
  | zero => rw [show a + ((0 : Nat) : Int) = a by omega]; exact Int.le_refl _
  | succ n ih =>
    have e := beginY_succ (a + n)
    have := lpI_bd (a + n)
    rw [show a + ((n + 1 : Nat) : Int) = a + n + 1 by omega]
    omega
theorem dayN_year {y m d : Int} (h : dayOk y m d = true) : beginY y ≤ dayN y m d ∧ dayN y m d < beginY (y + 1) := by
  obtain ⟨hy, hm, hd, _⟩ := dayOk_in h
  have h1 := (dayOk_iff.1 h).2
  have hc := cumM_bd y (m - 1).toNat
  have hs : cumM y ((m - 1).toNat + 1) = cumM y (m - 1).toNat + dayM y (((m - 1).toNat : Int) + 1) := rfl
  have hm1 : ((m - 1).toNat : Int) + 1 = m := by omega
  rw [hm1] at hs
  have hle := cumM_mono (y := y) (a := (m - 1).toNat + 1) (b := 12) (by omega)
  rw [cumM_year hy] at hle
  have e := beginY_succ y
  unfold dayN
  omega
theorem dayN_inj {y m d y' m' d' : Int} (h : dayOk y m d = true) (h' : dayOk y' m' d' = true) (e : dayN y m d = dayN y' m' d') : y = y' ∧ m = m' ∧ d = d' := by
  have b := dayN_year h
  have b' := dayN_year h'
  have hy : y = y' := by
    apply Classical.byContradiction
    intro hn
    rcases Int.lt_or_gt_of_ne hn with hl | hl
    · have := beginY_mono (a := y + 1) (b := y') (by omega); omega
    · have := beginY_mono (a := y' + 1) (b := y) (by omega); omega
  subst hy
  obtain ⟨_, hm, hd, _⟩ := dayOk_in h
  obtain ⟨_, hm', hd', _⟩ := dayOk_in h'
  have k := (dayOk_iff.1 h).2
  have k' := (dayOk_iff.1 h').2
  have s : ∀ q : Int, 1 ≤ q → cumM y q.toNat = cumM y (q - 1).toNat + dayM y q := by
    intro q hq
    obtain ⟨n, rfl⟩ : ∃ n : Nat, q = (n : Int) + 1 := ⟨(q - 1).toNat, by omega⟩
    rw [show ((n : Int) + 1).toNat = n + 1 by omega, show ((n : Int) + 1 - 1).toNat = n by omega]
    rfl
  have hm2 : m = m' := by
    apply Classical.byContradiction
    intro hn
    unfold dayN at e
    rcases Int.lt_or_gt_of_ne hn with hl | hl
    · have := cumM_mono (y := y) (a := m.toNat) (b := (m' - 1).toNat) (by omega)
      have := s m hm.1
      omega
    · have := cumM_mono (y := y) (a := m'.toNat) (b := (m - 1).toNat) (by omega)
      have := s m' hm'.1
      omega
  subst hm2
  refine ⟨rfl, rfl, ?_⟩
  unfold dayN at e
  omega
theorem dayN_bd {y m d : Int} (h : dayOk y m d = true) : -25567 ≤ dayN y m d ∧ dayN y m d ≤ 84005 := by
  have b := dayN_year h
  obtain ⟨hy, _⟩ := dayOk_in h
  have h1 := beginY_mono (a := 1900) (b := y) hy.1
  have h2 := beginY_mono (a := y + 1) (b := 2200) (by omega)
  have e1 : beginY 1900 = -25567 := by decide
  have e2 : beginY 2200 = 84006 := by decide
  omega
theorem beginY_bd {y : Int} (h : 0 ≤ y) (h' : y ≤ 10000) : -719600 ≤ beginY y ∧ beginY y ≤ 3000000 := by unfold beginY; omega
end Go.Proofs.YtfnlddloalineaaGreatDoor
