/-
  Calendars: Valid of both.
  group.Valid.
  The reference's Valid of mappings.
  The reference's Account and Find (of entities).
-/
import Derived.Test.YtcmmppkmkejniaaGreatDoorBlG2
import Derived.Deep.QuietTactic
import Derived.BigQuiet
namespace Go.Proofs.YtcmmppkmkejniaaGreatDoor
open Go.RowKit
set_option linter.unusedVariables false
theorem calOk_iff {y m p : Int} : calOk y m p = true ↔ 1 ≤ m ∧ m ≤ 12 ∧ 1 ≤ p ∧ p ≤ 120 ∧ 1900 ≤ y ∧ y ≤ 2199 ∧ (12 * y + m - 1 + (p - 1)) / 12 ≤ 2199 := by
  unfold calOk
  simp only [Bool.and_eq_true, decide_eq_true_eq, and_assoc]
theorem calOk_no {y m p : Int} (h : ¬ (1 ≤ m ∧ m ≤ 12 ∧ 1 ≤ p ∧ p ≤ 120 ∧ 1900 ≤ y ∧ y ≤ 2199 ∧ (12 * y + m - 1 + (p - 1)) / 12 ≤ 2199)) : calOk y m p = false := by
  cases e : calOk y m p
  · rfl
  · exact absurd (calOk_iff.1 e) h
/-- the first day of a month is a day just if the year is one -/
theorem dayOk_one {y m : Int} (hm : 1 ≤ m ∧ m ≤ 12) : dayOk y m 1 = true ↔ 1900 ≤ y ∧ y ≤ 2199 := by
  rw [dayOk_iff]
  constructor
  · rintro ⟨_, h⟩
    apply Classical.byContradiction
    intro hn
    rw [dayM_out (fun h' => hn ⟨h'.1, h'.2.1⟩)] at h
    omega
  · intro h
    have := dayM_lo h hm
    omega
theorem ofR_two (y m d : Int) : ∃ N E : Int, ofR y m d = .tuple #[.int .i64 N, .int .i64 E] := by
  unfold ofR
  split
  · exact ⟨_, _, rfl⟩
  · exact ⟨_, _, rfl⟩
theorem dayN_lo {y m d : Int} (h : dayOk y m d = true) : -25567 ≤ dayN y m d ∧ dayN y m d ≤ 84005 := dayN_bd h
def firR (y m q : Int) : Value := ofR ((12 * y + m - 1 + q) / 12) ((12 * y + m - 1 + q) % 12 + 1) 1
theorem firR_yes {y m q : Int} (hy : 1900 ≤ y) (hm : 1 ≤ m) (hq : 0 ≤ q) (h : (12 * y + m - 1 + q) / 12 ≤ 2199) : ∃ N : Int, firR y m q = .tuple #[.int .i64 N, .int .i64 0] := by
  have h1 := (dayOk_one (y := (12 * y + m - 1 + q) / 12) (m := (12 * y + m - 1 + q) % 12 + 1) (by omega)).2 (by omega)
  exact ⟨_, by unfold firR ofR; rw [if_pos h1]⟩
theorem firR_no {y m q : Int} (h : ¬ (12 * y + m - 1 + q) / 12 ≤ 2199) : firR y m q = .tuple #[.int .i64 0, .int .i64 2] := by
  unfold firR
  exact ofR_no (fun h' => by rw [dayM_out (by omega)] at h'; omega)
set_option maxRecDepth 100000 in
set_option maxHeartbeats 2000000 in
theorem first_any (y m p q : Int) (w : World) (hy : 1900 ≤ y) (hy2 : y ≤ 2199) (hm : 1 ≤ m) (hm2 : m ≤ 12) (hq : 0 ≤ q) (hq2 : q ≤ 119) :
    Calls Tryz.prog 80 #[.agg #[.int .i64 y, .int .i64 m, .int .i64 p], .int .i64 q] w fun e w' => e = .returned (firR y m q) ∧ Below w.heap.size w w' := by
  have HB0 := Lib.hid ((Below.refl w.heap.size w).alloc (Nat.le_refl _) (.cells (#[.int .i64 y, .int .i64 m, .int .i64 p] : Array Value) 23))
  have HO : Hid (∀ w : World, Calls Tryz.prog 106 #[.int .i64 ((12 * y + m - 1 + q) / 12), .int .i64 ((12 * y + m - 1 + q) % 12 + 1), .int .i64 1] w fun e w' => e = .returned (firR y m q) ∧ Below w.heap.size w w') := fun w => of_any _ _ _ w
  go_enter Tryz.func80, Tryz.ntmps80
  go_wp2_with fail
  refine (HO.out _).mono ?_
  rintro e w1 ⟨rfl, hb1⟩
  have HB1 := Lib.hid (below_two HB0.out hb1)
  clear hb1 HO
  obtain ⟨N, E, hNE⟩ := ofR_two ((12 * y + m - 1 + q) / 12) ((12 * y + m - 1 + q) % 12 + 1) 1
  have HF : Hid (firR y m q = .tuple #[.int .i64 N, .int .i64 E]) := hNE
  clear hNE
  rw [HF.out]
  go_wp2_with fail
  go_ret2
  exact ⟨by rw [HF.out]; rfl, HB1.out⟩
set_option maxRecDepth 100000 in
set_option maxHeartbeats 4000000 in
theorem radd_any (y m q : Int) (w : World) (hd : dayOk y m 1 = true) (hq : 0 ≤ q) (hq2 : q ≤ 119) :
    Calls Tryz.prog 93 #[.int .i64 (dayN y m 1), .int .i64 q] w fun e w' => e = .returned (firR y m q) ∧ Below w.heap.size w w' := by
  obtain ⟨⟨hy, hy2⟩, ⟨hm, hm2⟩, _, _⟩ := dayOk_in hd
  have hbd := dayN_bd hd
  have HC := Lib.hid (refCivil_yes (dayN y m 1) w hbd.1 hbd.2)
  have HD := Lib.hid hd
  clear hd hbd
  generalize hN : dayN y m 1 = N at *
  have HN := Lib.hid hN
  clear hN
  go_enter Tryz.func93, Tryz.ntmps93
  go_wp2_with fail
  refine HC.out.mono ?_
  rintro e w1 ⟨y', m', d', rfl, hok, hn, hb1⟩
  obtain ⟨rfl, rfl, rfl⟩ := dayN_inj hok HD.out (hn.trans HN.out.symm)
  have HB1 := Lib.hid hb1
  clear hok hn hb1 HC
  by_cases hY : (12 * y' + m' - 1 + q) / 12 ≤ 2199
  · have hY1 : 1900 ≤ (12 * y' + m' - 1 + q) / 12 := by omega
    have hM1 : 1 ≤ (12 * y' + m' - 1 + q) % 12 + 1 := by omega
    have hM2 : (12 * y' + m' - 1 + q) % 12 + 1 ≤ 12 := by omega
    have d1 : decide ((12 * y' + m' - 1 + q) / 12 < 1900) = false := by rw [decide_eq_false_iff_not]; omega
    have d2 : decide (2199 < (12 * y' + m' - 1 + q) / 12) = false := by rw [decide_eq_false_iff_not]; omega
    have hlo := dayM_lo (y := (12 * y' + m' - 1 + q) / 12) (m := (12 * y' + m' - 1 + q) % 12 + 1) ⟨hY1, hY⟩ ⟨hM1, hM2⟩
    have HDS : Hid (∀ w : World, Calls Tryz.prog 116 #[.int .i64 ((12 * y' + m' - 1 + q) / 12), .int .i64 ((12 * y' + m' - 1 + q) % 12 + 1)] w fun e w' => e = .returned (.int .i64 (dayM ((12 * y' + m' - 1 + q) / 12) ((12 * y' + m' - 1 + q) % 12 + 1))) ∧ w = w') := fun w => refDays_any _ _ w
    have HO : Hid (∀ w : World, Calls Tryz.prog 92 #[.int .i64 ((12 * y' + m' - 1 + q) / 12), .int .i64 ((12 * y' + m' - 1 + q) % 12 + 1), .int .i64 1] w fun e w' => e = .returned (firR y' m' q) ∧ w = w') := fun w => refOf_any _ _ _ w
    generalize dayM ((12 * y' + m' - 1 + q) / 12) ((12 * y' + m' - 1 + q) % 12 + 1) = DM at *
    go_wp2_with fail
    refine (HDS.out _).mono ?_
    rintro e wx ⟨rfl, rfl⟩
    have hmin : ¬ DM < 1 := by omega
    have hmin2 : 1 ≤ DM := by omega
    have hmin3 : min 1 DM = 1 := by omega
    clear HDS
    go_wp2_with fail
    refine (HO.out _).mono ?_
    rintro e wx ⟨rfl, rfl⟩
    obtain ⟨N2, E, hNE⟩ := ofR_two ((12 * y' + m' - 1 + q) / 12) ((12 * y' + m' - 1 + q) % 12 + 1) 1
    have HF : Hid (firR y' m' q = .tuple #[.int .i64 N2, .int .i64 E]) := hNE
    clear hNE HO
    rw [HF.out]
    go_wp2_with fail
    go_ret2
    exact ⟨by rw [HF.out]; rfl, HB1.out⟩
  · have d1 : decide ((12 * y' + m' - 1 + q) / 12 < 1900) = false := by rw [decide_eq_false_iff_not]; omega
    have d2 : decide (2199 < (12 * y' + m' - 1 + q) / 12) = true := by rw [decide_eq_true_eq]; omega
    have F := Lib.hid (firR_no hY)
    clear hY
    go_wp2_with fail
    go_ret2
    exact ⟨by rw [F.out]; rfl, HB1.out⟩
-- CALVALID
set_option maxRecDepth 100000 in
set_option maxHeartbeats 4000000 in
theorem cal_any (y m p : Int) (w : World) : Calls Tryz.prog 61 #[.agg #[.int .i64 y, .int .i64 m, .int .i64 p]] w fun e w' => e = .returned (.bool (calOk y m p)) ∧ Below w.heap.size w w' := by
  have HB0 := Lib.hid ((Below.refl w.heap.size w).alloc (Nat.le_refl _) (.cells (#[.int .i64 y, .int .i64 m, .int .i64 p] : Array Value) 23))
  generalize hgo : calOk y m p = ok
  have HG := Lib.hid hgo.symm
  clear hgo
  by_cases t1 : m < 1
  · have d1 : (decide (m < 1)) = true := by rw [decide_eq_true_eq]; omega
    have F := Lib.hid (calOk_no (y := y) (m := m) (p := p) (by rintro ⟨h, _⟩; omega))
    go_enter Tryz.func61, Tryz.ntmps61
    go_wp2_with fail
    go_ret
    exact ⟨ret_bool (HG.out.trans F.out).symm, HB0.out⟩
  have d1 : (decide (m < 1)) = false := by rw [decide_eq_false_iff_not]; omega
  by_cases t2 : 12 < m
  · have d2 : (decide (12 < m)) = true := by rw [decide_eq_true_eq]; omega
    have F := Lib.hid (calOk_no (y := y) (m := m) (p := p) (by rintro ⟨_, h, _⟩; omega))
    go_enter Tryz.func61, Tryz.ntmps61
    go_wp2_with fail
    go_ret
    exact ⟨ret_bool (HG.out.trans F.out).symm, HB0.out⟩
  have d2 : (decide (12 < m)) = false := by rw [decide_eq_false_iff_not]; omega
  by_cases t3 : p < 1
  · have d3 : (decide (p < 1)) = true := by rw [decide_eq_true_eq]; omega
    have F := Lib.hid (calOk_no (y := y) (m := m) (p := p) (by rintro ⟨_, _, h, _⟩; omega))
    go_enter Tryz.func61, Tryz.ntmps61
    go_wp2_with fail
    go_ret
    exact ⟨ret_bool (HG.out.trans F.out).symm, HB0.out⟩
  have d3 : (decide (p < 1)) = false := by rw [decide_eq_false_iff_not]; omega
  by_cases t4 : 120 < p
  · have d4 : (decide (120 < p)) = true := by rw [decide_eq_true_eq]; omega
    have F := Lib.hid (calOk_no (y := y) (m := m) (p := p) (by rintro ⟨_, _, _, h, _⟩; omega))
    go_enter Tryz.func61, Tryz.ntmps61
    go_wp2_with fail
    go_ret
    exact ⟨ret_bool (HG.out.trans F.out).symm, HB0.out⟩
  have d4 : (decide (120 < p)) = false := by rw [decide_eq_false_iff_not]; omega
  by_cases t5 : y < 1900
  · have d5 : (decide (y < 1900)) = true := by rw [decide_eq_true_eq]; omega
    have F := Lib.hid (calOk_no (y := y) (m := m) (p := p) (by rintro ⟨_, _, _, _, h, _⟩; omega))
    go_enter Tryz.func61, Tryz.ntmps61
    go_wp2_with fail
    go_ret
    exact ⟨ret_bool (HG.out.trans F.out).symm, HB0.out⟩
  have d5 : (decide (y < 1900)) = false := by rw [decide_eq_false_iff_not]; omega
  by_cases t6 : 2199 < y
  · have d6 : (decide (2199 < y)) = true := by rw [decide_eq_true_eq]; omega
    have F := Lib.hid (calOk_no (y := y) (m := m) (p := p) (by rintro ⟨_, _, _, _, _, h, _⟩; omega))
    go_enter Tryz.func61, Tryz.ntmps61
    go_wp2_with fail
    go_ret
    exact ⟨ret_bool (HG.out.trans F.out).symm, HB0.out⟩
  have d6 : (decide (2199 < y)) = false := by rw [decide_eq_false_iff_not]; omega
  have HFI : Hid (∀ w : World, Calls Tryz.prog 80 #[.agg #[.int .i64 y, .int .i64 m, .int .i64 p], .int .i64 (p - 1)] w fun e w' => e = .returned (firR y m (p - 1)) ∧ Below w.heap.size w w') := fun w => first_any y m p (p - 1) w (by omega) (by omega) (by omega) (by omega) (by omega) (by omega)
  by_cases h7 : (12 * y + m - 1 + (p - 1)) / 12 ≤ 2199
  · obtain ⟨N, hN⟩ := firR_yes (y := y) (m := m) (q := p - 1) (by omega) (by omega) (by omega) h7
    have R := Lib.hid hN
    clear hN
    have F := Lib.hid (calOk_iff.2 ⟨(by omega : 1 ≤ m), (by omega), (by omega : 1 ≤ p), (by omega), (by omega : 1900 ≤ y), (by omega), h7⟩)
    go_enter Tryz.func61, Tryz.ntmps61
    go_wp2_with fail
    refine (HFI.out _).mono ?_
    rintro e w1 ⟨rfl, hb1⟩
    have HB1 := Lib.hid (below_two HB0.out hb1)
    clear hb1 HFI
    rw [R.out]
    go_wp2_with fail
    go_ret
    exact ⟨ret_bool (HG.out.trans F.out).symm, HB1.out⟩
  · have R := Lib.hid (firR_no h7)
    have F := Lib.hid (calOk_no (y := y) (m := m) (p := p) (by rintro ⟨_, _, _, _, _, _, h⟩; omega))
    go_enter Tryz.func61, Tryz.ntmps61
    go_wp2_with fail
    refine (HFI.out _).mono ?_
    rintro e w1 ⟨rfl, hb1⟩
    have HB1 := Lib.hid (below_two HB0.out hb1)
    clear hb1 HFI
    rw [R.out]
    go_wp2_with fail
    go_ret
    exact ⟨ret_bool (HG.out.trans F.out).symm, HB1.out⟩
set_option maxRecDepth 100000 in
set_option maxHeartbeats 2000000 in
theorem rfirst_no (y m p q : Int) (w : World) (hd : dayOk y m 1 = false) : Calls Tryz.prog 66 #[.agg #[.int .i64 y, .int .i64 m, .int .i64 p], .int .i64 q] w fun e w' => e = .returned (.tuple #[.int .i64 0, .int .i64 2]) ∧ Below w.heap.size w w' := by
  have HB0 := Lib.hid ((Below.refl w.heap.size w).alloc (Nat.le_refl _) (.cells (#[.int .i64 y, .int .i64 m, .int .i64 p] : Array Value) 23))
  have HO : Hid (∀ w : World, Calls Tryz.prog 92 #[.int .i64 y, .int .i64 m, .int .i64 1] w fun e w' => e = .returned (ofR y m 1) ∧ w = w') := fun w => refOf_any _ _ _ w
  have R : Hid (ofR y m 1 = .tuple #[.int .i64 0, .int .i64 2]) := by show _ = _; unfold ofR; rw [hd]; rfl
  clear hd
  go_enter Tryz.func66, Tryz.ntmps66
  go_wp2_with fail
  refine (HO.out _).mono ?_
  rintro e wx ⟨rfl, rfl⟩
  rw [R.out]
  go_wp2_with fail
  go_ret2
  exact ⟨rfl, HB0.out⟩
set_option maxRecDepth 100000 in
set_option maxHeartbeats 2000000 in
theorem rfirst_yes (y m p q : Int) (w : World) (hd : dayOk y m 1 = true) (hq : 0 ≤ q) (hq2 : q ≤ 119) : Calls Tryz.prog 66 #[.agg #[.int .i64 y, .int .i64 m, .int .i64 p], .int .i64 q] w fun e w' => e = .returned (firR y m q) ∧ Below w.heap.size w w' := by
  have HB0 := Lib.hid ((Below.refl w.heap.size w).alloc (Nat.le_refl _) (.cells (#[.int .i64 y, .int .i64 m, .int .i64 p] : Array Value) 23))
  have HO : Hid (∀ w : World, Calls Tryz.prog 92 #[.int .i64 y, .int .i64 m, .int .i64 1] w fun e w' => e = .returned (ofR y m 1) ∧ w = w') := fun w => refOf_any _ _ _ w
  have R : Hid (ofR y m 1 = .tuple #[.int .i64 (dayN y m 1), .int .i64 0]) := by show _ = _; unfold ofR; rw [if_pos hd]
  have HA : Hid (∀ w : World, Calls Tryz.prog 93 #[.int .i64 (dayN y m 1), .int .i64 q] w fun e w' => e = .returned (firR y m q) ∧ Below w.heap.size w w') := fun w => radd_any y m q w hd hq hq2
  clear hd
  go_enter Tryz.func66, Tryz.ntmps66
  go_wp2_with fail
  refine (HO.out _).mono ?_
  rintro e wx ⟨rfl, rfl⟩
  rw [R.out]
  go_wp2_with fail
  refine (HA.out _).mono ?_
  rintro e w1 ⟨rfl, hb1⟩
  have HB1 := Lib.hid (below_two HB0.out hb1)
  clear hb1 HA
  obtain ⟨N, E, hNE⟩ := ofR_two ((12 * y + m - 1 + q) / 12) ((12 * y + m - 1 + q) % 12 + 1) 1
  have HF : Hid (firR y m q = .tuple #[.int .i64 N, .int .i64 E]) := hNE
  clear hNE
  rw [HF.out]
  go_wp2_with fail
  go_ret2
  exact ⟨by rw [HF.out]; rfl, HB1.out⟩
set_option maxRecDepth 100000 in
set_option maxHeartbeats 4000000 in
theorem rcal_any (y m p : Int) (w : World) : Calls Tryz.prog 37 #[.agg #[.int .i64 y, .int .i64 m, .int .i64 p]] w fun e w' => e = .returned (.bool (calOk y m p)) ∧ Below w.heap.size w w' := by
  have HB0 := Lib.hid ((Below.refl w.heap.size w).alloc (Nat.le_refl _) (.cells (#[.int .i64 y, .int .i64 m, .int .i64 p] : Array Value) 23))
  generalize hgo : calOk y m p = ok
  have HG := Lib.hid hgo.symm
  clear hgo
  by_cases t3 : p < 1
  · have d3 : (decide (p < 1)) = true := by rw [decide_eq_true_eq]; omega
    have F := Lib.hid (calOk_no (y := y) (m := m) (p := p) (by rintro ⟨_, _, h, _⟩; omega))
    go_enter Tryz.func37, Tryz.ntmps37
    go_wp2_with fail
    go_ret
    exact ⟨ret_bool (HG.out.trans F.out).symm, HB0.out⟩
  have d3 : (decide (p < 1)) = false := by rw [decide_eq_false_iff_not]; omega
  by_cases t4 : 120 < p
  · have d4 : (decide (120 < p)) = true := by rw [decide_eq_true_eq]; omega
    have F := Lib.hid (calOk_no (y := y) (m := m) (p := p) (by rintro ⟨_, _, _, h, _⟩; omega))
    go_enter Tryz.func37, Tryz.ntmps37
    go_wp2_with fail
    go_ret
    exact ⟨ret_bool (HG.out.trans F.out).symm, HB0.out⟩
  have d4 : (decide (120 < p)) = false := by rw [decide_eq_false_iff_not]; omega
  cases hd : dayOk y m 1
  · have HFI : Hid (∀ w : World, Calls Tryz.prog 66 #[.agg #[.int .i64 y, .int .i64 m, .int .i64 p], .int .i64 (p - 1)] w fun e w' => e = .returned (.tuple #[.int .i64 0, .int .i64 2]) ∧ Below w.heap.size w w') := fun w => rfirst_no y m p (p - 1) w hd
    have F := Lib.hid (calOk_no (y := y) (m := m) (p := p) (by
      rintro ⟨h1, h2, _, _, h3, h4, _⟩
      have := (dayOk_one (y := y) (m := m) ⟨h1, h2⟩).2 ⟨h3, h4⟩
      rw [hd] at this; cases this))
    clear hd
    go_enter Tryz.func37, Tryz.ntmps37
    go_wp2_with fail
    refine (HFI.out _).mono ?_
    rintro e w1 ⟨rfl, hb1⟩
    have HB1 := Lib.hid (below_two HB0.out hb1)
    clear hb1 HFI
    go_wp2_with fail
    go_ret
    exact ⟨ret_bool (HG.out.trans F.out).symm, HB1.out⟩
  · obtain ⟨⟨hy, hy2⟩, ⟨hm, hm2⟩, _, _⟩ := dayOk_in hd
    have HFI : Hid (∀ w : World, Calls Tryz.prog 66 #[.agg #[.int .i64 y, .int .i64 m, .int .i64 p], .int .i64 (p - 1)] w fun e w' => e = .returned (firR y m (p - 1)) ∧ Below w.heap.size w w') := fun w => rfirst_yes y m p (p - 1) w hd (by omega) (by omega)
    clear hd
    by_cases h7 : (12 * y + m - 1 + (p - 1)) / 12 ≤ 2199
    · obtain ⟨N, hN⟩ := firR_yes (y := y) (m := m) (q := p - 1) (by omega) (by omega) (by omega) h7
      have R := Lib.hid hN
      clear hN
      have F := Lib.hid (calOk_iff.2 ⟨(by omega : 1 ≤ m), (by omega), (by omega : 1 ≤ p), (by omega), (by omega : 1900 ≤ y), (by omega), h7⟩)
      go_enter Tryz.func37, Tryz.ntmps37
      go_wp2_with fail
      refine (HFI.out _).mono ?_
      rintro e w1 ⟨rfl, hb1⟩
      have HB1 := Lib.hid (below_two HB0.out hb1)
      clear hb1 HFI
      rw [R.out]
      go_wp2_with fail
      go_ret
      exact ⟨ret_bool (HG.out.trans F.out).symm, HB1.out⟩
    · have R := Lib.hid (firR_no h7)
      have F := Lib.hid (calOk_no (y := y) (m := m) (p := p) (by rintro ⟨_, _, _, _, _, _, h⟩; omega))
      go_enter Tryz.func37, Tryz.ntmps37
      go_wp2_with fail
      refine (HFI.out _).mono ?_
      rintro e w1 ⟨rfl, hb1⟩
      have HB1 := Lib.hid (below_two HB0.out hb1)
      clear hb1 HFI
      rw [R.out]
      go_wp2_with fail
      go_ret
      exact ⟨ret_bool (HG.out.trans F.out).symm, HB1.out⟩
end Go.Proofs.YtcmmppkmkejniaaGreatDoor
namespace Go.Proofs.YtcmmppkmkejniaaGreatDoor
open Go.RowKit
set_option linter.unusedVariables false
theorem info_grp : (Tryz.prog.info? 29).map (·.size) = some 21 := by kernel_rfl
/-- a whole group is loaded -/
theorem wpList_load_grp {ops : Array Oper} {rest : List Oper} {o : Oper} {a : Act} {w : World} {Q : Exit → Act → World → Prop} (hw : Region.wanted o (yielded ops a.tmps) = true) (x : Operand) (ho : o.op = .load 29 x)
    (g : Nat) (hx : a.eval x = .pointer (some ⟨g, 0, none⟩)) (cs : Array Value) (hs : cs.size = 21) (hg : Blk w g 29 cs) (h : wpList Tryz.prog ops Q rest (a.put o.dst (.agg cs)) w) : wpList Tryz.prog ops Q (o :: rest) a w :=
  BigFrame.wpList_want hw fun K hK => wp_load_row 29 x ho g hx 29 cs (0, 0) _ hg Tryz.underlying29 rfl (by rw [info_grp, hs]) (hK _ _ h)
theorem grpP_1 {g : PGrp} (h : curOk g.cur = false) : grpP g = false := by unfold grpP; rw [h]; rfl
theorem grpP_2 {g : PGrp} (h : calOk g.year g.month g.periods = false) : grpP g = false := by unfold grpP; rw [h]; simp
theorem grpP_3 {g : PGrp} (h : accsP g = false) : grpP g = false := by unfold grpP; rw [h]; simp
theorem grpP_4 {g : PGrp} (h : entsIn g = false) : grpP g = false := by unfold grpP; rw [h]; simp
theorem grpP_5 {g : PGrp} {k : Nat} (hk : k < g.ents.length) (h : entAtP g k = false) : grpP g = false := by unfold grpP; rw [allR_no hk h]; simp
theorem grpP_yes {g : PGrp} (h1 : curOk g.cur = true) (h2 : calOk g.year g.month g.periods = true) (h3 : accsP g = true) (h4 : entsIn g = true) (h5 : (List.range g.ents.length).all (entAtP g) = true) : grpP g = true := by unfold grpP; rw [h1, h2, h3, h4, h5]; rfl
theorem getD_map {α β : Type} [Inhabited α] [Inhabited β] (f : α → β) (hf : f default = default) (l : List α) (k : Nat) : (l.map f).getD k default = f (l.getD k default) := by
  simp only [List.getD_eq_getElem?_getD, List.getElem?_map]
  cases l[k]? with
  | none => exact hf.symm
  | some x => rfl
theorem nameSeen_step {es : List PEnt} {k : Nat} (hk : k < es.length) (s : List UInt8) : nameSeen es (k + 1) s = (nameSeen es k s || (es.getD k default).name == s) := any_take hk
theorem entsIn_1 {g : PGrp} (h : ¬ 1 ≤ g.ents.length) : entsIn g = false := by unfold entsIn; rw [decide_eq_false h]; rfl
theorem entsIn_2 {g : PGrp} (h : ¬ g.ents.length ≤ 12) : entsIn g = false := by unfold entsIn; rw [decide_eq_false h]; simp
theorem entsIn_3 {g : PGrp} (h : (g.ents.getD 0 default).joint = true) : entsIn g = false := by unfold entsIn; rw [h]; simp
theorem entsIn_yes {g : PGrp} (h1 : 1 ≤ g.ents.length) (h2 : g.ents.length ≤ 12) (h3 : (g.ents.getD 0 default).joint = false) : entsIn g = true := by unfold entsIn; rw [decide_eq_true h1, decide_eq_true h2, h3]; rfl
set_option maxRecDepth 100000 in
set_option maxHeartbeats 8000000 in
theorem grp_any (g : SGrp) (B : Nat) (w : World) (hg : GrpIn w B g) (hB : B ≤ w.heap.size) (hn : g.nc ≤ 1000) (hen : ∀ x ∈ g.ents, x.nc ≤ 1000) :
    Calls Tryz.prog 33 #[grpV g] w fun e w' => e = .returned (.bool (grpP g.p)) ∧ Below w.heap.size w w' := by
  have HENT : Hid (∀ x ∈ g.ents, ∀ W : World, Below w.heap.size w W → Calls Tryz.prog 63 #[grpV g, entV x] W fun e w' => e = .returned (.bool (entP g.p x.p)) ∧ Below W.heap.size W w') := fun x hx W hW =>
    ent_any g x B W (hg.low hB (Nat.le_refl _) hW) ((hg.ok x hx).low hB (Nat.le_refl _) hW) (by have := hW.size; omega) hn (hen x hx)
  have HACC : Hid (∀ W : World, Below w.heap.size w W → Calls Tryz.prog 62 #[grpV g] W fun e w' => e = .returned (.bool (accsP g.p)) ∧ Below W.heap.size W w') := fun W hW =>
    accs_any g B W (hg.low hB (Nat.le_refl _) hW) (by have := hW.size; omega) hn
  have HEL : Hid (g.p.ents.length = g.ne) := by
    show _ = _
    unfold SGrp.p
    rw [List.length_map, ents_len hg.en]
  have HGD : Hid (∀ k, g.p.ents.getD k default = (g.ents.getD k default).p) := fun k => getD_map SEnt.p rfl g.ents k
  have HEL2 := Lib.hid (ents_len hg.en)
  obtain ⟨cu, yr, mo, pe, Ac, nc, cc, ch, ro, Ae, ne, ce, es⟩ := g
  unfold grpV at HENT HACC ⊢
  have HEN := Lib.hid hg.en
  have HOK := Lib.hid hg.ok
  have HCU := Lib.hid hg.cu
  clear hg hen
  simp only [] at HEN HOK HCU HENT HACC HEL HGD HEL2 ⊢
  obtain ⟨gp, hgp⟩ : ∃ gp, SGrp.p ⟨cu, yr, mo, pe, Ac, nc, cc, ch, ro, Ae, ne, ce, es⟩ = gp := ⟨_, rfl⟩
  have HGU : Hid (gp.cur = cu) := by show _ = _; rw [← hgp]; rfl
  have HGY : Hid (calOk gp.year gp.month gp.periods = calOk yr mo pe) := by show _ = _; rw [← hgp]; rfl
  rw [hgp] at HENT HACC HEL HGD ⊢
  clear hgp
  generalize hgo : grpP gp = ok
  have HG := Lib.hid hgo.symm
  clear hgo
  have HBX := Lib.hid ((Below.refl w.heap.size w).alloc (Nat.le_refl _) (.cells #[.string ⟨cu.toArray⟩, .int .i64 yr, .int .i64 mo, .int .i64 pe, .slice Ac nc cc, .int .i64 ro.c0, .int .i64 ro.c1, .int .i64 ro.c2, .int .i64 ro.c3, .int .i64 ro.c4, .int .i64 ro.c5, .int .i64 ro.c6, .int .i64 ro.c7, .int .i64 ro.c8, .int .i64 ro.c9, .int .i64 ro.c10, .int .i64 ro.c11, .int .i64 ro.c12, .int .i64 ro.c13, .int .i64 ro.c14, .slice Ae ne ce] 29))
  have HE := Lib.hid (Blk.new w 29 #[.string ⟨cu.toArray⟩, .int .i64 yr, .int .i64 mo, .int .i64 pe, .slice Ac nc cc, .int .i64 ro.c0, .int .i64 ro.c1, .int .i64 ro.c2, .int .i64 ro.c3, .int .i64 ro.c4, .int .i64 ro.c5, .int .i64 ro.c6, .int .i64 ro.c7, .int .i64 ro.c8, .int .i64 ro.c9, .int .i64 ro.c10, .int .i64 ro.c11, .int .i64 ro.c12, .int .i64 ro.c13, .int .i64 ro.c14, .slice Ae ne ce])
  have hmm := @run_makeMap Tryz.prog
  go_enter Tryz.func33, Tryz.ntmps33
  go_wp2_with fail
  have hs0 : (w.alloc (.cells #[.string ⟨cu.toArray⟩, .int .i64 yr, .int .i64 mo, .int .i64 pe, .slice Ac nc cc, .int .i64 ro.c0, .int .i64 ro.c1, .int .i64 ro.c2, .int .i64 ro.c3, .int .i64 ro.c4, .int .i64 ro.c5, .int .i64 ro.c6, .int .i64 ro.c7, .int .i64 ro.c8, .int .i64 ro.c9, .int .i64 ro.c10, .int .i64 ro.c11, .int .i64 ro.c12, .int .i64 ro.c13, .int .i64 ro.c14, .slice Ae ne ce] 29)).heap.size = w.heap.size + 1 := by simp
  generalize hw0 : w.alloc _ = w0 at *
  clear hw0
  refine (cur_any cu _ HCU.out).mono ?_
  rintro e wx ⟨rfl, rfl⟩
  cases v1 : curOk cu
  case false =>
    have F : Hid (grpP gp = false) := grpP_1 (by rw [HGU.out]; exact v1)
    clear v1
    go_wp2_with fail
    go_ret
    exact ⟨ret_bool (HG.out.trans F.out).symm, HBX.out⟩
  case true =>
    have V1 := Lib.hid v1
    clear v1
    obtain ⟨g0, g1, g2, g3, _⟩ := grp_blk HE.out
    go_wp2_with fail
    refine (cal_any yr mo pe _).mono ?_
    rintro e w1 ⟨rfl, hb1⟩
    have HB1 := Lib.hid (below_two HBX.out hb1)
    have HE1 := Lib.hid (HE.out.below hb1 (by omega))
    have hs1 : w.heap.size < w1.heap.size := by have := hb1.size; omega
    clear hb1 HBX g0 g1 g2 g3
    have HBX := HB1
    cases v2 : calOk yr mo pe
    case false =>
      have F : Hid (grpP gp = false) := grpP_2 (by rw [HGY.out]; exact v2)
      clear v2
      go_wp2_with fail
      go_ret
      exact ⟨ret_bool (HG.out.trans F.out).symm, HBX.out⟩
    case true =>
      have V2 := Lib.hid v2
      clear v2
      go_wp2_with (refine wpList_load_grp (by first | rfl | simp [Region.wanted, yielded]) _ rfl _ rfl _ rfl HE1.out ?_)
      refine (HACC.out _ HB1.out).mono ?_
      rintro e w2 ⟨rfl, hb2⟩
      have HB2 := Lib.hid (below_two HB1.out hb2)
      have HE2 := Lib.hid (HE1.out.below hb2 hs1)
      have hs2 : w.heap.size < w2.heap.size := by have := hb2.size; omega
      clear hb2 HBX
      have HBX := HB2
      cases v3 : accsP gp
      case false =>
        have F : Hid (grpP gp = false) := grpP_3 v3
        clear v3
        go_wp2_with fail
        go_ret
        exact ⟨ret_bool (HG.out.trans F.out).symm, HBX.out⟩
      case true =>
        have V3 := Lib.hid v3
        clear v3
        have g20 := HE2.out.cell 20
        simp only [List.getElem?_toArray, List.getElem?_cons_succ, List.getElem?_cons_zero] at g20
        by_cases h1 : 1 ≤ ne
        case neg =>
          have d1 : decide ((ne : Int) < 1) = true := by rw [decide_eq_true_eq]; omega
          have F : Hid (grpP gp = false) := grpP_4 (entsIn_1 (by rw [HEL.out]; exact h1))
          go_wp2_with fail
          go_ret
          exact ⟨ret_bool (HG.out.trans F.out).symm, HBX.out⟩
        case pos =>
          have d1 : decide ((ne : Int) < 1) = false := by rw [decide_eq_false_iff_not]; omega
          by_cases h12 : ne ≤ 12
          case neg =>
            have d2 : decide ((12 : Int) < (ne : Int)) = true := by rw [decide_eq_true_eq]; omega
            have F : Hid (grpP gp = false) := grpP_4 (entsIn_2 (by rw [HEL.out]; exact h12))
            go_wp2_with fail
            go_ret
            exact ⟨ret_bool (HG.out.trans F.out).symm, HBX.out⟩
          case pos =>
            have d2 : decide ((12 : Int) < (ne : Int)) = false := by rw [decide_eq_false_iff_not]; omega
            have b0 : (0 : Int) < (ne : Int) := by omega
            obtain ⟨ad, rfl, hbk, j0, j1, j2, j3, j4⟩ := (HEN.out.lowg hB (Nat.le_refl _) HB2.out).ent_at (k := 0) (by omega)
            have HJ : Hid ((gp.ents.getD 0 default).joint = (es.getD 0 default).joint) := by show _ = _; rw [HGD.out]; rfl
            generalize (es.getD 0 default).joint = jn at *
            simp only [Nat.zero_mul, show ad.add 0 = ad from rfl] at j4
            clear j0 j1 j2 j3
            cases jn
            case true =>
              have F : Hid (grpP gp = false) := grpP_4 (entsIn_3 HJ.out)
              go_wp2_with fail
              go_ret
              exact ⟨ret_bool (HG.out.trans F.out).symm, HBX.out⟩
            case false =>
              have V4 : Hid (entsIn gp = true) := entsIn_yes (by rw [HEL.out]; exact h1) (by rw [HEL.out]; exact h12) HJ.out
              have HM0 := Lib.hid (MapB.made (M := MS) w2)
              have HB3 := Lib.hid (HB2.out.alloc (by omega) (.map #[] 0))
              have HE3 := Lib.hid (HE2.out.alloc (.map #[] 0))
              go_wp2_with fail
              clear g20 j4
              go_loopw [44] (fun i wr => ∃ (k : Nat) (m : List (List UInt8 × Bool)), i = .int .i64 k ∧ k ≤ ne ∧ (List.range k).all (entAtP gp) = true ∧ MapB MS wr w2.heap.size m ∧ (∀ s, getB m s = nameSeen gp.ents k s) ∧ Below w.heap.size w wr ∧
                Blk wr w.heap.size 29 #[.string ⟨cu.toArray⟩, .int .i64 yr, .int .i64 mo, .int .i64 pe, .slice Ac nc cc, .int .i64 ro.c0, .int .i64 ro.c1, .int .i64 ro.c2, .int .i64 ro.c3, .int .i64 ro.c4, .int .i64 ro.c5, .int .i64 ro.c6, .int .i64 ro.c7, .int .i64 ro.c8, .int .i64 ro.c9, .int .i64 ro.c10, .int .i64 ro.c11, .int .i64 ro.c12, .int .i64 ro.c13, .int .i64 ro.c14, .slice (some ad) ne ce]) (fun i _ => ne - (intOf i).toNat)
              case atStart => exact ⟨0, [], rfl, by omega, rfl, HM0.out, fun _ => rfl, HB3.out, HE3.out⟩
              case round =>
                obtain ⟨k, m, rfl, hk, hd, hm, hgt, hbr, hbl⟩ := hrel
                obtain ⟨wo, rfl⟩ : ∃ wo : World, wo = wr := ⟨_, rfl⟩
                have HD := Lib.hid hd
                have HM := Lib.hid hm
                have HGT := Lib.hid hgt
                have HEO := Lib.hid hbl
                have hlt0 := hbl.lt
                have hml := hm.lt
                clear hd hm hgt
                by_cases hlt : k < ne
                case neg =>
                  have k3 : decide ((k : Int) < (ne : Int)) = false := by rw [decide_eq_false_iff_not]; omega
                  have F : Hid (grpP gp = true) := grpP_yes (by rw [HGU.out]; exact V1.out) (by rw [HGY.out]; exact V2.out) V3.out V4.out (by rw [HEL.out, show ne = k by omega]; exact HD.out)
                  clear hbl
                  go_wp2_with fail
                  go_ret
                  exact ⟨ret_bool (HG.out.trans F.out).symm, hbr⟩
                case pos =>
                  have k3 : decide ((k : Int) < (ne : Int)) = true := by rw [decide_eq_true_eq]; omega
                  have b15 : (k : Int) < (ne : Int) := by omega
                  have hkl : k < es.length := by rw [HEL2.out]; exact hlt
                  obtain ⟨ad', ead, hbk2, c0, c1, c2, c3, c4⟩ := (HEN.out.lowg hB (Nat.le_refl _) hbr).ent_at hlt
                  injection ead with ead
                  subst ead
                  have hmem : es.getD k default ∈ es := by simp [List.getD, hkl]
                  have HEX := Lib.hid (HENT.out _ hmem)
                  have HNM := Lib.hid (HOK.out _ hmem).nm
                  have HNO : Hid (entAtP gp k = false → grpP gp = false) := fun h => grpP_5 (by rw [HEL.out]; exact hlt) h
                  have HAT : Hid (entAtP gp k = (!nameSeen gp.ents k (es.getD k default).name && entP gp (es.getD k default).p)) := by show _ = _; unfold entAtP; rw [HGD.out]; rfl
                  have HST : Hid (∀ s, nameSeen gp.ents (k + 1) s = (nameSeen gp.ents k s || (es.getD k default).name == s)) := fun s => by
                    have := nameSeen_step (es := gp.ents) (k := k) (by rw [HEL.out]; exact hlt) s
                    rw [HGD.out] at this
                    exact this
                  have HSN : Hid (getB m (es.getD k default).name = nameSeen gp.ents k (es.getD k default).name) := HGT.out _
                  clear hkl hmem
                  generalize es.getD k default = x at *
                  obtain ⟨nm, xu, Xc, xn, xc, xch, Al, nl, cl, ls, jt⟩ := x
                  unfold entV at HEX
                  simp only [] at c0 c1 c2 c3 c4 HEX HNM HAT HST HSN
                  have HKO : Hid (MS.ok nm) := HNM.out
                  have hs3 := hbr.size
                  have HB6 := Lib.hid (hbr.alloc hs3 (.cells #[.string ⟨nm.toArray⟩, .string ⟨xu.toArray⟩, .slice Xc xn xc, .slice Al nl cl, .bool jt] 61))
                  have HM6 := Lib.hid (HM.out.alloc (.cells #[.string ⟨nm.toArray⟩, .string ⟨xu.toArray⟩, .slice Xc xn xc, .slice Al nl cl, .bool jt] 61))
                  have HE6 := Lib.hid (HEO.out.alloc (.cells #[.string ⟨nm.toArray⟩, .string ⟨xu.toArray⟩, .slice Xc xn xc, .slice Al nl cl, .bool jt] 61))
                  have HK6 := Lib.hid (Blk.new wo 61 #[.string ⟨nm.toArray⟩, .string ⟨xu.toArray⟩, .slice Xc xn xc, .slice Al nl cl, .bool jt])
                  clear hbl
                  cases sv : nameSeen gp.ents k nm
                  case true =>
                    have F : Hid (grpP gp = false) := HNO.out (by rw [HAT.out, sv]; simp)
                    have HS2 : Hid (getB m nm = true) := HSN.out.trans sv
                    clear sv
                    go_wp2_with (at_lookup; refine wpList_lookupB (M := MS) _ rfl _ _ rfl w2.heap.size m nm rfl rfl HM6.out HKO.out ?_; rw [HS2.out])
                    go_ret
                    exact ⟨ret_bool (HG.out.trans F.out).symm, HB6.out⟩
                  case false =>
                    have HS2 : Hid (getB m nm = false) := HSN.out.trans sv
                    generalize hev : entP gp (SEnt.p ⟨nm, xu, Xc, xn, xc, xch, Al, nl, cl, ls, jt⟩) = ev at *
                    have HAT2 : Hid (entAtP gp k = ev) := by show _ = _; rw [HAT.out, sv]; simp
                    clear sv hev HAT
                    go_wp2_with (first | (at_lookup; refine wpList_lookupB (M := MS) _ rfl _ _ rfl w2.heap.size m nm rfl rfl HM6.out HKO.out ?_; rw [HS2.out]) | (refine wpList_load_grp (by first | rfl | simp [Region.wanted, yielded]) _ rfl _ rfl _ rfl HE6.out ?_))
                    refine (HEX.out _ HB6.out).mono ?_
                    rintro e w7 ⟨rfl, hb7⟩
                    have HB7 := Lib.hid (below_two HB6.out hb7)
                    have HM7 := Lib.hid (HM6.out.below hb7 (by simp only [World.size_alloc]; omega))
                    have HE7 := Lib.hid (HE6.out.below hb7 (by simp only [World.size_alloc]; omega))
                    have hk7 := HK6.out.below hb7 (by simp)
                    obtain ⟨q0, q1, q2, q3, q4⟩ := ent_blk hk7
                    have hs7 := HB7.out.size
                    clear hb7 hk7 c0 c1 c2 c3 c4
                    cases ev
                    case false =>
                      have F : Hid (grpP gp = false) := HNO.out HAT2.out
                      go_wp2_with fail
                      go_ret
                      exact ⟨ret_bool (HG.out.trans F.out).symm, HB7.out⟩
                    case true =>
                      have F := Lib.hid (allR_step HD.out HAT2.out)
                      go_wp2_with (at_mapUpdate; refine wpList_storeB (M := MS) _ rfl _ _ _ rfl w2.heap.size m nm true rfl rfl rfl HM7.out HKO.out ?_; intro w8 hm8 hg8)
                      refine ⟨⟨k + 1, putB m nm true, by go_num, by omega, F.out, hm8, ?_, HB7.out.grown hg8 hs7 (fun j hj => by cases hj; omega), HE7.out.grown hg8 (by intro e; have := Option.some.inj e; omega)⟩, by simp [intOf]; omega⟩
                      intro s
                      rw [getB_putB, HST.out, HGT.out]
                      by_cases hcc : nm = s
                      · rw [if_pos hcc, beq_iff_eq.2 hcc, Bool.or_true]
                      · rw [if_neg hcc, beq_eq_false_iff_ne.2 hcc, Bool.or_false]
end Go.Proofs.YtcmmppkmkejniaaGreatDoor
namespace Go.Proofs.YtcmmppkmkejniaaGreatDoor
open Go.RowKit
set_option linter.unusedVariables false
theorem any_of {α : Type} [Inhabited α] {p : α → Bool} {xs : List α} {j k : Nat} (hj : j < k) (hk : k ≤ xs.length) (h : p (xs.getD j default) = true) : (xs.take k).any p = true := by
  rw [List.any_eq_true]
  refine ⟨xs.getD j default, ?_, h⟩
  have hjl : j < xs.length := by omega
  have e : xs.getD j default = xs[j] := by simp [List.getD, hjl]
  rw [e, List.mem_iff_getElem]
  exact ⟨j, by rw [List.length_take]; omega, by simp⟩
theorem mapR_1 {ec gc : List SAcc} {ls : List SLink} (h : chartR gc true = false) : mapR ec gc ls = false := by unfold mapR; rw [h]; rfl
theorem mapR_2 {ec gc : List SAcc} {ls : List SLink} (h : chartR ec false = false) : mapR ec gc ls = false := by unfold mapR; rw [h]; simp
theorem mapR_3 {ec gc : List SAcc} {ls : List SLink} (h : ¬ ls.length ≤ 400) : mapR ec gc ls = false := by unfold mapR; rw [decide_eq_false h]; simp
theorem mapR_4 {ec gc : List SAcc} {ls : List SLink} (h : linksOk ec gc ls = false) : mapR ec gc ls = false := by unfold mapR; rw [h]; simp
theorem mapR_yes {ec gc : List SAcc} {ls : List SLink} (h1 : chartR gc true = true) (h2 : chartR ec false = true) (h3 : ls.length ≤ 400) (h4 : linksOk ec gc ls = true) : mapR ec gc ls = true := by unfold mapR; rw [h1, h2, h4, decide_eq_true h3]; rfl
set_option maxRecDepth 100000 in
set_option maxHeartbeats 8000000 in
theorem rmapv_any (x : SEnt) (gA : Option Addr) (gn gc : Nat) (gl : List SAcc) (B : Nat) (w : World) (hx : EntIn w B x) (hg : ChartIn w B gA gn gc gl) (hB : B ≤ w.heap.size) (hn : x.nc ≤ 1000) (hgn : gn ≤ 1000) :
    Calls Tryz.prog 43 #[entV x, .slice gA gn gc] w fun e w' => e = .returned (.bool (mapR x.chart gl x.links)) ∧ Below w.heap.size w w' := by
  obtain ⟨nm, cu, Ac, nc, cc, ch, Al, nl, cl, ls, jt⟩ := x
  unfold entV
  have HX := Lib.hid hx
  have HC := Lib.hid hx.ch
  have HLI := Lib.hid hx.li
  have HGC := Lib.hid hg
  clear hx hg
  simp only [] at HC HLI hn ⊢
  have HLL := Lib.hid HLI.out.len
  have hle := HLI.out.le
  generalize hgo : mapR ch gl ls = ok
  have HG := Lib.hid hgo.symm
  clear hgo
  have HB0 := Lib.hid ((Below.refl w.heap.size w).alloc (Nat.le_refl _) (.cells #[.string ⟨nm.toArray⟩, .string ⟨cu.toArray⟩, .slice Ac nc cc, .slice Al nl cl, .bool jt] 61))
  have HE := Lib.hid (Blk.new w 61 #[.string ⟨nm.toArray⟩, .string ⟨cu.toArray⟩, .slice Ac nc cc, .slice Al nl cl, .bool jt])
  go_enter Tryz.func43, Tryz.ntmps43
  go_wp2_with fail
  have H1 := Lib.hid (rchart_any gl gA gn gc true B _ (HGC.out.rd.lowg hB (Nat.le_refl _) HB0.out) (by simp only [World.size_alloc]; omega) hgn)
  refine H1.out.mono ?_
  rintro e w1 ⟨rfl, hb1⟩
  have HB1 := Lib.hid (below_two HB0.out hb1)
  have HE1 := Lib.hid (HE.out.below hb1 (by simp))
  have hs1 : w.heap.size < w1.heap.size := by have := hb1.size; simp only [World.size_alloc] at this; omega
  obtain ⟨e0, e1, e2, e3, e4⟩ := ent_blk HE1.out
  clear hb1 H1
  cases v1 : chartR gl true
  case false =>
    have F : Hid (mapR ch gl ls = false) := mapR_1 v1
    clear v1
    go_wp2_with fail
    go_ret
    exact ⟨ret_bool (HG.out.trans F.out).symm, HB1.out⟩
  case true =>
    have V1 := Lib.hid v1
    clear v1
    have H2 := Lib.hid (rchart_any ch Ac nc cc false B w1 (HC.out.rd.lowg hB (Nat.le_refl _) HB1.out) (by omega) hn)
    go_wp2_with fail
    refine H2.out.mono ?_
    rintro e w2 ⟨rfl, hb2⟩
    have HB2 := Lib.hid (below_two HB1.out hb2)
    have HE2 := Lib.hid (HE1.out.below hb2 hs1)
    have hs2 : w.heap.size < w2.heap.size := by have := hb2.size; omega
    clear hb2 H2 e0 e1 e2 e3 e4
    obtain ⟨e0, e1, e2, e3, e4⟩ := ent_blk HE2.out
    cases v2 : chartR ch false
    case false =>
      have F : Hid (mapR ch gl ls = false) := mapR_2 v2
      clear v2
      go_wp2_with fail
      go_ret
      exact ⟨ret_bool (HG.out.trans F.out).symm, HB2.out⟩
    case true =>
      have V2 := Lib.hid v2
      clear v2
      by_cases h400 : nl ≤ 400
      case neg =>
        have d4 : decide ((400 : Int) < (nl : Int)) = true := by rw [decide_eq_true_eq]; omega
        have F : Hid (mapR ch gl ls = false) := mapR_3 (by rw [HLL.out]; exact h400)
        go_wp2_with fail
        go_ret
        exact ⟨ret_bool (HG.out.trans F.out).symm, HB2.out⟩
      case pos =>
        have d4 : decide ((400 : Int) < (nl : Int)) = false := by rw [decide_eq_false_iff_not]; omega
        go_wp2_with fail
        clear e0 e1 e2 e3 e4
        go_loopw [5] (fun i wr => ∃ (k : Nat), i = .int .i64 k ∧ k ≤ nl ∧ (List.range k).all (linkAt ch gl ls) = true ∧ Below w.heap.size w wr ∧ Blk wr w.heap.size 61 #[.string ⟨nm.toArray⟩, .string ⟨cu.toArray⟩, .slice Ac nc cc, .slice Al nl cl, .bool jt]) (fun i _ => nl - (intOf i).toNat)
        case atStart => exact ⟨0, rfl, by omega, rfl, HB2.out, HE2.out⟩
        case round =>
          obtain ⟨k, rfl, hk, hd, hbr, hbl⟩ := hrel
          obtain ⟨wo, rfl⟩ : ∃ wo : World, wo = wr := ⟨_, rfl⟩
          have HD := Lib.hid hd
          have HEO := Lib.hid hbl
          have hlt0 := hbl.lt
          obtain ⟨e0, e1, e2, e3, e4⟩ := ent_blk hbl
          clear hd hbl
          by_cases hlt : k < nl
          case neg =>
            have k3 : decide ((k : Int) < (nl : Int)) = false := by rw [decide_eq_false_iff_not]; omega
            have F : Hid (mapR ch gl ls = true) := mapR_yes V1.out V2.out (by rw [HLL.out]; exact h400) (by unfold linksOk; rw [HLL.out, show nl = k by omega]; exact HD.out)
            go_wp2_with fail
            go_ret
            exact ⟨ret_bool (HG.out.trans F.out).symm, hbr⟩
          case pos =>
            have k3 : decide ((k : Int) < (nl : Int)) = true := by rw [decide_eq_true_eq]; omega
            have hkl : k < ls.length := by rw [HLL.out]; exact hlt
            obtain ⟨ad, rfl, hbk, c0, c1, c2⟩ := (HLI.out.rd.lowg hB (Nat.le_refl _) hbr).link_at hlt
            have HAT : Hid (linkAt ch gl ls k = (linkOk ch gl (ls.getD k default) && !linkSeen ls k (ls.getD k default))) := rfl
            have HKL := Lib.hid hkl
            clear hkl
            generalize ls.getD k default = x at *
            obtain ⟨x0, x1, x2⟩ := x
            simp only [] at c0 c1 c2 HAT
            have hs3 := hbr.size
            have HB4 := Lib.hid (hbr.alloc hs3 (.cells #[.int .i64 x0, .int .i64 x1, .int .i64 x2] 99))
            have HE4 := Lib.hid (HEO.out.alloc (.cells #[.int .i64 x0, .int .i64 x1, .int .i64 x2] 99))
            have HL4 := Lib.hid (Blk.new wo 99 #[.int .i64 x0, .int .i64 x1, .int .i64 x2])
            cases hfa : findA ch x0 with
            | none =>
              have FA := Lib.hid (findV_no hfa)
              have HLO : Hid (linkOk ch gl ⟨x0, x1, x2⟩ = false) := linkOk_a hfa
              clear hfa
              cases hfb : findA gl x1 with
              | none =>
                have FB := Lib.hid (findV_no hfb)
                clear hfb
                go_wp2_with fail
                have HF1 := Lib.hid (rfind_any ch Ac nc cc x0 B _ (HC.out.rd.lowg hB (Nat.le_refl _) HB4.out) (by simp only [World.size_alloc]; omega) HC.out.le)
                refine HF1.out.mono ?_
                rintro e w5 ⟨rfl, hb5⟩
                rw [FA.out]
                have HB5 := Lib.hid (below_two HB4.out hb5)
                have HE5 := Lib.hid (HE4.out.below hb5 (by simp only [World.size_alloc]; omega))
                have HL5 := Lib.hid (HL4.out.below hb5 (by simp only [World.size_alloc]; omega))
                have hs5 : wo.heap.size < w5.heap.size := by have := hb5.size; simp only [World.size_alloc] at this; omega
                obtain ⟨q0, q1, q2⟩ := link_blk HL5.out
                clear hb5 HF1 c0 c1 c2 e0 e1 e2 e3 e4
                have HF2 := Lib.hid (rfind_any gl gA gn gc x1 B (w5.alloc (.cells #[.int .i64 0, .int .i64 0, .int .i64 0, .int .i64 0] 42)) (HGC.out.rd.lowg hB (Nat.le_refl _) (HB5.out.alloc (by omega) _)) (by simp only [World.size_alloc]; omega) HGC.out.le)
                go_wp2_with fail
                refine HF2.out.mono ?_
                rintro e w6 ⟨rfl, hb6⟩
                rw [FB.out]
                have HB6 := Lib.hid ((below_two (HB5.out.alloc (by omega) (.cells #[.int .i64 0, .int .i64 0, .int .i64 0, .int .i64 0] 42)) hb6).alloc (by have := hb6.size; simp only [World.size_alloc] at this; omega) (.cells #[.int .i64 0, .int .i64 0, .int .i64 0, .int .i64 0] 42))
                have hk6 := ((Blk.new w5 42 #[.int .i64 0, .int .i64 0, .int .i64 0, .int .i64 0]).below hb6 (by simp))
                have hl6 := ((HL5.out.alloc (.cells #[.int .i64 0, .int .i64 0, .int .i64 0, .int .i64 0] 42)).below hb6 (by simp only [World.size_alloc]; omega))
                have he6 := ((HE5.out.alloc (.cells #[.int .i64 0, .int .i64 0, .int .i64 0, .int .i64 0] 42)).below hb6 (by simp only [World.size_alloc]; omega))
                have hs6 : w5.heap.size < w6.heap.size := by have := hb6.size; simp only [World.size_alloc] at this; omega
                have hs6' : wo.heap.size < w6.heap.size := by omega
                have hs6'' : w.heap.size < w6.heap.size := by omega
                have HE6 := Lib.hid (he6.alloc (.cells #[.int .i64 0, .int .i64 0, .int .i64 0, .int .i64 0] 42))
                have HL6 := Lib.hid (hl6.alloc (.cells #[.int .i64 0, .int .i64 0, .int .i64 0, .int .i64 0] 42))
                obtain ⟨k0, k1', k2, k3'⟩ := acc_blk hk6
                obtain ⟨m0, m1, m2⟩ := link_blk hl6
                obtain ⟨n0, n1, n2, n3, n4⟩ := ent_blk he6
                clear hb6 HF2 q0 q1 q2 hk6 hl6 he6
                have F : Hid (mapR ch gl ls = false) := mapR_4 (linksOk_no HKL.out (by rw [HAT.out, HLO.out]; rfl))
                go_wp2_with fail
                go_ret
                exact ⟨ret_bool (HG.out.trans F.out).symm, HB6.out⟩
              | some b =>
                have FB := Lib.hid (findV_yes hfb)
                clear hfb
                obtain ⟨b0, b1, b2, b3⟩ := b
                simp only [] at FB
                go_wp2_with fail
                have HF1 := Lib.hid (rfind_any ch Ac nc cc x0 B _ (HC.out.rd.lowg hB (Nat.le_refl _) HB4.out) (by simp only [World.size_alloc]; omega) HC.out.le)
                refine HF1.out.mono ?_
                rintro e w5 ⟨rfl, hb5⟩
                rw [FA.out]
                have HB5 := Lib.hid (below_two HB4.out hb5)
                have HE5 := Lib.hid (HE4.out.below hb5 (by simp only [World.size_alloc]; omega))
                have HL5 := Lib.hid (HL4.out.below hb5 (by simp only [World.size_alloc]; omega))
                have hs5 : wo.heap.size < w5.heap.size := by have := hb5.size; simp only [World.size_alloc] at this; omega
                obtain ⟨q0, q1, q2⟩ := link_blk HL5.out
                clear hb5 HF1 c0 c1 c2 e0 e1 e2 e3 e4
                have HF2 := Lib.hid (rfind_any gl gA gn gc x1 B (w5.alloc (.cells #[.int .i64 0, .int .i64 0, .int .i64 0, .int .i64 0] 42)) (HGC.out.rd.lowg hB (Nat.le_refl _) (HB5.out.alloc (by omega) _)) (by simp only [World.size_alloc]; omega) HGC.out.le)
                go_wp2_with fail
                refine HF2.out.mono ?_
                rintro e w6 ⟨rfl, hb6⟩
                rw [FB.out]
                have HB6 := Lib.hid ((below_two (HB5.out.alloc (by omega) (.cells #[.int .i64 0, .int .i64 0, .int .i64 0, .int .i64 0] 42)) hb6).alloc (by have := hb6.size; simp only [World.size_alloc] at this; omega) (.cells #[.int .i64 b0, .int .i64 b1, .int .i64 b2, .int .i64 b3] 42))
                have hk6 := ((Blk.new w5 42 #[.int .i64 0, .int .i64 0, .int .i64 0, .int .i64 0]).below hb6 (by simp))
                have hl6 := ((HL5.out.alloc (.cells #[.int .i64 0, .int .i64 0, .int .i64 0, .int .i64 0] 42)).below hb6 (by simp only [World.size_alloc]; omega))
                have he6 := ((HE5.out.alloc (.cells #[.int .i64 0, .int .i64 0, .int .i64 0, .int .i64 0] 42)).below hb6 (by simp only [World.size_alloc]; omega))
                have hs6 : w5.heap.size < w6.heap.size := by have := hb6.size; simp only [World.size_alloc] at this; omega
                have hs6' : wo.heap.size < w6.heap.size := by omega
                have hs6'' : w.heap.size < w6.heap.size := by omega
                have HE6 := Lib.hid (he6.alloc (.cells #[.int .i64 b0, .int .i64 b1, .int .i64 b2, .int .i64 b3] 42))
                have HL6 := Lib.hid (hl6.alloc (.cells #[.int .i64 b0, .int .i64 b1, .int .i64 b2, .int .i64 b3] 42))
                obtain ⟨k0, k1', k2, k3'⟩ := acc_blk hk6
                obtain ⟨m0, m1, m2⟩ := link_blk hl6
                obtain ⟨n0, n1, n2, n3, n4⟩ := ent_blk he6
                clear hb6 HF2 q0 q1 q2 hk6 hl6 he6
                have F : Hid (mapR ch gl ls = false) := mapR_4 (linksOk_no HKL.out (by rw [HAT.out, HLO.out]; rfl))
                go_wp2_with fail
                go_ret
                exact ⟨ret_bool (HG.out.trans F.out).symm, HB6.out⟩
            | some a =>
              have FA := Lib.hid (findV_yes hfa)
              cases hfb : findA gl x1 with
              | none =>
                have FB := Lib.hid (findV_no hfb)
                have HLO : Hid (linkOk ch gl ⟨x0, x1, x2⟩ = false) := linkOk_b hfb
                clear hfa hfb
                obtain ⟨a0, a1, a2, a3⟩ := a
                simp only [] at FA
                go_wp2_with fail
                have HF1 := Lib.hid (rfind_any ch Ac nc cc x0 B _ (HC.out.rd.lowg hB (Nat.le_refl _) HB4.out) (by simp only [World.size_alloc]; omega) HC.out.le)
                refine HF1.out.mono ?_
                rintro e w5 ⟨rfl, hb5⟩
                rw [FA.out]
                have HB5 := Lib.hid (below_two HB4.out hb5)
                have HE5 := Lib.hid (HE4.out.below hb5 (by simp only [World.size_alloc]; omega))
                have HL5 := Lib.hid (HL4.out.below hb5 (by simp only [World.size_alloc]; omega))
                have hs5 : wo.heap.size < w5.heap.size := by have := hb5.size; simp only [World.size_alloc] at this; omega
                obtain ⟨q0, q1, q2⟩ := link_blk HL5.out
                clear hb5 HF1 c0 c1 c2 e0 e1 e2 e3 e4
                have HF2 := Lib.hid (rfind_any gl gA gn gc x1 B (w5.alloc (.cells #[.int .i64 a0, .int .i64 a1, .int .i64 a2, .int .i64 a3] 42)) (HGC.out.rd.lowg hB (Nat.le_refl _) (HB5.out.alloc (by omega) _)) (by simp only [World.size_alloc]; omega) HGC.out.le)
                go_wp2_with fail
                refine HF2.out.mono ?_
                rintro e w6 ⟨rfl, hb6⟩
                rw [FB.out]
                have HB6 := Lib.hid ((below_two (HB5.out.alloc (by omega) (.cells #[.int .i64 a0, .int .i64 a1, .int .i64 a2, .int .i64 a3] 42)) hb6).alloc (by have := hb6.size; simp only [World.size_alloc] at this; omega) (.cells #[.int .i64 0, .int .i64 0, .int .i64 0, .int .i64 0] 42))
                have hk6 := ((Blk.new w5 42 #[.int .i64 a0, .int .i64 a1, .int .i64 a2, .int .i64 a3]).below hb6 (by simp))
                have hl6 := ((HL5.out.alloc (.cells #[.int .i64 a0, .int .i64 a1, .int .i64 a2, .int .i64 a3] 42)).below hb6 (by simp only [World.size_alloc]; omega))
                have he6 := ((HE5.out.alloc (.cells #[.int .i64 a0, .int .i64 a1, .int .i64 a2, .int .i64 a3] 42)).below hb6 (by simp only [World.size_alloc]; omega))
                have hs6 : w5.heap.size < w6.heap.size := by have := hb6.size; simp only [World.size_alloc] at this; omega
                have hs6' : wo.heap.size < w6.heap.size := by omega
                have hs6'' : w.heap.size < w6.heap.size := by omega
                have HE6 := Lib.hid (he6.alloc (.cells #[.int .i64 0, .int .i64 0, .int .i64 0, .int .i64 0] 42))
                have HL6 := Lib.hid (hl6.alloc (.cells #[.int .i64 0, .int .i64 0, .int .i64 0, .int .i64 0] 42))
                obtain ⟨k0, k1', k2, k3'⟩ := acc_blk hk6
                obtain ⟨m0, m1, m2⟩ := link_blk hl6
                obtain ⟨n0, n1, n2, n3, n4⟩ := ent_blk he6
                clear hb6 HF2 q0 q1 q2 hk6 hl6 he6
                have F : Hid (mapR ch gl ls = false) := mapR_4 (linksOk_no HKL.out (by rw [HAT.out, HLO.out]; rfl))
                go_wp2_with fail
                go_ret
                exact ⟨ret_bool (HG.out.trans F.out).symm, HB6.out⟩
              | some b =>
                have FB := Lib.hid (findV_yes hfb)
                have FO : Hid (linkOk ch gl ⟨x0, x1, x2⟩ = ((a.kind == b.kind) && dateB x2)) := linkOk_ab hfa hfb
                clear hfa hfb
                obtain ⟨a0, a1, a2, a3⟩ := a
                obtain ⟨b0, b1, b2, b3⟩ := b
                simp only [] at FA FB FO
                cases hkk : a1 == b1
                case false =>
                  have hkn : (a1 != b1) = true := by rw [bne, hkk]; rfl
                  have HLO : Hid (linkOk ch gl ⟨x0, x1, x2⟩ = false) := by show _ = _; rw [FO.out, hkk]; rfl
                  go_wp2_with fail
                  have HF1 := Lib.hid (rfind_any ch Ac nc cc x0 B _ (HC.out.rd.lowg hB (Nat.le_refl _) HB4.out) (by simp only [World.size_alloc]; omega) HC.out.le)
                  refine HF1.out.mono ?_
                  rintro e w5 ⟨rfl, hb5⟩
                  rw [FA.out]
                  have HB5 := Lib.hid (below_two HB4.out hb5)
                  have HE5 := Lib.hid (HE4.out.below hb5 (by simp only [World.size_alloc]; omega))
                  have HL5 := Lib.hid (HL4.out.below hb5 (by simp only [World.size_alloc]; omega))
                  have hs5 : wo.heap.size < w5.heap.size := by have := hb5.size; simp only [World.size_alloc] at this; omega
                  obtain ⟨q0, q1, q2⟩ := link_blk HL5.out
                  clear hb5 HF1 c0 c1 c2 e0 e1 e2 e3 e4
                  have HF2 := Lib.hid (rfind_any gl gA gn gc x1 B (w5.alloc (.cells #[.int .i64 a0, .int .i64 a1, .int .i64 a2, .int .i64 a3] 42)) (HGC.out.rd.lowg hB (Nat.le_refl _) (HB5.out.alloc (by omega) _)) (by simp only [World.size_alloc]; omega) HGC.out.le)
                  go_wp2_with fail
                  refine HF2.out.mono ?_
                  rintro e w6 ⟨rfl, hb6⟩
                  rw [FB.out]
                  have HB6 := Lib.hid ((below_two (HB5.out.alloc (by omega) (.cells #[.int .i64 a0, .int .i64 a1, .int .i64 a2, .int .i64 a3] 42)) hb6).alloc (by have := hb6.size; simp only [World.size_alloc] at this; omega) (.cells #[.int .i64 b0, .int .i64 b1, .int .i64 b2, .int .i64 b3] 42))
                  have hk6 := ((Blk.new w5 42 #[.int .i64 a0, .int .i64 a1, .int .i64 a2, .int .i64 a3]).below hb6 (by simp))
                  have hl6 := ((HL5.out.alloc (.cells #[.int .i64 a0, .int .i64 a1, .int .i64 a2, .int .i64 a3] 42)).below hb6 (by simp only [World.size_alloc]; omega))
                  have he6 := ((HE5.out.alloc (.cells #[.int .i64 a0, .int .i64 a1, .int .i64 a2, .int .i64 a3] 42)).below hb6 (by simp only [World.size_alloc]; omega))
                  have hs6 : w5.heap.size < w6.heap.size := by have := hb6.size; simp only [World.size_alloc] at this; omega
                  have hs6' : wo.heap.size < w6.heap.size := by omega
                  have hs6'' : w.heap.size < w6.heap.size := by omega
                  have HE6 := Lib.hid (he6.alloc (.cells #[.int .i64 b0, .int .i64 b1, .int .i64 b2, .int .i64 b3] 42))
                  have HL6 := Lib.hid (hl6.alloc (.cells #[.int .i64 b0, .int .i64 b1, .int .i64 b2, .int .i64 b3] 42))
                  obtain ⟨k0, k1', k2, k3'⟩ := acc_blk hk6
                  obtain ⟨m0, m1, m2⟩ := link_blk hl6
                  obtain ⟨n0, n1, n2, n3, n4⟩ := ent_blk he6
                  clear hb6 HF2 q0 q1 q2 hk6 hl6 he6
                  have F : Hid (mapR ch gl ls = false) := mapR_4 (linksOk_no HKL.out (by rw [HAT.out, HLO.out]; rfl))
                  go_wp2_with fail
                  go_ret
                  exact ⟨ret_bool (HG.out.trans F.out).symm, HB6.out⟩
                case true =>
                  have hkn : (a1 != b1) = false := by rw [bne, hkk]; rfl
                  cases hdv : dateB x2
                  case false =>
                    have HDV := Lib.hid hdv
                    have HLO : Hid (linkOk ch gl ⟨x0, x1, x2⟩ = false) := by show _ = _; rw [FO.out, hkk, hdv]; rfl
                    have HKK := Lib.hid hkk
                    clear hdv hkk
                    go_wp2_with fail
                    have HF1 := Lib.hid (rfind_any ch Ac nc cc x0 B _ (HC.out.rd.lowg hB (Nat.le_refl _) HB4.out) (by simp only [World.size_alloc]; omega) HC.out.le)
                    refine HF1.out.mono ?_
                    rintro e w5 ⟨rfl, hb5⟩
                    rw [FA.out]
                    have HB5 := Lib.hid (below_two HB4.out hb5)
                    have HE5 := Lib.hid (HE4.out.below hb5 (by simp only [World.size_alloc]; omega))
                    have HL5 := Lib.hid (HL4.out.below hb5 (by simp only [World.size_alloc]; omega))
                    have hs5 : wo.heap.size < w5.heap.size := by have := hb5.size; simp only [World.size_alloc] at this; omega
                    obtain ⟨q0, q1, q2⟩ := link_blk HL5.out
                    clear hb5 HF1 c0 c1 c2 e0 e1 e2 e3 e4
                    have HF2 := Lib.hid (rfind_any gl gA gn gc x1 B (w5.alloc (.cells #[.int .i64 a0, .int .i64 a1, .int .i64 a2, .int .i64 a3] 42)) (HGC.out.rd.lowg hB (Nat.le_refl _) (HB5.out.alloc (by omega) _)) (by simp only [World.size_alloc]; omega) HGC.out.le)
                    go_wp2_with fail
                    refine HF2.out.mono ?_
                    rintro e w6 ⟨rfl, hb6⟩
                    rw [FB.out]
                    have HB6 := Lib.hid ((below_two (HB5.out.alloc (by omega) (.cells #[.int .i64 a0, .int .i64 a1, .int .i64 a2, .int .i64 a3] 42)) hb6).alloc (by have := hb6.size; simp only [World.size_alloc] at this; omega) (.cells #[.int .i64 b0, .int .i64 b1, .int .i64 b2, .int .i64 b3] 42))
                    have hk6 := ((Blk.new w5 42 #[.int .i64 a0, .int .i64 a1, .int .i64 a2, .int .i64 a3]).below hb6 (by simp))
                    have hl6 := ((HL5.out.alloc (.cells #[.int .i64 a0, .int .i64 a1, .int .i64 a2, .int .i64 a3] 42)).below hb6 (by simp only [World.size_alloc]; omega))
                    have he6 := ((HE5.out.alloc (.cells #[.int .i64 a0, .int .i64 a1, .int .i64 a2, .int .i64 a3] 42)).below hb6 (by simp only [World.size_alloc]; omega))
                    have hs6 : w5.heap.size < w6.heap.size := by have := hb6.size; simp only [World.size_alloc] at this; omega
                    have hs6' : wo.heap.size < w6.heap.size := by omega
                    have hs6'' : w.heap.size < w6.heap.size := by omega
                    have HE6 := Lib.hid (he6.alloc (.cells #[.int .i64 b0, .int .i64 b1, .int .i64 b2, .int .i64 b3] 42))
                    have HL6 := Lib.hid (hl6.alloc (.cells #[.int .i64 b0, .int .i64 b1, .int .i64 b2, .int .i64 b3] 42))
                    obtain ⟨k0, k1', k2, k3'⟩ := acc_blk hk6
                    obtain ⟨m0, m1, m2⟩ := link_blk hl6
                    obtain ⟨n0, n1, n2, n3, n4⟩ := ent_blk he6
                    clear hb6 HF2 q0 q1 q2 hk6 hl6 he6
                    have F : Hid (mapR ch gl ls = false) := mapR_4 (linksOk_no HKL.out (by rw [HAT.out, HLO.out]; rfl))
                    go_wp2_with fail
                    refine (refDvalid_any x2 _).mono ?_
                    rintro e wx ⟨rfl, rfl⟩
                    rw [HDV.out]
                    go_wp2_with fail
                    go_ret
                    exact ⟨ret_bool (HG.out.trans F.out).symm, HB6.out⟩
                  case true =>
                    have HDV := Lib.hid hdv
                    have HLO : Hid (linkOk ch gl ⟨x0, x1, x2⟩ = true) := by show _ = _; rw [FO.out, hkk, hdv]; rfl
                    have HKK := Lib.hid hkk
                    clear hdv hkk
                    go_wp2_with fail
                    have HF1 := Lib.hid (rfind_any ch Ac nc cc x0 B _ (HC.out.rd.lowg hB (Nat.le_refl _) HB4.out) (by simp only [World.size_alloc]; omega) HC.out.le)
                    refine HF1.out.mono ?_
                    rintro e w5 ⟨rfl, hb5⟩
                    rw [FA.out]
                    have HB5 := Lib.hid (below_two HB4.out hb5)
                    have HE5 := Lib.hid (HE4.out.below hb5 (by simp only [World.size_alloc]; omega))
                    have HL5 := Lib.hid (HL4.out.below hb5 (by simp only [World.size_alloc]; omega))
                    have hs5 : wo.heap.size < w5.heap.size := by have := hb5.size; simp only [World.size_alloc] at this; omega
                    obtain ⟨q0, q1, q2⟩ := link_blk HL5.out
                    clear hb5 HF1 c0 c1 c2 e0 e1 e2 e3 e4
                    have HF2 := Lib.hid (rfind_any gl gA gn gc x1 B (w5.alloc (.cells #[.int .i64 a0, .int .i64 a1, .int .i64 a2, .int .i64 a3] 42)) (HGC.out.rd.lowg hB (Nat.le_refl _) (HB5.out.alloc (by omega) _)) (by simp only [World.size_alloc]; omega) HGC.out.le)
                    go_wp2_with fail
                    refine HF2.out.mono ?_
                    rintro e w6 ⟨rfl, hb6⟩
                    rw [FB.out]
                    have HB6 := Lib.hid ((below_two (HB5.out.alloc (by omega) (.cells #[.int .i64 a0, .int .i64 a1, .int .i64 a2, .int .i64 a3] 42)) hb6).alloc (by have := hb6.size; simp only [World.size_alloc] at this; omega) (.cells #[.int .i64 b0, .int .i64 b1, .int .i64 b2, .int .i64 b3] 42))
                    have hk6 := ((Blk.new w5 42 #[.int .i64 a0, .int .i64 a1, .int .i64 a2, .int .i64 a3]).below hb6 (by simp))
                    have hl6 := ((HL5.out.alloc (.cells #[.int .i64 a0, .int .i64 a1, .int .i64 a2, .int .i64 a3] 42)).below hb6 (by simp only [World.size_alloc]; omega))
                    have he6 := ((HE5.out.alloc (.cells #[.int .i64 a0, .int .i64 a1, .int .i64 a2, .int .i64 a3] 42)).below hb6 (by simp only [World.size_alloc]; omega))
                    have hs6 : w5.heap.size < w6.heap.size := by have := hb6.size; simp only [World.size_alloc] at this; omega
                    have hs6' : wo.heap.size < w6.heap.size := by omega
                    have hs6'' : w.heap.size < w6.heap.size := by omega
                    have HE6 := Lib.hid (he6.alloc (.cells #[.int .i64 b0, .int .i64 b1, .int .i64 b2, .int .i64 b3] 42))
                    have HL6 := Lib.hid (hl6.alloc (.cells #[.int .i64 b0, .int .i64 b1, .int .i64 b2, .int .i64 b3] 42))
                    obtain ⟨k0, k1', k2, k3'⟩ := acc_blk hk6
                    obtain ⟨m0, m1, m2⟩ := link_blk hl6
                    obtain ⟨n0, n1, n2, n3, n4⟩ := ent_blk he6
                    clear hb6 HF2 q0 q1 q2 hk6 hl6 he6
                    go_wp2_with fail
                    refine (refDvalid_any x2 _).mono ?_
                    rintro e wx ⟨rfl, rfl⟩
                    rw [HDV.out]
                    go_wp2_with fail
                    clear k0 k1' k2 k3' m0 m1 m2 n0 n1 n2 n3 n4
                    have hsb := HB6.out.size
                    generalize hwi : w6.alloc _ = wi at *
                    clear hwi
                    have hLt := HL6.out.lt
                    have hEt := HE6.out.lt
                    go_loopw [11] (fun i wr => ∃ j : Nat, i = .int .i64 j ∧ j ≤ k ∧ (ls.take j).any (fun y => (y.frm == x0) && (y.since == x2)) = false ∧ Below wi.heap.size wi wr) (fun i _ => k - (intOf i).toNat)
                    case atStart => exact ⟨0, rfl, by omega, rfl, Below.refl _ _⟩
                    case round =>
                      obtain ⟨j, rfl, hj, hja, hbj⟩ := hrel
                      obtain ⟨wj, rfl⟩ : ∃ wj : World, wj = wr := ⟨_, rfl⟩
                      have HJA := Lib.hid hja
                      clear hja
                      have HBJ := Lib.hid (below_two HB6.out hbj)
                      have HEJ := Lib.hid (HE6.out.below hbj hEt)
                      have HLJ := Lib.hid (HL6.out.below hbj hLt)
                      have hsj := hbj.size
                      by_cases hjk : j < k
                      case pos =>
                        have k5 : decide ((j : Int) < (k : Int)) = true := by rw [decide_eq_true_eq]; omega
                        obtain ⟨ad', ead, hbk', d0, d1, d2⟩ := (HLI.out.rd.lowg hB (Nat.le_refl _) HBJ.out).link_at (k := j) (by omega)
                        injection ead with ead
                        subst ead
                        obtain ⟨m0, m1, m2⟩ := link_blk HLJ.out
                        obtain ⟨n0, n1, n2, n3, n4⟩ := ent_blk HEJ.out
                        have HJS : Hid ((ls.take (j + 1)).any (fun y => (y.frm == x0) && (y.since == x2)) = ((ls.take j).any (fun y => (y.frm == x0) && (y.since == x2)) || (((ls.getD j default).frm == x0) && ((ls.getD j default).since == x2)))) := any_take (by have := HKL.out; omega)
                        have HJY : Hid ((((ls.getD j default).frm == x0) && ((ls.getD j default).since == x2)) = true → linkSeen ls k ⟨x0, x1, x2⟩ = true) := fun h => any_of hjk (by have := HKL.out; omega) h
                        have hj1 : (j : Int) < (nl : Int) := by omega
                        have hj0 : (0 : Int) ≤ (j : Int) := by omega
                        generalize ls.getD j default = y at *
                        obtain ⟨y0, y1, y2⟩ := y
                        simp only [] at d0 d1 d2 HJS HJY
                        cases f1 : y0 == x0
                        case false =>
                          have F : Hid ((ls.take (j + 1)).any (fun y => (y.frm == x0) && (y.since == x2)) = false) := by show _ = _; rw [HJS.out, HJA.out, f1]; rfl
                          clear HJS HJY
                          go_wp2_with fail
                          go_quiet (fail)
                          go_wp2_with fail
                          exact ⟨⟨j + 1, by go_num, by omega, F.out, below_drewN hbj _⟩, by simp [intOf]; omega⟩
                        case true =>
                          cases f2 : y2 == x2
                          case false =>
                            have F : Hid ((ls.take (j + 1)).any (fun y => (y.frm == x0) && (y.since == x2)) = false) := by show _ = _; rw [HJS.out, HJA.out, f2]; simp
                            clear HJS HJY
                            go_wp2_with fail
                            go_quiet (fail)
                            go_wp2_with fail
                            exact ⟨⟨j + 1, by go_num, by omega, F.out, below_drewN hbj _⟩, by simp [intOf]; omega⟩
                          case true =>
                            have HSE := Lib.hid (HJY.out (by rw [f1, f2]; rfl))
                            have F : Hid (mapR ch gl ls = false) := mapR_4 (linksOk_no HKL.out (by rw [HAT.out, HSE.out]; simp))
                            clear HJS HJY
                            go_wp2_with fail
                            go_quiet (fail)
                            go_wp2_with fail
                            go_ret
                            exact ⟨ret_bool (HG.out.trans F.out).symm, below_drewN HBJ.out _⟩
                      case neg =>
                        have k5 : decide ((j : Int) < (k : Int)) = false := by rw [decide_eq_false_iff_not]; omega
                        have HSE : Hid (linkSeen ls k ⟨x0, x1, x2⟩ = false) := by
                          show _ = _
                          unfold linkSeen
                          rw [show k = j by omega]
                          exact HJA.out
                        have F := Lib.hid (allR_step HD.out (by rw [HAT.out, HLO.out, HSE.out]; rfl))
                        go_wp2_with fail
                        exact ⟨⟨k + 1, by go_num, by omega, F.out, HBJ.out, HEJ.out⟩, by simp [intOf]; omega⟩
end Go.Proofs.YtcmmppkmkejniaaGreatDoor
namespace Go.Proofs.YtcmmppkmkejniaaGreatDoor
open Go.RowKit
set_option linter.unusedVariables false
set_option maxRecDepth 100000 in
set_option maxHeartbeats 8000000 in
theorem racc_any (g : SGrp) (code : Int) (B : Nat) (w : World) (hg : ChartIn w B g.Ac g.nc g.cc g.chart) (hB : B ≤ w.heap.size) :
    Calls Tryz.prog 41 #[grpV g, .int .i64 code] w fun e w' => e = .returned (findV g.chart code) ∧ Below w.heap.size w w' := by
  obtain ⟨cu, yr, mo, pe, Ac, nc, cc, ch, ro, Ae, ne, ce, es⟩ := g
  have HC := Lib.hid hg
  clear hg
  have hge : Hid (grpV ⟨cu, yr, mo, pe, Ac, nc, cc, ch, ro, Ae, ne, ce, es⟩ = .agg (grpC ⟨cu, yr, mo, pe, Ac, nc, cc, ch, ro, Ae, ne, ce, es⟩)) := rfl
  have hc4 : Hid ((grpC ⟨cu, yr, mo, pe, Ac, nc, cc, ch, ro, Ae, ne, ce, es⟩)[4]? = some (.slice Ac nc cc)) := rfl
  rw [hge.out]
  simp only [] at HC ⊢
  have hsz : Hid ((grpC ⟨cu, yr, mo, pe, Ac, nc, cc, ch, ro, Ae, ne, ce, es⟩).size = 21) := rfl
  clear hge
  unfold grpC at hc4 hsz ⊢
  simp only [] at hc4 hsz ⊢
  have HB0 := Lib.hid (((Below.refl w.heap.size w).alloc (Nat.le_refl _) (.cells #[.string ⟨cu.toArray⟩, .int .i64 yr, .int .i64 mo, .int .i64 pe, .slice Ac nc cc, .int .i64 ro.c0, .int .i64 ro.c1, .int .i64 ro.c2, .int .i64 ro.c3, .int .i64 ro.c4, .int .i64 ro.c5, .int .i64 ro.c6, .int .i64 ro.c7, .int .i64 ro.c8, .int .i64 ro.c9, .int .i64 ro.c10, .int .i64 ro.c11, .int .i64 ro.c12, .int .i64 ro.c13, .int .i64 ro.c14, .slice Ae ne ce] 29)).alloc (by simp) (.cells #[.int .i64 0, .int .i64 0, .int .i64 0, .int .i64 0] 42))
  have HK : Hid (Blk ((w.alloc (.cells #[.string ⟨cu.toArray⟩, .int .i64 yr, .int .i64 mo, .int .i64 pe, .slice Ac nc cc, .int .i64 ro.c0, .int .i64 ro.c1, .int .i64 ro.c2, .int .i64 ro.c3, .int .i64 ro.c4, .int .i64 ro.c5, .int .i64 ro.c6, .int .i64 ro.c7, .int .i64 ro.c8, .int .i64 ro.c9, .int .i64 ro.c10, .int .i64 ro.c11, .int .i64 ro.c12, .int .i64 ro.c13, .int .i64 ro.c14, .slice Ae ne ce] 29)).alloc (.cells #[.int .i64 0, .int .i64 0, .int .i64 0, .int .i64 0] 42)) (w.heap.size + 1) 42 #[.int .i64 0, .int .i64 0, .int .i64 0, .int .i64 0]) := by
    have := Blk.new (w.alloc (.cells #[.string ⟨cu.toArray⟩, .int .i64 yr, .int .i64 mo, .int .i64 pe, .slice Ac nc cc, .int .i64 ro.c0, .int .i64 ro.c1, .int .i64 ro.c2, .int .i64 ro.c3, .int .i64 ro.c4, .int .i64 ro.c5, .int .i64 ro.c6, .int .i64 ro.c7, .int .i64 ro.c8, .int .i64 ro.c9, .int .i64 ro.c10, .int .i64 ro.c11, .int .i64 ro.c12, .int .i64 ro.c13, .int .i64 ro.c14, .slice Ae ne ce] 29)) 42 #[.int .i64 0, .int .i64 0, .int .i64 0, .int .i64 0]
    simp only [World.size_alloc] at this
    exact this
  go_enter Tryz.func41, Tryz.ntmps41
  go_wp2_with fail
  have HF := Lib.hid (rfind_any ch Ac nc cc code B _ (HC.out.rd.lowg hB (Nat.le_refl _) HB0.out) (by simp only [World.size_alloc]; omega) HC.out.le)
  refine HF.out.mono ?_
  rintro e w1 ⟨rfl, hb1⟩
  have HB1 := Lib.hid (below_two HB0.out hb1)
  have HK1 := Lib.hid (HK.out.below hb1 (by simp))
  have hlt1 := HK1.out.lt
  have hfz := HK1.out.frozen
  obtain ⟨y0, y1, y2, y3⟩ := acc_blk HK1.out
  clear hb1 HF
  cases hf : findA ch code with
  | none =>
    have F := Lib.hid (findV_no hf)
    clear hf
    rw [F.out]
    go_wp2_with fail
    have hbz := set4_below (a := .int .i64 0) (b := .int .i64 0) (c := .int .i64 0) (d := .int .i64 0) HB1.out (g := w.heap.size + 1) (by omega)
    have hbk2 := set4 (a' := .int .i64 0) (b' := .int .i64 0) (c' := .int .i64 0) (d' := .int .i64 0) HK1.out
    generalize World.setCell _ ⟨w.heap.size + 1, 3, none⟩ _ = wz at *
    obtain ⟨z0, z1, z2, z3⟩ := acc_blk hbk2
    refine bodyPost_ret (v := .tuple #[.agg #[.int .i64 0, .int .i64 0, .int .i64 0, .int .i64 0], .bool false]) ?_ rfl ⟨by rw [F.out], hbz⟩
    simp [results, Tryz.results41, go_sem, z0, z1, z2, z3]
  | some x =>
    have F := Lib.hid (findV_yes hf)
    clear hf
    obtain ⟨x0, x1, x2, x3⟩ := x
    simp only [] at F
    rw [F.out]
    go_wp2_with fail
    have hbz := set4_below (a := .int .i64 x0) (b := .int .i64 x1) (c := .int .i64 x2) (d := .int .i64 x3) HB1.out (g := w.heap.size + 1) (by omega)
    have hbk2 := set4 (a' := .int .i64 x0) (b' := .int .i64 x1) (c' := .int .i64 x2) (d' := .int .i64 x3) HK1.out
    generalize World.setCell _ ⟨w.heap.size + 1, 3, none⟩ _ = wz at *
    obtain ⟨z0, z1, z2, z3⟩ := acc_blk hbk2
    refine bodyPost_ret (v := .tuple #[.agg #[.int .i64 x0, .int .i64 x1, .int .i64 x2, .int .i64 x3], .bool true]) ?_ rfl ⟨by rw [F.out], hbz⟩
    simp [results, Tryz.results41, go_sem, z0, z1, z2, z3]
/-- the number of the first entity with a name; whether there is one -/
def entIdx (es : List SEnt) (s : List UInt8) : Option Nat := es.findIdx? fun e => e.name == s
def findEV (es : List SEnt) (s : List UInt8) : Value := match entIdx es s with
  | some k => .tuple #[.int .i64 (k : Int), .bool true]
  | none => .tuple #[.int .i64 0, .bool false]
theorem entIdx_at {es : List SEnt} {s : List UInt8} {k : Nat} (hk : k < es.length) (h : ∀ i, i < k → ((es.getD i default).name == s) = false) (h2 : ((es.getD k default).name == s) = true) : entIdx es s = some k := by
  unfold entIdx
  rw [List.findIdx?_eq_some_iff_getElem]
  refine ⟨hk, by simpa [List.getD, hk] using h2, fun j hj => ?_⟩
  have := h j hj
  have hjl : j < es.length := by omega
  simpa [List.getD, hjl] using this
theorem entIdx_none {es : List SEnt} {s : List UInt8} (h : ∀ i, i < es.length → ((es.getD i default).name == s) = false) : entIdx es s = none := by
  unfold entIdx
  rw [List.findIdx?_eq_none_iff]
  intro x hx
  obtain ⟨i, hi, rfl⟩ := List.mem_iff_getElem.1 hx
  have := h i hi
  simpa [List.getD, hi] using this
set_option maxRecDepth 100000 in
set_option maxHeartbeats 8000000 in
theorem refind_any (g : SGrp) (s : List UInt8) (B : Nat) (w : World) (hg : Reads w B 5 g.Ae g.ne (entsC g.ents)) (hB : B ≤ w.heap.size) (hne : g.ne ≤ 1000) :
    Calls Tryz.prog 24 #[grpV g, .string ⟨s.toArray⟩] w fun e w' => e = .returned (findEV g.ents s) ∧ Below w.heap.size w w' := by
  have HL := Lib.hid (ents_len hg)
  obtain ⟨cu, yr, mo, pe, Ac, nc, cc, ch, ro, Ae, ne, ce, es⟩ := g
  have HR := Lib.hid hg
  clear hg
  unfold grpV
  simp only [] at HR HL hne ⊢
  generalize hgo : findEV es s = ok
  have HG := Lib.hid hgo.symm
  clear hgo
  have HB0 := Lib.hid ((Below.refl w.heap.size w).alloc (Nat.le_refl _) (.cells #[.string ⟨cu.toArray⟩, .int .i64 yr, .int .i64 mo, .int .i64 pe, .slice Ac nc cc, .int .i64 ro.c0, .int .i64 ro.c1, .int .i64 ro.c2, .int .i64 ro.c3, .int .i64 ro.c4, .int .i64 ro.c5, .int .i64 ro.c6, .int .i64 ro.c7, .int .i64 ro.c8, .int .i64 ro.c9, .int .i64 ro.c10, .int .i64 ro.c11, .int .i64 ro.c12, .int .i64 ro.c13, .int .i64 ro.c14, .slice Ae ne ce] 29))
  have HE := Lib.hid (Blk.new w 29 #[.string ⟨cu.toArray⟩, .int .i64 yr, .int .i64 mo, .int .i64 pe, .slice Ac nc cc, .int .i64 ro.c0, .int .i64 ro.c1, .int .i64 ro.c2, .int .i64 ro.c3, .int .i64 ro.c4, .int .i64 ro.c5, .int .i64 ro.c6, .int .i64 ro.c7, .int .i64 ro.c8, .int .i64 ro.c9, .int .i64 ro.c10, .int .i64 ro.c11, .int .i64 ro.c12, .int .i64 ro.c13, .int .i64 ro.c14, .slice Ae ne ce])
  go_enter Tryz.func24, Tryz.ntmps24
  go_wp2_with fail
  generalize hw0 : w.alloc _ = w0 at *
  clear hw0
  have g20 := HE.out.cell 20
  simp only [List.getElem?_toArray, List.getElem?_cons_succ, List.getElem?_cons_zero] at g20
  go_loop [6] (fun i => ∃ k : Nat, k ≤ ne ∧ i = .int .i64 k ∧ ∀ j, j < k → ((es.getD j default).name == s) = false) (fun i => ne - (intOf i).toNat)
  case atStart => exact ⟨0, by omega, rfl, fun j hj => by omega⟩
  case round =>
    obtain ⟨k, hk, rfl, hd⟩ := hrel
    have HD := Lib.hid hd
    clear hd
    by_cases hlt : k < ne
    case pos =>
      have k3 : decide ((k : Int) < (ne : Int)) = true := by rw [decide_eq_true_eq]; omega
      have b15 : (k : Int) < (ne : Int) := by omega
      obtain ⟨ad, rfl, hbk, c0, c1, c2, c3, c4⟩ := (HR.out.lowg hB (Nat.le_refl _) HB0.out).ent_at hlt
      have HY : Hid (((es.getD k default).name == s) = true → entIdx es s = some k) := fun h => entIdx_at (by rw [HL.out]; exact hlt) HD.out h
      have HN : Hid (((es.getD k default).name == s) = false → ∀ j, j < k + 1 → ((es.getD j default).name == s) = false) := fun h j hj => by
        rcases Nat.lt_or_ge j k with h1 | h1
        · exact HD.out j h1
        · obtain rfl : j = k := by omega
          exact h
      generalize es.getD k default = x at *
      obtain ⟨nm, xu, Xc, xn, xc, xch, Al, nl, cl, ls, jt⟩ := x
      simp only [] at c0 c1 c2 c3 c4 HY HN
      clear c1 c2 c3 c4
      cases hc : nm == s
      case false =>
        have F := Lib.hid (HN.out hc)
        have hc2 : ¬ nm = s := by rw [beq_eq_false_iff_ne] at hc; exact hc
        clear HY HN
        go_wp2_with fail
        go_round
        case rel => exact ⟨k + 1, by omega, by go_num, F.out⟩
        case measure => simp [intOf]; omega
      case true =>
        have F : Hid (findEV es s = .tuple #[.int .i64 (k : Int), .bool true]) := by show _ = _; unfold findEV; rw [HY.out hc]
        obtain rfl : nm = s := by simpa using hc
        clear HY HN
        go_wp2_with fail
        go_ret2
        exact ⟨by rw [HG.out, F.out]; rfl, HB0.out⟩
    case neg =>
      have k3 : decide ((k : Int) < (ne : Int)) = false := by rw [decide_eq_false_iff_not]; omega
      have F : Hid (findEV es s = .tuple #[.int .i64 0, .bool false]) := by show _ = _; unfold findEV; rw [entIdx_none (fun i hi => HD.out i (by rw [HL.out] at hi; omega))]
      go_wp2_with fail
      go_ret2
      exact ⟨by rw [HG.out, F.out]; rfl, HB0.out⟩
end Go.Proofs.YtcmmppkmkejniaaGreatDoor
