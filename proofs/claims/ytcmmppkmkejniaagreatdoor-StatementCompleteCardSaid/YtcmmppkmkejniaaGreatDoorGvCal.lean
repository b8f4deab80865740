/-
  Calendars: Valid of both.
-/
import Derived.Test.YtcmmppkmkejniaaGreatDoorDatB
namespace Go.Proofs.YtcmmppkmkejniaaGreatDoor
open Go.RowKit
set_option linter.unusedVariables false
theorem calOk_iff {y m p : Int} : calOk y m p = true ↔ 1 ≤ m ∧ m ≤ 12 ∧ 1 ≤ p ∧ p ≤ 120 ∧ 1900 ≤ y ∧ y ≤ 2199 ∧ (12 * y + m - 1 + (p - 1)) / 12 ≤ 2199 := by
  unfold calOk
  simp only [Bool.and_eq_true, decide_eq_true_eq, and_assoc]
theorem calOk_no {y m p : Int} (h : ¬ (1 ≤ m ∧ m ≤ 12 ∧ 1 ≤ p ∧ p ≤ 120 ∧ 1900 ≤ y ∧ y ≤ 2199 ∧ (12 * y + m - 1 + (p - 1)) / 12 ≤ 2199)) : calOk y m p = false := by
  cases e : calOk y m p
  · rfl
  · exact absurd (calOk_iff.1 e) h
/-- the first day of a month is a day just if the year is one -/
theorem dayOk_one {y m : Int} (hm : 1 ≤ m ∧ m ≤ 12) : dayOk y m 1 = true ↔ 1900 ≤ y ∧ y ≤ 2199 := by
  rw [dayOk_iff]
  constructor
  · rintro ⟨_, h⟩
    apply Classical.byContradiction
    intro hn
    rw [dayM_out (fun h' => hn ⟨h'.1, h'.2.1⟩)] at h
    omega
  · intro h
    have := dayM_lo h hm
    omega
theorem ofR_two (y m d : Int) : ∃ N E : Int, ofR y m d = .tuple #[.int .i64 N, .int .i64 E] := by
  unfold ofR
  split
  · exact ⟨_, _, rfl⟩
  · exact ⟨_, _, rfl⟩
theorem dayN_lo {y m d : Int} (h : dayOk y m d = true) : -25567 ≤ dayN y m d ∧ dayN y m d ≤ 84005 := dayN_bd h
def firR (y m q : Int) : Value := ofR ((12 * y + m - 1 + q) / 12) ((12 * y + m - 1 + q) % 12 + 1) 1
theorem firR_yes {y m q : Int} (hy : 1900 ≤ y) (hm : 1 ≤ m) (hq : 0 ≤ q) (h : (12 * y + m - 1 + q) / 12 ≤ 2199) : ∃ N : Int, firR y m q = .tuple #[.int .i64 N, .int .i64 0] := by
  have h1 := (dayOk_one (y := (12 * y + m - 1 + q) / 12) (m := (12 * y + m - 1 + q) % 12 + 1) (by omega)).2 (by omega)
  exact ⟨_, by unfold firR ofR; rw [if_pos h1]⟩
theorem firR_no {y m q : Int} (h : ¬ (12 * y + m - 1 + q) / 12 ≤ 2199) : firR y m q = .tuple #[.int .i64 0, .int .i64 2] := by
  unfold firR
  exact ofR_no (fun h' => by rw [dayM_out (by omega)] at h'; omega)
set_option maxRecDepth 100000 in
set_option maxHeartbeats 2000000 in
theorem first_any (y m p q : Int) (w : World) (hy : 1900 ≤ y) (hy2 : y ≤ 2199) (hm : 1 ≤ m) (hm2 : m ≤ 12) (hq : 0 ≤ q) (hq2 : q ≤ 119) :
    Calls Tryz.prog 80 #[.agg #[.int .i64 y, .int .i64 m, .int .i64 p], .int .i64 q] w fun e w' => e = .returned (firR y m q) ∧ Below w.heap.size w w' := by
  have HB0 := Lib.hid ((Below.refl w.heap.size w).alloc (Nat.le_refl _) (.cells (#[.int .i64 y, .int .i64 m, .int .i64 p] : Array Value) 23))
  have HO : Hid (∀ w : World, Calls Tryz.prog 106 #[.int .i64 ((12 * y + m - 1 + q) / 12), .int .i64 ((12 * y + m - 1 + q) % 12 + 1), .int .i64 1] w fun e w' => e = .returned (firR y m q) ∧ Below w.heap.size w w') := fun w => of_any _ _ _ w
  go_enter Tryz.func80, Tryz.ntmps80
  go_wp2_with fail
  refine (HO.out _).mono ?_
  rintro e w1 ⟨rfl, hb1⟩
  have HB1 := Lib.hid (below_two HB0.out hb1)
  clear hb1 HO
  obtain ⟨N, E, hNE⟩ := ofR_two ((12 * y + m - 1 + q) / 12) ((12 * y + m - 1 + q) % 12 + 1) 1
  have HF : Hid (firR y m q = .tuple #[.int .i64 N, .int .i64 E]) := hNE
  clear hNE
  rw [HF.out]
  go_wp2_with fail
  go_ret2
  exact ⟨by rw [HF.out]; rfl, HB1.out⟩
set_option maxRecDepth 100000 in
set_option maxHeartbeats 4000000 in
theorem radd_any (y m q : Int) (w : World) (hd : dayOk y m 1 = true) (hq : 0 ≤ q) (hq2 : q ≤ 119) :
    Calls Tryz.prog 93 #[.int .i64 (dayN y m 1), .int .i64 q] w fun e w' => e = .returned (firR y m q) ∧ Below w.heap.size w w' := by
  obtain ⟨⟨hy, hy2⟩, ⟨hm, hm2⟩, _, _⟩ := dayOk_in hd
  have hbd := dayN_bd hd
  have HC := Lib.hid (refCivil_yes (dayN y m 1) w hbd.1 hbd.2)
  have HD := Lib.hid hd
  clear hd hbd
  generalize hN : dayN y m 1 = N at *
  have HN := Lib.hid hN
  clear hN
  go_enter Tryz.func93, Tryz.ntmps93
  go_wp2_with fail
  refine HC.out.mono ?_
  rintro e w1 ⟨y', m', d', rfl, hok, hn, hb1⟩
  obtain ⟨rfl, rfl, rfl⟩ := dayN_inj hok HD.out (hn.trans HN.out.symm)
  have HB1 := Lib.hid hb1
  clear hok hn hb1 HC
  by_cases hY : (12 * y' + m' - 1 + q) / 12 ≤ 2199
  · have hY1 : 1900 ≤ (12 * y' + m' - 1 + q) / 12 := by omega
    have hM1 : 1 ≤ (12 * y' + m' - 1 + q) % 12 + 1 := by omega
    have hM2 : (12 * y' + m' - 1 + q) % 12 + 1 ≤ 12 := by omega
    have d1 : decide ((12 * y' + m' - 1 + q) / 12 < 1900) = false := by rw [decide_eq_false_iff_not]; omega
    have d2 : decide (2199 < (12 * y' + m' - 1 + q) / 12) = false := by rw [decide_eq_false_iff_not]; omega
    have hlo := dayM_lo (y := (12 * y' + m' - 1 + q) / 12) (m := (12 * y' + m' - 1 + q) % 12 + 1) ⟨hY1, hY⟩ ⟨hM1, hM2⟩
    have HDS : Hid (∀ w : World, Calls Tryz.prog 116 #[.int .i64 ((12 * y' + m' - 1 + q) / 12), .int .i64 ((12 * y' + m' - 1 + q) % 12 + 1)] w fun e w' => e = .returned (.int .i64 (dayM ((12 * y' + m' - 1 + q) / 12) ((12 * y' + m' - 1 + q) % 12 + 1))) ∧ w = w') := fun w => refDays_any _ _ w
    have HO : Hid (∀ w : World, Calls Tryz.prog 92 #[.int .i64 ((12 * y' + m' - 1 + q) / 12), .int .i64 ((12 * y' + m' - 1 + q) % 12 + 1), .int .i64 1] w fun e w' => e = .returned (firR y' m' q) ∧ w = w') := fun w => refOf_any _ _ _ w
    generalize dayM ((12 * y' + m' - 1 + q) / 12) ((12 * y' + m' - 1 + q) % 12 + 1) = DM at *
    go_wp2_with fail
    refine (HDS.out _).mono ?_
    rintro e wx ⟨rfl, rfl⟩
    have hmin : ¬ DM < 1 := by omega
    have hmin2 : 1 ≤ DM := by omega
    have hmin3 : min 1 DM = 1 := by omega
    clear HDS
    go_wp2_with fail
    refine (HO.out _).mono ?_
    rintro e wx ⟨rfl, rfl⟩
    obtain ⟨N2, E, hNE⟩ := ofR_two ((12 * y' + m' - 1 + q) / 12) ((12 * y' + m' - 1 + q) % 12 + 1) 1
    have HF : Hid (firR y' m' q = .tuple #[.int .i64 N2, .int .i64 E]) := hNE
    clear hNE HO
    rw [HF.out]
    go_wp2_with fail
    go_ret2
    exact ⟨by rw [HF.out]; rfl, HB1.out⟩
  · have d1 : decide ((12 * y' + m' - 1 + q) / 12 < 1900) = false := by rw [decide_eq_false_iff_not]; omega
    have d2 : decide (2199 < (12 * y' + m' - 1 + q) / 12) = true := by rw [decide_eq_true_eq]; omega
    have F := Lib.hid (firR_no hY)
    clear hY
    go_wp2_with fail
    go_ret2
    exact ⟨by rw [F.out]; rfl, HB1.out⟩
-- CALVALID
set_option maxRecDepth 100000 in
set_option maxHeartbeats 4000000 in
theorem cal_any (y m p : Int) (w : World) : Calls Tryz.prog 61 #[.agg #[.int .i64 y, .int .i64 m, .int .i64 p]] w fun e w' => e = .returned (.bool (calOk y m p)) ∧ Below w.heap.size w w' := by
  have HB0 := Lib.hid ((Below.refl w.heap.size w).alloc (Nat.le_refl _) (.cells (#[.int .i64 y, .int .i64 m, .int .i64 p] : Array Value) 23))
  generalize hgo : calOk y m p = ok
  have HG := Lib.hid hgo.symm
  clear hgo
  by_cases t1 : m < 1
  · have d1 : (decide (m < 1)) = true := by rw [decide_eq_true_eq]; omega
    have F := Lib.hid (calOk_no (y := y) (m := m) (p := p) (by rintro ⟨h, _⟩; omega))
    go_enter Tryz.func61, Tryz.ntmps61
    go_wp2_with fail
    go_ret
    exact ⟨ret_bool (HG.out.trans F.out).symm, HB0.out⟩
  have d1 : (decide (m < 1)) = false := by rw [decide_eq_false_iff_not]; omega
  by_cases t2 : 12 < m
  · have d2 : (decide (12 < m)) = true := by rw [decide_eq_true_eq]; omega
    have F := Lib.hid (calOk_no (y := y) (m := m) (p := p) (by rintro ⟨_, h, _⟩; omega))
    go_enter Tryz.func61, Tryz.ntmps61
    go_wp2_with fail
    go_ret
    exact ⟨ret_bool (HG.out.trans F.out).symm, HB0.out⟩
  have d2 : (decide (12 < m)) = false := by rw [decide_eq_false_iff_not]; omega
  by_cases t3 : p < 1
  · have d3 : (decide (p < 1)) = true := by rw [decide_eq_true_eq]; omega
    have F := Lib.hid (calOk_no (y := y) (m := m) (p := p) (by rintro ⟨_, _, h, _⟩; omega))
    go_enter Tryz.func61, Tryz.ntmps61
    go_wp2_with fail
    go_ret
    exact ⟨ret_bool (HG.out.trans F.out).symm, HB0.out⟩
  have d3 : (decide (p < 1)) = false := by rw [decide_eq_false_iff_not]; omega
  by_cases t4 : 120 < p
  · have d4 : (decide (120 < p)) = true := by rw [decide_eq_true_eq]; omega
    have F := Lib.hid (calOk_no (y := y) (m := m) (p := p) (by rintro ⟨_, _, _, h, _⟩; omega))
    go_enter Tryz.func61, Tryz.ntmps61
    go_wp2_with fail
    go_ret
    exact ⟨ret_bool (HG.out.trans F.out).symm, HB0.out⟩
  have d4 : (decide (120 < p)) = false := by rw [decide_eq_false_iff_not]; omega
  by_cases t5 : y < 1900
  · have d5 : (decide (y < 1900)) = true := by rw [decide_eq_true_eq]; omega
    have F := Lib.hid (calOk_no (y := y) (m := m) (p := p) (by rintro ⟨_, _, _, _, h, _⟩; omega))
    go_enter Tryz.func61, Tryz.ntmps61
    go_wp2_with fail
    go_ret
    exact ⟨ret_bool (HG.out.trans F.out).symm, HB0.out⟩
  have d5 : (decide (y < 1900)) = false := by rw [decide_eq_false_iff_not]; omega
  by_cases t6 : 2199 < y
  · have d6 : (decide (2199 < y)) = true := by rw [decide_eq_true_eq]; omega
    have F := Lib.hid (calOk_no (y := y) (m := m) (p := p) (by rintro ⟨_, _, _, _, _, h, _⟩; omega))
    go_enter Tryz.func61, Tryz.ntmps61
    go_wp2_with fail
    go_ret
    exact ⟨ret_bool (HG.out.trans F.out).symm, HB0.out⟩
  have d6 : (decide (2199 < y)) = false := by rw [decide_eq_false_iff_not]; omega
  have HFI : Hid (∀ w : World, Calls Tryz.prog 80 #[.agg #[.int .i64 y, .int .i64 m, .int .i64 p], .int .i64 (p - 1)] w fun e w' => e = .returned (firR y m (p - 1)) ∧ Below w.heap.size w w') := fun w => first_any y m p (p - 1) w (by omega) (by omega) (by omega) (by omega) (by omega) (by omega)
  by_cases h7 : (12 * y + m - 1 + (p - 1)) / 12 ≤ 2199
  · obtain ⟨N, hN⟩ := firR_yes (y := y) (m := m) (q := p - 1) (by omega) (by omega) (by omega) h7
    have R := Lib.hid hN
    clear hN
    have F := Lib.hid (calOk_iff.2 ⟨(by omega : 1 ≤ m), (by omega), (by omega : 1 ≤ p), (by omega), (by omega : 1900 ≤ y), (by omega), h7⟩)
    go_enter Tryz.func61, Tryz.ntmps61
    go_wp2_with fail
    refine (HFI.out _).mono ?_
    rintro e w1 ⟨rfl, hb1⟩
    have HB1 := Lib.hid (below_two HB0.out hb1)
    clear hb1 HFI
    rw [R.out]
    go_wp2_with fail
    go_ret
    exact ⟨ret_bool (HG.out.trans F.out).symm, HB1.out⟩
  · have R := Lib.hid (firR_no h7)
    have F := Lib.hid (calOk_no (y := y) (m := m) (p := p) (by rintro ⟨_, _, _, _, _, _, h⟩; omega))
    go_enter Tryz.func61, Tryz.ntmps61
    go_wp2_with fail
    refine (HFI.out _).mono ?_
    rintro e w1 ⟨rfl, hb1⟩
    have HB1 := Lib.hid (below_two HB0.out hb1)
    clear hb1 HFI
    rw [R.out]
    go_wp2_with fail
    go_ret
    exact ⟨ret_bool (HG.out.trans F.out).symm, HB1.out⟩
set_option maxRecDepth 100000 in
set_option maxHeartbeats 2000000 in
theorem rfirst_no (y m p q : Int) (w : World) (hd : dayOk y m 1 = false) : Calls Tryz.prog 66 #[.agg #[.int .i64 y, .int .i64 m, .int .i64 p], .int .i64 q] w fun e w' => e = .returned (.tuple #[.int .i64 0, .int .i64 2]) ∧ Below w.heap.size w w' := by
  have HB0 := Lib.hid ((Below.refl w.heap.size w).alloc (Nat.le_refl _) (.cells (#[.int .i64 y, .int .i64 m, .int .i64 p] : Array Value) 23))
  have HO : Hid (∀ w : World, Calls Tryz.prog 92 #[.int .i64 y, .int .i64 m, .int .i64 1] w fun e w' => e = .returned (ofR y m 1) ∧ w = w') := fun w => refOf_any _ _ _ w
  have R : Hid (ofR y m 1 = .tuple #[.int .i64 0, .int .i64 2]) := by show _ = _; unfold ofR; rw [hd]; rfl
  clear hd
  go_enter Tryz.func66, Tryz.ntmps66
  go_wp2_with fail
  refine (HO.out _).mono ?_
  rintro e wx ⟨rfl, rfl⟩
  rw [R.out]
  go_wp2_with fail
  go_ret2
  exact ⟨rfl, HB0.out⟩
set_option maxRecDepth 100000 in
set_option maxHeartbeats 2000000 in
theorem rfirst_yes (y m p q : Int) (w : World) (hd : dayOk y m 1 = true) (hq : 0 ≤ q) (hq2 : q ≤ 119) : Calls Tryz.prog 66 #[.agg #[.int .i64 y, .int .i64 m, .int .i64 p], .int .i64 q] w fun e w' => e = .returned (firR y m q) ∧ Below w.heap.size w w' := by
  have HB0 := Lib.hid ((Below.refl w.heap.size w).alloc (Nat.le_refl _) (.cells (#[.int .i64 y, .int .i64 m, .int .i64 p] : Array Value) 23))
  have HO : Hid (∀ w : World, Calls Tryz.prog 92 #[.int .i64 y, .int .i64 m, .int .i64 1] w fun e w' => e = .returned (ofR y m 1) ∧ w = w') := fun w => refOf_any _ _ _ w
  have R : Hid (ofR y m 1 = .tuple #[.int .i64 (dayN y m 1), .int .i64 0]) := by show _ = _; unfold ofR; rw [if_pos hd]
  have HA : Hid (∀ w : World, Calls Tryz.prog 93 #[.int .i64 (dayN y m 1), .int .i64 q] w fun e w' => e = .returned (firR y m q) ∧ Below w.heap.size w w') := fun w => radd_any y m q w hd hq hq2
  clear hd
  go_enter Tryz.func66, Tryz.ntmps66
  go_wp2_with fail
  refine (HO.out _).mono ?_
  rintro e wx ⟨rfl, rfl⟩
  rw [R.out]
  go_wp2_with fail
  refine (HA.out _).mono ?_
  rintro e w1 ⟨rfl, hb1⟩
  have HB1 := Lib.hid (below_two HB0.out hb1)
  clear hb1 HA
  obtain ⟨N, E, hNE⟩ := ofR_two ((12 * y + m - 1 + q) / 12) ((12 * y + m - 1 + q) % 12 + 1) 1
  have HF : Hid (firR y m q = .tuple #[.int .i64 N, .int .i64 E]) := hNE
  clear hNE
  rw [HF.out]
  go_wp2_with fail
  go_ret2
  exact ⟨by rw [HF.out]; rfl, HB1.out⟩
set_option maxRecDepth 100000 in
set_option maxHeartbeats 4000000 in
theorem rcal_any (y m p : Int) (w : World) : Calls Tryz.prog 37 #[.agg #[.int .i64 y, .int .i64 m, .int .i64 p]] w fun e w' => e = .returned (.bool (calOk y m p)) ∧ Below w.heap.size w w' := by
  have HB0 := Lib.hid ((Below.refl w.heap.size w).alloc (Nat.le_refl _) (.cells (#[.int .i64 y, .int .i64 m, .int .i64 p] : Array Value) 23))
  generalize hgo : calOk y m p = ok
  have HG := Lib.hid hgo.symm
  clear hgo
  by_cases t3 : p < 1
  · have d3 : (decide (p < 1)) = true := by rw [decide_eq_true_eq]; omega
    have F := Lib.hid (calOk_no (y := y) (m := m) (p := p) (by rintro ⟨_, _, h, _⟩; omega))
    go_enter Tryz.func37, Tryz.ntmps37
    go_wp2_with fail
    go_ret
    exact ⟨ret_bool (HG.out.trans F.out).symm, HB0.out⟩
  have d3 : (decide (p < 1)) = false := by rw [decide_eq_false_iff_not]; omega
  by_cases t4 : 120 < p
  · have d4 : (decide (120 < p)) = true := by rw [decide_eq_true_eq]; omega
    have F := Lib.hid (calOk_no (y := y) (m := m) (p := p) (by rintro ⟨_, _, _, h, _⟩; omega))
    go_enter Tryz.func37, Tryz.ntmps37
    go_wp2_with fail
    go_ret
    exact ⟨ret_bool (HG.out.trans F.out).symm, HB0.out⟩
  have d4 : (decide (120 < p)) = false := by rw [decide_eq_false_iff_not]; omega
  cases hd : dayOk y m 1
  · have HFI : Hid (∀ w : World, Calls Tryz.prog 66 #[.agg #[.int .i64 y, .int .i64 m, .int .i64 p], .int .i64 (p - 1)] w fun e w' => e = .returned (.tuple #[.int .i64 0, .int .i64 2]) ∧ Below w.heap.size w w') := fun w => rfirst_no y m p (p - 1) w hd
    have F := Lib.hid (calOk_no (y := y) (m := m) (p := p) (by
      rintro ⟨h1, h2, _, _, h3, h4, _⟩
      have := (dayOk_one (y := y) (m := m) ⟨h1, h2⟩).2 ⟨h3, h4⟩
      rw [hd] at this; cases this))
    clear hd
    go_enter Tryz.func37, Tryz.ntmps37
    go_wp2_with fail
    refine (HFI.out _).mono ?_
    rintro e w1 ⟨rfl, hb1⟩
    have HB1 := Lib.hid (below_two HB0.out hb1)
    clear hb1 HFI
    go_wp2_with fail
    go_ret
    exact ⟨ret_bool (HG.out.trans F.out).symm, HB1.out⟩
  · obtain ⟨⟨hy, hy2⟩, ⟨hm, hm2⟩, _, _⟩ := dayOk_in hd
    have HFI : Hid (∀ w : World, Calls Tryz.prog 66 #[.agg #[.int .i64 y, .int .i64 m, .int .i64 p], .int .i64 (p - 1)] w fun e w' => e = .returned (firR y m (p - 1)) ∧ Below w.heap.size w w') := fun w => rfirst_yes y m p (p - 1) w hd (by omega) (by omega)
    clear hd
    by_cases h7 : (12 * y + m - 1 + (p - 1)) / 12 ≤ 2199
    · obtain ⟨N, hN⟩ := firR_yes (y := y) (m := m) (q := p - 1) (by omega) (by omega) (by omega) h7
      have R := Lib.hid hN
      clear hN
      have F := Lib.hid (calOk_iff.2 ⟨(by omega : 1 ≤ m), (by omega), (by omega : 1 ≤ p), (by omega), (by omega : 1900 ≤ y), (by omega), h7⟩)
      go_enter Tryz.func37, Tryz.ntmps37
      go_wp2_with fail
      refine (HFI.out _).mono ?_
      rintro e w1 ⟨rfl, hb1⟩
      have HB1 := Lib.hid (below_two HB0.out hb1)
      clear hb1 HFI
      rw [R.out]
      go_wp2_with fail
      go_ret
      exact ⟨ret_bool (HG.out.trans F.out).symm, HB1.out⟩
    · have R := Lib.hid (firR_no h7)
      have F := Lib.hid (calOk_no (y := y) (m := m) (p := p) (by rintro ⟨_, _, _, _, _, _, h⟩; omega))
      go_enter Tryz.func37, Tryz.ntmps37
      go_wp2_with fail
      refine (HFI.out _).mono ?_
      rintro e w1 ⟨rfl, hb1⟩
      have HB1 := Lib.hid (below_two HB0.out hb1)
      clear hb1 HFI
      rw [R.out]
      go_wp2_with fail
      go_ret
      exact ⟨ret_bool (HG.out.trans F.out).symm, HB1.out⟩
end Go.Proofs.YtcmmppkmkejniaaGreatDoor
