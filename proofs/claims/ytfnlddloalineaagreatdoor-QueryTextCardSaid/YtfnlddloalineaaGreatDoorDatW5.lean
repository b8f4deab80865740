/-
  Dates: Civil of both.
-/
import Derived.Test.YtfnlddloalineaaGreatDoorDatW4
namespace Go.Proofs.YtfnlddloalineaaGreatDoor
open Go.RowKit
set_option linter.unusedVariables false
/-- what Civil returns -/
def CivSays (n : Int) (w : World) (e : Ending) (w' : World) : Prop := ∃ y m d : Int, e = .returned (.tuple #[.int .i64 y, .int .i64 m, .int .i64 d, .int .i64 0]) ∧ dayOk y m d = true ∧ dayN y m d = n ∧ Below w.heap.size w w'
theorem tdiv_366 (n : Int) : (0 ≤ n → n.tdiv 366 = n / 366) ∧ (n < 0 → 366 * n.tdiv 366 - 366 < n ∧ n ≤ 366 * n.tdiv 366) := by
  refine ⟨fun h => Int.tdiv_eq_ediv_of_nonneg h, fun h => ?_⟩
  have e : n.tdiv 366 = -((-n) / 366) := by
    have := Int.neg_tdiv (-n) 366
    rw [Int.neg_neg] at this
    rw [this, Int.tdiv_eq_ediv_of_nonneg (by omega)]
  rw [e]
  omega
theorem civ_first {n q : Int} (h1 : -25567 ≤ n) (h2 : n ≤ 84005) (h : (0 ≤ n ∧ q = n / 366) ∨ (n < 0 ∧ 366 * q - 366 < n ∧ n ≤ 366 * q)) : 1899 ≤ 1970 + q - 2 ∧ 1970 + q - 2 ≤ 2199 ∧ (1900 ≤ 1970 + q - 2 → beginY (1970 + q - 2) ≤ n) := by
  unfold beginY
  omega
theorem civ_last {y n : Int} (h : beginY y ≤ n) (h2 : n ≤ 84005) : y ≤ 2199 := by
  apply Classical.byContradiction
  intro hn
  have := beginY_mono (a := 2200) (b := y) (by omega)
  have e2 : beginY 2200 = 84006 := by decide
  omega
theorem civ_month {y n : Int} {q : Nat} (hy : 1900 ≤ y ∧ y ≤ 2199) (h1 : n < beginY (y + 1)) (hq : q ≤ 11) (h : dayM y ((q : Int) + 1) ≤ n - beginY y - cumM y q) : q + 1 ≤ 11 := by
  apply Classical.byContradiction
  intro hn
  obtain rfl : q = 11 := by omega
  have e1 := cumM_year hy
  have e2 := beginY_succ y
  have e3 : cumM y 12 = cumM y 11 + dayM y (((11 : Nat) : Int) + 1) := rfl
  omega
theorem civ_done {y n : Int} {q : Nat} (h0 : 0 ≤ n - beginY y - cumM y q) (h : ¬ dayM y ((q : Int) + 1) ≤ n - beginY y - cumM y q) : dayOk y ((q : Int) + 1) (n - beginY y - cumM y q + 1) = true ∧ dayN y ((q : Int) + 1) (n - beginY y - cumM y q + 1) = n := by
  refine ⟨dayOk_iff.2 ⟨by omega, by omega⟩, ?_⟩
  unfold dayN
  rw [show ((q : Int) + 1 - 1).toNat = q by omega]
  omega
set_option maxRecDepth 100000 in
set_option maxHeartbeats 4000000 in
theorem civil_yes (n : Int) (w : World) (h1 : -25567 ≤ n) (h2 : n ≤ 84005) : Calls Tryz.prog 106 #[.int .i64 n] w (CivSays n w) := by
  have HV := Lib.hid (dvalid_any n w)
  have hv : dateB n = true := by unfold dateB; rw [decide_eq_true h1, decide_eq_true h2]; rfl
  rw [hv] at HV
  clear hv
  have ht := tdiv_366 n
  obtain ⟨q, hq⟩ : ∃ q, n.tdiv 366 = q := ⟨_, rfl⟩
  rw [hq] at ht
  have hc := civ_first (n := n) (q := q) h1 h2 (by
    by_cases h : 0 ≤ n
    · exact .inl ⟨h, by rw [← ht.1 h]⟩
    · exact .inr ⟨by omega, ht.2 (by omega)⟩)
  have HC := Lib.hid hc
  have qb1 : -100 ≤ q := by omega
  have qb2 : q ≤ 300 := by omega
  clear ht hc
  go_enter Tryz.func106, Tryz.ntmps106
  go_wp2_with fail
  refine HV.out.mono ?_
  rintro e wx ⟨rfl, rfl⟩
  go_wp2_with fail
  clear hq
  go_loop [2] (fun v => ∃ y : Int, v = .int .i64 y ∧ 1899 ≤ y ∧ y ≤ 2199 ∧ (1900 ≤ y → beginY y ≤ n)) (fun v => (2200 - intOf v).toNat)
  case atStart => exact ⟨_, rfl, HC.out.1, HC.out.2.1, HC.out.2.2⟩
  case round =>
    clear HC qb1 qb2
    obtain ⟨y, rfl, hy1, hy2, hyb⟩ := hrel
    have HYB := Lib.hid hyb
    clear hyb
    by_cases hlo : y < 1900
    · have k1 : decide (y < 1900) = true := by rw [decide_eq_true_eq]; exact hlo
      obtain rfl : y = 1899 := by omega
      clear hy1 hy2 hlo
      go_wp2_with fail
      go_round
      case rel => exact ⟨1900, rfl, by omega, by omega, fun _ => by have e1 : beginY 1900 = -25567 := by decide
                                                                    omega⟩
      case measure => simp [intOf]
    · have k1 : decide (y < 1900) = false := by rw [decide_eq_false_iff_not]; exact hlo
      have HBE := Lib.hid (begin_any (y + 1) w (by omega) (by omega))
      have HYN := Lib.hid (HYB.out (by omega))
      have HLS := Lib.hid (fun h => civ_last (y := y + 1) (n := n) h h2)
      by_cases hle : beginY (y + 1) ≤ n
      · have hy3 := HLS.out hle
        have HLE := Lib.hid hle
        clear hle
        have k2 : decide (beginY (y + 1) ≤ n) = true := by rw [decide_eq_true_eq]; exact HLE.out
        generalize hBB : beginY (y + 1) = BB at *
        have HBB := Lib.hid hBB
        clear hBB
        go_wp2_with fail
        refine HBE.out.mono ?_
        rintro e wx ⟨rfl, rfl⟩
        go_wp2_with fail
        go_round
        case rel => exact ⟨y + 1, rfl, by omega, by omega, fun _ => by rw [HBB.out]; exact HLE.out⟩
        case measure => simp [intOf]; omega
      · have HLT : Hid (n < beginY (y + 1)) := by show _ < _; omega
        have k2 : decide (beginY (y + 1) ≤ n) = false := by rw [decide_eq_false_iff_not]; exact hle
        have HB0 := Lib.hid (begin_any y w (by omega) (by omega))
        have hbb := beginY_bd (y := y) (by omega) (by omega)
        have hbb1 := hbb.1
        have hbb2 := hbb.2
        have hyn := HYN.out
        have HMO : Hid (∀ q : Nat, q ≤ 11 → dayM y ((q : Int) + 1) ≤ n - beginY y - cumM y q → q + 1 ≤ 11) := fun q hq h => civ_month ⟨by omega, hy2⟩ HLT.out hq h
        have HDN : Hid (∀ q : Nat, 0 ≤ n - beginY y - cumM y q → ¬ dayM y ((q : Int) + 1) ≤ n - beginY y - cumM y q → dayOk y ((q : Int) + 1) (n - beginY y - cumM y q + 1) = true ∧ dayN y ((q : Int) + 1) (n - beginY y - cumM y q + 1) = n) := fun q h0 h => civ_done h0 h
        clear hbb hle HLS HYB
        generalize beginY (y + 1) = BB at *
        generalize beginY y = B at *
        go_wp2_with fail
        refine HBE.out.mono ?_
        rintro e wx ⟨rfl, rfl⟩
        go_wp2_with fail
        refine HB0.out.mono ?_
        rintro e wx ⟨rfl, rfl⟩
        go_wp2_with fail
        go_loopw [3, 4] (fun mv dv wr => ∃ q : Nat, q ≤ 11 ∧ mv = .int .i64 ((q : Int) + 1) ∧ dv = .int .i64 (n - B - cumM y q) ∧ 0 ≤ n - B - cumM y q ∧ Below w.heap.size w wr) (fun mv _ _ => (13 - intOf mv).toNat)
        case atStart => exact ⟨0, by omega, rfl, by rw [show cumM y 0 = 0 from rfl, Int.sub_zero], by rw [show cumM y 0 = 0 from rfl]; omega, Below.refl _ _⟩
        case round =>
          obtain ⟨q, hq, rfl, rfl, h0, hbr⟩ := hrel
          have HBR := Lib.hid hbr
          clear hbr
          have hcb := cumM_bd y q
          have hc1 := hcb.1
          have hc2 : cumM y q ≤ 400 := by omega
          have G := Lib.hid (cumM_next y q)
          have hdb := dayM_bd y ((q : Int) + 1)
          have hd1 := hdb.1
          have hd2 := hdb.2
          have HDA : Hid (∀ w, Calls Tryz.prog 134 #[.int .i64 y, .int .i64 ((q : Int) + 1)] w fun e w' => e = .returned (.int .i64 (dayM y ((q : Int) + 1))) ∧ Below w.heap.size w w') := days_any y ((q : Int) + 1)
          have HM := Lib.hid (HMO.out q hq)
          have HD := Lib.hid (HDN.out q h0)
          clear hcb hdb
          generalize cumM y q = C at *
          generalize dayM y ((q : Int) + 1) = D at *
          by_cases hgo : D ≤ n - B - C
          · have k3 : decide (D ≤ n - B - C) = true := by rw [decide_eq_true_eq]; exact hgo
            have hq2 := HM.out hgo
            go_wp2_with fail
            refine (HDA.out _).mono ?_
            rintro e w2 ⟨rfl, hb2⟩
            have HB2 := Lib.hid (below_two HBR.out hb2)
            clear hb2
            go_wp2_with fail
            refine (HDA.out _).mono ?_
            rintro e w3 ⟨rfl, hb3⟩
            have HB3 := Lib.hid (below_two HB2.out hb3)
            clear hb3
            go_wp2_with fail
            go_roundw
            case rel => exact ⟨q + 1, by omega, by go_num, by rw [G.out]; exact congrArg (Value.int .i64) (by omega), by rw [G.out]; omega, HB3.out⟩
            case measure => simp [intOf]; omega
          · have k3 : decide (D ≤ n - B - C) = false := by rw [decide_eq_false_iff_not]; exact hgo
            have hd := HD.out (by omega)
            have HDD := Lib.hid hd
            clear hd
            go_wp2_with fail
            refine (HDA.out _).mono ?_
            rintro e w2 ⟨rfl, hb2⟩
            have HB2 := Lib.hid (below_two HBR.out hb2)
            clear hb2
            go_wp2_with fail
            refine bodyPost_ret (v := .tuple #[.int .i64 y, .int .i64 ((q : Int) + 1), .int .i64 (n - B - C + 1), .int .i64 0]) ?_ rfl ⟨y, (q : Int) + 1, n - B - C + 1, rfl, HDD.out.1, HDD.out.2, HB2.out⟩
            simp [results, Tryz.results106, go_sem]
theorem civil_no (n : Int) (w : World) (h : dateB n = false) : Calls Tryz.prog 106 #[.int .i64 n] w fun e w' => e = .returned (.tuple #[.int .i64 0, .int .i64 0, .int .i64 0, .int .i64 2]) ∧ w = w' := by
  have HV := Lib.hid (dvalid_any n w)
  rw [h] at HV
  clear h
  go_enter Tryz.func106, Tryz.ntmps106
  go_wp2_with fail
  refine HV.out.mono ?_
  rintro e wx ⟨rfl, rfl⟩
  go_wp2_with fail
  refine bodyPost_ret (v := .tuple #[.int .i64 0, .int .i64 0, .int .i64 0, .int .i64 2]) ?_ rfl ⟨rfl, rfl⟩
  simp [results, Tryz.results106, go_sem]
set_option maxRecDepth 100000 in
set_option maxHeartbeats 4000000 in
theorem refCivil_yes (n : Int) (w : World) (h1 : -25567 ≤ n) (h2 : n ≤ 84005) : Calls Tryz.prog 109 #[.int .i64 n] w (CivSays n w) := by
  have HV := Lib.hid (refDvalid_any n w)
  have hv : dateB n = true := by unfold dateB; rw [decide_eq_true h1, decide_eq_true h2]; rfl
  rw [hv] at HV
  clear hv
  have HB0 : Hid (beginY 1900 = -25567) := by show _ = _; decide
  go_enter Tryz.func109, Tryz.ntmps109
  go_wp2_with fail
  refine HV.out.mono ?_
  rintro e wx ⟨rfl, rfl⟩
  go_wp2_with fail
  go_loop [6, 8] (fun v r => ∃ y : Int, v = .int .i64 y ∧ 1900 ≤ y ∧ y ≤ 2199 ∧ beginY y ≤ n ∧ r = .int .i64 (n - beginY y)) (fun v _ => (2200 - intOf v).toNat)
  case atStart => exact ⟨1900, rfl, by omega, by omega, by rw [HB0.out]; exact h1, by rw [HB0.out]; first | rfl | go_num⟩
  case round =>
    obtain ⟨y, rfl, hy1, hy2, hyb, rfl⟩ := hrel
    have HLP := Lib.hid (refLeap_any y w (by omega) (by omega))
    have G := Lib.hid (beginY_succ y)
    have HI : Hid (lpI y = if leapB y = true then 1 else 0) := rfl
    have HLS := Lib.hid (fun h => civ_last (y := y + 1) (n := n) h h2)
    have hbb := beginY_bd (y := y) (by omega) (by omega)
    have hbb1 := hbb.1
    have hbb2 := hbb.2
    have HMO : Hid (n < beginY (y + 1) → ∀ q : Nat, q ≤ 11 → dayM y ((q : Int) + 1) ≤ n - beginY y - cumM y q → q + 1 ≤ 11) := fun hl q hq h => civ_month ⟨by omega, hy2⟩ hl hq h
    have HDN : Hid (∀ q : Nat, 0 ≤ n - beginY y - cumM y q → ¬ dayM y ((q : Int) + 1) ≤ n - beginY y - cumM y q → dayOk y ((q : Int) + 1) (n - beginY y - cumM y q + 1) = true ∧ dayN y ((q : Int) + 1) (n - beginY y - cumM y q + 1) = n) := fun q h0 h => civ_done h0 h
    clear hbb
    generalize hBB : beginY (y + 1) = BB at *
    have HBB := Lib.hid hBB
    clear hBB
    generalize beginY y = B at *
    cases hL : leapB y
    · have J : Hid (BB = B + 365) := by show _ = _; rw [G.out, HI.out, hL]; simp; try omega
      rw [hL] at HLP
      clear hL HI G
      by_cases hgo : 365 ≤ n - B
      · have k1 : decide (365 ≤ n - B) = true := by rw [decide_eq_true_eq]; exact hgo
        have hle : B + 365 ≤ n := by omega
        have hy3 := HLS.out (by rw [J.out]; exact hle)
        go_wp2_with fail
        refine HLP.out.mono ?_
        rintro e wx ⟨rfl, rfl⟩
        go_wp2_with fail
        refine HLP.out.mono ?_
        rintro e wx ⟨rfl, rfl⟩
        go_wp2_with fail
        refine HLP.out.mono ?_
        rintro e wx ⟨rfl, rfl⟩
        go_wp2_with fail
        go_round
        case rel => exact ⟨y + 1, rfl, by omega, by omega, by rw [HBB.out, J.out]; exact hle, by rw [HBB.out, J.out]; exact congrArg (Value.int .i64) (by omega)⟩
        case measure => simp [intOf]; omega
      · have k1 : decide (365 ≤ n - B) = false := by rw [decide_eq_false_iff_not]; exact hgo
        have HMQ := Lib.hid (HMO.out (by rw [J.out]; omega))
        go_wp2_with fail
        refine HLP.out.mono ?_
        rintro e wx ⟨rfl, rfl⟩
        go_wp2_with fail
        refine HLP.out.mono ?_
        rintro e wx ⟨rfl, rfl⟩
        go_wp2_with fail
        go_loop [7, 8] (fun mv dv => ∃ q : Nat, q ≤ 11 ∧ mv = .int .i64 ((q : Int) + 1) ∧ dv = .int .i64 (n - B - cumM y q) ∧ 0 ≤ n - B - cumM y q) (fun mv _ => (13 - intOf mv).toNat)
        case atStart => exact ⟨0, by omega, rfl, by rw [show cumM y 0 = 0 from rfl, Int.sub_zero], by rw [show cumM y 0 = 0 from rfl]; omega⟩
        case round =>
          obtain ⟨q, hq, rfl, rfl, h0⟩ := hrel
          have hcb := cumM_bd y q
          have hc1 := hcb.1
          have hc2 : cumM y q ≤ 400 := by omega
          have G2 := Lib.hid (cumM_next y q)
          have hdb := dayM_bd y ((q : Int) + 1)
          have hd1 := hdb.1
          have hd2 := hdb.2
          have HDA := Lib.hid (refDays_any y ((q : Int) + 1) w)
          have HM := Lib.hid (HMQ.out q hq)
          have HD := Lib.hid (HDN.out q h0)
          clear hcb hdb
          generalize cumM y q = C at *
          generalize dayM y ((q : Int) + 1) = D at *
          by_cases hgo : D ≤ n - B - C
          · have k3 : decide (D ≤ n - B - C) = true := by rw [decide_eq_true_eq]; exact hgo
            have hq2 := HM.out hgo
            go_wp2_with fail
            refine HDA.out.mono ?_
            rintro e wx ⟨rfl, rfl⟩
            go_wp2_with fail
            refine HDA.out.mono ?_
            rintro e wx ⟨rfl, rfl⟩
            go_wp2_with fail
            go_round
            case rel => exact ⟨q + 1, by omega, by go_num, by rw [G2.out]; exact congrArg (Value.int .i64) (by omega), by rw [G2.out]; omega⟩
            case measure => simp [intOf]; omega
          · have k3 : decide (D ≤ n - B - C) = false := by rw [decide_eq_false_iff_not]; exact hgo
            have hd := HD.out (by omega)
            have HDD := Lib.hid hd
            clear hd
            go_wp2_with fail
            refine HDA.out.mono ?_
            rintro e wx ⟨rfl, rfl⟩
            go_wp2_with fail
            refine bodyPost_ret (v := .tuple #[.int .i64 y, .int .i64 ((q : Int) + 1), .int .i64 (n - B - C + 1), .int .i64 0]) ?_ rfl ⟨y, (q : Int) + 1, n - B - C + 1, rfl, HDD.out.1, HDD.out.2, Below.refl _ _⟩
            simp [results, Tryz.results109, go_sem]
    · have J : Hid (BB = B + 366) := by show _ = _; rw [G.out, HI.out, hL]; simp; try omega
      rw [hL] at HLP
      clear hL HI G
      by_cases hgo : 366 ≤ n - B
      · have k1 : decide (366 ≤ n - B) = true := by rw [decide_eq_true_eq]; exact hgo
        have hle : B + 366 ≤ n := by omega
        have hy3 := HLS.out (by rw [J.out]; exact hle)
        go_wp2_with fail
        refine HLP.out.mono ?_
        rintro e wx ⟨rfl, rfl⟩
        go_wp2_with fail
        refine HLP.out.mono ?_
        rintro e wx ⟨rfl, rfl⟩
        go_wp2_with fail
        go_round
        case rel => exact ⟨y + 1, rfl, by omega, by omega, by rw [HBB.out, J.out]; exact hle, by rw [HBB.out, J.out]; exact congrArg (Value.int .i64) (by omega)⟩
        case measure => simp [intOf]; omega
      · have k1 : decide (366 ≤ n - B) = false := by rw [decide_eq_false_iff_not]; exact hgo
        have HMQ := Lib.hid (HMO.out (by rw [J.out]; omega))
        go_wp2_with fail
        refine HLP.out.mono ?_
        rintro e wx ⟨rfl, rfl⟩
        go_wp2_with fail
        refine HLP.out.mono ?_
        rintro e wx ⟨rfl, rfl⟩
        go_wp2_with fail
        go_loop [7, 8] (fun mv dv => ∃ q : Nat, q ≤ 11 ∧ mv = .int .i64 ((q : Int) + 1) ∧ dv = .int .i64 (n - B - cumM y q) ∧ 0 ≤ n - B - cumM y q) (fun mv _ => (13 - intOf mv).toNat)
        case atStart => exact ⟨0, by omega, rfl, by rw [show cumM y 0 = 0 from rfl, Int.sub_zero], by rw [show cumM y 0 = 0 from rfl]; omega⟩
        case round =>
          obtain ⟨q, hq, rfl, rfl, h0⟩ := hrel
          have hcb := cumM_bd y q
          have hc1 := hcb.1
          have hc2 : cumM y q ≤ 400 := by omega
          have G2 := Lib.hid (cumM_next y q)
          have hdb := dayM_bd y ((q : Int) + 1)
          have hd1 := hdb.1
          have hd2 := hdb.2
          have HDA := Lib.hid (refDays_any y ((q : Int) + 1) w)
          have HM := Lib.hid (HMQ.out q hq)
          have HD := Lib.hid (HDN.out q h0)
          clear hcb hdb
          generalize cumM y q = C at *
          generalize dayM y ((q : Int) + 1) = D at *
          by_cases hgo : D ≤ n - B - C
          · have k3 : decide (D ≤ n - B - C) = true := by rw [decide_eq_true_eq]; exact hgo
            have hq2 := HM.out hgo
            go_wp2_with fail
            refine HDA.out.mono ?_
            rintro e wx ⟨rfl, rfl⟩
            go_wp2_with fail
            refine HDA.out.mono ?_
            rintro e wx ⟨rfl, rfl⟩
            go_wp2_with fail
            go_round
            case rel => exact ⟨q + 1, by omega, by go_num, by rw [G2.out]; exact congrArg (Value.int .i64) (by omega), by rw [G2.out]; omega⟩
            case measure => simp [intOf]; omega
          · have k3 : decide (D ≤ n - B - C) = false := by rw [decide_eq_false_iff_not]; exact hgo
            have hd := HD.out (by omega)
            have HDD := Lib.hid hd
            clear hd
            go_wp2_with fail
            refine HDA.out.mono ?_
            rintro e wx ⟨rfl, rfl⟩
            go_wp2_with fail
            refine bodyPost_ret (v := .tuple #[.int .i64 y, .int .i64 ((q : Int) + 1), .int .i64 (n - B - C + 1), .int .i64 0]) ?_ rfl ⟨y, (q : Int) + 1, n - B - C + 1, rfl, HDD.out.1, HDD.out.2, Below.refl _ _⟩
            simp [results, Tryz.results109, go_sem]
theorem refCivil_no (n : Int) (w : World) (h : dateB n = false) : Calls Tryz.prog 109 #[.int .i64 n] w fun e w' => e = .returned (.tuple #[.int .i64 0, .int .i64 0, .int .i64 0, .int .i64 2]) ∧ w = w' := by
  have HV := Lib.hid (refDvalid_any n w)
  rw [h] at HV
  clear h
  go_enter Tryz.func109, Tryz.ntmps109
  go_wp2_with fail
  refine HV.out.mono ?_
  rintro e wx ⟨rfl, rfl⟩
  go_wp2_with fail
  refine bodyPost_ret (v := .tuple #[.int .i64 0, .int .i64 0, .int .i64 0, .int .i64 2]) ?_ rfl ⟨rfl, rfl⟩
  simp [results, Tryz.results109, go_sem]
end Go.Proofs.YtfnlddloalineaaGreatDoor
