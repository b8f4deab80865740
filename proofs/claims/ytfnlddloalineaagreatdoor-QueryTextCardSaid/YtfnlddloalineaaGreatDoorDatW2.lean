/-
  Dates: Of, of both.
-/
import Derived.Test.YtfnlddloalineaaGreatDoorDatW1
namespace Go.Proofs.YtfnlddloalineaaGreatDoor
open Go.RowKit
set_option linter.unusedVariables false
def ofR (y m d : Int) : Value := if dayOk y m d = true then .tuple #[.int .i64 (dayN y m d), .int .i64 0] else .tuple #[.int .i64 0, .int .i64 2]
theorem ofR_no {y m d : Int} (h : ¬ (1 ≤ d ∧ d ≤ dayM y m)) : ofR y m d = .tuple #[.int .i64 0, .int .i64 2] := by
  unfold ofR; rw [if_neg (fun h' => h (dayOk_iff.1 h'))]
theorem ofR_yes {y m d : Int} (h : 1 ≤ d ∧ d ≤ dayM y m) : ofR y m d = .tuple #[.int .i64 (dayN y m d), .int .i64 0] := by
  unfold ofR; rw [if_pos (dayOk_iff.2 h)]
theorem cumM_next (y : Int) (q : Nat) : cumM y (q + 1) = cumM y q + dayM y ((q : Int) + 1) := rfl
set_option maxRecDepth 100000 in
set_option maxHeartbeats 2000000 in
theorem of_any (y m d : Int) (w : World) : Calls Tryz.prog 157 #[.int .i64 y, .int .i64 m, .int .i64 d] w fun e w' => e = .returned (ofR y m d) ∧ Below w.heap.size w w' := by
  by_cases h1 : 1 ≤ d
  · have g1 : decide (d < 1) = false := by rw [decide_eq_false_iff_not]; omega
    have HDA := Lib.hid (days_any y m w)
    by_cases h2 : d ≤ dayM y m
    · have F := Lib.hid (ofR_yes ⟨h1, h2⟩)
      have g2 : decide (dayM y m < d) = false := by rw [decide_eq_false_iff_not]; omega
      obtain ⟨hy, hm, _, hd31⟩ := dayOk_in (dayOk_iff.2 ⟨h1, h2⟩)
      have hB := beginY_bd (y := y) (by omega) (by omega)
      have HND : Hid (dayN y m d = beginY y + cumM y (m - 1).toNat + d - 1) := rfl
      have HBE : Hid (∀ w, Calls Tryz.prog 133 #[.int .i64 y] w fun e w' => e = .returned (.int .i64 (beginY y)) ∧ w = w') := fun w => begin_any y w (by omega) (by omega)
      generalize dayM y m = X at *
      generalize beginY y = B at *
      have hB1 := hB.1
      have hB2 := hB.2
      have hm1 := hm.1
      have hm2 := hm.2
      clear hB hm hy h2
      go_enter Tryz.func157, Tryz.ntmps157
      go_wp2_with fail
      refine HDA.out.mono ?_
      rintro e w1 ⟨rfl, hb1⟩
      have HB1 := Lib.hid hb1
      clear hb1
      go_wp2_with fail
      refine (HBE.out _).mono ?_
      rintro e wx ⟨rfl, rfl⟩
      go_wp2_with fail
      go_loopw [8, 9] (fun n k wr => ∃ q : Nat, (q : Int) + 1 ≤ m ∧ k = .int .i64 ((q : Int) + 1) ∧ n = .int .i64 (B + d - 1 + cumM y q) ∧ Below w.heap.size w wr) (fun _ k _ => (m - intOf k).toNat)
      case atStart => exact ⟨0, by omega, rfl, by rw [show cumM y 0 = 0 from rfl, Int.add_zero], HB1.out⟩
      case round =>
        obtain ⟨q, hq, rfl, rfl, hbr⟩ := hrel
        have HBR := Lib.hid hbr
        clear hbr
        have hcb := cumM_bd y q
        have hc1 := hcb.1
        have hc2 : cumM y q ≤ 400 := by omega
        have G := Lib.hid (cumM_next y q)
        have hdb := dayM_bd y ((q : Int) + 1)
        have hd1 := hdb.1
        have hd2 := hdb.2
        have HDQ : Hid (∀ w, Calls Tryz.prog 134 #[.int .i64 y, .int .i64 ((q : Int) + 1)] w fun e w' => e = .returned (.int .i64 (dayM y ((q : Int) + 1))) ∧ Below w.heap.size w w') := days_any y ((q : Int) + 1)
        clear hcb hdb
        by_cases hlt : (q : Int) + 1 < m
        · have k1 : decide ((q : Int) + 1 < m) = true := by rw [decide_eq_true_eq]; exact hlt
          generalize cumM y q = C at *
          generalize dayM y ((q : Int) + 1) = D at *
          go_wp2_with fail
          refine (HDQ.out _).mono ?_
          rintro e w2 ⟨rfl, hb2⟩
          have HB2 := Lib.hid (below_two HBR.out hb2)
          clear hb2
          go_wp2_with fail
          go_roundw
          case rel => exact ⟨q + 1, by omega, by go_num, by rw [G.out, ← Int.add_assoc], HB2.out⟩
          case measure => simp [intOf]; omega
        · have k1 : decide ((q : Int) + 1 < m) = false := by rw [decide_eq_false_iff_not]; exact hlt
          have E : Hid (dayN y m d = B + d - 1 + cumM y q) := by
            show _ = _
            rw [HND.out, show (m - 1).toNat = q by omega]
            omega
          generalize cumM y q = C at *
          go_wp2_with fail
          go_ret2
          exact ⟨by rw [F.out, E.out]; rfl, HBR.out⟩
    · have F := Lib.hid (ofR_no (fun h => h2 h.2))
      have g2 : decide (dayM y m < d) = true := by rw [decide_eq_true_eq]; omega
      generalize dayM y m = X at *
      clear h2
      go_enter Tryz.func157, Tryz.ntmps157
      go_wp2_with fail
      refine HDA.out.mono ?_
      rintro e w1 ⟨rfl, hb1⟩
      go_wp2_with fail
      go_ret2
      exact ⟨by rw [F.out]; rfl, hb1⟩
  · have g1 : decide (d < 1) = true := by rw [decide_eq_true_eq]; omega
    have F := Lib.hid (ofR_no (y := y) (m := m) (fun h => h1 h.1))
    clear h1
    go_enter Tryz.func157, Tryz.ntmps157
    go_wp2_with fail
    go_ret2
    exact ⟨by rw [F.out]; rfl, Below.refl _ _⟩
set_option maxRecDepth 100000 in
set_option maxHeartbeats 2000000 in
theorem refOf_any (y m d : Int) (w : World) : Calls Tryz.prog 130 #[.int .i64 y, .int .i64 m, .int .i64 d] w fun e w' => e = .returned (ofR y m d) ∧ w = w' := by
  by_cases h1 : 1 ≤ d
  · have g1 : decide (d < 1) = false := by rw [decide_eq_false_iff_not]; omega
    have HDA := Lib.hid (refDays_any y m w)
    by_cases h2 : d ≤ dayM y m
    · have F := Lib.hid (ofR_yes ⟨h1, h2⟩)
      have g2 : decide (dayM y m < d) = false := by rw [decide_eq_false_iff_not]; omega
      obtain ⟨hy, hm, _, hd31⟩ := dayOk_in (dayOk_iff.2 ⟨h1, h2⟩)
      have HND : Hid (dayN y m d = beginY y + cumM y (m - 1).toNat + d - 1) := rfl
      have HB0 : Hid (beginY 1900 = -25567) := by show _ = _; decide
      generalize dayM y m = X at *
      have hm1 := hm.1
      have hm2 := hm.2
      have hy1 := hy.1
      have hy2 := hy.2
      clear hm hy h2
      go_enter Tryz.func130, Tryz.ntmps130
      go_wp2_with fail
      refine HDA.out.mono ?_
      rintro e wx ⟨rfl, rfl⟩
      go_wp2_with fail
      go_loop [8, 9] (fun n k => ∃ a : Int, 1900 ≤ a ∧ a ≤ y ∧ k = .int .i64 a ∧ n = .int .i64 (beginY a)) (fun _ k => (y - intOf k).toNat)
      case atStart => exact ⟨1900, by omega, hy1, rfl, by rw [HB0.out]⟩
      case round =>
        obtain ⟨a, ha1, ha2, rfl, rfl⟩ := hrel
        have hb := beginY_bd (y := a) (by omega) (by omega)
        have hb1 := hb.1
        have hb2 := hb.2
        clear hb
        by_cases hlt : a < y
        · have k1 : decide (a < y) = true := by rw [decide_eq_true_eq]; exact hlt
          have HLP := Lib.hid (refLeap_any a w (by omega) (by omega))
          have G := Lib.hid (beginY_succ a)
          have HI : Hid (lpI a = if leapB a = true then 1 else 0) := rfl
          generalize beginY a = B at *
          generalize lpI a = I at *
          cases hL : leapB a
          · have J : Hid (I = 0) := by show _ = _; rw [HI.out, hL]; rfl
            rw [hL] at HLP
            clear hL HI
            go_wp2_with fail
            refine HLP.out.mono ?_
            rintro e wx ⟨rfl, rfl⟩
            go_wp2_with fail
            go_round
            case rel => exact ⟨a + 1, by omega, by omega, rfl, by rw [G.out, J.out]; go_num⟩
            case measure => simp [intOf]; omega
          · have J : Hid (I = 1) := by show _ = _; rw [HI.out, hL]; rfl
            rw [hL] at HLP
            clear hL HI
            go_wp2_with fail
            refine HLP.out.mono ?_
            rintro e wx ⟨rfl, rfl⟩
            go_wp2_with fail
            go_round
            case rel => exact ⟨a + 1, by omega, by omega, rfl, by rw [G.out, J.out]⟩
            case measure => simp [intOf]; omega
        · have k1 : decide (a < y) = false := by rw [decide_eq_false_iff_not]; exact hlt
          obtain rfl : a = y := by omega
          clear hlt
          generalize beginY a = B at *
          go_wp2_with fail
          go_loop [8, 10] (fun n k => ∃ q : Nat, (q : Int) + 1 ≤ m ∧ k = .int .i64 ((q : Int) + 1) ∧ n = .int .i64 (B + cumM a q)) (fun _ k => (m - intOf k).toNat)
          case atStart => exact ⟨0, by omega, rfl, by rw [show cumM a 0 = 0 from rfl, Int.add_zero]⟩
          case round =>
            obtain ⟨q, hq, rfl, rfl⟩ := hrel
            have hcb := cumM_bd a q
            have hc1 := hcb.1
            have hc2 : cumM a q ≤ 400 := by omega
            have G := Lib.hid (cumM_next a q)
            have hdb := dayM_bd a ((q : Int) + 1)
            have hd1 := hdb.1
            have hd2 := hdb.2
            have HDQ := Lib.hid (refDays_any a ((q : Int) + 1) w)
            clear hcb hdb
            by_cases hlt : (q : Int) + 1 < m
            · have k2 : decide ((q : Int) + 1 < m) = true := by rw [decide_eq_true_eq]; exact hlt
              generalize cumM a q = C at *
              generalize dayM a ((q : Int) + 1) = D at *
              go_wp2_with fail
              refine HDQ.out.mono ?_
              rintro e wx ⟨rfl, rfl⟩
              go_wp2_with fail
              go_round
              case rel => exact ⟨q + 1, by omega, by go_num, by rw [G.out, ← Int.add_assoc]⟩
              case measure => simp [intOf]; omega
            · have k2 : decide ((q : Int) + 1 < m) = false := by rw [decide_eq_false_iff_not]; exact hlt
              have E : Hid (dayN a m d = B + cumM a q + d - 1) := by
                show _ = _
                rw [HND.out, show (m - 1).toNat = q by omega]
              generalize cumM a q = C at *
              go_wp2_with fail
              go_ret2
              exact ⟨by rw [F.out, E.out]; rfl, rfl⟩
    · have F := Lib.hid (ofR_no (fun h => h2 h.2))
      have g2 : decide (dayM y m < d) = true := by rw [decide_eq_true_eq]; omega
      generalize dayM y m = X at *
      clear h2
      go_enter Tryz.func130, Tryz.ntmps130
      go_wp2_with fail
      refine HDA.out.mono ?_
      rintro e wx ⟨rfl, rfl⟩
      go_wp2_with fail
      go_ret2
      exact ⟨by rw [F.out]; rfl, rfl⟩
  · have g1 : decide (d < 1) = true := by rw [decide_eq_true_eq]; omega
    have F := Lib.hid (ofR_no (y := y) (m := m) (fun h => h1 h.1))
    clear h1
    go_enter Tryz.func130, Tryz.ntmps130
    go_wp2_with fail
    go_ret2
    exact ⟨by rw [F.out]; rfl, rfl⟩
end Go.Proofs.YtfnlddloalineaaGreatDoor
