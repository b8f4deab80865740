/-
  The reference's quotient in any mode, and the two Rounds.
-/
import Derived.Test.YtklpeibmjiolhaaDoorDecW4
namespace Go.Proofs.YtklpeibmjiolhaaDoor
open Go.RowKit
set_option linter.unusedVariables false
/-- the error of a rounding, and its number -/
def rdE (num den mode : Int) : Int :=
  if okMode mode then (if -1000000000000000000 ≤ num ∧ num ≤ 1000000000000000000 ∧ -1000000000000000000 ≤ den ∧ den ≤ 1000000000000000000 then (if den = 0 then 10 else 0) else 2) else 1
def rdV (num den mode : Int) : Int := if rdE num den mode = 0 then rdI num den mode else 0
theorem absI_zero : absI 0 = 0 := rfl
theorem qu_zero (d : Int) : absI 0 / d = 0 := by rw [absI_zero]; exact Int.zero_ediv d
theorem re_zero (d : Int) : absI 0 % d = 0 := by rw [absI_zero]; exact Int.zero_emod d
set_option maxRecDepth 100000 in
theorem refQuo_z0 (den : Int) (w : World) (h3 : -1000000000000000000 ≤ den) (h4 : den ≤ 1000000000000000000) (h5 : den ≠ 0) :
    Calls Tryd.prog 31 #[.int .i64 0, .int .i64 den, .int .i64 0] w fun e w' => e = .returned (.int .i64 (rdI 0 den 0)) ∧ ∃ k, w' = w.drewN k := by
  obtain ⟨b1, b2⟩ := absI_bd (n := den) ⟨h3, h4⟩
  have b3 := absI_pos h5
  have a1 : 0 ≤ absI 0 := by decide
  have a2 : absI 0 ≤ 0 := by decide
  have q1 := qu_zero (absI den)
  have r1 := re_zero (absI den)
  have hz : (absI den == 0) = false := by rw [beq_eq_false_iff_ne]; omega
  have F := Lib.hid (rd_zero den 0)
  clear h5
  go_enter Tryd.func31, Tryd.ntmps31
  go_wp2_with fail
  go_quiet ((go_at_call 15; exact Calls.quiet_of_same (same_turn (refSize_any _ _ (by omega) (by omega)))))
  generalize absI 0 / absI den = q at *
  generalize absI 0 % absI den = r at *
  generalize absI den = d at *
  subst q1 r1
  have hd1 : decide (d ≤ 2 * 0) = false := by rw [decide_eq_false_iff_not]; omega
  have hd2 : decide (d < 2 * 0) = false := by rw [decide_eq_false_iff_not]; omega
  have hd3 : decide (d ≤ 0) = false := by rw [decide_eq_false_iff_not]; omega
  have hd4 : decide (d < 0) = false := by rw [decide_eq_false_iff_not]; omega
  have hd5 : (0 == d) = false := by rw [beq_eq_false_iff_ne]; omega
  have hd6 : (2 * 0 == d) = false := by rw [beq_eq_false_iff_ne]; omega
  go_wp2
  go_ret
  exact ⟨ret_int F.out.symm, _, rfl⟩
set_option maxRecDepth 100000 in
theorem refQuo_z1 (den : Int) (w : World) (h3 : -1000000000000000000 ≤ den) (h4 : den ≤ 1000000000000000000) (h5 : den ≠ 0) :
    Calls Tryd.prog 31 #[.int .i64 0, .int .i64 den, .int .i64 1] w fun e w' => e = .returned (.int .i64 (rdI 0 den 1)) ∧ ∃ k, w' = w.drewN k := by
  obtain ⟨b1, b2⟩ := absI_bd (n := den) ⟨h3, h4⟩
  have b3 := absI_pos h5
  have a1 : 0 ≤ absI 0 := by decide
  have a2 : absI 0 ≤ 0 := by decide
  have q1 := qu_zero (absI den)
  have r1 := re_zero (absI den)
  have hz : (absI den == 0) = false := by rw [beq_eq_false_iff_ne]; omega
  have F := Lib.hid (rd_zero den 1)
  clear h5
  go_enter Tryd.func31, Tryd.ntmps31
  go_wp2_with fail
  go_quiet ((go_at_call 15; exact Calls.quiet_of_same (same_turn (refSize_any _ _ (by omega) (by omega)))))
  generalize absI 0 / absI den = q at *
  generalize absI 0 % absI den = r at *
  generalize absI den = d at *
  subst q1 r1
  have hd1 : decide (d ≤ 2 * 0) = false := by rw [decide_eq_false_iff_not]; omega
  have hd2 : decide (d < 2 * 0) = false := by rw [decide_eq_false_iff_not]; omega
  have hd3 : decide (d ≤ 0) = false := by rw [decide_eq_false_iff_not]; omega
  have hd4 : decide (d < 0) = false := by rw [decide_eq_false_iff_not]; omega
  have hd5 : (0 == d) = false := by rw [beq_eq_false_iff_ne]; omega
  have hd6 : (2 * 0 == d) = false := by rw [beq_eq_false_iff_ne]; omega
  go_wp2
  go_ret
  exact ⟨ret_int F.out.symm, _, rfl⟩
set_option maxRecDepth 100000 in
theorem refQuo_z2 (den : Int) (w : World) (h3 : -1000000000000000000 ≤ den) (h4 : den ≤ 1000000000000000000) (h5 : den ≠ 0) :
    Calls Tryd.prog 31 #[.int .i64 0, .int .i64 den, .int .i64 2] w fun e w' => e = .returned (.int .i64 (rdI 0 den 2)) ∧ ∃ k, w' = w.drewN k := by
  obtain ⟨b1, b2⟩ := absI_bd (n := den) ⟨h3, h4⟩
  have b3 := absI_pos h5
  have a1 : 0 ≤ absI 0 := by decide
  have a2 : absI 0 ≤ 0 := by decide
  have q1 := qu_zero (absI den)
  have r1 := re_zero (absI den)
  have hz : (absI den == 0) = false := by rw [beq_eq_false_iff_ne]; omega
  have F := Lib.hid (rd_zero den 2)
  clear h5
  go_enter Tryd.func31, Tryd.ntmps31
  go_wp2_with fail
  go_quiet ((go_at_call 15; exact Calls.quiet_of_same (same_turn (refSize_any _ _ (by omega) (by omega)))))
  generalize absI 0 / absI den = q at *
  generalize absI 0 % absI den = r at *
  generalize absI den = d at *
  subst q1 r1
  have hd1 : decide (d ≤ 2 * 0) = false := by rw [decide_eq_false_iff_not]; omega
  have hd2 : decide (d < 2 * 0) = false := by rw [decide_eq_false_iff_not]; omega
  have hd3 : decide (d ≤ 0) = false := by rw [decide_eq_false_iff_not]; omega
  have hd4 : decide (d < 0) = false := by rw [decide_eq_false_iff_not]; omega
  have hd5 : (0 == d) = false := by rw [beq_eq_false_iff_ne]; omega
  have hd6 : (2 * 0 == d) = false := by rw [beq_eq_false_iff_ne]; omega
  go_wp2
  go_ret
  exact ⟨ret_int F.out.symm, _, rfl⟩
set_option maxRecDepth 100000 in
theorem refQuo_z3 (den : Int) (w : World) (h3 : -1000000000000000000 ≤ den) (h4 : den ≤ 1000000000000000000) (h5 : den ≠ 0) :
    Calls Tryd.prog 31 #[.int .i64 0, .int .i64 den, .int .i64 3] w fun e w' => e = .returned (.int .i64 (rdI 0 den 3)) ∧ ∃ k, w' = w.drewN k := by
  obtain ⟨b1, b2⟩ := absI_bd (n := den) ⟨h3, h4⟩
  have b3 := absI_pos h5
  have a1 : 0 ≤ absI 0 := by decide
  have a2 : absI 0 ≤ 0 := by decide
  have q1 := qu_zero (absI den)
  have r1 := re_zero (absI den)
  have hz : (absI den == 0) = false := by rw [beq_eq_false_iff_ne]; omega
  have F := Lib.hid (rd_zero den 3)
  clear h5
  go_enter Tryd.func31, Tryd.ntmps31
  go_wp2_with fail
  go_quiet ((go_at_call 15; exact Calls.quiet_of_same (same_turn (refSize_any _ _ (by omega) (by omega)))))
  generalize absI 0 / absI den = q at *
  generalize absI 0 % absI den = r at *
  generalize absI den = d at *
  subst q1 r1
  have hd1 : decide (d ≤ 2 * 0) = false := by rw [decide_eq_false_iff_not]; omega
  have hd2 : decide (d < 2 * 0) = false := by rw [decide_eq_false_iff_not]; omega
  have hd3 : decide (d ≤ 0) = false := by rw [decide_eq_false_iff_not]; omega
  have hd4 : decide (d < 0) = false := by rw [decide_eq_false_iff_not]; omega
  have hd5 : (0 == d) = false := by rw [beq_eq_false_iff_ne]; omega
  have hd6 : (2 * 0 == d) = false := by rw [beq_eq_false_iff_ne]; omega
  go_wp2
  go_ret
  exact ⟨ret_int F.out.symm, _, rfl⟩
set_option maxRecDepth 100000 in
theorem refQuo_z4 (den : Int) (w : World) (h3 : -1000000000000000000 ≤ den) (h4 : den ≤ 1000000000000000000) (h5 : den ≠ 0) :
    Calls Tryd.prog 31 #[.int .i64 0, .int .i64 den, .int .i64 4] w fun e w' => e = .returned (.int .i64 (rdI 0 den 4)) ∧ ∃ k, w' = w.drewN k := by
  obtain ⟨b1, b2⟩ := absI_bd (n := den) ⟨h3, h4⟩
  have b3 := absI_pos h5
  have a1 : 0 ≤ absI 0 := by decide
  have a2 : absI 0 ≤ 0 := by decide
  have q1 := qu_zero (absI den)
  have r1 := re_zero (absI den)
  have hz : (absI den == 0) = false := by rw [beq_eq_false_iff_ne]; omega
  have F := Lib.hid (rd_zero den 4)
  clear h5
  go_enter Tryd.func31, Tryd.ntmps31
  go_wp2_with fail
  go_quiet ((go_at_call 15; exact Calls.quiet_of_same (same_turn (refSize_any _ _ (by omega) (by omega)))))
  generalize absI 0 / absI den = q at *
  generalize absI 0 % absI den = r at *
  generalize absI den = d at *
  subst q1 r1
  have hd1 : decide (d ≤ 2 * 0) = false := by rw [decide_eq_false_iff_not]; omega
  have hd2 : decide (d < 2 * 0) = false := by rw [decide_eq_false_iff_not]; omega
  have hd3 : decide (d ≤ 0) = false := by rw [decide_eq_false_iff_not]; omega
  have hd4 : decide (d < 0) = false := by rw [decide_eq_false_iff_not]; omega
  have hd5 : (0 == d) = false := by rw [beq_eq_false_iff_ne]; omega
  have hd6 : (2 * 0 == d) = false := by rw [beq_eq_false_iff_ne]; omega
  go_wp2
  go_ret
  exact ⟨ret_int F.out.symm, _, rfl⟩
set_option maxRecDepth 100000 in
theorem refQuo_z5 (den : Int) (w : World) (h3 : -1000000000000000000 ≤ den) (h4 : den ≤ 1000000000000000000) (h5 : den ≠ 0) :
    Calls Tryd.prog 31 #[.int .i64 0, .int .i64 den, .int .i64 5] w fun e w' => e = .returned (.int .i64 (rdI 0 den 5)) ∧ ∃ k, w' = w.drewN k := by
  obtain ⟨b1, b2⟩ := absI_bd (n := den) ⟨h3, h4⟩
  have b3 := absI_pos h5
  have a1 : 0 ≤ absI 0 := by decide
  have a2 : absI 0 ≤ 0 := by decide
  have q1 := qu_zero (absI den)
  have r1 := re_zero (absI den)
  have hz : (absI den == 0) = false := by rw [beq_eq_false_iff_ne]; omega
  have F := Lib.hid (rd_zero den 5)
  clear h5
  go_enter Tryd.func31, Tryd.ntmps31
  go_wp2_with fail
  go_quiet ((go_at_call 15; exact Calls.quiet_of_same (same_turn (refSize_any _ _ (by omega) (by omega)))))
  generalize absI 0 / absI den = q at *
  generalize absI 0 % absI den = r at *
  generalize absI den = d at *
  subst q1 r1
  have hd1 : decide (d ≤ 2 * 0) = false := by rw [decide_eq_false_iff_not]; omega
  have hd2 : decide (d < 2 * 0) = false := by rw [decide_eq_false_iff_not]; omega
  have hd3 : decide (d ≤ 0) = false := by rw [decide_eq_false_iff_not]; omega
  have hd4 : decide (d < 0) = false := by rw [decide_eq_false_iff_not]; omega
  have hd5 : (0 == d) = false := by rw [beq_eq_false_iff_ne]; omega
  have hd6 : (2 * 0 == d) = false := by rw [beq_eq_false_iff_ne]; omega
  go_wp2
  go_ret
  exact ⟨ret_int F.out.symm, _, rfl⟩
theorem refQuo_any (num den mode : Int) (w : World) (h1 : -1000000000000000000 ≤ num) (h2 : num ≤ 1000000000000000000) (h3 : -1000000000000000000 ≤ den) (h4 : den ≤ 1000000000000000000) (h5 : den ≠ 0) (h6 : 0 ≤ mode) (h7 : mode ≤ 5) :
    Calls Tryd.prog 31 #[.int .i64 num, .int .i64 den, .int .i64 mode] w fun e w' => e = .returned (.int .i64 (rdI num den mode)) ∧ ∃ k, w' = w.drewN k := by
  by_cases h0 : num = 0
  · subst h0
    obtain h | h | h | h | h | h : mode = 0 ∨ mode = 1 ∨ mode = 2 ∨ mode = 3 ∨ mode = 4 ∨ mode = 5 := by omega
    · subst h; exact refQuo_z0 den w h3 h4 h5
    · subst h; exact refQuo_z1 den w h3 h4 h5
    · subst h; exact refQuo_z2 den w h3 h4 h5
    · subst h; exact refQuo_z3 den w h3 h4 h5
    · subst h; exact refQuo_z4 den w h3 h4 h5
    · subst h; exact refQuo_z5 den w h3 h4 h5
  · obtain h | h | h | h | h | h : mode = 0 ∨ mode = 1 ∨ mode = 2 ∨ mode = 3 ∨ mode = 4 ∨ mode = 5 := by omega
    · subst h; exact refQuo_m0 num den w h1 h2 h3 h4 h5 h0
    · subst h; exact refQuo_m1 num den w h1 h2 h3 h4 h5 h0
    · subst h; exact refQuo_m2 num den w h1 h2 h3 h4 h5 h0
    · subst h; exact refQuo_m3 num den w h1 h2 h3 h4 h5 h0
    · subst h; exact refQuo_m4 num den w h1 h2 h3 h4 h5 h0
    · subst h; exact refQuo_m5 num den w h1 h2 h3 h4 h5 h0
theorem rdE_mode {n d m : Int} (h : okMode m = false) : rdE n d m = 1 ∧ rdV n d m = 0 := by
  have : rdE n d m = 1 := by unfold rdE; rw [h]; rfl
  exact ⟨this, by unfold rdV; rw [this]; rfl⟩
theorem rdE_range {n d m : Int} (h : okMode m = true) (hr : ¬(-1000000000000000000 ≤ n ∧ n ≤ 1000000000000000000 ∧ -1000000000000000000 ≤ d ∧ d ≤ 1000000000000000000)) : rdE n d m = 2 ∧ rdV n d m = 0 := by
  have : rdE n d m = 2 := by unfold rdE; rw [h, if_neg hr]; rfl
  exact ⟨this, by unfold rdV; rw [this]; rfl⟩
theorem rdE_zero {n d m : Int} (h : okMode m = true) (hr : (-1000000000000000000 ≤ n ∧ n ≤ 1000000000000000000 ∧ -1000000000000000000 ≤ d ∧ d ≤ 1000000000000000000)) (hd : d = 0) : rdE n d m = 10 ∧ rdV n d m = 0 := by
  have : rdE n d m = 10 := by unfold rdE; rw [h, if_pos hr, if_pos hd]; rfl
  exact ⟨this, by unfold rdV; rw [this]; rfl⟩
theorem rdE_ok {n d m : Int} (h : okMode m = true) (hr : (-1000000000000000000 ≤ n ∧ n ≤ 1000000000000000000 ∧ -1000000000000000000 ≤ d ∧ d ≤ 1000000000000000000)) (hd : d ≠ 0) : rdE n d m = 0 ∧ rdV n d m = rdI n d m := by
  have : rdE n d m = 0 := by unfold rdE; rw [h, if_pos hr, if_neg hd]; rfl
  exact ⟨this, by unfold rdV; rw [if_pos this]⟩
theorem Round_any (num den mode : Int) (w : World) : Calls Tryd.prog 13 #[.int .i64 num, .int .i64 den, .int .i64 mode] w fun e w' => e = .returned (.tuple #[.int .i64 (rdV num den mode), .int .i64 (rdE num den mode)]) ∧ Below w.heap.size w w' := by
  cases hm : okMode mode
  · obtain ⟨e1, e2⟩ := rdE_mode (n := num) (d := den) hm
    rw [e1, e2]
    clear e1 e2
    go_enter Tryd.func13, Tryd.ntmps13
    go_wp2_with fail
    refine (known_any _ _).mono ?_
    rintro e w1 ⟨rfl, rfl⟩
    go_wp2_with fail
    go_ret2
    exact ⟨rfl, Below.refl _ _⟩
  · by_cases hr : -1000000000000000000 ≤ num ∧ num ≤ 1000000000000000000 ∧ -1000000000000000000 ≤ den ∧ den ≤ 1000000000000000000
    · by_cases hd : den = 0
      · obtain ⟨e1, e2⟩ := rdE_zero hm hr hd
        rw [e1, e2]
        clear e1 e2
        subst hd
        obtain ⟨r1, r2, r3, r4⟩ := hr
        go_enter Tryd.func13, Tryd.ntmps13
        go_wp2_with fail
        refine (known_any _ _).mono ?_
        rintro e w1 ⟨rfl, rfl⟩
        go_wp2_with fail
        go_ret2
        exact ⟨rfl, Below.refl _ _⟩
      · obtain ⟨e1, e2⟩ := rdE_ok hm hr hd
        rw [e1, e2]
        obtain ⟨m1, m2⟩ := okMode_iff.1 hm
        obtain ⟨r1, r2, r3, r4⟩ := hr
        have hdb : (den == 0) = false := by rw [beq_eq_false_iff_ne]; exact hd
        have HD := Lib.hid hd
        clear e1 e2 hd
        go_enter Tryd.func13, Tryd.ntmps13
        go_wp2_with fail
        refine (known_any _ _).mono ?_
        rintro e w1 ⟨rfl, rfl⟩
        go_wp2_with fail
        refine (round_any _ _ _ _ r1 r2 r3 r4 HD.out m1 m2).mono ?_
        rintro e w1 ⟨rfl, hb⟩
        go_wp2_with fail
        go_ret2
        exact ⟨rfl, hb⟩
    · obtain ⟨e1, e2⟩ := rdE_range hm hr
      rw [e1, e2]
      clear e1 e2
      by_cases r1 : -1000000000000000000 ≤ num
      · by_cases r2 : num ≤ 1000000000000000000
        · by_cases r3 : -1000000000000000000 ≤ den
          · have r4 : 1000000000000000000 < den := by omega
            clear hr
            go_enter Tryd.func13, Tryd.ntmps13
            go_wp2_with fail
            refine (known_any _ _).mono ?_
            rintro e w1 ⟨rfl, rfl⟩
            go_wp2_with fail
            go_ret2
            exact ⟨rfl, Below.refl _ _⟩
          · have r4 : den < -1000000000000000000 := by omega
            clear hr r3
            go_enter Tryd.func13, Tryd.ntmps13
            go_wp2_with fail
            refine (known_any _ _).mono ?_
            rintro e w1 ⟨rfl, rfl⟩
            go_wp2_with fail
            go_ret2
            exact ⟨rfl, Below.refl _ _⟩
        · have r4 : 1000000000000000000 < num := by omega
          clear hr r2
          go_enter Tryd.func13, Tryd.ntmps13
          go_wp2_with fail
          refine (known_any _ _).mono ?_
          rintro e w1 ⟨rfl, rfl⟩
          go_wp2_with fail
          go_ret2
          exact ⟨rfl, Below.refl _ _⟩
      · have r4 : num < -1000000000000000000 := by omega
        clear hr r1
        go_enter Tryd.func13, Tryd.ntmps13
        go_wp2_with fail
        refine (known_any _ _).mono ?_
        rintro e w1 ⟨rfl, rfl⟩
        go_wp2_with fail
        go_ret2
        exact ⟨rfl, Below.refl _ _⟩
theorem refRound_any (num den mode : Int) (w : World) : Calls Tryd.prog 14 #[.int .i64 num, .int .i64 den, .int .i64 mode] w fun e w' => e = .returned (.tuple #[.int .i64 (rdV num den mode), .int .i64 (rdE num den mode)]) ∧ ∃ k, w' = w.drewN k := by
  cases hm : okMode mode
  · obtain ⟨e1, e2⟩ := rdE_mode (n := num) (d := den) hm
    rw [e1, e2]
    clear e1 e2
    go_enter Tryd.func14, Tryd.ntmps14
    go_wp2_with fail
    refine (refKnown_any _ _).mono ?_
    rintro e w1 ⟨rfl, rfl⟩
    go_wp2_with fail
    go_ret2
    exact ⟨rfl, 0, rfl⟩
  · by_cases hr : -1000000000000000000 ≤ num ∧ num ≤ 1000000000000000000 ∧ -1000000000000000000 ≤ den ∧ den ≤ 1000000000000000000
    · by_cases hd : den = 0
      · obtain ⟨e1, e2⟩ := rdE_zero hm hr hd
        rw [e1, e2]
        clear e1 e2
        subst hd
        obtain ⟨r1, r2, r3, r4⟩ := hr
        go_enter Tryd.func14, Tryd.ntmps14
        go_wp2_with fail
        refine (refKnown_any _ _).mono ?_
        rintro e w1 ⟨rfl, rfl⟩
        go_wp2_with fail
        go_ret2
        exact ⟨rfl, 0, rfl⟩
      · obtain ⟨e1, e2⟩ := rdE_ok hm hr hd
        rw [e1, e2]
        obtain ⟨m1, m2⟩ := okMode_iff.1 hm
        obtain ⟨r1, r2, r3, r4⟩ := hr
        have hdb : (den == 0) = false := by rw [beq_eq_false_iff_ne]; exact hd
        have HD := Lib.hid hd
        clear e1 e2 hd
        go_enter Tryd.func14, Tryd.ntmps14
        go_wp2_with fail
        refine (refKnown_any _ _).mono ?_
        rintro e w1 ⟨rfl, rfl⟩
        go_wp2_with fail
        refine (refQuo_any _ _ _ _ r1 r2 r3 r4 HD.out m1 m2).mono ?_
        rintro e w1 ⟨rfl, k, rfl⟩
        go_wp2_with fail
        go_ret2
        exact ⟨rfl, k, rfl⟩
    · obtain ⟨e1, e2⟩ := rdE_range hm hr
      rw [e1, e2]
      clear e1 e2
      by_cases r1 : -1000000000000000000 ≤ num
      · by_cases r2 : num ≤ 1000000000000000000
        · by_cases r3 : -1000000000000000000 ≤ den
          · have r4 : 1000000000000000000 < den := by omega
            clear hr
            go_enter Tryd.func14, Tryd.ntmps14
            go_wp2_with fail
            refine (refKnown_any _ _).mono ?_
            rintro e w1 ⟨rfl, rfl⟩
            go_wp2_with fail
            go_ret2
            exact ⟨rfl, 0, rfl⟩
          · have r4 : den < -1000000000000000000 := by omega
            clear hr r3
            go_enter Tryd.func14, Tryd.ntmps14
            go_wp2_with fail
            refine (refKnown_any _ _).mono ?_
            rintro e w1 ⟨rfl, rfl⟩
            go_wp2_with fail
            go_ret2
            exact ⟨rfl, 0, rfl⟩
        · have r4 : 1000000000000000000 < num := by omega
          clear hr r2
          go_enter Tryd.func14, Tryd.ntmps14
          go_wp2_with fail
          refine (refKnown_any _ _).mono ?_
          rintro e w1 ⟨rfl, rfl⟩
          go_wp2_with fail
          go_ret2
          exact ⟨rfl, 0, rfl⟩
      · have r4 : num < -1000000000000000000 := by omega
        clear hr r1
        go_enter Tryd.func14, Tryd.ntmps14
        go_wp2_with fail
        refine (refKnown_any _ _).mono ?_
        rintro e w1 ⟨rfl, rfl⟩
        go_wp2_with fail
        go_ret2
        exact ⟨rfl, 0, rfl⟩
end Go.Proofs.YtklpeibmjiolhaaDoor
