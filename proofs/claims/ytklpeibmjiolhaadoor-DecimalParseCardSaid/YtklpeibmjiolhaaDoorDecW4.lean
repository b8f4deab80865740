/-
  The reference's quotient and Round, and decimal.Round.
-/
import Derived.Test.YtklpeibmjiolhaaDoorDecW3
namespace Go.Proofs.YtklpeibmjiolhaaDoor
open Go.RowKit
set_option linter.unusedVariables false
theorem rm_up {k q r d : Int} {neg : Bool} (hr : 0 < r) (hm : more k neg q r d = true) : rounded q r neg (more k neg q r d) = if neg then -(q + 1) else q + 1 := by
  rw [hm]; unfold rounded; simp [hr]
theorem rm_no {k q r d : Int} {neg : Bool} (hm : more k neg q r d = false) : rounded q r neg (more k neg q r d) = if neg then -q else q := by
  rw [hm]; unfold rounded; simp
theorem rm_nr {k q r d : Int} {neg : Bool} (hr : r ≤ 0) : rounded q r neg (more k neg q r d) = if neg then -q else q := by
  unfold rounded; simp [show ¬ 0 < r by omega]
theorem more0_t {neg : Bool} {q r d : Int} (h : d ≤ 2 * r) : more 0 neg q r d = true := by unfold more; simp [h]
theorem more0_f {neg : Bool} {q r d : Int} (h : 2 * r < d) : more 0 neg q r d = false := by unfold more; simp; omega
theorem more1_t {neg : Bool} {q r d : Int} (h : d < 2 * r) : more 1 neg q r d = true := by unfold more; simp [h]
theorem more1_e {neg : Bool} {q r d : Int} (h : 2 * r = d) (hq : q % 2 = 1) : more 1 neg q r d = true := by unfold more; simp [h, hq]
theorem more1_n {neg : Bool} {q r d : Int} (h : 2 * r ≤ d) (hq : ¬ q % 2 = 1) : more 1 neg q r d = false := by unfold more; simp [hq]; omega
theorem more1_f {neg : Bool} {q r d : Int} (h : 2 * r ≤ d) (hq : ¬ 2 * r = d) : more 1 neg q r d = false := by unfold more; simp [hq]; omega
theorem same_turn {P : Program} {f : FuncId} {args : Array Value} {w : World} {v : Value} (h : Calls P f args w fun e w' => e = .returned v ∧ w = w') : Calls P f args w fun e w' => e = .returned v ∧ w' = w :=
  h.mono fun _ _ ⟨he, hw⟩ => ⟨he, hw.symm⟩
theorem refSize_any (n : Int) (w : World) (h1 : -1000000000000000000 ≤ n) (h2 : n ≤ 1000000000000000000) : Calls Tryd.prog 15 #[.int .i64 n] w fun e w' => e = .returned (.int .i64 (absI n)) ∧ w = w' := by
  unfold absI
  by_cases h : n < 0
  · rw [if_pos h]
    go_enter Tryd.func15, Tryd.ntmps15
    go_wp2
    go_ret
    exact ⟨rfl, rfl⟩
  · rw [if_neg h]
    have hd : decide (n < 0) = false := by rw [decide_eq_false_iff_not]; exact h
    clear h
    go_enter Tryd.func15, Tryd.ntmps15
    go_wp2
    go_ret
    exact ⟨rfl, rfl⟩
theorem refPower_any (s : Int) (w : World) (h0 : 0 ≤ s) (h9 : s ≤ 9) : Calls Tryd.prog 37 #[.int .i64 s] w fun e w' => e = .returned (.int .i64 (pw s)) ∧ w = w' := by
  obtain ⟨m, rfl⟩ := Int.eq_ofNat_of_zero_le h0
  clear h0
  go_enter Tryd.func37, Tryd.ntmps37
  go_wp2
  go_loop [3, 4] (fun n i => ∃ k : Nat, k ≤ m ∧ i = .int .i64 k ∧ n = .int .i64 ((10 ^ k : Nat) : Int)) (fun _ i => m - (intOf i).toNat)
  case atStart => exact ⟨0, Nat.zero_le _, rfl, rfl⟩
  case round =>
    obtain ⟨k, hk, rfl, rfl⟩ := hrel
    have hb : (10 ^ k : Nat) ≤ 10 ^ 9 := Nat.pow_le_pow_right (by omega) (by omega)
    have hs := pow_succ10 k
    generalize hP : (10 ^ k : Nat) = P at *
    have HP := Lib.hid hP
    have HS := Lib.hid hs
    clear hs hP
    by_cases hlt : k < m
    · go_wp2
      go_round
      case rel => exact ⟨k + 1, by omega, by go_num, by rw [← HS.out]; go_num⟩
      case measure => simp [intOf]; omega
    · have hkm : m = k := by omega
      have F := Lib.hid (show (P : Int) = pw m by rw [← HP.out, hkm]; rfl)
      clear hkm
      go_wp2
      go_ret
      exact ⟨ret_int F.out, rfl⟩
theorem rd_zero (b mode : Int) : rdI 0 b mode = 0 := by
  have e1 : qu 0 b = 0 := by unfold qu absI; simp
  have e2 : re 0 b = 0 := by unfold re absI; simp
  unfold rdI rounded
  rw [e1, e2]
  simp
set_option maxRecDepth 100000 in
set_option maxHeartbeats 4000000 in
theorem refQuo_m0 (num den : Int) (w : World) (h1 : -1000000000000000000 ≤ num) (h2 : num ≤ 1000000000000000000) (h3 : -1000000000000000000 ≤ den) (h4 : den ≤ 1000000000000000000) (h5 : den ≠ 0) (h0 : num ≠ 0) :
    Calls Tryd.prog 31 #[.int .i64 num, .int .i64 den, .int .i64 0] w fun e w' => e = .returned (.int .i64 (rdI num den 0)) ∧ ∃ k, w' = w.drewN k := by
  obtain ⟨a1, a2⟩ := absI_bd (n := num) ⟨h1, h2⟩
  obtain ⟨b1, b2⟩ := absI_bd (n := den) ⟨h3, h4⟩
  have b3 := absI_pos h5
  obtain ⟨q1, q2, q3, q4, q5⟩ := qr_bd (num := num) h5
  have G : rdI num den 0 = rounded (qu num den) (re num den) (!decide (num < 0) == decide (den < 0)) (more 0 (!decide (num < 0) == decide (den < 0)) (qu num den) (re num den) (absI den)) := rfl
  have hnz : (num != 0) = true := by rw [bne_iff_ne]; exact h0
  have hz : (absI den == 0) = false := by rw [beq_eq_false_iff_ne]; omega
  unfold qu re at *
  have F := Lib.hid G
  clear h5 h0 G
  go_enter Tryd.func31, Tryd.ntmps31
  go_wp2_with fail
  generalize (!decide (num < 0) == decide (den < 0)) = neg at *
  go_quiet ((go_at_call 15; exact Calls.quiet_of_same (same_turn (refSize_any _ _ (by omega) (by omega)))))
  generalize absI num / absI den = q at *
  generalize absI num % absI den = r at *
  generalize absI den = d at *
  cases neg
  · by_cases hc : d ≤ 2 * r
    · have hr : 0 < r := by omega
      have C := Lib.hid hc
      have Rr := Lib.hid hr
      go_wp2
      go_ret
      exact ⟨ret_int (by rw [F.out, rm_up Rr.out (more0_t C.out)]; rfl), _, rfl⟩
    · have C := Lib.hid hc
      have hcd : decide (d ≤ 2 * r) = false := by rw [decide_eq_false_iff_not]; exact hc
      clear hc
      go_wp2
      go_ret
      exact ⟨ret_int (by rw [F.out, rm_no (more0_f C.out)]; rfl), _, rfl⟩
  · by_cases hc : d ≤ 2 * r
    · have hr : 0 < r := by omega
      have C := Lib.hid hc
      have Rr := Lib.hid hr
      go_wp2
      go_ret
      exact ⟨ret_int (by rw [F.out, rm_up Rr.out (more0_t C.out)]; rfl), _, rfl⟩
    · have C := Lib.hid hc
      have hcd : decide (d ≤ 2 * r) = false := by rw [decide_eq_false_iff_not]; exact hc
      clear hc
      go_wp2
      go_ret
      exact ⟨ret_int (by rw [F.out, rm_no (more0_f C.out)]; rfl), _, rfl⟩
set_option maxRecDepth 100000 in
set_option maxHeartbeats 4000000 in
theorem refQuo_m1 (num den : Int) (w : World) (h1 : -1000000000000000000 ≤ num) (h2 : num ≤ 1000000000000000000) (h3 : -1000000000000000000 ≤ den) (h4 : den ≤ 1000000000000000000) (h5 : den ≠ 0) (h0 : num ≠ 0) :
    Calls Tryd.prog 31 #[.int .i64 num, .int .i64 den, .int .i64 1] w fun e w' => e = .returned (.int .i64 (rdI num den 1)) ∧ ∃ k, w' = w.drewN k := by
  obtain ⟨a1, a2⟩ := absI_bd (n := num) ⟨h1, h2⟩
  obtain ⟨b1, b2⟩ := absI_bd (n := den) ⟨h3, h4⟩
  have b3 := absI_pos h5
  obtain ⟨q1, q2, q3, q4, q5⟩ := qr_bd (num := num) h5
  have G : rdI num den 1 = rounded (qu num den) (re num den) (!decide (num < 0) == decide (den < 0)) (more 1 (!decide (num < 0) == decide (den < 0)) (qu num den) (re num den) (absI den)) := rfl
  have hnz : (num != 0) = true := by rw [bne_iff_ne]; exact h0
  have hz : (absI den == 0) = false := by rw [beq_eq_false_iff_ne]; omega
  unfold qu re at *
  have F := Lib.hid G
  clear h5 h0 G
  go_enter Tryd.func31, Tryd.ntmps31
  go_wp2_with fail
  generalize (!decide (num < 0) == decide (den < 0)) = neg at *
  go_quiet ((go_at_call 15; exact Calls.quiet_of_same (same_turn (refSize_any _ _ (by omega) (by omega)))))
  generalize absI num / absI den = q at *
  generalize absI num % absI den = r at *
  generalize absI den = d at *
  cases neg
  · by_cases hc : d < 2 * r
    · have hr : 0 < r := by omega
      have C := Lib.hid hc
      have Rr := Lib.hid hr
      go_wp2
      go_ret
      exact ⟨ret_int (by rw [F.out, rm_up Rr.out (more1_t C.out)]; rfl), _, rfl⟩
    · have C := Lib.hid hc
      have hcd : decide (d < 2 * r) = false := by rw [decide_eq_false_iff_not]; exact hc
      by_cases he : 2 * r = d
      · have hr : 0 < r := by omega
        have E := Lib.hid he
        have Rr := Lib.hid hr
        have heb : (2 * r == d) = true := by rw [beq_iff_eq]; exact he
        by_cases hq : q % 2 = 1
        · have Q := Lib.hid hq
          have hqb : (q % 2 == 1) = true := by rw [beq_iff_eq]; exact hq
          clear hc he hq
          go_wp2
          go_ret
          exact ⟨ret_int (by rw [F.out, rm_up Rr.out (more1_e E.out Q.out)]; rfl), _, rfl⟩
        · have Q := Lib.hid hq
          have hqb : (q % 2 == 1) = false := by rw [beq_eq_false_iff_ne]; exact hq
          clear hc he hq
          go_wp2
          go_ret
          exact ⟨ret_int (by rw [F.out, rm_no (more1_n C.out Q.out)]; rfl), _, rfl⟩
      · have E := Lib.hid he
        have heb : (2 * r == d) = false := by rw [beq_eq_false_iff_ne]; exact he
        clear hc he
        go_wp2
        go_ret
        exact ⟨ret_int (by rw [F.out, rm_no (more1_f C.out E.out)]; rfl), _, rfl⟩
  · by_cases hc : d < 2 * r
    · have hr : 0 < r := by omega
      have C := Lib.hid hc
      have Rr := Lib.hid hr
      go_wp2
      go_ret
      exact ⟨ret_int (by rw [F.out, rm_up Rr.out (more1_t C.out)]; rfl), _, rfl⟩
    · have C := Lib.hid hc
      have hcd : decide (d < 2 * r) = false := by rw [decide_eq_false_iff_not]; exact hc
      by_cases he : 2 * r = d
      · have hr : 0 < r := by omega
        have E := Lib.hid he
        have Rr := Lib.hid hr
        have heb : (2 * r == d) = true := by rw [beq_iff_eq]; exact he
        by_cases hq : q % 2 = 1
        · have Q := Lib.hid hq
          have hqb : (q % 2 == 1) = true := by rw [beq_iff_eq]; exact hq
          clear hc he hq
          go_wp2
          go_ret
          exact ⟨ret_int (by rw [F.out, rm_up Rr.out (more1_e E.out Q.out)]; rfl), _, rfl⟩
        · have Q := Lib.hid hq
          have hqb : (q % 2 == 1) = false := by rw [beq_eq_false_iff_ne]; exact hq
          clear hc he hq
          go_wp2
          go_ret
          exact ⟨ret_int (by rw [F.out, rm_no (more1_n C.out Q.out)]; rfl), _, rfl⟩
      · have E := Lib.hid he
        have heb : (2 * r == d) = false := by rw [beq_eq_false_iff_ne]; exact he
        clear hc he
        go_wp2
        go_ret
        exact ⟨ret_int (by rw [F.out, rm_no (more1_f C.out E.out)]; rfl), _, rfl⟩
set_option maxRecDepth 100000 in
set_option maxHeartbeats 4000000 in
theorem refQuo_m2 (num den : Int) (w : World) (h1 : -1000000000000000000 ≤ num) (h2 : num ≤ 1000000000000000000) (h3 : -1000000000000000000 ≤ den) (h4 : den ≤ 1000000000000000000) (h5 : den ≠ 0) (h0 : num ≠ 0) :
    Calls Tryd.prog 31 #[.int .i64 num, .int .i64 den, .int .i64 2] w fun e w' => e = .returned (.int .i64 (rdI num den 2)) ∧ ∃ k, w' = w.drewN k := by
  obtain ⟨a1, a2⟩ := absI_bd (n := num) ⟨h1, h2⟩
  obtain ⟨b1, b2⟩ := absI_bd (n := den) ⟨h3, h4⟩
  have b3 := absI_pos h5
  obtain ⟨q1, q2, q3, q4, q5⟩ := qr_bd (num := num) h5
  have G : rdI num den 2 = rounded (qu num den) (re num den) (!decide (num < 0) == decide (den < 0)) (more 2 (!decide (num < 0) == decide (den < 0)) (qu num den) (re num den) (absI den)) := rfl
  have hnz : (num != 0) = true := by rw [bne_iff_ne]; exact h0
  have hz : (absI den == 0) = false := by rw [beq_eq_false_iff_ne]; omega
  unfold qu re at *
  have F := Lib.hid G
  clear h5 h0 G
  go_enter Tryd.func31, Tryd.ntmps31
  go_wp2_with fail
  generalize (!decide (num < 0) == decide (den < 0)) = neg at *
  go_quiet ((go_at_call 15; exact Calls.quiet_of_same (same_turn (refSize_any _ _ (by omega) (by omega)))))
  generalize absI num / absI den = q at *
  generalize absI num % absI den = r at *
  generalize absI den = d at *
  cases neg
  · go_wp2
    go_ret
    exact ⟨ret_int (by rw [F.out, rm_no rfl]; rfl), _, rfl⟩
  · go_wp2
    go_ret
    exact ⟨ret_int (by rw [F.out, rm_no rfl]; rfl), _, rfl⟩
set_option maxRecDepth 100000 in
set_option maxHeartbeats 4000000 in
theorem refQuo_m3 (num den : Int) (w : World) (h1 : -1000000000000000000 ≤ num) (h2 : num ≤ 1000000000000000000) (h3 : -1000000000000000000 ≤ den) (h4 : den ≤ 1000000000000000000) (h5 : den ≠ 0) (h0 : num ≠ 0) :
    Calls Tryd.prog 31 #[.int .i64 num, .int .i64 den, .int .i64 3] w fun e w' => e = .returned (.int .i64 (rdI num den 3)) ∧ ∃ k, w' = w.drewN k := by
  obtain ⟨a1, a2⟩ := absI_bd (n := num) ⟨h1, h2⟩
  obtain ⟨b1, b2⟩ := absI_bd (n := den) ⟨h3, h4⟩
  have b3 := absI_pos h5
  obtain ⟨q1, q2, q3, q4, q5⟩ := qr_bd (num := num) h5
  have G : rdI num den 3 = rounded (qu num den) (re num den) (!decide (num < 0) == decide (den < 0)) (more 3 (!decide (num < 0) == decide (den < 0)) (qu num den) (re num den) (absI den)) := rfl
  have hnz : (num != 0) = true := by rw [bne_iff_ne]; exact h0
  have hz : (absI den == 0) = false := by rw [beq_eq_false_iff_ne]; omega
  unfold qu re at *
  have F := Lib.hid G
  clear h5 h0 G
  go_enter Tryd.func31, Tryd.ntmps31
  go_wp2_with fail
  generalize (!decide (num < 0) == decide (den < 0)) = neg at *
  go_quiet ((go_at_call 15; exact Calls.quiet_of_same (same_turn (refSize_any _ _ (by omega) (by omega)))))
  generalize absI num / absI den = q at *
  generalize absI num % absI den = r at *
  generalize absI den = d at *
  cases neg
  · by_cases hr : 0 < r
    · have Rr := Lib.hid hr
      go_wp2
      go_ret
      exact ⟨ret_int (by rw [F.out, rm_up Rr.out rfl]; rfl), _, rfl⟩
    · have Rr := Lib.hid hr
      have hrd : decide (0 < r) = false := by rw [decide_eq_false_iff_not]; exact hr
      clear hr
      go_wp2
      go_ret
      exact ⟨ret_int (by rw [F.out, rm_nr Rr.out]; rfl), _, rfl⟩
  · by_cases hr : 0 < r
    · have Rr := Lib.hid hr
      go_wp2
      go_ret
      exact ⟨ret_int (by rw [F.out, rm_up Rr.out rfl]; rfl), _, rfl⟩
    · have Rr := Lib.hid hr
      have hrd : decide (0 < r) = false := by rw [decide_eq_false_iff_not]; exact hr
      clear hr
      go_wp2
      go_ret
      exact ⟨ret_int (by rw [F.out, rm_nr Rr.out]; rfl), _, rfl⟩
set_option maxRecDepth 100000 in
set_option maxHeartbeats 4000000 in
theorem refQuo_m4 (num den : Int) (w : World) (h1 : -1000000000000000000 ≤ num) (h2 : num ≤ 1000000000000000000) (h3 : -1000000000000000000 ≤ den) (h4 : den ≤ 1000000000000000000) (h5 : den ≠ 0) (h0 : num ≠ 0) :
    Calls Tryd.prog 31 #[.int .i64 num, .int .i64 den, .int .i64 4] w fun e w' => e = .returned (.int .i64 (rdI num den 4)) ∧ ∃ k, w' = w.drewN k := by
  obtain ⟨a1, a2⟩ := absI_bd (n := num) ⟨h1, h2⟩
  obtain ⟨b1, b2⟩ := absI_bd (n := den) ⟨h3, h4⟩
  have b3 := absI_pos h5
  obtain ⟨q1, q2, q3, q4, q5⟩ := qr_bd (num := num) h5
  have G : rdI num den 4 = rounded (qu num den) (re num den) (!decide (num < 0) == decide (den < 0)) (more 4 (!decide (num < 0) == decide (den < 0)) (qu num den) (re num den) (absI den)) := rfl
  have hnz : (num != 0) = true := by rw [bne_iff_ne]; exact h0
  have hz : (absI den == 0) = false := by rw [beq_eq_false_iff_ne]; omega
  unfold qu re at *
  have F := Lib.hid G
  clear h5 h0 G
  go_enter Tryd.func31, Tryd.ntmps31
  go_wp2_with fail
  generalize (!decide (num < 0) == decide (den < 0)) = neg at *
  go_quiet ((go_at_call 15; exact Calls.quiet_of_same (same_turn (refSize_any _ _ (by omega) (by omega)))))
  generalize absI num / absI den = q at *
  generalize absI num % absI den = r at *
  generalize absI den = d at *
  cases neg
  · by_cases hr : 0 < r
    · have Rr := Lib.hid hr
      go_wp2
      go_ret
      exact ⟨ret_int (by rw [F.out, rm_no rfl]; rfl), _, rfl⟩
    · have Rr := Lib.hid hr
      have hrd : decide (0 < r) = false := by rw [decide_eq_false_iff_not]; exact hr
      clear hr
      go_wp2
      go_ret
      exact ⟨ret_int (by rw [F.out, rm_nr Rr.out]; rfl), _, rfl⟩
  · by_cases hr : 0 < r
    · have Rr := Lib.hid hr
      go_wp2
      go_ret
      exact ⟨ret_int (by rw [F.out, rm_up Rr.out rfl]; rfl), _, rfl⟩
    · have Rr := Lib.hid hr
      have hrd : decide (0 < r) = false := by rw [decide_eq_false_iff_not]; exact hr
      clear hr
      go_wp2
      go_ret
      exact ⟨ret_int (by rw [F.out, rm_nr Rr.out]; rfl), _, rfl⟩
set_option maxRecDepth 100000 in
set_option maxHeartbeats 4000000 in
theorem refQuo_m5 (num den : Int) (w : World) (h1 : -1000000000000000000 ≤ num) (h2 : num ≤ 1000000000000000000) (h3 : -1000000000000000000 ≤ den) (h4 : den ≤ 1000000000000000000) (h5 : den ≠ 0) (h0 : num ≠ 0) :
    Calls Tryd.prog 31 #[.int .i64 num, .int .i64 den, .int .i64 5] w fun e w' => e = .returned (.int .i64 (rdI num den 5)) ∧ ∃ k, w' = w.drewN k := by
  obtain ⟨a1, a2⟩ := absI_bd (n := num) ⟨h1, h2⟩
  obtain ⟨b1, b2⟩ := absI_bd (n := den) ⟨h3, h4⟩
  have b3 := absI_pos h5
  obtain ⟨q1, q2, q3, q4, q5⟩ := qr_bd (num := num) h5
  have G : rdI num den 5 = rounded (qu num den) (re num den) (!decide (num < 0) == decide (den < 0)) (more 5 (!decide (num < 0) == decide (den < 0)) (qu num den) (re num den) (absI den)) := rfl
  have hnz : (num != 0) = true := by rw [bne_iff_ne]; exact h0
  have hz : (absI den == 0) = false := by rw [beq_eq_false_iff_ne]; omega
  unfold qu re at *
  have F := Lib.hid G
  clear h5 h0 G
  go_enter Tryd.func31, Tryd.ntmps31
  go_wp2_with fail
  generalize (!decide (num < 0) == decide (den < 0)) = neg at *
  go_quiet ((go_at_call 15; exact Calls.quiet_of_same (same_turn (refSize_any _ _ (by omega) (by omega)))))
  generalize absI num / absI den = q at *
  generalize absI num % absI den = r at *
  generalize absI den = d at *
  cases neg
  · by_cases hr : 0 < r
    · have Rr := Lib.hid hr
      go_wp2
      go_ret
      exact ⟨ret_int (by rw [F.out, rm_up Rr.out rfl]; rfl), _, rfl⟩
    · have Rr := Lib.hid hr
      have hrd : decide (0 < r) = false := by rw [decide_eq_false_iff_not]; exact hr
      clear hr
      go_wp2
      go_ret
      exact ⟨ret_int (by rw [F.out, rm_nr Rr.out]; rfl), _, rfl⟩
  · by_cases hr : 0 < r
    · have Rr := Lib.hid hr
      go_wp2
      go_ret
      exact ⟨ret_int (by rw [F.out, rm_no rfl]; rfl), _, rfl⟩
    · have Rr := Lib.hid hr
      have hrd : decide (0 < r) = false := by rw [decide_eq_false_iff_not]; exact hr
      clear hr
      go_wp2
      go_ret
      exact ⟨ret_int (by rw [F.out, rm_nr Rr.out]; rfl), _, rfl⟩
end Go.Proofs.YtklpeibmjiolhaaDoor
