/-
  The laws DecimalRound and DecimalQuantize.
-/
import Derived.Test.YtklpeibmjiolhaaDoorDecW6
namespace Go.Proofs.YtklpeibmjiolhaaDoor
open Go.RowKit
set_option linter.unusedVariables false
theorem lawRound (num den mode : Int) (w : World) (hE : Env w) :
    Calls Tryd.prog 3 #[.int .i64 num, .int .i64 den, .int .i64 mode] w fun e w' => e = .returned (.bool true) ∧ Below w.heap.size w w' := by
  go_enter Tryd.func3, Tryd.ntmps3
  go_wp2_with fail
  refine (awake_true _ hE).mono ?_
  rintro e w1 ⟨rfl, hb1⟩
  go_wp2_with fail
  refine (Round_any _ _ _ _).mono ?_
  rintro e w2 ⟨rfl, hb2⟩
  go_wp2_with fail
  refine (refRound_any _ _ _ _).mono ?_
  rintro e w3 ⟨rfl, k, rfl⟩
  generalize rdV num den mode = V at *
  generalize rdE num den mode = X at *
  go_wp2_with fail
  go_ret
  exact ⟨ret_bool (by simp), by repeat (first | exact below_two hb1 hb2 | apply below_drewN)⟩
/-- the error of Quantize, and its number -/
def qzE (n step mode : Int) : Int := if okMode mode then (if (-1000000000000000 ≤ n ∧ n ≤ 1000000000000000) ∧ 1 ≤ step ∧ step ≤ 1000000000000000 then 0 else 2) else 1
def qzV (n step mode : Int) : Int := if qzE n step mode = 0 then rdI n step mode * step else 0
theorem qz_mode {n d m : Int} (h : okMode m = false) : qzE n d m = 1 ∧ qzV n d m = 0 := by
  have : qzE n d m = 1 := by unfold qzE; rw [h]; rfl
  exact ⟨this, by unfold qzV; rw [this]; rfl⟩
theorem qz_range {n d m : Int} (h : okMode m = true) (hr : ¬((-1000000000000000 ≤ n ∧ n ≤ 1000000000000000) ∧ 1 ≤ d ∧ d ≤ 1000000000000000)) : qzE n d m = 2 ∧ qzV n d m = 0 := by
  have : qzE n d m = 2 := by unfold qzE; rw [h, if_neg hr]; rfl
  exact ⟨this, by unfold qzV; rw [this]; rfl⟩
theorem qz_ok {n d m : Int} (h : okMode m = true) (hr : (-1000000000000000 ≤ n ∧ n ≤ 1000000000000000) ∧ 1 ≤ d ∧ d ≤ 1000000000000000) : qzE n d m = 0 ∧ qzV n d m = rdI n d m * d := by
  have : qzE n d m = 0 := by unfold qzE; rw [h, if_pos hr]; rfl
  exact ⟨this, by unfold qzV; rw [if_pos this]⟩
/-- the rounded quotient lies between the two next ones -/
theorem rounded_bd (q r : Int) (neg m : Bool) (hq : 0 ≤ q) : -(q + 1) ≤ rounded q r neg m ∧ rounded q r neg m ≤ q + 1 := by
  unfold rounded
  (repeat' split) <;> omega
theorem rd_mul_bd {n d : Int} (m : Int) (hd : 1 ≤ d) : -(absI n + d) ≤ rdI n d m * d ∧ rdI n d m * d ≤ absI n + d := by
  obtain ⟨q1, q2, q3, q4, q5⟩ := qr_bd (num := n) (show d ≠ 0 by omega)
  have e : absI d = d := by unfold absI; rw [if_neg (by omega)]
  have hm : d * qu n d + re n d = absI n := by
    have := Int.mul_ediv_add_emod (absI n) (absI d)
    unfold qu re
    rw [e] at this ⊢
    exact this
  obtain ⟨r1, r2⟩ := rounded_bd (qu n d) (re n d) (ngB n d) (more m (ngB n d) (qu n d) (re n d) (absI d)) q1
  have a1 : rdI n d m * d ≤ (qu n d + 1) * d := Int.mul_le_mul_of_nonneg_right r2 (by omega)
  have a2 : -(qu n d + 1) * d ≤ rdI n d m * d := Int.mul_le_mul_of_nonneg_right r1 (by omega)
  have a3 : (qu n d + 1) * d = d * qu n d + d := by rw [Int.add_mul, Int.mul_comm]; omega
  have a4 : -(qu n d + 1) * d = -((qu n d + 1) * d) := Int.neg_mul _ _
  omega
theorem quantize_any (n d mode : Int) (w : World) : Calls Tryd.prog 16 #[.int .i64 n, .int .i64 d, .int .i64 mode] w fun e w' => e = .returned (.tuple #[.int .i64 (qzV n d mode), .int .i64 (qzE n d mode)]) ∧ Below w.heap.size w w' := by
  cases hm : okMode mode
  · obtain ⟨e1, e2⟩ := qz_mode (n := n) (d := d) hm
    rw [e1, e2]
    have M := Lib.hid hm
    clear e1 e2 hm
    go_enter Tryd.func16, Tryd.ntmps16
    go_wp2_with fail
    refine (known_any _ _).mono ?_
    rintro e w1 ⟨rfl, rfl⟩
    rw [M.out]
    go_wp2_with fail
    go_ret2
    exact ⟨rfl, Below.refl _ _⟩
  · have M := Lib.hid hm
    by_cases hr : (-1000000000000000 ≤ n ∧ n ≤ 1000000000000000) ∧ 1 ≤ d ∧ d ≤ 1000000000000000
    · obtain ⟨e1, e2⟩ := qz_ok hm hr
      rw [e1, e2]
      obtain ⟨⟨r1, r2⟩, r3, r4⟩ := hr
      obtain ⟨m1, m2⟩ := okMode_iff.1 hm
      obtain ⟨p1, p2⟩ := rd_mul_bd (n := n) mode r3
      obtain ⟨p3, p4⟩ := absI_bd (n := n) (A := 1000000000000000) ⟨by omega, by omega⟩
      have c1 : -2000000000000000 ≤ rdI n d mode * d := by omega
      have c2 : rdI n d mode * d ≤ 2000000000000000 := by omega
      have c3 : -2000000000000000 ≤ d * rdI n d mode := by rw [Int.mul_comm]; omega
      have c4 : d * rdI n d mode ≤ 2000000000000000 := by rw [Int.mul_comm]; omega
      have CM := Lib.hid (Int.mul_comm d (rdI n d mode))
      have NN := Lib.hid (okNo_iff.2 ⟨r1, r2⟩)
      have ND := Lib.hid (show okNo d = true from okNo_iff.2 ⟨by omega, by omega⟩)
      have NV := Lib.hid (show okDec n 0 = true from okDec_iff.2 ⟨⟨by omega, by omega⟩, by omega, by omega⟩)
      clear e1 e2 hm p1 p2 p3 p4
      go_enter Tryd.func16, Tryd.ntmps16
      go_wp2_with fail
      refine (known_any _ _).mono ?_
      rintro e w1 ⟨rfl, rfl⟩
      rw [M.out]
      go_wp2_with fail
      refine (number_any _ _).mono ?_
      rintro e w1 ⟨rfl, rfl⟩
      rw [NN.out]
      go_wp2_with fail
      refine (number_any _ _).mono ?_
      rintro e w1 ⟨rfl, rfl⟩
      rw [ND.out]
      go_wp2_with fail
      refine (round_any _ _ _ _ (by omega) (by omega) (by omega) (by omega) (by omega) m1 m2).mono ?_
      rintro e w1 ⟨rfl, hb⟩
      go_wp2_with fail
      go_ret2
      exact ⟨rfl, hb⟩
    · obtain ⟨e1, e2⟩ := qz_range hm hr
      rw [e1, e2]
      clear e1 e2 hm
      by_cases r1 : -1000000000000000 ≤ n ∧ n ≤ 1000000000000000
      · have NN := Lib.hid (okNo_iff.2 r1)
        have NV := Lib.hid (show okDec n 0 = true from okDec_iff.2 ⟨r1, by omega, by omega⟩)
        by_cases r3 : 1 ≤ d
        · have r4 : 1000000000000000 < d := by omega
          have ND := Lib.hid (show okNo d = false by cases h : okNo d with | false => rfl | true => exact absurd (okNo_iff.1 h).2 (by omega))
          clear hr r1
          go_enter Tryd.func16, Tryd.ntmps16
          go_wp2_with fail
          refine (known_any _ _).mono ?_
          rintro e w1 ⟨rfl, rfl⟩
          rw [M.out]
          go_wp2_with fail
          refine (number_any _ _).mono ?_
          rintro e w1 ⟨rfl, rfl⟩
          rw [NN.out]
          go_wp2_with fail
          refine (number_any _ _).mono ?_
          rintro e w1 ⟨rfl, rfl⟩
          rw [ND.out]
          go_wp2_with fail
          go_ret2
          exact ⟨rfl, Below.refl _ _⟩
        · by_cases r4 : -1000000000000000 ≤ d
          · have ND := Lib.hid (show okNo d = true from okNo_iff.2 ⟨r4, by omega⟩)
            have r5 : d ≤ 0 := by omega
            clear hr r1 r3 r4
            go_enter Tryd.func16, Tryd.ntmps16
            go_wp2_with fail
            refine (known_any _ _).mono ?_
            rintro e w1 ⟨rfl, rfl⟩
            rw [M.out]
            go_wp2_with fail
            refine (number_any _ _).mono ?_
            rintro e w1 ⟨rfl, rfl⟩
            rw [NN.out]
            go_wp2_with fail
            refine (number_any _ _).mono ?_
            rintro e w1 ⟨rfl, rfl⟩
            rw [ND.out]
            go_wp2_with fail
            go_ret2
            exact ⟨rfl, Below.refl _ _⟩
          · have ND := Lib.hid (show okNo d = false by cases h : okNo d with | false => rfl | true => exact absurd (okNo_iff.1 h).1 (by omega))
            clear hr r1 r3
            go_enter Tryd.func16, Tryd.ntmps16
            go_wp2_with fail
            refine (known_any _ _).mono ?_
            rintro e w1 ⟨rfl, rfl⟩
            rw [M.out]
            go_wp2_with fail
            refine (number_any _ _).mono ?_
            rintro e w1 ⟨rfl, rfl⟩
            rw [NN.out]
            go_wp2_with fail
            refine (number_any _ _).mono ?_
            rintro e w1 ⟨rfl, rfl⟩
            rw [ND.out]
            go_wp2_with fail
            go_ret2
            exact ⟨rfl, Below.refl _ _⟩
      · have NN := Lib.hid (show okNo n = false by cases h : okNo n with | false => rfl | true => exact absurd (okNo_iff.1 h) r1)
        have NV := Lib.hid (show okDec n 0 = false by cases h : okDec n 0 with | false => rfl | true => exact absurd (okDec_iff.1 h).1 r1)
        clear hr r1
        go_enter Tryd.func16, Tryd.ntmps16
        go_wp2_with fail
        refine (known_any _ _).mono ?_
        rintro e w1 ⟨rfl, rfl⟩
        rw [M.out]
        go_wp2_with fail
        refine (number_any _ _).mono ?_
        rintro e w1 ⟨rfl, rfl⟩
        rw [NN.out]
        go_wp2_with fail
        go_ret2
        exact ⟨rfl, Below.refl _ _⟩
theorem refQuantize_any (n d mode : Int) (w : World) : Calls Tryd.prog 17 #[.int .i64 n, .int .i64 d, .int .i64 mode] w fun e w' => e = .returned (.tuple #[.int .i64 (qzV n d mode), .int .i64 (qzE n d mode)]) ∧ ∃ k, w' = w.drewN k := by
  cases hm : okMode mode
  · obtain ⟨e1, e2⟩ := qz_mode (n := n) (d := d) hm
    rw [e1, e2]
    have M := Lib.hid hm
    clear e1 e2 hm
    go_enter Tryd.func17, Tryd.ntmps17
    go_wp2_with fail
    refine (refKnown_any _ _).mono ?_
    rintro e w1 ⟨rfl, rfl⟩
    rw [M.out]
    go_wp2_with fail
    go_ret2
    exact ⟨rfl, 0, rfl⟩
  · have M := Lib.hid hm
    by_cases hr : (-1000000000000000 ≤ n ∧ n ≤ 1000000000000000) ∧ 1 ≤ d ∧ d ≤ 1000000000000000
    · obtain ⟨e1, e2⟩ := qz_ok hm hr
      rw [e1, e2]
      obtain ⟨⟨r1, r2⟩, r3, r4⟩ := hr
      obtain ⟨m1, m2⟩ := okMode_iff.1 hm
      obtain ⟨p1, p2⟩ := rd_mul_bd (n := n) mode r3
      obtain ⟨p3, p4⟩ := absI_bd (n := n) (A := 1000000000000000) ⟨by omega, by omega⟩
      have c1 : -2000000000000000 ≤ rdI n d mode * d := by omega
      have c2 : rdI n d mode * d ≤ 2000000000000000 := by omega
      have c3 : -2000000000000000 ≤ d * rdI n d mode := by rw [Int.mul_comm]; omega
      have c4 : d * rdI n d mode ≤ 2000000000000000 := by rw [Int.mul_comm]; omega
      have CM := Lib.hid (Int.mul_comm d (rdI n d mode))
      have NN := Lib.hid (okNo_iff.2 ⟨r1, r2⟩)
      have ND := Lib.hid (show okNo d = true from okNo_iff.2 ⟨by omega, by omega⟩)
      have NV := Lib.hid (show okDec n 0 = true from okDec_iff.2 ⟨⟨by omega, by omega⟩, by omega, by omega⟩)
      clear e1 e2 hm p1 p2 p3 p4
      go_enter Tryd.func17, Tryd.ntmps17
      go_wp2_with fail
      refine (refKnown_any _ _).mono ?_
      rintro e w1 ⟨rfl, rfl⟩
      rw [M.out]
      go_wp2_with fail
      refine (refValid_any _ _ _).mono ?_
      rintro e w1 ⟨rfl, rfl⟩
      rw [NV.out]
      go_wp2_with fail
      refine (refQuo_any _ _ _ _ (by omega) (by omega) (by omega) (by omega) (by omega) m1 m2).mono ?_
      rintro e w1 ⟨rfl, k, rfl⟩
      go_wp2_with fail
      go_ret2
      exact ⟨pair_int CM.out rfl, k, rfl⟩
    · obtain ⟨e1, e2⟩ := qz_range hm hr
      rw [e1, e2]
      clear e1 e2 hm
      by_cases r1 : -1000000000000000 ≤ n ∧ n ≤ 1000000000000000
      · have NN := Lib.hid (okNo_iff.2 r1)
        have NV := Lib.hid (show okDec n 0 = true from okDec_iff.2 ⟨r1, by omega, by omega⟩)
        by_cases r3 : 1 ≤ d
        · have r4 : 1000000000000000 < d := by omega
          have ND := Lib.hid (show okNo d = false by cases h : okNo d with | false => rfl | true => exact absurd (okNo_iff.1 h).2 (by omega))
          clear hr r1
          go_enter Tryd.func17, Tryd.ntmps17
          go_wp2_with fail
          refine (refKnown_any _ _).mono ?_
          rintro e w1 ⟨rfl, rfl⟩
          rw [M.out]
          go_wp2_with fail
          refine (refValid_any _ _ _).mono ?_
          rintro e w1 ⟨rfl, rfl⟩
          rw [NV.out]
          go_wp2_with fail
          go_ret2
          exact ⟨rfl, 0, rfl⟩
        · have r4 : d < 1 := by omega
          clear hr r1 r3
          go_enter Tryd.func17, Tryd.ntmps17
          go_wp2_with fail
          refine (refKnown_any _ _).mono ?_
          rintro e w1 ⟨rfl, rfl⟩
          rw [M.out]
          go_wp2_with fail
          refine (refValid_any _ _ _).mono ?_
          rintro e w1 ⟨rfl, rfl⟩
          rw [NV.out]
          go_wp2_with fail
          go_ret2
          exact ⟨rfl, 0, rfl⟩
      · have NN := Lib.hid (show okNo n = false by cases h : okNo n with | false => rfl | true => exact absurd (okNo_iff.1 h) r1)
        have NV := Lib.hid (show okDec n 0 = false by cases h : okDec n 0 with | false => rfl | true => exact absurd (okDec_iff.1 h).1 r1)
        clear hr r1
        go_enter Tryd.func17, Tryd.ntmps17
        go_wp2_with fail
        refine (refKnown_any _ _).mono ?_
        rintro e w1 ⟨rfl, rfl⟩
        rw [M.out]
        go_wp2_with fail
        refine (refValid_any _ _ _).mono ?_
        rintro e w1 ⟨rfl, rfl⟩
        rw [NV.out]
        go_wp2_with fail
        go_ret2
        exact ⟨rfl, 0, rfl⟩
theorem lawQuantize (n d mode : Int) (w : World) (hE : Env w) :
    Calls Tryd.prog 6 #[.int .i64 n, .int .i64 d, .int .i64 mode] w fun e w' => e = .returned (.bool true) ∧ Below w.heap.size w w' := by
  by_cases hx : qzE n d mode = 0
  · have hs : 1 ≤ d := by
      unfold qzE at hx
      split at hx
      · split at hx
        · rename_i h; exact h.2.1
        · exact absurd hx (by decide)
      · exact absurd hx (by decide)
    have hv : qzV n d mode = rdI n d mode * d := by unfold qzV; rw [if_pos hx]
    have X := Lib.hid hx
    have V := Lib.hid hv
    have T := Lib.hid (show (rdI n d mode * d).tmod d = 0 from Int.mul_tmod_left _ _)
    clear hx hv
    go_enter Tryd.func6, Tryd.ntmps6
    go_wp2_with fail
    refine (awake_true _ hE).mono ?_
    rintro e w1 ⟨rfl, hb1⟩
    go_wp2_with fail
    refine (quantize_any _ _ _ _).mono ?_
    rintro e w2 ⟨rfl, hb2⟩
    go_wp2_with fail
    refine (refQuantize_any _ _ _ _).mono ?_
    rintro e w3 ⟨rfl, k, rfl⟩
    rw [X.out, V.out]
    have t1 := T.out
    generalize rdI n d mode * d = p at *
    go_wp2_with fail
    go_ret
    exact ⟨ret_bool (by simp), by repeat (first | exact below_two hb1 hb2 | apply below_drewN)⟩
  · have hx' := hx
    go_enter Tryd.func6, Tryd.ntmps6
    go_wp2_with fail
    refine (awake_true _ hE).mono ?_
    rintro e w1 ⟨rfl, hb1⟩
    go_wp2_with fail
    refine (quantize_any _ _ _ _).mono ?_
    rintro e w2 ⟨rfl, hb2⟩
    go_wp2_with fail
    refine (refQuantize_any _ _ _ _).mono ?_
    rintro e w3 ⟨rfl, k, rfl⟩
    generalize qzE n d mode = X at *
    generalize qzV n d mode = V at *
    go_wp2_with fail
    go_ret
    exact ⟨ret_bool (by simp), by repeat (first | exact below_two hb1 hb2 | apply below_drewN)⟩
end Go.Proofs.YtklpeibmjiolhaaDoor
