/-
  The two Compares.
-/
import Derived.Test.YtklpeibmjiolhaaDoorDecW7
import Derived.Test.YtklpeibmjiolhaaDoorDecMono
namespace Go.Proofs.YtklpeibmjiolhaaDoor
open Go.RowKit
set_option linter.unusedVariables false
/-- rounding to the next lower integer is the quotient itself -/
theorem rdI_floor {n d : Int} (hd : 0 < d) : rdI n d 4 = n / d := by
  by_cases hn : n < 0
  · rw [rdI_neg hn hd]
    have h1 := Int.mul_ediv_add_emod (-n) d
    have h2 := Int.emod_nonneg (-n) (show d ≠ 0 by omega)
    have h3 := Int.emod_lt_of_pos (-n) hd
    have hm : ∀ q r : Int, more 4 true q r d = true := fun _ _ => rfl
    unfold fI
    rw [hm]
    generalize (-n) / d = q at *
    generalize (-n) % d = r at *
    by_cases hr : 0 < r
    · rw [decide_eq_true hr]
      have e : d * -(q + 1) = -(d * q) - d := by rw [Int.mul_neg, Int.mul_add, Int.mul_one]; omega
      exact ((Int.ediv_emod_unique hd).2 ⟨show d - r + d * -(q + 1) = n by omega, by omega, by omega⟩).1.symm
    · rw [decide_eq_false hr]
      have e : d * -q = -(d * q) := Int.mul_neg _ _
      exact ((Int.ediv_emod_unique hd).2 ⟨show 0 + d * -q = n by omega, by omega, by omega⟩).1.symm
  · rw [rdI_pos (by omega) hd]
    rfl
/-- the whole part of a decimal number, and the rest in units of the greatest scale -/
def wh (n s : Int) : Int := n / pw s
def rs (n s : Int) : Int := (n - wh n s * pw s) * pw (9 - s)
theorem wh_bd {n s : Int} (h : okDec n s = true) : -1000000000000001 ≤ wh n s ∧ wh n s ≤ 1000000000000000 ∧ -2000000000000000 ≤ wh n s * pw s ∧ wh n s * pw s ≤ 2000000000000000 ∧ 0 ≤ n - wh n s * pw s ∧ n - wh n s * pw s ≤ 1000000000 ∧ 0 ≤ rs n s ∧ rs n s ≤ 1000000000000000000 := by
  obtain ⟨⟨n1, n2⟩, s1, s2⟩ := okDec_iff.1 h
  obtain ⟨p1, p2⟩ := pw_bd s1 s2
  obtain ⟨q1, q2⟩ := pw_bd (s := 9 - s) (by omega) (by omega)
  have h1 := Int.mul_ediv_add_emod n (pw s)
  have h2 := Int.emod_nonneg n (show pw s ≠ 0 by omega)
  have h3 := Int.emod_lt_of_pos n (show 0 < pw s by omega)
  have e : pw s * (n / pw s) = wh n s * pw s := Int.mul_comm _ _
  have a1 : wh n s * pw s = n - n % pw s := by omega
  have b1 : n - wh n s * pw s = n % pw s := by omega
  have c1 : n / pw s ≤ 1000000000000000 := Int.ediv_le_of_le_mul (by omega) (by have := Int.mul_le_mul_of_nonneg_left p1 (show (0 : Int) ≤ 1000000000000000 by omega); omega)
  have c2 : -1000000000000001 ≤ n / pw s := Int.le_ediv_of_mul_le (by omega) (by have := Int.mul_le_mul_of_nonneg_left p1 (show (0 : Int) ≤ 1000000000000001 by omega); have e2 : (-1000000000000001 : Int) * pw s = -(1000000000000001 * pw s) := Int.neg_mul _ _; omega)
  have d1 : 0 ≤ rs n s := Int.mul_nonneg (by omega) (by omega)
  have d2 : rs n s ≤ 1000000000 * 1000000000 := Int.mul_le_mul (by omega) q2 (by omega) (by omega)
  exact ⟨c2, c1, by omega, by omega, by omega, by omega, d1, by omega⟩
def cmpI (x r y s : Int) : Int := if x < y then -1 else if y < x then 1 else if r < s then -1 else if s < r then 1 else 0
def cpE (a sa b sb : Int) : Int := if okDec a sa && okDec b sb then 0 else 2
def cpV (a sa b sb : Int) : Int := if okDec a sa && okDec b sb then cmpI (wh a sa) (rs a sa) (wh b sb) (rs b sb) else 0
theorem cmpI_swap (x r y s : Int) : cmpI y s x r = -cmpI x r y s := by
  unfold cmpI
  (repeat' split) <;> omega
theorem cp_swap (a sa b sb : Int) : cpV b sb a sa = -cpV a sa b sb ∧ cpE b sb a sa = cpE a sa b sb := by
  unfold cpV cpE
  rw [Bool.and_comm]
  refine ⟨?_, rfl⟩
  split
  · exact cmpI_swap _ _ _ _
  · rfl
theorem cmpI_bd (x r y s : Int) : -1 ≤ cmpI x r y s ∧ cmpI x r y s ≤ 1 := by
  unfold cmpI
  (repeat' split) <;> omega
theorem cpV_bd (a sa b sb : Int) : -1 ≤ cpV a sa b sb ∧ cpV a sa b sb ≤ 1 := by
  unfold cpV
  split
  · exact cmpI_bd _ _ _ _
  · omega
theorem split_any (n s : Int) (w : World) (hv : okDec n s = true) : Calls Tryd.prog 36 #[.int .i64 n, .int .i64 s] w fun e w' => e = .returned (.tuple #[.int .i64 (wh n s), .int .i64 (rs n s)]) ∧ Below w.heap.size w w' := by
  obtain ⟨⟨n1, n2⟩, s1, s2⟩ := okDec_iff.1 hv
  obtain ⟨p1, p2⟩ := pw_bd s1 s2
  obtain ⟨q1, q2⟩ := pw_bd (s := 9 - s) (by omega) (by omega)
  obtain ⟨c1, c2, c3, c4, c5, c6, c7, c8⟩ := wh_bd hv
  have F := Lib.hid (rdI_floor (n := n) (d := pw s) (by omega))
  have RS := Lib.hid (show rs n s = (n - wh n s * pw s) * pw (9 - s) from rfl)
  rw [RS.out] at c7 c8 ⊢
  have W := Lib.hid (show n / pw s = wh n s from rfl)
  clear hv
  go_enter Tryd.func36, Tryd.ntmps36
  go_wp2_with fail
  refine (power_any _ _ (by omega) (by omega)).mono ?_
  rintro e w1 ⟨rfl, rfl⟩
  go_wp2_with fail
  refine (round_any _ _ _ _ (by omega) (by omega) (by omega) (by omega) (by omega) (by omega) (by omega)).mono ?_
  rintro e w1 ⟨rfl, hb⟩
  rw [F.out, W.out]
  go_wp2_with fail
  refine (power_any _ _ (by omega) (by omega)).mono ?_
  rintro e w2 ⟨rfl, rfl⟩
  go_wp2_with fail
  refine (power_any _ _ (by omega) (by omega)).mono ?_
  rintro e w2 ⟨rfl, rfl⟩
  go_wp2_with fail
  go_ret2
  exact ⟨rfl, by repeat (first | exact hb | apply below_drewN)⟩
theorem cmp_cases {motive : Prop} (x r y s : Int) (h1 : x < y → cmpI x r y s = -1 → motive) (h2 : y < x → cmpI x r y s = 1 → motive) (h3 : x = y → r < s → cmpI x r y s = -1 → motive) (h4 : x = y → s < r → cmpI x r y s = 1 → motive) (h5 : x = y → r = s → cmpI x r y s = 0 → motive) : motive := by
  by_cases a : x < y
  · exact h1 a (by unfold cmpI; rw [if_pos a])
  · by_cases b : y < x
    · exact h2 b (by unfold cmpI; rw [if_neg a, if_pos b])
    · by_cases c : r < s
      · exact h3 (by omega) c (by unfold cmpI; rw [if_neg a, if_neg b, if_pos c])
      · by_cases d : s < r
        · exact h4 (by omega) d (by unfold cmpI; rw [if_neg a, if_neg b, if_neg c, if_pos d])
        · exact h5 (by omega) (by omega) (by unfold cmpI; rw [if_neg a, if_neg b, if_neg c, if_neg d])
set_option maxHeartbeats 2000000 in
theorem compare_any (a sa b sb : Int) (w : World) : Calls Tryd.prog 19 #[.int .i64 a, .int .i64 sa, .int .i64 b, .int .i64 sb] w fun e w' => e = .returned (.tuple #[.int .i64 (cpV a sa b sb), .int .i64 (cpE a sa b sb)]) ∧ Below w.heap.size w w' := by
  unfold cpV cpE
  cases ha : okDec a sa
  · have VA := Lib.hid ha
    clear ha
    simp only [Bool.false_and, Bool.false_eq_true, if_false]
    go_enter Tryd.func19, Tryd.ntmps19
    go_wp2_with fail
    refine (valid_any _ _ _).mono ?_
    rintro e w1 ⟨rfl, rfl⟩
    rw [VA.out]
    go_wp2_with fail
    go_ret2
    exact ⟨rfl, Below.refl _ _⟩
  · cases hb : okDec b sb
    · have VA := Lib.hid ha
      have VB := Lib.hid hb
      clear ha hb
      simp only [Bool.and_false, Bool.false_eq_true, if_false]
      go_enter Tryd.func19, Tryd.ntmps19
      go_wp2_with fail
      refine (valid_any _ _ _).mono ?_
      rintro e w1 ⟨rfl, rfl⟩
      rw [VA.out]
      go_wp2_with fail
      refine (valid_any _ _ _).mono ?_
      rintro e w1 ⟨rfl, rfl⟩
      rw [VB.out]
      go_wp2_with fail
      go_ret2
      exact ⟨rfl, Below.refl _ _⟩
    · have VA := Lib.hid ha
      have VB := Lib.hid hb
      clear ha hb
      simp only [Bool.and_true, if_true]
      generalize hwa : wh a sa = X
      generalize hra : rs a sa = U
      generalize hwb : wh b sb = Y
      generalize hrb : rs b sb = V
      have WA := Lib.hid hwa
      have RA := Lib.hid hra
      have WB := Lib.hid hwb
      have RB := Lib.hid hrb
      clear hwa hra hwb hrb
      refine cmp_cases X U Y V ?_ ?_ ?_ ?_ ?_
      · intro h e
        rw [e]
        clear e
        go_enter Tryd.func19, Tryd.ntmps19
        go_wp2_with fail
        refine (valid_any _ _ _).mono ?_
        rintro e w1 ⟨rfl, rfl⟩
        rw [VA.out]
        go_wp2_with fail
        refine (valid_any _ _ _).mono ?_
        rintro e w1 ⟨rfl, rfl⟩
        rw [VB.out]
        go_wp2_with fail
        refine (split_any _ _ _ VA.out).mono ?_
        rintro e w1 ⟨rfl, hb1⟩
        rw [WA.out, RA.out]
        go_wp2_with fail
        refine (split_any _ _ _ VB.out).mono ?_
        rintro e w2 ⟨rfl, hb2⟩
        rw [WB.out, RB.out]
        go_wp2_with fail
        go_ret2
        exact ⟨rfl, by repeat (first | exact below_two hb1 hb2 | apply below_drewN)⟩
      · intro h e
        rw [e]
        clear e
        have t1 : decide (X < Y) = false := by rw [decide_eq_false_iff_not]; omega
        have t2 : (X == Y) = false := by rw [beq_eq_false_iff_ne]; omega
        go_enter Tryd.func19, Tryd.ntmps19
        go_wp2_with fail
        refine (valid_any _ _ _).mono ?_
        rintro e w1 ⟨rfl, rfl⟩
        rw [VA.out]
        go_wp2_with fail
        refine (valid_any _ _ _).mono ?_
        rintro e w1 ⟨rfl, rfl⟩
        rw [VB.out]
        go_wp2_with fail
        refine (split_any _ _ _ VA.out).mono ?_
        rintro e w1 ⟨rfl, hb1⟩
        rw [WA.out, RA.out]
        go_wp2_with fail
        refine (split_any _ _ _ VB.out).mono ?_
        rintro e w2 ⟨rfl, hb2⟩
        rw [WB.out, RB.out]
        go_wp2_with fail
        go_ret2
        exact ⟨rfl, by repeat (first | exact below_two hb1 hb2 | apply below_drewN)⟩
      · intro h h' e
        rw [e]
        subst h
        clear e
        have t1 : decide (X < X) = false := by rw [decide_eq_false_iff_not]; omega
        have t2 : (X == X) = true := by rw [beq_iff_eq]
        go_enter Tryd.func19, Tryd.ntmps19
        go_wp2_with fail
        refine (valid_any _ _ _).mono ?_
        rintro e w1 ⟨rfl, rfl⟩
        rw [VA.out]
        go_wp2_with fail
        refine (valid_any _ _ _).mono ?_
        rintro e w1 ⟨rfl, rfl⟩
        rw [VB.out]
        go_wp2_with fail
        refine (split_any _ _ _ VA.out).mono ?_
        rintro e w1 ⟨rfl, hb1⟩
        rw [WA.out, RA.out]
        go_wp2_with fail
        refine (split_any _ _ _ VB.out).mono ?_
        rintro e w2 ⟨rfl, hb2⟩
        rw [WB.out, RB.out]
        go_wp2_with fail
        go_ret2
        exact ⟨rfl, by repeat (first | exact below_two hb1 hb2 | apply below_drewN)⟩
      · intro h h' e
        rw [e]
        subst h
        clear e
        have t1 : decide (X < X) = false := by rw [decide_eq_false_iff_not]; omega
        have t2 : (X == X) = true := by rw [beq_iff_eq]
        have t3 : decide (U < V) = false := by rw [decide_eq_false_iff_not]; omega
        go_enter Tryd.func19, Tryd.ntmps19
        go_wp2_with fail
        refine (valid_any _ _ _).mono ?_
        rintro e w1 ⟨rfl, rfl⟩
        rw [VA.out]
        go_wp2_with fail
        refine (valid_any _ _ _).mono ?_
        rintro e w1 ⟨rfl, rfl⟩
        rw [VB.out]
        go_wp2_with fail
        refine (split_any _ _ _ VA.out).mono ?_
        rintro e w1 ⟨rfl, hb1⟩
        rw [WA.out, RA.out]
        go_wp2_with fail
        refine (split_any _ _ _ VB.out).mono ?_
        rintro e w2 ⟨rfl, hb2⟩
        rw [WB.out, RB.out]
        go_wp2_with fail
        go_ret2
        exact ⟨rfl, by repeat (first | exact below_two hb1 hb2 | apply below_drewN)⟩
      · intro h h' e
        rw [e]
        subst h h'
        clear e
        have t1 : decide (X < X) = false := by rw [decide_eq_false_iff_not]; omega
        have t2 : (X == X) = true := by rw [beq_iff_eq]
        have t3 : decide (U < U) = false := by rw [decide_eq_false_iff_not]; omega
        go_enter Tryd.func19, Tryd.ntmps19
        go_wp2_with fail
        refine (valid_any _ _ _).mono ?_
        rintro e w1 ⟨rfl, rfl⟩
        rw [VA.out]
        go_wp2_with fail
        refine (valid_any _ _ _).mono ?_
        rintro e w1 ⟨rfl, rfl⟩
        rw [VB.out]
        go_wp2_with fail
        refine (split_any _ _ _ VA.out).mono ?_
        rintro e w1 ⟨rfl, hb1⟩
        rw [WA.out, RA.out]
        go_wp2_with fail
        refine (split_any _ _ _ VB.out).mono ?_
        rintro e w2 ⟨rfl, hb2⟩
        rw [WB.out, RB.out]
        go_wp2_with fail
        go_ret2
        exact ⟨rfl, by repeat (first | exact below_two hb1 hb2 | apply below_drewN)⟩
set_option maxHeartbeats 4000000 in
theorem refCompare_any (a sa b sb : Int) (w : World) : Calls Tryd.prog 20 #[.int .i64 a, .int .i64 sa, .int .i64 b, .int .i64 sb] w fun e w' => e = .returned (.tuple #[.int .i64 (cpV a sa b sb), .int .i64 (cpE a sa b sb)]) ∧ Below w.heap.size w w' := by
  unfold cpV cpE
  cases ha : okDec a sa
  · have VA := Lib.hid ha
    clear ha
    simp only [Bool.false_and, Bool.false_eq_true, if_false]
    go_enter Tryd.func20, Tryd.ntmps20
    go_wp2_with fail
    refine (refValid_any _ _ _).mono ?_
    rintro e w1 ⟨rfl, rfl⟩
    rw [VA.out]
    go_wp2_with fail
    go_ret2
    exact ⟨rfl, Below.refl _ _⟩
  · cases hb : okDec b sb
    · have VA := Lib.hid ha
      have VB := Lib.hid hb
      clear ha hb
      simp only [Bool.and_false, Bool.false_eq_true, if_false]
      go_enter Tryd.func20, Tryd.ntmps20
      go_wp2_with fail
      refine (refValid_any _ _ _).mono ?_
      rintro e w1 ⟨rfl, rfl⟩
      rw [VA.out]
      go_wp2_with fail
      refine (refValid_any _ _ _).mono ?_
      rintro e w1 ⟨rfl, rfl⟩
      rw [VB.out]
      go_wp2_with fail
      go_ret2
      exact ⟨rfl, Below.refl _ _⟩
    · have VA := Lib.hid ha
      have VB := Lib.hid hb
      obtain ⟨⟨na1, na2⟩, sa1, sa2⟩ := okDec_iff.1 ha
      obtain ⟨⟨nb1, nb2⟩, sb1, sb2⟩ := okDec_iff.1 hb
      obtain ⟨pa1, pa2⟩ := pw_bd sa1 sa2
      obtain ⟨pb1, pb2⟩ := pw_bd sb1 sb2
      obtain ⟨qa1, qa2⟩ := pw_bd (s := 9 - sa) (by omega) (by omega)
      obtain ⟨qb1, qb2⟩ := pw_bd (s := 9 - sb) (by omega) (by omega)
      obtain ⟨xa1, xa2, xa3, xa4, xa5, xa6, xa7, xa8⟩ := wh_bd ha
      obtain ⟨xb1, xb2, xb3, xb4, xb5, xb6, xb7, xb8⟩ := wh_bd hb
      have fa := rdI_floor (n := a) (d := pw sa) (by omega)
      have fb := rdI_floor (n := b) (d := pw sb) (by omega)
      rw [show a / pw sa = wh a sa from rfl] at fa
      rw [show b / pw sb = wh b sb from rfl] at fb
      clear ha hb
      simp only [Bool.and_true, if_true]
      have era : rs a sa = (a - wh a sa * pw sa) * pw (9 - sa) := rfl
      have erb : rs b sb = (b - wh b sb * pw sb) * pw (9 - sb) := rfl
      rw [era] at xa7 xa8 ⊢
      rw [erb] at xb7 xb8 ⊢
      clear era erb
      have SA := Lib.hid (And.intro sa1 sa2)
      have SB := Lib.hid (And.intro sb1 sb2)
      generalize wh a sa = X at *
      generalize wh b sb = Y at *
      generalize hpa : pw sa = PA' at *
      generalize hpb : pw sb = PB' at *
      generalize hqa : pw (9 - sa) = QA' at *
      generalize hqb : pw (9 - sb) = QB' at *
      have PA := Lib.hid hpa
      have PB := Lib.hid hpb
      have QA := Lib.hid hqa
      have QB := Lib.hid hqb
      have FA := Lib.hid fa
      have FB := Lib.hid fb
      clear fa fb hpa hpb hqa hqb
      refine cmp_cases X ((a - X * PA') * QA') Y ((b - Y * PB') * QB') ?_ ?_ ?_ ?_ ?_
      · intro h e
        rw [e]
        clear e
        have t2 : (X == Y) = false := by rw [beq_eq_false_iff_ne]; omega
        go_enter Tryd.func20, Tryd.ntmps20
        go_wp2_with fail
        refine (refValid_any _ _ _).mono ?_
        rintro e w1 ⟨rfl, rfl⟩
        rw [VA.out]
        go_wp2_with fail
        refine (refValid_any _ _ _).mono ?_
        rintro e w1 ⟨rfl, rfl⟩
        rw [VB.out]
        go_wp2_with fail
        refine (refPower_any _ _ SA.out.1 SA.out.2).mono ?_
        rintro e wx ⟨rfl, rfl⟩
        rw [PA.out]
        go_wp2_with fail
        refine (refQuo_any _ _ _ _ (by omega) (by omega) (by omega) (by omega) (by omega) (by omega) (by omega)).mono ?_
        rintro e wx ⟨rfl, k1, rfl⟩
        rw [FA.out]
        go_wp2_with fail
        refine (refPower_any _ _ SB.out.1 SB.out.2).mono ?_
        rintro e wx ⟨rfl, rfl⟩
        rw [PB.out]
        go_wp2_with fail
        refine (refQuo_any _ _ _ _ (by omega) (by omega) (by omega) (by omega) (by omega) (by omega) (by omega)).mono ?_
        rintro e wx ⟨rfl, k2, rfl⟩
        rw [FB.out]
        go_wp2_with fail
        go_ret2
        exact ⟨rfl, by repeat (first | exact Below.refl _ _ | apply below_drewN)⟩
      · intro h e
        rw [e]
        clear e
        have t1 : decide (X < Y) = false := by rw [decide_eq_false_iff_not]; omega
        have t2 : (X == Y) = false := by rw [beq_eq_false_iff_ne]; omega
        go_enter Tryd.func20, Tryd.ntmps20
        go_wp2_with fail
        refine (refValid_any _ _ _).mono ?_
        rintro e w1 ⟨rfl, rfl⟩
        rw [VA.out]
        go_wp2_with fail
        refine (refValid_any _ _ _).mono ?_
        rintro e w1 ⟨rfl, rfl⟩
        rw [VB.out]
        go_wp2_with fail
        refine (refPower_any _ _ SA.out.1 SA.out.2).mono ?_
        rintro e wx ⟨rfl, rfl⟩
        rw [PA.out]
        go_wp2_with fail
        refine (refQuo_any _ _ _ _ (by omega) (by omega) (by omega) (by omega) (by omega) (by omega) (by omega)).mono ?_
        rintro e wx ⟨rfl, k1, rfl⟩
        rw [FA.out]
        go_wp2_with fail
        refine (refPower_any _ _ SB.out.1 SB.out.2).mono ?_
        rintro e wx ⟨rfl, rfl⟩
        rw [PB.out]
        go_wp2_with fail
        refine (refQuo_any _ _ _ _ (by omega) (by omega) (by omega) (by omega) (by omega) (by omega) (by omega)).mono ?_
        rintro e wx ⟨rfl, k2, rfl⟩
        rw [FB.out]
        go_wp2_with fail
        go_ret2
        exact ⟨rfl, by repeat (first | exact Below.refl _ _ | apply below_drewN)⟩
      · intro h h' e
        rw [e]
        subst h
        clear e
        have t2 : (X == X) = true := by rw [beq_iff_eq]
        go_enter Tryd.func20, Tryd.ntmps20
        go_wp2_with fail
        refine (refValid_any _ _ _).mono ?_
        rintro e w1 ⟨rfl, rfl⟩
        rw [VA.out]
        go_wp2_with fail
        refine (refValid_any _ _ _).mono ?_
        rintro e w1 ⟨rfl, rfl⟩
        rw [VB.out]
        go_wp2_with fail
        refine (refPower_any _ _ SA.out.1 SA.out.2).mono ?_
        rintro e wx ⟨rfl, rfl⟩
        rw [PA.out]
        go_wp2_with fail
        refine (refQuo_any _ _ _ _ (by omega) (by omega) (by omega) (by omega) (by omega) (by omega) (by omega)).mono ?_
        rintro e wx ⟨rfl, k1, rfl⟩
        rw [FA.out]
        go_wp2_with fail
        refine (refPower_any _ _ SB.out.1 SB.out.2).mono ?_
        rintro e wx ⟨rfl, rfl⟩
        rw [PB.out]
        go_wp2_with fail
        refine (refQuo_any _ _ _ _ (by omega) (by omega) (by omega) (by omega) (by omega) (by omega) (by omega)).mono ?_
        rintro e wx ⟨rfl, k2, rfl⟩
        rw [FB.out]
        go_wp2_with fail
        refine (refPower_any _ _ SA.out.1 SA.out.2).mono ?_
        rintro e wx ⟨rfl, rfl⟩
        rw [PA.out]
        go_wp2_with fail
        refine (refPower_any _ _ (by have := SA.out; omega) (by have := SA.out; omega)).mono ?_
        rintro e wx ⟨rfl, rfl⟩
        rw [QA.out]
        go_wp2_with fail
        refine (refPower_any _ _ SB.out.1 SB.out.2).mono ?_
        rintro e wx ⟨rfl, rfl⟩
        rw [PB.out]
        go_wp2_with fail
        refine (refPower_any _ _ (by have := SB.out; omega) (by have := SB.out; omega)).mono ?_
        rintro e wx ⟨rfl, rfl⟩
        rw [QB.out]
        go_wp2_with fail
        go_ret2
        exact ⟨rfl, by repeat (first | exact Below.refl _ _ | apply below_drewN)⟩
      · intro h h' e
        rw [e]
        subst h
        clear e
        have t2 : (X == X) = true := by rw [beq_iff_eq]
        have t3 : decide ((a - X * PA') * QA' < (b - X * PB') * QB') = false := by rw [decide_eq_false_iff_not]; omega
        go_enter Tryd.func20, Tryd.ntmps20
        go_wp2_with fail
        refine (refValid_any _ _ _).mono ?_
        rintro e w1 ⟨rfl, rfl⟩
        rw [VA.out]
        go_wp2_with fail
        refine (refValid_any _ _ _).mono ?_
        rintro e w1 ⟨rfl, rfl⟩
        rw [VB.out]
        go_wp2_with fail
        refine (refPower_any _ _ SA.out.1 SA.out.2).mono ?_
        rintro e wx ⟨rfl, rfl⟩
        rw [PA.out]
        go_wp2_with fail
        refine (refQuo_any _ _ _ _ (by omega) (by omega) (by omega) (by omega) (by omega) (by omega) (by omega)).mono ?_
        rintro e wx ⟨rfl, k1, rfl⟩
        rw [FA.out]
        go_wp2_with fail
        refine (refPower_any _ _ SB.out.1 SB.out.2).mono ?_
        rintro e wx ⟨rfl, rfl⟩
        rw [PB.out]
        go_wp2_with fail
        refine (refQuo_any _ _ _ _ (by omega) (by omega) (by omega) (by omega) (by omega) (by omega) (by omega)).mono ?_
        rintro e wx ⟨rfl, k2, rfl⟩
        rw [FB.out]
        go_wp2_with fail
        refine (refPower_any _ _ SA.out.1 SA.out.2).mono ?_
        rintro e wx ⟨rfl, rfl⟩
        rw [PA.out]
        go_wp2_with fail
        refine (refPower_any _ _ (by have := SA.out; omega) (by have := SA.out; omega)).mono ?_
        rintro e wx ⟨rfl, rfl⟩
        rw [QA.out]
        go_wp2_with fail
        refine (refPower_any _ _ SB.out.1 SB.out.2).mono ?_
        rintro e wx ⟨rfl, rfl⟩
        rw [PB.out]
        go_wp2_with fail
        refine (refPower_any _ _ (by have := SB.out; omega) (by have := SB.out; omega)).mono ?_
        rintro e wx ⟨rfl, rfl⟩
        rw [QB.out]
        go_wp2_with fail
        go_ret2
        exact ⟨rfl, by repeat (first | exact Below.refl _ _ | apply below_drewN)⟩
      · intro h h' e
        rw [e]
        subst h
        clear e
        have t2 : (X == X) = true := by rw [beq_iff_eq]
        have t3 : decide ((a - X * PA') * QA' < (b - X * PB') * QB') = false := by rw [decide_eq_false_iff_not]; omega
        have t4 : decide ((b - X * PB') * QB' < (a - X * PA') * QA') = false := by rw [decide_eq_false_iff_not]; omega
        clear h'
        go_enter Tryd.func20, Tryd.ntmps20
        go_wp2_with fail
        refine (refValid_any _ _ _).mono ?_
        rintro e w1 ⟨rfl, rfl⟩
        rw [VA.out]
        go_wp2_with fail
        refine (refValid_any _ _ _).mono ?_
        rintro e w1 ⟨rfl, rfl⟩
        rw [VB.out]
        go_wp2_with fail
        refine (refPower_any _ _ SA.out.1 SA.out.2).mono ?_
        rintro e wx ⟨rfl, rfl⟩
        rw [PA.out]
        go_wp2_with fail
        refine (refQuo_any _ _ _ _ (by omega) (by omega) (by omega) (by omega) (by omega) (by omega) (by omega)).mono ?_
        rintro e wx ⟨rfl, k1, rfl⟩
        rw [FA.out]
        go_wp2_with fail
        refine (refPower_any _ _ SB.out.1 SB.out.2).mono ?_
        rintro e wx ⟨rfl, rfl⟩
        rw [PB.out]
        go_wp2_with fail
        refine (refQuo_any _ _ _ _ (by omega) (by omega) (by omega) (by omega) (by omega) (by omega) (by omega)).mono ?_
        rintro e wx ⟨rfl, k2, rfl⟩
        rw [FB.out]
        go_wp2_with fail
        refine (refPower_any _ _ SA.out.1 SA.out.2).mono ?_
        rintro e wx ⟨rfl, rfl⟩
        rw [PA.out]
        go_wp2_with fail
        refine (refPower_any _ _ (by have := SA.out; omega) (by have := SA.out; omega)).mono ?_
        rintro e wx ⟨rfl, rfl⟩
        rw [QA.out]
        go_wp2_with fail
        refine (refPower_any _ _ SB.out.1 SB.out.2).mono ?_
        rintro e wx ⟨rfl, rfl⟩
        rw [PB.out]
        go_wp2_with fail
        refine (refPower_any _ _ (by have := SB.out; omega) (by have := SB.out; omega)).mono ?_
        rintro e wx ⟨rfl, rfl⟩
        rw [QB.out]
        go_wp2_with fail
        go_ret2
        exact ⟨rfl, by repeat (first | exact Below.refl _ _ | apply below_drewN)⟩
end Go.Proofs.YtklpeibmjiolhaaDoor
