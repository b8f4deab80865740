/-
  The two Texts, and awake.
-/
import Derived.Test.YtklpeibmjiolhaaDoorDecW5
import Derived.Test.YtklpeibmjiolhaaDoorRefDig03
namespace Go.Proofs.YtklpeibmjiolhaaDoor
open Go.RowKit
set_option linter.unusedVariables false
def pwN (s : Int) : Nat := 10 ^ s.toNat
def dtB (m : Nat) (s : Int) : List UInt8 := Lib.decDigits (m / pwN s) ++ (if 0 < s then 46 :: (Lib.decDigits (pwN s + m % pwN s)).drop 1 else [])
/-- the text of a decimal number -/
def dt (n s : Int) : List UInt8 := if okDec n s then (if n < 0 then 45 :: dtB n.natAbs s else dtB n.natAbs s) else []
theorem pw_nat {s : Int} : pw s = (pwN s : Int) := rfl
theorem dt_bad {n s : Int} (h : okDec n s = false) : dt n s = [] := by unfold dt; rw [h]; rfl
theorem dt_neg0 {m : Nat} {s : Int} (h : okDec (-(m : Int)) s = true) (hm : 0 < m) (hs : s ≤ 0) : dt (-(m : Int)) s = 45 :: Lib.decDigits (m / pwN s) := by
  unfold dt dtB; rw [h, if_pos rfl, if_pos (by omega), if_neg (by omega)]; simp
theorem dt_pos0 {m : Nat} {s : Int} (h : okDec (m : Int) s = true) (hs : s ≤ 0) : dt (m : Int) s = Lib.decDigits (m / pwN s) := by
  unfold dt dtB; rw [h, if_pos rfl, if_neg (by omega), if_neg (by omega)]; simp
theorem dt_neg1 {m : Nat} {s : Int} (h : okDec (-(m : Int)) s = true) (hm : 0 < m) (hs : 0 < s) : dt (-(m : Int)) s = 45 :: (Lib.decDigits (m / pwN s) ++ 46 :: (Lib.decDigits (pwN s + m % pwN s)).drop 1) := by
  unfold dt dtB; rw [h, if_pos rfl, if_pos (by omega), if_pos hs]; simp
theorem dt_pos1 {m : Nat} {s : Int} (h : okDec (m : Int) s = true) (hs : 0 < s) : dt (m : Int) s = Lib.decDigits (m / pwN s) ++ 46 :: (Lib.decDigits (pwN s + m % pwN s)).drop 1 := by
  unfold dt dtB; rw [h, if_pos rfl, if_neg (by omega), if_pos hs]; simp
set_option maxHeartbeats 1000000 in
theorem text_any (n s : Int) (w : World) (hE : Env w) : Calls Tryd.prog 22 #[.int .i64 n, .int .i64 s] w fun e w' => e = .returned (.string ⟨(dt n s).toArray⟩) ∧ Below w.heap.size w w' := by
  cases hv : okDec n s
  · rw [dt_bad hv]
    have V := Lib.hid hv
    clear hv
    go_enter Tryd.func22, Tryd.ntmps22
    go_wp2_with fail
    refine (valid_any _ _ _).mono ?_
    rintro e w' ⟨rfl, rfl⟩
    rw [V.out]
    go_wp2_with fail
    go_ret
    exact ⟨rfl, Below.refl _ _⟩
  by_cases hn : n < 0
  · obtain ⟨m, hm⟩ : ∃ m : Nat, n = -(m : Int) := ⟨n.natAbs, by omega⟩
    subst hm
    have hm0 : 0 < m := by omega
    have M := Lib.hid hm0
    obtain ⟨⟨n1, n2⟩, s1, s2⟩ := okDec_iff.1 hv
    obtain ⟨u1, u2⟩ := pw_bd s1 s2
    rw [pw_nat] at u1 u2
    have V := Lib.hid hv
    have PU := Lib.hid (pw_nat (s := s))
    clear hv hn
    by_cases hs : 0 < s
    · have S := Lib.hid hs
      have T := Lib.hid (dt_neg1 V.out M.out S.out)
      generalize pwN s = U at *
      have e1 : (m : Int) / (U : Int) = ((m / U : Nat) : Int) := rfl
      have e2 : (U : Int) + (m : Int) % (U : Int) = ((U + m % U : Nat) : Int) := rfl
      have b1 : m / U ≤ m := Nat.div_le_self _ _
      have b2 : m % U < U := Nat.mod_lt _ (by omega)
      have l1 := dec_len_le (m := m / U) (by omega)
      have l2 := dec_len_le (m := U + m % U) (by omega)
      have l3 := dec_len_pos (U + m % U)
      have b3 : 0 ≤ (m : Int) % (U : Int) := Int.emod_nonneg _ (by omega)
      have b4 : (m : Int) % (U : Int) < U := Int.emod_lt_of_pos _ (by omega)
      have b5 : 0 ≤ (m : Int) / (U : Int) := Int.ediv_nonneg (by omega) (by omega)
      have b6 : (m : Int) / (U : Int) ≤ m := Int.ediv_le_self _ (by omega)
      have E1 := Lib.hid e1
      have E2 := Lib.hid e2
      have B1 := Lib.hid (show m / U ≤ 1000000000000000 by omega)
      have B2 := Lib.hid (show U + m % U ≤ 1000000000000000 by omega)
      clear e1 e2 b1 b2
      generalize hd1 : Lib.decDigits (m / U) = d1 at *
      generalize hd2 : Lib.decDigits (U + m % U) = d2 at *
      have D1 := Lib.hid hd1
      have D2 := Lib.hid hd2
      clear hd1 hd2
      go_enter Tryd.func22, Tryd.ntmps22
      go_wp2_with fail
      refine (valid_any _ _ _).mono ?_
      rintro e w' ⟨rfl, rfl⟩
      rw [V.out]
      go_wp2_with fail
      refine (power_any _ _ (by omega) (by omega)).mono ?_
      rintro e w' ⟨rfl, rfl⟩
      rw [PU.out]
      go_wp2_with fail
      refine (itoa_nat _ (m / U) _ (by rw [← E1.out]) (by have := B1.out; omega) hE).mono ?_
      rintro e w1 ⟨rfl, hb1⟩
      rw [D1.out]
      go_wp2_with fail
      refine (itoa_nat _ (U + m % U) _ (by rw [← E2.out]) (by have := B2.out; omega) (hE.after hb1)).mono ?_
      rintro e w2 ⟨rfl, hb2⟩
      rw [D2.out]
      go_wp2_with fail
      go_ret
      refine ⟨ret_str' ?_, by repeat (first | exact below_two hb1 hb2 | apply below_drewN | exact below_two (by repeat (first | exact hb1 | apply below_drewN)) (by assumption))⟩
      rw [T.out]
      simp only [ex_mk, cat_mk]
      exact mk_congr (by simp)
    · have S := Lib.hid (show s ≤ 0 by omega)
      have T := Lib.hid (dt_neg0 V.out M.out S.out)
      generalize pwN s = U at *
      have e1 : (m : Int) / (U : Int) = ((m / U : Nat) : Int) := rfl
      have e2 : (U : Int) + (m : Int) % (U : Int) = ((U + m % U : Nat) : Int) := rfl
      have b1 : m / U ≤ m := Nat.div_le_self _ _
      have b2 : m % U < U := Nat.mod_lt _ (by omega)
      have l1 := dec_len_le (m := m / U) (by omega)
      have l2 := dec_len_le (m := U + m % U) (by omega)
      have l3 := dec_len_pos (U + m % U)
      have b3 : 0 ≤ (m : Int) % (U : Int) := Int.emod_nonneg _ (by omega)
      have b4 : (m : Int) % (U : Int) < U := Int.emod_lt_of_pos _ (by omega)
      have b5 : 0 ≤ (m : Int) / (U : Int) := Int.ediv_nonneg (by omega) (by omega)
      have b6 : (m : Int) / (U : Int) ≤ m := Int.ediv_le_self _ (by omega)
      have E1 := Lib.hid e1
      have E2 := Lib.hid e2
      have B1 := Lib.hid (show m / U ≤ 1000000000000000 by omega)
      have B2 := Lib.hid (show U + m % U ≤ 1000000000000000 by omega)
      clear e1 e2 b1 b2
      generalize hd1 : Lib.decDigits (m / U) = d1 at *
      generalize hd2 : Lib.decDigits (U + m % U) = d2 at *
      have D1 := Lib.hid hd1
      have D2 := Lib.hid hd2
      clear hd1 hd2
      obtain rfl : s = 0 := by omega
      clear hs
      go_enter Tryd.func22, Tryd.ntmps22
      go_wp2_with fail
      refine (valid_any _ _ _).mono ?_
      rintro e w' ⟨rfl, rfl⟩
      rw [V.out]
      go_wp2_with fail
      refine (power_any _ _ (by omega) (by omega)).mono ?_
      rintro e w' ⟨rfl, rfl⟩
      rw [PU.out]
      go_wp2_with fail
      refine (itoa_nat _ (m / U) _ (by rw [← E1.out]) (by have := B1.out; omega) hE).mono ?_
      rintro e w1 ⟨rfl, hb1⟩
      rw [D1.out]
      go_wp2_with fail
      go_ret
      refine ⟨ret_str' ?_, by repeat (first | exact hb1 | apply below_drewN | exact below_two (by repeat (first | exact hb1 | apply below_drewN)) (by assumption))⟩
      rw [T.out]
      simp only [cat_mk]
      exact mk_congr (by simp)
  · obtain ⟨m, hm⟩ : ∃ m : Nat, n = (m : Int) := ⟨n.natAbs, by omega⟩
    subst hm
    obtain ⟨⟨n1, n2⟩, s1, s2⟩ := okDec_iff.1 hv
    obtain ⟨u1, u2⟩ := pw_bd s1 s2
    rw [pw_nat] at u1 u2
    have V := Lib.hid hv
    have PU := Lib.hid (pw_nat (s := s))
    clear hv hn
    by_cases hs : 0 < s
    · have S := Lib.hid hs
      have T := Lib.hid (dt_pos1 V.out S.out)
      generalize pwN s = U at *
      have e1 : (m : Int) / (U : Int) = ((m / U : Nat) : Int) := rfl
      have e2 : (U : Int) + (m : Int) % (U : Int) = ((U + m % U : Nat) : Int) := rfl
      have b1 : m / U ≤ m := Nat.div_le_self _ _
      have b2 : m % U < U := Nat.mod_lt _ (by omega)
      have l1 := dec_len_le (m := m / U) (by omega)
      have l2 := dec_len_le (m := U + m % U) (by omega)
      have l3 := dec_len_pos (U + m % U)
      have b3 : 0 ≤ (m : Int) % (U : Int) := Int.emod_nonneg _ (by omega)
      have b4 : (m : Int) % (U : Int) < U := Int.emod_lt_of_pos _ (by omega)
      have b5 : 0 ≤ (m : Int) / (U : Int) := Int.ediv_nonneg (by omega) (by omega)
      have b6 : (m : Int) / (U : Int) ≤ m := Int.ediv_le_self _ (by omega)
      have E1 := Lib.hid e1
      have E2 := Lib.hid e2
      have B1 := Lib.hid (show m / U ≤ 1000000000000000 by omega)
      have B2 := Lib.hid (show U + m % U ≤ 1000000000000000 by omega)
      clear e1 e2 b1 b2
      generalize hd1 : Lib.decDigits (m / U) = d1 at *
      generalize hd2 : Lib.decDigits (U + m % U) = d2 at *
      have D1 := Lib.hid hd1
      have D2 := Lib.hid hd2
      clear hd1 hd2
      go_enter Tryd.func22, Tryd.ntmps22
      go_wp2_with fail
      refine (valid_any _ _ _).mono ?_
      rintro e w' ⟨rfl, rfl⟩
      rw [V.out]
      go_wp2_with fail
      refine (power_any _ _ (by omega) (by omega)).mono ?_
      rintro e w' ⟨rfl, rfl⟩
      rw [PU.out]
      go_wp2_with fail
      refine (itoa_nat _ (m / U) _ (by rw [← E1.out]) (by have := B1.out; omega) hE).mono ?_
      rintro e w1 ⟨rfl, hb1⟩
      rw [D1.out]
      go_wp2_with fail
      refine (itoa_nat _ (U + m % U) _ (by rw [← E2.out]) (by have := B2.out; omega) (hE.after hb1)).mono ?_
      rintro e w2 ⟨rfl, hb2⟩
      rw [D2.out]
      go_wp2_with fail
      go_ret
      refine ⟨ret_str' ?_, by repeat (first | exact below_two hb1 hb2 | apply below_drewN | exact below_two (by repeat (first | exact hb1 | apply below_drewN)) (by assumption))⟩
      rw [T.out]
      simp only [ex_mk, cat_mk]
      exact mk_congr (by simp)
    · have S := Lib.hid (show s ≤ 0 by omega)
      have T := Lib.hid (dt_pos0 V.out S.out)
      generalize pwN s = U at *
      have e1 : (m : Int) / (U : Int) = ((m / U : Nat) : Int) := rfl
      have e2 : (U : Int) + (m : Int) % (U : Int) = ((U + m % U : Nat) : Int) := rfl
      have b1 : m / U ≤ m := Nat.div_le_self _ _
      have b2 : m % U < U := Nat.mod_lt _ (by omega)
      have l1 := dec_len_le (m := m / U) (by omega)
      have l2 := dec_len_le (m := U + m % U) (by omega)
      have l3 := dec_len_pos (U + m % U)
      have b3 : 0 ≤ (m : Int) % (U : Int) := Int.emod_nonneg _ (by omega)
      have b4 : (m : Int) % (U : Int) < U := Int.emod_lt_of_pos _ (by omega)
      have b5 : 0 ≤ (m : Int) / (U : Int) := Int.ediv_nonneg (by omega) (by omega)
      have b6 : (m : Int) / (U : Int) ≤ m := Int.ediv_le_self _ (by omega)
      have E1 := Lib.hid e1
      have E2 := Lib.hid e2
      have B1 := Lib.hid (show m / U ≤ 1000000000000000 by omega)
      have B2 := Lib.hid (show U + m % U ≤ 1000000000000000 by omega)
      clear e1 e2 b1 b2
      generalize hd1 : Lib.decDigits (m / U) = d1 at *
      generalize hd2 : Lib.decDigits (U + m % U) = d2 at *
      have D1 := Lib.hid hd1
      have D2 := Lib.hid hd2
      clear hd1 hd2
      obtain rfl : s = 0 := by omega
      clear hs
      go_enter Tryd.func22, Tryd.ntmps22
      go_wp2_with fail
      refine (valid_any _ _ _).mono ?_
      rintro e w' ⟨rfl, rfl⟩
      rw [V.out]
      go_wp2_with fail
      refine (power_any _ _ (by omega) (by omega)).mono ?_
      rintro e w' ⟨rfl, rfl⟩
      rw [PU.out]
      go_wp2_with fail
      refine (itoa_nat _ (m / U) _ (by rw [← E1.out]) (by have := B1.out; omega) hE).mono ?_
      rintro e w1 ⟨rfl, hb1⟩
      rw [D1.out]
      go_wp2_with fail
      go_ret
      refine ⟨ret_str' ?_, by repeat (first | exact hb1 | apply below_drewN | exact below_two (by repeat (first | exact hb1 | apply below_drewN)) (by assumption))⟩
      rw [T.out]
      simp only [cat_mk]
      exact mk_congr (by simp)
set_option maxHeartbeats 1000000 in
theorem refText_any (n s : Int) (w : World) : Calls Tryd.prog 25 #[.int .i64 n, .int .i64 s] w fun e w' => e = .returned (.string ⟨(dt n s).toArray⟩) ∧ Below w.heap.size w w' := by
  cases hv : okDec n s
  · rw [dt_bad hv]
    have V := Lib.hid hv
    clear hv
    go_enter Tryd.func25, Tryd.ntmps25
    go_wp2_with fail
    refine (refValid_any _ _ _).mono ?_
    rintro e w' ⟨rfl, rfl⟩
    rw [V.out]
    go_wp2_with fail
    go_ret
    exact ⟨rfl, Below.refl _ _⟩
  by_cases hn : n < 0
  · obtain ⟨m, hm⟩ : ∃ m : Nat, n = -(m : Int) := ⟨n.natAbs, by omega⟩
    subst hm
    have hm0 : 0 < m := by omega
    have M := Lib.hid hm0
    have AB := Lib.hid (show absI (-(m : Int)) = m by unfold absI; rw [if_pos (by omega)]; omega)
    obtain ⟨⟨n1, n2⟩, s1, s2⟩ := okDec_iff.1 hv
    obtain ⟨u1, u2⟩ := pw_bd s1 s2
    rw [pw_nat] at u1 u2
    have V := Lib.hid hv
    have PU := Lib.hid (pw_nat (s := s))
    clear hv hn
    by_cases hs : 0 < s
    · have S := Lib.hid hs
      have T := Lib.hid (dt_neg1 V.out M.out S.out)
      generalize pwN s = U at *
      have e1 : (m : Int) / (U : Int) = ((m / U : Nat) : Int) := rfl
      have e2 : (U : Int) + (m : Int) % (U : Int) = ((U + m % U : Nat) : Int) := rfl
      have b1 : m / U ≤ m := Nat.div_le_self _ _
      have b2 : m % U < U := Nat.mod_lt _ (by omega)
      have l1 := dec_len_le (m := m / U) (by omega)
      have l2 := dec_len_le (m := U + m % U) (by omega)
      have l3 := dec_len_pos (U + m % U)
      have b3 : 0 ≤ (m : Int) % (U : Int) := Int.emod_nonneg _ (by omega)
      have b4 : (m : Int) % (U : Int) < U := Int.emod_lt_of_pos _ (by omega)
      have b5 : 0 ≤ (m : Int) / (U : Int) := Int.ediv_nonneg (by omega) (by omega)
      have b6 : (m : Int) / (U : Int) ≤ m := Int.ediv_le_self _ (by omega)
      have E1 := Lib.hid e1
      have E2 := Lib.hid e2
      have B1 := Lib.hid (show m / U ≤ 1000000000000000 by omega)
      have B2 := Lib.hid (show U + m % U ≤ 1000000000000000 by omega)
      clear e1 e2 b1 b2
      generalize hd1 : Lib.decDigits (m / U) = d1 at *
      generalize hd2 : Lib.decDigits (U + m % U) = d2 at *
      have D1 := Lib.hid hd1
      have D2 := Lib.hid hd2
      clear hd1 hd2
      go_enter Tryd.func25, Tryd.ntmps25
      go_wp2_with fail
      refine (refValid_any _ _ _).mono ?_
      rintro e w' ⟨rfl, rfl⟩
      rw [V.out]
      go_wp2_with fail
      refine (refSize_any _ _ (by omega) (by omega)).mono ?_
      rintro e w' ⟨rfl, rfl⟩
      rw [AB.out]
      go_wp2_with fail
      refine (refPower_any _ _ (by omega) (by omega)).mono ?_
      rintro e w' ⟨rfl, rfl⟩
      rw [PU.out]
      go_wp2_with fail
      refine (refDigits_int _ (m / U) _ (by rw [← E1.out]) (by have := B1.out; omega)).mono ?_
      rintro e w1 ⟨rfl, hb1⟩
      rw [D1.out]
      go_wp2_with fail
      refine (refPower_any _ _ (by omega) (by omega)).mono ?_
      rintro e w' ⟨rfl, rfl⟩
      rw [PU.out]
      go_wp2_with fail
      refine (refSize_any _ _ (by omega) (by omega)).mono ?_
      rintro e w' ⟨rfl, rfl⟩
      rw [AB.out]
      go_wp2_with fail
      refine (refPower_any _ _ (by omega) (by omega)).mono ?_
      rintro e w' ⟨rfl, rfl⟩
      rw [PU.out]
      go_wp2_with fail
      refine (refDigits_int _ (U + m % U) _ (by rw [← E2.out]) (by have := B2.out; omega)).mono ?_
      rintro e w2 ⟨rfl, hb2⟩
      rw [D2.out]
      go_wp2_with fail
      go_ret
      refine ⟨ret_str' ?_, by repeat (first | exact below_two hb1 hb2 | apply below_drewN | exact below_two (by repeat (first | exact hb1 | apply below_drewN)) (by assumption))⟩
      rw [T.out]
      simp only [ex_mk, cat_mk]
      exact mk_congr (by simp)
    · have S := Lib.hid (show s ≤ 0 by omega)
      have T := Lib.hid (dt_neg0 V.out M.out S.out)
      generalize pwN s = U at *
      have e1 : (m : Int) / (U : Int) = ((m / U : Nat) : Int) := rfl
      have e2 : (U : Int) + (m : Int) % (U : Int) = ((U + m % U : Nat) : Int) := rfl
      have b1 : m / U ≤ m := Nat.div_le_self _ _
      have b2 : m % U < U := Nat.mod_lt _ (by omega)
      have l1 := dec_len_le (m := m / U) (by omega)
      have l2 := dec_len_le (m := U + m % U) (by omega)
      have l3 := dec_len_pos (U + m % U)
      have b3 : 0 ≤ (m : Int) % (U : Int) := Int.emod_nonneg _ (by omega)
      have b4 : (m : Int) % (U : Int) < U := Int.emod_lt_of_pos _ (by omega)
      have b5 : 0 ≤ (m : Int) / (U : Int) := Int.ediv_nonneg (by omega) (by omega)
      have b6 : (m : Int) / (U : Int) ≤ m := Int.ediv_le_self _ (by omega)
      have E1 := Lib.hid e1
      have E2 := Lib.hid e2
      have B1 := Lib.hid (show m / U ≤ 1000000000000000 by omega)
      have B2 := Lib.hid (show U + m % U ≤ 1000000000000000 by omega)
      clear e1 e2 b1 b2
      generalize hd1 : Lib.decDigits (m / U) = d1 at *
      generalize hd2 : Lib.decDigits (U + m % U) = d2 at *
      have D1 := Lib.hid hd1
      have D2 := Lib.hid hd2
      clear hd1 hd2
      obtain rfl : s = 0 := by omega
      clear hs
      go_enter Tryd.func25, Tryd.ntmps25
      go_wp2_with fail
      refine (refValid_any _ _ _).mono ?_
      rintro e w' ⟨rfl, rfl⟩
      rw [V.out]
      go_wp2_with fail
      refine (refSize_any _ _ (by omega) (by omega)).mono ?_
      rintro e w' ⟨rfl, rfl⟩
      rw [AB.out]
      go_wp2_with fail
      refine (refPower_any _ _ (by omega) (by omega)).mono ?_
      rintro e w' ⟨rfl, rfl⟩
      rw [PU.out]
      go_wp2_with fail
      refine (refDigits_int _ (m / U) _ (by rw [← E1.out]) (by have := B1.out; omega)).mono ?_
      rintro e w1 ⟨rfl, hb1⟩
      rw [D1.out]
      go_wp2_with fail
      go_ret
      refine ⟨ret_str' ?_, by repeat (first | exact hb1 | apply below_drewN | exact below_two (by repeat (first | exact hb1 | apply below_drewN)) (by assumption))⟩
      rw [T.out]
      simp only [cat_mk]
      exact mk_congr (by simp)
  · obtain ⟨m, hm⟩ : ∃ m : Nat, n = (m : Int) := ⟨n.natAbs, by omega⟩
    subst hm
    have AB := Lib.hid (show absI (m : Int) = m by unfold absI; rw [if_neg (by omega)])
    obtain ⟨⟨n1, n2⟩, s1, s2⟩ := okDec_iff.1 hv
    obtain ⟨u1, u2⟩ := pw_bd s1 s2
    rw [pw_nat] at u1 u2
    have V := Lib.hid hv
    have PU := Lib.hid (pw_nat (s := s))
    clear hv hn
    by_cases hs : 0 < s
    · have S := Lib.hid hs
      have T := Lib.hid (dt_pos1 V.out S.out)
      generalize pwN s = U at *
      have e1 : (m : Int) / (U : Int) = ((m / U : Nat) : Int) := rfl
      have e2 : (U : Int) + (m : Int) % (U : Int) = ((U + m % U : Nat) : Int) := rfl
      have b1 : m / U ≤ m := Nat.div_le_self _ _
      have b2 : m % U < U := Nat.mod_lt _ (by omega)
      have l1 := dec_len_le (m := m / U) (by omega)
      have l2 := dec_len_le (m := U + m % U) (by omega)
      have l3 := dec_len_pos (U + m % U)
      have b3 : 0 ≤ (m : Int) % (U : Int) := Int.emod_nonneg _ (by omega)
      have b4 : (m : Int) % (U : Int) < U := Int.emod_lt_of_pos _ (by omega)
      have b5 : 0 ≤ (m : Int) / (U : Int) := Int.ediv_nonneg (by omega) (by omega)
      have b6 : (m : Int) / (U : Int) ≤ m := Int.ediv_le_self _ (by omega)
      have E1 := Lib.hid e1
      have E2 := Lib.hid e2
      have B1 := Lib.hid (show m / U ≤ 1000000000000000 by omega)
      have B2 := Lib.hid (show U + m % U ≤ 1000000000000000 by omega)
      clear e1 e2 b1 b2
      generalize hd1 : Lib.decDigits (m / U) = d1 at *
      generalize hd2 : Lib.decDigits (U + m % U) = d2 at *
      have D1 := Lib.hid hd1
      have D2 := Lib.hid hd2
      clear hd1 hd2
      go_enter Tryd.func25, Tryd.ntmps25
      go_wp2_with fail
      refine (refValid_any _ _ _).mono ?_
      rintro e w' ⟨rfl, rfl⟩
      rw [V.out]
      go_wp2_with fail
      refine (refSize_any _ _ (by omega) (by omega)).mono ?_
      rintro e w' ⟨rfl, rfl⟩
      rw [AB.out]
      go_wp2_with fail
      refine (refPower_any _ _ (by omega) (by omega)).mono ?_
      rintro e w' ⟨rfl, rfl⟩
      rw [PU.out]
      go_wp2_with fail
      refine (refDigits_int _ (m / U) _ (by rw [← E1.out]) (by have := B1.out; omega)).mono ?_
      rintro e w1 ⟨rfl, hb1⟩
      rw [D1.out]
      go_wp2_with fail
      refine (refPower_any _ _ (by omega) (by omega)).mono ?_
      rintro e w' ⟨rfl, rfl⟩
      rw [PU.out]
      go_wp2_with fail
      refine (refSize_any _ _ (by omega) (by omega)).mono ?_
      rintro e w' ⟨rfl, rfl⟩
      rw [AB.out]
      go_wp2_with fail
      refine (refPower_any _ _ (by omega) (by omega)).mono ?_
      rintro e w' ⟨rfl, rfl⟩
      rw [PU.out]
      go_wp2_with fail
      refine (refDigits_int _ (U + m % U) _ (by rw [← E2.out]) (by have := B2.out; omega)).mono ?_
      rintro e w2 ⟨rfl, hb2⟩
      rw [D2.out]
      go_wp2_with fail
      go_ret
      refine ⟨ret_str' ?_, by repeat (first | exact below_two hb1 hb2 | apply below_drewN | exact below_two (by repeat (first | exact hb1 | apply below_drewN)) (by assumption))⟩
      rw [T.out]
      simp only [ex_mk, cat_mk]
      exact mk_congr (by simp)
    · have S := Lib.hid (show s ≤ 0 by omega)
      have T := Lib.hid (dt_pos0 V.out S.out)
      generalize pwN s = U at *
      have e1 : (m : Int) / (U : Int) = ((m / U : Nat) : Int) := rfl
      have e2 : (U : Int) + (m : Int) % (U : Int) = ((U + m % U : Nat) : Int) := rfl
      have b1 : m / U ≤ m := Nat.div_le_self _ _
      have b2 : m % U < U := Nat.mod_lt _ (by omega)
      have l1 := dec_len_le (m := m / U) (by omega)
      have l2 := dec_len_le (m := U + m % U) (by omega)
      have l3 := dec_len_pos (U + m % U)
      have b3 : 0 ≤ (m : Int) % (U : Int) := Int.emod_nonneg _ (by omega)
      have b4 : (m : Int) % (U : Int) < U := Int.emod_lt_of_pos _ (by omega)
      have b5 : 0 ≤ (m : Int) / (U : Int) := Int.ediv_nonneg (by omega) (by omega)
      have b6 : (m : Int) / (U : Int) ≤ m := Int.ediv_le_self _ (by omega)
      have E1 := Lib.hid e1
      have E2 := Lib.hid e2
      have B1 := Lib.hid (show m / U ≤ 1000000000000000 by omega)
      have B2 := Lib.hid (show U + m % U ≤ 1000000000000000 by omega)
      clear e1 e2 b1 b2
      generalize hd1 : Lib.decDigits (m / U) = d1 at *
      generalize hd2 : Lib.decDigits (U + m % U) = d2 at *
      have D1 := Lib.hid hd1
      have D2 := Lib.hid hd2
      clear hd1 hd2
      obtain rfl : s = 0 := by omega
      clear hs
      go_enter Tryd.func25, Tryd.ntmps25
      go_wp2_with fail
      refine (refValid_any _ _ _).mono ?_
      rintro e w' ⟨rfl, rfl⟩
      rw [V.out]
      go_wp2_with fail
      refine (refSize_any _ _ (by omega) (by omega)).mono ?_
      rintro e w' ⟨rfl, rfl⟩
      rw [AB.out]
      go_wp2_with fail
      refine (refPower_any _ _ (by omega) (by omega)).mono ?_
      rintro e w' ⟨rfl, rfl⟩
      rw [PU.out]
      go_wp2_with fail
      refine (refDigits_int _ (m / U) _ (by rw [← E1.out]) (by have := B1.out; omega)).mono ?_
      rintro e w1 ⟨rfl, hb1⟩
      rw [D1.out]
      go_wp2_with fail
      go_ret
      refine ⟨ret_str' ?_, by repeat (first | exact hb1 | apply below_drewN | exact below_two (by repeat (first | exact hb1 | apply below_drewN)) (by assumption))⟩
      rw [T.out]
theorem awake_true (w : World) (hE : Env w) : Calls Tryd.prog 12 #[] w fun e w' => e = .returned (.bool true) ∧ Below w.heap.size w w' := by
  have e1 : rdV (-5) 2 0 = -3 := by decide +kernel
  have e2 : rdE (-5) 2 0 = 0 := by decide +kernel
  have e3 : dt (-1234) 2 = [45, 49, 50, 46, 51, 52] := by decide +kernel
  have X1 := Lib.hid e1
  have X2 := Lib.hid e2
  have X3 := Lib.hid e3
  clear e1 e2 e3
  go_enter Tryd.func12, Tryd.ntmps12
  go_wp2_with fail
  refine (Round_any _ _ _ _).mono ?_
  rintro e w1 ⟨rfl, hb1⟩
  rw [X1.out, X2.out]
  go_wp2_with fail
  refine (text_any _ _ _ (hE.after hb1)).mono ?_
  rintro e w2 ⟨rfl, hb2⟩
  rw [X3.out]
  go_wp2_with fail
  go_ret
  exact ⟨rfl, below_two hb1 hb2⟩
end Go.Proofs.YtklpeibmjiolhaaDoor
