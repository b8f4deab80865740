/-
  The two Rescales.
-/
import Derived.Test.YtklpeibmjiolhaaDoorDecW9
namespace Go.Proofs.YtklpeibmjiolhaaDoor
open Go.RowKit
set_option linter.unusedVariables false
theorem okNo_false {n : Int} (h : ¬(-1000000000000000 ≤ n ∧ n ≤ 1000000000000000)) : okNo n = false := by
  cases h' : okNo n with
  | false => rfl
  | true => exact absurd (okNo_iff.1 h') h
theorem okNo_not {n : Int} (h : okNo n = false) : ¬(-1000000000000000 ≤ n ∧ n ≤ 1000000000000000) := by
  intro h'
  rw [okNo_iff.2 h'] at h
  cases h
/-- with k more digits -/
def scd (n : Int) (k : Nat) : Int := n * ((10 ^ k : Nat) : Int)
theorem scd_zero (n : Int) : scd n 0 = n := by unfold scd; simp
theorem scd_succ (n : Int) (k : Nat) : scd n k * 10 = scd n (k + 1) := by
  unfold scd
  rw [Int.mul_assoc, ← pow_succ10 k]
  rfl
theorem scd_pw {n d : Int} {D : Nat} (h : d = D) : n * pw d = scd n D := by
  subst h
  rfl
theorem scd_down (n : Int) (k : Nat) : ∀ j : Nat, (-1000000000000000 ≤ scd n (k + j) ∧ scd n (k + j) ≤ 1000000000000000) → (-1000000000000000 ≤ scd n k ∧ scd n k ≤ 1000000000000000)
  | 0, h => h
  | j + 1, h => scd_down n k j (by have := scd_succ n (k + j); rw [← Nat.add_assoc] at h; omega)
theorem abs_mul_le {n P : Int} (h0 : 0 ≤ P) (h : okNo (n * P) = true) : absI n * P ≤ 1000000000000000 := by
  obtain ⟨h1, h2⟩ := okNo_iff.1 h
  unfold absI
  split
  · have : -n * P = -(n * P) := Int.neg_mul _ _
    omega
  · exact h2
theorem abs_mul_gt {n P : Int} (h0 : 0 ≤ P) (h : okNo (n * P) = false) : 1000000000000000 < absI n * P := by
  have hn := okNo_not h
  unfold absI
  split
  · have e : -n * P = -(n * P) := Int.neg_mul _ _
    have : 0 ≤ -n * P := Int.mul_nonneg (by omega) h0
    omega
  · have : 0 ≤ n * P := Int.mul_nonneg (by omega) h0
    omega
/-- the error of Rescale, and its number -/
def rsE (n f t m : Int) : Int := if okMode m && okSc t then (if okDec n f then (if t < f then 0 else if okNo (n * pw (t - f)) then 0 else 2) else 2) else 1
def rsV (n f t m : Int) : Int := if rsE n f t m = 0 then (if t < f then rdI n (pw (f - t)) m else n * pw (t - f)) else 0
theorem rs_arg {n f t m : Int} (h : (okMode m && okSc t) = false) : rsE n f t m = 1 ∧ rsV n f t m = 0 := by
  have : rsE n f t m = 1 := by unfold rsE; rw [h]; rfl
  exact ⟨this, by unfold rsV; rw [this]; rfl⟩
theorem rs_bad {n f t m : Int} (h : (okMode m && okSc t) = true) (hd : okDec n f = false) : rsE n f t m = 2 ∧ rsV n f t m = 0 := by
  have : rsE n f t m = 2 := by unfold rsE; rw [h, hd]; rfl
  exact ⟨this, by unfold rsV; rw [this]; rfl⟩
theorem rs_less {n f t m : Int} (h : (okMode m && okSc t) = true) (hd : okDec n f = true) (hl : t < f) : rsE n f t m = 0 ∧ rsV n f t m = rdI n (pw (f - t)) m := by
  have : rsE n f t m = 0 := by unfold rsE; rw [h, hd, if_pos hl]; rfl
  exact ⟨this, by unfold rsV; rw [if_pos this, if_pos hl]⟩
theorem rs_more {n f t m : Int} (h : (okMode m && okSc t) = true) (hd : okDec n f = true) (hl : ¬ t < f) (hn : okNo (n * pw (t - f)) = true) : rsE n f t m = 0 ∧ rsV n f t m = n * pw (t - f) := by
  have : rsE n f t m = 0 := by unfold rsE; rw [h, hd, if_neg hl, hn]; rfl
  exact ⟨this, by unfold rsV; rw [if_pos this, if_neg hl]⟩
theorem rs_over {n f t m : Int} (h : (okMode m && okSc t) = true) (hd : okDec n f = true) (hl : ¬ t < f) (hn : okNo (n * pw (t - f)) = false) : rsE n f t m = 2 ∧ rsV n f t m = 0 := by
  have : rsE n f t m = 2 := by unfold rsE; rw [h, hd, if_neg hl, hn]; rfl
  exact ⟨this, by unfold rsV; rw [this]; rfl⟩
/-- a multiple of the divisor has its quotient in every mode -/
theorem rdI_exact {n P : Int} (m : Int) (hP : 0 < P) : rdI (n * P) P m = n := by
  by_cases hn : n < 0
  · have e : -(n * P) = -n * P := (Int.neg_mul _ _).symm
    have hp : 0 < -n * P := Int.mul_pos (by omega) hP
    rw [rdI_neg (by omega) hP, e]
    unfold fI
    rw [Int.mul_emod_left, Int.mul_ediv_cancel _ (by omega)]
    simp
  · rw [rdI_pos (Int.mul_nonneg (by omega) (by omega)) hP]
    unfold fI
    rw [Int.mul_emod_left, Int.mul_ediv_cancel _ (by omega)]
    simp
theorem pw_zero : pw 0 = 1 := rfl
set_option maxHeartbeats 2000000 in
theorem rescale_any (n f t m : Int) (w : World) : Calls Tryd.prog 18 #[.int .i64 n, .int .i64 f, .int .i64 t, .int .i64 m] w fun e w' => e = .returned (.tuple #[.int .i64 (rsV n f t m), .int .i64 (rsE n f t m)]) ∧ Below w.heap.size w w' := by
  cases hm : okMode m
  · obtain ⟨e1, e2⟩ := rs_arg (n := n) (f := f) (t := t) (m := m) (by rw [hm]; rfl)
    rw [e1, e2]
    have M := Lib.hid hm
    clear e1 e2 hm
    go_enter Tryd.func18, Tryd.ntmps18
    go_wp2_with fail
    refine (known_any _ _).mono ?_
    rintro e wx ⟨rfl, rfl⟩
    rw [M.out]
    go_wp2_with fail
    go_ret2
    exact ⟨rfl, Below.refl _ _⟩
  · have M := Lib.hid hm
    cases ht : okSc t
    · obtain ⟨e1, e2⟩ := rs_arg (n := n) (f := f) (t := t) (m := m) (by rw [hm, ht]; rfl)
      rw [e1, e2]
      have T := Lib.hid ht
      clear e1 e2 hm ht
      go_enter Tryd.func18, Tryd.ntmps18
      go_wp2_with fail
      refine (known_any _ _).mono ?_
      rintro e wx ⟨rfl, rfl⟩
      rw [M.out]
      go_wp2_with fail
      refine (scale_any _ _).mono ?_
      rintro e wx ⟨rfl, rfl⟩
      rw [T.out]
      go_wp2_with fail
      go_ret2
      exact ⟨rfl, Below.refl _ _⟩
    · have T := Lib.hid ht
      have hmt : (okMode m && okSc t) = true := by rw [hm, ht]; rfl
      cases hd : okDec n f
      · obtain ⟨e1, e2⟩ := rs_bad hmt hd
        rw [e1, e2]
        have VD := Lib.hid hd
        clear e1 e2 hm ht hmt hd
        go_enter Tryd.func18, Tryd.ntmps18
        go_wp2_with fail
        refine (known_any _ _).mono ?_
        rintro e wx ⟨rfl, rfl⟩
        rw [M.out]
        go_wp2_with fail
        refine (scale_any _ _).mono ?_
        rintro e wx ⟨rfl, rfl⟩
        rw [T.out]
        go_wp2_with fail
        refine (valid_any _ _ _).mono ?_
        rintro e wx ⟨rfl, rfl⟩
        rw [VD.out]
        go_wp2_with fail
        go_ret2
        exact ⟨rfl, Below.refl _ _⟩
      · have VD := Lib.hid hd
        obtain ⟨m1, m2⟩ := okMode_iff.1 hm
        obtain ⟨t1, t2⟩ := okSc_iff.1 ht
        obtain ⟨⟨n1, n2⟩, f1, f2⟩ := okDec_iff.1 hd
        by_cases hl : t < f
        · obtain ⟨e1, e2⟩ := rs_less hmt hd hl
          rw [e1, e2]
          obtain ⟨p1, p2⟩ := pw_bd (s := f - t) (by omega) (by omega)
          generalize hp : pw (f - t) = P at *
          have PP := Lib.hid hp
          clear e1 e2 hm ht hmt hd hp
          go_enter Tryd.func18, Tryd.ntmps18
          go_wp2_with fail
          refine (known_any _ _).mono ?_
          rintro e wx ⟨rfl, rfl⟩
          rw [M.out]
          go_wp2_with fail
          refine (scale_any _ _).mono ?_
          rintro e wx ⟨rfl, rfl⟩
          rw [T.out]
          go_wp2_with fail
          refine (valid_any _ _ _).mono ?_
          rintro e wx ⟨rfl, rfl⟩
          rw [VD.out]
          go_wp2_with fail
          refine (power_any (f - t) _ (by omega) (by omega)).mono ?_
          rintro e wx ⟨rfl, rfl⟩
          rw [PP.out]
          go_wp2_with fail
          refine (round_any _ _ _ _ (by omega) (by omega) (by omega) (by omega) (by omega) m1 m2).mono ?_
          rintro e w1 ⟨rfl, hb⟩
          go_wp2_with fail
          go_ret2
          exact ⟨rfl, hb⟩
        · obtain ⟨p1, p2⟩ := pw_bd (s := t - f) (by omega) (by omega)
          obtain ⟨a1, a2⟩ := absI_bd (n := n) (A := 1000000000000000) ⟨by omega, by omega⟩
          cases hn : okNo (n * pw (t - f))
          · obtain ⟨e1, e2⟩ := rs_over hmt hd hl hn
            rw [e1, e2]
            have hg := abs_mul_gt (by omega) hn
            have hq : 1000000000000000 / pw (t - f) < absI n := Int.ediv_lt_of_lt_mul (by omega) hg
            generalize hp : pw (t - f) = P at *
            have PP := Lib.hid hp
            have hld : decide (t < f) = false := by rw [decide_eq_false_iff_not]; exact hl
            have q1 : 0 ≤ 1000000000000000 / P := Int.ediv_nonneg (by omega) (by omega)
            have q2 : 1000000000000000 / P ≤ 1000000000000000 := Int.ediv_le_self _ (by omega)
            have hfl : f ≤ t := by omega
            clear e1 e2 hm ht hmt hd hp hn hg hl
            go_enter Tryd.func18, Tryd.ntmps18
            go_wp2_with fail
            refine (known_any _ _).mono ?_
            rintro e wx ⟨rfl, rfl⟩
            rw [M.out]
            go_wp2_with fail
            refine (scale_any _ _).mono ?_
            rintro e wx ⟨rfl, rfl⟩
            rw [T.out]
            go_wp2_with fail
            refine (valid_any _ _ _).mono ?_
            rintro e wx ⟨rfl, rfl⟩
            rw [VD.out]
            go_wp2_with fail
            refine (size_any _ _ (by omega) (by omega)).mono ?_
            rintro e wx ⟨rfl, rfl⟩
            go_wp2_with fail
            refine (power_any (t - f) _ (by omega) (by omega)).mono ?_
            rintro e wx ⟨rfl, rfl⟩
            rw [PP.out]
            go_wp2_with fail
            go_ret2
            exact ⟨rfl, by repeat (first | exact Below.refl _ _ | apply below_drewN)⟩
          · obtain ⟨e1, e2⟩ := rs_more hmt hd hl hn
            rw [e1, e2]
            have hg := abs_mul_le (by omega) hn
            obtain ⟨x1, x2⟩ := okNo_iff.1 hn
            have hq : absI n ≤ 1000000000000000 / pw (t - f) := (Int.le_ediv_iff_mul_le (by omega)).2 hg
            have hqd : decide (1000000000000000 / pw (t - f) < absI n) = false := by rw [decide_eq_false_iff_not]; omega
            generalize hp : pw (t - f) = P at *
            have PP := Lib.hid hp
            have hld : decide (t < f) = false := by rw [decide_eq_false_iff_not]; exact hl
            have q1 : 0 ≤ 1000000000000000 / P := Int.ediv_nonneg (by omega) (by omega)
            have q2 : 1000000000000000 / P ≤ 1000000000000000 := Int.ediv_le_self _ (by omega)
            have hfl : f ≤ t := by omega
            clear e1 e2 hm ht hmt hd hp hn hg hl
            go_enter Tryd.func18, Tryd.ntmps18
            go_wp2_with fail
            refine (known_any _ _).mono ?_
            rintro e wx ⟨rfl, rfl⟩
            rw [M.out]
            go_wp2_with fail
            refine (scale_any _ _).mono ?_
            rintro e wx ⟨rfl, rfl⟩
            rw [T.out]
            go_wp2_with fail
            refine (valid_any _ _ _).mono ?_
            rintro e wx ⟨rfl, rfl⟩
            rw [VD.out]
            go_wp2_with fail
            refine (size_any _ _ (by omega) (by omega)).mono ?_
            rintro e wx ⟨rfl, rfl⟩
            go_wp2_with fail
            refine (power_any (t - f) _ (by omega) (by omega)).mono ?_
            rintro e wx ⟨rfl, rfl⟩
            rw [PP.out]
            go_wp2_with fail
            refine (power_any (t - f) _ (by omega) (by omega)).mono ?_
            rintro e wx ⟨rfl, rfl⟩
            rw [PP.out]
            go_wp2_with fail
            go_ret2
            exact ⟨rfl, by repeat (first | exact Below.refl _ _ | apply below_drewN)⟩
set_option maxHeartbeats 4000000 in
theorem refRescale_any (n f t m : Int) (w : World) : Calls Tryd.prog 21 #[.int .i64 n, .int .i64 f, .int .i64 t, .int .i64 m] w fun e w' => e = .returned (.tuple #[.int .i64 (rsV n f t m), .int .i64 (rsE n f t m)]) ∧ Below w.heap.size w w' := by
  cases hm : okMode m
  · obtain ⟨e1, e2⟩ := rs_arg (n := n) (f := f) (t := t) (m := m) (by rw [hm]; rfl)
    rw [e1, e2]
    have M := Lib.hid hm
    clear e1 e2 hm
    go_enter Tryd.func21, Tryd.ntmps21
    go_wp2_with fail
    refine (refKnown_any _ _).mono ?_
    rintro e wx ⟨rfl, rfl⟩
    rw [M.out]
    go_wp2_with fail
    go_ret2
    exact ⟨rfl, by repeat (first | exact Below.refl _ _ | apply below_drewN)⟩
  · have M := Lib.hid hm
    cases ht : okSc t
    · obtain ⟨e1, e2⟩ := rs_arg (n := n) (f := f) (t := t) (m := m) (by rw [hm, ht]; rfl)
      rw [e1, e2]
      by_cases t1 : 0 ≤ t
      · have t2 : 9 < t := by
          rcases Int.lt_or_le 9 t with h | h
          · exact h
          · rw [okSc_iff.2 ⟨t1, h⟩] at ht; cases ht
        clear e1 e2 hm ht
        go_enter Tryd.func21, Tryd.ntmps21
        go_wp2_with fail
        refine (refKnown_any _ _).mono ?_
        rintro e wx ⟨rfl, rfl⟩
        rw [M.out]
        go_wp2_with fail
        go_ret2
        exact ⟨rfl, by repeat (first | exact Below.refl _ _ | apply below_drewN)⟩
      · have t2 : t < 0 := by omega
        clear e1 e2 hm ht t1
        go_enter Tryd.func21, Tryd.ntmps21
        go_wp2_with fail
        refine (refKnown_any _ _).mono ?_
        rintro e wx ⟨rfl, rfl⟩
        rw [M.out]
        go_wp2_with fail
        go_ret2
        exact ⟨rfl, by repeat (first | exact Below.refl _ _ | apply below_drewN)⟩
    · have hmt : (okMode m && okSc t) = true := by rw [hm, ht]; rfl
      obtain ⟨m1, m2⟩ := okMode_iff.1 hm
      obtain ⟨t1, t2⟩ := okSc_iff.1 ht
      cases hd : okDec n f
      · obtain ⟨e1, e2⟩ := rs_bad hmt hd
        rw [e1, e2]
        have VD := Lib.hid hd
        clear e1 e2 hm ht hmt hd
        go_enter Tryd.func21, Tryd.ntmps21
        go_wp2_with fail
        refine (refKnown_any _ _).mono ?_
        rintro e wx ⟨rfl, rfl⟩
        rw [M.out]
        go_wp2_with fail
        refine (refValid_any _ _ _).mono ?_
        rintro e wx ⟨rfl, rfl⟩
        rw [VD.out]
        go_wp2_with fail
        go_ret2
        exact ⟨rfl, by repeat (first | exact Below.refl _ _ | apply below_drewN)⟩
      · have VD := Lib.hid hd
        obtain ⟨⟨n1, n2⟩, f1, f2⟩ := okDec_iff.1 hd
        by_cases hl : t < f
        · obtain ⟨e1, e2⟩ := rs_less hmt hd hl
          rw [e1, e2]
          obtain ⟨p1, p2⟩ := pw_bd (s := f - t) (by omega) (by omega)
          generalize hp : pw (f - t) = P at *
          have PP := Lib.hid hp
          have hle : t ≤ f := by omega
          clear e1 e2 hm ht hmt hd hp
          go_enter Tryd.func21, Tryd.ntmps21
          go_wp2_with fail
          refine (refKnown_any _ _).mono ?_
          rintro e wx ⟨rfl, rfl⟩
          rw [M.out]
          go_wp2_with fail
          refine (refValid_any _ _ _).mono ?_
          rintro e wx ⟨rfl, rfl⟩
          rw [VD.out]
          go_wp2_with fail
          refine (refPower_any (f - t) _ (by omega) (by omega)).mono ?_
          rintro e wx ⟨rfl, rfl⟩
          rw [PP.out]
          go_wp2_with fail
          refine (refQuo_any _ _ _ _ (by omega) (by omega) (by omega) (by omega) (by omega) m1 m2).mono ?_
          rintro e w1 ⟨rfl, k, rfl⟩
          go_wp2_with fail
          go_ret2
          exact ⟨rfl, by repeat (first | exact Below.refl _ _ | apply below_drewN)⟩
        · by_cases he : t = f
          · subst he
            have hx : okNo (n * pw (t - t)) = true := by rw [Int.sub_self, pw_zero, Int.mul_one]; exact okNo_iff.2 ⟨n1, n2⟩
            obtain ⟨e1, e2⟩ := rs_more hmt hd hl hx
            rw [e1, e2, Int.sub_self, pw_zero, Int.mul_one]
            have EX := Lib.hid (show rdI n 1 m = n by have := rdI_exact (n := n) (P := 1) m (by omega); rwa [Int.mul_one] at this)

            have PP0 := Lib.hid pw_zero
            clear e1 e2 hm ht hmt hd hl hx
            go_enter Tryd.func21, Tryd.ntmps21
            go_wp2_with fail
            refine (refKnown_any _ _).mono ?_
            rintro e wx ⟨rfl, rfl⟩
            rw [M.out]
            go_wp2_with fail
            refine (refValid_any _ _ _).mono ?_
            rintro e wx ⟨rfl, rfl⟩
            rw [VD.out]
            go_wp2_with fail
            refine (refPower_any _ _ (by omega) (by omega)).mono ?_
            rintro e wx ⟨rfl, rfl⟩
            rw [PP0.out]
            go_wp2_with fail
            refine (refQuo_any _ _ _ _ (by omega) (by omega) (by omega) (by omega) (by omega) m1 m2).mono ?_
            rintro e w1 ⟨rfl, k, rfl⟩
            rw [EX.out]
            go_wp2_with fail
            go_ret2
            exact ⟨rfl, by repeat (first | exact Below.refl _ _ | apply below_drewN)⟩
          · obtain ⟨D, hD⟩ : ∃ D : Nat, t = f + D := ⟨(t - f).toNat, by omega⟩
            have hsc := scd_pw (n := n) (show t - f = (D : Int) by omega)
            have hgt : f < t := by omega
            have hled : decide (t ≤ f) = false := by rw [decide_eq_false_iff_not]; omega
            subst hD
            cases hn : okNo (n * pw (f + (D : Int) - f))
            · obtain ⟨e1, e2⟩ := rs_over hmt hd hl hn
              rw [e1, e2]
              have NN := Lib.hid (by rw [← hsc]; exact okNo_not hn : ¬(-1000000000000000 ≤ scd n D ∧ scd n D ≤ 1000000000000000))
              clear e1 e2 hm ht hmt hd hl hn hsc he
              go_enter Tryd.func21, Tryd.ntmps21
              go_wp2_with fail
              refine (refKnown_any _ _).mono ?_
              rintro e wx ⟨rfl, rfl⟩
              rw [M.out]
              go_wp2_with fail
              refine (refValid_any _ _ _).mono ?_
              rintro e wx ⟨rfl, rfl⟩
              rw [VD.out]
              go_wp2_with fail
              go_loop [0, 10] (fun v i => ∃ k : Nat, k ≤ D ∧ i = .int .i64 (f + k) ∧ v = .int .i64 (scd n k) ∧ -1000000000000000 ≤ scd n k ∧ scd n k ≤ 1000000000000000) (fun _ i => (f + (D : Int) - intOf i).toNat)
              case atStart => exact ⟨0, Nat.zero_le _, by simp, by rw [scd_zero], by rw [scd_zero]; omega, by rw [scd_zero]; omega⟩
              case round =>
                obtain ⟨k, hk, rfl, rfl, x1, x2⟩ := hrel
                by_cases hlt : k < D
                · have S := Lib.hid (scd_succ n k)
                  have hs := scd_succ n k
                  generalize scd n k = x at *
                  by_cases hr : -1000000000000000 ≤ x * 10 ∧ x * 10 ≤ 1000000000000000
                  · have VX := Lib.hid (show okDec (x * 10) (f + (D : Int)) = true from okDec_iff.2 ⟨hr, t1, t2⟩)
                    obtain ⟨r1, r2⟩ := hr
                    clear hs
                    go_wp2_with fail
                    refine (refValid_any _ _ _).mono ?_
                    rintro e wx ⟨rfl, rfl⟩
                    rw [VX.out]
                    go_wp2_with fail
                    go_round
                    case rel => exact ⟨k + 1, by omega, by go_num, by rw [S.out], by rw [← S.out]; omega, by rw [← S.out]; omega⟩
                    case measure => simp [intOf]; omega
                  · have VX := Lib.hid (show okDec (x * 10) (f + (D : Int)) = false by unfold okDec; rw [okNo_false hr]; rfl)
                    clear hs hr
                    go_wp2_with fail
                    refine (refValid_any _ _ _).mono ?_
                    rintro e wx ⟨rfl, rfl⟩
                    rw [VX.out]
                    go_wp2_with fail
                    go_ret2
                    exact ⟨rfl, by repeat (first | exact Below.refl _ _ | apply below_drewN)⟩
                · obtain rfl : k = D := by omega
                  exact absurd ⟨x1, x2⟩ NN.out
            · obtain ⟨e1, e2⟩ := rs_more hmt hd hl hn
              rw [e1, e2, hsc]
              rw [hsc] at hn
              have NN := Lib.hid (okNo_iff.1 hn)
              clear e1 e2 hm ht hmt hd hl hn hsc he
              go_enter Tryd.func21, Tryd.ntmps21
              go_wp2_with fail
              refine (refKnown_any _ _).mono ?_
              rintro e wx ⟨rfl, rfl⟩
              rw [M.out]
              go_wp2_with fail
              refine (refValid_any _ _ _).mono ?_
              rintro e wx ⟨rfl, rfl⟩
              rw [VD.out]
              go_wp2_with fail
              go_loop [0, 10] (fun v i => ∃ k : Nat, k ≤ D ∧ i = .int .i64 (f + k) ∧ v = .int .i64 (scd n k) ∧ -1000000000000000 ≤ scd n k ∧ scd n k ≤ 1000000000000000) (fun _ i => (f + (D : Int) - intOf i).toNat)
              case atStart => exact ⟨0, Nat.zero_le _, by simp, by rw [scd_zero], by rw [scd_zero]; omega, by rw [scd_zero]; omega⟩
              case round =>
                obtain ⟨k, hk, rfl, rfl, x1, x2⟩ := hrel
                by_cases hlt : k < D
                · have S := Lib.hid (scd_succ n k)
                  have hr := scd_down n (k + 1) (D - (k + 1)) (by rw [show k + 1 + (D - (k + 1)) = D by omega]; exact NN.out)
                  rw [← S.out] at hr
                  generalize scd n k = x at *
                  have VX := Lib.hid (show okDec (x * 10) (f + (D : Int)) = true from okDec_iff.2 ⟨hr, t1, t2⟩)
                  obtain ⟨r1, r2⟩ := hr
                  go_wp2_with fail
                  refine (refValid_any _ _ _).mono ?_
                  rintro e wx ⟨rfl, rfl⟩
                  rw [VX.out]
                  go_wp2_with fail
                  go_round
                  case rel => exact ⟨k + 1, by omega, by go_num, by rw [S.out], by rw [← S.out]; omega, by rw [← S.out]; omega⟩
                  case measure => simp [intOf]; omega
                · obtain rfl : k = D := by omega
                  clear hlt
                  go_wp2_with fail
                  go_ret2
                  exact ⟨rfl, by repeat (first | exact Below.refl _ _ | apply below_drewN)⟩
end Go.Proofs.YtklpeibmjiolhaaDoor
