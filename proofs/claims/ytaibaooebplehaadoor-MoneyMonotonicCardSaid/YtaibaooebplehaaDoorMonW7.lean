/-
  The laws MoneyMonotonic and MoneyAdd.
-/
import Derived.Test.YtaibaooebplehaaDoorMonW6
namespace Go.Proofs.YtaibaooebplehaaDoor
open Go.RowKit
set_option linter.unusedVariables false
theorem sum_near {x y z a b c den : Int} (hd : 1 ≤ den) (hc : c = a + b) (hx : -den ≤ 2 * (x * den) - 2 * a ∧ 2 * (x * den) - 2 * a ≤ den) (hy : -den ≤ 2 * (y * den) - 2 * b ∧ 2 * (y * den) - 2 * b ≤ den) (hz : -den ≤ 2 * (z * den) - 2 * c ∧ 2 * (z * den) - 2 * c ≤ den) :
    -1 ≤ z - x - y ∧ z - x - y ≤ 1 := by
  have e : (z - x - y) * den = z * den - x * den - y * den := by rw [Int.sub_mul, Int.sub_mul]
  generalize z - x - y = d at *
  constructor
  · by_cases h : -1 ≤ d
    · exact h
    · have : d * den ≤ -2 * den := Int.mul_le_mul_of_nonneg_right (by omega) (by omega)
      omega
  · by_cases h : d ≤ 1
    · exact h
    · have : 2 * den ≤ d * den := Int.mul_le_mul_of_nonneg_right (by omega) (by omega)
      omega
theorem rnd_unit (a : Int) : rnd a 1000000 1000000 = a := by
  unfold rnd
  split <;> omega
set_option maxHeartbeats 4000000 in
set_option maxRecDepth 100000 in
theorem lawMonotonic (a b rate : Int) (w : World) (hE : Env w) (h1 : -2147483648 ≤ a) (h2 : a ≤ 2147483647) (h3 : -2147483648 ≤ b) (h4 : b ≤ 2147483647) (h5 : 0 ≤ rate) (h6 : rate ≤ 4294967295) :
    Calls Tryd.prog 4 #[.int .i32 a, .int .i32 b, .int .u32 rate] w fun e w' => e = .returned (.bool true) ∧ Below w.heap.size w w' := by
  by_cases hd : rate = 0
  · subst hd
    go_enter Tryd.func4, Tryd.ntmps4
    go_wp2_with fail
    refine (awake_true _ hE).mono ?_
    rintro e w1 ⟨rfl, hb⟩
    go_wp2_with fail
    go_ret
    exact ⟨rfl, hb⟩
  have h5' : 1 ≤ rate := by omega
  have h5d : (rate == 0) = false := by simpa using hd
  obtain ⟨x1, x2⟩ := cvt_good (n := a) (rate := rate) (okAmt_yes (by omega)) h5' (by omega)
  obtain ⟨y1, y2⟩ := cvt_good (n := b) (rate := rate) (okAmt_yes (by omega)) h5' (by omega)
  obtain ⟨z1, z2⟩ := cvt_good (n := a + b) (rate := rate) (okAmt_yes (by omega)) h5' (by omega)
  obtain ⟨s1, s2⟩ := cvt_good (n := a) (rate := 1000000) (okAmt_yes (by omega)) (by omega) (by omega)
  obtain ⟨s3, s4⟩ := chk_ok (v := a) (by omega)
  rw [rnd_unit, s3] at s1
  rw [rnd_unit, s4] at s2
  have hxyz := sum_near (x := rnd a rate 1000000) (y := rnd b rate 1000000) (z := rnd (a + b) rate 1000000) (by omega) (Int.add_mul a b rate) (rnd_near a rate 1000000 (by omega)) (rnd_near b rate 1000000 (by omega)) (rnd_near (a + b) rate 1000000 (by omega))
  have hm1 : a ≤ b → rnd a rate 1000000 ≤ rnd b rate 1000000 := rnd_mono a b rate 1000000 h5 (by omega)
  have hm2 : b ≤ a → rnd b rate 1000000 ≤ rnd a rate 1000000 := rnd_mono b a rate 1000000 h5 (by omega)
  have hm3 : a = b → rnd a rate 1000000 = rnd b rate 1000000 := fun h => by rw [h]
  clear hd s3 s4
  generalize rnd a rate 1000000 = rx at *
  generalize rnd b rate 1000000 = ry at *
  generalize rnd (a + b) rate 1000000 = rz at *
  have S1 := Lib.hid s1
  have S2 := Lib.hid s2
  have X1 := Lib.hid x1
  have X2 := Lib.hid x2
  have Y1 := Lib.hid y1
  have Y2 := Lib.hid y2
  have Z1 := Lib.hid z1
  have Z2 := Lib.hid z2
  have M1 := Lib.hid hm1
  have M2 := Lib.hid hm2
  have M3 := Lib.hid hm3
  obtain ⟨hz1, hz2⟩ := hxyz
  clear s1 s2 x1 x2 y1 y2 z1 z2 hm1 hm2 hm3
  have tri : ∀ v : Int, (chk1 v = v ∧ chk2 v = 0 ∧ -1000000000000 ≤ v ∧ v ≤ 1000000000000) ∨ (chk1 v = 0 ∧ chk2 v = 2) := by
    intro v
    cases hv : okAmt v
    · right; unfold chk1 chk2; rw [hv]; exact ⟨rfl, rfl⟩
    · left; have := okAmt_iff.1 hv; have h := chk_ok this; exact ⟨h.1, h.2, this.1, this.2⟩
  rcases tri rx with ⟨p1, p2, p3, p4⟩ | ⟨p1, p2⟩ <;> rcases tri ry with ⟨q1, q2, q3, q4⟩ | ⟨q1, q2⟩ <;> rcases tri rz with ⟨t1, t2, t3, t4⟩ | ⟨t1, t2⟩
  case inl.inl.inl =>
    have P1 := Lib.hid p1
    have P2 := Lib.hid p2
    have Q1 := Lib.hid q1
    have Q2 := Lib.hid q2
    have T1 := Lib.hid t1
    have T2 := Lib.hid t2
    clear p1 p2 q1 q2 t1 t2 tri
    have hf1 : (b < a ∨ rx ≤ ry) := by
      by_cases h : b < a
      · exact .inl h
      · exact .inr (M1.out (by omega))
    have hf2 : (a < b ∨ ry ≤ rx) := by
      by_cases h : a < b
      · exact .inl h
      · exact .inr (M2.out (by omega))
    by_cases hab : b < a
    · have hab2 : decide (a < b) = false := by simp; omega
      have hle : ry ≤ rx := M2.out (by omega)
      clear hf1 hf2
      go_enter Tryd.func4, Tryd.ntmps4
      go_wp2_with fail
      refine (awake_true _ hE).mono ?_
      rintro e w1 ⟨rfl, hb⟩
      go_wp2_with fail
      refine (convert_any _ _ _).mono ?_
      rintro e w' ⟨rfl, k, rfl⟩
      rw [X1.out, X2.out, P1.out, P2.out]
      go_wp2_with fail
      refine (convert_any _ _ _).mono ?_
      rintro e w' ⟨rfl, k2, rfl⟩
      rw [Y1.out, Y2.out, Q1.out, Q2.out]
      go_wp2_with fail
      refine (convert_any _ _ _).mono ?_
      rintro e w' ⟨rfl, k3, rfl⟩
      rw [Z1.out, Z2.out, T1.out, T2.out]
      go_wp2_with fail
      refine (convert_any _ _ _).mono ?_
      rintro e w' ⟨rfl, k4, rfl⟩
      rw [S1.out, S2.out]
      go_wp2_with fail
      go_ret
      exact ⟨rfl, by repeat (first | exact hb | apply below_drewN)⟩
    · have hab' : decide (b < a) = false := by simp; omega
      have hle : rx ≤ ry := M1.out (by omega)
      clear hf1
      by_cases hba : a < b
      · clear hab hf2
        go_enter Tryd.func4, Tryd.ntmps4
        go_wp2_with fail
        refine (awake_true _ hE).mono ?_
        rintro e w1 ⟨rfl, hb⟩
        go_wp2_with fail
        refine (convert_any _ _ _).mono ?_
        rintro e w' ⟨rfl, k, rfl⟩
        rw [X1.out, X2.out, P1.out, P2.out]
        go_wp2_with fail
        refine (convert_any _ _ _).mono ?_
        rintro e w' ⟨rfl, k2, rfl⟩
        rw [Y1.out, Y2.out, Q1.out, Q2.out]
        go_wp2_with fail
        refine (convert_any _ _ _).mono ?_
        rintro e w' ⟨rfl, k3, rfl⟩
        rw [Z1.out, Z2.out, T1.out, T2.out]
        go_wp2_with fail
        refine (convert_any _ _ _).mono ?_
        rintro e w' ⟨rfl, k4, rfl⟩
        rw [S1.out, S2.out]
        go_wp2_with fail
        go_ret
        exact ⟨rfl, by repeat (first | exact hb | apply below_drewN)⟩
      · have hba' : decide (a < b) = false := by simp; omega
        have hle2 : ry ≤ rx := M2.out (by omega)
        clear hab hf2 hba
        go_enter Tryd.func4, Tryd.ntmps4
        go_wp2_with fail
        refine (awake_true _ hE).mono ?_
        rintro e w1 ⟨rfl, hb⟩
        go_wp2_with fail
        refine (convert_any _ _ _).mono ?_
        rintro e w' ⟨rfl, k, rfl⟩
        rw [X1.out, X2.out, P1.out, P2.out]
        go_wp2_with fail
        refine (convert_any _ _ _).mono ?_
        rintro e w' ⟨rfl, k2, rfl⟩
        rw [Y1.out, Y2.out, Q1.out, Q2.out]
        go_wp2_with fail
        refine (convert_any _ _ _).mono ?_
        rintro e w' ⟨rfl, k3, rfl⟩
        rw [Z1.out, Z2.out, T1.out, T2.out]
        go_wp2_with fail
        refine (convert_any _ _ _).mono ?_
        rintro e w' ⟨rfl, k4, rfl⟩
        rw [S1.out, S2.out]
        go_wp2_with fail
        go_ret
        exact ⟨rfl, by repeat (first | exact hb | apply below_drewN)⟩
  all_goals
    have P1 := Lib.hid p1
    have P2 := Lib.hid p2
    have Q1 := Lib.hid q1
    have Q2 := Lib.hid q2
    have T1 := Lib.hid t1
    have T2 := Lib.hid t2
    clear p1 p2 q1 q2 t1 t2 tri
    go_enter Tryd.func4, Tryd.ntmps4
    go_wp2_with fail
    refine (awake_true _ hE).mono ?_
    rintro e w1 ⟨rfl, hb⟩
    go_wp2_with fail
    refine (convert_any _ _ _).mono ?_
    rintro e w' ⟨rfl, k, rfl⟩
    rw [X1.out, X2.out, P1.out, P2.out]
    go_wp2_with fail
    refine (convert_any _ _ _).mono ?_
    rintro e w' ⟨rfl, k2, rfl⟩
    rw [Y1.out, Y2.out, Q1.out, Q2.out]
    go_wp2_with fail
    refine (convert_any _ _ _).mono ?_
    rintro e w' ⟨rfl, k3, rfl⟩
    rw [Z1.out, Z2.out, T1.out, T2.out]
    go_wp2_with fail
    refine (convert_any _ _ _).mono ?_
    rintro e w' ⟨rfl, k4, rfl⟩
    rw [S1.out, S2.out]
    go_wp2_with fail
    go_ret
    exact ⟨rfl, by repeat (first | exact hb | apply below_drewN)⟩
end Go.Proofs.YtaibaooebplehaaDoor
