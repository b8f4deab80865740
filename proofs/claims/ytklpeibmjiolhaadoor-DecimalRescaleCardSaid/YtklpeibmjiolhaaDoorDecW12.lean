/-
  The law DecimalRescale.
-/
import Derived.Test.YtklpeibmjiolhaaDoorDecW11
namespace Go.Proofs.YtklpeibmjiolhaaDoor
open Go.RowKit
set_option linter.unusedVariables false
theorem pw_add {a b : Int} (ha : 0 ≤ a) (hb : 0 ≤ b) : pw (a + b) = pw a * pw b := by
  obtain ⟨x, rfl⟩ := Int.eq_ofNat_of_zero_le ha
  obtain ⟨y, rfl⟩ := Int.eq_ofNat_of_zero_le hb
  unfold pw
  rw [show ((x : Int) + (y : Int)).toNat = x + y by omega, Int.toNat_natCast, Int.toNat_natCast, Nat.pow_add]
  exact Int.natCast_mul _ _
theorem rs_zero {n f t m : Int} (h : rsE n f t m = 0) (hl : ¬ t < f) : okMode m = true ∧ okSc t = true ∧ okDec n f = true ∧ okNo (n * pw (t - f)) = true := by
  unfold rsE at h
  rw [if_neg hl] at h
  cases h1 : okMode m && okSc t
  · rw [h1] at h; simp at h
  · cases h2 : okDec n f
    · rw [h1, h2] at h; simp at h
    · cases h3 : okNo (n * pw (t - f))
      · rw [h1, h2, h3] at h; simp at h
      · rw [Bool.and_eq_true] at h1
        exact ⟨h1.1, h1.2, rfl, rfl⟩
/-- what is rescaled to a greater scale returns from there, and compares as equal -/
theorem rs_back {n f t m : Int} (h : rsE n f t m = 0) (hl : ¬ t < f) :
    rsE (rsV n f t m) t f m = 0 ∧ rsV (rsV n f t m) t f m = n ∧ cpV n f (rsV n f t m) t = 0 ∧ cpE n f (rsV n f t m) t = 0 := by
  obtain ⟨hm, ht, hd, hn⟩ := rs_zero h hl
  obtain ⟨e1, e2⟩ := rs_more (by rw [hm, ht]; rfl) hd hl hn
  obtain ⟨t1, t2⟩ := okSc_iff.1 ht
  obtain ⟨n1, f1, f2⟩ := okDec_iff.1 hd
  have hf : okSc f = true := okSc_iff.2 ⟨f1, f2⟩
  have hd2 : okDec (n * pw (t - f)) t = true := by unfold okDec; rw [hn, ht]; rfl
  obtain ⟨p1, p2⟩ := pw_bd (s := t - f) (by omega) (by omega)
  rw [e2]
  have hcp : cpV n f (n * pw (t - f)) t = 0 ∧ cpE n f (n * pw (t - f)) t = 0 := by
    have ea : pw t = pw f * pw (t - f) := by rw [← pw_add f1 (by omega)]; congr 1; omega
    have eb : pw (9 - f) = pw (t - f) * pw (9 - t) := by rw [← pw_add (by omega) (by omega)]; congr 1; omega
    have w1 : wh (n * pw (t - f)) t = wh n f := by
      unfold wh
      rw [ea]
      exact Int.mul_ediv_mul_of_pos_left _ _ (by omega)
    have r1 : rs (n * pw (t - f)) t = rs n f := by
      unfold rs
      rw [w1, ea, eb, ← Int.mul_assoc (wh n f), ← Int.sub_mul, Int.mul_assoc]
    unfold cpV cpE
    rw [hd, hd2, w1, r1]
    refine ⟨?_, rfl⟩
    simp [cmpI]
  by_cases he : f < t
  · obtain ⟨g1, g2⟩ := rs_less (n := n * pw (t - f)) (f := t) (t := f) (m := m) (by rw [hm, hf]; rfl) hd2 he
    exact ⟨g1, by rw [g2]; exact rdI_exact m (by omega), hcp⟩
  · obtain rfl : t = f := by omega
    have e0 : pw (t - t) = 1 := by rw [Int.sub_self]; rfl
    rw [e0, Int.mul_one] at hn hd2 hcp ⊢
    obtain ⟨g1, g2⟩ := rs_more (n := n) (f := t) (t := t) (m := m) (by rw [hm, hf]; rfl) hd2 he (by rw [e0, Int.mul_one]; exact hn)
    exact ⟨g1, by rw [g2, e0, Int.mul_one], hcp⟩
set_option maxHeartbeats 2000000 in
theorem lawRescale (n f t m : Int) (w : World) (hE : Env w) :
    Calls Tryd.prog 9 #[.int .i64 n, .agg #[.int .i64 f, .int .i64 t], .int .i64 m] w fun e w' => e = .returned (.bool true) ∧ Below w.heap.size w w' := by
  by_cases hx : rsE n f t m = 0
  · by_cases hl : t < f
    · have X := Lib.hid hx
      clear hx
      go_enter Tryd.func9, Tryd.ntmps9
      go_wp2_with fail
      have c0 : (w.alloc (.cells #[.int .i64 f, .int .i64 t] 38)).cell? ⟨w.heap.size, 0, none⟩ = some (.int .i64 f) := by simp [go_sem]
      have c1 : (w.alloc (.cells #[.int .i64 f, .int .i64 t] 38)).cell? ⟨w.heap.size, 1, none⟩ = some (.int .i64 t) := by simp [go_sem]
      have hz : Below w.heap.size w (w.alloc (.cells #[.int .i64 f, .int .i64 t] 38)) := (Below.refl _ _).alloc (Nat.le_refl _) _
      have hzs : w.heap.size < (w.alloc (.cells #[.int .i64 f, .int .i64 t] 38)).heap.size := by simp
      have hEz := hE.after hz
      generalize (w.alloc (.cells #[.int .i64 f, .int .i64 t] 38)) = wz at *
      refine (awake_true _ hEz).mono ?_
      rintro e w1 ⟨rfl, hb⟩
      have d0 := (hb.cell (p := ⟨w.heap.size, 0, none⟩) (by show w.heap.size < _; omega)).trans c0
      have d1 := (hb.cell (p := ⟨w.heap.size, 1, none⟩) (by show w.heap.size < _; omega)).trans c1
      have hbz := hz.trans (hb.mono (show w.heap.size ≤ wz.heap.size by omega))
      have hzs1 : w.heap.size < w1.heap.size := by have := hb.size; omega
      clear c0 c1 hz hzs hb hEz hE
      go_wp2_with fail
      refine (rescale_any _ _ _ _ _).mono ?_
      rintro e w2 ⟨rfl, hb2⟩
      have f0 := (hb2.cell (p := ⟨w.heap.size, 0, none⟩) (by show w.heap.size < _; omega)).trans d0
      have f1 := (hb2.cell (p := ⟨w.heap.size, 1, none⟩) (by show w.heap.size < _; omega)).trans d1
      have hzs2 := Nat.lt_of_lt_of_le hzs1 hb2.size
      clear d0 d1 hzs1
      go_wp2_with fail
      refine (refRescale_any _ _ _ _ _).mono ?_
      rintro e w3 ⟨rfl, hb3⟩
      have g0 := (hb3.cell (p := ⟨w.heap.size, 0, none⟩) (by show w.heap.size < _; omega)).trans f0
      have g1 := (hb3.cell (p := ⟨w.heap.size, 1, none⟩) (by show w.heap.size < _; omega)).trans f1
      have hzs3 := Nat.lt_of_lt_of_le hzs2 hb3.size
      clear f0 f1 hzs2
      have hbb := below_two (below_two hbz hb2) hb3
      clear hbz hb2 hb3
      rw [X.out]
      generalize rsV n f t m = V at *
      go_wp2_with fail
      go_ret
      exact ⟨rfl, by repeat (first | exact hbb | apply below_drewN)⟩
    · obtain ⟨k1, k2, k3, k4⟩ := rs_back hx hl
      have hld : decide (t < f) = false := by rw [decide_eq_false_iff_not]; exact hl
      have X := Lib.hid hx
      have K1 := Lib.hid k1
      have K2 := Lib.hid k2
      have K3 := Lib.hid k3
      have K4 := Lib.hid k4
      clear hx hl k1 k2 k3 k4
      go_enter Tryd.func9, Tryd.ntmps9
      go_wp2_with fail
      have c0 : (w.alloc (.cells #[.int .i64 f, .int .i64 t] 38)).cell? ⟨w.heap.size, 0, none⟩ = some (.int .i64 f) := by simp [go_sem]
      have c1 : (w.alloc (.cells #[.int .i64 f, .int .i64 t] 38)).cell? ⟨w.heap.size, 1, none⟩ = some (.int .i64 t) := by simp [go_sem]
      have hz : Below w.heap.size w (w.alloc (.cells #[.int .i64 f, .int .i64 t] 38)) := (Below.refl _ _).alloc (Nat.le_refl _) _
      have hzs : w.heap.size < (w.alloc (.cells #[.int .i64 f, .int .i64 t] 38)).heap.size := by simp
      have hEz := hE.after hz
      generalize (w.alloc (.cells #[.int .i64 f, .int .i64 t] 38)) = wz at *
      refine (awake_true _ hEz).mono ?_
      rintro e w1 ⟨rfl, hb⟩
      have d0 := (hb.cell (p := ⟨w.heap.size, 0, none⟩) (by show w.heap.size < _; omega)).trans c0
      have d1 := (hb.cell (p := ⟨w.heap.size, 1, none⟩) (by show w.heap.size < _; omega)).trans c1
      have hbz := hz.trans (hb.mono (show w.heap.size ≤ wz.heap.size by omega))
      have hzs1 : w.heap.size < w1.heap.size := by have := hb.size; omega
      clear c0 c1 hz hzs hb hEz hE
      go_wp2_with fail
      refine (rescale_any _ _ _ _ _).mono ?_
      rintro e w2 ⟨rfl, hb2⟩
      have f0 := (hb2.cell (p := ⟨w.heap.size, 0, none⟩) (by show w.heap.size < _; omega)).trans d0
      have f1 := (hb2.cell (p := ⟨w.heap.size, 1, none⟩) (by show w.heap.size < _; omega)).trans d1
      have hzs2 := Nat.lt_of_lt_of_le hzs1 hb2.size
      clear d0 d1 hzs1
      go_wp2_with fail
      refine (refRescale_any _ _ _ _ _).mono ?_
      rintro e w3 ⟨rfl, hb3⟩
      have g0 := (hb3.cell (p := ⟨w.heap.size, 0, none⟩) (by show w.heap.size < _; omega)).trans f0
      have g1 := (hb3.cell (p := ⟨w.heap.size, 1, none⟩) (by show w.heap.size < _; omega)).trans f1
      have hzs3 := Nat.lt_of_lt_of_le hzs2 hb3.size
      clear f0 f1 hzs2
      have hbb := below_two (below_two hbz hb2) hb3
      clear hbz hb2 hb3
      rw [X.out]
      go_wp2_with fail
      refine (rescale_any _ _ _ _ _).mono ?_
      rintro e w4 ⟨rfl, hb4⟩
      rw [K1.out, K2.out]
      have h0 := (hb4.cell (p := ⟨w.heap.size, 0, none⟩) (by show w.heap.size < _; first | omega | (simp; omega))).trans (show _ = some (Value.int .i64 f) by first | assumption | (simpa using g0))
      have h1 := (hb4.cell (p := ⟨w.heap.size, 1, none⟩) (by show w.heap.size < _; first | omega | (simp; omega))).trans (show _ = some (Value.int .i64 t) by first | assumption | (simpa using g1))
      go_wp2_with fail
      refine (compare_any _ _ _ _ _).mono ?_
      rintro e w5 ⟨rfl, hb5⟩
      rw [K3.out, K4.out]
      go_wp2_with fail
      go_ret
      exact ⟨ret_bool (by simp), by repeat (first | exact hbb | exact below_two (below_two hbb hb4) hb5 | exact below_two (below_two (by repeat (first | exact hbb | apply below_drewN)) hb4) hb5 | apply below_drewN)⟩
  · have hx' := hx
    go_enter Tryd.func9, Tryd.ntmps9
    go_wp2_with fail
    have c0 : (w.alloc (.cells #[.int .i64 f, .int .i64 t] 38)).cell? ⟨w.heap.size, 0, none⟩ = some (.int .i64 f) := by simp [go_sem]
    have c1 : (w.alloc (.cells #[.int .i64 f, .int .i64 t] 38)).cell? ⟨w.heap.size, 1, none⟩ = some (.int .i64 t) := by simp [go_sem]
    have hz : Below w.heap.size w (w.alloc (.cells #[.int .i64 f, .int .i64 t] 38)) := (Below.refl _ _).alloc (Nat.le_refl _) _
    have hzs : w.heap.size < (w.alloc (.cells #[.int .i64 f, .int .i64 t] 38)).heap.size := by simp
    have hEz := hE.after hz
    generalize (w.alloc (.cells #[.int .i64 f, .int .i64 t] 38)) = wz at *
    refine (awake_true _ hEz).mono ?_
    rintro e w1 ⟨rfl, hb⟩
    have d0 := (hb.cell (p := ⟨w.heap.size, 0, none⟩) (by show w.heap.size < _; omega)).trans c0
    have d1 := (hb.cell (p := ⟨w.heap.size, 1, none⟩) (by show w.heap.size < _; omega)).trans c1
    have hbz := hz.trans (hb.mono (show w.heap.size ≤ wz.heap.size by omega))
    have hzs1 : w.heap.size < w1.heap.size := by have := hb.size; omega
    clear c0 c1 hz hzs hb hEz hE
    go_wp2_with fail
    refine (rescale_any _ _ _ _ _).mono ?_
    rintro e w2 ⟨rfl, hb2⟩
    have f0 := (hb2.cell (p := ⟨w.heap.size, 0, none⟩) (by show w.heap.size < _; omega)).trans d0
    have f1 := (hb2.cell (p := ⟨w.heap.size, 1, none⟩) (by show w.heap.size < _; omega)).trans d1
    have hzs2 := Nat.lt_of_lt_of_le hzs1 hb2.size
    clear d0 d1 hzs1
    go_wp2_with fail
    refine (refRescale_any _ _ _ _ _).mono ?_
    rintro e w3 ⟨rfl, hb3⟩
    have g0 := (hb3.cell (p := ⟨w.heap.size, 0, none⟩) (by show w.heap.size < _; omega)).trans f0
    have g1 := (hb3.cell (p := ⟨w.heap.size, 1, none⟩) (by show w.heap.size < _; omega)).trans f1
    have hzs3 := Nat.lt_of_lt_of_le hzs2 hb3.size
    clear f0 f1 hzs2
    have hbb := below_two (below_two hbz hb2) hb3
    clear hbz hb2 hb3
    generalize rsE n f t m = X at *
    generalize rsV n f t m = V at *
    go_wp2_with fail
    go_ret
    exact ⟨rfl, by repeat (first | exact hbb | apply below_drewN)⟩
end Go.Proofs.YtklpeibmjiolhaaDoor
