/-
  The law DecimalOrder.
-/
import Derived.Test.YtklpeibmjiolhaaDoorDecW7
import Derived.Test.YtklpeibmjiolhaaDoorDecMono
namespace Go.Proofs.YtklpeibmjiolhaaDoor
open Go.RowKit
set_option linter.unusedVariables false
theorem order_loop (x y den : Int) (hx1 : -1000000000000000000 ≤ x) (hx2 : x ≤ 1000000000000000000) (hy1 : -1000000000000000000 ≤ y) (hy2 : y ≤ 1000000000000000000) (hd : 1 ≤ den) (hd2 : den ≤ 65535) (m : Nat) (hm : m < 6) :
    rdE x den m = 0 ∧ rdE y den m = 0 ∧ rdV x den m = rdI x den m ∧ rdV y den m = rdI y den m := by
  have o : okMode (m : Int) = true := okMode_iff.2 ⟨by omega, by omega⟩
  obtain ⟨e1, e2⟩ := rdE_ok (n := x) (d := den) o ⟨hx1, hx2, by omega, by omega⟩ (by omega)
  obtain ⟨e3, e4⟩ := rdE_ok (n := y) (d := den) o ⟨hy1, hy2, by omega, by omega⟩ (by omega)
  exact ⟨e1, e3, e2, e4⟩
set_option maxHeartbeats 2000000 in
theorem lawOrder (a0 a1 b0 b1 den : Int) (w : World) (hE : Env w) (ha0 : -32768 ≤ a0 ∧ a0 ≤ 32767) (ha1 : -32768 ≤ a1 ∧ a1 ≤ 32767) (hb0 : -32768 ≤ b0 ∧ b0 ≤ 32767) (hb1 : -32768 ≤ b1 ∧ b1 ≤ 32767) (hden : 0 ≤ den ∧ den ≤ 65535) :
    Calls Tryd.prog 5 #[.agg #[.int .i16 a0, .int .i16 a1], .agg #[.int .i16 b0, .int .i16 b1], .int .u16 den] w fun e w' => e = .returned (.bool true) ∧ Below w.heap.size w w' := by
  obtain ⟨ha01, ha02⟩ := ha0
  obtain ⟨ha11, ha12⟩ := ha1
  obtain ⟨hb01, hb02⟩ := hb0
  obtain ⟨hb11, hb12⟩ := hb1
  obtain ⟨hden1, hden2⟩ := hden
  by_cases h0 : den = 0
  · subst h0
    go_enter Tryd.func5, Tryd.ntmps5
    go_wp2_with fail
    have c0 : ((w.alloc (.cells #[.int .i16 a0, .int .i16 a1] 31)).alloc (.cells #[.int .i16 b0, .int .i16 b1] 31)).cell? ⟨w.heap.size, 0, none⟩ = some (.int .i16 a0) := by simp [go_sem]
    have c1 : ((w.alloc (.cells #[.int .i16 a0, .int .i16 a1] 31)).alloc (.cells #[.int .i16 b0, .int .i16 b1] 31)).cell? ⟨w.heap.size, 1, none⟩ = some (.int .i16 a1) := by simp [go_sem]
    have c2 : ((w.alloc (.cells #[.int .i16 a0, .int .i16 a1] 31)).alloc (.cells #[.int .i16 b0, .int .i16 b1] 31)).cell? ⟨w.heap.size + 1, 0, none⟩ = some (.int .i16 b0) := by simp [go_sem]
    have c3 : ((w.alloc (.cells #[.int .i16 a0, .int .i16 a1] 31)).alloc (.cells #[.int .i16 b0, .int .i16 b1] 31)).cell? ⟨w.heap.size + 1, 1, none⟩ = some (.int .i16 b1) := by simp [go_sem]
    have hz : Below w.heap.size w ((w.alloc (.cells #[.int .i16 a0, .int .i16 a1] 31)).alloc (.cells #[.int .i16 b0, .int .i16 b1] 31)) := ((Below.refl _ _).alloc (Nat.le_refl _) _).alloc (by simp) _
    have hzs : w.heap.size + 1 < ((w.alloc (.cells #[.int .i16 a0, .int .i16 a1] 31)).alloc (.cells #[.int .i16 b0, .int .i16 b1] 31)).heap.size := by simp
    have hEz := hE.after hz
    generalize ((w.alloc (.cells #[.int .i16 a0, .int .i16 a1] 31)).alloc (.cells #[.int .i16 b0, .int .i16 b1] 31)) = wz at *
    refine (awake_true _ hEz).mono ?_
    rintro e w1 ⟨rfl, hb⟩
    have d0 := (hb.cell (p := ⟨w.heap.size, 0, none⟩) (by show w.heap.size < _; omega)).trans c0
    have d1 := (hb.cell (p := ⟨w.heap.size, 1, none⟩) (by show w.heap.size < _; omega)).trans c1
    have d2 := (hb.cell (p := ⟨w.heap.size + 1, 0, none⟩) (by show w.heap.size + 1 < _; omega)).trans c2
    have d3 := (hb.cell (p := ⟨w.heap.size + 1, 1, none⟩) (by show w.heap.size + 1 < _; omega)).trans c3
    have hbz := hz.trans (hb.mono (show w.heap.size ≤ wz.heap.size by omega))
    go_wp2_with fail
    refine (awake_true _ (hEz.after hb)).mono ?_
    rintro e w2 ⟨rfl, hb2⟩
    go_wp2_with fail
    go_ret
    exact ⟨rfl, below_two hbz hb2⟩
  have hd0 : (den == 0) = false := by rw [beq_eq_false_iff_ne]; exact h0
  have hd1 : 1 ≤ den := by omega
  clear h0
  by_cases hxy : 100000 * b0 + b1 < 100000 * a0 + a1
  · go_enter Tryd.func5, Tryd.ntmps5
    go_wp2_with fail
    have c0 : ((w.alloc (.cells #[.int .i16 a0, .int .i16 a1] 31)).alloc (.cells #[.int .i16 b0, .int .i16 b1] 31)).cell? ⟨w.heap.size, 0, none⟩ = some (.int .i16 a0) := by simp [go_sem]
    have c1 : ((w.alloc (.cells #[.int .i16 a0, .int .i16 a1] 31)).alloc (.cells #[.int .i16 b0, .int .i16 b1] 31)).cell? ⟨w.heap.size, 1, none⟩ = some (.int .i16 a1) := by simp [go_sem]
    have c2 : ((w.alloc (.cells #[.int .i16 a0, .int .i16 a1] 31)).alloc (.cells #[.int .i16 b0, .int .i16 b1] 31)).cell? ⟨w.heap.size + 1, 0, none⟩ = some (.int .i16 b0) := by simp [go_sem]
    have c3 : ((w.alloc (.cells #[.int .i16 a0, .int .i16 a1] 31)).alloc (.cells #[.int .i16 b0, .int .i16 b1] 31)).cell? ⟨w.heap.size + 1, 1, none⟩ = some (.int .i16 b1) := by simp [go_sem]
    have hz : Below w.heap.size w ((w.alloc (.cells #[.int .i16 a0, .int .i16 a1] 31)).alloc (.cells #[.int .i16 b0, .int .i16 b1] 31)) := ((Below.refl _ _).alloc (Nat.le_refl _) _).alloc (by simp) _
    have hzs : w.heap.size + 1 < ((w.alloc (.cells #[.int .i16 a0, .int .i16 a1] 31)).alloc (.cells #[.int .i16 b0, .int .i16 b1] 31)).heap.size := by simp
    have hEz := hE.after hz
    generalize ((w.alloc (.cells #[.int .i16 a0, .int .i16 a1] 31)).alloc (.cells #[.int .i16 b0, .int .i16 b1] 31)) = wz at *
    refine (awake_true _ hEz).mono ?_
    rintro e w1 ⟨rfl, hb⟩
    have d0 := (hb.cell (p := ⟨w.heap.size, 0, none⟩) (by show w.heap.size < _; omega)).trans c0
    have d1 := (hb.cell (p := ⟨w.heap.size, 1, none⟩) (by show w.heap.size < _; omega)).trans c1
    have d2 := (hb.cell (p := ⟨w.heap.size + 1, 0, none⟩) (by show w.heap.size + 1 < _; omega)).trans c2
    have d3 := (hb.cell (p := ⟨w.heap.size + 1, 1, none⟩) (by show w.heap.size + 1 < _; omega)).trans c3
    have hbz := hz.trans (hb.mono (show w.heap.size ≤ wz.heap.size by omega))
    go_wp2_with fail
    go_quiet (fail)
    go_wp2_with fail
    have OL := Lib.hid (order_loop (100000 * b0 + b1) (100000 * a0 + a1) den (by omega) (by omega) (by omega) (by omega) hd1 hden2)
    have MO := Lib.hid (fun m => rdI_mono (d := den) m (by omega) (show 100000 * b0 + b1 ≤ 100000 * a0 + a1 by omega))

    go_loopw [9] (fun i wr => ∃ m : Nat, m ≤ 6 ∧ i = .int .i64 m ∧ Below w.heap.size w wr) (fun i _ => (6 - intOf i).toNat)
    case atStart => exact ⟨0, by omega, rfl, by repeat (first | exact hbz | apply below_drewN)⟩
    case round =>
      obtain ⟨m, hm, rfl, hbr⟩ := hrel
      obtain ⟨wo, rfl⟩ : ∃ wo : World, wo = wr := ⟨_, rfl⟩
      by_cases hlt : m < 6
      · obtain ⟨e1, e2, e3, e4⟩ := OL.out m hlt
        have mo := MO.out (m : Int)
        have E1 := Lib.hid e1
        have E2 := Lib.hid e2
        have E3 := Lib.hid e3
        have E4 := Lib.hid e4
        clear e1 e2 e3 e4
        go_wp2_with fail
        refine (Round_any _ _ _ _).mono ?_
        rintro e w2 ⟨rfl, hb2⟩
        rw [E1.out, E3.out]
        go_wp2_with fail
        refine (Round_any _ _ _ _).mono ?_
        rintro e w3 ⟨rfl, hb3⟩
        rw [E2.out, E4.out]
        go_wp2_with fail
        go_round
        case rel => exact ⟨m + 1, by omega, by go_num, below_two hbr (below_two hb2 hb3)⟩
        case measure => simp [intOf]; omega
      · obtain rfl : m = 6 := by omega
        clear hlt
        go_wp2_with fail
        go_ret
        exact ⟨rfl, hbr⟩
  · have hxd : decide (100000 * b0 + b1 < 100000 * a0 + a1) = false := by rw [decide_eq_false_iff_not]; exact hxy
    have hxy' : 100000 * a0 + a1 ≤ 100000 * b0 + b1 := by omega
    clear hxy
    go_enter Tryd.func5, Tryd.ntmps5
    go_wp2_with fail
    have c0 : ((w.alloc (.cells #[.int .i16 a0, .int .i16 a1] 31)).alloc (.cells #[.int .i16 b0, .int .i16 b1] 31)).cell? ⟨w.heap.size, 0, none⟩ = some (.int .i16 a0) := by simp [go_sem]
    have c1 : ((w.alloc (.cells #[.int .i16 a0, .int .i16 a1] 31)).alloc (.cells #[.int .i16 b0, .int .i16 b1] 31)).cell? ⟨w.heap.size, 1, none⟩ = some (.int .i16 a1) := by simp [go_sem]
    have c2 : ((w.alloc (.cells #[.int .i16 a0, .int .i16 a1] 31)).alloc (.cells #[.int .i16 b0, .int .i16 b1] 31)).cell? ⟨w.heap.size + 1, 0, none⟩ = some (.int .i16 b0) := by simp [go_sem]
    have c3 : ((w.alloc (.cells #[.int .i16 a0, .int .i16 a1] 31)).alloc (.cells #[.int .i16 b0, .int .i16 b1] 31)).cell? ⟨w.heap.size + 1, 1, none⟩ = some (.int .i16 b1) := by simp [go_sem]
    have hz : Below w.heap.size w ((w.alloc (.cells #[.int .i16 a0, .int .i16 a1] 31)).alloc (.cells #[.int .i16 b0, .int .i16 b1] 31)) := ((Below.refl _ _).alloc (Nat.le_refl _) _).alloc (by simp) _
    have hzs : w.heap.size + 1 < ((w.alloc (.cells #[.int .i16 a0, .int .i16 a1] 31)).alloc (.cells #[.int .i16 b0, .int .i16 b1] 31)).heap.size := by simp
    have hEz := hE.after hz
    generalize ((w.alloc (.cells #[.int .i16 a0, .int .i16 a1] 31)).alloc (.cells #[.int .i16 b0, .int .i16 b1] 31)) = wz at *
    refine (awake_true _ hEz).mono ?_
    rintro e w1 ⟨rfl, hb⟩
    have d0 := (hb.cell (p := ⟨w.heap.size, 0, none⟩) (by show w.heap.size < _; omega)).trans c0
    have d1 := (hb.cell (p := ⟨w.heap.size, 1, none⟩) (by show w.heap.size < _; omega)).trans c1
    have d2 := (hb.cell (p := ⟨w.heap.size + 1, 0, none⟩) (by show w.heap.size + 1 < _; omega)).trans c2
    have d3 := (hb.cell (p := ⟨w.heap.size + 1, 1, none⟩) (by show w.heap.size + 1 < _; omega)).trans c3
    have hbz := hz.trans (hb.mono (show w.heap.size ≤ wz.heap.size by omega))
    go_wp2_with fail
    go_quiet (fail)
    go_wp2_with fail
    have OL := Lib.hid (order_loop (100000 * a0 + a1) (100000 * b0 + b1) den (by omega) (by omega) (by omega) (by omega) hd1 hden2)
    have MO := Lib.hid (fun m => rdI_mono (d := den) m (by omega) hxy')
    go_loopw [9] (fun i wr => ∃ m : Nat, m ≤ 6 ∧ i = .int .i64 m ∧ Below w.heap.size w wr) (fun i _ => (6 - intOf i).toNat)
    case atStart => exact ⟨0, by omega, rfl, by repeat (first | exact hbz | apply below_drewN)⟩
    case round =>
      obtain ⟨m, hm, rfl, hbr⟩ := hrel
      obtain ⟨wo, rfl⟩ : ∃ wo : World, wo = wr := ⟨_, rfl⟩
      by_cases hlt : m < 6
      · obtain ⟨e1, e2, e3, e4⟩ := OL.out m hlt
        have mo := MO.out (m : Int)
        have E1 := Lib.hid e1
        have E2 := Lib.hid e2
        have E3 := Lib.hid e3
        have E4 := Lib.hid e4
        clear e1 e2 e3 e4
        go_wp2_with fail
        refine (Round_any _ _ _ _).mono ?_
        rintro e w2 ⟨rfl, hb2⟩
        rw [E1.out, E3.out]
        go_wp2_with fail
        refine (Round_any _ _ _ _).mono ?_
        rintro e w3 ⟨rfl, hb3⟩
        rw [E2.out, E4.out]
        go_wp2_with fail
        go_round
        case rel => exact ⟨m + 1, by omega, by go_num, below_two hbr (below_two hb2 hb3)⟩
        case measure => simp [intOf]; omega
      · obtain rfl : m = 6 := by omega
        clear hlt
        go_wp2_with fail
        go_ret
        exact ⟨rfl, hbr⟩
end Go.Proofs.YtklpeibmjiolhaaDoor
