/-
  The law DecimalCompare.
-/
import Derived.Test.YtklpeibmjiolhaaDoorDecW9
namespace Go.Proofs.YtklpeibmjiolhaaDoor
open Go.RowKit
set_option linter.unusedVariables false
set_option maxHeartbeats 2000000 in
theorem lawCompare (a0 a1 b0 b1 : Int) (w : World) (hE : Env w) :
    Calls Tryd.prog 8 #[.agg #[.int .i64 a0, .int .i64 a1], .agg #[.int .i64 b0, .int .i64 b1]] w fun e w' => e = .returned (.bool true) ∧ Below w.heap.size w w' := by
  obtain ⟨s1, s2⟩ := cp_swap a0 a1 b0 b1
  obtain ⟨v1, v2⟩ := cpV_bd a0 a1 b0 b1
  have S1 := Lib.hid s1
  have S2 := Lib.hid s2
  clear s1 s2
  go_enter Tryd.func8, Tryd.ntmps8
  go_wp2_with fail
  have c0 : ((w.alloc (.cells #[.int .i64 a0, .int .i64 a1] 38)).alloc (.cells #[.int .i64 b0, .int .i64 b1] 38)).cell? ⟨w.heap.size, 0, none⟩ = some (.int .i64 a0) := by simp [go_sem]
  have c1 : ((w.alloc (.cells #[.int .i64 a0, .int .i64 a1] 38)).alloc (.cells #[.int .i64 b0, .int .i64 b1] 38)).cell? ⟨w.heap.size, 1, none⟩ = some (.int .i64 a1) := by simp [go_sem]
  have c2 : ((w.alloc (.cells #[.int .i64 a0, .int .i64 a1] 38)).alloc (.cells #[.int .i64 b0, .int .i64 b1] 38)).cell? ⟨w.heap.size + 1, 0, none⟩ = some (.int .i64 b0) := by simp [go_sem]
  have c3 : ((w.alloc (.cells #[.int .i64 a0, .int .i64 a1] 38)).alloc (.cells #[.int .i64 b0, .int .i64 b1] 38)).cell? ⟨w.heap.size + 1, 1, none⟩ = some (.int .i64 b1) := by simp [go_sem]
  have hz : Below w.heap.size w ((w.alloc (.cells #[.int .i64 a0, .int .i64 a1] 38)).alloc (.cells #[.int .i64 b0, .int .i64 b1] 38)) := ((Below.refl _ _).alloc (Nat.le_refl _) _).alloc (by simp) _
  have hzs : w.heap.size + 1 < ((w.alloc (.cells #[.int .i64 a0, .int .i64 a1] 38)).alloc (.cells #[.int .i64 b0, .int .i64 b1] 38)).heap.size := by simp
  have hEz := hE.after hz
  generalize ((w.alloc (.cells #[.int .i64 a0, .int .i64 a1] 38)).alloc (.cells #[.int .i64 b0, .int .i64 b1] 38)) = wz at *
  refine (awake_true _ hEz).mono ?_
  rintro e w1 ⟨rfl, hb⟩
  have d0 := (hb.cell (p := ⟨w.heap.size, 0, none⟩) (by show w.heap.size < _; omega)).trans c0
  have d1 := (hb.cell (p := ⟨w.heap.size, 1, none⟩) (by show w.heap.size < _; omega)).trans c1
  have d2 := (hb.cell (p := ⟨w.heap.size + 1, 0, none⟩) (by show w.heap.size + 1 < _; omega)).trans c2
  have d3 := (hb.cell (p := ⟨w.heap.size + 1, 1, none⟩) (by show w.heap.size + 1 < _; omega)).trans c3
  have hbz := hz.trans (hb.mono (show w.heap.size ≤ wz.heap.size by omega))
  have hzs1 : w.heap.size + 1 < w1.heap.size := by have := hb.size; omega
  clear c0 c1 c2 c3 hz hzs hb hEz hE
  go_wp2_with fail
  refine (compare_any _ _ _ _ _).mono ?_
  rintro e w2 ⟨rfl, hb2⟩
  have f0 := (hb2.cell (p := ⟨w.heap.size, 0, none⟩) (by show w.heap.size < _; omega)).trans d0
  have f1 := (hb2.cell (p := ⟨w.heap.size, 1, none⟩) (by show w.heap.size < _; omega)).trans d1
  have f2 := (hb2.cell (p := ⟨w.heap.size + 1, 0, none⟩) (by show w.heap.size + 1 < _; omega)).trans d2
  have f3 := (hb2.cell (p := ⟨w.heap.size + 1, 1, none⟩) (by show w.heap.size + 1 < _; omega)).trans d3
  have hzs2 := Nat.lt_of_lt_of_le hzs1 hb2.size
  clear d0 d1 d2 d3 hzs1
  go_wp2_with fail
  refine (refCompare_any _ _ _ _ _).mono ?_
  rintro e w3 ⟨rfl, hb3⟩
  have g0 := (hb3.cell (p := ⟨w.heap.size, 0, none⟩) (by show w.heap.size < _; omega)).trans f0
  have g1 := (hb3.cell (p := ⟨w.heap.size, 1, none⟩) (by show w.heap.size < _; omega)).trans f1
  have g2 := (hb3.cell (p := ⟨w.heap.size + 1, 0, none⟩) (by show w.heap.size + 1 < _; omega)).trans f2
  have g3 := (hb3.cell (p := ⟨w.heap.size + 1, 1, none⟩) (by show w.heap.size + 1 < _; omega)).trans f3
  have hzs3 := Nat.lt_of_lt_of_le hzs2 hb3.size
  clear f0 f1 f2 f3 hzs2
  go_wp2_with fail
  refine (compare_any _ _ _ _ _).mono ?_
  rintro e w4 ⟨rfl, hb4⟩
  rw [S1.out, S2.out]
  generalize cpV a0 a1 b0 b1 = V at *
  generalize cpE a0 a1 b0 b1 = X at *
  go_wp2_with fail
  go_ret
  exact ⟨ret_bool (by simp), by repeat (first | exact below_two (below_two (below_two hbz hb2) hb3) hb4 | apply below_drewN)⟩
end Go.Proofs.YtklpeibmjiolhaaDoor
