/-
  The law CellOrder. (printed by wip/tools/gen_cel21.py)
-/
import Derived.Test.YtophffmofpmbpaaDoorCel20
namespace Go.Proofs.YtophffmofpmbpaaDoor
open Go.RowKit
set_option linter.unusedVariables false
set_option maxRecDepth 100000 in
set_option maxHeartbeats 4000000 in
theorem ord_x0 (st en ot pe st' en' ot' pe' stq enq otq peq Y Z : Int) (w : World) (hE : Env w) (hEE : EnvE w)
    (q5 : (st == st') = false)
    (HAB : Hid (∀ w, Calls Tryd.prog 25 #[.agg #[.int .i64 st, .int .i64 en, .int .i64 ot, .int .i64 pe], .agg #[.int .i64 st', .int .i64 en', .int .i64 ot', .int .i64 pe']] w fun e w' => e = .returned (.int .i64 1) ∧ Below w.heap.size w w'))
    (HABr : Hid (∀ w, Calls Tryd.prog 26 #[.agg #[.int .i64 st, .int .i64 en, .int .i64 ot, .int .i64 pe], .agg #[.int .i64 st', .int .i64 en', .int .i64 ot', .int .i64 pe']] w fun e w' => e = .returned (.int .i64 1) ∧ Below w.heap.size w w'))
    (HBA : Hid (∀ w, Calls Tryd.prog 25 #[.agg #[.int .i64 st', .int .i64 en', .int .i64 ot', .int .i64 pe'], .agg #[.int .i64 st, .int .i64 en, .int .i64 ot, .int .i64 pe]] w fun e w' => e = .returned (.int .i64 (-1)) ∧ Below w.heap.size w w'))
    (HAA : Hid (∀ w, Calls Tryd.prog 25 #[.agg #[.int .i64 st, .int .i64 en, .int .i64 ot, .int .i64 pe], .agg #[.int .i64 st, .int .i64 en, .int .i64 ot, .int .i64 pe]] w fun e w' => e = .returned (.int .i64 0) ∧ Below w.heap.size w w'))
    (HBC : Hid (∀ w, Calls Tryd.prog 25 #[.agg #[.int .i64 st', .int .i64 en', .int .i64 ot', .int .i64 pe'], .agg #[.int .i64 stq, .int .i64 enq, .int .i64 otq, .int .i64 peq]] w fun e w' => e = .returned (.int .i64 Y) ∧ Below w.heap.size w w'))
    (HAC : Hid (∀ w, Calls Tryd.prog 25 #[.agg #[.int .i64 st, .int .i64 en, .int .i64 ot, .int .i64 pe], .agg #[.int .i64 stq, .int .i64 enq, .int .i64 otq, .int .i64 peq]] w fun e w' => e = .returned (.int .i64 Z) ∧ Below w.heap.size w w')) :
    Calls Tryd.prog 7 #[.agg #[.int .i64 st, .int .i64 en, .int .i64 ot, .int .i64 pe], .agg #[.int .i64 st', .int .i64 en', .int .i64 ot', .int .i64 pe'], .agg #[.int .i64 stq, .int .i64 enq, .int .i64 otq, .int .i64 peq]] w fun e w' => e = .returned (.bool true) ∧ Below w.heap.size w w' := by
  have HX0 := Lib.hid (((Blk.new w 23 #[.int .i64 st, .int .i64 en, .int .i64 ot, .int .i64 pe]).alloc (.cells (#[.int .i64 st', .int .i64 en', .int .i64 ot', .int .i64 pe'] : Array Value) 23)).alloc (.cells (#[.int .i64 stq, .int .i64 enq, .int .i64 otq, .int .i64 peq] : Array Value) 23))
  have hy0 := (Blk.new (w.alloc (.cells (#[.int .i64 st, .int .i64 en, .int .i64 ot, .int .i64 pe] : Array Value) 23)) 23 #[.int .i64 st', .int .i64 en', .int .i64 ot', .int .i64 pe']).alloc (.cells (#[.int .i64 stq, .int .i64 enq, .int .i64 otq, .int .i64 peq] : Array Value) 23)
  have hz0 := Blk.new ((w.alloc (.cells (#[.int .i64 st, .int .i64 en, .int .i64 ot, .int .i64 pe] : Array Value) 23)).alloc (.cells (#[.int .i64 st', .int .i64 en', .int .i64 ot', .int .i64 pe'] : Array Value) 23)) 23 #[.int .i64 stq, .int .i64 enq, .int .i64 otq, .int .i64 peq]
  rw [World.size_alloc] at hy0
  rw [World.size_alloc, World.size_alloc] at hz0
  have HY0 := Lib.hid hy0
  have HZ0 := Lib.hid hz0
  clear hy0 hz0
  have HB0 := Lib.hid ((((Below.refl w.heap.size w).alloc (Nat.le_refl _) (.cells (#[.int .i64 st, .int .i64 en, .int .i64 ot, .int .i64 pe] : Array Value) 23)).alloc (by simp) (.cells (#[.int .i64 st', .int .i64 en', .int .i64 ot', .int .i64 pe'] : Array Value) 23)).alloc (by simp; omega) (.cells (#[.int .i64 stq, .int .i64 enq, .int .i64 otq, .int .i64 peq] : Array Value) 23))
  have HE0 := Lib.hid (hE.after HB0.out)
  have HEE0 := Lib.hid (hEE.below HB0.out hE.size)
  go_enter Tryd.func7, Tryd.ntmps7
  go_wp2_with fail
  refine (awake_true _ HE0.out HEE0.out).mono ?_
  rintro e w1 ⟨rfl, hb⟩
  have HB1 := Lib.hid (below_two HB0.out hb)
  have HX1 := Lib.hid (HX0.out.below hb HX0.out.lt)
  have HY1 := Lib.hid (HY0.out.below hb HY0.out.lt)
  have HZ1 := Lib.hid (HZ0.out.below hb HZ0.out.lt)
  clear hb HB0 HX0 HY0 HZ0
  obtain ⟨x0, x1, x2, x3⟩ := st_blk HX1.out
  obtain ⟨y0, y1', y2, y3⟩ := st_blk HY1.out
  obtain ⟨z0, z1', z2, z3⟩ := st_blk HZ1.out
  go_wp2_with fail
  refine (HAB.out _).mono ?_
  rintro e w2 ⟨rfl, hb⟩
  have HB2 := Lib.hid (below_two HB1.out hb)
  have HX2 := Lib.hid (HX1.out.below hb HX1.out.lt)
  have HY2 := Lib.hid (HY1.out.below hb HY1.out.lt)
  have HZ2 := Lib.hid (HZ1.out.below hb HZ1.out.lt)
  clear hb HB1 HX1 HY1 HZ1 x0 x1 x2 x3 y0 y1' y2 y3 z0 z1' z2 z3
  obtain ⟨x0, x1, x2, x3⟩ := st_blk HX2.out
  obtain ⟨y0, y1', y2, y3⟩ := st_blk HY2.out
  obtain ⟨z0, z1', z2, z3⟩ := st_blk HZ2.out
  go_wp2_with fail
  refine (HABr.out _).mono ?_
  rintro e w3 ⟨rfl, hb⟩
  have HB3 := Lib.hid (below_two HB2.out hb)
  have HX3 := Lib.hid (HX2.out.below hb HX2.out.lt)
  have HY3 := Lib.hid (HY2.out.below hb HY2.out.lt)
  have HZ3 := Lib.hid (HZ2.out.below hb HZ2.out.lt)
  clear hb HB2 HX2 HY2 HZ2 x0 x1 x2 x3 y0 y1' y2 y3 z0 z1' z2 z3
  obtain ⟨x0, x1, x2, x3⟩ := st_blk HX3.out
  obtain ⟨y0, y1', y2, y3⟩ := st_blk HY3.out
  obtain ⟨z0, z1', z2, z3⟩ := st_blk HZ3.out
  go_wp2_with fail
  refine (HBA.out _).mono ?_
  rintro e w4 ⟨rfl, hb⟩
  have HB4 := Lib.hid (below_two HB3.out hb)
  have HX4 := Lib.hid (HX3.out.below hb HX3.out.lt)
  have HY4 := Lib.hid (HY3.out.below hb HY3.out.lt)
  have HZ4 := Lib.hid (HZ3.out.below hb HZ3.out.lt)
  clear hb HB3 HX3 HY3 HZ3 x0 x1 x2 x3 y0 y1' y2 y3 z0 z1' z2 z3
  obtain ⟨x0, x1, x2, x3⟩ := st_blk HX4.out
  obtain ⟨y0, y1', y2, y3⟩ := st_blk HY4.out
  obtain ⟨z0, z1', z2, z3⟩ := st_blk HZ4.out
  go_wp2_with fail
  refine (HAA.out _).mono ?_
  rintro e w5 ⟨rfl, hb⟩
  have HB5 := Lib.hid (below_two HB4.out hb)
  have HX5 := Lib.hid (HX4.out.below hb HX4.out.lt)
  have HY5 := Lib.hid (HY4.out.below hb HY4.out.lt)
  have HZ5 := Lib.hid (HZ4.out.below hb HZ4.out.lt)
  clear hb HB4 HX4 HY4 HZ4 x0 x1 x2 x3 y0 y1' y2 y3 z0 z1' z2 z3
  obtain ⟨x0, x1, x2, x3⟩ := st_blk HX5.out
  obtain ⟨y0, y1', y2, y3⟩ := st_blk HY5.out
  obtain ⟨z0, z1', z2, z3⟩ := st_blk HZ5.out
  go_wp2_with fail
  go_ret
  exact ⟨rfl, HB5.out⟩
set_option maxRecDepth 100000 in
set_option maxHeartbeats 4000000 in
theorem ord_y0 (st en ot pe st' en' ot' pe' stq enq otq peq Y Z : Int) (w : World) (hE : Env w) (hEE : EnvE w)
    (q5 : (st == st') = false)
    (y1 : decide (0 < Y) = true)
    (HAB : Hid (∀ w, Calls Tryd.prog 25 #[.agg #[.int .i64 st, .int .i64 en, .int .i64 ot, .int .i64 pe], .agg #[.int .i64 st', .int .i64 en', .int .i64 ot', .int .i64 pe']] w fun e w' => e = .returned (.int .i64 (-1)) ∧ Below w.heap.size w w'))
    (HABr : Hid (∀ w, Calls Tryd.prog 26 #[.agg #[.int .i64 st, .int .i64 en, .int .i64 ot, .int .i64 pe], .agg #[.int .i64 st', .int .i64 en', .int .i64 ot', .int .i64 pe']] w fun e w' => e = .returned (.int .i64 (-1)) ∧ Below w.heap.size w w'))
    (HBA : Hid (∀ w, Calls Tryd.prog 25 #[.agg #[.int .i64 st', .int .i64 en', .int .i64 ot', .int .i64 pe'], .agg #[.int .i64 st, .int .i64 en, .int .i64 ot, .int .i64 pe]] w fun e w' => e = .returned (.int .i64 1) ∧ Below w.heap.size w w'))
    (HAA : Hid (∀ w, Calls Tryd.prog 25 #[.agg #[.int .i64 st, .int .i64 en, .int .i64 ot, .int .i64 pe], .agg #[.int .i64 st, .int .i64 en, .int .i64 ot, .int .i64 pe]] w fun e w' => e = .returned (.int .i64 0) ∧ Below w.heap.size w w'))
    (HBC : Hid (∀ w, Calls Tryd.prog 25 #[.agg #[.int .i64 st', .int .i64 en', .int .i64 ot', .int .i64 pe'], .agg #[.int .i64 stq, .int .i64 enq, .int .i64 otq, .int .i64 peq]] w fun e w' => e = .returned (.int .i64 Y) ∧ Below w.heap.size w w'))
    (HAC : Hid (∀ w, Calls Tryd.prog 25 #[.agg #[.int .i64 st, .int .i64 en, .int .i64 ot, .int .i64 pe], .agg #[.int .i64 stq, .int .i64 enq, .int .i64 otq, .int .i64 peq]] w fun e w' => e = .returned (.int .i64 Z) ∧ Below w.heap.size w w')) :
    Calls Tryd.prog 7 #[.agg #[.int .i64 st, .int .i64 en, .int .i64 ot, .int .i64 pe], .agg #[.int .i64 st', .int .i64 en', .int .i64 ot', .int .i64 pe'], .agg #[.int .i64 stq, .int .i64 enq, .int .i64 otq, .int .i64 peq]] w fun e w' => e = .returned (.bool true) ∧ Below w.heap.size w w' := by
  have HX0 := Lib.hid (((Blk.new w 23 #[.int .i64 st, .int .i64 en, .int .i64 ot, .int .i64 pe]).alloc (.cells (#[.int .i64 st', .int .i64 en', .int .i64 ot', .int .i64 pe'] : Array Value) 23)).alloc (.cells (#[.int .i64 stq, .int .i64 enq, .int .i64 otq, .int .i64 peq] : Array Value) 23))
  have hy0 := (Blk.new (w.alloc (.cells (#[.int .i64 st, .int .i64 en, .int .i64 ot, .int .i64 pe] : Array Value) 23)) 23 #[.int .i64 st', .int .i64 en', .int .i64 ot', .int .i64 pe']).alloc (.cells (#[.int .i64 stq, .int .i64 enq, .int .i64 otq, .int .i64 peq] : Array Value) 23)
  have hz0 := Blk.new ((w.alloc (.cells (#[.int .i64 st, .int .i64 en, .int .i64 ot, .int .i64 pe] : Array Value) 23)).alloc (.cells (#[.int .i64 st', .int .i64 en', .int .i64 ot', .int .i64 pe'] : Array Value) 23)) 23 #[.int .i64 stq, .int .i64 enq, .int .i64 otq, .int .i64 peq]
  rw [World.size_alloc] at hy0
  rw [World.size_alloc, World.size_alloc] at hz0
  have HY0 := Lib.hid hy0
  have HZ0 := Lib.hid hz0
  clear hy0 hz0
  have HB0 := Lib.hid ((((Below.refl w.heap.size w).alloc (Nat.le_refl _) (.cells (#[.int .i64 st, .int .i64 en, .int .i64 ot, .int .i64 pe] : Array Value) 23)).alloc (by simp) (.cells (#[.int .i64 st', .int .i64 en', .int .i64 ot', .int .i64 pe'] : Array Value) 23)).alloc (by simp; omega) (.cells (#[.int .i64 stq, .int .i64 enq, .int .i64 otq, .int .i64 peq] : Array Value) 23))
  have HE0 := Lib.hid (hE.after HB0.out)
  have HEE0 := Lib.hid (hEE.below HB0.out hE.size)
  go_enter Tryd.func7, Tryd.ntmps7
  go_wp2_with fail
  refine (awake_true _ HE0.out HEE0.out).mono ?_
  rintro e w1 ⟨rfl, hb⟩
  have HB1 := Lib.hid (below_two HB0.out hb)
  have HX1 := Lib.hid (HX0.out.below hb HX0.out.lt)
  have HY1 := Lib.hid (HY0.out.below hb HY0.out.lt)
  have HZ1 := Lib.hid (HZ0.out.below hb HZ0.out.lt)
  clear hb HB0 HX0 HY0 HZ0
  obtain ⟨x0, x1, x2, x3⟩ := st_blk HX1.out
  obtain ⟨y0, y1', y2, y3⟩ := st_blk HY1.out
  obtain ⟨z0, z1', z2, z3⟩ := st_blk HZ1.out
  go_wp2_with fail
  refine (HAB.out _).mono ?_
  rintro e w2 ⟨rfl, hb⟩
  have HB2 := Lib.hid (below_two HB1.out hb)
  have HX2 := Lib.hid (HX1.out.below hb HX1.out.lt)
  have HY2 := Lib.hid (HY1.out.below hb HY1.out.lt)
  have HZ2 := Lib.hid (HZ1.out.below hb HZ1.out.lt)
  clear hb HB1 HX1 HY1 HZ1 x0 x1 x2 x3 y0 y1' y2 y3 z0 z1' z2 z3
  obtain ⟨x0, x1, x2, x3⟩ := st_blk HX2.out
  obtain ⟨y0, y1', y2, y3⟩ := st_blk HY2.out
  obtain ⟨z0, z1', z2, z3⟩ := st_blk HZ2.out
  go_wp2_with fail
  refine (HABr.out _).mono ?_
  rintro e w3 ⟨rfl, hb⟩
  have HB3 := Lib.hid (below_two HB2.out hb)
  have HX3 := Lib.hid (HX2.out.below hb HX2.out.lt)
  have HY3 := Lib.hid (HY2.out.below hb HY2.out.lt)
  have HZ3 := Lib.hid (HZ2.out.below hb HZ2.out.lt)
  clear hb HB2 HX2 HY2 HZ2 x0 x1 x2 x3 y0 y1' y2 y3 z0 z1' z2 z3
  obtain ⟨x0, x1, x2, x3⟩ := st_blk HX3.out
  obtain ⟨y0, y1', y2, y3⟩ := st_blk HY3.out
  obtain ⟨z0, z1', z2, z3⟩ := st_blk HZ3.out
  go_wp2_with fail
  refine (HBA.out _).mono ?_
  rintro e w4 ⟨rfl, hb⟩
  have HB4 := Lib.hid (below_two HB3.out hb)
  have HX4 := Lib.hid (HX3.out.below hb HX3.out.lt)
  have HY4 := Lib.hid (HY3.out.below hb HY3.out.lt)
  have HZ4 := Lib.hid (HZ3.out.below hb HZ3.out.lt)
  clear hb HB3 HX3 HY3 HZ3 x0 x1 x2 x3 y0 y1' y2 y3 z0 z1' z2 z3
  obtain ⟨x0, x1, x2, x3⟩ := st_blk HX4.out
  obtain ⟨y0, y1', y2, y3⟩ := st_blk HY4.out
  obtain ⟨z0, z1', z2, z3⟩ := st_blk HZ4.out
  go_wp2_with fail
  refine (HAA.out _).mono ?_
  rintro e w5 ⟨rfl, hb⟩
  have HB5 := Lib.hid (below_two HB4.out hb)
  have HX5 := Lib.hid (HX4.out.below hb HX4.out.lt)
  have HY5 := Lib.hid (HY4.out.below hb HY4.out.lt)
  have HZ5 := Lib.hid (HZ4.out.below hb HZ4.out.lt)
  clear hb HB4 HX4 HY4 HZ4 x0 x1 x2 x3 y0 y1' y2 y3 z0 z1' z2 z3
  obtain ⟨x0, x1, x2, x3⟩ := st_blk HX5.out
  obtain ⟨y0, y1', y2, y3⟩ := st_blk HY5.out
  obtain ⟨z0, z1', z2, z3⟩ := st_blk HZ5.out
  go_wp2_with fail
  refine (HBC.out _).mono ?_
  rintro e w6 ⟨rfl, hb⟩
  have HB6 := Lib.hid (below_two HB5.out hb)
  have HX6 := Lib.hid (HX5.out.below hb HX5.out.lt)
  have HY6 := Lib.hid (HY5.out.below hb HY5.out.lt)
  have HZ6 := Lib.hid (HZ5.out.below hb HZ5.out.lt)
  clear hb HB5 HX5 HY5 HZ5 x0 x1 x2 x3 y0 y1' y2 y3 z0 z1' z2 z3
  obtain ⟨x0, x1, x2, x3⟩ := st_blk HX6.out
  obtain ⟨y0, y1', y2, y3⟩ := st_blk HY6.out
  obtain ⟨z0, z1', z2, z3⟩ := st_blk HZ6.out
  go_wp2_with fail
  go_ret
  exact ⟨rfl, HB6.out⟩
set_option maxRecDepth 100000 in
set_option maxHeartbeats 4000000 in
theorem ord_z0 (st en ot pe st' en' ot' pe' stq enq otq peq Y Z : Int) (w : World) (hE : Env w) (hEE : EnvE w)
    (q5 : (st == st') = false)
    (y1 : decide (0 < Y) = false) (z1 : decide (Z ≤ 0) = true)
    (HAB : Hid (∀ w, Calls Tryd.prog 25 #[.agg #[.int .i64 st, .int .i64 en, .int .i64 ot, .int .i64 pe], .agg #[.int .i64 st', .int .i64 en', .int .i64 ot', .int .i64 pe']] w fun e w' => e = .returned (.int .i64 (-1)) ∧ Below w.heap.size w w'))
    (HABr : Hid (∀ w, Calls Tryd.prog 26 #[.agg #[.int .i64 st, .int .i64 en, .int .i64 ot, .int .i64 pe], .agg #[.int .i64 st', .int .i64 en', .int .i64 ot', .int .i64 pe']] w fun e w' => e = .returned (.int .i64 (-1)) ∧ Below w.heap.size w w'))
    (HBA : Hid (∀ w, Calls Tryd.prog 25 #[.agg #[.int .i64 st', .int .i64 en', .int .i64 ot', .int .i64 pe'], .agg #[.int .i64 st, .int .i64 en, .int .i64 ot, .int .i64 pe]] w fun e w' => e = .returned (.int .i64 1) ∧ Below w.heap.size w w'))
    (HAA : Hid (∀ w, Calls Tryd.prog 25 #[.agg #[.int .i64 st, .int .i64 en, .int .i64 ot, .int .i64 pe], .agg #[.int .i64 st, .int .i64 en, .int .i64 ot, .int .i64 pe]] w fun e w' => e = .returned (.int .i64 0) ∧ Below w.heap.size w w'))
    (HBC : Hid (∀ w, Calls Tryd.prog 25 #[.agg #[.int .i64 st', .int .i64 en', .int .i64 ot', .int .i64 pe'], .agg #[.int .i64 stq, .int .i64 enq, .int .i64 otq, .int .i64 peq]] w fun e w' => e = .returned (.int .i64 Y) ∧ Below w.heap.size w w'))
    (HAC : Hid (∀ w, Calls Tryd.prog 25 #[.agg #[.int .i64 st, .int .i64 en, .int .i64 ot, .int .i64 pe], .agg #[.int .i64 stq, .int .i64 enq, .int .i64 otq, .int .i64 peq]] w fun e w' => e = .returned (.int .i64 Z) ∧ Below w.heap.size w w')) :
    Calls Tryd.prog 7 #[.agg #[.int .i64 st, .int .i64 en, .int .i64 ot, .int .i64 pe], .agg #[.int .i64 st', .int .i64 en', .int .i64 ot', .int .i64 pe'], .agg #[.int .i64 stq, .int .i64 enq, .int .i64 otq, .int .i64 peq]] w fun e w' => e = .returned (.bool true) ∧ Below w.heap.size w w' := by
  have HX0 := Lib.hid (((Blk.new w 23 #[.int .i64 st, .int .i64 en, .int .i64 ot, .int .i64 pe]).alloc (.cells (#[.int .i64 st', .int .i64 en', .int .i64 ot', .int .i64 pe'] : Array Value) 23)).alloc (.cells (#[.int .i64 stq, .int .i64 enq, .int .i64 otq, .int .i64 peq] : Array Value) 23))
  have hy0 := (Blk.new (w.alloc (.cells (#[.int .i64 st, .int .i64 en, .int .i64 ot, .int .i64 pe] : Array Value) 23)) 23 #[.int .i64 st', .int .i64 en', .int .i64 ot', .int .i64 pe']).alloc (.cells (#[.int .i64 stq, .int .i64 enq, .int .i64 otq, .int .i64 peq] : Array Value) 23)
  have hz0 := Blk.new ((w.alloc (.cells (#[.int .i64 st, .int .i64 en, .int .i64 ot, .int .i64 pe] : Array Value) 23)).alloc (.cells (#[.int .i64 st', .int .i64 en', .int .i64 ot', .int .i64 pe'] : Array Value) 23)) 23 #[.int .i64 stq, .int .i64 enq, .int .i64 otq, .int .i64 peq]
  rw [World.size_alloc] at hy0
  rw [World.size_alloc, World.size_alloc] at hz0
  have HY0 := Lib.hid hy0
  have HZ0 := Lib.hid hz0
  clear hy0 hz0
  have HB0 := Lib.hid ((((Below.refl w.heap.size w).alloc (Nat.le_refl _) (.cells (#[.int .i64 st, .int .i64 en, .int .i64 ot, .int .i64 pe] : Array Value) 23)).alloc (by simp) (.cells (#[.int .i64 st', .int .i64 en', .int .i64 ot', .int .i64 pe'] : Array Value) 23)).alloc (by simp; omega) (.cells (#[.int .i64 stq, .int .i64 enq, .int .i64 otq, .int .i64 peq] : Array Value) 23))
  have HE0 := Lib.hid (hE.after HB0.out)
  have HEE0 := Lib.hid (hEE.below HB0.out hE.size)
  go_enter Tryd.func7, Tryd.ntmps7
  go_wp2_with fail
  refine (awake_true _ HE0.out HEE0.out).mono ?_
  rintro e w1 ⟨rfl, hb⟩
  have HB1 := Lib.hid (below_two HB0.out hb)
  have HX1 := Lib.hid (HX0.out.below hb HX0.out.lt)
  have HY1 := Lib.hid (HY0.out.below hb HY0.out.lt)
  have HZ1 := Lib.hid (HZ0.out.below hb HZ0.out.lt)
  clear hb HB0 HX0 HY0 HZ0
  obtain ⟨x0, x1, x2, x3⟩ := st_blk HX1.out
  obtain ⟨y0, y1', y2, y3⟩ := st_blk HY1.out
  obtain ⟨z0, z1', z2, z3⟩ := st_blk HZ1.out
  go_wp2_with fail
  refine (HAB.out _).mono ?_
  rintro e w2 ⟨rfl, hb⟩
  have HB2 := Lib.hid (below_two HB1.out hb)
  have HX2 := Lib.hid (HX1.out.below hb HX1.out.lt)
  have HY2 := Lib.hid (HY1.out.below hb HY1.out.lt)
  have HZ2 := Lib.hid (HZ1.out.below hb HZ1.out.lt)
  clear hb HB1 HX1 HY1 HZ1 x0 x1 x2 x3 y0 y1' y2 y3 z0 z1' z2 z3
  obtain ⟨x0, x1, x2, x3⟩ := st_blk HX2.out
  obtain ⟨y0, y1', y2, y3⟩ := st_blk HY2.out
  obtain ⟨z0, z1', z2, z3⟩ := st_blk HZ2.out
  go_wp2_with fail
  refine (HABr.out _).mono ?_
  rintro e w3 ⟨rfl, hb⟩
  have HB3 := Lib.hid (below_two HB2.out hb)
  have HX3 := Lib.hid (HX2.out.below hb HX2.out.lt)
  have HY3 := Lib.hid (HY2.out.below hb HY2.out.lt)
  have HZ3 := Lib.hid (HZ2.out.below hb HZ2.out.lt)
  clear hb HB2 HX2 HY2 HZ2 x0 x1 x2 x3 y0 y1' y2 y3 z0 z1' z2 z3
  obtain ⟨x0, x1, x2, x3⟩ := st_blk HX3.out
  obtain ⟨y0, y1', y2, y3⟩ := st_blk HY3.out
  obtain ⟨z0, z1', z2, z3⟩ := st_blk HZ3.out
  go_wp2_with fail
  refine (HBA.out _).mono ?_
  rintro e w4 ⟨rfl, hb⟩
  have HB4 := Lib.hid (below_two HB3.out hb)
  have HX4 := Lib.hid (HX3.out.below hb HX3.out.lt)
  have HY4 := Lib.hid (HY3.out.below hb HY3.out.lt)
  have HZ4 := Lib.hid (HZ3.out.below hb HZ3.out.lt)
  clear hb HB3 HX3 HY3 HZ3 x0 x1 x2 x3 y0 y1' y2 y3 z0 z1' z2 z3
  obtain ⟨x0, x1, x2, x3⟩ := st_blk HX4.out
  obtain ⟨y0, y1', y2, y3⟩ := st_blk HY4.out
  obtain ⟨z0, z1', z2, z3⟩ := st_blk HZ4.out
  go_wp2_with fail
  refine (HAA.out _).mono ?_
  rintro e w5 ⟨rfl, hb⟩
  have HB5 := Lib.hid (below_two HB4.out hb)
  have HX5 := Lib.hid (HX4.out.below hb HX4.out.lt)
  have HY5 := Lib.hid (HY4.out.below hb HY4.out.lt)
  have HZ5 := Lib.hid (HZ4.out.below hb HZ4.out.lt)
  clear hb HB4 HX4 HY4 HZ4 x0 x1 x2 x3 y0 y1' y2 y3 z0 z1' z2 z3
  obtain ⟨x0, x1, x2, x3⟩ := st_blk HX5.out
  obtain ⟨y0, y1', y2, y3⟩ := st_blk HY5.out
  obtain ⟨z0, z1', z2, z3⟩ := st_blk HZ5.out
  go_wp2_with fail
  refine (HBC.out _).mono ?_
  rintro e w6 ⟨rfl, hb⟩
  have HB6 := Lib.hid (below_two HB5.out hb)
  have HX6 := Lib.hid (HX5.out.below hb HX5.out.lt)
  have HY6 := Lib.hid (HY5.out.below hb HY5.out.lt)
  have HZ6 := Lib.hid (HZ5.out.below hb HZ5.out.lt)
  clear hb HB5 HX5 HY5 HZ5 x0 x1 x2 x3 y0 y1' y2 y3 z0 z1' z2 z3
  obtain ⟨x0, x1, x2, x3⟩ := st_blk HX6.out
  obtain ⟨y0, y1', y2, y3⟩ := st_blk HY6.out
  obtain ⟨z0, z1', z2, z3⟩ := st_blk HZ6.out
  go_wp2_with fail
  refine (HAC.out _).mono ?_
  rintro e w7 ⟨rfl, hb⟩
  have HB7 := Lib.hid (below_two HB6.out hb)
  have HX7 := Lib.hid (HX6.out.below hb HX6.out.lt)
  have HY7 := Lib.hid (HY6.out.below hb HY6.out.lt)
  have HZ7 := Lib.hid (HZ6.out.below hb HZ6.out.lt)
  clear hb HB6 HX6 HY6 HZ6 x0 x1 x2 x3 y0 y1' y2 y3 z0 z1' z2 z3
  obtain ⟨x0, x1, x2, x3⟩ := st_blk HX7.out
  obtain ⟨y0, y1', y2, y3⟩ := st_blk HY7.out
  obtain ⟨z0, z1', z2, z3⟩ := st_blk HZ7.out
  go_wp2_with fail
  go_ret
  exact ⟨rfl, HB7.out⟩
set_option maxRecDepth 100000 in
set_option maxHeartbeats 4000000 in
theorem ord_x1 (st en ot pe en' ot' pe' stq enq otq peq Y Z : Int) (w : World) (hE : Env w) (hEE : EnvE w)
    (q5 : (en == en') = false)
    (HAB : Hid (∀ w, Calls Tryd.prog 25 #[.agg #[.int .i64 st, .int .i64 en, .int .i64 ot, .int .i64 pe], .agg #[.int .i64 st, .int .i64 en', .int .i64 ot', .int .i64 pe']] w fun e w' => e = .returned (.int .i64 1) ∧ Below w.heap.size w w'))
    (HABr : Hid (∀ w, Calls Tryd.prog 26 #[.agg #[.int .i64 st, .int .i64 en, .int .i64 ot, .int .i64 pe], .agg #[.int .i64 st, .int .i64 en', .int .i64 ot', .int .i64 pe']] w fun e w' => e = .returned (.int .i64 1) ∧ Below w.heap.size w w'))
    (HBA : Hid (∀ w, Calls Tryd.prog 25 #[.agg #[.int .i64 st, .int .i64 en', .int .i64 ot', .int .i64 pe'], .agg #[.int .i64 st, .int .i64 en, .int .i64 ot, .int .i64 pe]] w fun e w' => e = .returned (.int .i64 (-1)) ∧ Below w.heap.size w w'))
    (HAA : Hid (∀ w, Calls Tryd.prog 25 #[.agg #[.int .i64 st, .int .i64 en, .int .i64 ot, .int .i64 pe], .agg #[.int .i64 st, .int .i64 en, .int .i64 ot, .int .i64 pe]] w fun e w' => e = .returned (.int .i64 0) ∧ Below w.heap.size w w'))
    (HBC : Hid (∀ w, Calls Tryd.prog 25 #[.agg #[.int .i64 st, .int .i64 en', .int .i64 ot', .int .i64 pe'], .agg #[.int .i64 stq, .int .i64 enq, .int .i64 otq, .int .i64 peq]] w fun e w' => e = .returned (.int .i64 Y) ∧ Below w.heap.size w w'))
    (HAC : Hid (∀ w, Calls Tryd.prog 25 #[.agg #[.int .i64 st, .int .i64 en, .int .i64 ot, .int .i64 pe], .agg #[.int .i64 stq, .int .i64 enq, .int .i64 otq, .int .i64 peq]] w fun e w' => e = .returned (.int .i64 Z) ∧ Below w.heap.size w w')) :
    Calls Tryd.prog 7 #[.agg #[.int .i64 st, .int .i64 en, .int .i64 ot, .int .i64 pe], .agg #[.int .i64 st, .int .i64 en', .int .i64 ot', .int .i64 pe'], .agg #[.int .i64 stq, .int .i64 enq, .int .i64 otq, .int .i64 peq]] w fun e w' => e = .returned (.bool true) ∧ Below w.heap.size w w' := by
  have HX0 := Lib.hid (((Blk.new w 23 #[.int .i64 st, .int .i64 en, .int .i64 ot, .int .i64 pe]).alloc (.cells (#[.int .i64 st, .int .i64 en', .int .i64 ot', .int .i64 pe'] : Array Value) 23)).alloc (.cells (#[.int .i64 stq, .int .i64 enq, .int .i64 otq, .int .i64 peq] : Array Value) 23))
  have hy0 := (Blk.new (w.alloc (.cells (#[.int .i64 st, .int .i64 en, .int .i64 ot, .int .i64 pe] : Array Value) 23)) 23 #[.int .i64 st, .int .i64 en', .int .i64 ot', .int .i64 pe']).alloc (.cells (#[.int .i64 stq, .int .i64 enq, .int .i64 otq, .int .i64 peq] : Array Value) 23)
  have hz0 := Blk.new ((w.alloc (.cells (#[.int .i64 st, .int .i64 en, .int .i64 ot, .int .i64 pe] : Array Value) 23)).alloc (.cells (#[.int .i64 st, .int .i64 en', .int .i64 ot', .int .i64 pe'] : Array Value) 23)) 23 #[.int .i64 stq, .int .i64 enq, .int .i64 otq, .int .i64 peq]
  rw [World.size_alloc] at hy0
  rw [World.size_alloc, World.size_alloc] at hz0
  have HY0 := Lib.hid hy0
  have HZ0 := Lib.hid hz0
  clear hy0 hz0
  have HB0 := Lib.hid ((((Below.refl w.heap.size w).alloc (Nat.le_refl _) (.cells (#[.int .i64 st, .int .i64 en, .int .i64 ot, .int .i64 pe] : Array Value) 23)).alloc (by simp) (.cells (#[.int .i64 st, .int .i64 en', .int .i64 ot', .int .i64 pe'] : Array Value) 23)).alloc (by simp; omega) (.cells (#[.int .i64 stq, .int .i64 enq, .int .i64 otq, .int .i64 peq] : Array Value) 23))
  have HE0 := Lib.hid (hE.after HB0.out)
  have HEE0 := Lib.hid (hEE.below HB0.out hE.size)
  go_enter Tryd.func7, Tryd.ntmps7
  go_wp2_with fail
  refine (awake_true _ HE0.out HEE0.out).mono ?_
  rintro e w1 ⟨rfl, hb⟩
  have HB1 := Lib.hid (below_two HB0.out hb)
  have HX1 := Lib.hid (HX0.out.below hb HX0.out.lt)
  have HY1 := Lib.hid (HY0.out.below hb HY0.out.lt)
  have HZ1 := Lib.hid (HZ0.out.below hb HZ0.out.lt)
  clear hb HB0 HX0 HY0 HZ0
  obtain ⟨x0, x1, x2, x3⟩ := st_blk HX1.out
  obtain ⟨y0, y1', y2, y3⟩ := st_blk HY1.out
  obtain ⟨z0, z1', z2, z3⟩ := st_blk HZ1.out
  go_wp2_with fail
  refine (HAB.out _).mono ?_
  rintro e w2 ⟨rfl, hb⟩
  have HB2 := Lib.hid (below_two HB1.out hb)
  have HX2 := Lib.hid (HX1.out.below hb HX1.out.lt)
  have HY2 := Lib.hid (HY1.out.below hb HY1.out.lt)
  have HZ2 := Lib.hid (HZ1.out.below hb HZ1.out.lt)
  clear hb HB1 HX1 HY1 HZ1 x0 x1 x2 x3 y0 y1' y2 y3 z0 z1' z2 z3
  obtain ⟨x0, x1, x2, x3⟩ := st_blk HX2.out
  obtain ⟨y0, y1', y2, y3⟩ := st_blk HY2.out
  obtain ⟨z0, z1', z2, z3⟩ := st_blk HZ2.out
  go_wp2_with fail
  refine (HABr.out _).mono ?_
  rintro e w3 ⟨rfl, hb⟩
  have HB3 := Lib.hid (below_two HB2.out hb)
  have HX3 := Lib.hid (HX2.out.below hb HX2.out.lt)
  have HY3 := Lib.hid (HY2.out.below hb HY2.out.lt)
  have HZ3 := Lib.hid (HZ2.out.below hb HZ2.out.lt)
  clear hb HB2 HX2 HY2 HZ2 x0 x1 x2 x3 y0 y1' y2 y3 z0 z1' z2 z3
  obtain ⟨x0, x1, x2, x3⟩ := st_blk HX3.out
  obtain ⟨y0, y1', y2, y3⟩ := st_blk HY3.out
  obtain ⟨z0, z1', z2, z3⟩ := st_blk HZ3.out
  go_wp2_with fail
  refine (HBA.out _).mono ?_
  rintro e w4 ⟨rfl, hb⟩
  have HB4 := Lib.hid (below_two HB3.out hb)
  have HX4 := Lib.hid (HX3.out.below hb HX3.out.lt)
  have HY4 := Lib.hid (HY3.out.below hb HY3.out.lt)
  have HZ4 := Lib.hid (HZ3.out.below hb HZ3.out.lt)
  clear hb HB3 HX3 HY3 HZ3 x0 x1 x2 x3 y0 y1' y2 y3 z0 z1' z2 z3
  obtain ⟨x0, x1, x2, x3⟩ := st_blk HX4.out
  obtain ⟨y0, y1', y2, y3⟩ := st_blk HY4.out
  obtain ⟨z0, z1', z2, z3⟩ := st_blk HZ4.out
  go_wp2_with fail
  refine (HAA.out _).mono ?_
  rintro e w5 ⟨rfl, hb⟩
  have HB5 := Lib.hid (below_two HB4.out hb)
  have HX5 := Lib.hid (HX4.out.below hb HX4.out.lt)
  have HY5 := Lib.hid (HY4.out.below hb HY4.out.lt)
  have HZ5 := Lib.hid (HZ4.out.below hb HZ4.out.lt)
  clear hb HB4 HX4 HY4 HZ4 x0 x1 x2 x3 y0 y1' y2 y3 z0 z1' z2 z3
  obtain ⟨x0, x1, x2, x3⟩ := st_blk HX5.out
  obtain ⟨y0, y1', y2, y3⟩ := st_blk HY5.out
  obtain ⟨z0, z1', z2, z3⟩ := st_blk HZ5.out
  go_wp2_with fail
  go_ret
  exact ⟨rfl, HB5.out⟩
set_option maxRecDepth 100000 in
set_option maxHeartbeats 4000000 in
theorem ord_y1 (st en ot pe en' ot' pe' stq enq otq peq Y Z : Int) (w : World) (hE : Env w) (hEE : EnvE w)
    (q5 : (en == en') = false)
    (y1 : decide (0 < Y) = true)
    (HAB : Hid (∀ w, Calls Tryd.prog 25 #[.agg #[.int .i64 st, .int .i64 en, .int .i64 ot, .int .i64 pe], .agg #[.int .i64 st, .int .i64 en', .int .i64 ot', .int .i64 pe']] w fun e w' => e = .returned (.int .i64 (-1)) ∧ Below w.heap.size w w'))
    (HABr : Hid (∀ w, Calls Tryd.prog 26 #[.agg #[.int .i64 st, .int .i64 en, .int .i64 ot, .int .i64 pe], .agg #[.int .i64 st, .int .i64 en', .int .i64 ot', .int .i64 pe']] w fun e w' => e = .returned (.int .i64 (-1)) ∧ Below w.heap.size w w'))
    (HBA : Hid (∀ w, Calls Tryd.prog 25 #[.agg #[.int .i64 st, .int .i64 en', .int .i64 ot', .int .i64 pe'], .agg #[.int .i64 st, .int .i64 en, .int .i64 ot, .int .i64 pe]] w fun e w' => e = .returned (.int .i64 1) ∧ Below w.heap.size w w'))
    (HAA : Hid (∀ w, Calls Tryd.prog 25 #[.agg #[.int .i64 st, .int .i64 en, .int .i64 ot, .int .i64 pe], .agg #[.int .i64 st, .int .i64 en, .int .i64 ot, .int .i64 pe]] w fun e w' => e = .returned (.int .i64 0) ∧ Below w.heap.size w w'))
    (HBC : Hid (∀ w, Calls Tryd.prog 25 #[.agg #[.int .i64 st, .int .i64 en', .int .i64 ot', .int .i64 pe'], .agg #[.int .i64 stq, .int .i64 enq, .int .i64 otq, .int .i64 peq]] w fun e w' => e = .returned (.int .i64 Y) ∧ Below w.heap.size w w'))
    (HAC : Hid (∀ w, Calls Tryd.prog 25 #[.agg #[.int .i64 st, .int .i64 en, .int .i64 ot, .int .i64 pe], .agg #[.int .i64 stq, .int .i64 enq, .int .i64 otq, .int .i64 peq]] w fun e w' => e = .returned (.int .i64 Z) ∧ Below w.heap.size w w')) :
    Calls Tryd.prog 7 #[.agg #[.int .i64 st, .int .i64 en, .int .i64 ot, .int .i64 pe], .agg #[.int .i64 st, .int .i64 en', .int .i64 ot', .int .i64 pe'], .agg #[.int .i64 stq, .int .i64 enq, .int .i64 otq, .int .i64 peq]] w fun e w' => e = .returned (.bool true) ∧ Below w.heap.size w w' := by
  have HX0 := Lib.hid (((Blk.new w 23 #[.int .i64 st, .int .i64 en, .int .i64 ot, .int .i64 pe]).alloc (.cells (#[.int .i64 st, .int .i64 en', .int .i64 ot', .int .i64 pe'] : Array Value) 23)).alloc (.cells (#[.int .i64 stq, .int .i64 enq, .int .i64 otq, .int .i64 peq] : Array Value) 23))
  have hy0 := (Blk.new (w.alloc (.cells (#[.int .i64 st, .int .i64 en, .int .i64 ot, .int .i64 pe] : Array Value) 23)) 23 #[.int .i64 st, .int .i64 en', .int .i64 ot', .int .i64 pe']).alloc (.cells (#[.int .i64 stq, .int .i64 enq, .int .i64 otq, .int .i64 peq] : Array Value) 23)
  have hz0 := Blk.new ((w.alloc (.cells (#[.int .i64 st, .int .i64 en, .int .i64 ot, .int .i64 pe] : Array Value) 23)).alloc (.cells (#[.int .i64 st, .int .i64 en', .int .i64 ot', .int .i64 pe'] : Array Value) 23)) 23 #[.int .i64 stq, .int .i64 enq, .int .i64 otq, .int .i64 peq]
  rw [World.size_alloc] at hy0
  rw [World.size_alloc, World.size_alloc] at hz0
  have HY0 := Lib.hid hy0
  have HZ0 := Lib.hid hz0
  clear hy0 hz0
  have HB0 := Lib.hid ((((Below.refl w.heap.size w).alloc (Nat.le_refl _) (.cells (#[.int .i64 st, .int .i64 en, .int .i64 ot, .int .i64 pe] : Array Value) 23)).alloc (by simp) (.cells (#[.int .i64 st, .int .i64 en', .int .i64 ot', .int .i64 pe'] : Array Value) 23)).alloc (by simp; omega) (.cells (#[.int .i64 stq, .int .i64 enq, .int .i64 otq, .int .i64 peq] : Array Value) 23))
  have HE0 := Lib.hid (hE.after HB0.out)
  have HEE0 := Lib.hid (hEE.below HB0.out hE.size)
  go_enter Tryd.func7, Tryd.ntmps7
  go_wp2_with fail
  refine (awake_true _ HE0.out HEE0.out).mono ?_
  rintro e w1 ⟨rfl, hb⟩
  have HB1 := Lib.hid (below_two HB0.out hb)
  have HX1 := Lib.hid (HX0.out.below hb HX0.out.lt)
  have HY1 := Lib.hid (HY0.out.below hb HY0.out.lt)
  have HZ1 := Lib.hid (HZ0.out.below hb HZ0.out.lt)
  clear hb HB0 HX0 HY0 HZ0
  obtain ⟨x0, x1, x2, x3⟩ := st_blk HX1.out
  obtain ⟨y0, y1', y2, y3⟩ := st_blk HY1.out
  obtain ⟨z0, z1', z2, z3⟩ := st_blk HZ1.out
  go_wp2_with fail
  refine (HAB.out _).mono ?_
  rintro e w2 ⟨rfl, hb⟩
  have HB2 := Lib.hid (below_two HB1.out hb)
  have HX2 := Lib.hid (HX1.out.below hb HX1.out.lt)
  have HY2 := Lib.hid (HY1.out.below hb HY1.out.lt)
  have HZ2 := Lib.hid (HZ1.out.below hb HZ1.out.lt)
  clear hb HB1 HX1 HY1 HZ1 x0 x1 x2 x3 y0 y1' y2 y3 z0 z1' z2 z3
  obtain ⟨x0, x1, x2, x3⟩ := st_blk HX2.out
  obtain ⟨y0, y1', y2, y3⟩ := st_blk HY2.out
  obtain ⟨z0, z1', z2, z3⟩ := st_blk HZ2.out
  go_wp2_with fail
  refine (HABr.out _).mono ?_
  rintro e w3 ⟨rfl, hb⟩
  have HB3 := Lib.hid (below_two HB2.out hb)
  have HX3 := Lib.hid (HX2.out.below hb HX2.out.lt)
  have HY3 := Lib.hid (HY2.out.below hb HY2.out.lt)
  have HZ3 := Lib.hid (HZ2.out.below hb HZ2.out.lt)
  clear hb HB2 HX2 HY2 HZ2 x0 x1 x2 x3 y0 y1' y2 y3 z0 z1' z2 z3
  obtain ⟨x0, x1, x2, x3⟩ := st_blk HX3.out
  obtain ⟨y0, y1', y2, y3⟩ := st_blk HY3.out
  obtain ⟨z0, z1', z2, z3⟩ := st_blk HZ3.out
  go_wp2_with fail
  refine (HBA.out _).mono ?_
  rintro e w4 ⟨rfl, hb⟩
  have HB4 := Lib.hid (below_two HB3.out hb)
  have HX4 := Lib.hid (HX3.out.below hb HX3.out.lt)
  have HY4 := Lib.hid (HY3.out.below hb HY3.out.lt)
  have HZ4 := Lib.hid (HZ3.out.below hb HZ3.out.lt)
  clear hb HB3 HX3 HY3 HZ3 x0 x1 x2 x3 y0 y1' y2 y3 z0 z1' z2 z3
  obtain ⟨x0, x1, x2, x3⟩ := st_blk HX4.out
  obtain ⟨y0, y1', y2, y3⟩ := st_blk HY4.out
  obtain ⟨z0, z1', z2, z3⟩ := st_blk HZ4.out
  go_wp2_with fail
  refine (HAA.out _).mono ?_
  rintro e w5 ⟨rfl, hb⟩
  have HB5 := Lib.hid (below_two HB4.out hb)
  have HX5 := Lib.hid (HX4.out.below hb HX4.out.lt)
  have HY5 := Lib.hid (HY4.out.below hb HY4.out.lt)
  have HZ5 := Lib.hid (HZ4.out.below hb HZ4.out.lt)
  clear hb HB4 HX4 HY4 HZ4 x0 x1 x2 x3 y0 y1' y2 y3 z0 z1' z2 z3
  obtain ⟨x0, x1, x2, x3⟩ := st_blk HX5.out
  obtain ⟨y0, y1', y2, y3⟩ := st_blk HY5.out
  obtain ⟨z0, z1', z2, z3⟩ := st_blk HZ5.out
  go_wp2_with fail
  refine (HBC.out _).mono ?_
  rintro e w6 ⟨rfl, hb⟩
  have HB6 := Lib.hid (below_two HB5.out hb)
  have HX6 := Lib.hid (HX5.out.below hb HX5.out.lt)
  have HY6 := Lib.hid (HY5.out.below hb HY5.out.lt)
  have HZ6 := Lib.hid (HZ5.out.below hb HZ5.out.lt)
  clear hb HB5 HX5 HY5 HZ5 x0 x1 x2 x3 y0 y1' y2 y3 z0 z1' z2 z3
  obtain ⟨x0, x1, x2, x3⟩ := st_blk HX6.out
  obtain ⟨y0, y1', y2, y3⟩ := st_blk HY6.out
  obtain ⟨z0, z1', z2, z3⟩ := st_blk HZ6.out
  go_wp2_with fail
  go_ret
  exact ⟨rfl, HB6.out⟩
set_option maxRecDepth 100000 in
set_option maxHeartbeats 4000000 in
theorem ord_z1 (st en ot pe en' ot' pe' stq enq otq peq Y Z : Int) (w : World) (hE : Env w) (hEE : EnvE w)
    (q5 : (en == en') = false)
    (y1 : decide (0 < Y) = false) (z1 : decide (Z ≤ 0) = true)
    (HAB : Hid (∀ w, Calls Tryd.prog 25 #[.agg #[.int .i64 st, .int .i64 en, .int .i64 ot, .int .i64 pe], .agg #[.int .i64 st, .int .i64 en', .int .i64 ot', .int .i64 pe']] w fun e w' => e = .returned (.int .i64 (-1)) ∧ Below w.heap.size w w'))
    (HABr : Hid (∀ w, Calls Tryd.prog 26 #[.agg #[.int .i64 st, .int .i64 en, .int .i64 ot, .int .i64 pe], .agg #[.int .i64 st, .int .i64 en', .int .i64 ot', .int .i64 pe']] w fun e w' => e = .returned (.int .i64 (-1)) ∧ Below w.heap.size w w'))
    (HBA : Hid (∀ w, Calls Tryd.prog 25 #[.agg #[.int .i64 st, .int .i64 en', .int .i64 ot', .int .i64 pe'], .agg #[.int .i64 st, .int .i64 en, .int .i64 ot, .int .i64 pe]] w fun e w' => e = .returned (.int .i64 1) ∧ Below w.heap.size w w'))
    (HAA : Hid (∀ w, Calls Tryd.prog 25 #[.agg #[.int .i64 st, .int .i64 en, .int .i64 ot, .int .i64 pe], .agg #[.int .i64 st, .int .i64 en, .int .i64 ot, .int .i64 pe]] w fun e w' => e = .returned (.int .i64 0) ∧ Below w.heap.size w w'))
    (HBC : Hid (∀ w, Calls Tryd.prog 25 #[.agg #[.int .i64 st, .int .i64 en', .int .i64 ot', .int .i64 pe'], .agg #[.int .i64 stq, .int .i64 enq, .int .i64 otq, .int .i64 peq]] w fun e w' => e = .returned (.int .i64 Y) ∧ Below w.heap.size w w'))
    (HAC : Hid (∀ w, Calls Tryd.prog 25 #[.agg #[.int .i64 st, .int .i64 en, .int .i64 ot, .int .i64 pe], .agg #[.int .i64 stq, .int .i64 enq, .int .i64 otq, .int .i64 peq]] w fun e w' => e = .returned (.int .i64 Z) ∧ Below w.heap.size w w')) :
    Calls Tryd.prog 7 #[.agg #[.int .i64 st, .int .i64 en, .int .i64 ot, .int .i64 pe], .agg #[.int .i64 st, .int .i64 en', .int .i64 ot', .int .i64 pe'], .agg #[.int .i64 stq, .int .i64 enq, .int .i64 otq, .int .i64 peq]] w fun e w' => e = .returned (.bool true) ∧ Below w.heap.size w w' := by
  have HX0 := Lib.hid (((Blk.new w 23 #[.int .i64 st, .int .i64 en, .int .i64 ot, .int .i64 pe]).alloc (.cells (#[.int .i64 st, .int .i64 en', .int .i64 ot', .int .i64 pe'] : Array Value) 23)).alloc (.cells (#[.int .i64 stq, .int .i64 enq, .int .i64 otq, .int .i64 peq] : Array Value) 23))
  have hy0 := (Blk.new (w.alloc (.cells (#[.int .i64 st, .int .i64 en, .int .i64 ot, .int .i64 pe] : Array Value) 23)) 23 #[.int .i64 st, .int .i64 en', .int .i64 ot', .int .i64 pe']).alloc (.cells (#[.int .i64 stq, .int .i64 enq, .int .i64 otq, .int .i64 peq] : Array Value) 23)
  have hz0 := Blk.new ((w.alloc (.cells (#[.int .i64 st, .int .i64 en, .int .i64 ot, .int .i64 pe] : Array Value) 23)).alloc (.cells (#[.int .i64 st, .int .i64 en', .int .i64 ot', .int .i64 pe'] : Array Value) 23)) 23 #[.int .i64 stq, .int .i64 enq, .int .i64 otq, .int .i64 peq]
  rw [World.size_alloc] at hy0
  rw [World.size_alloc, World.size_alloc] at hz0
  have HY0 := Lib.hid hy0
  have HZ0 := Lib.hid hz0
  clear hy0 hz0
  have HB0 := Lib.hid ((((Below.refl w.heap.size w).alloc (Nat.le_refl _) (.cells (#[.int .i64 st, .int .i64 en, .int .i64 ot, .int .i64 pe] : Array Value) 23)).alloc (by simp) (.cells (#[.int .i64 st, .int .i64 en', .int .i64 ot', .int .i64 pe'] : Array Value) 23)).alloc (by simp; omega) (.cells (#[.int .i64 stq, .int .i64 enq, .int .i64 otq, .int .i64 peq] : Array Value) 23))
  have HE0 := Lib.hid (hE.after HB0.out)
  have HEE0 := Lib.hid (hEE.below HB0.out hE.size)
  go_enter Tryd.func7, Tryd.ntmps7
  go_wp2_with fail
  refine (awake_true _ HE0.out HEE0.out).mono ?_
  rintro e w1 ⟨rfl, hb⟩
  have HB1 := Lib.hid (below_two HB0.out hb)
  have HX1 := Lib.hid (HX0.out.below hb HX0.out.lt)
  have HY1 := Lib.hid (HY0.out.below hb HY0.out.lt)
  have HZ1 := Lib.hid (HZ0.out.below hb HZ0.out.lt)
  clear hb HB0 HX0 HY0 HZ0
  obtain ⟨x0, x1, x2, x3⟩ := st_blk HX1.out
  obtain ⟨y0, y1', y2, y3⟩ := st_blk HY1.out
  obtain ⟨z0, z1', z2, z3⟩ := st_blk HZ1.out
  go_wp2_with fail
  refine (HAB.out _).mono ?_
  rintro e w2 ⟨rfl, hb⟩
  have HB2 := Lib.hid (below_two HB1.out hb)
  have HX2 := Lib.hid (HX1.out.below hb HX1.out.lt)
  have HY2 := Lib.hid (HY1.out.below hb HY1.out.lt)
  have HZ2 := Lib.hid (HZ1.out.below hb HZ1.out.lt)
  clear hb HB1 HX1 HY1 HZ1 x0 x1 x2 x3 y0 y1' y2 y3 z0 z1' z2 z3
  obtain ⟨x0, x1, x2, x3⟩ := st_blk HX2.out
  obtain ⟨y0, y1', y2, y3⟩ := st_blk HY2.out
  obtain ⟨z0, z1', z2, z3⟩ := st_blk HZ2.out
  go_wp2_with fail
  refine (HABr.out _).mono ?_
  rintro e w3 ⟨rfl, hb⟩
  have HB3 := Lib.hid (below_two HB2.out hb)
  have HX3 := Lib.hid (HX2.out.below hb HX2.out.lt)
  have HY3 := Lib.hid (HY2.out.below hb HY2.out.lt)
  have HZ3 := Lib.hid (HZ2.out.below hb HZ2.out.lt)
  clear hb HB2 HX2 HY2 HZ2 x0 x1 x2 x3 y0 y1' y2 y3 z0 z1' z2 z3
  obtain ⟨x0, x1, x2, x3⟩ := st_blk HX3.out
  obtain ⟨y0, y1', y2, y3⟩ := st_blk HY3.out
  obtain ⟨z0, z1', z2, z3⟩ := st_blk HZ3.out
  go_wp2_with fail
  refine (HBA.out _).mono ?_
  rintro e w4 ⟨rfl, hb⟩
  have HB4 := Lib.hid (below_two HB3.out hb)
  have HX4 := Lib.hid (HX3.out.below hb HX3.out.lt)
  have HY4 := Lib.hid (HY3.out.below hb HY3.out.lt)
  have HZ4 := Lib.hid (HZ3.out.below hb HZ3.out.lt)
  clear hb HB3 HX3 HY3 HZ3 x0 x1 x2 x3 y0 y1' y2 y3 z0 z1' z2 z3
  obtain ⟨x0, x1, x2, x3⟩ := st_blk HX4.out
  obtain ⟨y0, y1', y2, y3⟩ := st_blk HY4.out
  obtain ⟨z0, z1', z2, z3⟩ := st_blk HZ4.out
  go_wp2_with fail
  refine (HAA.out _).mono ?_
  rintro e w5 ⟨rfl, hb⟩
  have HB5 := Lib.hid (below_two HB4.out hb)
  have HX5 := Lib.hid (HX4.out.below hb HX4.out.lt)
  have HY5 := Lib.hid (HY4.out.below hb HY4.out.lt)
  have HZ5 := Lib.hid (HZ4.out.below hb HZ4.out.lt)
  clear hb HB4 HX4 HY4 HZ4 x0 x1 x2 x3 y0 y1' y2 y3 z0 z1' z2 z3
  obtain ⟨x0, x1, x2, x3⟩ := st_blk HX5.out
  obtain ⟨y0, y1', y2, y3⟩ := st_blk HY5.out
  obtain ⟨z0, z1', z2, z3⟩ := st_blk HZ5.out
  go_wp2_with fail
  refine (HBC.out _).mono ?_
  rintro e w6 ⟨rfl, hb⟩
  have HB6 := Lib.hid (below_two HB5.out hb)
  have HX6 := Lib.hid (HX5.out.below hb HX5.out.lt)
  have HY6 := Lib.hid (HY5.out.below hb HY5.out.lt)
  have HZ6 := Lib.hid (HZ5.out.below hb HZ5.out.lt)
  clear hb HB5 HX5 HY5 HZ5 x0 x1 x2 x3 y0 y1' y2 y3 z0 z1' z2 z3
  obtain ⟨x0, x1, x2, x3⟩ := st_blk HX6.out
  obtain ⟨y0, y1', y2, y3⟩ := st_blk HY6.out
  obtain ⟨z0, z1', z2, z3⟩ := st_blk HZ6.out
  go_wp2_with fail
  refine (HAC.out _).mono ?_
  rintro e w7 ⟨rfl, hb⟩
  have HB7 := Lib.hid (below_two HB6.out hb)
  have HX7 := Lib.hid (HX6.out.below hb HX6.out.lt)
  have HY7 := Lib.hid (HY6.out.below hb HY6.out.lt)
  have HZ7 := Lib.hid (HZ6.out.below hb HZ6.out.lt)
  clear hb HB6 HX6 HY6 HZ6 x0 x1 x2 x3 y0 y1' y2 y3 z0 z1' z2 z3
  obtain ⟨x0, x1, x2, x3⟩ := st_blk HX7.out
  obtain ⟨y0, y1', y2, y3⟩ := st_blk HY7.out
  obtain ⟨z0, z1', z2, z3⟩ := st_blk HZ7.out
  go_wp2_with fail
  go_ret
  exact ⟨rfl, HB7.out⟩
set_option maxRecDepth 100000 in
set_option maxHeartbeats 4000000 in
theorem ord_x2 (st en ot pe ot' pe' stq enq otq peq Y Z : Int) (w : World) (hE : Env w) (hEE : EnvE w)
    (q5 : (ot == ot') = false)
    (HAB : Hid (∀ w, Calls Tryd.prog 25 #[.agg #[.int .i64 st, .int .i64 en, .int .i64 ot, .int .i64 pe], .agg #[.int .i64 st, .int .i64 en, .int .i64 ot', .int .i64 pe']] w fun e w' => e = .returned (.int .i64 1) ∧ Below w.heap.size w w'))
    (HABr : Hid (∀ w, Calls Tryd.prog 26 #[.agg #[.int .i64 st, .int .i64 en, .int .i64 ot, .int .i64 pe], .agg #[.int .i64 st, .int .i64 en, .int .i64 ot', .int .i64 pe']] w fun e w' => e = .returned (.int .i64 1) ∧ Below w.heap.size w w'))
    (HBA : Hid (∀ w, Calls Tryd.prog 25 #[.agg #[.int .i64 st, .int .i64 en, .int .i64 ot', .int .i64 pe'], .agg #[.int .i64 st, .int .i64 en, .int .i64 ot, .int .i64 pe]] w fun e w' => e = .returned (.int .i64 (-1)) ∧ Below w.heap.size w w'))
    (HAA : Hid (∀ w, Calls Tryd.prog 25 #[.agg #[.int .i64 st, .int .i64 en, .int .i64 ot, .int .i64 pe], .agg #[.int .i64 st, .int .i64 en, .int .i64 ot, .int .i64 pe]] w fun e w' => e = .returned (.int .i64 0) ∧ Below w.heap.size w w'))
    (HBC : Hid (∀ w, Calls Tryd.prog 25 #[.agg #[.int .i64 st, .int .i64 en, .int .i64 ot', .int .i64 pe'], .agg #[.int .i64 stq, .int .i64 enq, .int .i64 otq, .int .i64 peq]] w fun e w' => e = .returned (.int .i64 Y) ∧ Below w.heap.size w w'))
    (HAC : Hid (∀ w, Calls Tryd.prog 25 #[.agg #[.int .i64 st, .int .i64 en, .int .i64 ot, .int .i64 pe], .agg #[.int .i64 stq, .int .i64 enq, .int .i64 otq, .int .i64 peq]] w fun e w' => e = .returned (.int .i64 Z) ∧ Below w.heap.size w w')) :
    Calls Tryd.prog 7 #[.agg #[.int .i64 st, .int .i64 en, .int .i64 ot, .int .i64 pe], .agg #[.int .i64 st, .int .i64 en, .int .i64 ot', .int .i64 pe'], .agg #[.int .i64 stq, .int .i64 enq, .int .i64 otq, .int .i64 peq]] w fun e w' => e = .returned (.bool true) ∧ Below w.heap.size w w' := by
  have HX0 := Lib.hid (((Blk.new w 23 #[.int .i64 st, .int .i64 en, .int .i64 ot, .int .i64 pe]).alloc (.cells (#[.int .i64 st, .int .i64 en, .int .i64 ot', .int .i64 pe'] : Array Value) 23)).alloc (.cells (#[.int .i64 stq, .int .i64 enq, .int .i64 otq, .int .i64 peq] : Array Value) 23))
  have hy0 := (Blk.new (w.alloc (.cells (#[.int .i64 st, .int .i64 en, .int .i64 ot, .int .i64 pe] : Array Value) 23)) 23 #[.int .i64 st, .int .i64 en, .int .i64 ot', .int .i64 pe']).alloc (.cells (#[.int .i64 stq, .int .i64 enq, .int .i64 otq, .int .i64 peq] : Array Value) 23)
  have hz0 := Blk.new ((w.alloc (.cells (#[.int .i64 st, .int .i64 en, .int .i64 ot, .int .i64 pe] : Array Value) 23)).alloc (.cells (#[.int .i64 st, .int .i64 en, .int .i64 ot', .int .i64 pe'] : Array Value) 23)) 23 #[.int .i64 stq, .int .i64 enq, .int .i64 otq, .int .i64 peq]
  rw [World.size_alloc] at hy0
  rw [World.size_alloc, World.size_alloc] at hz0
  have HY0 := Lib.hid hy0
  have HZ0 := Lib.hid hz0
  clear hy0 hz0
  have HB0 := Lib.hid ((((Below.refl w.heap.size w).alloc (Nat.le_refl _) (.cells (#[.int .i64 st, .int .i64 en, .int .i64 ot, .int .i64 pe] : Array Value) 23)).alloc (by simp) (.cells (#[.int .i64 st, .int .i64 en, .int .i64 ot', .int .i64 pe'] : Array Value) 23)).alloc (by simp; omega) (.cells (#[.int .i64 stq, .int .i64 enq, .int .i64 otq, .int .i64 peq] : Array Value) 23))
  have HE0 := Lib.hid (hE.after HB0.out)
  have HEE0 := Lib.hid (hEE.below HB0.out hE.size)
  go_enter Tryd.func7, Tryd.ntmps7
  go_wp2_with fail
  refine (awake_true _ HE0.out HEE0.out).mono ?_
  rintro e w1 ⟨rfl, hb⟩
  have HB1 := Lib.hid (below_two HB0.out hb)
  have HX1 := Lib.hid (HX0.out.below hb HX0.out.lt)
  have HY1 := Lib.hid (HY0.out.below hb HY0.out.lt)
  have HZ1 := Lib.hid (HZ0.out.below hb HZ0.out.lt)
  clear hb HB0 HX0 HY0 HZ0
  obtain ⟨x0, x1, x2, x3⟩ := st_blk HX1.out
  obtain ⟨y0, y1', y2, y3⟩ := st_blk HY1.out
  obtain ⟨z0, z1', z2, z3⟩ := st_blk HZ1.out
  go_wp2_with fail
  refine (HAB.out _).mono ?_
  rintro e w2 ⟨rfl, hb⟩
  have HB2 := Lib.hid (below_two HB1.out hb)
  have HX2 := Lib.hid (HX1.out.below hb HX1.out.lt)
  have HY2 := Lib.hid (HY1.out.below hb HY1.out.lt)
  have HZ2 := Lib.hid (HZ1.out.below hb HZ1.out.lt)
  clear hb HB1 HX1 HY1 HZ1 x0 x1 x2 x3 y0 y1' y2 y3 z0 z1' z2 z3
  obtain ⟨x0, x1, x2, x3⟩ := st_blk HX2.out
  obtain ⟨y0, y1', y2, y3⟩ := st_blk HY2.out
  obtain ⟨z0, z1', z2, z3⟩ := st_blk HZ2.out
  go_wp2_with fail
  refine (HABr.out _).mono ?_
  rintro e w3 ⟨rfl, hb⟩
  have HB3 := Lib.hid (below_two HB2.out hb)
  have HX3 := Lib.hid (HX2.out.below hb HX2.out.lt)
  have HY3 := Lib.hid (HY2.out.below hb HY2.out.lt)
  have HZ3 := Lib.hid (HZ2.out.below hb HZ2.out.lt)
  clear hb HB2 HX2 HY2 HZ2 x0 x1 x2 x3 y0 y1' y2 y3 z0 z1' z2 z3
  obtain ⟨x0, x1, x2, x3⟩ := st_blk HX3.out
  obtain ⟨y0, y1', y2, y3⟩ := st_blk HY3.out
  obtain ⟨z0, z1', z2, z3⟩ := st_blk HZ3.out
  go_wp2_with fail
  refine (HBA.out _).mono ?_
  rintro e w4 ⟨rfl, hb⟩
  have HB4 := Lib.hid (below_two HB3.out hb)
  have HX4 := Lib.hid (HX3.out.below hb HX3.out.lt)
  have HY4 := Lib.hid (HY3.out.below hb HY3.out.lt)
  have HZ4 := Lib.hid (HZ3.out.below hb HZ3.out.lt)
  clear hb HB3 HX3 HY3 HZ3 x0 x1 x2 x3 y0 y1' y2 y3 z0 z1' z2 z3
  obtain ⟨x0, x1, x2, x3⟩ := st_blk HX4.out
  obtain ⟨y0, y1', y2, y3⟩ := st_blk HY4.out
  obtain ⟨z0, z1', z2, z3⟩ := st_blk HZ4.out
  go_wp2_with fail
  refine (HAA.out _).mono ?_
  rintro e w5 ⟨rfl, hb⟩
  have HB5 := Lib.hid (below_two HB4.out hb)
  have HX5 := Lib.hid (HX4.out.below hb HX4.out.lt)
  have HY5 := Lib.hid (HY4.out.below hb HY4.out.lt)
  have HZ5 := Lib.hid (HZ4.out.below hb HZ4.out.lt)
  clear hb HB4 HX4 HY4 HZ4 x0 x1 x2 x3 y0 y1' y2 y3 z0 z1' z2 z3
  obtain ⟨x0, x1, x2, x3⟩ := st_blk HX5.out
  obtain ⟨y0, y1', y2, y3⟩ := st_blk HY5.out
  obtain ⟨z0, z1', z2, z3⟩ := st_blk HZ5.out
  go_wp2_with fail
  go_ret
  exact ⟨rfl, HB5.out⟩
set_option maxRecDepth 100000 in
set_option maxHeartbeats 4000000 in
theorem ord_y2 (st en ot pe ot' pe' stq enq otq peq Y Z : Int) (w : World) (hE : Env w) (hEE : EnvE w)
    (q5 : (ot == ot') = false)
    (y1 : decide (0 < Y) = true)
    (HAB : Hid (∀ w, Calls Tryd.prog 25 #[.agg #[.int .i64 st, .int .i64 en, .int .i64 ot, .int .i64 pe], .agg #[.int .i64 st, .int .i64 en, .int .i64 ot', .int .i64 pe']] w fun e w' => e = .returned (.int .i64 (-1)) ∧ Below w.heap.size w w'))
    (HABr : Hid (∀ w, Calls Tryd.prog 26 #[.agg #[.int .i64 st, .int .i64 en, .int .i64 ot, .int .i64 pe], .agg #[.int .i64 st, .int .i64 en, .int .i64 ot', .int .i64 pe']] w fun e w' => e = .returned (.int .i64 (-1)) ∧ Below w.heap.size w w'))
    (HBA : Hid (∀ w, Calls Tryd.prog 25 #[.agg #[.int .i64 st, .int .i64 en, .int .i64 ot', .int .i64 pe'], .agg #[.int .i64 st, .int .i64 en, .int .i64 ot, .int .i64 pe]] w fun e w' => e = .returned (.int .i64 1) ∧ Below w.heap.size w w'))
    (HAA : Hid (∀ w, Calls Tryd.prog 25 #[.agg #[.int .i64 st, .int .i64 en, .int .i64 ot, .int .i64 pe], .agg #[.int .i64 st, .int .i64 en, .int .i64 ot, .int .i64 pe]] w fun e w' => e = .returned (.int .i64 0) ∧ Below w.heap.size w w'))
    (HBC : Hid (∀ w, Calls Tryd.prog 25 #[.agg #[.int .i64 st, .int .i64 en, .int .i64 ot', .int .i64 pe'], .agg #[.int .i64 stq, .int .i64 enq, .int .i64 otq, .int .i64 peq]] w fun e w' => e = .returned (.int .i64 Y) ∧ Below w.heap.size w w'))
    (HAC : Hid (∀ w, Calls Tryd.prog 25 #[.agg #[.int .i64 st, .int .i64 en, .int .i64 ot, .int .i64 pe], .agg #[.int .i64 stq, .int .i64 enq, .int .i64 otq, .int .i64 peq]] w fun e w' => e = .returned (.int .i64 Z) ∧ Below w.heap.size w w')) :
    Calls Tryd.prog 7 #[.agg #[.int .i64 st, .int .i64 en, .int .i64 ot, .int .i64 pe], .agg #[.int .i64 st, .int .i64 en, .int .i64 ot', .int .i64 pe'], .agg #[.int .i64 stq, .int .i64 enq, .int .i64 otq, .int .i64 peq]] w fun e w' => e = .returned (.bool true) ∧ Below w.heap.size w w' := by
  have HX0 := Lib.hid (((Blk.new w 23 #[.int .i64 st, .int .i64 en, .int .i64 ot, .int .i64 pe]).alloc (.cells (#[.int .i64 st, .int .i64 en, .int .i64 ot', .int .i64 pe'] : Array Value) 23)).alloc (.cells (#[.int .i64 stq, .int .i64 enq, .int .i64 otq, .int .i64 peq] : Array Value) 23))
  have hy0 := (Blk.new (w.alloc (.cells (#[.int .i64 st, .int .i64 en, .int .i64 ot, .int .i64 pe] : Array Value) 23)) 23 #[.int .i64 st, .int .i64 en, .int .i64 ot', .int .i64 pe']).alloc (.cells (#[.int .i64 stq, .int .i64 enq, .int .i64 otq, .int .i64 peq] : Array Value) 23)
  have hz0 := Blk.new ((w.alloc (.cells (#[.int .i64 st, .int .i64 en, .int .i64 ot, .int .i64 pe] : Array Value) 23)).alloc (.cells (#[.int .i64 st, .int .i64 en, .int .i64 ot', .int .i64 pe'] : Array Value) 23)) 23 #[.int .i64 stq, .int .i64 enq, .int .i64 otq, .int .i64 peq]
  rw [World.size_alloc] at hy0
  rw [World.size_alloc, World.size_alloc] at hz0
  have HY0 := Lib.hid hy0
  have HZ0 := Lib.hid hz0
  clear hy0 hz0
  have HB0 := Lib.hid ((((Below.refl w.heap.size w).alloc (Nat.le_refl _) (.cells (#[.int .i64 st, .int .i64 en, .int .i64 ot, .int .i64 pe] : Array Value) 23)).alloc (by simp) (.cells (#[.int .i64 st, .int .i64 en, .int .i64 ot', .int .i64 pe'] : Array Value) 23)).alloc (by simp; omega) (.cells (#[.int .i64 stq, .int .i64 enq, .int .i64 otq, .int .i64 peq] : Array Value) 23))
  have HE0 := Lib.hid (hE.after HB0.out)
  have HEE0 := Lib.hid (hEE.below HB0.out hE.size)
  go_enter Tryd.func7, Tryd.ntmps7
  go_wp2_with fail
  refine (awake_true _ HE0.out HEE0.out).mono ?_
  rintro e w1 ⟨rfl, hb⟩
  have HB1 := Lib.hid (below_two HB0.out hb)
  have HX1 := Lib.hid (HX0.out.below hb HX0.out.lt)
  have HY1 := Lib.hid (HY0.out.below hb HY0.out.lt)
  have HZ1 := Lib.hid (HZ0.out.below hb HZ0.out.lt)
  clear hb HB0 HX0 HY0 HZ0
  obtain ⟨x0, x1, x2, x3⟩ := st_blk HX1.out
  obtain ⟨y0, y1', y2, y3⟩ := st_blk HY1.out
  obtain ⟨z0, z1', z2, z3⟩ := st_blk HZ1.out
  go_wp2_with fail
  refine (HAB.out _).mono ?_
  rintro e w2 ⟨rfl, hb⟩
  have HB2 := Lib.hid (below_two HB1.out hb)
  have HX2 := Lib.hid (HX1.out.below hb HX1.out.lt)
  have HY2 := Lib.hid (HY1.out.below hb HY1.out.lt)
  have HZ2 := Lib.hid (HZ1.out.below hb HZ1.out.lt)
  clear hb HB1 HX1 HY1 HZ1 x0 x1 x2 x3 y0 y1' y2 y3 z0 z1' z2 z3
  obtain ⟨x0, x1, x2, x3⟩ := st_blk HX2.out
  obtain ⟨y0, y1', y2, y3⟩ := st_blk HY2.out
  obtain ⟨z0, z1', z2, z3⟩ := st_blk HZ2.out
  go_wp2_with fail
  refine (HABr.out _).mono ?_
  rintro e w3 ⟨rfl, hb⟩
  have HB3 := Lib.hid (below_two HB2.out hb)
  have HX3 := Lib.hid (HX2.out.below hb HX2.out.lt)
  have HY3 := Lib.hid (HY2.out.below hb HY2.out.lt)
  have HZ3 := Lib.hid (HZ2.out.below hb HZ2.out.lt)
  clear hb HB2 HX2 HY2 HZ2 x0 x1 x2 x3 y0 y1' y2 y3 z0 z1' z2 z3
  obtain ⟨x0, x1, x2, x3⟩ := st_blk HX3.out
  obtain ⟨y0, y1', y2, y3⟩ := st_blk HY3.out
  obtain ⟨z0, z1', z2, z3⟩ := st_blk HZ3.out
  go_wp2_with fail
  refine (HBA.out _).mono ?_
  rintro e w4 ⟨rfl, hb⟩
  have HB4 := Lib.hid (below_two HB3.out hb)
  have HX4 := Lib.hid (HX3.out.below hb HX3.out.lt)
  have HY4 := Lib.hid (HY3.out.below hb HY3.out.lt)
  have HZ4 := Lib.hid (HZ3.out.below hb HZ3.out.lt)
  clear hb HB3 HX3 HY3 HZ3 x0 x1 x2 x3 y0 y1' y2 y3 z0 z1' z2 z3
  obtain ⟨x0, x1, x2, x3⟩ := st_blk HX4.out
  obtain ⟨y0, y1', y2, y3⟩ := st_blk HY4.out
  obtain ⟨z0, z1', z2, z3⟩ := st_blk HZ4.out
  go_wp2_with fail
  refine (HAA.out _).mono ?_
  rintro e w5 ⟨rfl, hb⟩
  have HB5 := Lib.hid (below_two HB4.out hb)
  have HX5 := Lib.hid (HX4.out.below hb HX4.out.lt)
  have HY5 := Lib.hid (HY4.out.below hb HY4.out.lt)
  have HZ5 := Lib.hid (HZ4.out.below hb HZ4.out.lt)
  clear hb HB4 HX4 HY4 HZ4 x0 x1 x2 x3 y0 y1' y2 y3 z0 z1' z2 z3
  obtain ⟨x0, x1, x2, x3⟩ := st_blk HX5.out
  obtain ⟨y0, y1', y2, y3⟩ := st_blk HY5.out
  obtain ⟨z0, z1', z2, z3⟩ := st_blk HZ5.out
  go_wp2_with fail
  refine (HBC.out _).mono ?_
  rintro e w6 ⟨rfl, hb⟩
  have HB6 := Lib.hid (below_two HB5.out hb)
  have HX6 := Lib.hid (HX5.out.below hb HX5.out.lt)
  have HY6 := Lib.hid (HY5.out.below hb HY5.out.lt)
  have HZ6 := Lib.hid (HZ5.out.below hb HZ5.out.lt)
  clear hb HB5 HX5 HY5 HZ5 x0 x1 x2 x3 y0 y1' y2 y3 z0 z1' z2 z3
  obtain ⟨x0, x1, x2, x3⟩ := st_blk HX6.out
  obtain ⟨y0, y1', y2, y3⟩ := st_blk HY6.out
  obtain ⟨z0, z1', z2, z3⟩ := st_blk HZ6.out
  go_wp2_with fail
  go_ret
  exact ⟨rfl, HB6.out⟩
set_option maxRecDepth 100000 in
set_option maxHeartbeats 4000000 in
theorem ord_z2 (st en ot pe ot' pe' stq enq otq peq Y Z : Int) (w : World) (hE : Env w) (hEE : EnvE w)
    (q5 : (ot == ot') = false)
    (y1 : decide (0 < Y) = false) (z1 : decide (Z ≤ 0) = true)
    (HAB : Hid (∀ w, Calls Tryd.prog 25 #[.agg #[.int .i64 st, .int .i64 en, .int .i64 ot, .int .i64 pe], .agg #[.int .i64 st, .int .i64 en, .int .i64 ot', .int .i64 pe']] w fun e w' => e = .returned (.int .i64 (-1)) ∧ Below w.heap.size w w'))
    (HABr : Hid (∀ w, Calls Tryd.prog 26 #[.agg #[.int .i64 st, .int .i64 en, .int .i64 ot, .int .i64 pe], .agg #[.int .i64 st, .int .i64 en, .int .i64 ot', .int .i64 pe']] w fun e w' => e = .returned (.int .i64 (-1)) ∧ Below w.heap.size w w'))
    (HBA : Hid (∀ w, Calls Tryd.prog 25 #[.agg #[.int .i64 st, .int .i64 en, .int .i64 ot', .int .i64 pe'], .agg #[.int .i64 st, .int .i64 en, .int .i64 ot, .int .i64 pe]] w fun e w' => e = .returned (.int .i64 1) ∧ Below w.heap.size w w'))
    (HAA : Hid (∀ w, Calls Tryd.prog 25 #[.agg #[.int .i64 st, .int .i64 en, .int .i64 ot, .int .i64 pe], .agg #[.int .i64 st, .int .i64 en, .int .i64 ot, .int .i64 pe]] w fun e w' => e = .returned (.int .i64 0) ∧ Below w.heap.size w w'))
    (HBC : Hid (∀ w, Calls Tryd.prog 25 #[.agg #[.int .i64 st, .int .i64 en, .int .i64 ot', .int .i64 pe'], .agg #[.int .i64 stq, .int .i64 enq, .int .i64 otq, .int .i64 peq]] w fun e w' => e = .returned (.int .i64 Y) ∧ Below w.heap.size w w'))
    (HAC : Hid (∀ w, Calls Tryd.prog 25 #[.agg #[.int .i64 st, .int .i64 en, .int .i64 ot, .int .i64 pe], .agg #[.int .i64 stq, .int .i64 enq, .int .i64 otq, .int .i64 peq]] w fun e w' => e = .returned (.int .i64 Z) ∧ Below w.heap.size w w')) :
    Calls Tryd.prog 7 #[.agg #[.int .i64 st, .int .i64 en, .int .i64 ot, .int .i64 pe], .agg #[.int .i64 st, .int .i64 en, .int .i64 ot', .int .i64 pe'], .agg #[.int .i64 stq, .int .i64 enq, .int .i64 otq, .int .i64 peq]] w fun e w' => e = .returned (.bool true) ∧ Below w.heap.size w w' := by
  have HX0 := Lib.hid (((Blk.new w 23 #[.int .i64 st, .int .i64 en, .int .i64 ot, .int .i64 pe]).alloc (.cells (#[.int .i64 st, .int .i64 en, .int .i64 ot', .int .i64 pe'] : Array Value) 23)).alloc (.cells (#[.int .i64 stq, .int .i64 enq, .int .i64 otq, .int .i64 peq] : Array Value) 23))
  have hy0 := (Blk.new (w.alloc (.cells (#[.int .i64 st, .int .i64 en, .int .i64 ot, .int .i64 pe] : Array Value) 23)) 23 #[.int .i64 st, .int .i64 en, .int .i64 ot', .int .i64 pe']).alloc (.cells (#[.int .i64 stq, .int .i64 enq, .int .i64 otq, .int .i64 peq] : Array Value) 23)
  have hz0 := Blk.new ((w.alloc (.cells (#[.int .i64 st, .int .i64 en, .int .i64 ot, .int .i64 pe] : Array Value) 23)).alloc (.cells (#[.int .i64 st, .int .i64 en, .int .i64 ot', .int .i64 pe'] : Array Value) 23)) 23 #[.int .i64 stq, .int .i64 enq, .int .i64 otq, .int .i64 peq]
  rw [World.size_alloc] at hy0
  rw [World.size_alloc, World.size_alloc] at hz0
  have HY0 := Lib.hid hy0
  have HZ0 := Lib.hid hz0
  clear hy0 hz0
  have HB0 := Lib.hid ((((Below.refl w.heap.size w).alloc (Nat.le_refl _) (.cells (#[.int .i64 st, .int .i64 en, .int .i64 ot, .int .i64 pe] : Array Value) 23)).alloc (by simp) (.cells (#[.int .i64 st, .int .i64 en, .int .i64 ot', .int .i64 pe'] : Array Value) 23)).alloc (by simp; omega) (.cells (#[.int .i64 stq, .int .i64 enq, .int .i64 otq, .int .i64 peq] : Array Value) 23))
  have HE0 := Lib.hid (hE.after HB0.out)
  have HEE0 := Lib.hid (hEE.below HB0.out hE.size)
  go_enter Tryd.func7, Tryd.ntmps7
  go_wp2_with fail
  refine (awake_true _ HE0.out HEE0.out).mono ?_
  rintro e w1 ⟨rfl, hb⟩
  have HB1 := Lib.hid (below_two HB0.out hb)
  have HX1 := Lib.hid (HX0.out.below hb HX0.out.lt)
  have HY1 := Lib.hid (HY0.out.below hb HY0.out.lt)
  have HZ1 := Lib.hid (HZ0.out.below hb HZ0.out.lt)
  clear hb HB0 HX0 HY0 HZ0
  obtain ⟨x0, x1, x2, x3⟩ := st_blk HX1.out
  obtain ⟨y0, y1', y2, y3⟩ := st_blk HY1.out
  obtain ⟨z0, z1', z2, z3⟩ := st_blk HZ1.out
  go_wp2_with fail
  refine (HAB.out _).mono ?_
  rintro e w2 ⟨rfl, hb⟩
  have HB2 := Lib.hid (below_two HB1.out hb)
  have HX2 := Lib.hid (HX1.out.below hb HX1.out.lt)
  have HY2 := Lib.hid (HY1.out.below hb HY1.out.lt)
  have HZ2 := Lib.hid (HZ1.out.below hb HZ1.out.lt)
  clear hb HB1 HX1 HY1 HZ1 x0 x1 x2 x3 y0 y1' y2 y3 z0 z1' z2 z3
  obtain ⟨x0, x1, x2, x3⟩ := st_blk HX2.out
  obtain ⟨y0, y1', y2, y3⟩ := st_blk HY2.out
  obtain ⟨z0, z1', z2, z3⟩ := st_blk HZ2.out
  go_wp2_with fail
  refine (HABr.out _).mono ?_
  rintro e w3 ⟨rfl, hb⟩
  have HB3 := Lib.hid (below_two HB2.out hb)
  have HX3 := Lib.hid (HX2.out.below hb HX2.out.lt)
  have HY3 := Lib.hid (HY2.out.below hb HY2.out.lt)
  have HZ3 := Lib.hid (HZ2.out.below hb HZ2.out.lt)
  clear hb HB2 HX2 HY2 HZ2 x0 x1 x2 x3 y0 y1' y2 y3 z0 z1' z2 z3
  obtain ⟨x0, x1, x2, x3⟩ := st_blk HX3.out
  obtain ⟨y0, y1', y2, y3⟩ := st_blk HY3.out
  obtain ⟨z0, z1', z2, z3⟩ := st_blk HZ3.out
  go_wp2_with fail
  refine (HBA.out _).mono ?_
  rintro e w4 ⟨rfl, hb⟩
  have HB4 := Lib.hid (below_two HB3.out hb)
  have HX4 := Lib.hid (HX3.out.below hb HX3.out.lt)
  have HY4 := Lib.hid (HY3.out.below hb HY3.out.lt)
  have HZ4 := Lib.hid (HZ3.out.below hb HZ3.out.lt)
  clear hb HB3 HX3 HY3 HZ3 x0 x1 x2 x3 y0 y1' y2 y3 z0 z1' z2 z3
  obtain ⟨x0, x1, x2, x3⟩ := st_blk HX4.out
  obtain ⟨y0, y1', y2, y3⟩ := st_blk HY4.out
  obtain ⟨z0, z1', z2, z3⟩ := st_blk HZ4.out
  go_wp2_with fail
  refine (HAA.out _).mono ?_
  rintro e w5 ⟨rfl, hb⟩
  have HB5 := Lib.hid (below_two HB4.out hb)
  have HX5 := Lib.hid (HX4.out.below hb HX4.out.lt)
  have HY5 := Lib.hid (HY4.out.below hb HY4.out.lt)
  have HZ5 := Lib.hid (HZ4.out.below hb HZ4.out.lt)
  clear hb HB4 HX4 HY4 HZ4 x0 x1 x2 x3 y0 y1' y2 y3 z0 z1' z2 z3
  obtain ⟨x0, x1, x2, x3⟩ := st_blk HX5.out
  obtain ⟨y0, y1', y2, y3⟩ := st_blk HY5.out
  obtain ⟨z0, z1', z2, z3⟩ := st_blk HZ5.out
  go_wp2_with fail
  refine (HBC.out _).mono ?_
  rintro e w6 ⟨rfl, hb⟩
  have HB6 := Lib.hid (below_two HB5.out hb)
  have HX6 := Lib.hid (HX5.out.below hb HX5.out.lt)
  have HY6 := Lib.hid (HY5.out.below hb HY5.out.lt)
  have HZ6 := Lib.hid (HZ5.out.below hb HZ5.out.lt)
  clear hb HB5 HX5 HY5 HZ5 x0 x1 x2 x3 y0 y1' y2 y3 z0 z1' z2 z3
  obtain ⟨x0, x1, x2, x3⟩ := st_blk HX6.out
  obtain ⟨y0, y1', y2, y3⟩ := st_blk HY6.out
  obtain ⟨z0, z1', z2, z3⟩ := st_blk HZ6.out
  go_wp2_with fail
  refine (HAC.out _).mono ?_
  rintro e w7 ⟨rfl, hb⟩
  have HB7 := Lib.hid (below_two HB6.out hb)
  have HX7 := Lib.hid (HX6.out.below hb HX6.out.lt)
  have HY7 := Lib.hid (HY6.out.below hb HY6.out.lt)
  have HZ7 := Lib.hid (HZ6.out.below hb HZ6.out.lt)
  clear hb HB6 HX6 HY6 HZ6 x0 x1 x2 x3 y0 y1' y2 y3 z0 z1' z2 z3
  obtain ⟨x0, x1, x2, x3⟩ := st_blk HX7.out
  obtain ⟨y0, y1', y2, y3⟩ := st_blk HY7.out
  obtain ⟨z0, z1', z2, z3⟩ := st_blk HZ7.out
  go_wp2_with fail
  go_ret
  exact ⟨rfl, HB7.out⟩
set_option maxRecDepth 100000 in
set_option maxHeartbeats 4000000 in
theorem ord_x3 (st en ot pe pe' stq enq otq peq Y Z : Int) (w : World) (hE : Env w) (hEE : EnvE w)
    (q5 : (pe == pe') = false)
    (HAB : Hid (∀ w, Calls Tryd.prog 25 #[.agg #[.int .i64 st, .int .i64 en, .int .i64 ot, .int .i64 pe], .agg #[.int .i64 st, .int .i64 en, .int .i64 ot, .int .i64 pe']] w fun e w' => e = .returned (.int .i64 1) ∧ Below w.heap.size w w'))
    (HABr : Hid (∀ w, Calls Tryd.prog 26 #[.agg #[.int .i64 st, .int .i64 en, .int .i64 ot, .int .i64 pe], .agg #[.int .i64 st, .int .i64 en, .int .i64 ot, .int .i64 pe']] w fun e w' => e = .returned (.int .i64 1) ∧ Below w.heap.size w w'))
    (HBA : Hid (∀ w, Calls Tryd.prog 25 #[.agg #[.int .i64 st, .int .i64 en, .int .i64 ot, .int .i64 pe'], .agg #[.int .i64 st, .int .i64 en, .int .i64 ot, .int .i64 pe]] w fun e w' => e = .returned (.int .i64 (-1)) ∧ Below w.heap.size w w'))
    (HAA : Hid (∀ w, Calls Tryd.prog 25 #[.agg #[.int .i64 st, .int .i64 en, .int .i64 ot, .int .i64 pe], .agg #[.int .i64 st, .int .i64 en, .int .i64 ot, .int .i64 pe]] w fun e w' => e = .returned (.int .i64 0) ∧ Below w.heap.size w w'))
    (HBC : Hid (∀ w, Calls Tryd.prog 25 #[.agg #[.int .i64 st, .int .i64 en, .int .i64 ot, .int .i64 pe'], .agg #[.int .i64 stq, .int .i64 enq, .int .i64 otq, .int .i64 peq]] w fun e w' => e = .returned (.int .i64 Y) ∧ Below w.heap.size w w'))
    (HAC : Hid (∀ w, Calls Tryd.prog 25 #[.agg #[.int .i64 st, .int .i64 en, .int .i64 ot, .int .i64 pe], .agg #[.int .i64 stq, .int .i64 enq, .int .i64 otq, .int .i64 peq]] w fun e w' => e = .returned (.int .i64 Z) ∧ Below w.heap.size w w')) :
    Calls Tryd.prog 7 #[.agg #[.int .i64 st, .int .i64 en, .int .i64 ot, .int .i64 pe], .agg #[.int .i64 st, .int .i64 en, .int .i64 ot, .int .i64 pe'], .agg #[.int .i64 stq, .int .i64 enq, .int .i64 otq, .int .i64 peq]] w fun e w' => e = .returned (.bool true) ∧ Below w.heap.size w w' := by
  have HX0 := Lib.hid (((Blk.new w 23 #[.int .i64 st, .int .i64 en, .int .i64 ot, .int .i64 pe]).alloc (.cells (#[.int .i64 st, .int .i64 en, .int .i64 ot, .int .i64 pe'] : Array Value) 23)).alloc (.cells (#[.int .i64 stq, .int .i64 enq, .int .i64 otq, .int .i64 peq] : Array Value) 23))
  have hy0 := (Blk.new (w.alloc (.cells (#[.int .i64 st, .int .i64 en, .int .i64 ot, .int .i64 pe] : Array Value) 23)) 23 #[.int .i64 st, .int .i64 en, .int .i64 ot, .int .i64 pe']).alloc (.cells (#[.int .i64 stq, .int .i64 enq, .int .i64 otq, .int .i64 peq] : Array Value) 23)
  have hz0 := Blk.new ((w.alloc (.cells (#[.int .i64 st, .int .i64 en, .int .i64 ot, .int .i64 pe] : Array Value) 23)).alloc (.cells (#[.int .i64 st, .int .i64 en, .int .i64 ot, .int .i64 pe'] : Array Value) 23)) 23 #[.int .i64 stq, .int .i64 enq, .int .i64 otq, .int .i64 peq]
  rw [World.size_alloc] at hy0
  rw [World.size_alloc, World.size_alloc] at hz0
  have HY0 := Lib.hid hy0
  have HZ0 := Lib.hid hz0
  clear hy0 hz0
  have HB0 := Lib.hid ((((Below.refl w.heap.size w).alloc (Nat.le_refl _) (.cells (#[.int .i64 st, .int .i64 en, .int .i64 ot, .int .i64 pe] : Array Value) 23)).alloc (by simp) (.cells (#[.int .i64 st, .int .i64 en, .int .i64 ot, .int .i64 pe'] : Array Value) 23)).alloc (by simp; omega) (.cells (#[.int .i64 stq, .int .i64 enq, .int .i64 otq, .int .i64 peq] : Array Value) 23))
  have HE0 := Lib.hid (hE.after HB0.out)
  have HEE0 := Lib.hid (hEE.below HB0.out hE.size)
  go_enter Tryd.func7, Tryd.ntmps7
  go_wp2_with fail
  refine (awake_true _ HE0.out HEE0.out).mono ?_
  rintro e w1 ⟨rfl, hb⟩
  have HB1 := Lib.hid (below_two HB0.out hb)
  have HX1 := Lib.hid (HX0.out.below hb HX0.out.lt)
  have HY1 := Lib.hid (HY0.out.below hb HY0.out.lt)
  have HZ1 := Lib.hid (HZ0.out.below hb HZ0.out.lt)
  clear hb HB0 HX0 HY0 HZ0
  obtain ⟨x0, x1, x2, x3⟩ := st_blk HX1.out
  obtain ⟨y0, y1', y2, y3⟩ := st_blk HY1.out
  obtain ⟨z0, z1', z2, z3⟩ := st_blk HZ1.out
  go_wp2_with fail
  refine (HAB.out _).mono ?_
  rintro e w2 ⟨rfl, hb⟩
  have HB2 := Lib.hid (below_two HB1.out hb)
  have HX2 := Lib.hid (HX1.out.below hb HX1.out.lt)
  have HY2 := Lib.hid (HY1.out.below hb HY1.out.lt)
  have HZ2 := Lib.hid (HZ1.out.below hb HZ1.out.lt)
  clear hb HB1 HX1 HY1 HZ1 x0 x1 x2 x3 y0 y1' y2 y3 z0 z1' z2 z3
  obtain ⟨x0, x1, x2, x3⟩ := st_blk HX2.out
  obtain ⟨y0, y1', y2, y3⟩ := st_blk HY2.out
  obtain ⟨z0, z1', z2, z3⟩ := st_blk HZ2.out
  go_wp2_with fail
  refine (HABr.out _).mono ?_
  rintro e w3 ⟨rfl, hb⟩
  have HB3 := Lib.hid (below_two HB2.out hb)
  have HX3 := Lib.hid (HX2.out.below hb HX2.out.lt)
  have HY3 := Lib.hid (HY2.out.below hb HY2.out.lt)
  have HZ3 := Lib.hid (HZ2.out.below hb HZ2.out.lt)
  clear hb HB2 HX2 HY2 HZ2 x0 x1 x2 x3 y0 y1' y2 y3 z0 z1' z2 z3
  obtain ⟨x0, x1, x2, x3⟩ := st_blk HX3.out
  obtain ⟨y0, y1', y2, y3⟩ := st_blk HY3.out
  obtain ⟨z0, z1', z2, z3⟩ := st_blk HZ3.out
  go_wp2_with fail
  refine (HBA.out _).mono ?_
  rintro e w4 ⟨rfl, hb⟩
  have HB4 := Lib.hid (below_two HB3.out hb)
  have HX4 := Lib.hid (HX3.out.below hb HX3.out.lt)
  have HY4 := Lib.hid (HY3.out.below hb HY3.out.lt)
  have HZ4 := Lib.hid (HZ3.out.below hb HZ3.out.lt)
  clear hb HB3 HX3 HY3 HZ3 x0 x1 x2 x3 y0 y1' y2 y3 z0 z1' z2 z3
  obtain ⟨x0, x1, x2, x3⟩ := st_blk HX4.out
  obtain ⟨y0, y1', y2, y3⟩ := st_blk HY4.out
  obtain ⟨z0, z1', z2, z3⟩ := st_blk HZ4.out
  go_wp2_with fail
  refine (HAA.out _).mono ?_
  rintro e w5 ⟨rfl, hb⟩
  have HB5 := Lib.hid (below_two HB4.out hb)
  have HX5 := Lib.hid (HX4.out.below hb HX4.out.lt)
  have HY5 := Lib.hid (HY4.out.below hb HY4.out.lt)
  have HZ5 := Lib.hid (HZ4.out.below hb HZ4.out.lt)
  clear hb HB4 HX4 HY4 HZ4 x0 x1 x2 x3 y0 y1' y2 y3 z0 z1' z2 z3
  obtain ⟨x0, x1, x2, x3⟩ := st_blk HX5.out
  obtain ⟨y0, y1', y2, y3⟩ := st_blk HY5.out
  obtain ⟨z0, z1', z2, z3⟩ := st_blk HZ5.out
  go_wp2_with fail
  go_ret
  exact ⟨rfl, HB5.out⟩
set_option maxRecDepth 100000 in
set_option maxHeartbeats 4000000 in
theorem ord_y3 (st en ot pe pe' stq enq otq peq Y Z : Int) (w : World) (hE : Env w) (hEE : EnvE w)
    (q5 : (pe == pe') = false)
    (y1 : decide (0 < Y) = true)
    (HAB : Hid (∀ w, Calls Tryd.prog 25 #[.agg #[.int .i64 st, .int .i64 en, .int .i64 ot, .int .i64 pe], .agg #[.int .i64 st, .int .i64 en, .int .i64 ot, .int .i64 pe']] w fun e w' => e = .returned (.int .i64 (-1)) ∧ Below w.heap.size w w'))
    (HABr : Hid (∀ w, Calls Tryd.prog 26 #[.agg #[.int .i64 st, .int .i64 en, .int .i64 ot, .int .i64 pe], .agg #[.int .i64 st, .int .i64 en, .int .i64 ot, .int .i64 pe']] w fun e w' => e = .returned (.int .i64 (-1)) ∧ Below w.heap.size w w'))
    (HBA : Hid (∀ w, Calls Tryd.prog 25 #[.agg #[.int .i64 st, .int .i64 en, .int .i64 ot, .int .i64 pe'], .agg #[.int .i64 st, .int .i64 en, .int .i64 ot, .int .i64 pe]] w fun e w' => e = .returned (.int .i64 1) ∧ Below w.heap.size w w'))
    (HAA : Hid (∀ w, Calls Tryd.prog 25 #[.agg #[.int .i64 st, .int .i64 en, .int .i64 ot, .int .i64 pe], .agg #[.int .i64 st, .int .i64 en, .int .i64 ot, .int .i64 pe]] w fun e w' => e = .returned (.int .i64 0) ∧ Below w.heap.size w w'))
    (HBC : Hid (∀ w, Calls Tryd.prog 25 #[.agg #[.int .i64 st, .int .i64 en, .int .i64 ot, .int .i64 pe'], .agg #[.int .i64 stq, .int .i64 enq, .int .i64 otq, .int .i64 peq]] w fun e w' => e = .returned (.int .i64 Y) ∧ Below w.heap.size w w'))
    (HAC : Hid (∀ w, Calls Tryd.prog 25 #[.agg #[.int .i64 st, .int .i64 en, .int .i64 ot, .int .i64 pe], .agg #[.int .i64 stq, .int .i64 enq, .int .i64 otq, .int .i64 peq]] w fun e w' => e = .returned (.int .i64 Z) ∧ Below w.heap.size w w')) :
    Calls Tryd.prog 7 #[.agg #[.int .i64 st, .int .i64 en, .int .i64 ot, .int .i64 pe], .agg #[.int .i64 st, .int .i64 en, .int .i64 ot, .int .i64 pe'], .agg #[.int .i64 stq, .int .i64 enq, .int .i64 otq, .int .i64 peq]] w fun e w' => e = .returned (.bool true) ∧ Below w.heap.size w w' := by
  have HX0 := Lib.hid (((Blk.new w 23 #[.int .i64 st, .int .i64 en, .int .i64 ot, .int .i64 pe]).alloc (.cells (#[.int .i64 st, .int .i64 en, .int .i64 ot, .int .i64 pe'] : Array Value) 23)).alloc (.cells (#[.int .i64 stq, .int .i64 enq, .int .i64 otq, .int .i64 peq] : Array Value) 23))
  have hy0 := (Blk.new (w.alloc (.cells (#[.int .i64 st, .int .i64 en, .int .i64 ot, .int .i64 pe] : Array Value) 23)) 23 #[.int .i64 st, .int .i64 en, .int .i64 ot, .int .i64 pe']).alloc (.cells (#[.int .i64 stq, .int .i64 enq, .int .i64 otq, .int .i64 peq] : Array Value) 23)
  have hz0 := Blk.new ((w.alloc (.cells (#[.int .i64 st, .int .i64 en, .int .i64 ot, .int .i64 pe] : Array Value) 23)).alloc (.cells (#[.int .i64 st, .int .i64 en, .int .i64 ot, .int .i64 pe'] : Array Value) 23)) 23 #[.int .i64 stq, .int .i64 enq, .int .i64 otq, .int .i64 peq]
  rw [World.size_alloc] at hy0
  rw [World.size_alloc, World.size_alloc] at hz0
  have HY0 := Lib.hid hy0
  have HZ0 := Lib.hid hz0
  clear hy0 hz0
  have HB0 := Lib.hid ((((Below.refl w.heap.size w).alloc (Nat.le_refl _) (.cells (#[.int .i64 st, .int .i64 en, .int .i64 ot, .int .i64 pe] : Array Value) 23)).alloc (by simp) (.cells (#[.int .i64 st, .int .i64 en, .int .i64 ot, .int .i64 pe'] : Array Value) 23)).alloc (by simp; omega) (.cells (#[.int .i64 stq, .int .i64 enq, .int .i64 otq, .int .i64 peq] : Array Value) 23))
  have HE0 := Lib.hid (hE.after HB0.out)
  have HEE0 := Lib.hid (hEE.below HB0.out hE.size)
  go_enter Tryd.func7, Tryd.ntmps7
  go_wp2_with fail
  refine (awake_true _ HE0.out HEE0.out).mono ?_
  rintro e w1 ⟨rfl, hb⟩
  have HB1 := Lib.hid (below_two HB0.out hb)
  have HX1 := Lib.hid (HX0.out.below hb HX0.out.lt)
  have HY1 := Lib.hid (HY0.out.below hb HY0.out.lt)
  have HZ1 := Lib.hid (HZ0.out.below hb HZ0.out.lt)
  clear hb HB0 HX0 HY0 HZ0
  obtain ⟨x0, x1, x2, x3⟩ := st_blk HX1.out
  obtain ⟨y0, y1', y2, y3⟩ := st_blk HY1.out
  obtain ⟨z0, z1', z2, z3⟩ := st_blk HZ1.out
  go_wp2_with fail
  refine (HAB.out _).mono ?_
  rintro e w2 ⟨rfl, hb⟩
  have HB2 := Lib.hid (below_two HB1.out hb)
  have HX2 := Lib.hid (HX1.out.below hb HX1.out.lt)
  have HY2 := Lib.hid (HY1.out.below hb HY1.out.lt)
  have HZ2 := Lib.hid (HZ1.out.below hb HZ1.out.lt)
  clear hb HB1 HX1 HY1 HZ1 x0 x1 x2 x3 y0 y1' y2 y3 z0 z1' z2 z3
  obtain ⟨x0, x1, x2, x3⟩ := st_blk HX2.out
  obtain ⟨y0, y1', y2, y3⟩ := st_blk HY2.out
  obtain ⟨z0, z1', z2, z3⟩ := st_blk HZ2.out
  go_wp2_with fail
  refine (HABr.out _).mono ?_
  rintro e w3 ⟨rfl, hb⟩
  have HB3 := Lib.hid (below_two HB2.out hb)
  have HX3 := Lib.hid (HX2.out.below hb HX2.out.lt)
  have HY3 := Lib.hid (HY2.out.below hb HY2.out.lt)
  have HZ3 := Lib.hid (HZ2.out.below hb HZ2.out.lt)
  clear hb HB2 HX2 HY2 HZ2 x0 x1 x2 x3 y0 y1' y2 y3 z0 z1' z2 z3
  obtain ⟨x0, x1, x2, x3⟩ := st_blk HX3.out
  obtain ⟨y0, y1', y2, y3⟩ := st_blk HY3.out
  obtain ⟨z0, z1', z2, z3⟩ := st_blk HZ3.out
  go_wp2_with fail
  refine (HBA.out _).mono ?_
  rintro e w4 ⟨rfl, hb⟩
  have HB4 := Lib.hid (below_two HB3.out hb)
  have HX4 := Lib.hid (HX3.out.below hb HX3.out.lt)
  have HY4 := Lib.hid (HY3.out.below hb HY3.out.lt)
  have HZ4 := Lib.hid (HZ3.out.below hb HZ3.out.lt)
  clear hb HB3 HX3 HY3 HZ3 x0 x1 x2 x3 y0 y1' y2 y3 z0 z1' z2 z3
  obtain ⟨x0, x1, x2, x3⟩ := st_blk HX4.out
  obtain ⟨y0, y1', y2, y3⟩ := st_blk HY4.out
  obtain ⟨z0, z1', z2, z3⟩ := st_blk HZ4.out
  go_wp2_with fail
  refine (HAA.out _).mono ?_
  rintro e w5 ⟨rfl, hb⟩
  have HB5 := Lib.hid (below_two HB4.out hb)
  have HX5 := Lib.hid (HX4.out.below hb HX4.out.lt)
  have HY5 := Lib.hid (HY4.out.below hb HY4.out.lt)
  have HZ5 := Lib.hid (HZ4.out.below hb HZ4.out.lt)
  clear hb HB4 HX4 HY4 HZ4 x0 x1 x2 x3 y0 y1' y2 y3 z0 z1' z2 z3
  obtain ⟨x0, x1, x2, x3⟩ := st_blk HX5.out
  obtain ⟨y0, y1', y2, y3⟩ := st_blk HY5.out
  obtain ⟨z0, z1', z2, z3⟩ := st_blk HZ5.out
  go_wp2_with fail
  refine (HBC.out _).mono ?_
  rintro e w6 ⟨rfl, hb⟩
  have HB6 := Lib.hid (below_two HB5.out hb)
  have HX6 := Lib.hid (HX5.out.below hb HX5.out.lt)
  have HY6 := Lib.hid (HY5.out.below hb HY5.out.lt)
  have HZ6 := Lib.hid (HZ5.out.below hb HZ5.out.lt)
  clear hb HB5 HX5 HY5 HZ5 x0 x1 x2 x3 y0 y1' y2 y3 z0 z1' z2 z3
  obtain ⟨x0, x1, x2, x3⟩ := st_blk HX6.out
  obtain ⟨y0, y1', y2, y3⟩ := st_blk HY6.out
  obtain ⟨z0, z1', z2, z3⟩ := st_blk HZ6.out
  go_wp2_with fail
  go_ret
  exact ⟨rfl, HB6.out⟩
set_option maxRecDepth 100000 in
set_option maxHeartbeats 4000000 in
theorem ord_z3 (st en ot pe pe' stq enq otq peq Y Z : Int) (w : World) (hE : Env w) (hEE : EnvE w)
    (q5 : (pe == pe') = false)
    (y1 : decide (0 < Y) = false) (z1 : decide (Z ≤ 0) = true)
    (HAB : Hid (∀ w, Calls Tryd.prog 25 #[.agg #[.int .i64 st, .int .i64 en, .int .i64 ot, .int .i64 pe], .agg #[.int .i64 st, .int .i64 en, .int .i64 ot, .int .i64 pe']] w fun e w' => e = .returned (.int .i64 (-1)) ∧ Below w.heap.size w w'))
    (HABr : Hid (∀ w, Calls Tryd.prog 26 #[.agg #[.int .i64 st, .int .i64 en, .int .i64 ot, .int .i64 pe], .agg #[.int .i64 st, .int .i64 en, .int .i64 ot, .int .i64 pe']] w fun e w' => e = .returned (.int .i64 (-1)) ∧ Below w.heap.size w w'))
    (HBA : Hid (∀ w, Calls Tryd.prog 25 #[.agg #[.int .i64 st, .int .i64 en, .int .i64 ot, .int .i64 pe'], .agg #[.int .i64 st, .int .i64 en, .int .i64 ot, .int .i64 pe]] w fun e w' => e = .returned (.int .i64 1) ∧ Below w.heap.size w w'))
    (HAA : Hid (∀ w, Calls Tryd.prog 25 #[.agg #[.int .i64 st, .int .i64 en, .int .i64 ot, .int .i64 pe], .agg #[.int .i64 st, .int .i64 en, .int .i64 ot, .int .i64 pe]] w fun e w' => e = .returned (.int .i64 0) ∧ Below w.heap.size w w'))
    (HBC : Hid (∀ w, Calls Tryd.prog 25 #[.agg #[.int .i64 st, .int .i64 en, .int .i64 ot, .int .i64 pe'], .agg #[.int .i64 stq, .int .i64 enq, .int .i64 otq, .int .i64 peq]] w fun e w' => e = .returned (.int .i64 Y) ∧ Below w.heap.size w w'))
    (HAC : Hid (∀ w, Calls Tryd.prog 25 #[.agg #[.int .i64 st, .int .i64 en, .int .i64 ot, .int .i64 pe], .agg #[.int .i64 stq, .int .i64 enq, .int .i64 otq, .int .i64 peq]] w fun e w' => e = .returned (.int .i64 Z) ∧ Below w.heap.size w w')) :
    Calls Tryd.prog 7 #[.agg #[.int .i64 st, .int .i64 en, .int .i64 ot, .int .i64 pe], .agg #[.int .i64 st, .int .i64 en, .int .i64 ot, .int .i64 pe'], .agg #[.int .i64 stq, .int .i64 enq, .int .i64 otq, .int .i64 peq]] w fun e w' => e = .returned (.bool true) ∧ Below w.heap.size w w' := by
  have HX0 := Lib.hid (((Blk.new w 23 #[.int .i64 st, .int .i64 en, .int .i64 ot, .int .i64 pe]).alloc (.cells (#[.int .i64 st, .int .i64 en, .int .i64 ot, .int .i64 pe'] : Array Value) 23)).alloc (.cells (#[.int .i64 stq, .int .i64 enq, .int .i64 otq, .int .i64 peq] : Array Value) 23))
  have hy0 := (Blk.new (w.alloc (.cells (#[.int .i64 st, .int .i64 en, .int .i64 ot, .int .i64 pe] : Array Value) 23)) 23 #[.int .i64 st, .int .i64 en, .int .i64 ot, .int .i64 pe']).alloc (.cells (#[.int .i64 stq, .int .i64 enq, .int .i64 otq, .int .i64 peq] : Array Value) 23)
  have hz0 := Blk.new ((w.alloc (.cells (#[.int .i64 st, .int .i64 en, .int .i64 ot, .int .i64 pe] : Array Value) 23)).alloc (.cells (#[.int .i64 st, .int .i64 en, .int .i64 ot, .int .i64 pe'] : Array Value) 23)) 23 #[.int .i64 stq, .int .i64 enq, .int .i64 otq, .int .i64 peq]
  rw [World.size_alloc] at hy0
  rw [World.size_alloc, World.size_alloc] at hz0
  have HY0 := Lib.hid hy0
  have HZ0 := Lib.hid hz0
  clear hy0 hz0
  have HB0 := Lib.hid ((((Below.refl w.heap.size w).alloc (Nat.le_refl _) (.cells (#[.int .i64 st, .int .i64 en, .int .i64 ot, .int .i64 pe] : Array Value) 23)).alloc (by simp) (.cells (#[.int .i64 st, .int .i64 en, .int .i64 ot, .int .i64 pe'] : Array Value) 23)).alloc (by simp; omega) (.cells (#[.int .i64 stq, .int .i64 enq, .int .i64 otq, .int .i64 peq] : Array Value) 23))
  have HE0 := Lib.hid (hE.after HB0.out)
  have HEE0 := Lib.hid (hEE.below HB0.out hE.size)
  go_enter Tryd.func7, Tryd.ntmps7
  go_wp2_with fail
  refine (awake_true _ HE0.out HEE0.out).mono ?_
  rintro e w1 ⟨rfl, hb⟩
  have HB1 := Lib.hid (below_two HB0.out hb)
  have HX1 := Lib.hid (HX0.out.below hb HX0.out.lt)
  have HY1 := Lib.hid (HY0.out.below hb HY0.out.lt)
  have HZ1 := Lib.hid (HZ0.out.below hb HZ0.out.lt)
  clear hb HB0 HX0 HY0 HZ0
  obtain ⟨x0, x1, x2, x3⟩ := st_blk HX1.out
  obtain ⟨y0, y1', y2, y3⟩ := st_blk HY1.out
  obtain ⟨z0, z1', z2, z3⟩ := st_blk HZ1.out
  go_wp2_with fail
  refine (HAB.out _).mono ?_
  rintro e w2 ⟨rfl, hb⟩
  have HB2 := Lib.hid (below_two HB1.out hb)
  have HX2 := Lib.hid (HX1.out.below hb HX1.out.lt)
  have HY2 := Lib.hid (HY1.out.below hb HY1.out.lt)
  have HZ2 := Lib.hid (HZ1.out.below hb HZ1.out.lt)
  clear hb HB1 HX1 HY1 HZ1 x0 x1 x2 x3 y0 y1' y2 y3 z0 z1' z2 z3
  obtain ⟨x0, x1, x2, x3⟩ := st_blk HX2.out
  obtain ⟨y0, y1', y2, y3⟩ := st_blk HY2.out
  obtain ⟨z0, z1', z2, z3⟩ := st_blk HZ2.out
  go_wp2_with fail
  refine (HABr.out _).mono ?_
  rintro e w3 ⟨rfl, hb⟩
  have HB3 := Lib.hid (below_two HB2.out hb)
  have HX3 := Lib.hid (HX2.out.below hb HX2.out.lt)
  have HY3 := Lib.hid (HY2.out.below hb HY2.out.lt)
  have HZ3 := Lib.hid (HZ2.out.below hb HZ2.out.lt)
  clear hb HB2 HX2 HY2 HZ2 x0 x1 x2 x3 y0 y1' y2 y3 z0 z1' z2 z3
  obtain ⟨x0, x1, x2, x3⟩ := st_blk HX3.out
  obtain ⟨y0, y1', y2, y3⟩ := st_blk HY3.out
  obtain ⟨z0, z1', z2, z3⟩ := st_blk HZ3.out
  go_wp2_with fail
  refine (HBA.out _).mono ?_
  rintro e w4 ⟨rfl, hb⟩
  have HB4 := Lib.hid (below_two HB3.out hb)
  have HX4 := Lib.hid (HX3.out.below hb HX3.out.lt)
  have HY4 := Lib.hid (HY3.out.below hb HY3.out.lt)
  have HZ4 := Lib.hid (HZ3.out.below hb HZ3.out.lt)
  clear hb HB3 HX3 HY3 HZ3 x0 x1 x2 x3 y0 y1' y2 y3 z0 z1' z2 z3
  obtain ⟨x0, x1, x2, x3⟩ := st_blk HX4.out
  obtain ⟨y0, y1', y2, y3⟩ := st_blk HY4.out
  obtain ⟨z0, z1', z2, z3⟩ := st_blk HZ4.out
  go_wp2_with fail
  refine (HAA.out _).mono ?_
  rintro e w5 ⟨rfl, hb⟩
  have HB5 := Lib.hid (below_two HB4.out hb)
  have HX5 := Lib.hid (HX4.out.below hb HX4.out.lt)
  have HY5 := Lib.hid (HY4.out.below hb HY4.out.lt)
  have HZ5 := Lib.hid (HZ4.out.below hb HZ4.out.lt)
  clear hb HB4 HX4 HY4 HZ4 x0 x1 x2 x3 y0 y1' y2 y3 z0 z1' z2 z3
  obtain ⟨x0, x1, x2, x3⟩ := st_blk HX5.out
  obtain ⟨y0, y1', y2, y3⟩ := st_blk HY5.out
  obtain ⟨z0, z1', z2, z3⟩ := st_blk HZ5.out
  go_wp2_with fail
  refine (HBC.out _).mono ?_
  rintro e w6 ⟨rfl, hb⟩
  have HB6 := Lib.hid (below_two HB5.out hb)
  have HX6 := Lib.hid (HX5.out.below hb HX5.out.lt)
  have HY6 := Lib.hid (HY5.out.below hb HY5.out.lt)
  have HZ6 := Lib.hid (HZ5.out.below hb HZ5.out.lt)
  clear hb HB5 HX5 HY5 HZ5 x0 x1 x2 x3 y0 y1' y2 y3 z0 z1' z2 z3
  obtain ⟨x0, x1, x2, x3⟩ := st_blk HX6.out
  obtain ⟨y0, y1', y2, y3⟩ := st_blk HY6.out
  obtain ⟨z0, z1', z2, z3⟩ := st_blk HZ6.out
  go_wp2_with fail
  refine (HAC.out _).mono ?_
  rintro e w7 ⟨rfl, hb⟩
  have HB7 := Lib.hid (below_two HB6.out hb)
  have HX7 := Lib.hid (HX6.out.below hb HX6.out.lt)
  have HY7 := Lib.hid (HY6.out.below hb HY6.out.lt)
  have HZ7 := Lib.hid (HZ6.out.below hb HZ6.out.lt)
  clear hb HB6 HX6 HY6 HZ6 x0 x1 x2 x3 y0 y1' y2 y3 z0 z1' z2 z3
  obtain ⟨x0, x1, x2, x3⟩ := st_blk HX7.out
  obtain ⟨y0, y1', y2, y3⟩ := st_blk HY7.out
  obtain ⟨z0, z1', z2, z3⟩ := st_blk HZ7.out
  go_wp2_with fail
  go_ret
  exact ⟨rfl, HB7.out⟩
set_option maxRecDepth 100000 in
set_option maxHeartbeats 4000000 in
theorem ord_ey (st en ot pe stq enq otq peq Y Z : Int) (w : World) (hE : Env w) (hEE : EnvE w)
    (y1 : decide (0 < Y) = true)
    (HAB : Hid (∀ w, Calls Tryd.prog 25 #[.agg #[.int .i64 st, .int .i64 en, .int .i64 ot, .int .i64 pe], .agg #[.int .i64 st, .int .i64 en, .int .i64 ot, .int .i64 pe]] w fun e w' => e = .returned (.int .i64 0) ∧ Below w.heap.size w w'))
    (HABr : Hid (∀ w, Calls Tryd.prog 26 #[.agg #[.int .i64 st, .int .i64 en, .int .i64 ot, .int .i64 pe], .agg #[.int .i64 st, .int .i64 en, .int .i64 ot, .int .i64 pe]] w fun e w' => e = .returned (.int .i64 0) ∧ Below w.heap.size w w'))
    (HBA : Hid (∀ w, Calls Tryd.prog 25 #[.agg #[.int .i64 st, .int .i64 en, .int .i64 ot, .int .i64 pe], .agg #[.int .i64 st, .int .i64 en, .int .i64 ot, .int .i64 pe]] w fun e w' => e = .returned (.int .i64 0) ∧ Below w.heap.size w w'))
    (HAA : Hid (∀ w, Calls Tryd.prog 25 #[.agg #[.int .i64 st, .int .i64 en, .int .i64 ot, .int .i64 pe], .agg #[.int .i64 st, .int .i64 en, .int .i64 ot, .int .i64 pe]] w fun e w' => e = .returned (.int .i64 0) ∧ Below w.heap.size w w'))
    (HBC : Hid (∀ w, Calls Tryd.prog 25 #[.agg #[.int .i64 st, .int .i64 en, .int .i64 ot, .int .i64 pe], .agg #[.int .i64 stq, .int .i64 enq, .int .i64 otq, .int .i64 peq]] w fun e w' => e = .returned (.int .i64 Y) ∧ Below w.heap.size w w'))
    (HAC : Hid (∀ w, Calls Tryd.prog 25 #[.agg #[.int .i64 st, .int .i64 en, .int .i64 ot, .int .i64 pe], .agg #[.int .i64 stq, .int .i64 enq, .int .i64 otq, .int .i64 peq]] w fun e w' => e = .returned (.int .i64 Z) ∧ Below w.heap.size w w')) :
    Calls Tryd.prog 7 #[.agg #[.int .i64 st, .int .i64 en, .int .i64 ot, .int .i64 pe], .agg #[.int .i64 st, .int .i64 en, .int .i64 ot, .int .i64 pe], .agg #[.int .i64 stq, .int .i64 enq, .int .i64 otq, .int .i64 peq]] w fun e w' => e = .returned (.bool true) ∧ Below w.heap.size w w' := by
  have HX0 := Lib.hid (((Blk.new w 23 #[.int .i64 st, .int .i64 en, .int .i64 ot, .int .i64 pe]).alloc (.cells (#[.int .i64 st, .int .i64 en, .int .i64 ot, .int .i64 pe] : Array Value) 23)).alloc (.cells (#[.int .i64 stq, .int .i64 enq, .int .i64 otq, .int .i64 peq] : Array Value) 23))
  have hy0 := (Blk.new (w.alloc (.cells (#[.int .i64 st, .int .i64 en, .int .i64 ot, .int .i64 pe] : Array Value) 23)) 23 #[.int .i64 st, .int .i64 en, .int .i64 ot, .int .i64 pe]).alloc (.cells (#[.int .i64 stq, .int .i64 enq, .int .i64 otq, .int .i64 peq] : Array Value) 23)
  have hz0 := Blk.new ((w.alloc (.cells (#[.int .i64 st, .int .i64 en, .int .i64 ot, .int .i64 pe] : Array Value) 23)).alloc (.cells (#[.int .i64 st, .int .i64 en, .int .i64 ot, .int .i64 pe] : Array Value) 23)) 23 #[.int .i64 stq, .int .i64 enq, .int .i64 otq, .int .i64 peq]
  rw [World.size_alloc] at hy0
  rw [World.size_alloc, World.size_alloc] at hz0
  have HY0 := Lib.hid hy0
  have HZ0 := Lib.hid hz0
  clear hy0 hz0
  have HB0 := Lib.hid ((((Below.refl w.heap.size w).alloc (Nat.le_refl _) (.cells (#[.int .i64 st, .int .i64 en, .int .i64 ot, .int .i64 pe] : Array Value) 23)).alloc (by simp) (.cells (#[.int .i64 st, .int .i64 en, .int .i64 ot, .int .i64 pe] : Array Value) 23)).alloc (by simp; omega) (.cells (#[.int .i64 stq, .int .i64 enq, .int .i64 otq, .int .i64 peq] : Array Value) 23))
  have HE0 := Lib.hid (hE.after HB0.out)
  have HEE0 := Lib.hid (hEE.below HB0.out hE.size)
  go_enter Tryd.func7, Tryd.ntmps7
  go_wp2_with fail
  refine (awake_true _ HE0.out HEE0.out).mono ?_
  rintro e w1 ⟨rfl, hb⟩
  have HB1 := Lib.hid (below_two HB0.out hb)
  have HX1 := Lib.hid (HX0.out.below hb HX0.out.lt)
  have HY1 := Lib.hid (HY0.out.below hb HY0.out.lt)
  have HZ1 := Lib.hid (HZ0.out.below hb HZ0.out.lt)
  clear hb HB0 HX0 HY0 HZ0
  obtain ⟨x0, x1, x2, x3⟩ := st_blk HX1.out
  obtain ⟨y0, y1', y2, y3⟩ := st_blk HY1.out
  obtain ⟨z0, z1', z2, z3⟩ := st_blk HZ1.out
  go_wp2_with fail
  refine (HAB.out _).mono ?_
  rintro e w2 ⟨rfl, hb⟩
  have HB2 := Lib.hid (below_two HB1.out hb)
  have HX2 := Lib.hid (HX1.out.below hb HX1.out.lt)
  have HY2 := Lib.hid (HY1.out.below hb HY1.out.lt)
  have HZ2 := Lib.hid (HZ1.out.below hb HZ1.out.lt)
  clear hb HB1 HX1 HY1 HZ1 x0 x1 x2 x3 y0 y1' y2 y3 z0 z1' z2 z3
  obtain ⟨x0, x1, x2, x3⟩ := st_blk HX2.out
  obtain ⟨y0, y1', y2, y3⟩ := st_blk HY2.out
  obtain ⟨z0, z1', z2, z3⟩ := st_blk HZ2.out
  go_wp2_with fail
  refine (HABr.out _).mono ?_
  rintro e w3 ⟨rfl, hb⟩
  have HB3 := Lib.hid (below_two HB2.out hb)
  have HX3 := Lib.hid (HX2.out.below hb HX2.out.lt)
  have HY3 := Lib.hid (HY2.out.below hb HY2.out.lt)
  have HZ3 := Lib.hid (HZ2.out.below hb HZ2.out.lt)
  clear hb HB2 HX2 HY2 HZ2 x0 x1 x2 x3 y0 y1' y2 y3 z0 z1' z2 z3
  obtain ⟨x0, x1, x2, x3⟩ := st_blk HX3.out
  obtain ⟨y0, y1', y2, y3⟩ := st_blk HY3.out
  obtain ⟨z0, z1', z2, z3⟩ := st_blk HZ3.out
  go_wp2_with fail
  refine (HBA.out _).mono ?_
  rintro e w4 ⟨rfl, hb⟩
  have HB4 := Lib.hid (below_two HB3.out hb)
  have HX4 := Lib.hid (HX3.out.below hb HX3.out.lt)
  have HY4 := Lib.hid (HY3.out.below hb HY3.out.lt)
  have HZ4 := Lib.hid (HZ3.out.below hb HZ3.out.lt)
  clear hb HB3 HX3 HY3 HZ3 x0 x1 x2 x3 y0 y1' y2 y3 z0 z1' z2 z3
  obtain ⟨x0, x1, x2, x3⟩ := st_blk HX4.out
  obtain ⟨y0, y1', y2, y3⟩ := st_blk HY4.out
  obtain ⟨z0, z1', z2, z3⟩ := st_blk HZ4.out
  go_wp2_with fail
  refine (HAA.out _).mono ?_
  rintro e w5 ⟨rfl, hb⟩
  have HB5 := Lib.hid (below_two HB4.out hb)
  have HX5 := Lib.hid (HX4.out.below hb HX4.out.lt)
  have HY5 := Lib.hid (HY4.out.below hb HY4.out.lt)
  have HZ5 := Lib.hid (HZ4.out.below hb HZ4.out.lt)
  clear hb HB4 HX4 HY4 HZ4 x0 x1 x2 x3 y0 y1' y2 y3 z0 z1' z2 z3
  obtain ⟨x0, x1, x2, x3⟩ := st_blk HX5.out
  obtain ⟨y0, y1', y2, y3⟩ := st_blk HY5.out
  obtain ⟨z0, z1', z2, z3⟩ := st_blk HZ5.out
  go_wp2_with fail
  refine (HBC.out _).mono ?_
  rintro e w6 ⟨rfl, hb⟩
  have HB6 := Lib.hid (below_two HB5.out hb)
  have HX6 := Lib.hid (HX5.out.below hb HX5.out.lt)
  have HY6 := Lib.hid (HY5.out.below hb HY5.out.lt)
  have HZ6 := Lib.hid (HZ5.out.below hb HZ5.out.lt)
  clear hb HB5 HX5 HY5 HZ5 x0 x1 x2 x3 y0 y1' y2 y3 z0 z1' z2 z3
  obtain ⟨x0, x1, x2, x3⟩ := st_blk HX6.out
  obtain ⟨y0, y1', y2, y3⟩ := st_blk HY6.out
  obtain ⟨z0, z1', z2, z3⟩ := st_blk HZ6.out
  go_wp2_with fail
  go_ret
  exact ⟨rfl, HB6.out⟩
set_option maxRecDepth 100000 in
set_option maxHeartbeats 4000000 in
theorem ord_ez (st en ot pe stq enq otq peq Y Z : Int) (w : World) (hE : Env w) (hEE : EnvE w)
    (y1 : decide (0 < Y) = false) (z1 : decide (Z ≤ 0) = true)
    (HAB : Hid (∀ w, Calls Tryd.prog 25 #[.agg #[.int .i64 st, .int .i64 en, .int .i64 ot, .int .i64 pe], .agg #[.int .i64 st, .int .i64 en, .int .i64 ot, .int .i64 pe]] w fun e w' => e = .returned (.int .i64 0) ∧ Below w.heap.size w w'))
    (HABr : Hid (∀ w, Calls Tryd.prog 26 #[.agg #[.int .i64 st, .int .i64 en, .int .i64 ot, .int .i64 pe], .agg #[.int .i64 st, .int .i64 en, .int .i64 ot, .int .i64 pe]] w fun e w' => e = .returned (.int .i64 0) ∧ Below w.heap.size w w'))
    (HBA : Hid (∀ w, Calls Tryd.prog 25 #[.agg #[.int .i64 st, .int .i64 en, .int .i64 ot, .int .i64 pe], .agg #[.int .i64 st, .int .i64 en, .int .i64 ot, .int .i64 pe]] w fun e w' => e = .returned (.int .i64 0) ∧ Below w.heap.size w w'))
    (HAA : Hid (∀ w, Calls Tryd.prog 25 #[.agg #[.int .i64 st, .int .i64 en, .int .i64 ot, .int .i64 pe], .agg #[.int .i64 st, .int .i64 en, .int .i64 ot, .int .i64 pe]] w fun e w' => e = .returned (.int .i64 0) ∧ Below w.heap.size w w'))
    (HBC : Hid (∀ w, Calls Tryd.prog 25 #[.agg #[.int .i64 st, .int .i64 en, .int .i64 ot, .int .i64 pe], .agg #[.int .i64 stq, .int .i64 enq, .int .i64 otq, .int .i64 peq]] w fun e w' => e = .returned (.int .i64 Y) ∧ Below w.heap.size w w'))
    (HAC : Hid (∀ w, Calls Tryd.prog 25 #[.agg #[.int .i64 st, .int .i64 en, .int .i64 ot, .int .i64 pe], .agg #[.int .i64 stq, .int .i64 enq, .int .i64 otq, .int .i64 peq]] w fun e w' => e = .returned (.int .i64 Z) ∧ Below w.heap.size w w')) :
    Calls Tryd.prog 7 #[.agg #[.int .i64 st, .int .i64 en, .int .i64 ot, .int .i64 pe], .agg #[.int .i64 st, .int .i64 en, .int .i64 ot, .int .i64 pe], .agg #[.int .i64 stq, .int .i64 enq, .int .i64 otq, .int .i64 peq]] w fun e w' => e = .returned (.bool true) ∧ Below w.heap.size w w' := by
  have HX0 := Lib.hid (((Blk.new w 23 #[.int .i64 st, .int .i64 en, .int .i64 ot, .int .i64 pe]).alloc (.cells (#[.int .i64 st, .int .i64 en, .int .i64 ot, .int .i64 pe] : Array Value) 23)).alloc (.cells (#[.int .i64 stq, .int .i64 enq, .int .i64 otq, .int .i64 peq] : Array Value) 23))
  have hy0 := (Blk.new (w.alloc (.cells (#[.int .i64 st, .int .i64 en, .int .i64 ot, .int .i64 pe] : Array Value) 23)) 23 #[.int .i64 st, .int .i64 en, .int .i64 ot, .int .i64 pe]).alloc (.cells (#[.int .i64 stq, .int .i64 enq, .int .i64 otq, .int .i64 peq] : Array Value) 23)
  have hz0 := Blk.new ((w.alloc (.cells (#[.int .i64 st, .int .i64 en, .int .i64 ot, .int .i64 pe] : Array Value) 23)).alloc (.cells (#[.int .i64 st, .int .i64 en, .int .i64 ot, .int .i64 pe] : Array Value) 23)) 23 #[.int .i64 stq, .int .i64 enq, .int .i64 otq, .int .i64 peq]
  rw [World.size_alloc] at hy0
  rw [World.size_alloc, World.size_alloc] at hz0
  have HY0 := Lib.hid hy0
  have HZ0 := Lib.hid hz0
  clear hy0 hz0
  have HB0 := Lib.hid ((((Below.refl w.heap.size w).alloc (Nat.le_refl _) (.cells (#[.int .i64 st, .int .i64 en, .int .i64 ot, .int .i64 pe] : Array Value) 23)).alloc (by simp) (.cells (#[.int .i64 st, .int .i64 en, .int .i64 ot, .int .i64 pe] : Array Value) 23)).alloc (by simp; omega) (.cells (#[.int .i64 stq, .int .i64 enq, .int .i64 otq, .int .i64 peq] : Array Value) 23))
  have HE0 := Lib.hid (hE.after HB0.out)
  have HEE0 := Lib.hid (hEE.below HB0.out hE.size)
  go_enter Tryd.func7, Tryd.ntmps7
  go_wp2_with fail
  refine (awake_true _ HE0.out HEE0.out).mono ?_
  rintro e w1 ⟨rfl, hb⟩
  have HB1 := Lib.hid (below_two HB0.out hb)
  have HX1 := Lib.hid (HX0.out.below hb HX0.out.lt)
  have HY1 := Lib.hid (HY0.out.below hb HY0.out.lt)
  have HZ1 := Lib.hid (HZ0.out.below hb HZ0.out.lt)
  clear hb HB0 HX0 HY0 HZ0
  obtain ⟨x0, x1, x2, x3⟩ := st_blk HX1.out
  obtain ⟨y0, y1', y2, y3⟩ := st_blk HY1.out
  obtain ⟨z0, z1', z2, z3⟩ := st_blk HZ1.out
  go_wp2_with fail
  refine (HAB.out _).mono ?_
  rintro e w2 ⟨rfl, hb⟩
  have HB2 := Lib.hid (below_two HB1.out hb)
  have HX2 := Lib.hid (HX1.out.below hb HX1.out.lt)
  have HY2 := Lib.hid (HY1.out.below hb HY1.out.lt)
  have HZ2 := Lib.hid (HZ1.out.below hb HZ1.out.lt)
  clear hb HB1 HX1 HY1 HZ1 x0 x1 x2 x3 y0 y1' y2 y3 z0 z1' z2 z3
  obtain ⟨x0, x1, x2, x3⟩ := st_blk HX2.out
  obtain ⟨y0, y1', y2, y3⟩ := st_blk HY2.out
  obtain ⟨z0, z1', z2, z3⟩ := st_blk HZ2.out
  go_wp2_with fail
  refine (HABr.out _).mono ?_
  rintro e w3 ⟨rfl, hb⟩
  have HB3 := Lib.hid (below_two HB2.out hb)
  have HX3 := Lib.hid (HX2.out.below hb HX2.out.lt)
  have HY3 := Lib.hid (HY2.out.below hb HY2.out.lt)
  have HZ3 := Lib.hid (HZ2.out.below hb HZ2.out.lt)
  clear hb HB2 HX2 HY2 HZ2 x0 x1 x2 x3 y0 y1' y2 y3 z0 z1' z2 z3
  obtain ⟨x0, x1, x2, x3⟩ := st_blk HX3.out
  obtain ⟨y0, y1', y2, y3⟩ := st_blk HY3.out
  obtain ⟨z0, z1', z2, z3⟩ := st_blk HZ3.out
  go_wp2_with fail
  refine (HBA.out _).mono ?_
  rintro e w4 ⟨rfl, hb⟩
  have HB4 := Lib.hid (below_two HB3.out hb)
  have HX4 := Lib.hid (HX3.out.below hb HX3.out.lt)
  have HY4 := Lib.hid (HY3.out.below hb HY3.out.lt)
  have HZ4 := Lib.hid (HZ3.out.below hb HZ3.out.lt)
  clear hb HB3 HX3 HY3 HZ3 x0 x1 x2 x3 y0 y1' y2 y3 z0 z1' z2 z3
  obtain ⟨x0, x1, x2, x3⟩ := st_blk HX4.out
  obtain ⟨y0, y1', y2, y3⟩ := st_blk HY4.out
  obtain ⟨z0, z1', z2, z3⟩ := st_blk HZ4.out
  go_wp2_with fail
  refine (HAA.out _).mono ?_
  rintro e w5 ⟨rfl, hb⟩
  have HB5 := Lib.hid (below_two HB4.out hb)
  have HX5 := Lib.hid (HX4.out.below hb HX4.out.lt)
  have HY5 := Lib.hid (HY4.out.below hb HY4.out.lt)
  have HZ5 := Lib.hid (HZ4.out.below hb HZ4.out.lt)
  clear hb HB4 HX4 HY4 HZ4 x0 x1 x2 x3 y0 y1' y2 y3 z0 z1' z2 z3
  obtain ⟨x0, x1, x2, x3⟩ := st_blk HX5.out
  obtain ⟨y0, y1', y2, y3⟩ := st_blk HY5.out
  obtain ⟨z0, z1', z2, z3⟩ := st_blk HZ5.out
  go_wp2_with fail
  refine (HBC.out _).mono ?_
  rintro e w6 ⟨rfl, hb⟩
  have HB6 := Lib.hid (below_two HB5.out hb)
  have HX6 := Lib.hid (HX5.out.below hb HX5.out.lt)
  have HY6 := Lib.hid (HY5.out.below hb HY5.out.lt)
  have HZ6 := Lib.hid (HZ5.out.below hb HZ5.out.lt)
  clear hb HB5 HX5 HY5 HZ5 x0 x1 x2 x3 y0 y1' y2 y3 z0 z1' z2 z3
  obtain ⟨x0, x1, x2, x3⟩ := st_blk HX6.out
  obtain ⟨y0, y1', y2, y3⟩ := st_blk HY6.out
  obtain ⟨z0, z1', z2, z3⟩ := st_blk HZ6.out
  go_wp2_with fail
  refine (HAC.out _).mono ?_
  rintro e w7 ⟨rfl, hb⟩
  have HB7 := Lib.hid (below_two HB6.out hb)
  have HX7 := Lib.hid (HX6.out.below hb HX6.out.lt)
  have HY7 := Lib.hid (HY6.out.below hb HY6.out.lt)
  have HZ7 := Lib.hid (HZ6.out.below hb HZ6.out.lt)
  clear hb HB6 HX6 HY6 HZ6 x0 x1 x2 x3 y0 y1' y2 y3 z0 z1' z2 z3
  obtain ⟨x0, x1, x2, x3⟩ := st_blk HX7.out
  obtain ⟨y0, y1', y2, y3⟩ := st_blk HY7.out
  obtain ⟨z0, z1', z2, z3⟩ := st_blk HZ7.out
  go_wp2_with fail
  go_ret
  exact ⟨rfl, HB7.out⟩
theorem lawOrder (a b c : SCell) (w : World) (hE : Env w) (hEE : EnvE w) : Calls Tryd.prog 7 #[cellV a, cellV b, cellV c] w fun e w' => e = .returned (.bool true) ∧ Below w.heap.size w w' := by
  have HAB := compare_any a b
  have HABr := refCompare_any a b
  have HBA := compare_any b a
  have HAA := compare_any a a
  have HBC := compare_any b c
  have HAC := compare_any a c
  have tr := cmpC_trans a b c
  have sp := cmpC_spec a b
  have ne : cmpC a b ≠ 0 → a.st ≠ b.st ∨ (a.st = b.st ∧ (a.en ≠ b.en ∨ (a.en = b.en ∧ (a.ot ≠ b.ot ∨ (a.ot = b.ot ∧ a.pe ≠ b.pe))))) := by
    intro h
    have h0 : ¬ (a.st = b.st ∧ a.en = b.en ∧ a.ot = b.ot ∧ a.pe = b.pe) := by
      rintro ⟨h1, h2, h3, h4⟩
      apply h
      have : a = b := by cases a; cases b; simp only [SCell.mk.injEq]; exact ⟨h1, h2, h3, h4⟩
      rw [this, cmpC_self]
    omega
  rw [cmpC_self] at HAA
  rw [cmpC_swap a b] at HBA
  generalize cmpC a b = X at *
  generalize cmpC b c = Y at *
  generalize cmpC a c = Z at *
  obtain ⟨st, en, ot, pe⟩ := a
  obtain ⟨st', en', ot', pe'⟩ := b
  obtain ⟨stq, enq, otq, peq⟩ := c
  unfold cellV at *
  simp only [] at *
  have hy : X ≤ 0 → (decide (0 < Y) = true ∨ (decide (0 < Y) = false ∧ decide (Z ≤ 0) = true)) := by
    intro hx
    rw [decide_eq_true_eq, decide_eq_false_iff_not, decide_eq_true_eq]
    by_cases h : 0 < Y
    · exact .inl h
    · exact .inr ⟨h, tr hx (by omega)⟩
  clear tr
  rcases sp with ⟨rfl, _⟩ | ⟨rfl, _⟩ | ⟨rfl, rfl, rfl, rfl, rfl⟩
  · have hy := hy (by omega)
    rcases ne (by omega) with h | ⟨rfl, h | ⟨rfl, h | ⟨rfl, h⟩⟩⟩
    · rcases hy with y | ⟨y, z⟩
      · exact ord_y0 st en ot pe st' en' ot' pe' stq enq otq peq Y Z w hE hEE (beq_eq_false_iff_ne.2 h) y HAB HABr HBA HAA HBC HAC
      · exact ord_z0 st en ot pe st' en' ot' pe' stq enq otq peq Y Z w hE hEE (beq_eq_false_iff_ne.2 h) y z HAB HABr HBA HAA HBC HAC
    · rcases hy with y | ⟨y, z⟩
      · exact ord_y1 st en ot pe en' ot' pe' stq enq otq peq Y Z w hE hEE (beq_eq_false_iff_ne.2 h) y HAB HABr HBA HAA HBC HAC
      · exact ord_z1 st en ot pe en' ot' pe' stq enq otq peq Y Z w hE hEE (beq_eq_false_iff_ne.2 h) y z HAB HABr HBA HAA HBC HAC
    · rcases hy with y | ⟨y, z⟩
      · exact ord_y2 st en ot pe ot' pe' stq enq otq peq Y Z w hE hEE (beq_eq_false_iff_ne.2 h) y HAB HABr HBA HAA HBC HAC
      · exact ord_z2 st en ot pe ot' pe' stq enq otq peq Y Z w hE hEE (beq_eq_false_iff_ne.2 h) y z HAB HABr HBA HAA HBC HAC
    · rcases hy with y | ⟨y, z⟩
      · exact ord_y3 st en ot pe pe' stq enq otq peq Y Z w hE hEE (beq_eq_false_iff_ne.2 h) y HAB HABr HBA HAA HBC HAC
      · exact ord_z3 st en ot pe pe' stq enq otq peq Y Z w hE hEE (beq_eq_false_iff_ne.2 h) y z HAB HABr HBA HAA HBC HAC
  · clear hy
    rcases ne (by omega) with h | ⟨rfl, h | ⟨rfl, h | ⟨rfl, h⟩⟩⟩
    · exact ord_x0 st en ot pe st' en' ot' pe' stq enq otq peq Y Z w hE hEE (beq_eq_false_iff_ne.2 h) HAB HABr HBA HAA HBC HAC
    · exact ord_x1 st en ot pe en' ot' pe' stq enq otq peq Y Z w hE hEE (beq_eq_false_iff_ne.2 h) HAB HABr HBA HAA HBC HAC
    · exact ord_x2 st en ot pe ot' pe' stq enq otq peq Y Z w hE hEE (beq_eq_false_iff_ne.2 h) HAB HABr HBA HAA HBC HAC
    · exact ord_x3 st en ot pe pe' stq enq otq peq Y Z w hE hEE (beq_eq_false_iff_ne.2 h) HAB HABr HBA HAA HBC HAC
  · rcases hy (by omega) with y | ⟨y, z⟩
    · exact ord_ey st en ot pe stq enq otq peq Y Z w hE hEE y HAB HABr HBA HAA HBC HAC
    · exact ord_ez st en ot pe stq enq otq peq Y Z w hE hEE y z HAB HABr HBA HAA HBC HAC
end Go.Proofs.YtophffmofpmbpaaDoor
