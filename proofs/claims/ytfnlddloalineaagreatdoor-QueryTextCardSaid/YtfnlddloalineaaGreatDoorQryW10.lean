/-
  The program's reader: cond, where the value falls or stands.
-/
import Derived.Test.YtfnlddloalineaaGreatDoorQryW9
namespace Go.Proofs.YtfnlddloalineaaGreatDoor
open Go.RowKit
set_option linter.unusedVariables false
set_option maxRecDepth 100000
def CndSays (B R : Nat) (ws : List (List UInt8)) (ps : List Int) (len a b c E : Int) (w : World) (e : Ending) (w' : World) : Prop :=
  e = .returned (.tuple #[.agg #[.int .i64 a, .int .i64 b, .int .i64 c], .int .i64 E]) ∧ Rdr w' B R ws ps len ∧ w.grownBy w' (some R)
theorem cond_val (x o : List UInt8) (ws vs : List (List UInt8)) (p p2 : Int) (ps vps : List Int) (len : Int) (B R : Nat) (n E : Int) (w : World) (h : Rdr w B R (x :: o :: ws) (p :: p2 :: ps) len) (hx : ¬ idxW fdL x < 0) (ho : ¬ idxW (opL.take (opN (idxW fdL x))) o < 0)
    (hval : ∀ w1 : World, Rdr w1 B R ws ps len → w.grownBy w1 (some R) → Calls Tryz.prog 101 #[.pointer (some ⟨R, 0, none⟩), .int .i64 (idxW fdL x)] w1 fun e w' => e = .returned (.tuple #[.int .i64 n, .int .i64 E]) ∧ Rdr w' B R vs vps len ∧ w1.grownBy w' (some R)) :
    Calls Tryz.prog 74 #[.pointer (some ⟨R, 0, none⟩)] w (CndSays B R vs vps len (idxW fdL x) (idxW (opL.take (opN (idxW fdL x))) o) n E w) := by
  have hRw : R < w.heap.size ∧ B ≤ w.heap.size := by obtain ⟨_, _, _, _, hk, _, _, _, _, _, _, h7⟩ := h; exact ⟨hk.lt, h7⟩
  obtain ⟨hRw, hBw⟩ := hRw
  have hb0 := ((Below.refl w.heap.size w).alloc (Nat.le_refl _) (.cells (#[.int .i64 0, .int .i64 0, .int .i64 0] : Array Value) 95)).alloc (by simp) (.cells (#[.int .i64 0, .int .i64 0, .int .i64 0] : Array Value) 95)
  have hb1 := hb0.alloc hb0.size (.cells (fdL.map strV).toArray 9)
  have hr := Rdr.below h hb1
  have hl := Blk.new ((w.alloc (.cells (#[.int .i64 0, .int .i64 0, .int .i64 0] : Array Value) 95)).alloc (.cells (#[.int .i64 0, .int .i64 0, .int .i64 0] : Array Value) 95)) 9 (fdL.map strV).toArray
  rw [World.size_alloc, World.size_alloc] at hl
  have HN := Lib.hid (name_ok x (o :: ws) p (p2 :: ps) len B R _ fdL (w.heap.size + 1 + 1) 5 5 17 hr (fun j hj => word_cell hl hj) (by decide) (by decide) hx)
  rw [show fdL.take 5 = fdL from rfl] at HN
  have hz := ((Blk.new w 95 #[.int .i64 0, .int .i64 0, .int .i64 0]).alloc (.cells (#[.int .i64 0, .int .i64 0, .int .i64 0] : Array Value) 95)).alloc (.cells (fdL.map strV).toArray 9)
  have hc := (Blk.new (w.alloc (.cells (#[.int .i64 0, .int .i64 0, .int .i64 0] : Array Value) 95)) 95 #[.int .i64 0, .int .i64 0, .int .i64 0]).alloc (.cells (fdL.map strV).toArray 9)
  rw [World.size_alloc] at hc
  have HG1 := Lib.hid (grown_of_below hb1 (some R))
  have HZ := Lib.hid hz
  have HC := Lib.hid hc
  have HVL := Lib.hid hval
  have HNM : Hid (∀ (w1 : World) (G : Nat), Rdr w1 B R (o :: ws) (p2 :: ps) len → (∀ j, j < opL.length → w1.cell? ⟨G, j, none⟩ = some (.string ⟨(opL.getD j []).toArray⟩)) → Calls Tryz.prog 70 #[.pointer (some ⟨R, 0, none⟩), .slice (some ⟨G, 0, none⟩) (opN (idxW fdL x)) 6, .int .i64 3] w1 (NameSays B R ws ps len (idxW (opL.take (opN (idxW fdL x))) o) w1)) := fun w1 G hr hc => name_ok o ws p2 ps len B R w1 opL G (opN (idxW fdL x)) 6 3 hr hc (by unfold opN; split <;> decide) (by decide) ho
  clear hb0 hb1 hr hz hc h hl hval hx ho
  generalize idxW (opL.take (opN (idxW fdL x))) o = oi at *
  generalize idxW fdL x = fi at *
  go_enter Tryz.func74, Tryz.ntmps74
  go_wp2_with fail
  refine (fd_any _).mono ?_
  rintro e w1 ⟨rfl, hw1⟩
  rw [← hw1] at HG1 HZ HC HN
  clear hw1
  go_wp2_with fail
  refine HN.out.mono ?_
  rintro e w2 ⟨rfl, hr2, hg2⟩
  have hz2 := HZ.out.grown hg2 (fun e => by injection e; omega)
  have hc2 := HC.out.grown hg2 (fun e => by injection e; omega)
  have HG2 := Lib.hid (World.grownBy.trans HG1.out hg2)
  have HR2 := Lib.hid hr2
  obtain ⟨x0, x1, x2⟩ := rd_cells hc2
  have fx := hc2.frozen
  have HZ2 := Lib.hid hz2
  have HC2 := Lib.hid hc2
  clear hr2 hg2 HZ HC HG1 hz2 hc2 HN
  have HR3 := Lib.hid (HR2.out.low ((Below.refl B w2).setCell (p := ⟨w.heap.size + 1, 0, none⟩) (by simp only []; omega) (.int .i64 fi)))
  have HG3 := Lib.hid (grown_new HG2.out (g := w.heap.size + 1) (by omega) 0 (.int .i64 fi))
  have HZ3 := Lib.hid (HZ2.out.far (p := ⟨w.heap.size + 1, 0, none⟩) (by simp) (.int .i64 fi))
  have HC3 : Hid (Blk (w2.setCell ⟨w.heap.size + 1, 0, none⟩ (.int .i64 fi)) (w.heap.size + 1) 95 #[.int .i64 fi, .int .i64 0, .int .i64 0]) := by
    show Blk _ _ _ _
    have := HC2.out.set_ 0 (.int .i64 fi)
    simpa using this
  clear HR2 HG2 HZ2 HC2
  go_wp2_with fail
  refine (op_any _).mono ?_
  rintro e w4 ⟨rfl, hw4⟩
  generalize w2.setCell ⟨w.heap.size + 1, 0, none⟩ (.int .i64 fi) = w3 at *
  have hb4 := (Below.refl w3.heap.size w3).alloc (Nat.le_refl _) (.cells (opL.map strV).toArray 9)
  have hr4 := HR3.out.below hb4
  have hl4 := Blk.new w3 9 (opL.map strV).toArray
  have hg4 := World.grownBy.trans HG3.out (grown_of_below hb4 (some R))
  have hz4 := HZ3.out.alloc (.cells (opL.map strV).toArray 9)
  have hc4 := HC3.out.alloc (.cells (opL.map strV).toArray 9)
  rw [← hw4] at hb4 hr4 hl4 hg4 hz4 hc4
  have HN4 := Lib.hid (HNM.out w4 w3.heap.size hr4 (fun j hj => word_cell hl4 hj))
  have HR4 := Lib.hid hr4
  have HG4 := Lib.hid hg4
  have HZ4 := Lib.hid hz4
  have HC4 := Lib.hid hc4
  clear x0 x1 x2 fx hb4 hr4 hl4 hg4 hz4 hc4 HR3 HG3 HZ3 HC3 HNM hw4
  obtain ⟨x0, x1, x2⟩ := rd_cells HC4.out
  have fx := HC4.out.frozen
  obtain ⟨z0, z1, z2⟩ := rd_cells HZ4.out
  have fz := HZ4.out.frozen
  by_cases h3 : fi = 3
  · subst h3
    rw [show opN 3 = 2 from rfl] at HN4
    go_wp2_with fail
    refine HN4.out.mono ?_
    rintro e w5 ⟨rfl, hr5, hg5⟩
    have hc5 := HC4.out.grown hg5 (fun e => by injection e; omega)
    have hz5 := HZ4.out.grown hg5 (fun e => by injection e; omega)
    have HG5 := Lib.hid (grown_new (World.grownBy.trans HG4.out hg5) (g := w.heap.size + 1) (by omega) 1 (.int .i64 oi))
    have HR5 := Lib.hid (hr5.low ((Below.refl B w5).setCell (p := ⟨w.heap.size + 1, 1, none⟩) (by simp only []; omega) (.int .i64 oi)))
    have HZ5 := Lib.hid (hz5.far (p := ⟨w.heap.size + 1, 1, none⟩) (by simp) (.int .i64 oi))
    have HC5 : Hid (Blk (w5.setCell ⟨w.heap.size + 1, 1, none⟩ (.int .i64 oi)) (w.heap.size + 1) 95 #[.int .i64 3, .int .i64 oi, .int .i64 0]) := by
      show Blk _ _ _ _
      have := hc5.set_ 1 (.int .i64 oi)
      simpa using this
    have HV := Lib.hid (HVL.out _ HR5.out HG5.out)
    clear x0 x1 x2 fx z0 z1 z2 fz
    obtain ⟨x0, x1, x2⟩ := rd_cells hc5
    have fx := hc5.frozen
    clear hr5 hg5 hc5 hz5 HN4 HR4 HG4 HZ4 HC4 HVL
    go_wp2_with fail
    refine HV.out.mono ?_
    rintro e w7 ⟨rfl, hr7, hg7⟩
    have hc7 := HC5.out.grown hg7 (fun e => by injection e; omega)
    have hz7 := HZ5.out.grown hg7 (fun e => by injection e; omega)
    have HG7 := Lib.hid (World.grownBy.trans HG5.out hg7)
    have HR7 := Lib.hid hr7
    have HZ7 := Lib.hid hz7
    clear x0 x1 x2 fx
    obtain ⟨x0, x1, x2⟩ := rd_cells hc7
    have fx := hc7.frozen
    obtain ⟨z0, z1, z2⟩ := rd_cells hz7
    have fz := hz7.frozen
    clear hr7 hg7 hc7 hz7 HV HR5 HG5 HZ5 HC5
    go_wp2_with fail
    have hrF := HR7.out.low (((((Below.refl B w7).setCell (p := ⟨w.heap.size + 1, 2, none⟩) (by simp only []; omega) (.int .i64 n)).setCell (p := ⟨w.heap.size, 0, none⟩) hBw (.int .i64 3)).setCell (p := ⟨w.heap.size, 1, none⟩) hBw (.int .i64 oi)).setCell (p := ⟨w.heap.size, 2, none⟩) hBw (.int .i64 n))
    have hgF := grown_new (grown_new (grown_new (grown_new HG7.out (g := w.heap.size + 1) (by omega) 2 (.int .i64 n)) (g := w.heap.size) (Nat.le_refl _) 0 (.int .i64 3)) (g := w.heap.size) (Nat.le_refl _) 1 (.int .i64 oi)) (g := w.heap.size) (Nat.le_refl _) 2 (.int .i64 n)
    have hzF := set3 (a' := .int .i64 3) (b' := .int .i64 oi) (c' := .int .i64 n) (HZ7.out.far (p := ⟨w.heap.size + 1, 2, none⟩) (by simp) (.int .i64 n))
    clear z0 z1 z2
    obtain ⟨z0, z1, z2⟩ := rd_cells hzF
    refine bodyPost_ret (v := .tuple #[.agg #[.int .i64 3, .int .i64 oi, .int .i64 n], .int .i64 E]) ?_ rfl ⟨rfl, hrF, hgF⟩
    simp [results, Tryz.results74, go_sem, z0, z1, z2]
  · have q1 : (fi == 3) = false := by rw [beq_eq_false_iff_ne]; exact h3
    rw [show opN fi = 6 by unfold opN; rw [if_neg h3]] at HN4
    clear h3
    go_wp2_with fail
    refine HN4.out.mono ?_
    rintro e w5 ⟨rfl, hr5, hg5⟩
    have hc5 := HC4.out.grown hg5 (fun e => by injection e; omega)
    have hz5 := HZ4.out.grown hg5 (fun e => by injection e; omega)
    have HG5 := Lib.hid (grown_new (World.grownBy.trans HG4.out hg5) (g := w.heap.size + 1) (by omega) 1 (.int .i64 oi))
    have HR5 := Lib.hid (hr5.low ((Below.refl B w5).setCell (p := ⟨w.heap.size + 1, 1, none⟩) (by simp only []; omega) (.int .i64 oi)))
    have HZ5 := Lib.hid (hz5.far (p := ⟨w.heap.size + 1, 1, none⟩) (by simp) (.int .i64 oi))
    have HC5 : Hid (Blk (w5.setCell ⟨w.heap.size + 1, 1, none⟩ (.int .i64 oi)) (w.heap.size + 1) 95 #[.int .i64 fi, .int .i64 oi, .int .i64 0]) := by
      show Blk _ _ _ _
      have := hc5.set_ 1 (.int .i64 oi)
      simpa using this
    have HV := Lib.hid (HVL.out _ HR5.out HG5.out)
    clear x0 x1 x2 fx z0 z1 z2 fz
    obtain ⟨x0, x1, x2⟩ := rd_cells hc5
    have fx := hc5.frozen
    clear hr5 hg5 hc5 hz5 HN4 HR4 HG4 HZ4 HC4 HVL
    go_wp2_with fail
    refine HV.out.mono ?_
    rintro e w7 ⟨rfl, hr7, hg7⟩
    have hc7 := HC5.out.grown hg7 (fun e => by injection e; omega)
    have hz7 := HZ5.out.grown hg7 (fun e => by injection e; omega)
    have HG7 := Lib.hid (World.grownBy.trans HG5.out hg7)
    have HR7 := Lib.hid hr7
    have HZ7 := Lib.hid hz7
    clear x0 x1 x2 fx
    obtain ⟨x0, x1, x2⟩ := rd_cells hc7
    have fx := hc7.frozen
    obtain ⟨z0, z1, z2⟩ := rd_cells hz7
    have fz := hz7.frozen
    clear hr7 hg7 hc7 hz7 HV HR5 HG5 HZ5 HC5
    go_wp2_with fail
    have hrF := HR7.out.low (((((Below.refl B w7).setCell (p := ⟨w.heap.size + 1, 2, none⟩) (by simp only []; omega) (.int .i64 n)).setCell (p := ⟨w.heap.size, 0, none⟩) hBw (.int .i64 fi)).setCell (p := ⟨w.heap.size, 1, none⟩) hBw (.int .i64 oi)).setCell (p := ⟨w.heap.size, 2, none⟩) hBw (.int .i64 n))
    have hgF := grown_new (grown_new (grown_new (grown_new HG7.out (g := w.heap.size + 1) (by omega) 2 (.int .i64 n)) (g := w.heap.size) (Nat.le_refl _) 0 (.int .i64 fi)) (g := w.heap.size) (Nat.le_refl _) 1 (.int .i64 oi)) (g := w.heap.size) (Nat.le_refl _) 2 (.int .i64 n)
    have hzF := set3 (a' := .int .i64 fi) (b' := .int .i64 oi) (c' := .int .i64 n) (HZ7.out.far (p := ⟨w.heap.size + 1, 2, none⟩) (by simp) (.int .i64 n))
    clear z0 z1 z2
    obtain ⟨z0, z1, z2⟩ := rd_cells hzF
    refine bodyPost_ret (v := .tuple #[.agg #[.int .i64 fi, .int .i64 oi, .int .i64 n], .int .i64 E]) ?_ rfl ⟨rfl, hrF, hgF⟩
    simp [results, Tryz.results74, go_sem, z0, z1, z2]
end Go.Proofs.YtfnlddloalineaaGreatDoor
