/-
  The program's reader: cond, where the operator is missing or unknown.
-/
import Derived.Test.YtfnlddloalineaaGreatDoorQryW8
namespace Go.Proofs.YtfnlddloalineaaGreatDoor
open Go.RowKit
set_option linter.unusedVariables false
set_option maxRecDepth 100000
theorem grown_new {w w1 : World} {row : Option Nat} (h : w.grownBy w1 row) {g : Nat} (hg : w.heap.size ≤ g) (j : Nat) (v : Value) : w.grownBy (w1.setCell ⟨g, j, none⟩ v) row :=
  ⟨h.os, h.tape, h.output, by have := h.size; simpa using this, fun i hi hne => (Below.heap_setCell w1 ⟨g, j, none⟩ v i (fun e => by simp only [] at e; omega)).trans (h.block i hi hne)⟩
/-- how many operators a field has -/
def opN (f : Int) : Nat := if f = 3 then 2 else 6
theorem cond_op_fell (x : List UInt8) (ws : List (List UInt8)) (p : Int) (ps : List Int) (len : Int) (B R : Nat) (E : Int) (w : World) (h : Rdr w B R (x :: ws) (p :: ps) len) (hE : (E != 0) = true) (hx : ¬ idxW fdL x < 0)
    (hnm : ∀ (w1 : World) (G : Nat), Rdr w1 B R ws ps len → (∀ j, j < opL.length → w1.cell? ⟨G, j, none⟩ = some (.string ⟨(opL.getD j []).toArray⟩)) →
      Calls Tryz.prog 70 #[.pointer (some ⟨R, 0, none⟩), .slice (some ⟨G, 0, none⟩) (opN (idxW fdL x)) 6, .int .i64 3] w1 fun e w' => e = .returned (.tuple #[.int .i64 0, .int .i64 E]) ∧ w1 = w') :
    Calls Tryz.prog 74 #[.pointer (some ⟨R, 0, none⟩)] w (CndErr B R ws ps len E w) := by
  have hRw : R < w.heap.size ∧ B ≤ w.heap.size := by obtain ⟨_, _, _, _, hk, _, _, _, _, _, _, h7⟩ := h; exact ⟨hk.lt, h7⟩
  obtain ⟨hRw, hBw⟩ := hRw
  have hb0 := ((Below.refl w.heap.size w).alloc (Nat.le_refl _) (.cells (#[.int .i64 0, .int .i64 0, .int .i64 0] : Array Value) 95)).alloc (by simp) (.cells (#[.int .i64 0, .int .i64 0, .int .i64 0] : Array Value) 95)
  have hb1 := hb0.alloc hb0.size (.cells (fdL.map strV).toArray 9)
  have hr := Rdr.below h hb1
  have hl := Blk.new ((w.alloc (.cells (#[.int .i64 0, .int .i64 0, .int .i64 0] : Array Value) 95)).alloc (.cells (#[.int .i64 0, .int .i64 0, .int .i64 0] : Array Value) 95)) 9 (fdL.map strV).toArray
  rw [World.size_alloc, World.size_alloc] at hl
  have HN := Lib.hid (name_ok x ws p ps len B R _ fdL (w.heap.size + 1 + 1) 5 5 17 hr (fun j hj => word_cell hl hj) (by decide) (by decide) hx)
  rw [show fdL.take 5 = fdL from rfl] at HN
  have hz := ((Blk.new w 95 #[.int .i64 0, .int .i64 0, .int .i64 0]).alloc (.cells (#[.int .i64 0, .int .i64 0, .int .i64 0] : Array Value) 95)).alloc (.cells (fdL.map strV).toArray 9)
  have hc := (Blk.new (w.alloc (.cells (#[.int .i64 0, .int .i64 0, .int .i64 0] : Array Value) 95)) 95 #[.int .i64 0, .int .i64 0, .int .i64 0]).alloc (.cells (fdL.map strV).toArray 9)
  rw [World.size_alloc] at hc
  have HG1 := Lib.hid (grown_of_below hb1 (some R))
  have HZ := Lib.hid hz
  have HC := Lib.hid hc
  have HNM := Lib.hid hnm
  clear hb0 hb1 hr hz hc h hl hnm hx
  generalize idxW fdL x = fi at *
  go_enter Tryz.func74, Tryz.ntmps74
  go_wp2_with fail
  refine (fd_any _).mono ?_
  rintro e w1 ⟨rfl, hw1⟩
  rw [← hw1] at HG1 HZ HC HN
  clear hw1
  go_wp2_with fail
  refine HN.out.mono ?_
  rintro e w2 ⟨rfl, hr2, hg2⟩
  have hz2 := HZ.out.grown hg2 (fun e => by injection e; omega)
  have hc2 := HC.out.grown hg2 (fun e => by injection e; omega)
  have HG2 := Lib.hid (World.grownBy.trans HG1.out hg2)
  have HR2 := Lib.hid hr2
  obtain ⟨x0, x1, x2⟩ := rd_cells hc2
  have fx := hc2.frozen
  have HZ2 := Lib.hid hz2
  have HC2 := Lib.hid hc2
  clear hr2 hg2 HZ HC HG1 hz2 hc2 HN
  have HR3 := Lib.hid (HR2.out.low ((Below.refl B w2).setCell (p := ⟨w.heap.size + 1, 0, none⟩) (by simp only []; omega) (.int .i64 fi)))
  have HG3 := Lib.hid (grown_new HG2.out (g := w.heap.size + 1) (by omega) 0 (.int .i64 fi))
  have HZ3 := Lib.hid (HZ2.out.far (p := ⟨w.heap.size + 1, 0, none⟩) (by simp) (.int .i64 fi))
  have HC3 : Hid (Blk (w2.setCell ⟨w.heap.size + 1, 0, none⟩ (.int .i64 fi)) (w.heap.size + 1) 95 #[.int .i64 fi, .int .i64 0, .int .i64 0]) := by
    show Blk _ _ _ _
    have := HC2.out.set_ 0 (.int .i64 fi)
    simpa using this
  clear HR2 HG2 HZ2 HC2
  go_wp2_with fail
  refine (op_any _).mono ?_
  rintro e w4 ⟨rfl, hw4⟩
  generalize w2.setCell ⟨w.heap.size + 1, 0, none⟩ (.int .i64 fi) = w3 at *
  have hb4 := (Below.refl w3.heap.size w3).alloc (Nat.le_refl _) (.cells (opL.map strV).toArray 9)
  have hr4 := HR3.out.below hb4
  have hl4 := Blk.new w3 9 (opL.map strV).toArray
  have hg4 := World.grownBy.trans HG3.out (grown_of_below hb4 (some R))
  have hz4 := HZ3.out.alloc (.cells (opL.map strV).toArray 9)
  have hc4 := HC3.out.alloc (.cells (opL.map strV).toArray 9)
  rw [← hw4] at hb4 hr4 hl4 hg4 hz4 hc4
  have HN4 := Lib.hid (HNM.out w4 w3.heap.size hr4 (fun j hj => word_cell hl4 hj))
  have HR4 := Lib.hid hr4
  have HG4 := Lib.hid hg4
  have HZ4 := Lib.hid hz4
  have HC4 := Lib.hid hc4
  clear x0 x1 x2 fx hb4 hr4 hl4 hg4 hz4 hc4 HR3 HG3 HZ3 HC3 HNM hw4
  obtain ⟨x0, x1, x2⟩ := rd_cells HC4.out
  have fx := HC4.out.frozen
  obtain ⟨z0, z1, z2⟩ := rd_cells HZ4.out
  have fz := HZ4.out.frozen
  have HEND : Hid (∀ ws' : World, ws' = (((w4.setCell ⟨w.heap.size + 1, 1, none⟩ (.int .i64 0)).setCell ⟨w.heap.size, 0, none⟩ (.int .i64 fi)).setCell ⟨w.heap.size, 1, none⟩ (.int .i64 0)).setCell ⟨w.heap.size, 2, none⟩ (.int .i64 0) → Rdr ws' B R ws ps len ∧ w.grownBy ws' (some R) ∧ Blk ws' w.heap.size 95 #[.int .i64 fi, .int .i64 0, .int .i64 0]) := by
    show ∀ _, _
    rintro ws' rfl
    refine ⟨HR4.out.low (((((Below.refl B w4).setCell (p := ⟨w.heap.size + 1, 1, none⟩) (by simp only []; omega) _).setCell (p := ⟨w.heap.size, 0, none⟩) hBw _).setCell (p := ⟨w.heap.size, 1, none⟩) hBw _).setCell (p := ⟨w.heap.size, 2, none⟩) hBw _), grown_new (grown_new (grown_new (grown_new HG4.out (by omega) _ _) (Nat.le_refl _) _ _) (Nat.le_refl _) _ _) (Nat.le_refl _) _ _, set3 (HZ4.out.far (p := ⟨w.heap.size + 1, 1, none⟩) (by simp) _)⟩
  by_cases h3 : fi = 3
  · subst h3
    rw [show opN 3 = 2 from rfl] at HN4
    go_wp2_with fail
    refine HN4.out.mono ?_
    rintro e wx ⟨rfl, rfl⟩
    go_wp2_with fail
    obtain ⟨hr, hg, hz⟩ := HEND.out _ rfl
    clear z0 z1 z2
    obtain ⟨z0, z1, z2⟩ := rd_cells hz
    refine bodyPost_ret (v := .tuple #[.agg #[.int .i64 3, .int .i64 0, .int .i64 0], .int .i64 E]) ?_ rfl ⟨⟨3, 0, 0, rfl⟩, hr, hg⟩
    simp [results, Tryz.results74, go_sem, z0, z1, z2]
  · have q1 : (fi == 3) = false := by rw [beq_eq_false_iff_ne]; exact h3
    rw [show opN fi = 6 by unfold opN; rw [if_neg h3]] at HN4
    clear h3
    go_wp2_with fail
    refine HN4.out.mono ?_
    rintro e wx ⟨rfl, rfl⟩
    go_wp2_with fail
    obtain ⟨hr, hg, hz⟩ := HEND.out _ rfl
    clear z0 z1 z2
    obtain ⟨z0, z1, z2⟩ := rd_cells hz
    refine bodyPost_ret (v := .tuple #[.agg #[.int .i64 fi, .int .i64 0, .int .i64 0], .int .i64 E]) ?_ rfl ⟨⟨fi, 0, 0, rfl⟩, hr, hg⟩
    simp [results, Tryz.results74, go_sem, z0, z1, z2]
end Go.Proofs.YtfnlddloalineaaGreatDoor
