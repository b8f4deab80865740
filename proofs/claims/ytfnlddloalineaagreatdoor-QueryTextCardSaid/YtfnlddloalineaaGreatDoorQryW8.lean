/-
  The program's reader: cond, where the field is missing or unknown.
-/
import Derived.Test.YtfnlddloalineaaGreatDoorQryW7
namespace Go.Proofs.YtfnlddloalineaaGreatDoor
open Go.RowKit
set_option linter.unusedVariables false
set_option maxRecDepth 100000
def CndErr (B R : Nat) (ws : List (List UInt8)) (ps : List Int) (len E : Int) (w : World) (e : Ending) (w' : World) : Prop :=
  (∃ a b c : Int, e = .returned (.tuple #[.agg #[.int .i64 a, .int .i64 b, .int .i64 c], .int .i64 E])) ∧ Rdr w' B R ws ps len ∧ w.grownBy w' (some R)
theorem set3 {w : World} {g : Nat} {T : TypeId} {a b c a' b' c' : Value} (h : Blk w g T #[a, b, c]) : Blk (((w.setCell ⟨g, 0, none⟩ a').setCell ⟨g, 1, none⟩ b').setCell ⟨g, 2, none⟩ c') g T #[a', b', c'] := by
  have := ((h.set_ 0 a').set_ 1 b').set_ 2 c'
  simpa using this
/-- the first name falls: missing, or unknown -/
theorem cond_fell (ws : List (List UInt8)) (ps : List Int) (len : Int) (B R : Nat) (E : Int) (w : World) (h : Rdr w B R ws ps len) (hE : (E != 0) = true)
    (hnm : ∀ w1 : World, Rdr w1 B R ws ps len → (∀ j, j < fdL.length → w1.cell? ⟨w.heap.size + 1 + 1, j, none⟩ = some (.string ⟨(fdL.getD j []).toArray⟩)) →
      Calls Tryz.prog 70 #[.pointer (some ⟨R, 0, none⟩), .slice (some ⟨w.heap.size + 1 + 1, 0, none⟩) 5 5, .int .i64 17] w1 fun e w' => e = .returned (.tuple #[.int .i64 0, .int .i64 E]) ∧ w1 = w') :
    Calls Tryz.prog 74 #[.pointer (some ⟨R, 0, none⟩)] w (CndErr B R ws ps len E w) := by
  have hb0 := ((Below.refl w.heap.size w).alloc (Nat.le_refl _) (.cells (#[.int .i64 0, .int .i64 0, .int .i64 0] : Array Value) 95)).alloc (by simp) (.cells (#[.int .i64 0, .int .i64 0, .int .i64 0] : Array Value) 95)
  have hb1 := hb0.alloc hb0.size (.cells (fdL.map strV).toArray 9)
  have hr := Rdr.below h hb1
  have hl := Blk.new ((w.alloc (.cells (#[.int .i64 0, .int .i64 0, .int .i64 0] : Array Value) 95)).alloc (.cells (#[.int .i64 0, .int .i64 0, .int .i64 0] : Array Value) 95)) 9 (fdL.map strV).toArray
  rw [World.size_alloc, World.size_alloc] at hl
  have HN := Lib.hid (hnm _ hr (fun j hj => word_cell hl hj))
  have hz := ((Blk.new w 95 #[.int .i64 0, .int .i64 0, .int .i64 0]).alloc (.cells (#[.int .i64 0, .int .i64 0, .int .i64 0] : Array Value) 95)).alloc (.cells (fdL.map strV).toArray 9)
  have hc := (Blk.new (w.alloc (.cells (#[.int .i64 0, .int .i64 0, .int .i64 0] : Array Value) 95)) 95 #[.int .i64 0, .int .i64 0, .int .i64 0]).alloc (.cells (fdL.map strV).toArray 9)
  rw [World.size_alloc] at hc
  have HB1 := Lib.hid hb1
  have HZ := Lib.hid hz
  have HC := Lib.hid hc
  have H := Lib.hid h
  clear hb0 hb1 hr hz hc h hl hnm
  go_enter Tryz.func74, Tryz.ntmps74
  go_wp2_with fail
  refine (fd_any _).mono ?_
  rintro e w1 ⟨rfl, hw1⟩
  rw [← hw1] at HB1 HZ HC HN
  clear hw1
  go_wp2_with fail
  refine HN.out.mono ?_
  rintro e wx ⟨rfl, rfl⟩
  obtain ⟨x0, x1, x2⟩ := rd_cells HC.out
  have fx := HC.out.frozen
  obtain ⟨z0, z1, z2⟩ := rd_cells HZ.out
  have fz := HZ.out.frozen
  go_wp2_with fail
  have hbs := (((HB1.out.setCell (p := ⟨w.heap.size + 1, 0, none⟩) (by simp) (.int .i64 0)).setCell (p := ⟨w.heap.size, 0, none⟩) (Nat.le_refl _) (.int .i64 0)).setCell (p := ⟨w.heap.size, 1, none⟩) (Nat.le_refl _) (.int .i64 0)).setCell (p := ⟨w.heap.size, 2, none⟩) (Nat.le_refl _) (.int .i64 0)
  have hzs := set3 (a' := .int .i64 0) (b' := .int .i64 0) (c' := .int .i64 0) (HZ.out.far (p := ⟨w.heap.size + 1, 0, none⟩) (by simp) (.int .i64 0))
  clear z0 z1 z2
  obtain ⟨z0, z1, z2⟩ := rd_cells hzs
  refine bodyPost_ret (v := .tuple #[.agg #[.int .i64 0, .int .i64 0, .int .i64 0], .int .i64 E]) ?_ rfl ⟨⟨0, 0, 0, rfl⟩, Rdr.below H.out hbs, grown_of_below hbs _⟩
  simp [results, Tryz.results74, go_sem, z0, z1, z2]
theorem cond_none (ps : List Int) (len : Int) (B R : Nat) (w : World) (h : Rdr w B R [] ps len) :
    Calls Tryz.prog 74 #[.pointer (some ⟨R, 0, none⟩)] w (CndErr B R [] ps len 3 w) :=
  cond_fell [] ps len B R 3 w h (by decide) (fun w1 hr _ => name_none ps len B R w1 _ 17 hr)
theorem cond_unknown (x : List UInt8) (ws : List (List UInt8)) (ps : List Int) (len : Int) (B R : Nat) (w : World) (h : Rdr w B R (x :: ws) ps len) (hx : idxW fdL x < 0) :
    Calls Tryz.prog 74 #[.pointer (some ⟨R, 0, none⟩)] w (CndErr B R (x :: ws) ps len 17 w) :=
  cond_fell (x :: ws) ps len B R 17 w h (by decide) (fun w1 hr hc => name_bad x ws ps len B R w1 fdL _ 5 5 17 hr hc (by decide) (by decide) hx)
end Go.Proofs.YtfnlddloalineaaGreatDoor
