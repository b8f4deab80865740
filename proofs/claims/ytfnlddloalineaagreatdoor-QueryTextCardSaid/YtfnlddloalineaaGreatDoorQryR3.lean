/-
  The reference's reader: fail.
-/
import Derived.Test.YtfnlddloalineaaGreatDoorQryW8
namespace Go.Proofs.YtfnlddloalineaaGreatDoor
open Go.RowKit
set_option linter.unusedVariables false
theorem rr_cells {w : World} {g : Nat} {T : TypeId} {a b c d e f h : Value} (hk : Blk w g T #[a, b, c, d, e, f, h]) : w.cell? ⟨g, 0, none⟩ = some a ∧ w.cell? ⟨g, 1, none⟩ = some b ∧ w.cell? ⟨g, 2, none⟩ = some c ∧ w.cell? ⟨g, 3, none⟩ = some d ∧ w.cell? ⟨g, 4, none⟩ = some e ∧ w.cell? ⟨g, 5, none⟩ = some f ∧ w.cell? ⟨g, 6, none⟩ = some h :=
  ⟨hk.cell 0, hk.cell 1, hk.cell 2, hk.cell 3, hk.cell 4, hk.cell 5, hk.cell 6⟩
def FailSays (R : Nat) (cs : Array Value) (w : World) (e : Ending) (w' : World) : Prop := (∃ v, e = .returned v) ∧ Blk w' R 87 cs ∧ w.grownBy w' (some R)
set_option maxRecDepth 100000 in
set_option maxHeartbeats 1000000 in
theorem fail_again (R : Nat) (l a b c d f : Value) (e0 at_ E : Int) (tx : List UInt8) (w : World) (hk : Blk w R 87 #[l, a, b, c, d, f, .int .i64 e0]) (he : (e0 == 0) = false) :
    Calls Tryz.prog 39 #[.pointer (some ⟨R, 0, none⟩), .agg #[.int .i64 at_, .string ⟨tx.toArray⟩], .int .i64 E] w (FailSays R #[l, a, b, c, d, f, .int .i64 e0] w) := by
  have hb := (Below.refl w.heap.size w).alloc (Nat.le_refl _) (.cells (#[.int .i64 at_, .string ⟨tx.toArray⟩] : Array Value) 89)
  have hk1 := hk.below hb hk.lt
  obtain ⟨x0, x1, x2, x3, x4, x5, x6⟩ := rr_cells hk1
  have HK := Lib.hid hk1
  have HB := Lib.hid hb
  clear hk hk1 hb
  go_enter Tryz.func39, Tryz.ntmps39
  go_wp2_with fail
  refine bodyPost_ret (results_none rfl _ _ _) rfl ?_
  exact ⟨⟨_, rfl⟩, HK.out, grown_of_below HB.out _⟩
set_option maxRecDepth 100000 in
set_option maxHeartbeats 1000000 in
theorem fail_first (R : Nat) (l a b c d : Value) (f at_ E : Int) (tx : List UInt8) (w : World) (hk : Blk w R 87 #[l, a, b, c, d, .int .i64 f, .int .i64 0]) :
    Calls Tryz.prog 39 #[.pointer (some ⟨R, 0, none⟩), .agg #[.int .i64 at_, .string ⟨tx.toArray⟩], .int .i64 E] w (FailSays R #[l, a, b, c, d, .int .i64 at_, .int .i64 E] w) := by
  have hb := (Below.refl w.heap.size w).alloc (Nat.le_refl _) (.cells (#[.int .i64 at_, .string ⟨tx.toArray⟩] : Array Value) 89)
  have hk1 := hk.below hb hk.lt
  have hRlt := hk.lt
  have fw := hk.frozen
  have HK0 := Lib.hid hk
  obtain ⟨v0, v1, v2, v3, v4, v5, v6⟩ := rr_cells hk
  obtain ⟨x0, x1, x2, x3, x4, x5, x6⟩ := rr_cells hk1
  have fx := hk1.frozen
  have hwd := Blk.new w 89 #[.int .i64 at_, .string ⟨tx.toArray⟩]
  have y0 : (w.alloc (.cells (#[.int .i64 at_, .string ⟨tx.toArray⟩] : Array Value) 89)).cell? ⟨w.heap.size, 0, none⟩ = some (.int .i64 at_) := hwd.cell 0
  have HK := Lib.hid hk1
  have HB := Lib.hid hb
  clear hk hk1 hb hwd
  go_enter Tryz.func39, Tryz.ntmps39
  go_wp2_with fail
  refine bodyPost_ret (results_none rfl _ _ _) rfl ?_
  have hbF : Blk ((w.setCell ⟨R, 5, none⟩ (.int .i64 at_)).setCell ⟨R, 6, none⟩ (.int .i64 E)) R 87 #[l, a, b, c, d, .int .i64 at_, .int .i64 E] := by
    have := (HK0.out.set_ 5 (.int .i64 at_)).set_ 6 (.int .i64 E)
    simpa using this
  have hgF := grown_set (grown_set (World.grownBy.refl w (some R)) 5 (.int .i64 at_)) 6 (.int .i64 E)
  exact ⟨⟨_, rfl⟩, hbF.alloc _, World.grownBy.trans hgF (grown_of_below ((Below.refl _ _).alloc (Nat.le_refl _) _) (some R))⟩
end Go.Proofs.YtfnlddloalineaaGreatDoor
