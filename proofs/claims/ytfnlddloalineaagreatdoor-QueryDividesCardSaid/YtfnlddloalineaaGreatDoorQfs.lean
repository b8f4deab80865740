/-
  A result and a query in their boxes.
-/
import Derived.Test.YtfnlddloalineaaGreatDoorFct2
import Derived.Test.YtfnlddloalineaaGreatDoorFew
import Derived.Test.YtfnlddloalineaaGreatDoorHld3
namespace Go.Proofs.YtfnlddloalineaaGreatDoor
open Go.RowKit
set_option linter.unusedVariables false
set_option linter.unusedSimpArgs false
set_option maxRecDepth 100000
structure QfS (w : World) (X : Nat) (per : Int) (vi vp vt : Value) (verb : Int) (vb vw : Value) (x : World) : Prop where
  below : Below w.heap.size w x
  r0 : x.cell? ⟨w.heap.size, 0, none⟩ = some (.int .i64 per)
  r1 : x.cell? ⟨w.heap.size, 1, none⟩ = some vi
  r2 : x.cell? ⟨w.heap.size, 2, none⟩ = some vp
  r3 : x.cell? ⟨w.heap.size, 3, none⟩ = some vt
  q0 : x.cell? ⟨X, 0, none⟩ = some (.int .i64 verb)
  q1 : x.cell? ⟨X, 1, none⟩ = some vb
  q2 : x.cell? ⟨X, 2, none⟩ = some vw
theorem QfS.same {w : World} {X : Nat} {per : Int} {vi vp vt : Value} {verb : Int} {vb vw : Value} {x y : World} (h : QfS w X per vi vp vt verb vb vw x) (hb : Below x.heap.size x y) : QfS w X per vi vp vt verb vb vw y := by
  have k : ∀ {a : Addr} {v : Value}, x.cell? a = some v → y.cell? a = some v := fun hc => (hb.cell (World.block_lt_of_cell? _ _ hc)).trans hc
  exact ⟨below_two h.below hb, k h.r0, k h.r1, k h.r2, k h.r3, k h.q0, k h.q1, k h.q2⟩
theorem QfS.lt {w : World} {X : Nat} {per : Int} {vi vp vt : Value} {verb : Int} {vb vw : Value} {x : World} (h : QfS w X per vi vp vt verb vb vw x) : w.heap.size < x.heap.size ∧ X < x.heap.size := ⟨World.block_lt_of_cell? _ _ h.r0, World.block_lt_of_cell? _ _ h.q0⟩
end Go.Proofs.YtfnlddloalineaaGreatDoor
