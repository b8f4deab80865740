/-
  An argument that is a cell, by value.
-/
import Derived.Test.YtophffmofpmbpaaDoorCel12
import Derived.Lib.SmallJoins
namespace Go.Proofs.YtophffmofpmbpaaDoor
open Go.RowKit Go.ChangeShapes Go.WideShapes Go.Deep
set_option linter.unusedVariables false
section
variable {H : Type} {enc : TypeId × Value → H} {W : World} {base : Nat} {spare : Nat → Bool} {held : Bool}
set_option maxRecDepth 100000 in
theorem open_cell {r : Reach} {b0 : Nat} {v : Value} {d : DataW H} {p : List MemPlace} (hv : Value.okWide Tryd.prog W r b0 23 v) (h : DataW.Trod enc Tryd.prog W base spare held 23 v d p) :
    ∃ x : SCell, v = cellV x := by
  obtain ⟨v0, v1, v2, v3, y0, y1, y2, y3, n, rfl, _, _, h0, h1, h2, h3⟩ := Go.Joins.open_agg4 Tryd.underlying23 (by kernel_rfl) (by kernel_rfl) hv h
  obtain ⟨x0, e0, _⟩ := DataW.trod_int Tryd.underlying3 h0
  obtain ⟨x1, e1, _⟩ := DataW.trod_int Tryd.underlying3 h1
  obtain ⟨x2, e2, _⟩ := DataW.trod_int Tryd.underlying3 h2
  obtain ⟨x3, e3, _⟩ := DataW.trod_int Tryd.underlying3 h3
  simp only [List.cons.injEq, and_true] at e0 e1 e2 e3
  subst e0 e1 e2 e3
  exact ⟨⟨x0, x1, x2, x3⟩, rfl⟩
end
end Go.Proofs.YtophffmofpmbpaaDoor
