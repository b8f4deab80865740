/-
  An argument that is a condition, by value.
-/
import Derived.Test.YtfnlddloalineaaGreatDoorArgQA
namespace Go.Proofs.YtfnlddloalineaaGreatDoor
open Go.RowKit Go.ChangeShapes Go.WideShapes Go.Deep
set_option linter.unusedVariables false
section
variable {H : Type} {enc : TypeId × Value → H} {W : World} {base : Nat} {spare : Nat → Bool} {held : Bool}
set_option maxRecDepth 100000 in
theorem open_cnd {r : Reach} {b0 : Nat} {v : Value} {d : DataW H} {p : List MemPlace} (hv : Value.okWide Tryz.prog W r b0 72 v) (h : DataW.Trod enc Tryz.prog W base spare held 72 v d p) :
    ∃ c : SCond, v = .agg #[.int .i64 c.f, .int .i64 c.o, .int .i64 c.v] := by
  obtain ⟨v0, v1, v2, y0, y1, y2, n, rfl, _, _, h0, h1, h2⟩ := Go.Joins.open_agg3 Tryz.underlying72 (by kernel_rfl) (by kernel_rfl) hv h
  obtain ⟨x0, e0, _⟩ := DataW.trod_int Tryz.underlying3 h0
  obtain ⟨x1, e1, _⟩ := DataW.trod_int Tryz.underlying3 h1
  obtain ⟨x2, e2, _⟩ := DataW.trod_int Tryz.underlying3 h2
  simp only [List.cons.injEq, and_true] at e0 e1 e2
  subst e0 e1 e2
  exact ⟨⟨x0, x1, x2⟩, rfl⟩
end
end Go.Proofs.YtfnlddloalineaaGreatDoor
