/-
  An argument that is a row of a statement, by value.
-/
import Derived.Test.YtenlbjobjnpghaaDoorArgLine
namespace Go.Proofs.YtenlbjobjnpghaaDoor
open Go.RowKit Go.ChangeShapes Go.WideShapes Go.Deep
set_option linter.unusedVariables false
section
variable {H : Type} {enc : TypeId × Value → H} {W : World} {base : Nat} {spare : Nat → Bool} {held : Bool}
set_option maxRecDepth 100000 in
theorem open_row {r : Reach} {b0 : Nat} {v : Value} {d : DataW H} {p : List MemPlace} (hv : Value.okWide Tryd.prog W r b0 46 v) (h : DataW.Trod enc Tryd.prog W base spare held 46 v d p) :
    ∃ x : SRow, v = rowV x ∧ x.name.length ≤ 9223372036854775807 := by
  obtain ⟨cs, rfl, hsz⟩ := okWide_struct Tryd.underlying46 hv
  obtain ⟨fuel, hf⟩ := h
  obtain ⟨x, hx, hn⟩ := trod_row hf
  refine ⟨x, ?_, hn⟩
  have hx' : cs.toList = rowCells x := by simpa [Value.cells] using hx
  unfold rowV
  congr 1
  apply Array.ext'
  rw [hx']
  rfl
end
end Go.Proofs.YtenlbjobjnpghaaDoor
