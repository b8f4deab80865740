/-
  Arguments that are rows of a statement.
-/
import Derived.Test.YtenlbjobjnpghaaDoorSlS
import Derived.Test.YtenlbjobjnpghaaDoorStW2
namespace Go.Proofs.YtenlbjobjnpghaaDoor
open Go.RowKit Go.ChangeShapes Go.WideShapes Go.Deep
set_option linter.unusedVariables false
section
variable {H : Type} {enc : TypeId × Value → H} {W : World} {base : Nat} {spare : Nat → Bool} {held : Bool}
set_option maxRecDepth 100000 in
theorem open_rows {r : Reach} {b0 : Nat} {v : Value} {d : DataW H} {p : List MemPlace} (hv : Value.okWide Tryd.prog W r b0 23 v) (h : DataW.Trod enc Tryd.prog W base spare held 23 v d p) :
    ∃ (A : Option Addr) (n c : Nat) (ts : List SRow), v = .slice A n c ∧ Reads W W.heap.size 5 A n (rowsCells ts) ∧ n ≤ 9223372036854775807 ∧ n ≤ c := by
  obtain ⟨A, n, c, ts, h1, h2, _, _, h5, h6⟩ := open_slice_rows rowCells (fun _ => True) Tryd.underlying23 Tryd.underlying46 (by kernel_rfl) (by kernel_rfl) (by decide) (fun _ => rfl) (by
    intro vs hl hf
    obtain ⟨u0, y0, n0, g0, k0⟩ := hf 0 _ rfl
    obtain ⟨u1, y1, n1, g1, k1⟩ := hf 1 _ rfl
    obtain ⟨u2, y2, n2, g2, k2⟩ := hf 2 _ rfl
    obtain ⟨u3, y3, n3, g3, k3⟩ := hf 3 _ rfl
    obtain ⟨u4, y4, n4, g4, k4⟩ := hf 4 _ rfl
    obtain ⟨x0, e0, _⟩ := DataW.trod_string Tryd.underlying9 k0
    obtain ⟨x1, e1, _⟩ := DataW.trod_int Tryd.underlying3 k1
    obtain ⟨x2, e2, _⟩ := DataW.trod_int Tryd.underlying3 k2
    obtain ⟨x3, e3, _⟩ := DataW.trod_int Tryd.underlying3 k3
    obtain ⟨x4, e4, _⟩ := DataW.trod_bool Tryd.underlying4 k4
    simp only [List.cons.injEq, and_true] at e0 e1 e2 e3 e4
    subst e0 e1 e2 e3 e4
    refine ⟨⟨x0.data.toList, x1, x2, x3, x4⟩, ?_, trivial⟩
    match vs, hl with
    | [a, b, c, d, e], _ =>
      simp at g0 g1 g2 g3 g4
      subst g0 g1 g2 g3 g4
      simp [rowCells]) hv h
  exact ⟨A, n, c, ts, h1, h2, h5, h6⟩
end
end Go.Proofs.YtenlbjobjnpghaaDoor
