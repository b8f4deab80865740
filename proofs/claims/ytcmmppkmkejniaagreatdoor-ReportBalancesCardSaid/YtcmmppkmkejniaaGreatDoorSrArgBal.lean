/-
  Arguments that are balances.
-/
import Derived.Test.YtcmmppkmkejniaaGreatDoorBlSt
import Derived.Test.YtcmmppkmkejniaaGreatDoorBlSr
namespace Go.Proofs.YtcmmppkmkejniaaGreatDoor
open Go.RowKit Go.ChangeShapes Go.WideShapes Go.Deep
set_option linter.unusedVariables false
section
variable {H : Type} {enc : TypeId × Value → H} {W : World} {base : Nat} {spare : Nat → Bool} {held : Bool}
set_option maxRecDepth 100000 in
theorem open_bals {r : Reach} {b0 : Nat} {v : Value} {d : DataW H} {p : List MemPlace} (hv : Value.okWide Tryz.prog W r b0 45 v) (h : DataW.Trod enc Tryz.prog W base spare held 45 v d p) :
    ∃ (A : Option Addr) (n c : Nat) (ts : List SBal), v = .slice A n c ∧ Reads W W.heap.size 2 A n (balsCells ts) ∧ n ≤ 9223372036854775807 ∧ n ≤ c := by
  obtain ⟨A, n, c, ts, h1, h2, _, _, h5, h6⟩ := open_slice_rows balCells (fun _ => True) Tryz.underlying45 Tryz.underlying47 (by kernel_rfl) (by kernel_rfl) (by decide) (fun _ => rfl) (by
    intro vs hl hf
    obtain ⟨u0, y0, n0, g0, k0⟩ := hf 0 _ rfl
    obtain ⟨u1, y1, n1, g1, k1⟩ := hf 1 _ rfl
    obtain ⟨x0, e0, _⟩ := DataW.trod_int Tryz.underlying3 k0
    obtain ⟨x1, e1, _⟩ := DataW.trod_int Tryz.underlying3 k1
    simp only [List.cons.injEq, and_true] at e0 e1
    subst e0 e1
    refine ⟨⟨x0, x1⟩, ?_, trivial⟩
    match vs, hl with
    | [a, b], _ =>
      simp at g0 g1
      subst g0 g1
      simp [balCells]) hv h
  exact ⟨A, n, c, ts, h1, h2, h5, h6⟩
end
end Go.Proofs.YtcmmppkmkejniaaGreatDoor
