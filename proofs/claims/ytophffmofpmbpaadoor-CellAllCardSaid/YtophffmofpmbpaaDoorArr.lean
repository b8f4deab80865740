/-
  An argument that is an array of two integers.
-/
import Derived.Test.YtophffmofpmbpaaDoorKit
import Derived.WideKeyArr2
import Derived.RowKit
namespace Go.Proofs.YtophffmofpmbpaaDoor
open Go.RowKit Go.WideShapes Go.ChangeShapes
set_option maxRecDepth 100000 in
/-- an argument that is an array of two integers -/
theorem open_pair {H : Type} {enc : TypeId × Value → H} {W : World} {r : Reach} {b0 base T E : Nat} {q : IntKind} {spare : Nat → Bool} {held : Bool} {v : Value} {d : DataW H} {p : List MemPlace}
    (ht : Tryd.prog.underlying T = some (.array 2 E)) (he : Tryd.prog.underlying E = some (.int q)) (hc : Tryd.prog.cellsOf T = 2) (hc1 : Tryd.prog.cellsOf E = 1)
    (hv : Value.okWide Tryd.prog W r b0 T v) (h : DataW.Trod enc Tryd.prog W base spare held T v d p) :
    ∃ x y : Int, v = .agg #[.int q x, .int q y] ∧ (Lit.int q x).wf = true ∧ (Lit.int q y).wf = true := by
  simp only [Value.okWide, ht] at hv
  obtain ⟨cs, rfl, hs, _⟩ := hv
  rw [hc] at hs
  obtain ⟨u0, u1, rfl⟩ : ∃ u0 u1, cs = #[u0, u1] := by
    obtain ⟨l⟩ := cs
    match l, hs with
    | [a, b], _ => exact ⟨a, b, rfl⟩
  obtain ⟨fuel, hf⟩ := h
  cases fuel with
  | zero => simp [DataW.trod] at hf
  | succ m =>
    rw [DataW.trod_step] at hf
    unfold DataW.trodStep at hf
    simp only [ht, Value.cells] at hf
    rw [if_pos (by rw [hc]; rfl)] at hf
    simp only [Option.map_eq_some_iff] at hf
    obtain ⟨ys, hy, e1⟩ := hf
    rw [hc1] at hy
    rw [show List.range 2 = [0, 1] from rfl, List.mapM_cons] at hy
    simp only [bind, Option.bind_eq_some_iff, pure, Option.some.injEq] at hy
    obtain ⟨y0, hy0, ys1, hys1, rfl⟩ := hy
    rw [List.mapM_cons] at hys1
    simp only [bind, Option.bind_eq_some_iff, pure, Option.some.injEq] at hys1
    obtain ⟨y1, hy1, ys2, hys2, rfl⟩ := hys1
    obtain ⟨x, ex, rfl, wx⟩ := DataW.trod_int he hy0
    obtain ⟨y, ey, rfl, wy⟩ := DataW.trod_int he hy1
    simp at ex ey
    subst ex ey
    exact ⟨x, y, rfl, wx, wy⟩
end Go.Proofs.YtophffmofpmbpaaDoor
