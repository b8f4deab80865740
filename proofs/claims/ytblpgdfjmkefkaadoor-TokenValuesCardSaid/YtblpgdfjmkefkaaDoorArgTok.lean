/-
  Arguments that are tokens.
-/
import Derived.Test.YtblpgdfjmkefkaaDoorSlS
import Derived.Test.YtblpgdfjmkefkaaDoorTokW9
namespace Go.Proofs.YtblpgdfjmkefkaaDoor
open Go.RowKit Go.ChangeShapes Go.WideShapes Go.Deep
set_option linter.unusedVariables false
instance : Inhabited Tok := ⟨⟨0, [], 0⟩⟩
section
variable {H : Type} {enc : TypeId × Value → H} {W : World} {base : Nat} {spare : Nat → Bool} {held : Bool}
theorem open_tok {r : Reach} {b0 : Nat} {v : Value} {d : DataW H} {p : List MemPlace} (hv : Value.okWide Tryd.prog W r b0 40 v) (h : DataW.Trod enc Tryd.prog W base spare held 40 v d p) :
    ∃ (k : Int) (t : List UInt8) (f : Int), v = .agg #[.int .i64 k, .string ⟨t.toArray⟩, .int .i64 f] := by
  obtain ⟨v0, v1, v2, y0, y1, y2, n, rfl, _, _, h0, h1, h2⟩ := Go.Joins.open_agg3 Tryd.underlying40 (by kernel_rfl) (by kernel_rfl) hv h
  obtain ⟨x0, e0, _⟩ := DataW.trod_int Tryd.underlying3 h0
  obtain ⟨x1, e1, _⟩ := DataW.trod_string Tryd.underlying9 h1
  obtain ⟨x2, e2, _⟩ := DataW.trod_int Tryd.underlying3 h2
  simp only [List.cons.injEq, and_true] at e0 e1 e2
  subst e0 e1 e2
  exact ⟨x0, x1.data.toList, x2, by simp⟩
theorem open_toks {r : Reach} {b0 : Nat} {v : Value} {d : DataW H} {p : List MemPlace} (hv : Value.okWide Tryd.prog W r b0 27 v) (h : DataW.Trod enc Tryd.prog W base spare held 27 v d p) :
    ∃ (A : Option Addr) (n c : Nat) (ts : List Tok), v = .slice A n c ∧ Reads W W.heap.size 3 A n (tokCells ts) ∧ n ≤ 9223372036854775807 := by
  obtain ⟨A, n, c, ts, h1, h2, _, _, h5, _⟩ := open_slice_rows tokRow (fun _ => True) Tryd.underlying27 Tryd.underlying40 (by kernel_rfl) (by kernel_rfl) (by decide) (fun _ => rfl) (by
    intro vs hl hf
    obtain ⟨u0, y0, n0, g0, k0⟩ := hf 0 _ rfl
    obtain ⟨u1, y1, n1, g1, k1⟩ := hf 1 _ rfl
    obtain ⟨u2, y2, n2, g2, k2⟩ := hf 2 _ rfl
    obtain ⟨x0, e0, _⟩ := DataW.trod_int Tryd.underlying3 k0
    obtain ⟨x1, e1, _⟩ := DataW.trod_string Tryd.underlying9 k1
    obtain ⟨x2, e2, _⟩ := DataW.trod_int Tryd.underlying3 k2
    simp only [List.cons.injEq, and_true] at e0 e1 e2
    subst e0 e1 e2
    refine ⟨⟨x0, x1.data.toList, x2⟩, ?_, trivial⟩
    match vs, hl with
    | [a, b, c], _ =>
      simp at g0 g1 g2
      subst g0 g1 g2
      simp [tokRow]) hv h
  exact ⟨A, n, c, ts, h1, h2, h5⟩
end
end Go.Proofs.YtblpgdfjmkefkaaDoor
