/-
  Arguments that are lines of a report; a row of a statement by value.
-/
import Derived.Test.YtenlbjobjnpghaaDoorSlG
import Derived.Test.YtenlbjobjnpghaaDoorRep3
namespace Go.Proofs.YtenlbjobjnpghaaDoor
open Go.RowKit Go.ChangeShapes Go.WideShapes Go.Deep
set_option linter.unusedVariables false
section
variable {H : Type} {enc : TypeId × Value → H} {W : World} {base : Nat} {spare : Nat → Bool} {held : Bool}
theorem cS : Tryd.prog.cellsOf 9 = 1 := by kernel_rfl
theorem cI : Tryd.prog.cellsOf 3 = 1 := by kernel_rfl
theorem cB : Tryd.prog.cellsOf 4 = 1 := by kernel_rfl
theorem cRow : Tryd.prog.cellsOf 46 = 5 := by kernel_rfl
theorem cLine : Tryd.prog.cellsOf 65 = 6 := by kernel_rfl
theorem name_max {s : ByteArray} (h : s.size ≤ maxLen) : s.data.toList.length ≤ 9223372036854775807 := by
  rw [Array.length_toList]; exact h
set_option maxRecDepth 100000 in
theorem trod_row {n : Nat} {cs : List Value} {y : DataW H × List MemPlace} (h : DataW.trod enc Tryd.prog W base spare held n 46 cs = some y) : ∃ r : SRow, cs = rowCells r ∧ r.name.length ≤ 9223372036854775807 := by
  obtain ⟨xs, m, _, _, hlen, hxl, hf⟩ := DataW.trod_struct Tryd.underlying46 h
  rw [cRow] at hlen
  match cs, hlen with
  | [c0, c1, c2, c3, c4], _ =>
    match xs, hxl with
    | [y0, y1, y2, y3, y4], _ =>
      have k0 : DataW.trod enc Tryd.prog W base spare held m 9 (([c0, c1, c2, c3, c4].drop 0).take (Tryd.prog.cellsOf 9)) = some y0 := hf 0 _ rfl
      rw [cS] at k0
      replace k0 : DataW.trod enc Tryd.prog W base spare held m 9 [c0] = some y0 := k0
      have k1 : DataW.trod enc Tryd.prog W base spare held m 3 (([c0, c1, c2, c3, c4].drop 1).take (Tryd.prog.cellsOf 3)) = some y1 := hf 1 _ rfl
      rw [cI] at k1
      replace k1 : DataW.trod enc Tryd.prog W base spare held m 3 [c1] = some y1 := k1
      have k2 : DataW.trod enc Tryd.prog W base spare held m 3 (([c0, c1, c2, c3, c4].drop 2).take (Tryd.prog.cellsOf 3)) = some y2 := hf 2 _ rfl
      rw [cI] at k2
      replace k2 : DataW.trod enc Tryd.prog W base spare held m 3 [c2] = some y2 := k2
      have k3 : DataW.trod enc Tryd.prog W base spare held m 3 (([c0, c1, c2, c3, c4].drop 3).take (Tryd.prog.cellsOf 3)) = some y3 := hf 3 _ rfl
      rw [cI] at k3
      replace k3 : DataW.trod enc Tryd.prog W base spare held m 3 [c3] = some y3 := k3
      have k4 : DataW.trod enc Tryd.prog W base spare held m 4 (([c0, c1, c2, c3, c4].drop 4).take (Tryd.prog.cellsOf 4)) = some y4 := hf 4 _ rfl
      rw [cB] at k4
      replace k4 : DataW.trod enc Tryd.prog W base spare held m 4 [c4] = some y4 := k4
      obtain ⟨x0, e0, _, z0⟩ := DataW.trod_string Tryd.underlying9 k0
      obtain ⟨x1, e1, _⟩ := DataW.trod_int Tryd.underlying3 k1
      obtain ⟨x2, e2, _⟩ := DataW.trod_int Tryd.underlying3 k2
      obtain ⟨x3, e3, _⟩ := DataW.trod_int Tryd.underlying3 k3
      obtain ⟨x4, e4, _⟩ := DataW.trod_bool Tryd.underlying4 k4
      simp only [List.cons.injEq, and_true] at e0 e1 e2 e3 e4
      subst e0 e1 e2 e3 e4
      exact ⟨⟨x0.data.toList, x1, x2, x3, x4⟩, rfl, name_max z0⟩
set_option maxRecDepth 100000 in
theorem trod_line {n : Nat} {cs : List Value} {y : DataW H × List MemPlace} (h : DataW.trod enc Tryd.prog W base spare held n 65 cs = some y) : ∃ x : SLine, cs = lineCells x := by
  obtain ⟨xs, m, _, _, hlen, hxl, hf⟩ := DataW.trod_struct Tryd.underlying65 h
  rw [cLine] at hlen
  match cs, hlen with
  | [c0, c1, c2, c3, c4, c5], _ =>
    match xs, hxl with
    | [y0, y1], _ =>
      have k0 : DataW.trod enc Tryd.prog W base spare held m 46 (([c0, c1, c2, c3, c4, c5].drop 0).take (Tryd.prog.cellsOf 46)) = some y0 := hf 0 _ rfl
      rw [cRow] at k0
      replace k0 : DataW.trod enc Tryd.prog W base spare held m 46 [c0, c1, c2, c3, c4] = some y0 := k0
      have k1 : DataW.trod enc Tryd.prog W base spare held m 3 (([c0, c1, c2, c3, c4, c5].drop 5).take (Tryd.prog.cellsOf 3)) = some y1 := hf 1 _ rfl
      rw [cI] at k1
      replace k1 : DataW.trod enc Tryd.prog W base spare held m 3 [c5] = some y1 := k1
      obtain ⟨r, hr, _⟩ := trod_row k0
      obtain ⟨x1, e1, _⟩ := DataW.trod_int Tryd.underlying3 k1
      simp only [List.cons.injEq, and_true] at e1
      subst e1
      refine ⟨⟨r, x1⟩, ?_⟩
      unfold lineCells
      rw [← hr]; rfl
set_option maxRecDepth 100000 in
theorem open_lines {r : Reach} {b0 : Nat} {v : Value} {d : DataW H} {p : List MemPlace} (hv : Value.okWide Tryd.prog W r b0 34 v) (h : DataW.Trod enc Tryd.prog W base spare held 34 v d p) :
    ∃ (A : Option Addr) (n c : Nat) (ts : List SLine), v = .slice A n c ∧ Reads W W.heap.size 6 A n (linesCells ts) ∧ n ≤ 9223372036854775807 ∧ n ≤ c ∧ (n = 0 ∨ ∃ el sp : List (DataW H), d = .slice el sp ∧ el.length = n) := by
  obtain ⟨A, n, c, ts, h1, h2, _, _, h5, h6, h7⟩ := open_slice_gen lineCells (fun _ => True) Tryd.underlying34 cLine (by decide) (fun _ => rfl) (fun n cs y hk _ => by
    obtain ⟨x, hx⟩ := trod_line hk
    exact ⟨x, hx, trivial⟩) hv h
  exact ⟨A, n, c, ts, h1, h2, h5, h6, h7⟩
set_option maxRecDepth 100000 in
theorem bLine : Tryd.prog.bytesOf 65 = 56 := by kernel_rfl
theorem lines_sized {n j : Nat} {ts : List TypeId} {ds : List (DataW H)} {d : DataW H} (hsz : (DataW.weightsEach Tryd.prog ts ds).all (· ≤ reachBytes) = true) (ht : ts[j]? = some 34) (hd : ds[j]? = some d)
    (h : n = 0 ∨ ∃ el sp : List (DataW H), d = .slice el sp ∧ el.length = n) : n * 56 ≤ 140737488351232 := by
  rcases h with rfl | ⟨el, sp, rfl, rfl⟩
  · omega
  · have := sized_slice hsz ht hd Tryd.underlying34
    rw [bLine] at this
    unfold reachBytes at this
    omega
end
end Go.Proofs.YtenlbjobjnpghaaDoor
