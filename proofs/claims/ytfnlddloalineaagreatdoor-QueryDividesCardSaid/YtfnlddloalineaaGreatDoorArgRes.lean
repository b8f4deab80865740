/-
  An argument that is a result of a consolidation, by value.
-/
import Derived.Test.YtfnlddloalineaaGreatDoorArgQA
namespace Go.Proofs.YtfnlddloalineaaGreatDoor
open Go.RowKit Go.ChangeShapes Go.WideShapes Go.Deep
set_option linter.unusedVariables false
structure SItem where
  re : Int
  rl : Int
  ent : Int
  acc : Int
  par : Int
  dat : Int
  amt : Int
instance : Inhabited SItem := ⟨⟨0, 0, 0, 0, 0, 0, 0⟩⟩
structure SPart where
  acc : Int
  amt : Int
instance : Inhabited SPart := ⟨⟨0, 0⟩⟩
structure SPost where
  kind : Int
  ent : Int
  oth : Int
  rule : Int
  A : Option Addr
  n : Nat
  c : Nat
  parts : List SPart
instance : Inhabited SPost := ⟨⟨0, 0, 0, 0, none, 0, 0, []⟩⟩
def itemC (x : SItem) : List Value := [.int .i64 x.re, .int .i64 x.rl, .int .i64 x.ent, .int .i64 x.acc, .int .i64 x.par, .int .i64 x.dat, .int .i64 x.amt]
def partC (x : SPart) : List Value := [.int .i64 x.acc, .int .i64 x.amt]
def postC (x : SPost) : List Value := [.int .i64 x.kind, .int .i64 x.ent, .int .i64 x.oth, .int .i64 x.rule, .slice x.A x.n x.c]
/-- the parts of a posting lie in memory -/
def PostIn (W : World) (B : Nat) (x : SPost) : Prop := Reads W B 2 x.A x.n (x.parts.flatMap partC) ∧ x.parts.length = x.n ∧ x.n ≤ 9223372036854775807 ∧ x.n ≤ x.c
section
variable {H : Type} {enc : TypeId × Value → H} {W : World} {base : Nat} {spare : Nat → Bool} {held : Bool}
theorem cRefR : Tryz.prog.cellsOf 97 = 2 := by kernel_rfl
theorem cItemR : Tryz.prog.cellsOf 99 = 7 := by kernel_rfl
theorem cPartR : Tryz.prog.cellsOf 104 = 2 := by kernel_rfl
theorem cPostR : Tryz.prog.cellsOf 102 = 5 := by kernel_rfl
theorem cPartsR : Tryz.prog.cellsOf 100 = 1 := by kernel_rfl
theorem cBalR : Tryz.prog.cellsOf 266 = 2 := by kernel_rfl
set_option maxRecDepth 100000 in
theorem trod_two2 {n : Nat} {cs : List Value} {y : DataW H × List MemPlace} (h : DataW.trod enc Tryz.prog W base spare held n 97 cs = some y) : ∃ a b : Int, cs = [.int .i64 a, .int .i64 b] := by
  obtain ⟨xs, m, _, _, hlen, hxl, hf⟩ := DataW.trod_struct Tryz.underlying97 h
  rw [cRefR] at hlen
  match cs, hlen with
  | [c0, c1], _ =>
    match xs, hxl with
    | [y0, y1], _ =>
      have k0 : DataW.trod enc Tryz.prog W base spare held m 3 (([c0, c1].drop 0).take (Tryz.prog.cellsOf 3)) = some y0 := hf 0 _ rfl
      rw [cIQ] at k0
      replace k0 : DataW.trod enc Tryz.prog W base spare held m 3 [c0] = some y0 := k0
      have k1 : DataW.trod enc Tryz.prog W base spare held m 3 (([c0, c1].drop 1).take (Tryz.prog.cellsOf 3)) = some y1 := hf 1 _ rfl
      rw [cIQ] at k1
      replace k1 : DataW.trod enc Tryz.prog W base spare held m 3 [c1] = some y1 := k1
      obtain ⟨x0, e0, _⟩ := DataW.trod_int Tryz.underlying3 k0
      obtain ⟨x1, e1, _⟩ := DataW.trod_int Tryz.underlying3 k1
      simp only [List.cons.injEq, and_true] at e0 e1
      subst e0 e1
      exact ⟨x0, x1, rfl⟩
set_option maxRecDepth 100000 in
theorem trod_item {n : Nat} {cs : List Value} {y : DataW H × List MemPlace} (h : DataW.trod enc Tryz.prog W base spare held n 99 cs = some y) : ∃ x : SItem, cs = itemC x := by
  obtain ⟨xs, m, _, _, hlen, hxl, hf⟩ := DataW.trod_struct Tryz.underlying99 h
  rw [cItemR] at hlen
  match cs, hlen with
  | [c0, c1, c2, c3, c4, c5, c6], _ =>
    match xs, hxl with
    | [y0, y1, y2, y3, y4, y5], _ =>
      have k0 : DataW.trod enc Tryz.prog W base spare held m 97 (([c0, c1, c2, c3, c4, c5, c6].drop 0).take (Tryz.prog.cellsOf 97)) = some y0 := hf 0 _ rfl
      rw [cRefR] at k0
      replace k0 : DataW.trod enc Tryz.prog W base spare held m 97 [c0, c1] = some y0 := k0
      have k1 : DataW.trod enc Tryz.prog W base spare held m 3 (([c0, c1, c2, c3, c4, c5, c6].drop 2).take (Tryz.prog.cellsOf 3)) = some y1 := hf 1 _ rfl
      rw [cIQ] at k1
      replace k1 : DataW.trod enc Tryz.prog W base spare held m 3 [c2] = some y1 := k1
      have k2 : DataW.trod enc Tryz.prog W base spare held m 3 (([c0, c1, c2, c3, c4, c5, c6].drop 3).take (Tryz.prog.cellsOf 3)) = some y2 := hf 2 _ rfl
      rw [cIQ] at k2
      replace k2 : DataW.trod enc Tryz.prog W base spare held m 3 [c3] = some y2 := k2
      have k3 : DataW.trod enc Tryz.prog W base spare held m 3 (([c0, c1, c2, c3, c4, c5, c6].drop 4).take (Tryz.prog.cellsOf 3)) = some y3 := hf 3 _ rfl
      rw [cIQ] at k3
      replace k3 : DataW.trod enc Tryz.prog W base spare held m 3 [c4] = some y3 := k3
      have k4 : DataW.trod enc Tryz.prog W base spare held m 3 (([c0, c1, c2, c3, c4, c5, c6].drop 5).take (Tryz.prog.cellsOf 3)) = some y4 := hf 4 _ rfl
      rw [cIQ] at k4
      replace k4 : DataW.trod enc Tryz.prog W base spare held m 3 [c5] = some y4 := k4
      have k5 : DataW.trod enc Tryz.prog W base spare held m 3 (([c0, c1, c2, c3, c4, c5, c6].drop 6).take (Tryz.prog.cellsOf 3)) = some y5 := hf 5 _ rfl
      rw [cIQ] at k5
      replace k5 : DataW.trod enc Tryz.prog W base spare held m 3 [c6] = some y5 := k5
      obtain ⟨xa, xb, e0⟩ := trod_two2 k0
      obtain ⟨x1, e1, _⟩ := DataW.trod_int Tryz.underlying3 k1
      obtain ⟨x2, e2, _⟩ := DataW.trod_int Tryz.underlying3 k2
      obtain ⟨x3, e3, _⟩ := DataW.trod_int Tryz.underlying3 k3
      obtain ⟨x4, e4, _⟩ := DataW.trod_int Tryz.underlying3 k4
      obtain ⟨x5, e5, _⟩ := DataW.trod_int Tryz.underlying3 k5
      simp only [List.cons.injEq, and_true] at e0 e1 e2 e3 e4 e5
      obtain ⟨e0, e6⟩ := e0
      subst e0 e1 e2 e3 e4 e5 e6
      exact ⟨⟨xa, xb, x1, x2, x3, x4, x5⟩, rfl⟩
set_option maxRecDepth 100000 in
theorem trod_part {n : Nat} {cs : List Value} {y : DataW H × List MemPlace} (h : DataW.trod enc Tryz.prog W base spare held n 104 cs = some y) : ∃ x : SPart, cs = partC x := by
  obtain ⟨xs, m, _, _, hlen, hxl, hf⟩ := DataW.trod_struct Tryz.underlying104 h
  rw [cPartR] at hlen
  match cs, hlen with
  | [c0, c1], _ =>
    match xs, hxl with
    | [y0, y1], _ =>
      have k0 : DataW.trod enc Tryz.prog W base spare held m 3 (([c0, c1].drop 0).take (Tryz.prog.cellsOf 3)) = some y0 := hf 0 _ rfl
      rw [cIQ] at k0
      replace k0 : DataW.trod enc Tryz.prog W base spare held m 3 [c0] = some y0 := k0
      have k1 : DataW.trod enc Tryz.prog W base spare held m 3 (([c0, c1].drop 1).take (Tryz.prog.cellsOf 3)) = some y1 := hf 1 _ rfl
      rw [cIQ] at k1
      replace k1 : DataW.trod enc Tryz.prog W base spare held m 3 [c1] = some y1 := k1
      obtain ⟨x0, e0, _⟩ := DataW.trod_int Tryz.underlying3 k0
      obtain ⟨x1, e1, _⟩ := DataW.trod_int Tryz.underlying3 k1
      simp only [List.cons.injEq, and_true] at e0 e1
      subst e0 e1
      exact ⟨⟨x0, x1⟩, rfl⟩
set_option maxRecDepth 100000 in
theorem trod_bal {n : Nat} {cs : List Value} {y : DataW H × List MemPlace} (h : DataW.trod enc Tryz.prog W base spare held n 266 cs = some y) : ∃ a b : Int, cs = [.int .i64 a, .int .i64 b] := by
  obtain ⟨xs, m, _, _, hlen, hxl, hf⟩ := DataW.trod_struct Tryz.underlying266 h
  rw [cBalR] at hlen
  match cs, hlen with
  | [c0, c1], _ =>
    match xs, hxl with
    | [y0, y1], _ =>
      have k0 : DataW.trod enc Tryz.prog W base spare held m 3 (([c0, c1].drop 0).take (Tryz.prog.cellsOf 3)) = some y0 := hf 0 _ rfl
      rw [cIQ] at k0
      replace k0 : DataW.trod enc Tryz.prog W base spare held m 3 [c0] = some y0 := k0
      have k1 : DataW.trod enc Tryz.prog W base spare held m 3 (([c0, c1].drop 1).take (Tryz.prog.cellsOf 3)) = some y1 := hf 1 _ rfl
      rw [cIQ] at k1
      replace k1 : DataW.trod enc Tryz.prog W base spare held m 3 [c1] = some y1 := k1
      obtain ⟨x0, e0, _⟩ := DataW.trod_int Tryz.underlying3 k0
      obtain ⟨x1, e1, _⟩ := DataW.trod_int Tryz.underlying3 k1
      simp only [List.cons.injEq, and_true] at e0 e1
      subst e0 e1
      exact ⟨x0, x1, rfl⟩
set_option maxRecDepth 100000 in
theorem trod_post {n : Nat} {cs : List Value} {y : DataW H × List MemPlace} (h : DataW.trod enc Tryz.prog W base spare held n 102 cs = some y) : ∃ x : SPost, cs = postC x ∧ PostIn W W.heap.size x := by
  obtain ⟨xs, m, _, _, hlen, hxl, hf⟩ := DataW.trod_struct Tryz.underlying102 h
  rw [cPostR] at hlen
  match cs, hlen with
  | [c0, c1, c2, c3, c4], _ =>
    match xs, hxl with
    | [y0, y1, y2, y3, y4], _ =>
      have k0 : DataW.trod enc Tryz.prog W base spare held m 3 (([c0, c1, c2, c3, c4].drop 0).take (Tryz.prog.cellsOf 3)) = some y0 := hf 0 _ rfl
      rw [cIQ] at k0
      replace k0 : DataW.trod enc Tryz.prog W base spare held m 3 [c0] = some y0 := k0
      have k1 : DataW.trod enc Tryz.prog W base spare held m 3 (([c0, c1, c2, c3, c4].drop 1).take (Tryz.prog.cellsOf 3)) = some y1 := hf 1 _ rfl
      rw [cIQ] at k1
      replace k1 : DataW.trod enc Tryz.prog W base spare held m 3 [c1] = some y1 := k1
      have k2 : DataW.trod enc Tryz.prog W base spare held m 3 (([c0, c1, c2, c3, c4].drop 2).take (Tryz.prog.cellsOf 3)) = some y2 := hf 2 _ rfl
      rw [cIQ] at k2
      replace k2 : DataW.trod enc Tryz.prog W base spare held m 3 [c2] = some y2 := k2
      have k3 : DataW.trod enc Tryz.prog W base spare held m 3 (([c0, c1, c2, c3, c4].drop 3).take (Tryz.prog.cellsOf 3)) = some y3 := hf 3 _ rfl
      rw [cIQ] at k3
      replace k3 : DataW.trod enc Tryz.prog W base spare held m 3 [c3] = some y3 := k3
      have k4 : DataW.trod enc Tryz.prog W base spare held m 100 (([c0, c1, c2, c3, c4].drop 4).take (Tryz.prog.cellsOf 100)) = some y4 := hf 4 _ rfl
      rw [cPartsR] at k4
      replace k4 : DataW.trod enc Tryz.prog W base spare held m 100 [c4] = some y4 := k4
      obtain ⟨x0, e0, _⟩ := DataW.trod_int Tryz.underlying3 k0
      obtain ⟨x1, e1, _⟩ := DataW.trod_int Tryz.underlying3 k1
      obtain ⟨x2, e2, _⟩ := DataW.trod_int Tryz.underlying3 k2
      obtain ⟨x3, e3, _⟩ := DataW.trod_int Tryz.underlying3 k3
      obtain ⟨A, nn, c, ts, e4, hr, _, hl, hm, hc⟩ := open_slice_trod (T := SPart) partC (fun _ => True) Tryz.underlying100 cPartR (by decide) (fun _ => rfl) (fun n cs y hk _ => by
        obtain ⟨x, hx⟩ := trod_part hk
        exact ⟨x, hx, trivial⟩) k4
      simp only [List.cons.injEq, and_true] at e0 e1 e2 e3 e4
      subst e0 e1 e2 e3 e4
      exact ⟨⟨x0, x1, x2, x3, A, nn, c, ts⟩, rfl, hr, hl, hm, hc⟩
set_option maxRecDepth 100000 in
theorem open_res {r : Reach} {b0 : Nat} {v : Value} {d : DataW H} {p : List MemPlace} (hv : Value.okWide Tryz.prog W r b0 43 v) (h : DataW.Trod enc Tryz.prog W base spare held 43 v d p) :
    ∃ (per : Int) (its : List SItem) (pos : List SPost) (Ai Ap At : Option Addr) (ni ci np cp nt ct : Nat), v = .agg #[.int .i64 per, .slice Ai ni ci, .slice Ap np cp, .slice At nt ct] ∧ Reads W W.heap.size 7 Ai ni (its.flatMap itemC) ∧ its.length = ni ∧ ni ≤ 9223372036854775807 ∧ ni ≤ ci ∧
      Reads W W.heap.size 5 Ap np (pos.flatMap postC) ∧ pos.length = np ∧ np ≤ 9223372036854775807 ∧ np ≤ cp ∧ (∀ x ∈ pos, PostIn W W.heap.size x) := by
  obtain ⟨v0, v1, v2, v3, y0, y1, y2, y3, n, rfl, _, _, h0, h1, h2, h3⟩ := Go.Joins.open_agg4 Tryz.underlying43 (by kernel_rfl) (by kernel_rfl) hv h
  obtain ⟨x0, e0, _⟩ := DataW.trod_int Tryz.underlying3 h0
  obtain ⟨Ai, ni, ci, li, e1, r1, _, l1, m1, c1⟩ := open_slice_trod (T := SItem) itemC (fun _ => True) Tryz.underlying39 cItemR (by decide) (fun _ => rfl) (fun n cs y hk _ => by
    obtain ⟨x, hx⟩ := trod_item hk
    exact ⟨x, hx, trivial⟩) h1
  obtain ⟨Ap, np, cp, lp, e2, r2, q2, l2, m2, c2⟩ := open_slice_trod (T := SPost) postC (PostIn W W.heap.size) Tryz.underlying40 cPostR (by decide) (fun _ => rfl) (fun n cs y hk _ => trod_post hk) h2
  obtain ⟨At, nt, ct, lt, e3, _⟩ := open_slice_trod (T := SPart) partC (fun _ => True) Tryz.underlying41 cBalR (by decide) (fun _ => rfl) (fun n cs y hk _ => by
    obtain ⟨a, b, hx⟩ := trod_bal hk
    exact ⟨⟨a, b⟩, hx, trivial⟩) h3
  simp only [List.cons.injEq, and_true] at e0 e1 e2 e3
  subst e0 e1 e2 e3
  exact ⟨x0, li, lp, Ai, Ap, At, ni, ci, np, cp, nt, ct, rfl, r1, l1, m1, c1, r2, l2, m2, c2, q2⟩
end
end Go.Proofs.YtfnlddloalineaaGreatDoor
