/-
  An argument that is a group, by value; arguments that are accounts, links, entities.
-/
import Derived.Test.YtcmmppkmkejniaaGreatDoorSlG
import Derived.Test.YtcmmppkmkejniaaGreatDoorGvMem
import Derived.Lib.SmallJoins
namespace Go.Proofs.YtcmmppkmkejniaaGreatDoor
open Go.RowKit Go.ChangeShapes Go.WideShapes Go.Deep
set_option linter.unusedVariables false
section
variable {H : Type} {enc : TypeId × Value → H} {P : Program} {w : World} {base : Nat} {spare : Nat → Bool} {held : Bool}
theorem open_slice_trod {T : Type} [Inhabited T] (row : T → List Value) (Q : T → Prop) {S : Nat} {t e : TypeId} {fuel : Nat} {cs : List Value} {x : DataW H × List MemPlace}
    (ht : P.underlying t = some (.slice e)) (hC : P.cellsOf e = S) (hS : 0 < S) (hrow : ∀ t, (row t).length = S)
    (dec : ∀ (n : Nat) (cs : List Value) (y : DataW H × List MemPlace), DataW.trod enc P w base spare held n e cs = some y → cs.length = S → ∃ t, cs = row t ∧ Q t)
    (hf : DataW.trod enc P w base spare held fuel t cs = some x) :
    ∃ (A : Option Addr) (n c : Nat) (ts : List T), cs = [.slice A n c] ∧ Reads w w.heap.size S A n (ts.flatMap row) ∧ (∀ t ∈ ts, Q t) ∧ ts.length = n ∧ n ≤ 9223372036854775807 ∧ n ≤ c := by
  rcases open_slice ht hf with ⟨hcs, _⟩ | ⟨a, len, cap, m, n, D, Pl, hcs, _, hl, hm, hmm, hx, hi⟩
  · exact ⟨none, 0, 0, [], hcs, Reads.none_, by simp, rfl, by omega, by omega⟩
  · unfold maxLen at hm
    have hlm : len ≤ m := by rw [hmm]; split <;> omega
    have ex : ∀ i, i < len → ∃ t, Q t ∧ ∀ j u, (row t)[j]? = some u → w.cell? (a.add (i * S + j)) = some u := by
      intro i hil
      obtain ⟨cs', hc, hk⟩ := hi i (by omega)
      rw [hC] at hc
      obtain ⟨_, hcl, hat⟩ := World.cells?_some hc
      obtain ⟨t, rfl, hq⟩ := dec _ _ _ hk hcl
      refine ⟨t, hq, fun j u hu => ?_⟩
      have hjl : j < S := by
        rcases Nat.lt_or_ge j S with h | h
        · exact h
        · rw [List.getElem?_eq_none (by rw [hrow]; exact h)] at hu; cases hu
      rw [← Go.Deep.add_add, hat j hjl, hu]
    obtain ⟨f, hfx⟩ : ∃ f : Nat → T, ∀ i, i < len → Q (f i) ∧ ∀ j u, (row (f i))[j]? = some u → w.cell? (a.add (i * S + j)) = some u := by
      refine ⟨fun i => if h : i < len then Classical.choose (ex i h) else default, fun i hil => ?_⟩
      simp only [dif_pos hil]
      exact Classical.choose_spec (ex i hil)
    refine ⟨some a, len, cap, (List.range len).map f, hcs, ⟨?_, fun hn => ⟨a, rfl, ?_, fun q u hq => ?_⟩⟩, ?_, by simp, by omega, hl⟩
    · have : ∀ l : List Nat, ((l.map f).flatMap row).length = l.length * S := by
        intro l
        induction l with
        | nil => simp
        | cons x r ih => simp only [List.map_cons, List.flatMap_cons, List.length_append, List.length_cons, ih, hrow]; rw [Nat.add_mul]; omega
      rw [this]; simp
    · have h0 := (hfx 0 hn).2 0 ((row (f 0))[0]'(by rw [hrow]; exact hS)) (List.getElem?_eq_getElem _)
      have := block_lt h0
      rwa [block_of_add] at this
    · obtain ⟨t, h1, h2⟩ := flatMap_at row hS hrow _ _ _ hq
      rw [List.getElem?_map] at h1
      have hd : q / S < len := by
        rcases Nat.lt_or_ge (q / S) len with h | h
        · exact h
        · rw [List.getElem?_eq_none (by simpa using h)] at h1; cases h1
      rw [List.getElem?_range hd] at h1
      obtain rfl : f (q / S) = t := by simpa using h1
      have := (hfx _ hd).2 _ _ h2
      rwa [Nat.mul_comm, Nat.div_add_mod] at this
    · intro t ht
      obtain ⟨i, hi1, rfl⟩ := List.mem_map.1 ht
      exact (hfx i (List.mem_range.1 hi1)).1
end
section
variable {H : Type} {enc : TypeId × Value → H} {W : World} {base : Nat} {spare : Nat → Bool} {held : Bool}
theorem cIG : Tryz.prog.cellsOf 3 = 1 := by kernel_rfl
theorem cSG : Tryz.prog.cellsOf 9 = 1 := by kernel_rfl
theorem cBG : Tryz.prog.cellsOf 4 = 1 := by kernel_rfl
theorem cAccG : Tryz.prog.cellsOf 42 = 4 := by kernel_rfl
theorem cLinkG : Tryz.prog.cellsOf 99 = 3 := by kernel_rfl
theorem cEntG : Tryz.prog.cellsOf 61 = 5 := by kernel_rfl
theorem cCalG : Tryz.prog.cellsOf 23 = 3 := by kernel_rfl
theorem cRolesG : Tryz.prog.cellsOf 26 = 15 := by kernel_rfl
theorem cAccsG : Tryz.prog.cellsOf 24 = 1 := by kernel_rfl
theorem cLinksG : Tryz.prog.cellsOf 59 = 1 := by kernel_rfl
theorem cEntsG : Tryz.prog.cellsOf 27 = 1 := by kernel_rfl
theorem cGrpG : Tryz.prog.cellsOf 29 = 21 := by kernel_rfl
theorem name_max {s : ByteArray} (h : s.size ≤ maxLen) : s.data.toList.length ≤ 9223372036854775807 := by
  rw [Array.length_toList]; exact h
set_option maxRecDepth 100000 in
theorem trod_acc {n : Nat} {cs : List Value} {y : DataW H × List MemPlace} (h : DataW.trod enc Tryz.prog W base spare held n 42 cs = some y) : ∃ x : SAcc, cs = accC x ∧ AccOk x := by
  obtain ⟨xs, m, _, _, hlen, hxl, hf⟩ := DataW.trod_struct Tryz.underlying42 h
  rw [cAccG] at hlen
  match cs, hlen with
  | [c0, c1, c2, c3], _ =>
    match xs, hxl with
    | [y0, y1, y2, y3], _ =>
      have k0 : DataW.trod enc Tryz.prog W base spare held m 3 (([c0, c1, c2, c3].drop 0).take (Tryz.prog.cellsOf 3)) = some y0 := hf 0 _ rfl
      rw [cIG] at k0
      replace k0 : DataW.trod enc Tryz.prog W base spare held m 3 [c0] = some y0 := k0
      have k1 : DataW.trod enc Tryz.prog W base spare held m 3 (([c0, c1, c2, c3].drop 1).take (Tryz.prog.cellsOf 3)) = some y1 := hf 1 _ rfl
      rw [cIG] at k1
      replace k1 : DataW.trod enc Tryz.prog W base spare held m 3 [c1] = some y1 := k1
      have k2 : DataW.trod enc Tryz.prog W base spare held m 3 (([c0, c1, c2, c3].drop 2).take (Tryz.prog.cellsOf 3)) = some y2 := hf 2 _ rfl
      rw [cIG] at k2
      replace k2 : DataW.trod enc Tryz.prog W base spare held m 3 [c2] = some y2 := k2
      have k3 : DataW.trod enc Tryz.prog W base spare held m 3 (([c0, c1, c2, c3].drop 3).take (Tryz.prog.cellsOf 3)) = some y3 := hf 3 _ rfl
      rw [cIG] at k3
      replace k3 : DataW.trod enc Tryz.prog W base spare held m 3 [c3] = some y3 := k3
      obtain ⟨x0, e0, _, z0⟩ := DataW.trod_int Tryz.underlying3 k0
      obtain ⟨x1, e1, _, z1⟩ := DataW.trod_int Tryz.underlying3 k1
      obtain ⟨x2, e2, _, z2⟩ := DataW.trod_int Tryz.underlying3 k2
      obtain ⟨x3, e3, _, z3⟩ := DataW.trod_int Tryz.underlying3 k3
      simp only [List.cons.injEq, and_true] at e0 e1 e2 e3
      subst e0 e1 e2 e3
      exact ⟨⟨x0, x1, x2, x3⟩, rfl, z0, z1, z2, z3⟩
set_option maxRecDepth 100000 in
theorem trod_link {n : Nat} {cs : List Value} {y : DataW H × List MemPlace} (h : DataW.trod enc Tryz.prog W base spare held n 99 cs = some y) : ∃ x : SLink, cs = linkC x ∧ LinkOk x := by
  obtain ⟨xs, m, _, _, hlen, hxl, hf⟩ := DataW.trod_struct Tryz.underlying99 h
  rw [cLinkG] at hlen
  match cs, hlen with
  | [c0, c1, c2], _ =>
    match xs, hxl with
    | [y0, y1, y2], _ =>
      have k0 : DataW.trod enc Tryz.prog W base spare held m 3 (([c0, c1, c2].drop 0).take (Tryz.prog.cellsOf 3)) = some y0 := hf 0 _ rfl
      rw [cIG] at k0
      replace k0 : DataW.trod enc Tryz.prog W base spare held m 3 [c0] = some y0 := k0
      have k1 : DataW.trod enc Tryz.prog W base spare held m 3 (([c0, c1, c2].drop 1).take (Tryz.prog.cellsOf 3)) = some y1 := hf 1 _ rfl
      rw [cIG] at k1
      replace k1 : DataW.trod enc Tryz.prog W base spare held m 3 [c1] = some y1 := k1
      have k2 : DataW.trod enc Tryz.prog W base spare held m 3 (([c0, c1, c2].drop 2).take (Tryz.prog.cellsOf 3)) = some y2 := hf 2 _ rfl
      rw [cIG] at k2
      replace k2 : DataW.trod enc Tryz.prog W base spare held m 3 [c2] = some y2 := k2
      obtain ⟨x0, e0, _, z0⟩ := DataW.trod_int Tryz.underlying3 k0
      obtain ⟨x1, e1, _, z1⟩ := DataW.trod_int Tryz.underlying3 k1
      obtain ⟨x2, e2, _, z2⟩ := DataW.trod_int Tryz.underlying3 k2
      simp only [List.cons.injEq, and_true] at e0 e1 e2
      subst e0 e1 e2
      exact ⟨⟨x0, x1, x2⟩, rfl, z0, z1, z2⟩
theorem trod_chart {n : Nat} {cs : List Value} {y : DataW H × List MemPlace} (h : DataW.trod enc Tryz.prog W base spare held n 24 cs = some y) : ∃ (A : Option Addr) (n c : Nat) (l : List SAcc), cs = [.slice A n c] ∧ ChartIn W W.heap.size A n c l := by
  obtain ⟨A, nn, c, ts, e, hr, hq, hl, hm, hc⟩ := open_slice_trod (T := SAcc) accC AccOk Tryz.underlying24 cAccG (by decide) (fun _ => rfl) (fun n cs y hk _ => trod_acc hk) h
  exact ⟨A, nn, c, ts, e, ⟨hr, hm, hc, hq⟩⟩
theorem trod_links {n : Nat} {cs : List Value} {y : DataW H × List MemPlace} (h : DataW.trod enc Tryz.prog W base spare held n 59 cs = some y) : ∃ (A : Option Addr) (n c : Nat) (l : List SLink), cs = [.slice A n c] ∧ LinksIn W W.heap.size A n c l := by
  obtain ⟨A, nn, c, ts, e, hr, hq, hl, hm, hc⟩ := open_slice_trod (T := SLink) linkC LinkOk Tryz.underlying59 cLinkG (by decide) (fun _ => rfl) (fun n cs y hk _ => trod_link hk) h
  exact ⟨A, nn, c, ts, e, ⟨hr, hm, hc, hq⟩⟩
set_option maxRecDepth 100000 in
theorem trod_ent {n : Nat} {cs : List Value} {y : DataW H × List MemPlace} (h : DataW.trod enc Tryz.prog W base spare held n 61 cs = some y) : ∃ x : SEnt, cs = entC x ∧ EntIn W W.heap.size x := by
  obtain ⟨xs, m, _, _, hlen, hxl, hf⟩ := DataW.trod_struct Tryz.underlying61 h
  rw [cEntG] at hlen
  match cs, hlen with
  | [c0, c1, c2, c3, c4], _ =>
    match xs, hxl with
    | [y0, y1, y2, y3, y4], _ =>
      have k0 : DataW.trod enc Tryz.prog W base spare held m 9 (([c0, c1, c2, c3, c4].drop 0).take (Tryz.prog.cellsOf 9)) = some y0 := hf 0 _ rfl
      rw [cSG] at k0
      replace k0 : DataW.trod enc Tryz.prog W base spare held m 9 [c0] = some y0 := k0
      have k1 : DataW.trod enc Tryz.prog W base spare held m 9 (([c0, c1, c2, c3, c4].drop 1).take (Tryz.prog.cellsOf 9)) = some y1 := hf 1 _ rfl
      rw [cSG] at k1
      replace k1 : DataW.trod enc Tryz.prog W base spare held m 9 [c1] = some y1 := k1
      have k2 : DataW.trod enc Tryz.prog W base spare held m 24 (([c0, c1, c2, c3, c4].drop 2).take (Tryz.prog.cellsOf 24)) = some y2 := hf 2 _ rfl
      rw [cAccsG] at k2
      replace k2 : DataW.trod enc Tryz.prog W base spare held m 24 [c2] = some y2 := k2
      have k3 : DataW.trod enc Tryz.prog W base spare held m 59 (([c0, c1, c2, c3, c4].drop 3).take (Tryz.prog.cellsOf 59)) = some y3 := hf 3 _ rfl
      rw [cLinksG] at k3
      replace k3 : DataW.trod enc Tryz.prog W base spare held m 59 [c3] = some y3 := k3
      have k4 : DataW.trod enc Tryz.prog W base spare held m 4 (([c0, c1, c2, c3, c4].drop 4).take (Tryz.prog.cellsOf 4)) = some y4 := hf 4 _ rfl
      rw [cBG] at k4
      replace k4 : DataW.trod enc Tryz.prog W base spare held m 4 [c4] = some y4 := k4
      obtain ⟨x0, e0, _, z0⟩ := DataW.trod_string Tryz.underlying9 k0
      obtain ⟨x1, e1, _, z1⟩ := DataW.trod_string Tryz.underlying9 k1
      obtain ⟨Ac, nc, cc, lc, e2, rc⟩ := trod_chart k2
      obtain ⟨Al, nl, cl, ll, e3, rl⟩ := trod_links k3
      obtain ⟨x4, e4, _⟩ := DataW.trod_bool Tryz.underlying4 k4
      simp only [List.cons.injEq, and_true] at e0 e1 e2 e3 e4
      subst e0 e1 e2 e3 e4
      exact ⟨⟨x0.data.toList, x1.data.toList, Ac, nc, cc, lc, Al, nl, cl, ll, x4⟩, rfl, rc, rl, name_max z0, name_max z1⟩
set_option maxRecDepth 100000 in
theorem trod_cal {n : Nat} {cs : List Value} {y : DataW H × List MemPlace} (h : DataW.trod enc Tryz.prog W base spare held n 23 cs = some y) : ∃ a b c : Int, cs = [.int .i64 a, .int .i64 b, .int .i64 c] := by
  obtain ⟨xs, m, _, _, hlen, hxl, hf⟩ := DataW.trod_struct Tryz.underlying23 h
  rw [cCalG] at hlen
  match cs, hlen with
  | [c0, c1, c2], _ =>
    match xs, hxl with
    | [y0, y1, y2], _ =>
      have k0 : DataW.trod enc Tryz.prog W base spare held m 3 (([c0, c1, c2].drop 0).take (Tryz.prog.cellsOf 3)) = some y0 := hf 0 _ rfl
      rw [cIG] at k0
      replace k0 : DataW.trod enc Tryz.prog W base spare held m 3 [c0] = some y0 := k0
      have k1 : DataW.trod enc Tryz.prog W base spare held m 3 (([c0, c1, c2].drop 1).take (Tryz.prog.cellsOf 3)) = some y1 := hf 1 _ rfl
      rw [cIG] at k1
      replace k1 : DataW.trod enc Tryz.prog W base spare held m 3 [c1] = some y1 := k1
      have k2 : DataW.trod enc Tryz.prog W base spare held m 3 (([c0, c1, c2].drop 2).take (Tryz.prog.cellsOf 3)) = some y2 := hf 2 _ rfl
      rw [cIG] at k2
      replace k2 : DataW.trod enc Tryz.prog W base spare held m 3 [c2] = some y2 := k2
      obtain ⟨x0, e0, _, z0⟩ := DataW.trod_int Tryz.underlying3 k0
      obtain ⟨x1, e1, _, z1⟩ := DataW.trod_int Tryz.underlying3 k1
      obtain ⟨x2, e2, _, z2⟩ := DataW.trod_int Tryz.underlying3 k2
      simp only [List.cons.injEq, and_true] at e0 e1 e2
      subst e0 e1 e2
      exact ⟨x0, x1, x2, rfl⟩
set_option maxRecDepth 100000 in
theorem trod_roles {n : Nat} {cs : List Value} {y : DataW H × List MemPlace} (h : DataW.trod enc Tryz.prog W base spare held n 26 cs = some y) : ∃ r : SRoles, cs = [.int .i64 r.c0, .int .i64 r.c1, .int .i64 r.c2, .int .i64 r.c3, .int .i64 r.c4, .int .i64 r.c5, .int .i64 r.c6, .int .i64 r.c7, .int .i64 r.c8, .int .i64 r.c9, .int .i64 r.c10, .int .i64 r.c11, .int .i64 r.c12, .int .i64 r.c13, .int .i64 r.c14] ∧ ∀ x ∈ rolesL r, okI x.code := by
  obtain ⟨xs, m, _, _, hlen, hxl, hf⟩ := DataW.trod_struct Tryz.underlying26 h
  rw [cRolesG] at hlen
  match cs, hlen with
  | [c0, c1, c2, c3, c4, c5, c6, c7, c8, c9, c10, c11, c12, c13, c14], _ =>
    match xs, hxl with
    | [y0, y1, y2, y3, y4, y5, y6, y7, y8, y9, y10, y11, y12, y13, y14], _ =>
      have k0 : DataW.trod enc Tryz.prog W base spare held m 3 (([c0, c1, c2, c3, c4, c5, c6, c7, c8, c9, c10, c11, c12, c13, c14].drop 0).take (Tryz.prog.cellsOf 3)) = some y0 := hf 0 _ rfl
      rw [cIG] at k0
      replace k0 : DataW.trod enc Tryz.prog W base spare held m 3 [c0] = some y0 := k0
      have k1 : DataW.trod enc Tryz.prog W base spare held m 3 (([c0, c1, c2, c3, c4, c5, c6, c7, c8, c9, c10, c11, c12, c13, c14].drop 1).take (Tryz.prog.cellsOf 3)) = some y1 := hf 1 _ rfl
      rw [cIG] at k1
      replace k1 : DataW.trod enc Tryz.prog W base spare held m 3 [c1] = some y1 := k1
      have k2 : DataW.trod enc Tryz.prog W base spare held m 3 (([c0, c1, c2, c3, c4, c5, c6, c7, c8, c9, c10, c11, c12, c13, c14].drop 2).take (Tryz.prog.cellsOf 3)) = some y2 := hf 2 _ rfl
      rw [cIG] at k2
      replace k2 : DataW.trod enc Tryz.prog W base spare held m 3 [c2] = some y2 := k2
      have k3 : DataW.trod enc Tryz.prog W base spare held m 3 (([c0, c1, c2, c3, c4, c5, c6, c7, c8, c9, c10, c11, c12, c13, c14].drop 3).take (Tryz.prog.cellsOf 3)) = some y3 := hf 3 _ rfl
      rw [cIG] at k3
      replace k3 : DataW.trod enc Tryz.prog W base spare held m 3 [c3] = some y3 := k3
      have k4 : DataW.trod enc Tryz.prog W base spare held m 3 (([c0, c1, c2, c3, c4, c5, c6, c7, c8, c9, c10, c11, c12, c13, c14].drop 4).take (Tryz.prog.cellsOf 3)) = some y4 := hf 4 _ rfl
      rw [cIG] at k4
      replace k4 : DataW.trod enc Tryz.prog W base spare held m 3 [c4] = some y4 := k4
      have k5 : DataW.trod enc Tryz.prog W base spare held m 3 (([c0, c1, c2, c3, c4, c5, c6, c7, c8, c9, c10, c11, c12, c13, c14].drop 5).take (Tryz.prog.cellsOf 3)) = some y5 := hf 5 _ rfl
      rw [cIG] at k5
      replace k5 : DataW.trod enc Tryz.prog W base spare held m 3 [c5] = some y5 := k5
      have k6 : DataW.trod enc Tryz.prog W base spare held m 3 (([c0, c1, c2, c3, c4, c5, c6, c7, c8, c9, c10, c11, c12, c13, c14].drop 6).take (Tryz.prog.cellsOf 3)) = some y6 := hf 6 _ rfl
      rw [cIG] at k6
      replace k6 : DataW.trod enc Tryz.prog W base spare held m 3 [c6] = some y6 := k6
      have k7 : DataW.trod enc Tryz.prog W base spare held m 3 (([c0, c1, c2, c3, c4, c5, c6, c7, c8, c9, c10, c11, c12, c13, c14].drop 7).take (Tryz.prog.cellsOf 3)) = some y7 := hf 7 _ rfl
      rw [cIG] at k7
      replace k7 : DataW.trod enc Tryz.prog W base spare held m 3 [c7] = some y7 := k7
      have k8 : DataW.trod enc Tryz.prog W base spare held m 3 (([c0, c1, c2, c3, c4, c5, c6, c7, c8, c9, c10, c11, c12, c13, c14].drop 8).take (Tryz.prog.cellsOf 3)) = some y8 := hf 8 _ rfl
      rw [cIG] at k8
      replace k8 : DataW.trod enc Tryz.prog W base spare held m 3 [c8] = some y8 := k8
      have k9 : DataW.trod enc Tryz.prog W base spare held m 3 (([c0, c1, c2, c3, c4, c5, c6, c7, c8, c9, c10, c11, c12, c13, c14].drop 9).take (Tryz.prog.cellsOf 3)) = some y9 := hf 9 _ rfl
      rw [cIG] at k9
      replace k9 : DataW.trod enc Tryz.prog W base spare held m 3 [c9] = some y9 := k9
      have k10 : DataW.trod enc Tryz.prog W base spare held m 3 (([c0, c1, c2, c3, c4, c5, c6, c7, c8, c9, c10, c11, c12, c13, c14].drop 10).take (Tryz.prog.cellsOf 3)) = some y10 := hf 10 _ rfl
      rw [cIG] at k10
      replace k10 : DataW.trod enc Tryz.prog W base spare held m 3 [c10] = some y10 := k10
      have k11 : DataW.trod enc Tryz.prog W base spare held m 3 (([c0, c1, c2, c3, c4, c5, c6, c7, c8, c9, c10, c11, c12, c13, c14].drop 11).take (Tryz.prog.cellsOf 3)) = some y11 := hf 11 _ rfl
      rw [cIG] at k11
      replace k11 : DataW.trod enc Tryz.prog W base spare held m 3 [c11] = some y11 := k11
      have k12 : DataW.trod enc Tryz.prog W base spare held m 3 (([c0, c1, c2, c3, c4, c5, c6, c7, c8, c9, c10, c11, c12, c13, c14].drop 12).take (Tryz.prog.cellsOf 3)) = some y12 := hf 12 _ rfl
      rw [cIG] at k12
      replace k12 : DataW.trod enc Tryz.prog W base spare held m 3 [c12] = some y12 := k12
      have k13 : DataW.trod enc Tryz.prog W base spare held m 3 (([c0, c1, c2, c3, c4, c5, c6, c7, c8, c9, c10, c11, c12, c13, c14].drop 13).take (Tryz.prog.cellsOf 3)) = some y13 := hf 13 _ rfl
      rw [cIG] at k13
      replace k13 : DataW.trod enc Tryz.prog W base spare held m 3 [c13] = some y13 := k13
      have k14 : DataW.trod enc Tryz.prog W base spare held m 3 (([c0, c1, c2, c3, c4, c5, c6, c7, c8, c9, c10, c11, c12, c13, c14].drop 14).take (Tryz.prog.cellsOf 3)) = some y14 := hf 14 _ rfl
      rw [cIG] at k14
      replace k14 : DataW.trod enc Tryz.prog W base spare held m 3 [c14] = some y14 := k14
      obtain ⟨x0, e0, _, z0⟩ := DataW.trod_int Tryz.underlying3 k0
      obtain ⟨x1, e1, _, z1⟩ := DataW.trod_int Tryz.underlying3 k1
      obtain ⟨x2, e2, _, z2⟩ := DataW.trod_int Tryz.underlying3 k2
      obtain ⟨x3, e3, _, z3⟩ := DataW.trod_int Tryz.underlying3 k3
      obtain ⟨x4, e4, _, z4⟩ := DataW.trod_int Tryz.underlying3 k4
      obtain ⟨x5, e5, _, z5⟩ := DataW.trod_int Tryz.underlying3 k5
      obtain ⟨x6, e6, _, z6⟩ := DataW.trod_int Tryz.underlying3 k6
      obtain ⟨x7, e7, _, z7⟩ := DataW.trod_int Tryz.underlying3 k7
      obtain ⟨x8, e8, _, z8⟩ := DataW.trod_int Tryz.underlying3 k8
      obtain ⟨x9, e9, _, z9⟩ := DataW.trod_int Tryz.underlying3 k9
      obtain ⟨x10, e10, _, z10⟩ := DataW.trod_int Tryz.underlying3 k10
      obtain ⟨x11, e11, _, z11⟩ := DataW.trod_int Tryz.underlying3 k11
      obtain ⟨x12, e12, _, z12⟩ := DataW.trod_int Tryz.underlying3 k12
      obtain ⟨x13, e13, _, z13⟩ := DataW.trod_int Tryz.underlying3 k13
      obtain ⟨x14, e14, _, z14⟩ := DataW.trod_int Tryz.underlying3 k14
      simp only [List.cons.injEq, and_true] at e0 e1 e2 e3 e4 e5 e6 e7 e8 e9 e10 e11 e12 e13 e14
      subst e0 e1 e2 e3 e4 e5 e6 e7 e8 e9 e10 e11 e12 e13 e14
      refine ⟨⟨x0, x1, x2, x3, x4, x5, x6, x7, x8, x9, x10, x11, x12, x13, x14⟩, rfl, ?_⟩
      unfold rolesL
      simp only [List.mem_cons, List.not_mem_nil, or_false]
      rintro x (rfl | rfl | rfl | rfl | rfl | rfl | rfl | rfl | rfl | rfl | rfl | rfl | rfl | rfl | rfl)
      all_goals (first | exact z0 | exact z1 | exact z2 | exact z3 | exact z4 | exact z5 | exact z6 | exact z7 | exact z8 | exact z9 | exact z10 | exact z11 | exact z12 | exact z13 | exact z14)
set_option maxRecDepth 100000 in
theorem trod_grp {n : Nat} {cs : List Value} {y : DataW H × List MemPlace} (h : DataW.trod enc Tryz.prog W base spare held n 29 cs = some y) : ∃ g : SGrp, cs = (grpC g).toList ∧ GrpIn W W.heap.size g := by
  obtain ⟨xs, m, _, _, hlen, hxl, hf⟩ := DataW.trod_struct Tryz.underlying29 h
  rw [cGrpG] at hlen
  match cs, hlen with
  | [c0, c1, c2, c3, c4, c5, c6, c7, c8, c9, c10, c11, c12, c13, c14, c15, c16, c17, c18, c19, c20], _ =>
    match xs, hxl with
    | [y0, y1, y2, y3, y4], _ =>
      have k0 : DataW.trod enc Tryz.prog W base spare held m 9 (([c0, c1, c2, c3, c4, c5, c6, c7, c8, c9, c10, c11, c12, c13, c14, c15, c16, c17, c18, c19, c20].drop 0).take (Tryz.prog.cellsOf 9)) = some y0 := hf 0 _ rfl
      rw [cSG] at k0
      replace k0 : DataW.trod enc Tryz.prog W base spare held m 9 [c0] = some y0 := k0
      have k1 : DataW.trod enc Tryz.prog W base spare held m 23 (([c0, c1, c2, c3, c4, c5, c6, c7, c8, c9, c10, c11, c12, c13, c14, c15, c16, c17, c18, c19, c20].drop 1).take (Tryz.prog.cellsOf 23)) = some y1 := hf 1 _ rfl
      rw [cCalG] at k1
      replace k1 : DataW.trod enc Tryz.prog W base spare held m 23 [c1, c2, c3] = some y1 := k1
      have k2 : DataW.trod enc Tryz.prog W base spare held m 24 (([c0, c1, c2, c3, c4, c5, c6, c7, c8, c9, c10, c11, c12, c13, c14, c15, c16, c17, c18, c19, c20].drop 4).take (Tryz.prog.cellsOf 24)) = some y2 := hf 2 _ rfl
      rw [cAccsG] at k2
      replace k2 : DataW.trod enc Tryz.prog W base spare held m 24 [c4] = some y2 := k2
      have k3 : DataW.trod enc Tryz.prog W base spare held m 26 (([c0, c1, c2, c3, c4, c5, c6, c7, c8, c9, c10, c11, c12, c13, c14, c15, c16, c17, c18, c19, c20].drop 5).take (Tryz.prog.cellsOf 26)) = some y3 := hf 3 _ rfl
      rw [cRolesG] at k3
      replace k3 : DataW.trod enc Tryz.prog W base spare held m 26 [c5, c6, c7, c8, c9, c10, c11, c12, c13, c14, c15, c16, c17, c18, c19] = some y3 := k3
      have k4 : DataW.trod enc Tryz.prog W base spare held m 27 (([c0, c1, c2, c3, c4, c5, c6, c7, c8, c9, c10, c11, c12, c13, c14, c15, c16, c17, c18, c19, c20].drop 20).take (Tryz.prog.cellsOf 27)) = some y4 := hf 4 _ rfl
      rw [cEntsG] at k4
      replace k4 : DataW.trod enc Tryz.prog W base spare held m 27 [c20] = some y4 := k4
      obtain ⟨x0, e0, _, z0⟩ := DataW.trod_string Tryz.underlying9 k0
      obtain ⟨ya, yb, yc, e1⟩ := trod_cal k1
      obtain ⟨Ac, nc, cc, lc, e2, rc⟩ := trod_chart k2
      obtain ⟨ro, e3, ho⟩ := trod_roles k3
      obtain ⟨Ae, ne, ce, le, e4, r4, q4, l4, m4, c4'⟩ := open_slice_trod (T := SEnt) entC (EntIn W W.heap.size) Tryz.underlying27 cEntG (by decide) (fun _ => rfl) (fun n cs y hk _ => trod_ent hk) k4
      simp only [List.cons.injEq, and_true] at e0 e1 e2 e3 e4
      obtain ⟨f1, f2, f3⟩ := e1
      obtain ⟨h0, h1, h2, h3, h4, h5, h6, h7, h8, h9, h10, h11, h12, h13, h14⟩ := e3
      subst e0 f1 f2 f3 e2 h0 h1 h2 h3 h4 h5 h6 h7 h8 h9 h10 h11 h12 h13 h14 e4
      exact ⟨⟨x0.data.toList, ya, yb, yc, Ac, nc, cc, lc, ro, Ae, ne, ce, le⟩, rfl, rc, r4, m4, c4', ho, q4, name_max z0⟩
set_option maxRecDepth 100000 in
theorem open_grp {r : Reach} {b0 : Nat} {v : Value} {d : DataW H} {p : List MemPlace} (hv : Value.okWide Tryz.prog W r b0 29 v) (h : DataW.Trod enc Tryz.prog W base spare held 29 v d p) :
    ∃ g : SGrp, v = grpV g ∧ GrpIn W W.heap.size g := by
  obtain ⟨cs, rfl, hsz⟩ := okWide_struct Tryz.underlying29 hv
  obtain ⟨fuel, hf⟩ := h
  obtain ⟨x, hx, hn⟩ := trod_grp hf
  refine ⟨x, ?_, hn⟩
  have hx' : cs.toList = (grpC x).toList := by simpa [Value.cells] using hx
  unfold grpV
  congr 1
  exact Array.ext' hx'
end
end Go.Proofs.YtcmmppkmkejniaaGreatDoor
