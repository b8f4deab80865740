/-
  An argument that is a query, by value.
-/
import Derived.Test.YtfnlddloalineaaGreatDoorSlG
import Derived.Test.YtfnlddloalineaaGreatDoorQryA0
import Derived.Lib.SmallJoins
namespace Go.Proofs.YtfnlddloalineaaGreatDoor
open Go.RowKit Go.ChangeShapes Go.WideShapes Go.Deep
set_option linter.unusedVariables false
section
variable {H : Type} {enc : TypeId × Value → H} {P : Program} {w : World} {base : Nat} {spare : Nat → Bool} {held : Bool}
theorem open_slice_trod {T : Type} [Inhabited T] (row : T → List Value) (Q : T → Prop) {S : Nat} {t e : TypeId} {fuel : Nat} {cs : List Value} {x : DataW H × List MemPlace}
    (ht : P.underlying t = some (.slice e)) (hC : P.cellsOf e = S) (hS : 0 < S) (hrow : ∀ t, (row t).length = S)
    (dec : ∀ (n : Nat) (cs : List Value) (y : DataW H × List MemPlace), DataW.trod enc P w base spare held n e cs = some y → cs.length = S → ∃ t, cs = row t ∧ Q t)
    (hf : DataW.trod enc P w base spare held fuel t cs = some x) :
    ∃ (A : Option Addr) (n c : Nat) (ts : List T), cs = [.slice A n c] ∧ Reads w w.heap.size S A n (ts.flatMap row) ∧ (∀ t ∈ ts, Q t) ∧ ts.length = n ∧ n ≤ 9223372036854775807 ∧ n ≤ c := by
  rcases open_slice ht hf with ⟨hcs, _⟩ | ⟨a, len, cap, m, n, D, Pl, hcs, _, hl, hm, hmm, hx, hi⟩
  · exact ⟨none, 0, 0, [], hcs, Reads.none_, by simp, rfl, by omega, by omega⟩
  · unfold maxLen at hm
    have hlm : len ≤ m := by rw [hmm]; split <;> omega
    have ex : ∀ i, i < len → ∃ t, Q t ∧ ∀ j u, (row t)[j]? = some u → w.cell? (a.add (i * S + j)) = some u := by
      intro i hil
      obtain ⟨cs', hc, hk⟩ := hi i (by omega)
      rw [hC] at hc
      obtain ⟨_, hcl, hat⟩ := World.cells?_some hc
      obtain ⟨t, rfl, hq⟩ := dec _ _ _ hk hcl
      refine ⟨t, hq, fun j u hu => ?_⟩
      have hjl : j < S := by
        rcases Nat.lt_or_ge j S with h | h
        · exact h
        · rw [List.getElem?_eq_none (by rw [hrow]; exact h)] at hu; cases hu
      rw [← Go.Deep.add_add, hat j hjl, hu]
    obtain ⟨f, hfx⟩ : ∃ f : Nat → T, ∀ i, i < len → Q (f i) ∧ ∀ j u, (row (f i))[j]? = some u → w.cell? (a.add (i * S + j)) = some u := by
      refine ⟨fun i => if h : i < len then Classical.choose (ex i h) else default, fun i hil => ?_⟩
      simp only [dif_pos hil]
      exact Classical.choose_spec (ex i hil)
    refine ⟨some a, len, cap, (List.range len).map f, hcs, ⟨?_, fun hn => ⟨a, rfl, ?_, fun q u hq => ?_⟩⟩, ?_, by simp, by omega, hl⟩
    · have : ∀ l : List Nat, ((l.map f).flatMap row).length = l.length * S := by
        intro l
        induction l with
        | nil => simp
        | cons x r ih => simp only [List.map_cons, List.flatMap_cons, List.length_append, List.length_cons, ih, hrow]; rw [Nat.add_mul]; omega
      rw [this]; simp
    · have h0 := (hfx 0 hn).2 0 ((row (f 0))[0]'(by rw [hrow]; exact hS)) (List.getElem?_eq_getElem _)
      have := block_lt h0
      rwa [block_of_add] at this
    · obtain ⟨t, h1, h2⟩ := flatMap_at row hS hrow _ _ _ hq
      rw [List.getElem?_map] at h1
      have hd : q / S < len := by
        rcases Nat.lt_or_ge (q / S) len with h | h
        · exact h
        · rw [List.getElem?_eq_none (by simpa using h)] at h1; cases h1
      rw [List.getElem?_range hd] at h1
      obtain rfl : f (q / S) = t := by simpa using h1
      have := (hfx _ hd).2 _ _ h2
      rwa [Nat.mul_comm, Nat.div_add_mod] at this
    · intro t ht
      obtain ⟨i, hi1, rfl⟩ := List.mem_map.1 ht
      exact (hfx i (List.mem_range.1 hi1)).1
end
theorem spot_none {w : World} {a : Addr} {v : Value} (h : w.cell? a = some v) : a.spot = none := by
  unfold World.cell? at h
  split at h
  · split at h
    · cases h
    · rename_i hs
      simpa using hs
  · cases h
theorem flat_intV (l : List Int) : l.flatMap (fun z => [intV z]) = l.map intV := by
  induction l with
  | nil => rfl
  | cons x r ih => rw [List.flatMap_cons, ih]; rfl
theorem RdBy.of_reads {w : World} {B n : Nat} {A : Option Addr} {l : List Int} (h : Reads w B 1 A n (l.map intV)) : RdBy w B A l := fun hn => by
  have hl : l.length = n := by have := h.1; rw [List.length_map] at this; omega
  obtain ⟨ad, rfl, hb, hc⟩ := h.2 (by omega)
  have at_ : ∀ j, j < l.length → w.cell? (ad.add j) = some (.int .i64 (l.getD j 0)) := fun j hj => hc j _ (by rw [List.getElem?_map, List.getElem?_eq_getElem hj, List.getD_eq_getElem?_getD, List.getElem?_eq_getElem hj]; rfl)
  have h0 := at_ 0 hn
  have hs : ad.spot = none := spot_none (by simpa [Addr.add] using h0)
  obtain ⟨g, o, sp⟩ := ad
  simp only [] at hs
  subst hs
  refine ⟨g, o, rfl, hb, fun j hj => ?_⟩
  have := at_ j hj
  have e : (⟨g, o, none⟩ : Addr).add j = ⟨g, o + j, none⟩ := by unfold Addr.add; split <;> simp_all
  rwa [e] at this
section
variable {H : Type} {enc : TypeId × Value → H} {W : World} {base : Nat} {spare : Nat → Bool} {held : Bool}
theorem cIQ : Tryz.prog.cellsOf 3 = 1 := by kernel_rfl
theorem cCndQ : Tryz.prog.cellsOf 72 = 3 := by kernel_rfl
set_option maxRecDepth 100000 in
theorem trod_rcnd {n : Nat} {cs : List Value} {y : DataW H × List MemPlace} (h : DataW.trod enc Tryz.prog W base spare held n 72 cs = some y) : ∃ c : SCond, cs = [.int .i64 c.f, .int .i64 c.o, .int .i64 c.v] := by
  obtain ⟨xs, m, _, _, hlen, hxl, hf⟩ := DataW.trod_struct Tryz.underlying72 h
  rw [cCndQ] at hlen
  match cs, hlen with
  | [c0, c1, c2], _ =>
    match xs, hxl with
    | [y0, y1, y2], _ =>
      have k0 : DataW.trod enc Tryz.prog W base spare held m 3 (([c0, c1, c2].drop 0).take (Tryz.prog.cellsOf 3)) = some y0 := hf 0 _ rfl
      rw [cIQ] at k0
      replace k0 : DataW.trod enc Tryz.prog W base spare held m 3 [c0] = some y0 := k0
      have k1 : DataW.trod enc Tryz.prog W base spare held m 3 (([c0, c1, c2].drop 1).take (Tryz.prog.cellsOf 3)) = some y1 := hf 1 _ rfl
      rw [cIQ] at k1
      replace k1 : DataW.trod enc Tryz.prog W base spare held m 3 [c1] = some y1 := k1
      have k2 : DataW.trod enc Tryz.prog W base spare held m 3 (([c0, c1, c2].drop 2).take (Tryz.prog.cellsOf 3)) = some y2 := hf 2 _ rfl
      rw [cIQ] at k2
      replace k2 : DataW.trod enc Tryz.prog W base spare held m 3 [c2] = some y2 := k2
      obtain ⟨x0, e0, _⟩ := DataW.trod_int Tryz.underlying3 k0
      obtain ⟨x1, e1, _⟩ := DataW.trod_int Tryz.underlying3 k1
      obtain ⟨x2, e2, _⟩ := DataW.trod_int Tryz.underlying3 k2
      simp only [List.cons.injEq, and_true] at e0 e1 e2
      subst e0 e1 e2
      exact ⟨⟨x0, x1, x2⟩, rfl⟩
set_option maxRecDepth 100000 in
theorem open_qry {r : Reach} {b0 : Nat} {v : Value} {d : DataW H} {p : List MemPlace} (hv : Value.okWide Tryz.prog W r b0 32 v) (h : DataW.Trod enc Tryz.prog W base spare held 32 v d p) :
    ∃ (q : SQry) (Ab Aw : Option Addr) (nb cb nw cw : Nat), v = .agg #[.int .i64 q.verb, .slice Ab nb cb, .slice Aw nw cw] ∧ RdBy W W.heap.size Ab q.by_ ∧ q.by_.length = nb ∧ nb ≤ cb ∧ Reads W W.heap.size 3 Aw nw (cndC q.wh) ∧ nb ≤ 9223372036854775807 ∧ nw ≤ 9223372036854775807 ∧ nw ≤ cw := by
  obtain ⟨v0, v1, v2, y0, y1, y2, n, rfl, _, _, h0, h1, h2⟩ := Go.Joins.open_agg3 Tryz.underlying32 (by kernel_rfl) (by kernel_rfl) hv h
  obtain ⟨x0, e0, _⟩ := DataW.trod_int Tryz.underlying3 h0
  obtain ⟨Ab, nb, cb, lb, e1, r1, _, l1, m1, c1⟩ := open_slice_trod (T := Int) (fun z => [intV z]) (fun _ => True) Tryz.underlying23 cIQ (by decide) (fun _ => rfl) (fun n cs y hk _ => by
    obtain ⟨x, hx, _⟩ := DataW.trod_int Tryz.underlying3 hk
    exact ⟨x, hx, trivial⟩) h1
  obtain ⟨Aw, nw, cw, lw, e2, r2, _, l2, m2, c2⟩ := open_slice_trod (T := SCond) (fun c => [.int .i64 c.f, .int .i64 c.o, .int .i64 c.v]) (fun _ => True) Tryz.underlying30 cCndQ (by decide) (fun _ => rfl) (fun n cs y hk _ => by
    obtain ⟨x, hx⟩ := trod_rcnd hk
    exact ⟨x, hx, trivial⟩) h2
  simp only [List.cons.injEq, and_true] at e0 e1 e2
  subst e0 e1 e2
  rw [flat_intV] at r1
  exact ⟨⟨x0, lb, lw⟩, Ab, Aw, nb, cb, nw, cw, rfl, RdBy.of_reads r1, l1, c1, r2, m1, m2, c2⟩
end
end Go.Proofs.YtfnlddloalineaaGreatDoor
