/-
  Arguments that are slices of structs of one-cell fields (the guide's lemma to copy, extra-structs, and what the walks ask of it).
-/
import Derived.Test.YtcmmppkmkejniaaGreatDoorMem
import Derived.Deep.Slices
import Derived.Deep.Fields
import Derived.ChangeSame
import Derived.Lib.SmallJoins
namespace Go.Proofs.YtcmmppkmkejniaaGreatDoor
open Go.RowKit Go.ChangeShapes Go.WideShapes Go.Deep
set_option linter.unusedVariables false
section
variable {H : Type} {enc : TypeId × Value → H} {P : Program} {w : World} {base : Nat} {spare : Nat → Bool} {held : Bool}
theorem open_slice_fields {t e : TypeId} {fs : Array Field} {fuel : Nat} {cs : List Value} {x : DataW H × List MemPlace} (ht : P.underlying t = some (.slice e)) (he : P.underlying e = some (.struct fs))
    (hone : oneCellFields P fs = true) (hC : P.cellsOf e = fs.size) (h : DataW.trod enc P w base spare held fuel t cs = some x) :
    (cs = [.slice none 0 0] ∧ x = (.nil, [])) ∨
    ∃ (a : Addr) (len cap m : Nat) (D : Nat → DataW H) (Pl : Nat → List MemPlace), cs = [.slice (some a) len cap] ∧ base ≤ a.block ∧ len ≤ cap ∧ cap ≤ maxLen ∧ m = (if spare a.block then cap else len) ∧
      x = (.slice ((List.range len).map D) ((List.range (m - len)).map fun j => D (len + j)), MemPlace.row a (m * fs.size) ++ (List.range m).flatMap Pl) ∧
      ∀ i, i < m → ∃ (ys : List (DataW H × List MemPlace)) (n : Nat), D i = .agg (ys.map (·.1)) ∧ Pl i = ys.flatMap (·.2) ∧ ys.length = fs.size ∧
        ∀ (j : Nat) (f : Field), fs[j]? = some f → ∃ (v : Value) (y : DataW H × List MemPlace), w.cell? (a.add (i * fs.size + j)) = some v ∧ ys[j]? = some y ∧ DataW.trod enc P w base spare held n f.type [v] = some y := by
  rcases open_slice ht h with h0 | ⟨a, len, cap, m, n, D, Pl, hcs, hb, hl, hm, hmm, hx, hi⟩
  · exact .inl h0
  · refine .inr ⟨a, len, cap, m, D, Pl, hcs, hb, hl, hm, hmm, by rw [hC] at hx; exact hx, fun i him => ?_⟩
    obtain ⟨cs', hc, ht'⟩ := hi i him
    rw [hC] at hc
    obtain ⟨ys, n', hn', hy, hlen, hyl, hf⟩ := DataW.trod_struct he ht'
    obtain ⟨_, hcl, hat⟩ := World.cells?_some hc
    simp only [Prod.mk.injEq] at hy
    refine ⟨ys, n', hy.1, hy.2, hyl, fun j f hj => ?_⟩
    obtain ⟨ho, hk⟩ := hone_of hone j f hj
    have hjl : j < fs.size := (Array.getElem?_eq_some_iff.1 hj).1
    have hcell := hat j hjl
    have hv : cs'[j]? = some (cs'[j]'(by omega)) := List.getElem?_eq_getElem (by omega)
    have h1 := hf j f hj
    rw [ho, hk] at h1
    have hone' : (cs'.drop j).take 1 = [cs'[j]'(by omega)] := by
      rw [List.drop_eq_getElem_cons (by omega)]
      rfl
    rw [hone'] at h1
    have hys : ys[j]? = some (ys[j]'(by omega)) := List.getElem?_eq_getElem (by omega)
    refine ⟨_, _, ?_, hys, h1.trans hys⟩
    rw [← Go.Deep.add_add, hcell, hv]
theorem flatMap_at {T : Type} (row : T → List Value) {S : Nat} (hS : 0 < S) (hrow : ∀ t, (row t).length = S) : ∀ (ts : List T) (q : Nat) (u : Value), (ts.flatMap row)[q]? = some u → ∃ t, ts[q / S]? = some t ∧ (row t)[q % S]? = some u := by
  intro ts
  induction ts with
  | nil => intro q u h; simp at h
  | cons t r ih =>
    intro q u h
    rw [List.flatMap_cons] at h
    by_cases hq : q < S
    · rw [List.getElem?_append_left (by rw [hrow]; exact hq)] at h
      rw [Nat.div_eq_of_lt hq, Nat.mod_eq_of_lt hq]
      exact ⟨t, rfl, h⟩
    · rw [List.getElem?_append_right (by rw [hrow]; omega), hrow] at h
      obtain ⟨t', h1, h2⟩ := ih _ _ h
      have e1 : q / S = (q - S) / S + 1 := by
        rw [Nat.div_eq_sub_div hS (by omega)]
      have e2 : q % S = (q - S) % S := (Nat.mod_eq_sub_mod (by omega))
      rw [e1, e2]
      exact ⟨t', by simpa using h1, h2⟩
/-- a slice of structs, opened: 'row' writes an element's cells, 'dec' reads them -/
theorem open_slice_rows {T : Type} [Inhabited T] (row : T → List Value) (Q : T → Prop) {r : Reach} {b0 : Nat} {t e : TypeId} {fs : Array Field} {v : Value} {d : DataW H} {p : List MemPlace}
    (ht : P.underlying t = some (.slice e)) (he : P.underlying e = some (.struct fs)) (hone : oneCellFields P fs = true) (hC : P.cellsOf e = fs.size) (hS : 0 < fs.size) (hrow : ∀ t, (row t).length = fs.size)
    (dec : ∀ vs : List Value, vs.length = fs.size → (∀ (j : Nat) (f : Field), fs[j]? = some f → ∃ (v : Value) (y : DataW H × List MemPlace) (n : Nat), vs[j]? = some v ∧ DataW.trod enc P w base spare held n f.type [v] = some y) → ∃ t, vs = row t ∧ Q t)
    (hv : Value.okWide P w r b0 t v) (h : DataW.Trod enc P w base spare held t v d p) :
    ∃ (A : Option Addr) (n c : Nat) (ts : List T), v = .slice A n c ∧ Reads w w.heap.size fs.size A n (ts.flatMap row) ∧ (∀ t ∈ ts, Q t) ∧ ts.length = n ∧ n ≤ 9223372036854775807 ∧ n ≤ c := by
  obtain ⟨a0, len, cap, rfl⟩ := okWide_slice ht hv
  obtain ⟨fuel, hf⟩ := h
  rcases open_slice_fields ht he hone hC hf with ⟨hcs, _⟩ | ⟨a, len', cap', m, D, Pl, hcs, _, hl, hm, hmm, _, hi⟩
  · simp [Value.cells] at hcs
    obtain ⟨rfl, rfl, rfl⟩ := hcs
    exact ⟨none, 0, 0, [], rfl, Reads.none_, by simp, rfl, by omega, by omega⟩
  · simp [Value.cells] at hcs
    obtain ⟨rfl, rfl, rfl⟩ := hcs
    unfold maxLen at hm
    have hlm : len ≤ m := by rw [hmm]; split <;> omega
    have ex : ∀ i, i < len → ∃ t, Q t ∧ ∀ j u, (row t)[j]? = some u → w.cell? (a.add (i * fs.size + j)) = some u := by
      intro i hil
      obtain ⟨ys, n, _, _, hyl, hfld⟩ := hi i (by omega)
      have hcell : ∀ j, j < fs.size → ∃ v, w.cell? (a.add (i * fs.size + j)) = some v := fun j hj => by
        obtain ⟨v, y, h1, _, _⟩ := hfld j (fs[j]'hj) (Array.getElem?_eq_getElem hj)
        exact ⟨v, h1⟩
      obtain ⟨t, ht1, ht2⟩ := dec ((List.range fs.size).map fun j => (w.cell? (a.add (i * fs.size + j))).getD undef) (by simp) (by
        intro j f hj
        have hjl : j < fs.size := (Array.getElem?_eq_some_iff.1 hj).1
        obtain ⟨v, y, h1, _, h3⟩ := hfld j f hj
        exact ⟨v, y, n, by simp [hjl, h1], h3⟩)
      refine ⟨t, ht2, fun j u hu => ?_⟩
      rw [← ht1, List.getElem?_map] at hu
      have hjl : j < fs.size := by
        rcases Nat.lt_or_ge j fs.size with h | h
        · exact h
        · rw [List.getElem?_eq_none (by simpa using h)] at hu; cases hu
      rw [List.getElem?_range hjl] at hu
      simp only [Option.map_some] at hu
      obtain ⟨v, hv⟩ := hcell j hjl
      rw [hv]
      rw [hv] at hu
      simpa using hu
    obtain ⟨f, hfx⟩ : ∃ f : Nat → T, ∀ i, i < len → Q (f i) ∧ ∀ j u, (row (f i))[j]? = some u → w.cell? (a.add (i * fs.size + j)) = some u := by
      refine ⟨fun i => if h : i < len then Classical.choose (ex i h) else default, fun i hil => ?_⟩
      simp only [dif_pos hil]
      exact Classical.choose_spec (ex i hil)
    refine ⟨some a, len, cap, (List.range len).map f, rfl, ⟨?_, fun hn => ⟨a, rfl, ?_, fun q u hq => ?_⟩⟩, ?_, by simp, by omega, hl⟩
    · have : ∀ l : List Nat, ((l.map f).flatMap row).length = l.length * fs.size := by
        intro l
        induction l with
        | nil => simp
        | cons x r ih => simp only [List.map_cons, List.flatMap_cons, List.length_append, List.length_cons, ih, hrow]; rw [Nat.add_mul]; omega
      rw [this]; simp
    · have h0 := (hfx 0 hn).2 0 ((row (f 0))[0]'(by rw [hrow]; exact hS)) (List.getElem?_eq_getElem _)
      have := block_lt h0
      rwa [block_of_add] at this
    · obtain ⟨t, h1, h2⟩ := flatMap_at row hS hrow _ _ _ hq
      rw [List.getElem?_map] at h1
      have hd : q / fs.size < len := by
        rcases Nat.lt_or_ge (q / fs.size) len with h | h
        · exact h
        · rw [List.getElem?_eq_none (by simpa using h)] at h1; cases h1
      rw [List.getElem?_range hd] at h1
      obtain rfl : f (q / fs.size) = t := by simpa using h1
      have := (hfx _ hd).2 _ _ h2
      rwa [Nat.mul_comm, Nat.div_add_mod] at this
    · intro t ht
      obtain ⟨i, hi1, rfl⟩ := List.mem_map.1 ht
      exact (hfx i (List.mem_range.1 hi1)).1
end
end Go.Proofs.YtcmmppkmkejniaaGreatDoor
