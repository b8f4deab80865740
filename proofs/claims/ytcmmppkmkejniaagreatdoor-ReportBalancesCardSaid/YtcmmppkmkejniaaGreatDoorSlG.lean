/-
  Arguments that are slices of whatever has a fixed number of cells.
-/
import Derived.Test.YtcmmppkmkejniaaGreatDoorBlSt
import Derived.SizedLaws
namespace Go.Proofs.YtcmmppkmkejniaaGreatDoor
open Go.RowKit Go.ChangeShapes Go.WideShapes Go.Deep
set_option linter.unusedVariables false
section
variable {H : Type} {enc : TypeId × Value → H} {P : Program} {w : World} {base : Nat} {spare : Nat → Bool} {held : Bool}
theorem open_slice_gen {T : Type} [Inhabited T] (row : T → List Value) (Q : T → Prop) {S : Nat} {r : Reach} {b0 : Nat} {t e : TypeId} {v : Value} {d : DataW H} {p : List MemPlace}
    (ht : P.underlying t = some (.slice e)) (hC : P.cellsOf e = S) (hS : 0 < S) (hrow : ∀ t, (row t).length = S)
    (dec : ∀ (n : Nat) (cs : List Value) (y : DataW H × List MemPlace), DataW.trod enc P w base spare held n e cs = some y → cs.length = S → ∃ t, cs = row t ∧ Q t)
    (hv : Value.okWide P w r b0 t v) (h : DataW.Trod enc P w base spare held t v d p) :
    ∃ (A : Option Addr) (n c : Nat) (ts : List T), v = .slice A n c ∧ Reads w w.heap.size S A n (ts.flatMap row) ∧ (∀ t ∈ ts, Q t) ∧ ts.length = n ∧ n ≤ 9223372036854775807 ∧ n ≤ c ∧ (n = 0 ∨ ∃ el sp : List (DataW H), d = .slice el sp ∧ el.length = n) := by
  obtain ⟨a0, len, cap, rfl⟩ := okWide_slice ht hv
  obtain ⟨fuel, hf⟩ := h
  rcases open_slice ht hf with ⟨hcs, _⟩ | ⟨a, len', cap', m, n, D, Pl, hcs, _, hl, hm, hmm, hx, hi⟩
  · simp [Value.cells] at hcs
    obtain ⟨rfl, rfl, rfl⟩ := hcs
    exact ⟨none, 0, 0, [], rfl, Reads.none_, by simp, rfl, by omega, by omega, .inl rfl⟩
  · simp [Value.cells] at hcs
    obtain ⟨rfl, rfl, rfl⟩ := hcs
    unfold maxLen at hm
    have hlm : len ≤ m := by rw [hmm]; split <;> omega
    have ex : ∀ i, i < len → ∃ t, Q t ∧ ∀ j u, (row t)[j]? = some u → w.cell? (a.add (i * S + j)) = some u := by
      intro i hil
      obtain ⟨cs', hc, hk⟩ := hi i (by omega)
      rw [hC] at hc
      obtain ⟨_, hcl, hat⟩ := World.cells?_some hc
      obtain ⟨t, rfl, hq⟩ := dec _ _ _ hk hcl
      refine ⟨t, hq, fun j u hu => ?_⟩
      have hjl : j < S := by
        rcases Nat.lt_or_ge j S with h | h
        · exact h
        · rw [List.getElem?_eq_none (by rw [hrow]; exact h)] at hu; cases hu
      rw [← Go.Deep.add_add, hat j hjl, hu]
    obtain ⟨f, hfx⟩ : ∃ f : Nat → T, ∀ i, i < len → Q (f i) ∧ ∀ j u, (row (f i))[j]? = some u → w.cell? (a.add (i * S + j)) = some u := by
      refine ⟨fun i => if h : i < len then Classical.choose (ex i h) else default, fun i hil => ?_⟩
      simp only [dif_pos hil]
      exact Classical.choose_spec (ex i hil)
    refine ⟨some a, len, cap, (List.range len).map f, rfl, ⟨?_, fun hn => ⟨a, rfl, ?_, fun q u hq => ?_⟩⟩, ?_, by simp, by omega, hl, .inr ⟨(List.range len).map D, _, by simp only [Prod.mk.injEq] at hx; exact hx.1, by simp⟩⟩
    · have : ∀ l : List Nat, ((l.map f).flatMap row).length = l.length * S := by
        intro l
        induction l with
        | nil => simp
        | cons x r ih => simp only [List.map_cons, List.flatMap_cons, List.length_append, List.length_cons, ih, hrow]; rw [Nat.add_mul]; omega
      rw [this]; simp
    · have h0 := (hfx 0 hn).2 0 ((row (f 0))[0]'(by rw [hrow]; exact hS)) (List.getElem?_eq_getElem _)
      have := block_lt h0
      rwa [block_of_add] at this
    · obtain ⟨t, h1, h2⟩ := flatMap_at row hS hrow _ _ _ hq
      rw [List.getElem?_map] at h1
      have hd : q / S < len := by
        rcases Nat.lt_or_ge (q / S) len with h | h
        · exact h
        · rw [List.getElem?_eq_none (by simpa using h)] at h1; cases h1
      rw [List.getElem?_range hd] at h1
      obtain rfl : f (q / S) = t := by simpa using h1
      have := (hfx _ hd).2 _ _ h2
      rwa [Nat.mul_comm, Nat.div_add_mod] at this
    · intro t ht
      obtain ⟨i, hi1, rfl⟩ := List.mem_map.1 ht
      exact (hfx i (List.mem_range.1 hi1)).1
end
end Go.Proofs.YtcmmppkmkejniaaGreatDoor
