/-
  Slices of integers of any kind.
-/
import Derived.Test.YtfnlddloalineaaGreatDoorMem
namespace Go.Proofs.YtfnlddloalineaaGreatDoor
open Go.RowKit Go.ChangeShapes
set_option linter.unusedVariables false
/-- a slice of integers: what is read at an index -/
theorem Reads.int_atq {q : IntKind} {w : World} {B n k : Nat} {A : Option Addr} {zs : List Int} (h : Reads w B 1 A n (zs.map (Value.int q))) (hk : k < n) :
    ∃ ad, A = some ad ∧ ad.block < B ∧ w.cell? (ad.add k) = some (.int q (zs.getD k 0)) := by
  obtain ⟨ad, u, rfl, hb, hx, hc⟩ := h.at_ hk
  refine ⟨ad, rfl, hb, hc.trans ?_⟩
  rw [List.getElem?_map] at hx
  cases hz : zs[k]? with
  | none => rw [hz] at hx; cases hx
  | some z =>
    rw [hz] at hx
    simp at hx
    rw [← hx]; simp [List.getD, hz]
theorem Reads.int_lenq {q : IntKind} {w : World} {B n : Nat} {A : Option Addr} {zs : List Int} (h : Reads w B 1 A n (zs.map (Value.int q))) : zs.length = n := by
  have := h.1
  simpa using this
set_option maxRecDepth 100000 in
/-- an argument that is a slice of integers -/
theorem open_slice_q {q : IntKind} {H : Type} {enc : TypeId × Value → H} {W : World} {r : Reach} {b0 base T E : Nat} {spare : Nat → Bool} {held : Bool} {v : Value} {d : DataW H} {p : List MemPlace}
    (ht : Tryz.prog.underlying T = some (.slice E)) (he : Tryz.prog.underlying E = some (.int q)) (hc : Tryz.prog.cellsOf E = 1)
    (hv : Value.okWide Tryz.prog W r b0 T v) (h : DataW.Trod enc Tryz.prog W base spare held T v d p) :
    ∃ (A : Option Addr) (n c : Nat) (zs : List Int), v = .slice A n c ∧ Reads W W.heap.size 1 A n (zs.map (Value.int q)) ∧ (∀ z ∈ zs, (Lit.int q z).wf = true) ∧ n ≤ 9223372036854775807 ∧ n ≤ c := by
  obtain ⟨a0, len, cap, rfl⟩ := Go.WideShapes.okWide_slice ht hv
  obtain ⟨fuel, hf⟩ := h
  rcases open_ints ht he hc hf with ⟨hcs, _⟩ | ⟨a, len', cap', zs, hcs, _, hl, hm, hz, _, hcell, hwz⟩
  · simp [Value.cells] at hcs
    obtain ⟨rfl, rfl, rfl⟩ := hcs
    exact ⟨none, 0, 0, [], rfl, Reads.none_, by simp, by omega, by omega⟩
  · simp [Value.cells] at hcs
    obtain ⟨rfl, rfl, rfl⟩ := hcs
    unfold maxLen at hm
    have hlen : len ≤ zs.length := by rw [hz]; split <;> omega
    refine ⟨some a, len, cap, zs.take len, rfl, ⟨by simp; omega, fun hn => ⟨a, rfl, ?_, fun j u hj => ?_⟩⟩, fun z hz => hwz z (List.mem_of_mem_take hz), by omega, hl⟩
    · have := block_lt (hcell 0 (by omega))
      rwa [block_of_add] at this
    · rw [List.getElem?_map] at hj
      cases hx : (zs.take len)[j]? with
      | none => rw [hx] at hj; cases hj
      | some z =>
        rw [hx] at hj
        simp only [Option.map_some, Option.some.injEq] at hj
        subst hj
        have hj2 : j < (zs.take len).length := (List.getElem?_eq_some_iff.1 hx).1
        rw [List.length_take] at hj2
        rw [hcell j (by omega)]
        rw [List.getElem?_take] at hx
        simp only [show j < len by omega, if_true] at hx
        simp [List.getD, hx]
end Go.Proofs.YtfnlddloalineaaGreatDoor
