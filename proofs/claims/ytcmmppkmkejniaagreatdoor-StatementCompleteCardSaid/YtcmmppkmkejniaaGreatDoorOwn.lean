/-
  Rows of the call's own: kept over what lies below; a literal's block reads as its cells.
-/
import Derived.Test.YtcmmppkmkejniaaGreatDoorMem
namespace Go.Proofs.YtcmmppkmkejniaaGreatDoor
open Go.RowKit Go.ChangeShapes
set_option linter.unusedVariables false
theorem grown_of_below {a w : World} (h : Below a.heap.size a w) (row : Option Nat) : a.grownBy w row := ⟨h.os, h.tape, h.output, h.size, fun i hi _ => h.block i hi⟩
section
variable {w w' : World} {base n size : Nat} {e : TypeId} {v : Value} {xs : List Value}
theorem own_below (h : w.ownsRow base e size v n xs) (hb : Below w.heap.size w w') : w'.ownsRow base e size v n xs :=
  h.kept (grown_of_below hb none) (by cases v.ownBlock <;> simp)
theorem own_slice (h : w.ownsRow base e size v n xs) : ∃ A c, v = .slice A n c := by
  obtain ⟨_, h⟩ := h
  rcases h with ⟨rfl, rfl⟩ | ⟨g, cap, cur, rfl, _⟩
  · exact ⟨_, _, rfl⟩
  · exact ⟨_, _, rfl⟩
theorem own_base (h : w.ownsRow base e size v n xs) : ∀ k, v.ownBlock = some k → base ≤ k := by
  intro k hk
  obtain ⟨_, h⟩ := h
  rcases h with ⟨rfl, rfl⟩ | ⟨g, cap, cur, rfl, hb, _⟩
  · cases hk
  · cases hk; exact hb
theorem own_lt (h : w.ownsRow base e size v n xs) : ∀ k, v.ownBlock = some k → k < w.heap.size := by
  intro k hk
  obtain ⟨_, h⟩ := h
  rcases h with ⟨rfl, rfl⟩ | ⟨g, cap, cur, rfl, hb, hh, _⟩
  · cases hk
  · obtain rfl : g = k := by simpa [Value.ownBlock] using hk
    rcases Nat.lt_or_ge g w.heap.size with hl | hl
    · exact hl
    · rw [Array.getElem?_eq_none hl] at hh; cases hh
theorem own_mono {b' : Nat} (h : w.ownsRow base e size v n xs) (hb : b' ≤ base) : w.ownsRow b' e size v n xs := by
  obtain ⟨h1, h⟩ := h
  refine ⟨h1, ?_⟩
  rcases h with h | ⟨g, cap, cur, h2, h3, h4⟩
  · exact .inl h
  · exact .inr ⟨g, cap, cur, h2, by omega, h4⟩
end
theorem reads_lit (w : World) (cs : Array Value) (T : TypeId) : Reads (w.alloc (.cells cs T)) (w.heap.size + 1) 1 (some ⟨w.heap.size, 0, none⟩) cs.size cs.toList := by
  refine ⟨by simp, fun _ => ⟨_, rfl, Nat.lt_succ_self _, fun j u hj => ?_⟩⟩
  have hb := Blk.new w T cs
  have e : (⟨w.heap.size, 0, none⟩ : Addr).add j = ⟨w.heap.size, j, none⟩ := by unfold Addr.add; split <;> simp_all
  rw [e, hb.cell j, ← hj]
  simp
/-- the one element of a literal of one element, 'size' cells wide -/
theorem reads_one (w : World) (cs : Array Value) (T : TypeId) (size : Nat) (h : cs.size = 1 * size) : Reads (w.alloc (.cells cs T)) (w.heap.size + 1) size (some ⟨w.heap.size, 0, none⟩) 1 cs.toList := by
  refine ⟨by simpa using h, fun _ => ⟨_, rfl, Nat.lt_succ_self _, fun j u hj => ?_⟩⟩
  have hb := Blk.new w T cs
  have e : (⟨w.heap.size, 0, none⟩ : Addr).add j = ⟨w.heap.size, j, none⟩ := by unfold Addr.add; split <;> simp_all
  rw [e, hb.cell j, ← hj]
  simp
end Go.Proofs.YtcmmppkmkejniaaGreatDoor
