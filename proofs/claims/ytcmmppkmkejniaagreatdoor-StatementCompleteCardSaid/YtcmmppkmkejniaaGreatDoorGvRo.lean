/-
  The roles of both, in the order of the table.
-/
import Derived.Test.YtcmmppkmkejniaaGreatDoorGvCo
namespace Go.Proofs.YtcmmppkmkejniaaGreatDoor
open Go.RowKit
set_option linter.unusedVariables false
theorem reads_n (W : World) (cs : Array Value) (T : TypeId) (size n : Nat) (xs : List Value) (hx : xs = cs.toList) (g : Nat) (hg : g = W.heap.size) (hs : cs.size = n * size) : Reads (W.alloc (.cells cs T)) (W.alloc (.cells cs T)).heap.size size (some ⟨g, 0, none⟩) n xs := by
  subst hx hg
  refine ⟨by simpa using hs, fun _ => ⟨_, rfl, by simp, fun j u hj => ?_⟩⟩
  have hb := Blk.new W T cs
  have e : (⟨W.heap.size, 0, none⟩ : Addr).add j = ⟨W.heap.size, j, none⟩ := by unfold Addr.add; split <;> simp_all
  rw [e, hb.cell j, ← hj]
  simp
set_option maxRecDepth 100000 in
set_option maxHeartbeats 8000000 in
theorem roles_any (r : SRoles) (w : World) :
    Calls Tryz.prog 85 #[rolesV r] w fun e w' => ∃ ad : Addr, e = .returned (.slice (some ad) 15 15) ∧ Reads w' w'.heap.size 5 (some ad) 15 (rolesC (rolesL r)) ∧ w.heap.size ≤ ad.block ∧ Below w.heap.size w w' := by
  obtain ⟨r0, r1, r2, r3, r4, r5, r6, r7, r8, r9, r10, r11, r12, r13, r14⟩ := r
  unfold rolesV
  simp only []
  go_enter Tryz.func85, Tryz.ntmps85
  go_wp2_with fail
  go_ret
  refine ⟨⟨w.heap.size + 1, 0, none⟩, rfl, reads_n _ _ _ 5 15 _ rfl _ (by simp) rfl, Nat.le_succ _, ((Below.refl _ _).alloc (Nat.le_refl _) _).alloc (by simp) _⟩
set_option maxRecDepth 100000 in
set_option maxHeartbeats 8000000 in
theorem rroles_any (r : SRoles) (w : World) :
    Calls Tryz.prog 40 #[rolesV r] w fun e w' => ∃ ad : Addr, e = .returned (.slice (some ad) 15 15) ∧ Reads w' w'.heap.size 5 (some ad) 15 (rolesC (rolesL r)) ∧ w.heap.size ≤ ad.block ∧ Below w.heap.size w w' := by
  obtain ⟨r0, r1, r2, r3, r4, r5, r6, r7, r8, r9, r10, r11, r12, r13, r14⟩ := r
  unfold rolesV
  simp only []
  go_enter Tryz.func40, Tryz.ntmps40
  go_wp2_with fail
  go_ret
  refine ⟨⟨w.heap.size + 1, 0, none⟩, rfl, reads_n _ _ _ 5 15 _ rfl _ (by simp) rfl, Nat.le_succ _, ((Below.refl _ _).alloc (Nat.le_refl _) _).alloc (by simp) _⟩
end Go.Proofs.YtcmmppkmkejniaaGreatDoor
