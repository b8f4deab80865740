/-
  Small laws: a box of three, a list of numbers, SameInts.
-/
import Derived.Test.YtfnlddloalineaaGreatDoorQryA0
namespace Go.Proofs.YtfnlddloalineaaGreatDoor
open Go.RowKit
set_option linter.unusedVariables false
set_option maxRecDepth 100000
theorem rd_cells3 {x : World} {g : Nat} {T : TypeId} {c0 c1 c2 : Value} (hk : Blk x g T #[c0, c1, c2]) (u0 u1 u2 : Value) : let y := (((x.setCell ⟨g, 0, none⟩ u0).setCell ⟨g, 1, none⟩ u1).setCell ⟨g, 2, none⟩ u2); y.cell? ⟨g, 0, none⟩ = some u0 ∧ y.cell? ⟨g, 1, none⟩ = some u1 ∧ y.cell? ⟨g, 2, none⟩ = some u2 := by
  have h : Blk (((x.setCell ⟨g, 0, none⟩ u0).setCell ⟨g, 1, none⟩ u1).setCell ⟨g, 2, none⟩ u2) g T #[u0, u1, u2] := by
    have := ((hk.set_ 0 u0).set_ 1 u1).set_ 2 u2
    simpa using this
  exact ⟨h.cell 0, h.cell 1, h.cell 2⟩
theorem own_set3 {x : World} {g b : Nat} {T e : TypeId} {cs : Array Value} {v : Value} {size n : Nat} {xs : List Value} (h : x.ownsRow b e size v n xs) (hk : Blk x g T cs) (hne : e ≠ T) (u0 u1 u2 : Value) : (((x.setCell ⟨g, 0, none⟩ u0).setCell ⟨g, 1, none⟩ u1).setCell ⟨g, 2, none⟩ u2).ownsRow b e size v n xs := by
  have hn := own_blk_ne h hk hne
  exact ownsRow_setCell_other (ownsRow_setCell_other (ownsRow_setCell_other h (a := ⟨g, 0, none⟩) hn u0) (a := ⟨g, 1, none⟩) hn u1) (a := ⟨g, 2, none⟩) hn u2
theorem below_set3 {w0 x : World} {n g : Nat} (h : Below n w0 x) (hg : n ≤ g) (u0 u1 u2 : Value) : Below n w0 (((x.setCell ⟨g, 0, none⟩ u0).setCell ⟨g, 1, none⟩ u1).setCell ⟨g, 2, none⟩ u2) :=
  ((h.setCell (p := ⟨g, 0, none⟩) hg u0).setCell (p := ⟨g, 1, none⟩) hg u1).setCell (p := ⟨g, 2, none⟩) hg u2
theorem RdBy.zero (w : World) (B : Nat) (A : Option Addr) : RdBy w B A [] := fun h => absurd h (by simp)
set_option maxHeartbeats 4000000 in
theorem sameI_yes (l : List Int) (A A' : Option Addr) (n c c' B : Nat) (w : World) (h : RdBy w B A l) (h' : RdBy w B A' l) (hn : n = l.length) (hb : n ≤ 9223372036854775807) :
    Calls Tryz.prog 30 #[.slice A n c, .slice A' n c'] w fun e w' => e = .returned (.bool true) ∧ ∃ k, w' = w.drewN k := by
  have HA := Lib.hid h
  have HA' := Lib.hid h'
  have HN := Lib.hid hn
  have q1 : ((n : Int) != (n : Int)) = false := by simp
  clear h h' hn
  go_enter Tryz.func30, Tryz.ntmps30
  go_wp2_with fail
  go_loopw [5] (fun i wr => ∃ k m : Nat, k ≤ n ∧ i = .int .i64 k ∧ wr = w.drewN m) (fun i _ => n - (intOf i).toNat)
  case atStart => exact ⟨0, 0, by omega, rfl, rfl⟩
  case round =>
    obtain ⟨k, m, hk, rfl, rfl⟩ := hrel
    by_cases hlt : k < n
    · have k3 : decide ((k : Int) < (n : Int)) = true := by rw [decide_eq_true_eq]; omega
      have k4 : (k : Int) < (n : Int) := by omega
      have hkl : k < l.length := by have := HN.out; omega
      obtain ⟨g, o, rfl, hg, hc⟩ := HA.out (by omega)
      obtain ⟨g', o', rfl, hg', hc'⟩ := HA'.out (by omega)
      have y3 := hc k hkl
      have y3' := hc' k hkl
      generalize l.getD k 0 = x at *
      clear hc hc' hkl
      have q2 : (x != x) = false := by simp
      go_wp2_with fail
      go_quiet (fail)
      go_wp2_with fail
      go_roundw
      case rel => exact ⟨k + 1, _, by omega, by go_num, rfl⟩
      case measure => simp [intOf]; omega
    · have k3 : decide ((k : Int) < (n : Int)) = false := by rw [decide_eq_false_iff_not]; omega
      go_wp2_with fail
      go_ret
      exact ⟨rfl, m, rfl⟩
theorem RdBy.more {w : World} {B B' : Nat} {A : Option Addr} {l : List Int} (h : RdBy w B A l) (hB : B ≤ B') : RdBy w B' A l := fun hn => by
  obtain ⟨g, o, e, hg, hc⟩ := h hn
  exact ⟨g, o, e, by omega, hc⟩
end Go.Proofs.YtfnlddloalineaaGreatDoor
