/-
  The reference's Same, at rows that are alike.
-/
import Derived.Test.YtcmmppkmkejniaaGreatDoorGvRw
namespace Go.Proofs.YtcmmppkmkejniaaGreatDoor
open Go.RowKit
set_option linter.unusedVariables false
set_option maxRecDepth 100000 in
set_option maxHeartbeats 4000000 in
theorem same_any (rs : List SRow) (A A' : Option Addr) (n c c' : Nat) (B B' : Nat) (w : World) (hr : Reads w B 5 A n (rowsCells rs)) (hr' : Reads w B' 5 A' n (rowsCells rs)) (hB : B ≤ w.heap.size) (hB' : B' ≤ w.heap.size) (hn : n ≤ 9223372036854775807) :
    Calls Tryz.prog 12 #[.slice A n c, .slice A' n c'] w fun e w' => e = .returned (.bool true) ∧ Below w.heap.size w w' := by
  have HR := Lib.hid hr
  have HR' := Lib.hid hr'
  have qn : (n != n) = false := by simp
  have qn' : ((n : Int) != (n : Int)) = false := by simp
  clear hr hr'
  go_enter Tryz.func12, Tryz.ntmps12
  go_wp2_with fail
  go_loopw [5] (fun i wr => ∃ k : Nat, k ≤ n ∧ i = .int .i64 k ∧ Below w.heap.size w wr) (fun i _ => n - (intOf i).toNat)
  case atStart => exact ⟨0, Nat.zero_le _, rfl, Below.refl _ _⟩
  case round =>
    obtain ⟨k, hk, rfl, hbr⟩ := hrel
    obtain ⟨wo, rfl⟩ : ∃ wo : World, wo = wr := ⟨_, rfl⟩
    by_cases hlt : k < n
    · have k3 : decide ((k : Int) < (n : Int)) = true := by rw [decide_eq_true_eq]; omega
      obtain ⟨ad, rfl, hab, c0, c1, c2, c3, c4⟩ := (HR.out.low hB (Nat.le_refl _) hbr).row_at hlt
      obtain ⟨ad', rfl, hab', d0, d1, d2, d3, d4⟩ := (HR'.out.low hB' (Nat.le_refl _) hbr).row_at hlt
      have b1 : (k : Int) < (n : Int) := by omega
      generalize rs.getD k default = r at *
      obtain ⟨nm, lv, fr, to_, ng⟩ := r
      simp only [] at c0 c1 c2 c3 c4 d0 d1 d2 d3 d4
      go_wp2_with fail
      go_quiet (fail)
      go_wp2_with fail
      exact ⟨⟨k + 1, by omega, by go_num, below_drewN hbr nq⟩, by simp [intOf]; omega⟩
    · have k3 : decide ((k : Int) < (n : Int)) = false := by rw [decide_eq_false_iff_not]; omega
      go_wp2_with fail
      go_ret
      exact ⟨rfl, hbr⟩
end Go.Proofs.YtcmmppkmkejniaaGreatDoor
