/-
  The reference's has.
-/
import Derived.Test.YtfnlddloalineaaGreatDoorQryW6
namespace Go.Proofs.YtfnlddloalineaaGreatDoor
open Go.RowKit
set_option linter.unusedVariables false
def hasB (l : List Int) (x : Int) : Bool := l.contains x
set_option maxHeartbeats 1000000 in
theorem has_any (l : List Int) (x : Int) (A : Option Addr) (n c : Nat) (w : World) (hk : ∀ j, j < n → ∃ ad : Addr, A = some ad ∧ w.cell? (ad.add j) = some (.int .i64 (l.getD j 0))) (hn : n = l.length) (hl : l.length ≤ 100000) :
    Calls Tryz.prog 55 #[.slice A n c, .int .i64 x] w fun e w' => e = .returned (.bool (hasB l x)) ∧ w = w' := by
  have HK := Lib.hid hk
  have HN := Lib.hid hn
  have hn1 : n ≤ 100000 := by omega
  clear hk hn hl
  go_enter Tryz.func55, Tryz.ntmps55
  go_wp2_with fail
  go_loop [5] (fun i => ∃ k : Nat, k ≤ n ∧ i = .int .i64 (k : Int) ∧ ∀ j, j < k → l.getD j 0 ≠ x) (fun i => n - (intOf i).toNat)
  case atStart => exact ⟨0, Nat.zero_le _, rfl, fun j h => by omega⟩
  case round =>
    obtain ⟨k, hk, rfl, hd⟩ := hrel
    have HD := Lib.hid hd
    clear hd
    by_cases hlt : k < n
    · have k1 : decide ((k : Int) < (n : Int)) = true := by rw [decide_eq_true_eq]; omega
      have k2 : decide (k < n) = true := by rw [decide_eq_true_eq]; omega
      have b1 : (k : Int) < (n : Int) := by omega
      obtain ⟨ad, rfl, hc⟩ := HK.out k hlt
      have HX : Hid (l.getD k 0 = x → hasB l x = true) := fun h => by
        unfold hasB
        rw [List.contains_iff_mem, ← h]
        have hk2 : k < l.length := by rw [← HN.out]; exact hlt
        rw [List.getD_eq_getElem?_getD, List.getElem?_eq_getElem hk2]
        exact List.getElem_mem hk2
      have HY : Hid (l.getD k 0 ≠ x → ∀ j, j < k + 1 → l.getD j 0 ≠ x) := fun h j hj => by
        by_cases e : j = k
        · rw [e]; exact h
        · exact HD.out j (by omega)
      generalize l.getD k 0 = y at *
      by_cases hx : y = x
      · have F := Lib.hid (HX.out hx)
        clear HX HY
        subst hx
        have q1 : (y == y) = true := by simp
        go_wp2_with fail
        go_ret
        exact ⟨by rw [F.out]; rfl, rfl⟩
      · have q1 : (y == x) = false := by rw [beq_eq_false_iff_ne]; exact hx
        have F := Lib.hid (HY.out hx)
        clear HX HY hx
        go_wp2_with fail
        go_round
        case rel => exact ⟨k + 1, by omega, by go_num, F.out⟩
        case measure => simp [intOf]; omega
    · have k1 : decide ((k : Int) < (n : Int)) = false := by rw [decide_eq_false_iff_not]; omega
      have k2 : decide (k < n) = false := by rw [decide_eq_false_iff_not]; omega
      have F : Hid (hasB l x = false) := by
        show _ = _
        unfold hasB
        rw [← Bool.not_eq_true, List.contains_iff_mem]
        intro hm
        obtain ⟨j, hj, e⟩ := List.getElem_of_mem hm
        refine HD.out j (by have := HN.out; omega) ?_
        rw [List.getD_eq_getElem?_getD, List.getElem?_eq_getElem hj]
        exact e
      go_wp2_with fail
      go_ret
      exact ⟨by rw [F.out]; rfl, rfl⟩
end Go.Proofs.YtfnlddloalineaaGreatDoor
