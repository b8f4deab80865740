/-
  The reference's Digits.
-/
import Derived.Test.YtcmmppkmkejniaaGreatDoorBlSt
namespace Go.Proofs.YtcmmppkmkejniaaGreatDoor
open Go.RowKit
set_option linter.unusedVariables false
theorem refDigits_small (m : Nat) (w : World) (h : m < 10) : Calls Tryz.prog 65 #[.int .i64 m] w fun e w' => e = .returned (.string ⟨(Lib.decDigits m).toArray⟩) ∧ Below w.heap.size w w' := by
  have hd : decide (10 ≤ (m : Int)) = false := by simp; omega
  have hrun := run_byte_string w (48 + m)
  rw [Lib.decDigits_one h]
  go_enter Tryz.func65, Tryz.ntmps65
  go_wp2_with fail
  go_ret
  exact ⟨rfl, (Below.refl _ _).alloc (Nat.le_refl _) _⟩
theorem refDigits_any (k : Nat) : ∀ (m : Nat) (w : World), m < 10 ^ k → m ≤ 1000000000000000000 →
    Calls Tryz.prog 65 #[.int .i64 m] w fun e w' => e = .returned (.string ⟨(Lib.decDigits m).toArray⟩) ∧ Below w.heap.size w w' := by
  induction k with
  | zero =>
    intro m w hm _
    exact refDigits_small m w (by simp at hm; omega)
  | succ k ih =>
    intro m w hm hb
    by_cases h : m < 10
    · exact refDigits_small m w h
    · have hd : decide (10 ≤ (m : Int)) = true := by simp; omega
      have e1 : ((m : Int) / 10) = ((m / 10 : Nat) : Int) := by omega
      have e2 : ((m : Int) % 10) = ((m % 10 : Nat) : Int) := by omega
      have E1 := Lib.hid e1
      have E2 := Lib.hid e2
      have IH := Lib.hid ih
      have hl : (Lib.decDigits (m / 10)).length ≤ 21 := by
        have := Lib.itoa_length_le ((m / 10 : Nat) : Int) (by omega) (by omega)
        rwa [Lib.itoa_nonneg] at this
      have hl2 : (Lib.decDigits (m % 10)).length ≤ 21 := by
        have := Lib.itoa_length_le ((m % 10 : Nat) : Int) (by omega) (by omega)
        rwa [Lib.itoa_nonneg] at this
      clear e1 e2 ih h
      rw [Lib.decDigits, dif_neg (by have := of_decide_eq_true hd; omega)]
      go_enter Tryz.func65, Tryz.ntmps65
      go_wp2_with fail
      rw [E1.out]
      refine (IH.out (m / 10) _ (by rw [Nat.pow_succ] at hm; omega) (by omega)).mono ?_
      rintro e w1 ⟨rfl, hb1⟩
      go_wp2_with fail
      rw [E2.out]
      refine (refDigits_small (m % 10) _ (by omega)).mono ?_
      rintro e w2 ⟨rfl, hb2⟩
      go_wp2_with fail
      go_ret
      exact ⟨ret_str' ((cat_mk _ _).trans (mk_congr (by rw [Lib.decDigits_one (show m % 10 < 10 by omega)]))), below_two hb1 hb2⟩
theorem refDigits_int (x : Int) (m : Nat) (w : World) (hx : x = m) (hm : m ≤ 1000000000000000000) :
    Calls Tryz.prog 65 #[.int .i64 x] w fun e w' => e = .returned (.string ⟨(Lib.decDigits m).toArray⟩) ∧ Below w.heap.size w w' := by
  subst hx
  exact refDigits_any 19 m w (by omega) hm
end Go.Proofs.YtcmmppkmkejniaaGreatDoor
