/-
  Texts: the reference's Digits and Text, and the law MoneyText.
-/
import Derived.Test.YtaibaooebplehaaDoorMonW5
import Derived.WalkSpells
import Derived.Laws.BytesString
import Derived.Lib.ItoaLen
namespace Go.Proofs.YtaibaooebplehaaDoor
open Go.RowKit
set_option linter.unusedVariables false
theorem run_byte_string (w : World) (n : Int) : (convert 50 9 (.slice (some ⟨w.heap.size, 0, none⟩) 1 1)).run Tryd.prog (w.alloc (.cells #[.int .u8 n] 5)) = .ok (.string ⟨[UInt8.ofNat n.toNat].toArray⟩) (w.alloc (.cells #[.int .u8 n] 5)) := by
  rw [run_convert_bytes_string _ _ _ _ _ _ _ Tryd.underlying50 Tryd.underlying5 Tryd.underlying9]
  rw [run_bytesToString _ _ _ _ [n] (by simp [go_sem, loadCells])]
  rfl
theorem refDigits_small (m : Nat) (w : World) (h : m < 10) : Calls Tryd.prog 33 #[.int .i64 m] w fun e w' => e = .returned (.string ⟨(Lib.decDigits m).toArray⟩) ∧ Below w.heap.size w w' := by
  have hd : decide (10 ≤ (m : Int)) = false := by simp; omega
  have hrun := run_byte_string w (48 + m)
  rw [Lib.decDigits_one h]
  go_enter Tryd.func33, Tryd.ntmps33
  go_wp2_with fail
  go_ret
  exact ⟨rfl, (Below.refl _ _).alloc (Nat.le_refl _) _⟩
theorem refDigits_any (k : Nat) : ∀ (m : Nat) (w : World), m < 10 ^ k → m ≤ 1000000000000000000 →
    Calls Tryd.prog 33 #[.int .i64 m] w fun e w' => e = .returned (.string ⟨(Lib.decDigits m).toArray⟩) ∧ Below w.heap.size w w' := by
  induction k with
  | zero =>
    intro m w hm _
    exact refDigits_small m w (by simp at hm; omega)
  | succ k ih =>
    intro m w hm hb
    by_cases h : m < 10
    · exact refDigits_small m w h
    · have hd : decide (10 ≤ (m : Int)) = true := by simp; omega
      have e1 : ((m : Int) / 10) = ((m / 10 : Nat) : Int) := by omega
      have e2 : ((m : Int) % 10) = ((m % 10 : Nat) : Int) := by omega
      have E1 := Lib.hid e1
      have E2 := Lib.hid e2
      have IH := Lib.hid ih
      have hl : (Lib.decDigits (m / 10)).length ≤ 21 := by
        have := Lib.itoa_length_le ((m / 10 : Nat) : Int) (by omega) (by omega)
        rwa [Lib.itoa_nonneg] at this
      have hl2 : (Lib.decDigits (m % 10)).length ≤ 21 := by
        have := Lib.itoa_length_le ((m % 10 : Nat) : Int) (by omega) (by omega)
        rwa [Lib.itoa_nonneg] at this
      clear e1 e2 ih h
      rw [Lib.decDigits, dif_neg (by have := of_decide_eq_true hd; omega)]
      go_enter Tryd.func33, Tryd.ntmps33
      go_wp2_with fail
      rw [E1.out]
      refine (IH.out (m / 10) _ (by rw [Nat.pow_succ] at hm; omega) (by omega)).mono ?_
      rintro e w1 ⟨rfl, hb1⟩
      go_wp2_with fail
      rw [E2.out]
      refine (refDigits_small (m % 10) _ (by omega)).mono ?_
      rintro e w2 ⟨rfl, hb2⟩
      go_wp2_with fail
      go_ret
      exact ⟨ret_str' ((cat_mk _ _).trans (mk_congr (by rw [Lib.decDigits_one (show m % 10 < 10 by omega)]))), below_two hb1 hb2⟩
theorem refDigits_int (x : Int) (m : Nat) (w : World) (hx : x = m) (hm : m ≤ 1000000000000000000) :
    Calls Tryd.prog 33 #[.int .i64 x] w fun e w' => e = .returned (.string ⟨(Lib.decDigits m).toArray⟩) ∧ Below w.heap.size w w' := by
  subst hx
  exact refDigits_any 19 m w (by omega) hm
theorem refText_pos (m : Nat) (w : World) (hm : (m : Int) ≤ 1000000000000) :
    Calls Tryd.prog 23 #[.int .i64 m] w fun e w' => e = .returned (.string ⟨(amtBody m).toArray⟩) ∧ Below w.heap.size w w' := by
  have ho : okAmt (m : Int) = true := okAmt_yes (by omega)
  have hnd : decide ((m : Int) < 0) = false := by simp
  have l1 := dec_len_le (m := m / 100) (by omega)
  have l2 := dec_len_le (m := m / 10 % 10) (by omega)
  have l3 := dec_len_le (m := m % 10) (by omega)
  go_enter Tryd.func23, Tryd.ntmps23
  go_wp2_with (go_at_call 15; refine (refValid_any _ _).mono ?_; rintro e w' ⟨rfl, rfl⟩)
  refine (refDigits_int _ (m / 100) _ (by omega) (by omega)).mono ?_
  rintro e w1 ⟨rfl, hb1⟩
  go_wp2_with fail
  refine (refDigits_int _ (m / 10 % 10) _ (by omega) (by omega)).mono ?_
  rintro e w2 ⟨rfl, hb2⟩
  go_wp2_with fail
  refine (refDigits_int _ (m % 10) _ (by omega) (by omega)).mono ?_
  rintro e w3 ⟨rfl, hb3⟩
  go_wp2_with fail
  go_ret
  refine ⟨ret_str' ?_, below_two (below_two hb1 hb2) hb3⟩
  refine (congrArg (fun x : ByteArray => x ++ ⟨(Lib.decDigits (m / 10 % 10)).toArray⟩ ++ ⟨(Lib.decDigits (m % 10)).toArray⟩) (cat_mk (Lib.decDigits (m / 100)) [46])).trans ?_
  rw [cat3_mk]
  refine mk_congr ?_
  rw [Lib.decDigits_one (show m / 10 % 10 < 10 by omega), Lib.decDigits_one (show m % 10 < 10 by omega)]
  simp [amtBody, two]
theorem refText_any (n : Int) (w : World) :
    Calls Tryd.prog 23 #[.int .i64 n] w fun e w' => e = .returned (.string ⟨(amtText n).toArray⟩) ∧ Below w.heap.size w w' := by
  cases ho : okAmt n
  · have e : amtText n = [] := by unfold amtText; rw [ho]; rfl
    rw [e]
    clear e
    go_enter Tryd.func23, Tryd.ntmps23
    go_wp2_with (go_at_call 15; refine (refValid_any _ _).mono ?_; rintro e w' ⟨rfl, rfl⟩)
    go_ret
    exact ⟨rfl, Below.refl _ _⟩
  · have hb := okAmt_iff.1 ho
    by_cases hn : n < 0
    · obtain ⟨m, hm⟩ : ∃ m : Nat, n = -(m : Int) := ⟨n.natAbs, by omega⟩
      subst hm
      have hm0 : 0 < (m : Int) := by omega
      have hm1 : (m : Int) ≤ 1000000000000 := by omega
      have hl : (amtBody m).length ≤ 30 := by
        have := dec_len_le (m := m / 100) (by omega)
        simp [amtBody, two]; omega
      rw [amtText_neg m hm0 hm1]
      clear hb hn
      go_enter Tryd.func23, Tryd.ntmps23
      go_wp2_with (go_at_call 15; refine (refValid_any _ _).mono ?_; rintro e w' ⟨rfl, rfl⟩)
      refine (refText_pos m _ hm1).mono ?_
      rintro e w1 ⟨rfl, hb1⟩
      go_wp2_with fail
      go_ret
      exact ⟨ret_str' (cat_mk [45] _), hb1⟩
    · obtain ⟨m, hm⟩ : ∃ m : Nat, n = (m : Int) := ⟨n.natAbs, by omega⟩
      subst hm
      rw [amtText_pos m hb.2]
      exact refText_pos m w hb.2
theorem moneyText_all (n : Int) (w : World) (hE : Env w) :
    Calls Tryd.prog 22 #[.int .i64 n] w fun e w' => e = .returned (.string ⟨(amtText n).toArray⟩) ∧ Below w.heap.size w w' := by
  cases ho : okAmt n
  · have e : amtText n = [] := by unfold amtText; rw [ho]; rfl
    rw [e]
    clear e
    go_enter Tryd.func22, Tryd.ntmps22
    go_wp2_with (go_at_call 14; refine (moneyValid_any _ _).mono ?_; rintro e w' ⟨rfl, rfl⟩)
    go_ret
    exact ⟨rfl, Below.refl _ _⟩
  · exact moneyText_any n w hE (okAmt_iff.1 ho).1 (okAmt_iff.1 ho).2
end Go.Proofs.YtaibaooebplehaaDoor
