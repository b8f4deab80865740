/-
  Decimal digits: plain laws, no program in sight.
-/
import Derived.Test.YtcmmppkmkejniaaGreatDoorBytes
import Derived.Lib.ItoaNum
import Derived.Lib.ItoaLen
import Derived.Lib.ItoaMem
namespace Go.Proofs.YtcmmppkmkejniaaGreatDoor
open Go.Lib
theorem dec_step {m : Nat} (h : 10 ≤ m) : decDigits m = decDigits (m / 10) ++ [UInt8.ofNat (48 + m % 10)] := by
  rw [decDigits, dif_neg (by omega)]
theorem dec_len_pos (m : Nat) : 1 ≤ (decDigits m).length := by rw [decDigits_length]; exact nDigits_pos m
theorem dec_len_le {m : Nat} (h : m ≤ 1000000000000000000) : (decDigits m).length ≤ 21 := by
  have := itoa_length_le (m : Int) (by omega) (by omega)
  rwa [itoa_nonneg] at this
theorem dig_of {d : Nat} (h : d < 10) : isDig (UInt8.ofNat (48 + d)) = true ∧ (UInt8.ofNat (48 + d)).toNat = 48 + d := by
  have : (UInt8.ofNat (48 + d)).toNat = 48 + d := by simp; omega
  exact ⟨isDig_iff.2 (by omega), this⟩
theorem dec_all (m : Nat) : (decDigits m).all isDig = true := by
  induction m using Nat.strongRecOn with
  | _ m ih =>
    by_cases h : m < 10
    · rw [decDigits_one h, List.all_cons, (dig_of h).1]; rfl
    · rw [dec_step (by omega), List.all_append, ih _ (by omega)]
      rw [List.all_cons, (dig_of (show m % 10 < 10 by omega)).1]; rfl
theorem dec_num (m : Nat) : isNum (decDigits m) = true := by
  unfold isNum
  rw [dec_all]
  have := dec_len_pos m
  cases h : decDigits m with
  | nil => rw [h] at this; simp at this
  | cons => rfl
theorem dec_val (m : Nat) : decVal (decDigits m) = m := by
  induction m using Nat.strongRecOn with
  | _ m ih =>
    by_cases h : m < 10
    · rw [decDigits_one h]
      have := (dig_of h).2
      simp only [decVal, List.foldl_cons, List.foldl_nil, this]
      omega
    · rw [dec_step (by omega), decVal_snoc, ih _ (by omega), (dig_of (show m % 10 < 10 by omega)).2]
      omega
theorem dec_head {m : Nat} (h : 1 ≤ m) : 49 ≤ ((decDigits m).getD 0 0).toNat := by
  induction m using Nat.strongRecOn with
  | _ m ih =>
    by_cases h9 : m < 10
    · rw [decDigits_one h9]
      have := (dig_of h9).2
      simp only [List.getD_cons_zero, this]
      omega
    · rw [dec_step (by omega)]
      have := ih (m / 10) (by omega) (by omega)
      have hp := dec_len_pos (m / 10)
      cases hd : decDigits (m / 10) with
      | nil => rw [hd] at hp; simp at hp
      | cons b r => rw [hd] at this; simpa using this
theorem dec_canon (l : List UInt8) (h : isNum l = true) (h0 : l.length = 1 ∨ 49 ≤ (l.getD 0 0).toNat) : decDigits (decVal l) = l := by
  have key : ∀ (n : Nat) (l : List UInt8), l.length = n → isNum l = true → (l.length = 1 ∨ 49 ≤ (l.getD 0 0).toNat) → decDigits (decVal l) = l := by
    intro n
    induction n with
    | zero =>
      intro l hl hn _
      rw [List.length_eq_zero_iff] at hl
      subst hl
      simp [isNum] at hn
    | succ n ih =>
      intro l hl hn h0
      obtain ⟨r, b, rfl⟩ : ∃ r b, l = r ++ [b] := by
        rcases List.eq_nil_or_concat l with rfl | ⟨r, b, rfl⟩
        · simp at hl
        · exact ⟨r, b, by simp⟩
      have hall : r.all isDig = true ∧ isDig b = true := by
        unfold isNum at hn
        simp only [Bool.and_eq_true] at hn
        have := hn.1
        rw [List.all_append] at this
        simpa using this
      have hb := isDig_iff.1 hall.2
      have eb : UInt8.ofNat (48 + (b.toNat - 48)) = b := by
        rw [show 48 + (b.toNat - 48) = b.toNat by omega]; exact UInt8.ofNat_toNat
      rw [decVal_snoc]
      cases hr : r with
      | nil =>
        simp only [decVal, List.foldl_nil, List.nil_append]
        rw [decDigits_one (by omega), show 48 + (0 * 10 + (b.toNat - 48)) = 48 + (b.toNat - 48) by omega, eb]
      | cons x r' =>
        have hx : 49 ≤ x.toNat := by
          rcases h0 with h0 | h0
          · rw [hr] at h0; simp at h0
          · rw [hr] at h0; simpa using h0
        have hrn : isNum r = true := by unfold isNum; rw [hall.1, hr]; rfl
        have hge : 1 ≤ decVal r := by
          have := decVal_ge (b := x) (l := r') hx
          rw [hr]
          exact Nat.le_trans (Nat.one_le_pow _ _ (by omega)) this
        have hv : decDigits (decVal r) = r := ih r (by simpa using hl) hrn (.inr (by rw [hr]; simpa using hx))
        rw [← hr, dec_step (by omega), show (decVal r * 10 + (b.toNat - 48)) / 10 = decVal r by omega, show (decVal r * 10 + (b.toNat - 48)) % 10 = b.toNat - 48 by omega, hv, eb]
  exact key l.length l rfl h h0
theorem dig_ne_point {l : List UInt8} (h : l.all isDig = true) : (46 : UInt8) ∉ l := by
  intro hm
  have := isDig_iff.1 (List.all_eq_true.1 h 46 hm)
  exact absurd this.1 (by decide)
theorem dig_ne_minus {l : List UInt8} (h : l.all isDig = true) : (45 : UInt8) ∉ l := by
  intro hm
  have := isDig_iff.1 (List.all_eq_true.1 h 45 hm)
  exact absurd this.1 (by decide)
end Go.Proofs.YtcmmppkmkejniaaGreatDoor
