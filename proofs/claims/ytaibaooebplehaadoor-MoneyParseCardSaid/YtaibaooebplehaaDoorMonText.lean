/-
  The text of an amount: plain laws.
-/
import Derived.Test.YtaibaooebplehaaDoorMonPlain
import Derived.Lib.ItoaNum
import Derived.Lib.ItoaLen
import Derived.Lib.ItoaMem
namespace Go.Proofs.YtaibaooebplehaaDoor
open Go.Lib
/-- the last two digits -/
def two (m : Nat) : List UInt8 := [UInt8.ofNat (48 + m / 10 % 10), UInt8.ofNat (48 + m % 10)]
def amtBody (m : Nat) : List UInt8 := decDigits (m / 100) ++ 46 :: two m
def amtText (n : Int) : List UInt8 := if okAmt n then (if n < 0 then 45 :: amtBody n.natAbs else amtBody n.natAbs) else []
/-- padded with zeros in front to three digits at least -/
def pad3 (l : List UInt8) : List UInt8 := List.replicate (3 - l.length) 48 ++ l
theorem dec_step {m : Nat} (h : 10 ≤ m) : decDigits m = decDigits (m / 10) ++ [UInt8.ofNat (48 + m % 10)] := by
  rw [decDigits, dif_neg (by omega)]
theorem dec_len_pos (m : Nat) : 1 ≤ (decDigits m).length := by rw [decDigits_length]; exact nDigits_pos m
theorem pad3_dec (m : Nat) : pad3 (decDigits m) = decDigits (m / 100) ++ two m := by
  unfold pad3 two
  by_cases h1 : m < 10
  · have e : m / 100 = 0 := by omega
    have e2 : m / 10 % 10 = 0 := by omega
    have e3 : m % 10 = m := by omega
    rw [decDigits_one h1, e, e2, e3, decDigits_one (by omega)]; rfl
  · by_cases h2 : m < 100
    · have e : m / 100 = 0 := by omega
      have e2 : m / 10 % 10 = m / 10 := by omega
      rw [decDigits_two h1 h2, e, e2, decDigits_one (by omega)]; rfl
    · have hl : 3 ≤ (decDigits m).length := by
        rw [dec_step (m := m) (by omega), dec_step (m := m / 10) (by omega)]
        have := dec_len_pos (m / 10 / 10)
        simp; omega
      rw [show 3 - (decDigits m).length = 0 from by omega, dec_step (m := m) (by omega), dec_step (m := m / 10) (by omega), show m / 10 / 10 = m / 100 from by omega]
      simp
theorem pad3_len (m : Nat) : (pad3 (decDigits m)).length = (decDigits (m / 100)).length + 2 := by rw [pad3_dec]; simp [two]
theorem pad3_take (m : Nat) : (pad3 (decDigits m)).take ((pad3 (decDigits m)).length - 2) = decDigits (m / 100) := by
  rw [pad3_len, pad3_dec]; simp
theorem pad3_drop (m : Nat) : (pad3 (decDigits m)).drop ((pad3 (decDigits m)).length - 2) = two m := by
  rw [pad3_len, pad3_dec]; simp
theorem dec_len_le {m : Nat} (h : m ≤ 1000000000000) : (decDigits m).length ≤ 21 := by
  have := itoa_length_le (m : Int) (by omega) (by omega)
  rwa [itoa_nonneg] at this
theorem two_len (m : Nat) : (two m).length = 2 := rfl
end Go.Proofs.YtaibaooebplehaaDoor
