/-
  Dates: number, Parse of both.
-/
import Derived.Test.YtfnlddloalineaaGreatDoorDatW2
import Derived.Deep.QuietTactic
import Derived.BigQuiet
namespace Go.Proofs.YtfnlddloalineaaGreatDoor
open Go.RowKit
set_option linter.unusedVariables false
def numOkR (l : List UInt8) : Value := if l.all isDig = true then .tuple #[.int .i64 (decVal l), .bool true] else .tuple #[.int .i64 0, .bool false]
def numI (l : List UInt8) : Int := if l.all isDig = true then (decVal l : Int) else -1
theorem decVal_step {l : List UInt8} {k : Nat} (hk : k < l.length) (hd : isDig (l.getD k 0) = true) : ((decVal (l.take (k + 1)) : Nat) : Int) = 10 * (decVal (l.take k) : Int) + (((l.getD k 0).toNat : Int) - 48) := by
  have e : l.take (k + 1) = l.take k ++ [l.getD k 0] := by
    rw [List.take_succ_eq_append_getElem hk, List.getD_eq_getElem?_getD, List.getElem?_eq_getElem hk]
    rfl
  rw [e, decVal_snoc]
  have := isDig_iff.1 hd
  omega
theorem decVal_4 {l : List UInt8} {k : Nat} (h : (l.take k).all isDig = true) (hk : k ≤ 4) : decVal (l.take k) ≤ 10000 := by
  have := decVal_lt h
  have h2 : (10 : Nat) ^ (l.take k).length ≤ 10 ^ 4 := Nat.pow_le_pow_right (by omega) (by rw [List.length_take]; omega)
  omega
set_option maxHeartbeats 2000000 in
theorem dnumber_any (l : List UInt8) (w : World) (hl : l.length ≤ 4) : Calls Tryz.prog 156 #[.string ⟨l.toArray⟩] w fun e w' => e = .returned (numOkR l) ∧ w = w' := by
  go_enter Tryz.func156, Tryz.ntmps156
  go_wp2_with fail
  go_loop [4, 8] (fun n i => ∃ k : Nat, k ≤ l.length ∧ i = .int .i64 (k : Int) ∧ n = .int .i64 (decVal (l.take k) : Int) ∧ (l.take k).all isDig = true) (fun _ i => l.length - (intOf i).toNat)
  case atStart => exact ⟨0, Nat.zero_le _, rfl, rfl, rfl⟩
  case round =>
    obtain ⟨k, hk, rfl, rfl, ha⟩ := hrel
    have HA := Lib.hid ha
    have hv := decVal_4 ha (by omega)
    clear ha
    by_cases hlt : k < l.length
    · have k1 : decide ((k : Int) < (l.length : Int)) = true := by rw [decide_eq_true_eq]; omega
      have b1 : (k : Int) < (l.length : Int) := by omega
      have b2 : (0 : Int) ≤ (k : Int) := by omega
      have hsz : k < (⟨l.toArray⟩ : ByteArray).size := by rw [mk_size]; exact hlt
      cases hd : isDig (l.getD k 0)
      · have F : Hid (numOkR l = .tuple #[.int .i64 0, .bool false]) := by
          show _ = _
          unfold numOkR
          rw [all_not_at hlt hd]
          rfl
        have hno := isDig_no hd
        rw [← mk_getD l k hsz] at hno
        have hlb : ((⟨l.toArray⟩ : ByteArray)[k]).toNat < 256 := ((⟨l.toArray⟩ : ByteArray)[k]).toNat_lt
        clear hd HA
        generalize decVal (l.take k) = V at *
        rcases hno with h | h
        · have q1 : decide ((((⟨l.toArray⟩ : ByteArray)[k]).toNat : Int) < 48) = true := by rw [decide_eq_true_eq]; omega
          go_wp2_with fail
          go_ret2
          exact ⟨by rw [F.out]; rfl, rfl⟩
        · have q1 : decide ((((⟨l.toArray⟩ : ByteArray)[k]).toNat : Int) < 48) = false := by rw [decide_eq_false_iff_not]; omega
          have q2 : decide (57 < (((⟨l.toArray⟩ : ByteArray)[k]).toNat : Int)) = true := by rw [decide_eq_true_eq]; omega
          go_wp2_with fail
          go_ret2
          exact ⟨by rw [F.out]; rfl, rfl⟩
      · have HS := Lib.hid (decVal_step hlt hd)
        have HA2 := Lib.hid (take_all_succ hlt HA.out hd)
        have hb := isDig_iff.1 hd
        rw [← mk_getD l k hsz] at HS hb
        have r1 : (48 : Int) ≤ (((⟨l.toArray⟩ : ByteArray)[k]).toNat : Int) := by omega
        have r2 : (((⟨l.toArray⟩ : ByteArray)[k]).toNat : Int) ≤ 57 := by omega
        have q1 : decide ((((⟨l.toArray⟩ : ByteArray)[k]).toNat : Int) < 48) = false := by rw [decide_eq_false_iff_not]; omega
        have q2 : decide (57 < (((⟨l.toArray⟩ : ByteArray)[k]).toNat : Int)) = false := by rw [decide_eq_false_iff_not]; omega
        clear hb hd HA
        generalize decVal (l.take k) = V at *
        have v1 : (0 : Int) ≤ (V : Int) := by omega
        have v2 : (V : Int) ≤ 10000 := by omega
        go_wp2_with fail
        go_round
        case rel => exact ⟨k + 1, by omega, by go_num, by rw [HS.out], HA2.out⟩
        case measure => simp [intOf]; omega
    · have k1 : decide ((k : Int) < (l.length : Int)) = false := by rw [decide_eq_false_iff_not]; omega
      have F : Hid (numOkR l = .tuple #[.int .i64 (decVal (l.take k) : Int), .bool true]) := by
        show _ = _
        have := HA.out
        have e : l.take k = l := List.take_of_length_le (by omega)
        rw [e] at this ⊢
        unfold numOkR
        rw [if_pos this]
      generalize decVal (l.take k) = V at *
      go_wp2_with fail
      go_ret2
      exact ⟨by rw [F.out]; rfl, rfl⟩
set_option maxHeartbeats 2000000 in
theorem refDnumber_any (l : List UInt8) (w : World) (hl : l.length ≤ 4) : Calls Tryz.prog 129 #[.string ⟨l.toArray⟩] w fun e w' => e = .returned (.int .i64 (numI l)) ∧ w' = w := by
  go_enter Tryz.func129, Tryz.ntmps129
  go_wp2_with fail
  go_loop [3, 4] (fun n i => ∃ k : Nat, k ≤ l.length ∧ i = .int .i64 (k : Int) ∧ n = .int .i64 (decVal (l.take k) : Int) ∧ (l.take k).all isDig = true) (fun _ i => l.length - (intOf i).toNat)
  case atStart => exact ⟨0, Nat.zero_le _, rfl, rfl, rfl⟩
  case round =>
    obtain ⟨k, hk, rfl, rfl, ha⟩ := hrel
    have HA := Lib.hid ha
    have hv := decVal_4 ha (by omega)
    clear ha
    by_cases hlt : k < l.length
    · have k1 : decide ((k : Int) < (l.length : Int)) = true := by rw [decide_eq_true_eq]; omega
      have b1 : (k : Int) < (l.length : Int) := by omega
      have b2 : (0 : Int) ≤ (k : Int) := by omega
      have hsz : k < (⟨l.toArray⟩ : ByteArray).size := by rw [mk_size]; exact hlt
      cases hd : isDig (l.getD k 0)
      · have F : Hid (numI l = -1) := by
          show _ = _
          unfold numI
          rw [all_not_at hlt hd]
          rfl
        have hno := isDig_no hd
        rw [← mk_getD l k hsz] at hno
        have hlb : ((⟨l.toArray⟩ : ByteArray)[k]).toNat < 256 := ((⟨l.toArray⟩ : ByteArray)[k]).toNat_lt
        clear hd HA
        generalize decVal (l.take k) = V at *
        rcases hno with h | h
        · have q1 : decide ((((⟨l.toArray⟩ : ByteArray)[k]).toNat : Int) < 48) = true := by rw [decide_eq_true_eq]; omega
          go_wp2_with fail
          go_ret
          exact ⟨by rw [F.out]; rfl, rfl⟩
        · have q1 : decide ((((⟨l.toArray⟩ : ByteArray)[k]).toNat : Int) < 48) = false := by rw [decide_eq_false_iff_not]; omega
          have q2 : decide (57 < (((⟨l.toArray⟩ : ByteArray)[k]).toNat : Int)) = true := by rw [decide_eq_true_eq]; omega
          go_wp2_with fail
          go_ret
          exact ⟨by rw [F.out]; rfl, rfl⟩
      · have HS := Lib.hid (decVal_step hlt hd)
        have HA2 := Lib.hid (take_all_succ hlt HA.out hd)
        have hb := isDig_iff.1 hd
        rw [← mk_getD l k hsz] at HS hb
        have r1 : (48 : Int) ≤ (((⟨l.toArray⟩ : ByteArray)[k]).toNat : Int) := by omega
        have r2 : (((⟨l.toArray⟩ : ByteArray)[k]).toNat : Int) ≤ 57 := by omega
        have q1 : decide ((((⟨l.toArray⟩ : ByteArray)[k]).toNat : Int) < 48) = false := by rw [decide_eq_false_iff_not]; omega
        have q2 : decide (57 < (((⟨l.toArray⟩ : ByteArray)[k]).toNat : Int)) = false := by rw [decide_eq_false_iff_not]; omega
        clear hb hd HA
        generalize decVal (l.take k) = V at *
        have v1 : (0 : Int) ≤ (V : Int) := by omega
        have v2 : (V : Int) ≤ 10000 := by omega
        go_wp2_with fail
        go_round
        case rel => exact ⟨k + 1, by omega, by go_num, by rw [HS.out], HA2.out⟩
        case measure => simp [intOf]; omega
    · have k1 : decide ((k : Int) < (l.length : Int)) = false := by rw [decide_eq_false_iff_not]; omega
      have F : Hid (numI l = (decVal (l.take k) : Int)) := by
        show _ = _
        have := HA.out
        have e : l.take k = l := List.take_of_length_le (by omega)
        rw [e] at this ⊢
        unfold numI
        rw [if_pos this]
      generalize decVal (l.take k) = V at *
      go_wp2_with fail
      go_ret
      exact ⟨by rw [F.out]; rfl, rfl⟩
/-- a text of the form of a date: ten bytes, two signs -/
def datF (s : List UInt8) : Bool := decide (s.length = 10) && ((s.getD 4 0 == 45) && (s.getD 7 0 == 45))
def datD (s : List UInt8) : Bool := (s.take 4).all isDig && (((s.take 7).drop 5).all isDig && (s.drop 8).all isDig)
def datR (s : List UInt8) : Value := if (datF s && datD s) = true then ofR (decVal (s.take 4)) (decVal ((s.take 7).drop 5)) (decVal (s.drop 8)) else .tuple #[.int .i64 0, .int .i64 3]
theorem datR_no {s : List UInt8} (h : (datF s && datD s) = false) : datR s = .tuple #[.int .i64 0, .int .i64 3] := by unfold datR; rw [h]; rfl
theorem datR_yes {s : List UInt8} (h : (datF s && datD s) = true) : datR s = ofR (decVal (s.take 4)) (decVal ((s.take 7).drop 5)) (decVal (s.drop 8)) := by unfold datR; rw [if_pos h]
end Go.Proofs.YtfnlddloalineaaGreatDoor
