/-
  Parsing amounts.
-/
import Derived.Test.YtaibaooebplehaaDoorMonW10
import Derived.Test.YtaibaooebplehaaDoorBytes
import Derived.LoopTactic
namespace Go.Proofs.YtaibaooebplehaaDoor
open Go.RowKit
set_option linter.unusedVariables false
theorem isNum_bad {l : List UInt8} {k : Nat} (hk : k < l.length) (h : isDig (l.getD k 0) = false) : isNum l = false := by
  unfold isNum; rw [all_not_at hk h]; rfl
theorem ret_bool {a b : Bool} (h : a = b) : Ending.returned (.bool a) = .returned (.bool b) := by rw [h]
theorem numeral_any (l : List UInt8) (w : World) (hl : l.length ≤ 9223372036854775806) : Calls Tryd.prog 36 #[.string ⟨l.toArray⟩] w fun e w' => e = .returned (.bool (isNum l)) ∧ w = w' := by
  go_enter Tryd.func36, Tryd.ntmps36
  go_wp2_with fail
  go_loop [3, 6] (fun _ i => ∃ k : Nat, k ≤ l.length ∧ i = .int .i64 k ∧ (l.take k).all isDig = true) (fun _ i => l.length - (intOf i).toNat)
  case atStart => exact ⟨0, Nat.zero_le _, rfl, rfl⟩
  case round =>
    obtain ⟨k, hk, rfl, hd⟩ := hrel
    have HD := Lib.hid hd
    clear hd
    by_cases hlt : k < l.length
    · have hsz : k < (⟨l.toArray⟩ : ByteArray).size := by rw [mk_size]; exact hlt
      have hg := mk_getD l k hsz
      cases hc : isDig (l.getD k 0)
      · have F := Lib.hid (isNum_bad hlt hc)
        have hno := isDig_no hc
        rw [← hg] at hno
        clear hg hc
        rcases hno with g1 | g1
        · have g2 : ((⟨l.toArray⟩ : ByteArray)[k].toNat : Int) < 48 := by omega
          clear g1
          go_wp2_with fail
          go_ret
          exact ⟨ret_bool F.out.symm, rfl⟩
        · have g2 : (57 : Int) < ((⟨l.toArray⟩ : ByteArray)[k].toNat : Int) := by omega
          have g3 : decide (((⟨l.toArray⟩ : ByteArray)[k].toNat : Int) < 48) = false := by rw [decide_eq_false_iff_not]; omega
          clear g1
          go_wp2_with fail
          go_ret
          exact ⟨ret_bool F.out.symm, rfl⟩
      · have h12 := isDig_iff.1 hc
        rw [← hg] at h12
        have g1 : (48 : Int) ≤ ((⟨l.toArray⟩ : ByteArray)[k].toNat : Int) := by omega
        have g2 : ((⟨l.toArray⟩ : ByteArray)[k].toNat : Int) ≤ 57 := by omega
        have F := Lib.hid (take_all_succ hlt HD.out hc)
        clear hg hc h12
        go_wp2_with fail
        go_round
        case rel => exact ⟨k + 1, by omega, by go_num, F.out⟩
        case measure => simp [intOf]; omega
    · have hkn : k = l.length := by omega
      have hT : l.all isDig = true := by have := HD.out; rwa [List.take_of_length_le (by omega)] at this
      have F : Hid (isNum l = !l.isEmpty) := by show _ = _; unfold isNum; rw [hT]; simp
      clear hkn hT
      go_wp2_with fail
      go_ret
      exact ⟨ret_bool (by rw [F.out]), rfl⟩
end Go.Proofs.YtaibaooebplehaaDoor
