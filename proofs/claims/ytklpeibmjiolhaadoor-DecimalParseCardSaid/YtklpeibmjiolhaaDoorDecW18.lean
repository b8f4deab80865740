/-
  The reference's digits.
-/
import Derived.Test.YtklpeibmjiolhaaDoorDecW16
namespace Go.Proofs.YtklpeibmjiolhaaDoor
open Go.RowKit
set_option linter.unusedVariables false
set_option maxHeartbeats 2000000 in
theorem refDig_any (l : List UInt8) (w : World) (hl : l.length ≤ 60) :
    Calls Tryd.prog 65 #[.string ⟨l.toArray⟩] w fun e w' => e = .returned (.int .i64 (runL isDig l)) ∧ w = w' := by
  go_enter Tryd.func65, Tryd.ntmps65
  go_wp2_with fail
  go_loop [3] (fun i => ∃ k : Nat, k ≤ l.length ∧ i = .int .i64 k ∧ (l.take k).all isDig = true) (fun i => l.length - (intOf i).toNat)
  case atStart => exact ⟨0, Nat.zero_le _, rfl, rfl⟩
  case round =>
    obtain ⟨k, hk, rfl, hd⟩ := hrel
    have HD := Lib.hid hd
    clear hd
    by_cases hlt : k < l.length
    · have hsz : k < (⟨l.toArray⟩ : ByteArray).size := by rw [mk_size]; exact hlt
      have hli : decide ((k : Int) < (l.length : Int)) = true := by rw [decide_eq_true_eq]; omega
      have hg := mk_getD l k hsz
      cases hc : isDig (l.getD k 0)
      · have F := Lib.hid (runL_eq hk HD.out (fun _ => hc))
        have hno := isDig_no hc
        rw [← hg] at hno
        clear hg hc
        rcases hno with g1 | g1
        · have g2 : decide (48 ≤ ((⟨l.toArray⟩ : ByteArray)[k].toNat : Int)) = false := by rw [decide_eq_false_iff_not]; omega
          clear g1
          go_wp2_with fail
          go_ret
          exact ⟨ret_int (by rw [F.out]), rfl⟩
        · have g2 : decide (48 ≤ ((⟨l.toArray⟩ : ByteArray)[k].toNat : Int)) = true := by rw [decide_eq_true_eq]; omega
          have g3 : decide (((⟨l.toArray⟩ : ByteArray)[k].toNat : Int) ≤ 57) = false := by rw [decide_eq_false_iff_not]; omega
          clear g1
          go_wp2_with fail
          go_ret
          exact ⟨ret_int (by rw [F.out]), rfl⟩
      · have h12 := isDig_iff.1 hc
        rw [← hg] at h12
        have g1 : decide (48 ≤ ((⟨l.toArray⟩ : ByteArray)[k].toNat : Int)) = true := by rw [decide_eq_true_eq]; omega
        have g2 : decide (((⟨l.toArray⟩ : ByteArray)[k].toNat : Int) ≤ 57) = true := by rw [decide_eq_true_eq]; omega
        have F := Lib.hid (take_all_succ hlt HD.out hc)
        clear hg hc h12
        go_wp2_with fail
        go_round
        case rel => exact ⟨k + 1, by omega, by go_num, F.out⟩
        case measure => simp [intOf]; omega
    · have hkn : k = l.length := by omega
      have hli : decide ((k : Int) < (l.length : Int)) = false := by rw [decide_eq_false_iff_not]; omega
      have F := Lib.hid (runL_eq hk HD.out (fun h => absurd h hlt))
      go_wp2_with fail
      go_ret
      exact ⟨ret_int (by rw [F.out]; omega), rfl⟩
end Go.Proofs.YtklpeibmjiolhaaDoor
