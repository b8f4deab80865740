/-
  currency, letter, name, based of both.
-/
import Derived.Test.YtcmmppkmkejniaaGreatDoorGvMem
import Derived.Test.YtcmmppkmkejniaaGreatDoorBlSt
import Derived.Test.YtcmmppkmkejniaaGreatDoorBytes
import Derived.LoopTactic
import Derived.Laws.IdiomStrings
namespace Go.Proofs.YtcmmppkmkejniaaGreatDoor
open Go.RowKit
set_option linter.unusedVariables false
theorem rangeA_step {f : Nat → Bool} {k : Nat} (h : (List.range k).all f = true) (h' : f k = true) : (List.range (k + 1)).all f = true := by
  rw [List.range_succ, List.all_append, h]; simp [h']
theorem rangeA_no {f : Nat → Bool} {k n : Nat} (hk : k < n) (h : f k = false) : (List.range n).all f = false := by
  rw [List.all_eq_false]
  exact ⟨k, List.mem_range.2 hk, by rw [h]; simp⟩
theorem curAt_iff {s : List UInt8} {i : Nat} : curAt s i = true ↔ 65 ≤ (s.getD i 0).toNat ∧ (s.getD i 0).toNat ≤ 90 := by
  unfold curAt
  simp only [Bool.and_eq_true, decide_eq_true_eq, UInt8.le_iff_toNat_le]
  exact Iff.rfl
theorem curAt_no {s : List UInt8} {i : Nat} (h : curAt s i = false) : (s.getD i 0).toNat < 65 ∨ 90 < (s.getD i 0).toNat := by
  rcases Nat.lt_or_ge (s.getD i 0).toNat 65 with h1 | h1
  · exact .inl h1
  · rcases Nat.lt_or_ge 90 (s.getD i 0).toNat with h2 | h2
    · exact .inr h2
    · rw [curAt_iff.2 ⟨h1, h2⟩] at h; cases h
theorem curOk_no {s : List UInt8} {k : Nat} (hk : k < s.length) (h : curAt s k = false) : curOk s = false := by unfold curOk; rw [rangeA_no hk h]; rfl
theorem letB_iff {b : UInt8} : letB b = true ↔ (97 ≤ b.toNat ∧ b.toNat ≤ 122) ∨ (65 ≤ b.toNat ∧ b.toNat ≤ 90) := by
  unfold letB
  simp only [Bool.or_eq_true, Bool.and_eq_true, decide_eq_true_eq, UInt8.le_iff_toNat_le]
  exact Iff.rfl
theorem letB_no {b : UInt8} (h : ¬ ((97 ≤ b.toNat ∧ b.toNat ≤ 122) ∨ (65 ≤ b.toNat ∧ b.toNat ≤ 90))) : letB b = false := by
  cases e : letB b
  · rfl
  · exact absurd (letB_iff.1 e) h
theorem nmAt_iff {s : List UInt8} {i : Nat} : nmAt s i = true ↔ letB (s.getD i 0) = true ∨ (i ≠ 0 ∧ ((s.getD i 0).toNat = 45 ∨ (48 ≤ (s.getD i 0).toNat ∧ (s.getD i 0).toNat ≤ 57))) := by
  unfold nmAt
  simp only [Bool.or_eq_true, Bool.and_eq_true, decide_eq_true_eq, UInt8.le_iff_toNat_le, beq_iff_eq]
  have e : (s.getD i 0 = 45) ↔ (s.getD i 0).toNat = 45 := by
    constructor
    · intro h; rw [h]; rfl
    · intro h; exact UInt8.toNat_inj.1 h
  rw [e]
  exact Iff.rfl
theorem nmAt_no {s : List UInt8} {i : Nat} (h : ¬ (letB (s.getD i 0) = true ∨ (i ≠ 0 ∧ ((s.getD i 0).toNat = 45 ∨ (48 ≤ (s.getD i 0).toNat ∧ (s.getD i 0).toNat ≤ 57))))) : nmAt s i = false := by
  cases e : nmAt s i
  · rfl
  · exact absurd (nmAt_iff.1 e) h
theorem nmOk_no {s : List UInt8} {k : Nat} (hk : k < s.length) (h : nmAt s k = false) : nmOk s = false := by unfold nmOk; rw [rangeA_no hk h]; rfl
set_option maxRecDepth 100000 in
set_option maxHeartbeats 2000000 in
theorem cur_any (l : List UInt8) (w : World) (hl : l.length ≤ 9223372036854775807) : Calls Tryz.prog 60 #[.string ⟨l.toArray⟩] w fun e w' => e = .returned (.bool (curOk l)) ∧ w = w' := by
  generalize hgo : curOk l = ok
  have HG := Lib.hid hgo.symm
  clear hgo
  go_enter Tryz.func60, Tryz.ntmps60
  go_wp2_with fail
  go_loop [6] (fun i => ∃ k : Nat, k ≤ l.length ∧ i = .int .i64 (k : Int) ∧ (List.range k).all (curAt l) = true) (fun i => l.length - (intOf i).toNat)
  case atStart => exact ⟨0, Nat.zero_le _, rfl, rfl⟩
  case round =>
    obtain ⟨k, hk, rfl, ha⟩ := hrel
    have HA := Lib.hid ha
    clear ha
    by_cases hlt : k < l.length
    · have k1 : decide ((k : Int) < (l.length : Int)) = true := by rw [decide_eq_true_eq]; omega
      have b1 : (k : Int) < (l.length : Int) := by omega
      have b2 : (0 : Int) ≤ (k : Int) := by omega
      have hsz : k < (⟨l.toArray⟩ : ByteArray).size := by rw [mk_size]; exact hlt
      cases hd : curAt l k
      · have F := Lib.hid (curOk_no hlt hd)
        have hno := curAt_no hd
        rw [← mk_getD l k hsz] at hno
        clear hd HA
        rcases hno with h | h
        · have q1 : decide ((((⟨l.toArray⟩ : ByteArray)[k]).toNat : Int) < 65) = true := by rw [decide_eq_true_eq]; omega
          go_wp2_with fail
          go_ret
          exact ⟨ret_bool (by rw [HG.out, F.out]), rfl⟩
        · have q1 : decide ((((⟨l.toArray⟩ : ByteArray)[k]).toNat : Int) < 65) = false := by rw [decide_eq_false_iff_not]; omega
          have q2 : decide (90 < (((⟨l.toArray⟩ : ByteArray)[k]).toNat : Int)) = true := by rw [decide_eq_true_eq]; omega
          go_wp2_with fail
          go_ret
          exact ⟨ret_bool (by rw [HG.out, F.out]), rfl⟩
      · have F := Lib.hid (rangeA_step HA.out hd)
        have hb := curAt_iff.1 hd
        rw [← mk_getD l k hsz] at hb
        have r1 : (65 : Int) ≤ (((⟨l.toArray⟩ : ByteArray)[k]).toNat : Int) := by omega
        have r2 : (((⟨l.toArray⟩ : ByteArray)[k]).toNat : Int) ≤ 90 := by omega
        have q1 : decide ((((⟨l.toArray⟩ : ByteArray)[k]).toNat : Int) < 65) = false := by rw [decide_eq_false_iff_not]; omega
        have q2 : decide (90 < (((⟨l.toArray⟩ : ByteArray)[k]).toNat : Int)) = false := by rw [decide_eq_false_iff_not]; omega
        clear hb hd HA
        go_wp2_with fail
        go_round
        case rel => exact ⟨k + 1, by omega, by go_num, F.out⟩
        case measure => simp [intOf]; omega
    · have k1 : decide ((k : Int) < (l.length : Int)) = false := by rw [decide_eq_false_iff_not]; omega
      have F : Hid (curOk l = (l.length == 3)) := by
        show _ = _
        unfold curOk
        rw [show l.length = k by omega, HA.out]; simp
      go_wp2_with fail
      go_ret
      exact ⟨ret_bool (by rw [HG.out, F.out]; first | rfl | (rw [Bool.eq_iff_iff, beq_iff_eq, beq_iff_eq]; omega)), rfl⟩
set_option maxRecDepth 100000 in
set_option maxHeartbeats 2000000 in
theorem rcur_any (l : List UInt8) (w : World) (hl : l.length ≤ 9223372036854775807) : Calls Tryz.prog 36 #[.string ⟨l.toArray⟩] w fun e w' => e = .returned (.bool (curOk l)) ∧ w = w' := by
  generalize hgo : curOk l = ok
  have HG := Lib.hid hgo.symm
  clear hgo
  go_enter Tryz.func36, Tryz.ntmps36
  go_wp2_with fail
  go_loop [3] (fun i => ∃ k : Nat, k ≤ l.length ∧ i = .int .i64 (k : Int) ∧ (List.range k).all (curAt l) = true) (fun i => l.length - (intOf i).toNat)
  case atStart => exact ⟨0, Nat.zero_le _, rfl, rfl⟩
  case round =>
    obtain ⟨k, hk, rfl, ha⟩ := hrel
    have HA := Lib.hid ha
    clear ha
    by_cases hlt : k < l.length
    · have k1 : decide ((k : Int) < (l.length : Int)) = true := by rw [decide_eq_true_eq]; omega
      have b1 : (k : Int) < (l.length : Int) := by omega
      have b2 : (0 : Int) ≤ (k : Int) := by omega
      have hsz : k < (⟨l.toArray⟩ : ByteArray).size := by rw [mk_size]; exact hlt
      cases hd : curAt l k
      · have F := Lib.hid (curOk_no hlt hd)
        have hno := curAt_no hd
        rw [← mk_getD l k hsz] at hno
        clear hd HA
        rcases hno with h | h
        · have q1 : decide ((((⟨l.toArray⟩ : ByteArray)[k]).toNat : Int) < 65) = true := by rw [decide_eq_true_eq]; omega
          go_wp2_with fail
          go_ret
          exact ⟨ret_bool (by rw [HG.out, F.out]), rfl⟩
        · have q1 : decide ((((⟨l.toArray⟩ : ByteArray)[k]).toNat : Int) < 65) = false := by rw [decide_eq_false_iff_not]; omega
          have q2 : decide (90 < (((⟨l.toArray⟩ : ByteArray)[k]).toNat : Int)) = true := by rw [decide_eq_true_eq]; omega
          go_wp2_with fail
          go_ret
          exact ⟨ret_bool (by rw [HG.out, F.out]), rfl⟩
      · have F := Lib.hid (rangeA_step HA.out hd)
        have hb := curAt_iff.1 hd
        rw [← mk_getD l k hsz] at hb
        have r1 : (65 : Int) ≤ (((⟨l.toArray⟩ : ByteArray)[k]).toNat : Int) := by omega
        have r2 : (((⟨l.toArray⟩ : ByteArray)[k]).toNat : Int) ≤ 90 := by omega
        have q1 : decide ((((⟨l.toArray⟩ : ByteArray)[k]).toNat : Int) < 65) = false := by rw [decide_eq_false_iff_not]; omega
        have q2 : decide (90 < (((⟨l.toArray⟩ : ByteArray)[k]).toNat : Int)) = false := by rw [decide_eq_false_iff_not]; omega
        clear hb hd HA
        go_wp2_with fail
        go_round
        case rel => exact ⟨k + 1, by omega, by go_num, F.out⟩
        case measure => simp [intOf]; omega
    · have k1 : decide ((k : Int) < (l.length : Int)) = false := by rw [decide_eq_false_iff_not]; omega
      have F : Hid (curOk l = (l.length == 3)) := by
        show _ = _
        unfold curOk
        rw [show l.length = k by omega, HA.out]; simp
      go_wp2_with fail
      go_ret
      exact ⟨ret_bool (by rw [HG.out, F.out]; first | rfl | (rw [Bool.eq_iff_iff, beq_iff_eq, beq_iff_eq]; omega)), rfl⟩
set_option maxHeartbeats 1000000 in
theorem let_any (b : UInt8) (w : World) : Calls Tryz.prog 109 #[.int .u8 (b.toNat : Int)] w fun e w' => e = .returned (.bool (letB b)) ∧ w = w' := by
  generalize hgo : letB b = ok
  have HG := Lib.hid hgo.symm
  clear hgo
  by_cases h1 : 97 ≤ b.toNat
  · by_cases h2 : b.toNat ≤ 122
    · skip
      have q0 : decide (97 ≤ (b.toNat : Int)) = true := by rw [decide_eq_true_eq]; omega
      have q1 : decide ((b.toNat : Int) ≤ 122) = true := by rw [decide_eq_true_eq]; omega
      have F : Hid (letB b = true) := letB_iff.2 (by omega)
      go_enter Tryz.func109, Tryz.ntmps109
      go_wp2_with fail
      go_ret
      exact ⟨ret_bool (by rw [HG.out, F.out]), rfl⟩
    · skip
      have q0 : decide (97 ≤ (b.toNat : Int)) = true := by rw [decide_eq_true_eq]; omega
      have q1 : decide ((b.toNat : Int) ≤ 122) = false := by rw [decide_eq_false_iff_not]; omega
      have q2 : decide (65 ≤ (b.toNat : Int)) = true := by rw [decide_eq_true_eq]; omega
      have q3 : decide ((b.toNat : Int) ≤ 90) = false := by rw [decide_eq_false_iff_not]; omega
      have F : Hid (letB b = false) := letB_no (by omega)
      go_enter Tryz.func109, Tryz.ntmps109
      go_wp2_with fail
      go_ret
      exact ⟨ret_bool (by rw [HG.out, F.out]), rfl⟩
  · by_cases h3 : 65 ≤ b.toNat
    · by_cases h4 : b.toNat ≤ 90
      · skip
        have q0 : decide (97 ≤ (b.toNat : Int)) = false := by rw [decide_eq_false_iff_not]; omega
        have q1 : decide (65 ≤ (b.toNat : Int)) = true := by rw [decide_eq_true_eq]; omega
        have q2 : decide ((b.toNat : Int) ≤ 90) = true := by rw [decide_eq_true_eq]; omega
        have F : Hid (letB b = true) := letB_iff.2 (by omega)
        go_enter Tryz.func109, Tryz.ntmps109
        go_wp2_with fail
        go_ret
        exact ⟨ret_bool (by rw [HG.out, F.out]), rfl⟩
      · skip
        have q0 : decide (97 ≤ (b.toNat : Int)) = false := by rw [decide_eq_false_iff_not]; omega
        have q1 : decide (65 ≤ (b.toNat : Int)) = true := by rw [decide_eq_true_eq]; omega
        have q2 : decide ((b.toNat : Int) ≤ 90) = false := by rw [decide_eq_false_iff_not]; omega
        have F : Hid (letB b = false) := letB_no (by omega)
        go_enter Tryz.func109, Tryz.ntmps109
        go_wp2_with fail
        go_ret
        exact ⟨ret_bool (by rw [HG.out, F.out]), rfl⟩
    · skip
      have q0 : decide (97 ≤ (b.toNat : Int)) = false := by rw [decide_eq_false_iff_not]; omega
      have q1 : decide (65 ≤ (b.toNat : Int)) = false := by rw [decide_eq_false_iff_not]; omega
      have F : Hid (letB b = false) := letB_no (by omega)
      go_enter Tryz.func109, Tryz.ntmps109
      go_wp2_with fail
      go_ret
      exact ⟨ret_bool (by rw [HG.out, F.out]), rfl⟩
set_option maxHeartbeats 1000000 in
theorem rlet_any (b : UInt8) (w : World) : Calls Tryz.prog 69 #[.int .u8 (b.toNat : Int)] w fun e w' => e = .returned (.bool (letB b)) ∧ w = w' := by
  generalize hgo : letB b = ok
  have HG := Lib.hid hgo.symm
  clear hgo
  by_cases h1 : 97 ≤ b.toNat
  · by_cases h2 : b.toNat ≤ 122
    · skip
      have q0 : decide (97 ≤ (b.toNat : Int)) = true := by rw [decide_eq_true_eq]; omega
      have q1 : decide ((b.toNat : Int) ≤ 122) = true := by rw [decide_eq_true_eq]; omega
      have F : Hid (letB b = true) := letB_iff.2 (by omega)
      go_enter Tryz.func69, Tryz.ntmps69
      go_wp2_with fail
      go_ret
      exact ⟨ret_bool (by rw [HG.out, F.out]), rfl⟩
    · skip
      have q0 : decide (97 ≤ (b.toNat : Int)) = true := by rw [decide_eq_true_eq]; omega
      have q1 : decide ((b.toNat : Int) ≤ 122) = false := by rw [decide_eq_false_iff_not]; omega
      have q2 : decide (65 ≤ (b.toNat : Int)) = true := by rw [decide_eq_true_eq]; omega
      have q3 : decide ((b.toNat : Int) ≤ 90) = false := by rw [decide_eq_false_iff_not]; omega
      have F : Hid (letB b = false) := letB_no (by omega)
      go_enter Tryz.func69, Tryz.ntmps69
      go_wp2_with fail
      go_ret
      exact ⟨ret_bool (by rw [HG.out, F.out]), rfl⟩
  · by_cases h3 : 65 ≤ b.toNat
    · by_cases h4 : b.toNat ≤ 90
      · skip
        have q0 : decide (97 ≤ (b.toNat : Int)) = false := by rw [decide_eq_false_iff_not]; omega
        have q1 : decide (65 ≤ (b.toNat : Int)) = true := by rw [decide_eq_true_eq]; omega
        have q2 : decide ((b.toNat : Int) ≤ 90) = true := by rw [decide_eq_true_eq]; omega
        have F : Hid (letB b = true) := letB_iff.2 (by omega)
        go_enter Tryz.func69, Tryz.ntmps69
        go_wp2_with fail
        go_ret
        exact ⟨ret_bool (by rw [HG.out, F.out]), rfl⟩
      · skip
        have q0 : decide (97 ≤ (b.toNat : Int)) = false := by rw [decide_eq_false_iff_not]; omega
        have q1 : decide (65 ≤ (b.toNat : Int)) = true := by rw [decide_eq_true_eq]; omega
        have q2 : decide ((b.toNat : Int) ≤ 90) = false := by rw [decide_eq_false_iff_not]; omega
        have F : Hid (letB b = false) := letB_no (by omega)
        go_enter Tryz.func69, Tryz.ntmps69
        go_wp2_with fail
        go_ret
        exact ⟨ret_bool (by rw [HG.out, F.out]), rfl⟩
    · skip
      have q0 : decide (97 ≤ (b.toNat : Int)) = false := by rw [decide_eq_false_iff_not]; omega
      have q1 : decide (65 ≤ (b.toNat : Int)) = false := by rw [decide_eq_false_iff_not]; omega
      have F : Hid (letB b = false) := letB_no (by omega)
      go_enter Tryz.func69, Tryz.ntmps69
      go_wp2_with fail
      go_ret
      exact ⟨ret_bool (by rw [HG.out, F.out]), rfl⟩
set_option maxRecDepth 100000 in
set_option maxHeartbeats 4000000 in
theorem nm_any (l : List UInt8) (w : World) (hl : l.length ≤ 9223372036854775807) : Calls Tryz.prog 87 #[.string ⟨l.toArray⟩] w fun e w' => e = .returned (.bool (nmOk l)) ∧ w = w' := by
  generalize hgo : nmOk l = ok
  have HG := Lib.hid hgo.symm
  clear hgo
  go_enter Tryz.func87, Tryz.ntmps87
  go_wp2_with fail
  go_loop [7] (fun i => ∃ k : Nat, k ≤ l.length ∧ i = .int .i64 (k : Int) ∧ (List.range k).all (nmAt l) = true) (fun i => l.length - (intOf i).toNat)
  case atStart => exact ⟨0, Nat.zero_le _, rfl, rfl⟩
  case round =>
    obtain ⟨k, hk, rfl, ha⟩ := hrel
    have HA := Lib.hid ha
    clear ha
    by_cases hlt : k < l.length
    · have k1 : decide ((k : Int) < (l.length : Int)) = true := by rw [decide_eq_true_eq]; omega
      have b1 : (k : Int) < (l.length : Int) := by omega
      have b2 : (0 : Int) ≤ (k : Int) := by omega
      have hsz : k < (⟨l.toArray⟩ : ByteArray).size := by rw [mk_size]; exact hlt
      have HLE : Hid (∀ w : World, Calls Tryz.prog 109 #[.int .u8 (((⟨l.toArray⟩ : ByteArray)[k]).toNat : Int)] w fun e w' => e = .returned (.bool (letB (⟨l.toArray⟩ : ByteArray)[k])) ∧ w = w') := fun w => let_any _ w
      have hgd := mk_getD l k hsz
      have HMG : Hid ((⟨l.toArray⟩ : ByteArray)[k] = l.getD k 0) := hgd
      clear hgd
      cases hb : letB (⟨l.toArray⟩ : ByteArray)[k]
      · have HLB := Lib.hid hb
        have HLG : Hid (letB (l.getD k 0) = false) := by show _ = _; rw [← HMG.out]; exact hb
        clear hb
        have e0 : ((⟨l.toArray⟩ : ByteArray)[k]).toNat = (l.getD k 0).toNat := by rw [HMG.out]
        by_cases hk0 : k = 0
        · have q0 : ((k : Int) == 0) = true := by rw [beq_iff_eq]; omega
          have q0' : (k == 0) = true := by rw [beq_iff_eq]; omega
          have F : Hid (nmOk l = false) := nmOk_no hlt (nmAt_no (by rw [HLG.out]; rintro (h | ⟨h, h'⟩) <;> first | (cases h; done) | omega))
          clear e0 hk0
          go_wp2_with fail
          refine (HLE.out _).mono ?_
          rintro e wx ⟨rfl, rfl⟩
          rw [HLB.out]
          go_wp2_with fail
          go_ret
          exact ⟨ret_bool (by rw [HG.out, F.out]), rfl⟩
        · have q0 : ((k : Int) == 0) = false := by rw [beq_eq_false_iff_ne]; omega
          have q0' : (k == 0) = false := by rw [beq_eq_false_iff_ne]; omega
          by_cases h45 : (l.getD k 0).toNat = 45
          · have q1 : ((((⟨l.toArray⟩ : ByteArray)[k]).toNat : Int) != 45) = false := by rw [bne_eq_false_iff_eq]; omega
            have F : Hid ((List.range (k + 1)).all (nmAt l) = true) := rangeA_step HA.out (nmAt_iff.2 (.inr ⟨by omega, by omega⟩))
            clear e0 h45
            go_wp2_with fail
            refine (HLE.out _).mono ?_
            rintro e wx ⟨rfl, rfl⟩
            rw [HLB.out]
            go_wp2_with fail
            go_round
            case rel => exact ⟨k + 1, by omega, by go_num, F.out⟩
            case measure => simp [intOf]; omega
          · have q1 : ((((⟨l.toArray⟩ : ByteArray)[k]).toNat : Int) != 45) = true := by rw [bne_iff_ne]; omega
            by_cases h48 : (l.getD k 0).toNat < 48
            · have q2 : decide ((((⟨l.toArray⟩ : ByteArray)[k]).toNat : Int) < 48) = true := by rw [decide_eq_true_eq]; omega
              have F : Hid (nmOk l = false) := nmOk_no hlt (nmAt_no (by rw [HLG.out]; rintro (h | ⟨h, h'⟩) <;> first | (cases h; done) | omega))
              clear e0 h45 h48
              go_wp2_with fail
              refine (HLE.out _).mono ?_
              rintro e wx ⟨rfl, rfl⟩
              rw [HLB.out]
              go_wp2_with fail
              go_ret
              exact ⟨ret_bool (by rw [HG.out, F.out]), rfl⟩
            · have q2 : decide ((((⟨l.toArray⟩ : ByteArray)[k]).toNat : Int) < 48) = false := by rw [decide_eq_false_iff_not]; omega
              by_cases h57 : 57 < (l.getD k 0).toNat
              · have q3 : decide (57 < (((⟨l.toArray⟩ : ByteArray)[k]).toNat : Int)) = true := by rw [decide_eq_true_eq]; omega
                have F : Hid (nmOk l = false) := nmOk_no hlt (nmAt_no (by rw [HLG.out]; rintro (h | ⟨h, h'⟩) <;> first | (cases h; done) | omega))
                clear e0 h45 h48 h57
                go_wp2_with fail
                refine (HLE.out _).mono ?_
                rintro e wx ⟨rfl, rfl⟩
                rw [HLB.out]
                go_wp2_with fail
                go_ret
                exact ⟨ret_bool (by rw [HG.out, F.out]), rfl⟩
              · have q3 : decide (57 < (((⟨l.toArray⟩ : ByteArray)[k]).toNat : Int)) = false := by rw [decide_eq_false_iff_not]; omega
                have F : Hid ((List.range (k + 1)).all (nmAt l) = true) := rangeA_step HA.out (nmAt_iff.2 (.inr ⟨by omega, by omega⟩))
                clear e0 h45 h48 h57
                go_wp2_with fail
                refine (HLE.out _).mono ?_
                rintro e wx ⟨rfl, rfl⟩
                rw [HLB.out]
                go_wp2_with fail
                go_round
                case rel => exact ⟨k + 1, by omega, by go_num, F.out⟩
                case measure => simp [intOf]; omega
      · have HLB := Lib.hid hb
        have F : Hid ((List.range (k + 1)).all (nmAt l) = true) := rangeA_step HA.out (nmAt_iff.2 (.inl (by rw [← HMG.out]; exact hb)))
        clear hb
        go_wp2_with fail
        refine (HLE.out _).mono ?_
        rintro e wx ⟨rfl, rfl⟩
        rw [HLB.out]
        go_wp2_with fail
        go_round
        case rel => exact ⟨k + 1, by omega, by go_num, F.out⟩
        case measure => simp [intOf]; omega
    · have k1 : decide ((k : Int) < (l.length : Int)) = false := by rw [decide_eq_false_iff_not]; omega
      have F : Hid (nmOk l = (decide (1 ≤ l.length) && decide (l.length ≤ 16))) := by
        show _ = _
        unfold nmOk
        rw [show l.length = k by omega, HA.out]; simp
      by_cases h1 : 1 ≤ l.length
      · have q1 : decide ((1 : Int) ≤ (l.length : Int)) = true := by rw [decide_eq_true_eq]; omega
        have q1' : 1 ≤ l.length := h1
        have q1'' : 0 < l.length := h1
        by_cases h2 : l.length ≤ 16
        · have q2 : decide ((l.length : Int) ≤ 16) = true := by rw [decide_eq_true_eq]; omega
          have G : Hid ((decide (1 ≤ l.length) && decide (l.length ≤ 16)) = true) := by show _ = _; rw [decide_eq_true h1, decide_eq_true h2]; rfl
          go_wp2_with fail
          go_ret
          exact ⟨ret_bool (by rw [HG.out, F.out, G.out]), rfl⟩
        · have q2 : decide ((l.length : Int) ≤ 16) = false := by rw [decide_eq_false_iff_not]; omega
          have G : Hid ((decide (1 ≤ l.length) && decide (l.length ≤ 16)) = false) := by show _ = _; rw [decide_eq_false h2, Bool.and_false]
          go_wp2_with fail
          go_ret
          exact ⟨ret_bool (by rw [HG.out, F.out, G.out]), rfl⟩
      · have q1 : decide ((1 : Int) ≤ (l.length : Int)) = false := by rw [decide_eq_false_iff_not]; omega
        have q1' : ¬ 0 < l.length := h1
        have G : Hid ((decide (1 ≤ l.length) && decide (l.length ≤ 16)) = false) := by show _ = _; rw [decide_eq_false h1, Bool.false_and]
        go_wp2_with fail
        go_ret
        exact ⟨ret_bool (by rw [HG.out, F.out, G.out]), rfl⟩
set_option maxRecDepth 100000 in
set_option maxHeartbeats 4000000 in
theorem rnm_any (l : List UInt8) (w : World) (hl : l.length ≤ 9223372036854775807) : Calls Tryz.prog 42 #[.string ⟨l.toArray⟩] w fun e w' => e = .returned (.bool (nmOk l)) ∧ w = w' := by
  generalize hgo : nmOk l = ok
  have HG := Lib.hid hgo.symm
  clear hgo
  go_enter Tryz.func42, Tryz.ntmps42
  go_wp2_with fail
  go_loop [3] (fun i => ∃ k : Nat, k ≤ l.length ∧ i = .int .i64 (k : Int) ∧ (List.range k).all (nmAt l) = true) (fun i => l.length - (intOf i).toNat)
  case atStart => exact ⟨0, Nat.zero_le _, rfl, rfl⟩
  case round =>
    obtain ⟨k, hk, rfl, ha⟩ := hrel
    have HA := Lib.hid ha
    clear ha
    by_cases hlt : k < l.length
    · have k1 : decide ((k : Int) < (l.length : Int)) = true := by rw [decide_eq_true_eq]; omega
      have b1 : (k : Int) < (l.length : Int) := by omega
      have b2 : (0 : Int) ≤ (k : Int) := by omega
      have hsz : k < (⟨l.toArray⟩ : ByteArray).size := by rw [mk_size]; exact hlt
      have HLE : Hid (∀ w : World, Calls Tryz.prog 69 #[.int .u8 (((⟨l.toArray⟩ : ByteArray)[k]).toNat : Int)] w fun e w' => e = .returned (.bool (letB (⟨l.toArray⟩ : ByteArray)[k])) ∧ w = w') := fun w => rlet_any _ w
      have hgd := mk_getD l k hsz
      have HMG : Hid ((⟨l.toArray⟩ : ByteArray)[k] = l.getD k 0) := hgd
      clear hgd
      cases hb : letB (⟨l.toArray⟩ : ByteArray)[k]
      · have HLB := Lib.hid hb
        have HLG : Hid (letB (l.getD k 0) = false) := by show _ = _; rw [← HMG.out]; exact hb
        clear hb
        have e0 : ((⟨l.toArray⟩ : ByteArray)[k]).toNat = (l.getD k 0).toNat := by rw [HMG.out]
        by_cases hk0 : k = 0
        · have q0 : ((k : Int) == 0) = true := by rw [beq_iff_eq]; omega
          have q0' : (k == 0) = true := by rw [beq_iff_eq]; omega
          have F : Hid (nmOk l = false) := nmOk_no hlt (nmAt_no (by rw [HLG.out]; rintro (h | ⟨h, h'⟩) <;> first | (cases h; done) | omega))
          clear e0 hk0
          go_wp2_with fail
          refine (HLE.out _).mono ?_
          rintro e wx ⟨rfl, rfl⟩
          rw [HLB.out]
          go_wp2_with fail
          go_ret
          exact ⟨ret_bool (by rw [HG.out, F.out]), rfl⟩
        · have q0 : ((k : Int) == 0) = false := by rw [beq_eq_false_iff_ne]; omega
          have q0' : (k == 0) = false := by rw [beq_eq_false_iff_ne]; omega
          by_cases h45 : (l.getD k 0).toNat = 45
          · have q1 : ((((⟨l.toArray⟩ : ByteArray)[k]).toNat : Int) != 45) = false := by rw [bne_eq_false_iff_eq]; omega
            have F : Hid ((List.range (k + 1)).all (nmAt l) = true) := rangeA_step HA.out (nmAt_iff.2 (.inr ⟨by omega, by omega⟩))
            clear e0 h45
            go_wp2_with fail
            refine (HLE.out _).mono ?_
            rintro e wx ⟨rfl, rfl⟩
            rw [HLB.out]
            go_wp2_with fail
            go_round
            case rel => exact ⟨k + 1, by omega, by go_num, F.out⟩
            case measure => simp [intOf]; omega
          · have q1 : ((((⟨l.toArray⟩ : ByteArray)[k]).toNat : Int) != 45) = true := by rw [bne_iff_ne]; omega
            by_cases h48 : (l.getD k 0).toNat < 48
            · have q2 : decide ((((⟨l.toArray⟩ : ByteArray)[k]).toNat : Int) < 48) = true := by rw [decide_eq_true_eq]; omega
              have F : Hid (nmOk l = false) := nmOk_no hlt (nmAt_no (by rw [HLG.out]; rintro (h | ⟨h, h'⟩) <;> first | (cases h; done) | omega))
              clear e0 h45 h48
              go_wp2_with fail
              refine (HLE.out _).mono ?_
              rintro e wx ⟨rfl, rfl⟩
              rw [HLB.out]
              go_wp2_with fail
              go_ret
              exact ⟨ret_bool (by rw [HG.out, F.out]), rfl⟩
            · have q2 : decide ((((⟨l.toArray⟩ : ByteArray)[k]).toNat : Int) < 48) = false := by rw [decide_eq_false_iff_not]; omega
              by_cases h57 : 57 < (l.getD k 0).toNat
              · have q3 : decide (57 < (((⟨l.toArray⟩ : ByteArray)[k]).toNat : Int)) = true := by rw [decide_eq_true_eq]; omega
                have F : Hid (nmOk l = false) := nmOk_no hlt (nmAt_no (by rw [HLG.out]; rintro (h | ⟨h, h'⟩) <;> first | (cases h; done) | omega))
                clear e0 h45 h48 h57
                go_wp2_with fail
                refine (HLE.out _).mono ?_
                rintro e wx ⟨rfl, rfl⟩
                rw [HLB.out]
                go_wp2_with fail
                go_ret
                exact ⟨ret_bool (by rw [HG.out, F.out]), rfl⟩
              · have q3 : decide (57 < (((⟨l.toArray⟩ : ByteArray)[k]).toNat : Int)) = false := by rw [decide_eq_false_iff_not]; omega
                have F : Hid ((List.range (k + 1)).all (nmAt l) = true) := rangeA_step HA.out (nmAt_iff.2 (.inr ⟨by omega, by omega⟩))
                clear e0 h45 h48 h57
                go_wp2_with fail
                refine (HLE.out _).mono ?_
                rintro e wx ⟨rfl, rfl⟩
                rw [HLB.out]
                go_wp2_with fail
                go_round
                case rel => exact ⟨k + 1, by omega, by go_num, F.out⟩
                case measure => simp [intOf]; omega
      · have HLB := Lib.hid hb
        have F : Hid ((List.range (k + 1)).all (nmAt l) = true) := rangeA_step HA.out (nmAt_iff.2 (.inl (by rw [← HMG.out]; exact hb)))
        clear hb
        go_wp2_with fail
        refine (HLE.out _).mono ?_
        rintro e wx ⟨rfl, rfl⟩
        rw [HLB.out]
        go_wp2_with fail
        go_round
        case rel => exact ⟨k + 1, by omega, by go_num, F.out⟩
        case measure => simp [intOf]; omega
    · have k1 : decide ((k : Int) < (l.length : Int)) = false := by rw [decide_eq_false_iff_not]; omega
      have F : Hid (nmOk l = (decide (1 ≤ l.length) && decide (l.length ≤ 16))) := by
        show _ = _
        unfold nmOk
        rw [show l.length = k by omega, HA.out]; simp
      by_cases h1 : 1 ≤ l.length
      · have q1 : decide ((1 : Int) ≤ (l.length : Int)) = true := by rw [decide_eq_true_eq]; omega
        have q1' : 1 ≤ l.length := h1
        have q1'' : 0 < l.length := h1
        by_cases h2 : l.length ≤ 16
        · have q2 : decide ((l.length : Int) ≤ 16) = true := by rw [decide_eq_true_eq]; omega
          have G : Hid ((decide (1 ≤ l.length) && decide (l.length ≤ 16)) = true) := by show _ = _; rw [decide_eq_true h1, decide_eq_true h2]; rfl
          go_wp2_with fail
          go_ret
          exact ⟨ret_bool (by rw [HG.out, F.out, G.out]), rfl⟩
        · have q2 : decide ((l.length : Int) ≤ 16) = false := by rw [decide_eq_false_iff_not]; omega
          have G : Hid ((decide (1 ≤ l.length) && decide (l.length ≤ 16)) = false) := by show _ = _; rw [decide_eq_false h2, Bool.and_false]
          go_wp2_with fail
          go_ret
          exact ⟨ret_bool (by rw [HG.out, F.out, G.out]), rfl⟩
      · have q1 : decide ((1 : Int) ≤ (l.length : Int)) = false := by rw [decide_eq_false_iff_not]; omega
        have q1' : ¬ 0 < l.length := h1
        have G : Hid ((decide (1 ≤ l.length) && decide (l.length ≤ 16)) = false) := by show _ = _; rw [decide_eq_false h1, Bool.false_and]
        go_wp2_with fail
        go_ret
        exact ⟨ret_bool (by rw [HG.out, F.out, G.out]), rfl⟩
set_option maxRecDepth 100000 in
set_option maxHeartbeats 4000000 in
theorem based_any (a : SAcc) (w : World) : Calls Tryz.prog 84 #[accV a] w fun e w' => e = .returned (.bool (basedB a)) ∧ Below w.heap.size w w' := by
  obtain ⟨x0, x1, x2, x3⟩ := a
  unfold accV
  simp only []
  have HB0 := Lib.hid ((Below.refl w.heap.size w).alloc (Nat.le_refl _) (.cells #[.int .i64 x0, .int .i64 x1, .int .i64 x2, .int .i64 x3] 42))
  generalize hgo : basedB ⟨x0, x1, x2, x3⟩ = ok
  have HG := Lib.hid hgo.symm
  clear hgo
  by_cases h1 : x1 = 1
  · skip
    have q1 : (x1 == 1) = true := by rw [beq_iff_eq]; omega
    cases e1 : x2 == 1
    · cases e3 : x2 == 3
      all_goals
        have F : Hid (basedB ⟨x0, x1, x2, x3⟩ = ((x2 == 1) || (x2 == 3))) := by show _ = _; unfold basedB; simp only []; rw [if_pos (by omega)]
        rw [e1, e3] at F
        clear h1
        go_enter Tryz.func84, Tryz.ntmps84
        go_wp2_with fail
        go_ret
        exact ⟨ret_bool (HG.out.trans F.out).symm, HB0.out⟩
    · have F : Hid (basedB ⟨x0, x1, x2, x3⟩ = ((x2 == 1) || (x2 == 3))) := by show _ = _; unfold basedB; simp only []; rw [if_pos (by omega)]
      rw [e1] at F
      have HE := Lib.hid e1
      clear h1
      go_enter Tryz.func84, Tryz.ntmps84
      go_wp2_with fail
      go_ret
      exact ⟨ret_bool (HG.out.trans F.out).symm, HB0.out⟩
  · have q1 : (x1 == 1) = false := by rw [beq_eq_false_iff_ne]; omega
    by_cases h2 : x1 = 2
    · skip
      have q2 : (x1 == 2) = true := by rw [beq_iff_eq]; omega
      cases e1 : x2 == 1
      · cases e3 : x2 == 3
        all_goals
          have F : Hid (basedB ⟨x0, x1, x2, x3⟩ = ((x2 == 1) || (x2 == 3))) := by show _ = _; unfold basedB; simp only []; rw [if_pos (by omega)]
          rw [e1, e3] at F
          clear h1 h2
          go_enter Tryz.func84, Tryz.ntmps84
          go_wp2_with fail
          go_ret
          exact ⟨ret_bool (HG.out.trans F.out).symm, HB0.out⟩
      · have F : Hid (basedB ⟨x0, x1, x2, x3⟩ = ((x2 == 1) || (x2 == 3))) := by show _ = _; unfold basedB; simp only []; rw [if_pos (by omega)]
        rw [e1] at F
        have HE := Lib.hid e1
        clear h1 h2
        go_enter Tryz.func84, Tryz.ntmps84
        go_wp2_with fail
        go_ret
        exact ⟨ret_bool (HG.out.trans F.out).symm, HB0.out⟩
    · have q2 : (x1 == 2) = false := by rw [beq_eq_false_iff_ne]; omega
      by_cases h3 : x1 = 3
      · have q3 : (x1 == 3) = true := by rw [beq_iff_eq]; omega
        cases e3 : x2 == 3
        all_goals
          have F : Hid (basedB ⟨x0, x1, x2, x3⟩ = (x2 == 3)) := by show _ = _; unfold basedB; simp only []; rw [if_neg (by omega), if_pos h3]
          rw [e3] at F
          clear h1 h2 h3
          go_enter Tryz.func84, Tryz.ntmps84
          go_wp2_with fail
          go_ret
          exact ⟨ret_bool (HG.out.trans F.out).symm, HB0.out⟩
      · have q3 : (x1 == 3) = false := by rw [beq_eq_false_iff_ne]; omega
        cases e2 : x2 == 2
        all_goals
          have F : Hid (basedB ⟨x0, x1, x2, x3⟩ = (x2 == 2)) := by show _ = _; unfold basedB; simp only []; rw [if_neg (by omega), if_neg h3]
          rw [e2] at F
          clear h1 h2 h3
          go_enter Tryz.func84, Tryz.ntmps84
          go_wp2_with fail
          go_ret
          exact ⟨ret_bool (HG.out.trans F.out).symm, HB0.out⟩
set_option maxRecDepth 100000 in
set_option maxHeartbeats 4000000 in
theorem basis_any (a : SAcc) (w : World) : Calls Tryz.prog 39 #[accV a] w fun e w' => e = .returned (.bool (basedB a)) ∧ Below w.heap.size w w' := by
  obtain ⟨x0, x1, x2, x3⟩ := a
  unfold accV
  simp only []
  have HB0 := Lib.hid ((Below.refl w.heap.size w).alloc (Nat.le_refl _) (.cells #[.int .i64 x0, .int .i64 x1, .int .i64 x2, .int .i64 x3] 42))
  generalize hgo : basedB ⟨x0, x1, x2, x3⟩ = ok
  have HG := Lib.hid hgo.symm
  clear hgo
  by_cases h1 : x1 = 1
  · skip
    have q1 : (x1 == 1) = true := by rw [beq_iff_eq]; omega
    cases e1 : x2 == 1
    · cases e3 : x2 == 3
      all_goals
        have F : Hid (basedB ⟨x0, x1, x2, x3⟩ = ((x2 == 1) || (x2 == 3))) := by show _ = _; unfold basedB; simp only []; rw [if_pos (by omega)]
        rw [e1, e3] at F
        clear h1
        go_enter Tryz.func39, Tryz.ntmps39
        go_wp2_with fail
        go_ret
        exact ⟨ret_bool (HG.out.trans F.out).symm, HB0.out⟩
    · have F : Hid (basedB ⟨x0, x1, x2, x3⟩ = ((x2 == 1) || (x2 == 3))) := by show _ = _; unfold basedB; simp only []; rw [if_pos (by omega)]
      rw [e1] at F
      have HE := Lib.hid e1
      clear h1
      go_enter Tryz.func39, Tryz.ntmps39
      go_wp2_with fail
      go_ret
      exact ⟨ret_bool (HG.out.trans F.out).symm, HB0.out⟩
  · have q1 : (x1 == 1) = false := by rw [beq_eq_false_iff_ne]; omega
    by_cases h2 : x1 = 2
    · skip
      have q2 : (x1 == 2) = true := by rw [beq_iff_eq]; omega
      cases e1 : x2 == 1
      · cases e3 : x2 == 3
        all_goals
          have F : Hid (basedB ⟨x0, x1, x2, x3⟩ = ((x2 == 1) || (x2 == 3))) := by show _ = _; unfold basedB; simp only []; rw [if_pos (by omega)]
          rw [e1, e3] at F
          clear h1 h2
          go_enter Tryz.func39, Tryz.ntmps39
          go_wp2_with fail
          go_ret
          exact ⟨ret_bool (HG.out.trans F.out).symm, HB0.out⟩
      · have F : Hid (basedB ⟨x0, x1, x2, x3⟩ = ((x2 == 1) || (x2 == 3))) := by show _ = _; unfold basedB; simp only []; rw [if_pos (by omega)]
        rw [e1] at F
        have HE := Lib.hid e1
        clear h1 h2
        go_enter Tryz.func39, Tryz.ntmps39
        go_wp2_with fail
        go_ret
        exact ⟨ret_bool (HG.out.trans F.out).symm, HB0.out⟩
    · have q2 : (x1 == 2) = false := by rw [beq_eq_false_iff_ne]; omega
      by_cases h3 : x1 = 3
      · have q3 : (x1 == 3) = true := by rw [beq_iff_eq]; omega
        cases e3 : x2 == 3
        all_goals
          have F : Hid (basedB ⟨x0, x1, x2, x3⟩ = (x2 == 3)) := by show _ = _; unfold basedB; simp only []; rw [if_neg (by omega), if_pos h3]
          rw [e3] at F
          clear h1 h2 h3
          go_enter Tryz.func39, Tryz.ntmps39
          go_wp2_with fail
          go_ret
          exact ⟨ret_bool (HG.out.trans F.out).symm, HB0.out⟩
      · have q3 : (x1 == 3) = false := by rw [beq_eq_false_iff_ne]; omega
        cases e2 : x2 == 2
        all_goals
          have F : Hid (basedB ⟨x0, x1, x2, x3⟩ = (x2 == 2)) := by show _ = _; unfold basedB; simp only []; rw [if_neg (by omega), if_neg h3]
          rw [e2] at F
          clear h1 h2 h3
          go_enter Tryz.func39, Tryz.ntmps39
          go_wp2_with fail
          go_ret
          exact ⟨ret_bool (HG.out.trans F.out).symm, HB0.out⟩
end Go.Proofs.YtcmmppkmkejniaaGreatDoor
