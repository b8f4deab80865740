/-
  The reference's Value and next.
-/
import Derived.Test.YtblpgdfjmkefkaaDoorTokW5
namespace Go.Proofs.YtblpgdfjmkefkaaDoor
open Go.RowKit
set_option linter.unusedVariables false
theorem dig_bad {t : List UInt8} {q : Nat} (hq : q < t.length) (h : isDig (t.getD q 0) = false) : isNum t = false := by
  unfold isNum; rw [all_not_at hq h]; rfl
set_option maxHeartbeats 1000000 in
theorem refValue_any (k : Int) (t : List UInt8) (fr : Int) (w : World) (ht : t.length ≤ 9000) :
    Calls Tryd.prog 16 #[.agg #[.int .i64 k, .string ⟨t.toArray⟩, .int .i64 fr]] w fun e w' => e = .returned (.tuple #[.int .i64 (vN k t), .bool (vB k t)]) ∧ Below w.heap.size w w' := by
  have hB := (Below.refl w.heap.size w).alloc (Nat.le_refl _) (.cells #[.int .i64 k, .string ⟨t.toArray⟩, .int .i64 fr] 40)
  have HB := Lib.hid hB
  clear hB
  cases hk : (k == 2)
  · have F := Lib.hid (vB_no (k := k) (t := t) (by unfold vB; rw [hk]; rfl))
    have hk' : (k != 2) = true := by rw [bne, hk]; rfl
    clear hk
    go_enter Tryd.func16, Tryd.ntmps16
    go_wp2_with fail
    go_ret2
    exact ⟨ret_ib F.out.1.symm F.out.2.symm, HB.out⟩
  · have hk' : (k != 2) = false := by rw [bne, hk]; rfl
    cases he : t.isEmpty
    · have hlen : 0 < t.length := by
        rcases Nat.eq_zero_or_pos t.length with h | h
        · rw [List.length_eq_zero_iff] at h; subst h; simp at he
        · exact h
      have he' : ((t.length : Int) == 0) = false := by rw [beq_eq_false_iff_ne]; omega
      have he2 : t ≠ [] := by intro h; subst h; simp at hlen
      have HK := Lib.hid hk
      have HE := Lib.hid he
      clear hk he
      go_enter Tryd.func16, Tryd.ntmps16
      go_wp2_with fail
      go_loop [4, 5] (fun n i => ∃ q : Nat, q ≤ t.length ∧ i = .int .i64 q ∧ n = .int .i64 ((decVal (t.take q) : Nat) : Int) ∧ decVal (t.take q) ≤ 1000000000000 ∧ (t.take q).all isDig = true) (fun _ i => t.length - (intOf i).toNat)
      case atStart => exact ⟨0, by omega, rfl, rfl, by simp [decVal], rfl⟩
      case round =>
        obtain ⟨q, hq, rfl, rfl, hm, hal⟩ := hrel
        have HA := Lib.hid hal
        clear hal
        by_cases hlt : q < t.length
        · have hsz : q < (⟨t.toArray⟩ : ByteArray).size := by rw [mk_size]; exact hlt
          have qd := digI_mk t q hsz
          cases hd : isDig (t.getD q 0)
          · have F := Lib.hid (vB_no (k := k) (t := t) (by unfold vB; rw [valOk_num (dig_bad hlt hd), Bool.and_false]))
            rw [hd] at qd
            clear hd hm
            generalize decVal (t.take q) = m at *
            go_wp2_with fail
            refine (refDigit_any _ _).mono ?_
            rintro e wx ⟨rfl, rfl⟩
            rw [qd]
            go_wp2_with fail
            go_ret2
            exact ⟨ret_ib F.out.1.symm F.out.2.symm, HB.out⟩
          · have hst := decVal_step hlt hd
            have hbd := isDig_iff.1 hd
            have HA2 := Lib.hid (take_all_succ hlt HA.out hd)
            rw [hd] at qd
            rw [← mk_getD t q hsz] at hst hbd
            obtain ⟨r, hr⟩ : ∃ r : Int, r = ((⟨t.toArray⟩ : ByteArray)[q]'hsz).toNat := ⟨_, rfl⟩
            have r1 : (48 : Int) ≤ (((⟨t.toArray⟩ : ByteArray)[q]'hsz).toNat : Int) := by omega
            have r2 : (((⟨t.toArray⟩ : ByteArray)[q]'hsz).toNat : Int) ≤ 57 := by omega
            clear hbd hd
            generalize hM : decVal (t.take q) = m at *
            have HST := Lib.hid hst
            clear hst hM hr
            have hm0 : (0 : Int) ≤ (m : Int) := by omega
            have hm1 : (m : Int) ≤ 1000000000000 := by omega
            by_cases hbig : 1000000000000 < 10 * (m : Int) + ((((⟨t.toArray⟩ : ByteArray)[q]'hsz).toNat : Int) - 48)
            · have F := Lib.hid (vB_no (k := k) (t := t) (by unfold vB; rw [valOk_big (l := t) (k := q + 1) (by have := HST.out; omega), Bool.and_false]))
              go_wp2_with fail
              refine (refDigit_any _ _).mono ?_
              rintro e wx ⟨rfl, rfl⟩
              rw [qd]
              go_wp2_with fail
              go_ret2
              exact ⟨ret_ib F.out.1.symm F.out.2.symm, HB.out⟩
            · have hb2 : decide (1000000000000 < 10 * (m : Int) + ((((⟨t.toArray⟩ : ByteArray)[q]'hsz).toNat : Int) - 48)) = false := by rw [decide_eq_false_iff_not]; exact hbig
              go_wp2_with fail
              refine (refDigit_any _ _).mono ?_
              rintro e wx ⟨rfl, rfl⟩
              rw [qd]
              go_wp2_with fail
              go_round
              case rel => exact ⟨q + 1, by omega, by go_num, by rw [HST.out], by have := HST.out; omega, HA2.out⟩
              case measure => simp [intOf]; omega
        · have F : Hid (((decVal (t.take q) : Nat) : Int) = vN k t ∧ true = vB k t) := by
            show _ ∧ _
            have e : t.take q = t := List.take_of_length_le (by omega)
            have HA' := HA.out
            rw [e] at hm HA' ⊢
            have : vB k t = true := by unfold vB; rw [HK.out, valOk_yes (isNum_parts.2 ⟨HA', HE.out⟩) hm]; rfl
            unfold vN
            rw [this]
            exact ⟨rfl, rfl⟩
          generalize decVal (t.take q) = m at *
          go_wp2_with fail
          go_ret2
          exact ⟨ret_ib F.out.1 F.out.2, HB.out⟩
    · obtain rfl : t = [] := by simpa using he
      have F := Lib.hid (vB_no (k := k) (t := []) (by unfold vB; rw [hk]; rfl))
      clear hk he
      go_enter Tryd.func16, Tryd.ntmps16
      go_wp2_with fail
      go_ret2
      exact ⟨ret_ib F.out.1.symm F.out.2.symm, HB.out⟩
end Go.Proofs.YtblpgdfjmkefkaaDoor
