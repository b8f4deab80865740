/-
  few.
-/
import Derived.Test.YtenlbjobjnpghaaDoorStFew
import Derived.Test.YtenlbjobjnpghaaDoorRep5
namespace Go.Proofs.YtenlbjobjnpghaaDoor
open Go.RowKit
set_option linter.unusedVariables false
def amtB (b : SBal) : Bool := decide (-1125899906842624 ≤ b.amt) && decide (b.amt ≤ 1125899906842624)
def fewL (bs : List SBal) (rs : List SRow) : Bool := bs.all amtB && (decide (bs.length ≤ 60) && fewB rs)
theorem fewL_iff {bs : List SBal} {rs : List SRow} : fewL bs rs = true ↔ smallB bs ∧ bs.length ≤ 60 ∧ fewB rs = true := by
  unfold fewL smallB amtB
  simp only [Bool.and_eq_true, List.all_eq_true, decide_eq_true_eq]
set_option maxRecDepth 100000 in
set_option maxHeartbeats 4000000 in
theorem fewL_any (bs : List SBal) (rs : List SRow) (A A' : Option Addr) (n c n' c' : Nat) (B : Nat) (w : World) (hr : Reads w B 2 A n (balsCells bs)) (hr' : Reads w B 5 A' n' (rowsCells rs)) (hn : n ≤ 9223372036854775807) (hn' : n' ≤ 9223372036854775807) :
    Calls Tryd.prog 10 #[.slice A n c, .slice A' n' c'] w fun e w' => e = .returned (.bool (fewL bs rs)) ∧ w = w' := by
  have HL := Lib.hid (bals_len hr)
  have HR := Lib.hid hr
  have HR' := Lib.hid hr'
  clear hr hr'
  go_enter Tryd.func10, Tryd.ntmps10
  go_wp2_with fail
  go_loop [8] (fun i => ∃ k : Nat, k ≤ n ∧ i = .int .i64 k ∧ (bs.take k).all amtB = true) (fun i => n - (intOf i).toNat)
  case atStart => exact ⟨0, Nat.zero_le _, rfl, by simp⟩
  case round =>
    obtain ⟨k, hk, rfl, hd⟩ := hrel
    have HD := Lib.hid hd
    clear hd
    by_cases hlt : k < n
    · have k3 : decide ((k : Int) < (n : Int)) = true := by rw [decide_eq_true_eq]; omega
      obtain ⟨ad, rfl, hab, c0, c1⟩ := HR.out.bal_at hlt
      have hkl : k < bs.length := by rw [HL.out]; exact hlt
      have e : bs.getD k default = bs[k] := by simp [List.getD, hkl]
      have HN : Hid (amtB (bs.getD k default) = false → fewL bs rs = false) := by
        show _ → _
        intro h
        unfold fewL
        have : bs.all amtB = false := by
          rw [List.all_eq_false]
          exact ⟨bs.getD k default, by rw [e]; exact List.getElem_mem hkl, by rw [h]; simp⟩
        rw [this]; rfl
      have HY : Hid (amtB (bs.getD k default) = true → (bs.take (k + 1)).all amtB = true) := by
        show _ → _
        intro h
        rw [List.take_succ_eq_append_getElem hkl, List.all_append, HD.out, ← e, List.all_cons, h]
        rfl
      clear e hkl
      generalize bs.getD k default = b at *
      obtain ⟨ac, am⟩ := b
      simp only [] at c0 c1
      by_cases h1 : 1125899906842624 < am
      · have d1 : decide (1125899906842624 < am) = true := by rw [decide_eq_true_eq]; exact h1
        have F := Lib.hid (HN.out (by unfold amtB; rw [decide_eq_false (show ¬ am ≤ 1125899906842624 by omega), Bool.and_false]))
        clear HN HY
        go_wp2_with fail
        go_ret
        exact ⟨ret_bool F.out.symm, rfl⟩
      have d1 : decide (1125899906842624 < am) = false := by rw [decide_eq_false_iff_not]; exact h1
      by_cases h2 : am < -1125899906842624
      · have d2 : decide (am < -1125899906842624) = true := by rw [decide_eq_true_eq]; exact h2
        have F := Lib.hid (HN.out (by unfold amtB; rw [decide_eq_false (show ¬ -1125899906842624 ≤ am by omega), Bool.false_and]))
        clear HN HY
        go_wp2_with fail
        go_ret
        exact ⟨ret_bool F.out.symm, rfl⟩
      have d2 : decide (am < -1125899906842624) = false := by rw [decide_eq_false_iff_not]; exact h2
      have F := Lib.hid (HY.out (by unfold amtB; rw [decide_eq_true (show -1125899906842624 ≤ am by omega), decide_eq_true (show am ≤ 1125899906842624 by omega)]; rfl))
      clear HN HY
      go_wp2_with fail
      go_round
      case rel => exact ⟨k + 1, by omega, by go_num, F.out⟩
      case measure => simp [intOf]; omega
    · have k3 : decide ((k : Int) < (n : Int)) = false := by rw [decide_eq_false_iff_not]; omega
      have hall : bs.all amtB = true := by
        have := HD.out
        rwa [List.take_of_length_le (by rw [HL.out]; omega)] at this
      by_cases h60 : n ≤ 60
      · have d6 : decide ((n : Int) ≤ 60) = true := by rw [decide_eq_true_eq]; omega
        have F : Hid (fewL bs rs = fewB rs) := by
          show _ = _
          unfold fewL
          rw [hall, decide_eq_true (show bs.length ≤ 60 by rw [HL.out]; exact h60)]; rfl
        clear hall
        go_wp2_with fail
        refine (few_any rs A' n' c' B _ HR'.out hn').mono ?_
        rintro e wx ⟨rfl, rfl⟩
        go_wp2_with fail
        go_ret
        exact ⟨ret_bool F.out.symm, rfl⟩
      · have d6 : decide ((n : Int) ≤ 60) = false := by rw [decide_eq_false_iff_not]; omega
        have F : Hid (fewL bs rs = false) := by
          show _ = _
          unfold fewL
          rw [hall, decide_eq_false (show ¬ bs.length ≤ 60 by rw [HL.out]; exact h60)]; rfl
        clear hall
        go_wp2_with fail
        go_ret
        exact ⟨ret_bool F.out.symm, rfl⟩
end Go.Proofs.YtenlbjobjnpghaaDoor
