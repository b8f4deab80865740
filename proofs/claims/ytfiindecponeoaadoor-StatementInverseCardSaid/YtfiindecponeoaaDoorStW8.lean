/-
  The laws StatementPrint and StatementBegins.
-/
import Derived.Test.YtfiindecponeoaaDoorStW7
namespace Go.Proofs.YtfiindecponeoaaDoor
open Go.RowKit
set_option linter.unusedVariables false
set_option maxRecDepth 100000 in
set_option maxHeartbeats 4000000 in
theorem lawPrint (rs : List SRow) (A : Option Addr) (n c : Nat) (w : World) (hE : Env w) (hr : Reads w w.heap.size 5 A n (rowsCells rs)) (hn63 : n ≤ 9223372036854775807) (hnc : n ≤ c) :
    Calls Tryd.prog 3 #[.slice A n c] w fun e w' => e = .returned (.bool true) ∧ Below w.heap.size w w' := by
  have HR := Lib.hid hr
  clear hr
  cases hf : fewB rs
  · have HF := Lib.hid hf
    clear hf
    go_enter Tryd.func3, Tryd.ntmps3
    go_wp2_with fail
    refine (awake_true _ hE).mono ?_
    rintro e w1 ⟨rfl, hb1⟩
    go_wp2_with fail
    refine (few_any rs A n c w.heap.size _ (HR.out.below hb1) hn63).mono ?_
    rintro e wx ⟨rfl, rfl⟩
    rw [HF.out]
    go_wp2_with fail
    refine (awake_true _ (hE.after hb1)).mono ?_
    rintro e w2 ⟨rfl, hb2⟩
    go_wp2_with fail
    go_ret
    exact ⟨rfl, below_two hb1 hb2⟩
  · have HF := Lib.hid hf
    obtain ⟨h60, h310⟩ := fewB_iff.1 hf
    have HNM : Hid (∀ r ∈ rs, r.name.length ≤ 3000) := fun r hr => by have := h60 r hr; omega
    clear hf h60 h310
    go_enter Tryd.func3, Tryd.ntmps3
    go_wp2_with fail
    refine (awake_true _ hE).mono ?_
    rintro e w1 ⟨rfl, hb1⟩
    go_wp2_with fail
    refine (few_any rs A n c w.heap.size _ (HR.out.below hb1) hn63).mono ?_
    rintro e wx ⟨rfl, rfl⟩
    rw [HF.out]
    go_wp2_with fail
    refine (print_any rs A n c w.heap.size _ (hE.after hb1) (HR.out.below hb1) hb1.size hn63 hnc HNM.out).mono ?_
    rintro e w2 ⟨rfl, hb2⟩
    have hb12 := below_two hb1 hb2
    go_wp2_with fail
    refine (refPrint_any rs A n c w.heap.size _ (HR.out.below hb12) hb12.size hn63 HNM.out).mono ?_
    rintro e w3 ⟨rfl, hb3⟩
    have hb13 := below_two hb12 hb3
    generalize prS rs = S at *
    generalize prE rs = E at *
    have q1 : (E == E) = true := by simp
    have q2 : (S == S) = true := by simp
    go_wp2_with fail
    refine (valid_any rs A n c w.heap.size _ (HR.out.below hb13) hb13.size hn63 hnc HNM.out).mono ?_
    rintro e w4 ⟨rfl, hb4⟩
    have hb14 := below_two hb13 hb4
    go_wp2_with fail
    refine (refValid_any rs A n c w.heap.size _ (HR.out.below hb14) hb14.size hn63 HNM.out).mono ?_
    rintro e w5 ⟨rfl, hb5⟩
    have hb15 := below_two hb14 hb5
    generalize validR rs = V at *
    have q3 : (V == V) = true := by simp
    go_wp2_with fail
    go_ret
    exact ⟨ret_bool (by simp), hb15⟩
theorem prS_yes {rs : List SRow} (h : validR rs = true) : prS rs = textL rs ∧ prE rs = 0 := by unfold prS prE; rw [h]; exact ⟨rfl, rfl⟩
theorem validR_take {rs : List SRow} (h : validR rs = true) (k : Nat) : validR (rs.take k) = true := by
  have hl := validR_len h
  unfold validR at h ⊢
  rw [Bool.and_eq_true] at h ⊢
  exact ⟨validF_take h.1 k, by rw [decide_eq_true_eq, List.length_take]; omega⟩
set_option maxRecDepth 100000 in
set_option maxHeartbeats 4000000 in
theorem lawBegins (rs : List SRow) (A : Option Addr) (n c : Nat) (at_ : Int) (w : World) (hE : Env w) (hr : Reads w w.heap.size 5 A n (rowsCells rs)) (hn63 : n ≤ 9223372036854775807) (hnc : n ≤ c) (ha0 : 0 ≤ at_) (ha1 : at_ ≤ 65535) :
    Calls Tryd.prog 4 #[.slice A n c, .int .u16 at_] w fun e w' => e = .returned (.bool true) ∧ Below w.heap.size w w' := by
  have HR := Lib.hid hr
  have HL := Lib.hid (rows_len hr)
  clear hr
  cases hf : fewB rs
  · have HF := Lib.hid hf
    clear hf
    go_enter Tryd.func4, Tryd.ntmps4
    go_wp2_with fail
    refine (awake_true _ hE).mono ?_
    rintro e w1 ⟨rfl, hb1⟩
    go_wp2_with fail
    refine (few_any rs A n c w.heap.size _ (HR.out.below hb1) hn63).mono ?_
    rintro e wx ⟨rfl, rfl⟩
    rw [HF.out]
    go_wp2_with fail
    refine (awake_true _ (hE.after hb1)).mono ?_
    rintro e w2 ⟨rfl, hb2⟩
    go_wp2_with fail
    go_ret
    exact ⟨rfl, below_two hb1 hb2⟩
  · have HF := Lib.hid hf
    obtain ⟨h60, h310⟩ := fewB_iff.1 hf
    have HNM : Hid (∀ r ∈ rs, r.name.length ≤ 3000) := fun r hr => by have := h60 r hr; omega
    have hn310 : n ≤ 310 := by have := HL.out; omega
    clear hf h60 h310
    cases hv : validR rs
    · have HV := Lib.hid hv
      clear hv
      go_enter Tryd.func4, Tryd.ntmps4
      go_wp2_with fail
      refine (awake_true _ hE).mono ?_
      rintro e w1 ⟨rfl, hb1⟩
      go_wp2_with fail
      refine (few_any rs A n c w.heap.size _ (HR.out.below hb1) hn63).mono ?_
      rintro e wx ⟨rfl, rfl⟩
      rw [HF.out]
      go_wp2_with fail
      refine (refValid_any rs A n c w.heap.size _ (HR.out.below hb1) hb1.size hn63 HNM.out).mono ?_
      rintro e w2 ⟨rfl, hb2⟩
      rw [HV.out]
      have hb12 := below_two hb1 hb2
      go_wp2_with fail
      refine (awake_true _ (hE.after hb12)).mono ?_
      rintro e w3 ⟨rfl, hb3⟩
      go_wp2_with fail
      go_ret
      exact ⟨rfl, below_two hb12 hb3⟩
    · have HV := Lib.hid hv
      obtain ⟨m, rfl⟩ : ∃ m : Nat, at_ = m := ⟨at_.toNat, by omega⟩
      obtain ⟨k, hk⟩ : ∃ k : Nat, m % (n + 1) = k := ⟨_, rfl⟩
      have hkn : k ≤ n := by have := Nat.mod_lt m (show 0 < n + 1 by omega); omega
      have hki : (m : Int) % ((n : Int) + 1) = (k : Int) := by rw [← hk]; simp
      have P1 := Lib.hid (prS_yes (validR_take hv k))
      have P2 := Lib.hid (prS_yes hv)
      obtain ⟨T2, hT⟩ := textL_prefix rs k
      have HT := Lib.hid hT
      clear hv hk hT
      have hk1 : (k : Int) ≤ (n : Int) := by omega
      have hk2 : (k : Int) ≤ (c : Int) := by omega
      go_enter Tryd.func4, Tryd.ntmps4
      go_wp2_with fail
      refine (awake_true _ hE).mono ?_
      rintro e w1 ⟨rfl, hb1⟩
      go_wp2_with fail
      refine (few_any rs A n c w.heap.size _ (HR.out.below hb1) hn63).mono ?_
      rintro e wx ⟨rfl, rfl⟩
      rw [HF.out]
      go_wp2_with fail
      refine (refValid_any rs A n c w.heap.size _ (HR.out.below hb1) hb1.size hn63 HNM.out).mono ?_
      rintro e w2 ⟨rfl, hb2⟩
      rw [HV.out]
      have hb12 := below_two hb1 hb2
      have h9 : (0 : Int) < (n : Int) + 1 := by omega
      have h9b : ((n : Int) + 1 == 0) = false := by rw [beq_eq_false_iff_ne]; omega
      go_wp2_with fail
      have HRT := HR.out.rows_take hkn
      have HNT : ∀ r ∈ rs.take k, r.name.length ≤ 3000 := fun r hr => HNM.out r (List.mem_of_mem_take hr)
      have HP1 := Lib.hid (print_any (rs.take k) A k c w.heap.size w2 (hE.after hb12) (HRT.below hb12) hb12.size (by omega) (by omega) HNT)
      clear HRT HNT
      rw [P1.out.1, P1.out.2] at HP1
      refine HP1.out.mono ?_
      rintro e w3 ⟨rfl, hb3⟩
      have hb13 := below_two hb12 hb3
      go_wp2_with fail
      have HP2 := Lib.hid (print_any rs A n c w.heap.size w3 (hE.after hb13) (HR.out.below hb13) hb13.size hn63 hnc HNM.out)
      rw [P2.out.1, P2.out.2, HT.out] at HP2
      refine HP2.out.mono ?_
      rintro e w4 ⟨rfl, hb4⟩
      have hb14 := below_two hb13 hb4
      have hle : (textL (rs.take k)).length ≤ k * 97 := textL_len HV.out k (by rw [HL.out]; exact hkn)
      clear P1 P2 HP1 HP2 HT hki
      generalize textL (rs.take k) = T1 at *
      have hex : (⟨(T1 ++ T2).toArray⟩ : ByteArray).extract 0 T1.length = ⟨T1.toArray⟩ := by
        rw [ex_mk]; simp
      have hl2 : (T1 ++ T2).length = T1.length + T2.length := List.length_append
      have hl3 : T1.length ≤ (T1 ++ T2).length := by omega
      have hl4 : decide ((T1.length : Int) ≤ ((T1 ++ T2).length : Int)) = true := by rw [decide_eq_true_eq]; omega
      have HL2 := Lib.hid hl2
      clear hl2
      generalize T1 ++ T2 = T at *
      go_wp2_with fail
      go_ret
      exact ⟨ret_bool (by simp), hb14⟩
end Go.Proofs.YtfiindecponeoaaDoor
