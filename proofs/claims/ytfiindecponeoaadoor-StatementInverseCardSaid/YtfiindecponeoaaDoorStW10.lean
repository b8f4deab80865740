/-
  The law StatementUnder.
-/
import Derived.Test.YtfiindecponeoaaDoorStW9
namespace Go.Proofs.YtfiindecponeoaaDoor
open Go.RowKit
set_option linter.unusedVariables false
theorem unM_pos {rs : List SRow} {i : Int} (h : 0 < unM rs i) : unE rs i = 0 ∧ unM rs i = unN rs i.toNat ∧ 0 ≤ i ∧ i < rs.length ∧ validR rs = true := by
  have h0 : unE rs i = 0 := by
    by_cases h0 : unE rs i = 0
    · exact h0
    · unfold unM at h; rw [if_neg h0] at h; omega
  refine ⟨h0, by unfold unM; rw [if_pos h0], ?_⟩
  unfold unE at h0
  cases hv : validR rs
  · rw [hv] at h0; simp at h0
  · rw [if_pos hv] at h0
    cases hc : (decide (i < 0) || decide ((rs.length : Int) ≤ i))
    · rw [Bool.or_eq_false_iff, decide_eq_false_iff_not, decide_eq_false_iff_not] at hc
      exact ⟨by omega, by omega, rfl⟩
    · rw [hc] at h0; simp at h0
theorem ints_low {w w' : World} {n : Nat} {A : Option Addr} {xs : List Value} (h : Reads w w.heap.size 1 A n xs) (hb : Below w.heap.size w w') : Reads w' w.heap.size 1 A n xs := h.below hb
set_option maxRecDepth 100000 in
set_option maxHeartbeats 8000000 in
theorem lawUnder (rs : List SRow) (A : Option Addr) (n c : Nat) (i : Int) (w : World) (hE : Env w) (hr : Reads w w.heap.size 5 A n (rowsCells rs)) (hn63 : n ≤ 9223372036854775807) (hnc : n ≤ c) :
    Calls Tryd.prog 5 #[.slice A n c, .int .i64 i] w fun e w' => e = .returned (.bool true) ∧ Below w.heap.size w w' := by
  have HR := Lib.hid hr
  have HL := Lib.hid (rows_len hr)
  clear hr
  cases hf : fewB rs
  · have HF := Lib.hid hf
    clear hf
    go_enter Tryd.func5, Tryd.ntmps5
    go_wp2_with fail
    refine (awake_true _ hE).mono ?_
    rintro e w1 ⟨rfl, hb1⟩
    go_wp2_with fail
    refine (few_any rs A n c w.heap.size _ (HR.out.below hb1) hn63).mono ?_
    rintro e wx ⟨rfl, rfl⟩
    rw [HF.out]
    go_wp2_with fail
    refine (awake_true _ (hE.after hb1)).mono ?_
    rintro e w2 ⟨rfl, hb2⟩
    go_wp2_with fail
    go_ret
    exact ⟨rfl, below_two hb1 hb2⟩
  · have HF := Lib.hid hf
    obtain ⟨h60, h310⟩ := fewB_iff.1 hf
    have HNM : Hid (∀ r ∈ rs, r.name.length ≤ 3000) := fun r hr => by have := h60 r hr; omega
    have hn310 : n ≤ 310 := by have := HL.out; omega
    clear hf h60 h310
    go_enter Tryd.func5, Tryd.ntmps5
    go_wp2_with fail
    refine (awake_true _ hE).mono ?_
    rintro e w1 ⟨rfl, hb1⟩
    go_wp2_with fail
    refine (few_any rs A n c w.heap.size _ (HR.out.below hb1) hn63).mono ?_
    rintro e wx ⟨rfl, rfl⟩
    rw [HF.out]
    go_wp2_with fail
    refine (under_any rs A n c i w.heap.size _ (HR.out.below hb1) hb1.size hn63 hnc HNM.out).mono ?_
    rintro e w2 ⟨v1, rfl, hown1, hb2⟩
    have hb12 := below_two hb1 hb2
    obtain ⟨A1, c1, rfl⟩ := own_slice hown1
    have HO1 := Lib.hid (Reads.of_own hown1)
    clear hown1
    go_wp2_with fail
    refine (refUnder_any rs A n c i w.heap.size _ (HR.out.below hb12) hb12.size hn63 HNM.out).mono ?_
    rintro e w3 ⟨v2, rfl, hown2, hb3⟩
    have hb13 := below_two hb12 hb3
    obtain ⟨A2, c2, rfl⟩ := own_slice hown2
    have HO2 := Lib.hid (Reads.of_own hown2)
    have HO13 := Lib.hid ((ints_low HO1.out hb3).more hb3.size)
    have HM : Hid (0 < unM rs i → unE rs i = 0 ∧ unM rs i = unN rs i.toNat ∧ 0 ≤ i ∧ i < rs.length ∧ validR rs = true) := unM_pos
    have hml : unM rs i ≤ 310 := by
      by_cases h0 : 0 < unM rs i
      · have h1 := (HM.out h0).2.1
        have h2 := unN_le rs i.toNat
        have := HL.out
        omega
      · omega
    generalize unE rs i = E at *
    generalize unM rs i = m at *
    have q1 : (E != E) = false := by simp
    have q2 : (m != m) = false := by simp
    have q3 : ((m : Int) != (m : Int)) = false := by simp
    have HB13 := Lib.hid hb13
    clear hown2 hb1 hb2 hb3 hb12 hb13 HO1
    go_wp2_with fail
    go_loopw [44] (fun t wr => ∃ k : Nat, k ≤ m ∧ t = .int .i64 k ∧ Below w3.heap.size w3 wr) (fun t _ => m - (intOf t).toNat)
    case atStart => exact ⟨0, Nat.zero_le _, rfl, Below.refl _ _⟩
    case round =>
      obtain ⟨k, hk, rfl, hbr⟩ := hrel
      obtain ⟨wo, rfl⟩ : ∃ wo : World, wo = wr := ⟨_, rfl⟩
      by_cases hlt : k < m
      · have k3 : decide ((k : Int) < (m : Int)) = true := by rw [decide_eq_true_eq]; omega
        obtain ⟨e0, e1, e2, e3, e4⟩ := HM.out (by omega)
        obtain ⟨q, rfl⟩ : ∃ q : Nat, i = q := ⟨i.toNat, by omega⟩
        rw [Int.toNat_natCast] at e1 HO2 HO13
        have hwo := below_two HB13.out hbr
        have HWO := Lib.hid hwo
        obtain ⟨ad1, rfl, hab1, cc1⟩ := (ints_low HO13.out hbr).int_at hlt
        rw [unList_getD hlt] at cc1
        have hq' : q + 1 + k < rs.length := by have := unN_le rs q; omega
        have hu1 := unE_ok e4 hq'
        have hu2 := unN_under (rs := rs) (q := q) (j := k) (by omega)
        rw [← e1] at hu2
        have HU := Lib.hid (under_any rs A n c ((q + 1 + k : Nat) : Int) w.heap.size wo (HR.out.below hwo) hwo.size hn63 hnc HNM.out)
        clear hwo
        have b1 : (k : Int) < (m : Int) := by omega
        have HU1 := Lib.hid hu1
        have HE2 := Lib.hid e2
        clear e0 e1 e2 hu1
        go_wp2_with fail
        refine HU.out.mono ?_
        rintro e w4 ⟨v3, rfl, hown3, hb4⟩
        rw [HU1.out.1]
        rw [Int.toNat_natCast, HU1.out.2] at hown3
        have hbr4 := below_two hbr hb4
        obtain ⟨A3, c3, rfl⟩ := own_slice hown3
        have HO3 := Lib.hid (Reads.of_own hown3)
        have hm2 : unN rs (q + 1 + k) ≤ 310 := by have := unN_le rs (q + 1 + k); have := HL.out; omega
        generalize unN rs (q + 1 + k) = m2 at *
        clear hown3 HU cc1 hb4 hbr
        obtain ⟨_, x1, _, a1⟩ := (ints_low HO13.out hbr4).int_at hlt
        injection x1 with x1
        subst x1
        obtain ⟨ad2, rfl, _, a2⟩ := (ints_low HO2.out hbr4).int_at hlt
        obtain ⟨_, x3, _, a3⟩ := (ints_low HO13.out hbr4).int_at (k := m - 1) (by omega)
        injection x3 with x3
        subst x3
        rw [unList_getD hlt] at a1 a2
        rw [unList_getD (by omega)] at a3
        have y1 : (0 : Int) ≤ (m : Int) - 1 := by omega
        have y2 : (1 : Int) ≤ (m : Int) := by omega
        have y3 : ((m : Int) - 1).toNat = m - 1 := by omega
        have y4 : (m : Int) - 1 < (m : Int) := by omega
        have y5 : 1 ≤ m := by omega
        have y6 : m - 1 < m := by omega
        have y7 : IntKind.i64.wrap ((m : Int) - 1) = (m : Int) - 1 := IntWalk.i64_in _ (by omega)
        by_cases h0 : 0 < m2
        · obtain ⟨ad3, rfl, _, a4⟩ := HO3.out.int_at (k := m2 - 1) (by omega)
          rw [unList_getD (by omega)] at a4
          have d0 : decide ((0 : Int) < (m2 : Int)) = true := by rw [decide_eq_true_eq]; omega
          have d0' : decide (0 < m2) = true := by rw [decide_eq_true_eq]; omega
          have d1 : decide (((q + 1 + (m - 1) : Nat) : Int) < ((q + 1 + k + 1 + (m2 - 1) : Nat) : Int)) = false := by rw [decide_eq_false_iff_not]; omega
          have z1 : (0 : Int) ≤ (m2 : Int) - 1 := by omega
          have z2 : (1 : Int) ≤ (m2 : Int) := by omega
          have z3 : ((m2 : Int) - 1).toNat = m2 - 1 := by omega
          have z4 : (m2 : Int) - 1 < (m2 : Int) := by omega
          have z5 : 1 ≤ m2 := by omega
          have z6 : m2 - 1 < m2 := by omega
          have z7 : IntKind.i64.wrap ((m2 : Int) - 1) = (m2 : Int) - 1 := IntWalk.i64_in _ (by omega)
          generalize ((q + 1 + k : Nat) : Int) = X at *
          generalize ((q + 1 + k + 1 + (m2 - 1) : Nat) : Int) = Y at *
          generalize ((q + 1 + (m - 1) : Nat) : Int) = Z at *
          have q4 : (X != X) = false := by simp
          go_wp2_with fail
          go_quiet (fail)
          go_wp2_with fail
          go_roundw
          case rel => exact ⟨k + 1, by omega, by go_num, below_drewN hbr4 nq⟩
          case measure => simp [intOf]; omega
        · have d0 : decide ((0 : Int) < (m2 : Int)) = false := by rw [decide_eq_false_iff_not]; omega
          have d0' : decide (0 < m2) = false := by rw [decide_eq_false_iff_not]; omega
          generalize ((q + 1 + k : Nat) : Int) = X at *
          generalize ((q + 1 + (m - 1) : Nat) : Int) = Z at *
          have q4 : (X != X) = false := by simp
          go_wp2_with fail
          go_quiet (fail)
          go_wp2_with fail
          go_roundw
          case rel => exact ⟨k + 1, by omega, by go_num, below_drewN hbr4 nq⟩
          case measure => simp [intOf]; omega
      · have k3 : decide ((k : Int) < (m : Int)) = false := by rw [decide_eq_false_iff_not]; omega
        go_wp2_with fail
        go_ret
        exact ⟨rfl, below_two HB13.out hbr⟩
end Go.Proofs.YtfiindecponeoaaDoor
