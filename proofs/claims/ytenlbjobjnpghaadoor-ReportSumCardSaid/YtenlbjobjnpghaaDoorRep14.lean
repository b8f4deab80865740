/-
  Sum of both.
-/
import Derived.Test.YtenlbjobjnpghaaDoorRepPl2
import Derived.Test.YtenlbjobjnpghaaDoorRep12
namespace Go.Proofs.YtenlbjobjnpghaaDoor
open Go.RowKit
set_option linter.unusedVariables false
theorem tup_ii {a b x y : Int} (h : a = b) (h' : x = y) : Ending.returned (.tuple #[.int .i64 a, .int .i64 x]) = .returned (.tuple #[.int .i64 b, .int .i64 y]) := by rw [h, h']
set_option maxRecDepth 100000 in
set_option maxHeartbeats 8000000 in
theorem sum_any (xs : List SLine) (A : Option Addr) (n c B : Nat) (i : Int) (w : World) (hr : Reads w B 6 A n (linesCells xs)) (hB : B ≤ w.heap.size) (hn : n ≤ 10000) (hnm : ∀ x ∈ xs, x.row.name.length ≤ 3000) :
    Calls Tryd.prog 23 #[.slice A n c, .int .i64 i] w fun e w' => e = .returned (.tuple #[.int .i64 (suN xs i), .int .i64 (suE xs i)]) ∧ Below w.heap.size w w' := by
  have HL := Lib.hid (lines_len hr)
  have HR := Lib.hid hr
  have HNM : Hid (∀ r ∈ rowsOf xs, r.name.length ≤ 3000) := by
    show ∀ _, _
    intro r h
    obtain ⟨x, hx, rfl⟩ := List.mem_map.1 h
    exact hnm x hx
  have HV := Lib.hid (rvalid_any xs A n c B w hr hB hn hnm)
  clear hr hnm
  cases hv : validL xs
  · have F := Lib.hid (su_bad (i := i) hv)
    have HVF := Lib.hid hv
    clear hv
    go_enter Tryd.func23, Tryd.ntmps23
    go_wp2_with fail
    refine HV.out.mono ?_
    rintro e w1 ⟨rfl, hb⟩
    rw [HVF.out]
    go_wp2_with fail
    go_ret2
    exact ⟨tup_ii F.out.2.symm F.out.1.symm, hb⟩
  have HVF := Lib.hid hv
  have HVR := Lib.hid (validL_iff.1 hv).1
  have hn3 : n ≤ 300 := by have := validL_len hv; have := HL.out; omega
  cases hu : (unE (rowsOf xs) i == 0)
  · have F := Lib.hid (su_out hv hu)
    have hu' : (unE (rowsOf xs) i != 0) = true := by rw [bne, hu]; rfl
    clear hv hu
    go_enter Tryd.func23, Tryd.ntmps23
    go_wp2_with fail
    refine HV.out.mono ?_
    rintro e w1 ⟨rfl, hb⟩
    rw [HVF.out]
    go_wp2_with fail
    refine (rows_any xs A n c B w1 (HR.out.low hB (Nat.le_refl _) hb) (by have := hb.size; omega) (by omega)).mono ?_
    rintro e w2 ⟨v, rfl, hown, hb2⟩
    obtain ⟨A1, c1, rfl⟩ := own_slice hown
    have hcap := own_cap hown
    have hb12 := below_two hb hb2
    have HU := Lib.hid (under_any (rowsOf xs) A1 xs.length c1 i w2.heap.size w2 (Reads.of_own hown) (Nat.le_refl _) (by rw [HL.out]; omega) hcap HNM.out)
    clear hown hb hb2 hcap
    go_wp2_with fail
    refine HU.out.mono ?_
    rintro e w3 ⟨v, rfl, _, hb3⟩
    have hb13 := below_two hb12 hb3
    generalize unE (rowsOf xs) i = E at *
    clear hb12 hb3
    go_wp2_with fail
    go_ret2
    exact ⟨tup_ii F.out.2.symm F.out.1.symm, hb13⟩
  have hu0 : unE (rowsOf xs) i = 0 := by simpa using hu
  obtain ⟨q, rfl, hq⟩ : ∃ q : Nat, i = q ∧ q < xs.length := by
    unfold unE at hu0
    rw [if_pos HVR.out] at hu0
    cases h1 : decide (i < 0)
    · cases h2 : decide (((rowsOf xs).length : Int) ≤ i)
      · rw [decide_eq_false_iff_not] at h1 h2
        rw [rowsOf_len] at h2
        exact ⟨i.toNat, by omega, by omega⟩
      · rw [h1, h2] at hu0; simp at hu0
    · rw [h1] at hu0; simp at hu0
  obtain ⟨_, hum⟩ := unE_ok HVR.out (show q < (rowsOf xs).length by rw [rowsOf_len]; exact hq)
  have hul : unN (rowsOf xs) q ≤ xs.length - (q + 1) := by have := unN_le (rowsOf xs) q; rwa [rowsOf_len] at this
  have hb0 : Hid (∀ b, okAmt (sumU xs q (unN (rowsOf xs) q)) = b → (b = false → suE xs q = 2 ∧ suN xs q = 0) ∧ (b = true → suE xs q = 0 ∧ suN xs q = sumU xs q (unN (rowsOf xs) q))) := fun b hb => su_sum (i := (q : Int)) hv hu0 b hb
  have HU0 := Lib.hid hu0
  have HUM := Lib.hid hum
  clear hv hu hu0 hum
  go_enter Tryd.func23, Tryd.ntmps23
  go_wp2_with fail
  refine HV.out.mono ?_
  rintro e w1 ⟨rfl, hb⟩
  rw [HVF.out]
  go_wp2_with fail
  refine (rows_any xs A n c B w1 (HR.out.low hB (Nat.le_refl _) hb) (by have := hb.size; omega) (by omega)).mono ?_
  rintro e w2 ⟨v, rfl, hown, hb2⟩
  obtain ⟨A1, c1, rfl⟩ := own_slice hown
  have hcap := own_cap hown
  have hb12 := below_two hb hb2
  have HU := Lib.hid (under_any (rowsOf xs) A1 xs.length c1 q w2.heap.size w2 (Reads.of_own hown) (Nat.le_refl _) (by rw [HL.out]; omega) hcap HNM.out)
  clear hown hb hb2 hcap
  go_wp2_with fail
  refine HU.out.mono ?_
  rintro e w3 ⟨v, rfl, hown, hb3⟩
  have hb13 := below_two hb12 hb3
  rw [HU0.out]
  rw [HUM.out, show ((q : Int)).toNat = q from rfl] at hown
  obtain ⟨A2, c2, rfl⟩ := own_slice hown
  have HRU := Lib.hid (Reads.of_own hown)
  have HR3 := Lib.hid (HR.out.low hB (Nat.le_refl _) hb13)
  have HBD := Lib.hid (fun k hk => sumU_bd HVF.out q k hk)
  generalize unN (rowsOf xs) q = M at *
  have hqx := HL.out
  have hqm : q + 1 + M ≤ n := by omega
  clear hown hb12 hb3 hqx
  go_wp2_with fail
  go_loop [8, 26] (fun s i => ∃ k : Nat, k ≤ M ∧ i = .int .i64 k ∧ s = .int .i64 (sumU xs q k)) (fun _ i => M - (intOf i).toNat)
  case atStart => exact ⟨0, Nat.zero_le _, rfl, rfl⟩
  case round =>
    obtain ⟨k, hk, rfl, rfl⟩ := hrel
    by_cases hlt : k < M
    · have k3 : decide ((k : Int) < (M : Int)) = true := by rw [decide_eq_true_eq]; omega
      obtain ⟨ad, rfl, hab, d0⟩ := HRU.out.int_at hlt
      rw [unList_getD hlt] at d0
      obtain ⟨ad2, rfl, hab2, c0, c1', c2', c3', c4', c5'⟩ := HR3.out.line_at (show q + 1 + k < n by omega)
      have hst := sumU_step xs q k
      have HST := Lib.hid hst
      have hbd := HBD.out k (by have := HL.out; omega)
      have hbd1 := HBD.out (k + 1) (by have := HL.out; omega)
      rw [HST.out] at hbd1
      clear hst
      generalize hgx : xs.getD (q + 1 + k) default = x at *
      have HGX := Lib.hid hgx
      clear hgx
      generalize sumU xs q k = S at *
      obtain ⟨⟨nm, lv, fr, to_, ng⟩, am⟩ := x
      simp only [] at c0 c1' c2' c3' c4' c5' hbd1
      have g1 := hbd.1
      have g2 := hbd.2
      have g3 := hbd1.1
      have g4 := hbd1.2
      have g5 : -9223372036854775808 ≤ S + am := by omega
      have g6 : S + am ≤ 9223372036854775807 := by omega
      have b1 : ((q + 1 + k : Nat) : Int) < (n : Int) := by omega
      clear hbd hbd1 g3 g4 c0 c1' c2' c3' c4'
      generalize hQK : q + 1 + k = QK at *
      have HQK := Lib.hid hQK
      clear hQK
      go_wp2_with fail
      go_round
      case rel => exact ⟨k + 1, by omega, by go_num, by rw [HST.out]⟩
      case measure => simp [intOf]; omega
    · have k3 : decide ((k : Int) < (M : Int)) = false := by rw [decide_eq_false_iff_not]; omega
      have hkm : k = M := by omega
      subst hkm
      cases ho : okAmt (sumU xs q k)
      · have F := Lib.hid ((hb0.out _ ho).1 rfl)
        have HO := Lib.hid ho
        clear ho
        go_wp2_with fail
        refine (moneyValid_any _ _).mono ?_
        rintro e wx ⟨rfl, rfl⟩
        rw [HO.out]
        go_wp2_with fail
        go_ret2
        exact ⟨tup_ii F.out.2.symm F.out.1.symm, hb13⟩
      · have F := Lib.hid ((hb0.out _ ho).2 rfl)
        have HO := Lib.hid ho
        clear ho
        go_wp2_with fail
        refine (moneyValid_any _ _).mono ?_
        rintro e wx ⟨rfl, rfl⟩
        rw [HO.out]
        go_wp2_with fail
        go_ret2
        exact ⟨tup_ii F.out.2.symm F.out.1.symm, hb13⟩
set_option maxRecDepth 100000 in
set_option maxHeartbeats 8000000 in
theorem refSum_any (xs : List SLine) (A : Option Addr) (n c B : Nat) (i : Int) (w : World) (hr : Reads w B 6 A n (linesCells xs)) (hB : B ≤ w.heap.size) (hn : n ≤ 10000) (hnm : ∀ x ∈ xs, x.row.name.length ≤ 3000) :
    Calls Tryd.prog 24 #[.slice A n c, .int .i64 i] w fun e w' => e = .returned (.tuple #[.int .i64 (suN xs i), .int .i64 (suE xs i)]) ∧ Below w.heap.size w w' := by
  have HL := Lib.hid (lines_len hr)
  have HR := Lib.hid hr
  have HNM : Hid (∀ r ∈ rowsOf xs, r.name.length ≤ 3000) := by
    show ∀ _, _
    intro r h
    obtain ⟨x, hx, rfl⟩ := List.mem_map.1 h
    exact hnm x hx
  have HV := Lib.hid (refValidL_any xs A n c B w hr hB hn hnm)
  clear hr hnm
  cases hv : validL xs
  · have F := Lib.hid (su_bad (i := i) hv)
    have HVF := Lib.hid hv
    clear hv
    go_enter Tryd.func24, Tryd.ntmps24
    go_wp2_with fail
    refine HV.out.mono ?_
    rintro e w1 ⟨rfl, hb⟩
    rw [HVF.out]
    go_wp2_with fail
    go_ret2
    exact ⟨tup_ii F.out.2.symm F.out.1.symm, hb⟩
  have HVF := Lib.hid hv
  have HVR := Lib.hid (validL_iff.1 hv).1
  have hn3 : n ≤ 300 := by have := validL_len hv; have := HL.out; omega
  cases hu : (unE (rowsOf xs) i == 0)
  · have F := Lib.hid (su_out hv hu)
    have hu' : (unE (rowsOf xs) i != 0) = true := by rw [bne, hu]; rfl
    clear hv hu
    go_enter Tryd.func24, Tryd.ntmps24
    go_wp2_with fail
    refine HV.out.mono ?_
    rintro e w1 ⟨rfl, hb⟩
    rw [HVF.out]
    go_wp2_with fail
    refine (rRows_any xs A n c B w1 (HR.out.low hB (Nat.le_refl _) hb) (by have := hb.size; omega) (by omega)).mono ?_
    rintro e w2 ⟨v, rfl, hown, hb2⟩
    obtain ⟨A1, c1, rfl⟩ := own_slice hown
    have hcap := own_cap hown
    have hb12 := below_two hb hb2
    have HU := Lib.hid (refUnder_any (rowsOf xs) A1 xs.length c1 i w2.heap.size w2 (Reads.of_own hown) (Nat.le_refl _) (by rw [HL.out]; omega) HNM.out)
    clear hown hb hb2 hcap
    go_wp2_with fail
    refine HU.out.mono ?_
    rintro e w3 ⟨v, rfl, _, hb3⟩
    have hb13 := below_two hb12 hb3
    generalize unE (rowsOf xs) i = E at *
    clear hb12 hb3
    go_wp2_with fail
    go_ret2
    exact ⟨tup_ii F.out.2.symm F.out.1.symm, hb13⟩
  have hu0 : unE (rowsOf xs) i = 0 := by simpa using hu
  obtain ⟨q, rfl, hq⟩ : ∃ q : Nat, i = q ∧ q < xs.length := by
    unfold unE at hu0
    rw [if_pos HVR.out] at hu0
    cases h1 : decide (i < 0)
    · cases h2 : decide (((rowsOf xs).length : Int) ≤ i)
      · rw [decide_eq_false_iff_not] at h1 h2
        rw [rowsOf_len] at h2
        exact ⟨i.toNat, by omega, by omega⟩
      · rw [h1, h2] at hu0; simp at hu0
    · rw [h1] at hu0; simp at hu0
  obtain ⟨_, hum⟩ := unE_ok HVR.out (show q < (rowsOf xs).length by rw [rowsOf_len]; exact hq)
  have hul : unN (rowsOf xs) q ≤ xs.length - (q + 1) := by have := unN_le (rowsOf xs) q; rwa [rowsOf_len] at this
  have hb0 : Hid (∀ b, okAmt (sumU xs q (unN (rowsOf xs) q)) = b → (b = false → suE xs q = 2 ∧ suN xs q = 0) ∧ (b = true → suE xs q = 0 ∧ suN xs q = sumU xs q (unN (rowsOf xs) q))) := fun b hb => su_sum (i := (q : Int)) hv hu0 b hb
  have HU0 := Lib.hid hu0
  have HUM := Lib.hid hum
  clear hv hu hu0 hum
  go_enter Tryd.func24, Tryd.ntmps24
  go_wp2_with fail
  refine HV.out.mono ?_
  rintro e w1 ⟨rfl, hb⟩
  rw [HVF.out]
  go_wp2_with fail
  refine (rRows_any xs A n c B w1 (HR.out.low hB (Nat.le_refl _) hb) (by have := hb.size; omega) (by omega)).mono ?_
  rintro e w2 ⟨v, rfl, hown, hb2⟩
  obtain ⟨A1, c1, rfl⟩ := own_slice hown
  have hcap := own_cap hown
  have hb12 := below_two hb hb2
  have HU := Lib.hid (refUnder_any (rowsOf xs) A1 xs.length c1 q w2.heap.size w2 (Reads.of_own hown) (Nat.le_refl _) (by rw [HL.out]; omega) HNM.out)
  clear hown hb hb2 hcap
  go_wp2_with fail
  refine HU.out.mono ?_
  rintro e w3 ⟨v, rfl, hown, hb3⟩
  have hb13 := below_two hb12 hb3
  rw [HU0.out]
  rw [HUM.out, show ((q : Int)).toNat = q from rfl] at hown
  obtain ⟨A2, c2, rfl⟩ := own_slice hown
  have HRU := Lib.hid (Reads.of_own hown)
  have HR3 := Lib.hid (HR.out.low hB (Nat.le_refl _) hb13)
  have HBD := Lib.hid (fun k hk => sumU_bd HVF.out q k hk)
  generalize unN (rowsOf xs) q = M at *
  have hqx := HL.out
  have hqm : q + 1 + M ≤ n := by omega
  clear hown hb12 hb3 hqx
  go_wp2_with fail
  go_loop [8, 9] (fun s i => ∃ k : Nat, k ≤ M ∧ i = .int .i64 k ∧ s = .int .i64 (sumU xs q k)) (fun _ i => M - (intOf i).toNat)
  case atStart => exact ⟨0, Nat.zero_le _, rfl, rfl⟩
  case round =>
    obtain ⟨k, hk, rfl, rfl⟩ := hrel
    by_cases hlt : k < M
    · have k3 : decide ((k : Int) < (M : Int)) = true := by rw [decide_eq_true_eq]; omega
      obtain ⟨ad, rfl, hab, d0⟩ := HRU.out.int_at hlt
      rw [unList_getD hlt] at d0
      obtain ⟨ad2, rfl, hab2, c0, c1', c2', c3', c4', c5'⟩ := HR3.out.line_at (show q + 1 + k < n by omega)
      have hst := sumU_step xs q k
      have HST := Lib.hid hst
      have hbd := HBD.out k (by have := HL.out; omega)
      have hbd1 := HBD.out (k + 1) (by have := HL.out; omega)
      rw [HST.out] at hbd1
      clear hst
      generalize hgx : xs.getD (q + 1 + k) default = x at *
      have HGX := Lib.hid hgx
      clear hgx
      generalize sumU xs q k = S at *
      obtain ⟨⟨nm, lv, fr, to_, ng⟩, am⟩ := x
      simp only [] at c0 c1' c2' c3' c4' c5' hbd1
      have g1 := hbd.1
      have g2 := hbd.2
      have g3 := hbd1.1
      have g4 := hbd1.2
      have g5 : -9223372036854775808 ≤ S + am := by omega
      have g6 : S + am ≤ 9223372036854775807 := by omega
      have b1 : ((q + 1 + k : Nat) : Int) < (n : Int) := by omega
      clear hbd hbd1 g3 g4 c0 c1' c2' c3' c4'
      generalize hQK : q + 1 + k = QK at *
      have HQK := Lib.hid hQK
      clear hQK
      go_wp2_with fail
      go_round
      case rel => exact ⟨k + 1, by omega, by go_num, by rw [HST.out]⟩
      case measure => simp [intOf]; omega
    · have k3 : decide ((k : Int) < (M : Int)) = false := by rw [decide_eq_false_iff_not]; omega
      have hkm : k = M := by omega
      subst hkm
      cases ho : okAmt (sumU xs q k)
      · have F := Lib.hid ((hb0.out _ ho).1 rfl)
        have HO := Lib.hid ho
        clear ho
        go_wp2_with fail
        refine (refAmt_any _ _).mono ?_
        rintro e wx ⟨rfl, rfl⟩
        rw [HO.out]
        go_wp2_with fail
        go_ret2
        exact ⟨tup_ii F.out.2.symm F.out.1.symm, hb13⟩
      · have F := Lib.hid ((hb0.out _ ho).2 rfl)
        have HO := Lib.hid ho
        clear ho
        go_wp2_with fail
        refine (refAmt_any _ _).mono ?_
        rintro e wx ⟨rfl, rfl⟩
        rw [HO.out]
        go_wp2_with fail
        go_ret2
        exact ⟨tup_ii F.out.2.symm F.out.1.symm, hb13⟩
end Go.Proofs.YtenlbjobjnpghaaDoor
