/-
  The reference's index, number and read.
-/
import Derived.Test.YtfiindecponeoaaDoorStPz
namespace Go.Proofs.YtfiindecponeoaaDoor
open Go.RowKit
set_option linter.unusedVariables false
theorem byteEq (a b : UInt8) : (((a.toNat : Nat) : Int) == ((b.toNat : Nat) : Int)) = (a == b) := by
  rw [Bool.eq_iff_iff, beq_iff_eq, beq_iff_eq]
  constructor
  · intro h; exact UInt8.toNat_inj.1 (by omega)
  · intro h; rw [h]
set_option maxHeartbeats 1000000 in
theorem index_any (l : List UInt8) (c : UInt8) (ci : Int) (hc : ci = c.toNat) (w : World) (hl : l.length ≤ 2000) :
    Calls Tryd.prog 27 #[.string ⟨l.toArray⟩, .int .u8 ci] w fun e w' => e = .returned (.int .i64 (idxL l c)) ∧ w = w' := by
  have HC := Lib.hid hc
  clear hc
  go_enter Tryd.func27, Tryd.ntmps27
  go_wp2_with fail
  go_loop [5] (fun i => ∃ k : Nat, k ≤ l.length ∧ i = .int .i64 k ∧ ∀ j, j < k → (!(l.getD j 0 == c)) = true) (fun i => l.length - (intOf i).toNat)
  case atStart => exact ⟨0, Nat.zero_le _, rfl, fun j h => by omega⟩
  case round =>
    obtain ⟨k, hk, rfl, hd⟩ := hrel
    have HD := Lib.hid hd
    clear hd
    by_cases hlt : k < l.length
    · have hli : decide ((k : Int) < (l.length : Int)) = true := by rw [decide_eq_true_eq]; omega
      have hsz : k < (⟨l.toArray⟩ : ByteArray).size := by rw [mk_size]; exact hlt
      have hg : (((⟨l.toArray⟩ : ByteArray)[k].toNat : Int) == ci) = (l.getD k 0 == c) := by rw [mk_getD, HC.out]; exact byteEq _ _
      cases hb : (l.getD k 0 == c)
      · have F : Hid (∀ j, j < k + 1 → (!(l.getD j 0 == c)) = true) := by
          show ∀ _, _
          intro j hj
          by_cases h : j = k
          · rw [h, hb]; rfl
          · exact HD.out j (by omega)
        rw [hb] at hg
        clear hb
        go_wp2_with fail
        go_round
        case rel => exact ⟨k + 1, by omega, by go_num, F.out⟩
        case measure => simp [intOf]; omega
      · have F : Hid (idxL l c = k) := runG_eq 0 hk HD.out (fun _ => by rw [hb]; rfl)
        rw [hb] at hg
        clear hb
        go_wp2_with fail
        go_ret
        exact ⟨ret_int (by rw [F.out]), rfl⟩
    · have hli : decide ((k : Int) < (l.length : Int)) = false := by rw [decide_eq_false_iff_not]; omega
      have F : Hid (idxL l c = k) := runG_eq 0 hk HD.out (fun h => absurd h hlt)
      go_wp2_with fail
      go_ret
      exact ⟨ret_int (by rw [F.out]; omega), rfl⟩
set_option maxHeartbeats 1000000 in
theorem number_any (l : List UInt8) (w : World) (hl : l.length ≤ 2000) :
    Calls Tryd.prog 39 #[.string ⟨l.toArray⟩] w fun e w' => e = .returned (.int .i64 (numV l)) ∧ w = w' := by
  go_enter Tryd.func39, Tryd.ntmps39
  go_wp2_with fail
  go_loop [3, 4] (fun n i => ∃ k : Nat, k ≤ l.length ∧ k ≤ 5 ∧ i = .int .i64 k ∧ n = .int .i64 (numG l k)) (fun _ i => l.length - (intOf i).toNat)
  case atStart => exact ⟨0, Nat.zero_le _, by omega, rfl, rfl⟩
  case round =>
    obtain ⟨k, hk, h5, rfl, rfl⟩ := hrel
    have hbd := numG_bd l k h5
    have hpw : (10 ^ k : Nat) ≤ 100000 := Nat.pow_le_pow_right (n := 10) (by omega) h5
    have b1 : -2300000 ≤ numG l k := by omega
    have b2 : numG l k ≤ 2300000 := by omega
    clear hbd hpw
    by_cases hlt : k < l.length
    · have hli : decide ((k : Int) < (l.length : Int)) = true := by rw [decide_eq_true_eq]; omega
      by_cases hk5 : k < 5
      · have hl5 : decide ((k : Int) < 5) = true := by rw [decide_eq_true_eq]; omega
        have hsz : k < (⟨l.toArray⟩ : ByteArray).size := by rw [mk_size]; exact hlt
        have hst := numG_step hlt
        rw [← mk_getD l k hsz] at hst
        have HS := Lib.hid hst
        have c1 : (0 : Int) ≤ ((⟨l.toArray⟩ : ByteArray)[k].toNat : Int) := by omega
        have c2 : ((⟨l.toArray⟩ : ByteArray)[k].toNat : Int) < 256 := by have := UInt8.toNat_lt (⟨l.toArray⟩ : ByteArray)[k]; omega
        clear hst
        generalize numG l k = m at *
        go_wp2_with fail
        go_round
        case rel => exact ⟨k + 1, by omega, by omega, by go_num, by rw [HS.out]⟩
        case measure => simp [intOf]; omega
      · have hl5 : decide ((k : Int) < 5) = false := by rw [decide_eq_false_iff_not]; omega
        have F := Lib.hid (numG_end (l := l) h5 (.inr (by omega)))
        generalize numG l k = m at *
        go_wp2_with fail
        go_ret
        exact ⟨ret_int F.out, rfl⟩
    · have hli : decide ((k : Int) < (l.length : Int)) = false := by rw [decide_eq_false_iff_not]; omega
      have F := Lib.hid (numG_end (l := l) h5 (.inl (by omega)))
      generalize numG l k = m at *
      go_wp2_with fail
      go_ret
      exact ⟨ret_int F.out, rfl⟩
set_option maxRecDepth 100000 in
set_option maxHeartbeats 8000000 in
theorem refRead_any (l : List UInt8) (w : World) (hl : l.length ≤ 2000) :
    Calls Tryd.prog 28 #[.string ⟨l.toArray⟩] w fun e w' => e = .returned (rowV (rrd l)) ∧ Below w.heap.size w w' := by
  by_cases h4 : l.length < 4
  · have F : Hid (rrd l = ⟨[63], 0, 1, 0, false⟩) := by show _ = _; unfold rrd; rw [if_pos h4]
    have d4 : decide ((l.length : Int) < 4) = true := by rw [decide_eq_true_eq]; omega
    go_enter Tryd.func28, Tryd.ntmps28
    go_wp2_with fail
    refine bodyPost_ret (v := rowV (rrd l)) ?_ rfl ⟨rfl, ?_⟩
    · rw [F.out]
      simp [results, Tryd.results28, go_sem, rowV]
    · exact ((Below.refl _ _).alloc (Nat.le_refl _) _).alloc (by simp) _
  · have d4 : decide ((l.length : Int) < 4) = false := by rw [decide_eq_false_iff_not]; omega
    have F : Hid (rrd l = rrd1 (numV (l.take 1)) (l.drop 3) (idxL (l.drop 3) 34)) := by show _ = _; unfold rrd; rw [if_neg h4]
    have x1 : (⟨l.toArray⟩ : ByteArray).extract 0 1 = ⟨(l.take 1).toArray⟩ := by rw [ex_mk]; simp
    have x2 : ∀ n, n = l.length → (⟨l.toArray⟩ : ByteArray).extract 3 n = ⟨(l.drop 3).toArray⟩ := by
      intro n hn
      rw [ex_mk, hn, List.take_length]
    have y1 : (1 : Int) ≤ (l.length : Int) := by omega
    have y3 : (3 : Int) ≤ (l.length : Int) := by omega
    go_enter Tryd.func28, Tryd.ntmps28
    go_wp2_with fail
    refine (number_any (l.take 1) _ (by rw [List.length_take]; omega)).mono ?_
    rintro e wx ⟨rfl, rfl⟩
    go_wp2_with fail
    have hRl : (l.drop 3).length ≤ 2000 := by rw [List.length_drop]; omega
    refine (index_any (l.drop 3) 34 34 rfl _ hRl).mono ?_
    rintro e wx ⟨rfl, rfl⟩
    have hkle := idxL_le (l.drop 3) 34
    generalize numV (l.take 1) = LV at *
    generalize l.take 1 = L1 at *
    generalize l.drop 3 = R at *
    generalize idxL R 34 = k at *
    have x3 : (⟨R.toArray⟩ : ByteArray).extract 0 k = ⟨(R.take k).toArray⟩ := by rw [ex_mk]; simp
    have y4 : (k : Int) ≤ (R.length : Int) := by omega
    have F1 : Hid (rrd l = if R.length ≤ k + 2 then ⟨R.take k, LV, 1, 0, false⟩ else rrd2 (R.take k) LV (R.drop (k + 2))) := F.out
    clear x1 x2
    generalize R.take k = NM at *
    by_cases hk2 : R.length ≤ k + 2
    · have d2 : decide ((R.length : Int) ≤ (k : Int) + 2) = true := by rw [decide_eq_true_eq]; omega
      have F2 : Hid (rrd l = ⟨NM, LV, 1, 0, false⟩) := by show _ = _; rw [F1.out, if_pos hk2]
      go_wp2_with fail
      refine bodyPost_ret (v := rowV (rrd l)) ?_ rfl ⟨rfl, ?_⟩
      · rw [F2.out]
        simp [results, Tryd.results28, go_sem, rowV]
      · exact ((Below.refl _ _).alloc (Nat.le_refl _) _).alloc (by simp) _
    · have d2 : decide ((R.length : Int) ≤ (k : Int) + 2) = false := by rw [decide_eq_false_iff_not]; omega
      have F2 : Hid (rrd l = rrd2 NM LV (R.drop (k + 2))) := by show _ = _; rw [F1.out, if_neg hk2]
      have x5 : ∀ a n, a = k + 2 → n = R.length → (⟨R.toArray⟩ : ByteArray).extract a n = ⟨(R.drop (k + 2)).toArray⟩ := by
        intro a n ha hn
        rw [ex_mk, hn, ha, List.take_length]
      have y5 : (k : Int) + 2 ≤ (R.length : Int) := by omega
      have hR2 : (R.drop (k + 2)).length ≤ 2000 := by rw [List.length_drop]; omega
      generalize R.drop (k + 2) = R2 at *
      by_cases hlen : 2 < R2.length
      · cases hsx : (R2.drop (R2.length - 2) == [32, 45])
        · skip
          have d6 : decide ((2 : Int) < (R2.length : Int)) = true := by rw [decide_eq_true_eq]; omega
          have F3 : Hid (rrd l = rrd3 NM LV R2 false) := by
            show _ = _
            rw [F2.out]; unfold rrd2; rw [decide_eq_true hlen, hsx]; rfl
          have x6 : ∀ a n, a = R2.length - 2 → n = R2.length → (⟨R2.toArray⟩ : ByteArray).extract a n = ⟨(R2.drop (R2.length - 2)).toArray⟩ := by
            intro a n ha hn
            rw [ex_mk, hn, ha, List.take_length]
          have x6' : ∀ a, a = R2.length - 2 → (⟨R2.toArray⟩ : ByteArray).extract 0 a = ⟨(R2.take (R2.length - 2)).toArray⟩ := by
            intro a ha
            rw [ex_mk, ha]; simp
          have y6 : (0 : Int) ≤ (R2.length : Int) - 2 := by omega
          have y6a : (2 : Int) ≤ (R2.length : Int) := by omega
          have y6b : ((R2.length : Int) - 2).toNat = R2.length - 2 := by omega
          have y6c : (R2.length : Int) - 2 ≤ (R2.length : Int) := by omega
          have hl6 : (R2.take (R2.length - 2)).length ≤ 2000 := by rw [List.length_take]; omega
          generalize R2.drop (R2.length - 2) = X at *
          go_wp2_with fail
          clear x6 x6' hl6
          generalize R2 = R3 at *
          refine (index_any R3 46 46 rfl _ (by omega)).mono ?_
          rintro e wx ⟨rfl, rfl⟩
          have hple := idxL_le R3 46
          have F4 : Hid (rrd l = ⟨NM, LV, numV (R3.take (idxL R3 46)), if idxL R3 46 + 2 ≤ R3.length then numV (R3.drop (idxL R3 46 + 2)) else 0, false⟩) := F3.out
          generalize idxL R3 46 = p at *
          have x7 : (⟨R3.toArray⟩ : ByteArray).extract 0 p = ⟨(R3.take p).toArray⟩ := by rw [ex_mk]; simp
          have y7 : (p : Int) ≤ (R3.length : Int) := by omega
          go_wp2_with fail
          refine (number_any (R3.take p) _ (by rw [List.length_take]; omega)).mono ?_
          rintro e wx ⟨rfl, rfl⟩
          generalize numV (R3.take p) = fv at *
          by_cases hp2 : p + 2 ≤ R3.length
          · skip
            have d5 : decide ((p : Int) + 2 ≤ (R3.length : Int)) = true := by rw [decide_eq_true_eq]; omega
            have F5 : Hid (rrd l = ⟨NM, LV, fv, numV (R3.drop (p + 2)), false⟩) := by
              show _ = _
              rw [F4.out, if_pos hp2]
            have x8 : ∀ a n, a = p + 2 → n = R3.length → (⟨R3.toArray⟩ : ByteArray).extract a n = ⟨(R3.drop (p + 2)).toArray⟩ := by
              intro a n ha hn
              rw [ex_mk, hn, ha, List.take_length]
            have y8 : (p : Int) + 2 ≤ (R3.length : Int) := by omega
            go_wp2_with fail
            refine (number_any (R3.drop (p + 2)) _ (by rw [List.length_drop]; omega)).mono ?_
            rintro e wx ⟨rfl, rfl⟩
            generalize numV (R3.drop (p + 2)) = tv at *
            go_wp2_with fail
            refine bodyPost_ret (v := rowV (rrd l)) ?_ rfl ⟨rfl, ?_⟩
            · rw [F5.out]
              simp [results, Tryd.results28, go_sem, rowV]
            · exact ((Below.refl _ _).alloc (Nat.le_refl _) _).alloc (by simp) _
          · skip
            have d5 : decide ((p : Int) + 2 ≤ (R3.length : Int)) = false := by rw [decide_eq_false_iff_not]; omega
            have F5 : Hid (rrd l = ⟨NM, LV, fv, 0, false⟩) := by
              show _ = _
              rw [F4.out, if_neg hp2]
            go_wp2_with fail
            refine bodyPost_ret (v := rowV (rrd l)) ?_ rfl ⟨rfl, ?_⟩
            · rw [F5.out]
              simp [results, Tryd.results28, go_sem, rowV]
            · exact ((Below.refl _ _).alloc (Nat.le_refl _) _).alloc (by simp) _
        · skip
          have d6 : decide ((2 : Int) < (R2.length : Int)) = true := by rw [decide_eq_true_eq]; omega
          have F3 : Hid (rrd l = rrd3 NM LV (R2.take (R2.length - 2)) true) := by
            show _ = _
            rw [F2.out]; unfold rrd2; rw [decide_eq_true hlen, hsx]; rfl
          have x6 : ∀ a n, a = R2.length - 2 → n = R2.length → (⟨R2.toArray⟩ : ByteArray).extract a n = ⟨(R2.drop (R2.length - 2)).toArray⟩ := by
            intro a n ha hn
            rw [ex_mk, hn, ha, List.take_length]
          have x6' : ∀ a, a = R2.length - 2 → (⟨R2.toArray⟩ : ByteArray).extract 0 a = ⟨(R2.take (R2.length - 2)).toArray⟩ := by
            intro a ha
            rw [ex_mk, ha]; simp
          have y6 : (0 : Int) ≤ (R2.length : Int) - 2 := by omega
          have y6a : (2 : Int) ≤ (R2.length : Int) := by omega
          have y6b : ((R2.length : Int) - 2).toNat = R2.length - 2 := by omega
          have y6c : (R2.length : Int) - 2 ≤ (R2.length : Int) := by omega
          have hl6 : (R2.take (R2.length - 2)).length ≤ 2000 := by rw [List.length_take]; omega
          generalize R2.drop (R2.length - 2) = X at *
          generalize R2.take (R2.length - 2) = R3 at *
          go_wp2_with fail
          refine (index_any R3 46 46 rfl _ (by omega)).mono ?_
          rintro e wx ⟨rfl, rfl⟩
          have hple := idxL_le R3 46
          have F4 : Hid (rrd l = ⟨NM, LV, numV (R3.take (idxL R3 46)), if idxL R3 46 + 2 ≤ R3.length then numV (R3.drop (idxL R3 46 + 2)) else 0, true⟩) := F3.out
          generalize idxL R3 46 = p at *
          have x7 : (⟨R3.toArray⟩ : ByteArray).extract 0 p = ⟨(R3.take p).toArray⟩ := by rw [ex_mk]; simp
          have y7 : (p : Int) ≤ (R3.length : Int) := by omega
          go_wp2_with fail
          refine (number_any (R3.take p) _ (by rw [List.length_take]; omega)).mono ?_
          rintro e wx ⟨rfl, rfl⟩
          generalize numV (R3.take p) = fv at *
          by_cases hp2 : p + 2 ≤ R3.length
          · skip
            have d5 : decide ((p : Int) + 2 ≤ (R3.length : Int)) = true := by rw [decide_eq_true_eq]; omega
            have F5 : Hid (rrd l = ⟨NM, LV, fv, numV (R3.drop (p + 2)), true⟩) := by
              show _ = _
              rw [F4.out, if_pos hp2]
            have x8 : ∀ a n, a = p + 2 → n = R3.length → (⟨R3.toArray⟩ : ByteArray).extract a n = ⟨(R3.drop (p + 2)).toArray⟩ := by
              intro a n ha hn
              rw [ex_mk, hn, ha, List.take_length]
            have y8 : (p : Int) + 2 ≤ (R3.length : Int) := by omega
            go_wp2_with fail
            refine (number_any (R3.drop (p + 2)) _ (by rw [List.length_drop]; omega)).mono ?_
            rintro e wx ⟨rfl, rfl⟩
            generalize numV (R3.drop (p + 2)) = tv at *
            go_wp2_with fail
            refine bodyPost_ret (v := rowV (rrd l)) ?_ rfl ⟨rfl, ?_⟩
            · rw [F5.out]
              simp [results, Tryd.results28, go_sem, rowV]
            · exact ((Below.refl _ _).alloc (Nat.le_refl _) _).alloc (by simp) _
          · skip
            have d5 : decide ((p : Int) + 2 ≤ (R3.length : Int)) = false := by rw [decide_eq_false_iff_not]; omega
            have F5 : Hid (rrd l = ⟨NM, LV, fv, 0, true⟩) := by
              show _ = _
              rw [F4.out, if_neg hp2]
            go_wp2_with fail
            refine bodyPost_ret (v := rowV (rrd l)) ?_ rfl ⟨rfl, ?_⟩
            · rw [F5.out]
              simp [results, Tryd.results28, go_sem, rowV]
            · exact ((Below.refl _ _).alloc (Nat.le_refl _) _).alloc (by simp) _
      · skip
        have d6 : decide ((2 : Int) < (R2.length : Int)) = false := by rw [decide_eq_false_iff_not]; omega
        have F3 : Hid (rrd l = rrd3 NM LV R2 false) := by
          show _ = _
          rw [F2.out]; unfold rrd2; rw [decide_eq_false hlen]; rfl
        generalize R2 = R3 at *
        go_wp2_with fail
        refine (index_any R3 46 46 rfl _ (by omega)).mono ?_
        rintro e wx ⟨rfl, rfl⟩
        have hple := idxL_le R3 46
        have F4 : Hid (rrd l = ⟨NM, LV, numV (R3.take (idxL R3 46)), if idxL R3 46 + 2 ≤ R3.length then numV (R3.drop (idxL R3 46 + 2)) else 0, false⟩) := F3.out
        generalize idxL R3 46 = p at *
        have x7 : (⟨R3.toArray⟩ : ByteArray).extract 0 p = ⟨(R3.take p).toArray⟩ := by rw [ex_mk]; simp
        have y7 : (p : Int) ≤ (R3.length : Int) := by omega
        go_wp2_with fail
        refine (number_any (R3.take p) _ (by rw [List.length_take]; omega)).mono ?_
        rintro e wx ⟨rfl, rfl⟩
        generalize numV (R3.take p) = fv at *
        by_cases hp2 : p + 2 ≤ R3.length
        · skip
          have d5 : decide ((p : Int) + 2 ≤ (R3.length : Int)) = true := by rw [decide_eq_true_eq]; omega
          have F5 : Hid (rrd l = ⟨NM, LV, fv, numV (R3.drop (p + 2)), false⟩) := by
            show _ = _
            rw [F4.out, if_pos hp2]
          have x8 : ∀ a n, a = p + 2 → n = R3.length → (⟨R3.toArray⟩ : ByteArray).extract a n = ⟨(R3.drop (p + 2)).toArray⟩ := by
            intro a n ha hn
            rw [ex_mk, hn, ha, List.take_length]
          have y8 : (p : Int) + 2 ≤ (R3.length : Int) := by omega
          go_wp2_with fail
          refine (number_any (R3.drop (p + 2)) _ (by rw [List.length_drop]; omega)).mono ?_
          rintro e wx ⟨rfl, rfl⟩
          generalize numV (R3.drop (p + 2)) = tv at *
          go_wp2_with fail
          refine bodyPost_ret (v := rowV (rrd l)) ?_ rfl ⟨rfl, ?_⟩
          · rw [F5.out]
            simp [results, Tryd.results28, go_sem, rowV]
          · exact ((Below.refl _ _).alloc (Nat.le_refl _) _).alloc (by simp) _
        · skip
          have d5 : decide ((p : Int) + 2 ≤ (R3.length : Int)) = false := by rw [decide_eq_false_iff_not]; omega
          have F5 : Hid (rrd l = ⟨NM, LV, fv, 0, false⟩) := by
            show _ = _
            rw [F4.out, if_neg hp2]
          go_wp2_with fail
          refine bodyPost_ret (v := rowV (rrd l)) ?_ rfl ⟨rfl, ?_⟩
          · rw [F5.out]
            simp [results, Tryd.results28, go_sem, rowV]
          · exact ((Below.refl _ _).alloc (Nat.le_refl _) _).alloc (by simp) _
end Go.Proofs.YtfiindecponeoaaDoor
