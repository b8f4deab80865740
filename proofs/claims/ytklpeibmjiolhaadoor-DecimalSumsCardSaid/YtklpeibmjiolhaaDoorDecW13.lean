/-
  The law DecimalSums.
-/
import Derived.Test.YtklpeibmjiolhaaDoorDecNear
import Derived.Test.YtklpeibmjiolhaaDoorMemQ
import Derived.Test.YtklpeibmjiolhaaDoorDecW10
namespace Go.Proofs.YtklpeibmjiolhaaDoor
open Go.RowKit
set_option linter.unusedVariables false
/-- what the loop asks of an element -/
theorem sums_at {zs : List Int} (hz : ∀ z ∈ zs, -2147483648 ≤ z ∧ z ≤ 2147483647) {k : Nat} (hk : k < zs.length) : -2147483648 ≤ zs.getD k 0 ∧ zs.getD k 0 ≤ 2147483647 := by
  have : zs.getD k 0 ∈ zs := by simp [List.getD, hk]
  exact hz _ this
theorem take_bd {zs : List Int} (hz : ∀ z ∈ zs, -2147483648 ≤ z ∧ z ≤ 2147483647) (k : Nat) : ∀ z ∈ zs.take k, -2147483648 ≤ z ∧ z ≤ 2147483647 := fun z h => hz z (List.mem_of_mem_take h)
set_option maxHeartbeats 1000000 in
theorem lawSums (zs : List Int) (A : Option Addr) (n c : Nat) (x y : Int) (ev : Bool) (w : World) (hE : Env w) (hr : Reads w w.heap.size 1 A n (zs.map (Value.int .i32))) (hz : ∀ z ∈ zs, -2147483648 ≤ z ∧ z ≤ 2147483647) (hn : n ≤ 9223372036854775807) (hx : 0 ≤ x ∧ x ≤ 255) (hy : 0 ≤ y ∧ y ≤ 255) :
    Calls Tryd.prog 7 #[.slice A n c, .agg #[.int .u8 x, .int .u8 y], .bool ev] w fun e w' => e = .returned (.bool true) ∧ Below w.heap.size w w' := by
  obtain ⟨x1, x2⟩ := hx
  obtain ⟨y1, y2⟩ := hy
  have HL := Lib.hid hr.int_lenq
  have HR := Lib.hid hr
  have HZ := Lib.hid hz
  clear hr hz
  by_cases h100 : 100 < n
  · go_enter Tryd.func7, Tryd.ntmps7
    go_wp2_with fail
    have c0 : (w.alloc (.cells #[.int .u8 x, .int .u8 y] 35)).cell? ⟨w.heap.size, 0, none⟩ = some (.int .u8 x) := by simp [go_sem]
    have c1 : (w.alloc (.cells #[.int .u8 x, .int .u8 y] 35)).cell? ⟨w.heap.size, 1, none⟩ = some (.int .u8 y) := by simp [go_sem]
    have hz : Below w.heap.size w (w.alloc (.cells #[.int .u8 x, .int .u8 y] 35)) := (Below.refl _ _).alloc (Nat.le_refl _) _
    have hzs : w.heap.size < (w.alloc (.cells #[.int .u8 x, .int .u8 y] 35)).heap.size := by simp
    have hEz := hE.after hz
    generalize (w.alloc (.cells #[.int .u8 x, .int .u8 y] 35)) = wz at *
    refine (awake_true _ hEz).mono ?_
    rintro e w1 ⟨rfl, hb⟩
    have d0 := (hb.cell (p := ⟨w.heap.size, 0, none⟩) (by show w.heap.size < _; omega)).trans c0
    have d1 := (hb.cell (p := ⟨w.heap.size, 1, none⟩) (by show w.heap.size < _; omega)).trans c1
    have hbz := hz.trans (hb.mono (show w.heap.size ≤ wz.heap.size by omega))
    go_wp2_with fail
    refine (awake_true _ (hEz.after hb)).mono ?_
    rintro e w2 ⟨rfl, hb2⟩
    go_wp2_with fail
    go_ret
    exact ⟨rfl, below_two hbz hb2⟩
  have hn100 : n ≤ 100 := by omega
  have hnd : decide ((100 : Int) < n) = false := by rw [decide_eq_false_iff_not]; omega
  clear h100
  by_cases hc : x % 10 < y % 10
  · cases ev
    · have hft : x % 10 ≤ y % 10 := by omega

      obtain ⟨p1, p2⟩ := pw_bd (s := y % 10 - (x % 10)) (by omega) (by omega)
      generalize hP : pw (y % 10 - (x % 10)) = P at *
      have HP := Lib.hid hP
      clear hP
      have DN := Lib.hid (fun (n : Int) (hn : -1000000000000000 ≤ n ∧ n ≤ 1000000000000000) => rs_down (n := n) (f := y % 10) (t := x % 10) (m := 0) (by omega) (by omega) (by omega) (by omega) hn)
      rw [HP.out] at DN
      have WH := Lib.hid (rsum_whole (P := P) (m := 0) (by omega) (by omega) zs)
      go_enter Tryd.func7, Tryd.ntmps7
      go_wp2_with fail
      have c0 : (w.alloc (.cells #[.int .u8 x, .int .u8 y] 35)).cell? ⟨w.heap.size, 0, none⟩ = some (.int .u8 x) := by simp [go_sem]
      have c1 : (w.alloc (.cells #[.int .u8 x, .int .u8 y] 35)).cell? ⟨w.heap.size, 1, none⟩ = some (.int .u8 y) := by simp [go_sem]
      have hz : Below w.heap.size w (w.alloc (.cells #[.int .u8 x, .int .u8 y] 35)) := (Below.refl _ _).alloc (Nat.le_refl _) _
      have hzs : w.heap.size < (w.alloc (.cells #[.int .u8 x, .int .u8 y] 35)).heap.size := by simp
      have hEz := hE.after hz
      generalize (w.alloc (.cells #[.int .u8 x, .int .u8 y] 35)) = wz at *
      refine (awake_true _ hEz).mono ?_
      rintro e w1 ⟨rfl, hb⟩
      have d0 := (hb.cell (p := ⟨w.heap.size, 0, none⟩) (by show w.heap.size < _; omega)).trans c0
      have d1 := (hb.cell (p := ⟨w.heap.size, 1, none⟩) (by show w.heap.size < _; omega)).trans c1
      have hbz := hz.trans (hb.mono (show w.heap.size ≤ wz.heap.size by omega))
      go_wp2_with fail
      go_quiet (fail)
      go_wp2_with fail
      go_loopw [10, 11, 42] (fun s p i wr => ∃ k : Nat, k ≤ n ∧ i = .int .i64 k ∧ s = .int .i64 (zs.take k).sum ∧ p = .int .i64 (rsum P 0 (zs.take k)) ∧ Below w.heap.size w wr) (fun _ _ i _ => n - (intOf i).toNat)
      case atStart => exact ⟨0, Nat.zero_le _, rfl, rfl, rfl, by repeat (first | exact hbz | apply below_drewN)⟩
      case round =>
        obtain ⟨k, hk, rfl, rfl, rfl, hbr⟩ := hrel
        obtain ⟨wo, rfl⟩ : ∃ wo : World, wo = wr := ⟨_, rfl⟩
        obtain ⟨s1, s2⟩ := sum32_bd _ (take_bd HZ.out k)
        obtain ⟨r1, r2⟩ := rsum_bd (P := P) (m := 0) (by omega) _ (take_bd HZ.out k)
        have hlk : (zs.take k).length ≤ 100 := Nat.le_trans (List.length_take_le _ _) (by omega)
        generalize hS : (zs.take k).sum = S at *
        generalize hR : rsum P 0 (zs.take k) = R at *
        have HS := Lib.hid hS
        have HRR := Lib.hid hR
        clear hS hR
        by_cases hlt : k < n
        · obtain ⟨ad, rfl, _, hcell⟩ := (HR.out.below hbr).int_atq hlt
          obtain ⟨z1, z2⟩ := sums_at HZ.out (k := k) (by rw [HL.out]; exact hlt)
          have AS := Lib.hid (take_sum_succ (zs := zs) (k := k) (by rw [HL.out]; exact hlt))
          have AR := Lib.hid (rsum_succ (P := P) (m := 0) (zs := zs) (k := k) (by rw [HL.out]; exact hlt))
          rw [HS.out] at AS
          rw [HRR.out] at AR
          generalize zs.getD k 0 = z at *
          obtain ⟨y1, y2⟩ := rdI_bd (M := 2147483648) 0 (show 0 < P by omega) (show -2147483648 ≤ z ∧ z ≤ 2147483648 by omega)
          obtain ⟨e1, e2⟩ := DN.out z (by omega)
          have E1 := Lib.hid e1
          have E2 := Lib.hid e2
          clear e1 e2
          go_wp2_with fail
          refine (rescale_any _ _ _ _ _).mono ?_
          rintro e w2 ⟨rfl, hb2⟩
          rw [E1.out, E2.out]
          go_wp2_with fail
          go_round
          case rel => exact ⟨k + 1, by omega, by go_num, by rw [AS.out], by rw [AR.out], by repeat (first | exact below_two hbr hb2 | apply below_drewN)⟩
          case measure => simp [intOf]; omega
        · obtain rfl : k = n := by omega
          obtain ⟨e1, e2⟩ := DN.out S (by omega)
          have E1 := Lib.hid e1
          have E2 := Lib.hid e2
          have hT : zs.take k = zs := List.take_of_length_le (by rw [HL.out]; omega)
          have F1 := HS.out
          have F2 := HRR.out
          rw [hT] at F1 F2
          have fin := WH.out
          rw [F1, F2, HL.out] at fin
          obtain ⟨y1, y2⟩ := rdI_bd (M := 1000000000000) 0 (show 0 < P by omega) (show -1000000000000 ≤ S ∧ S ≤ 1000000000000 by omega)
          have ab := (absI_bd (n := R - rdI S P 0) (A := 1000000000000000) (by omega))
          obtain ⟨ab1, ab2⟩ := ab
          clear e1 e2 F1 F2 hT hlt
          go_wp2_with fail
          refine (rescale_any _ _ _ _ _).mono ?_
          rintro e w2 ⟨rfl, hb2⟩
          rw [E1.out, E2.out]
          go_wp2_with fail
          refine (refSize_any _ _ (by omega) (by omega)).mono ?_
          rintro e w3 ⟨rfl, rfl⟩
          go_wp2_with fail
          go_ret
          exact ⟨ret_bool (by simp), by repeat (first | exact below_two hbr hb2 | apply below_drewN)⟩
    · have hft : x % 10 ≤ y % 10 := by omega

      obtain ⟨p1, p2⟩ := pw_bd (s := y % 10 - (x % 10)) (by omega) (by omega)
      generalize hP : pw (y % 10 - (x % 10)) = P at *
      have HP := Lib.hid hP
      clear hP
      have DN := Lib.hid (fun (n : Int) (hn : -1000000000000000 ≤ n ∧ n ≤ 1000000000000000) => rs_down (n := n) (f := y % 10) (t := x % 10) (m := 1) (by omega) (by omega) (by omega) (by omega) hn)
      rw [HP.out] at DN
      have WH := Lib.hid (rsum_whole (P := P) (m := 1) (by omega) (by omega) zs)
      go_enter Tryd.func7, Tryd.ntmps7
      go_wp2_with fail
      have c0 : (w.alloc (.cells #[.int .u8 x, .int .u8 y] 35)).cell? ⟨w.heap.size, 0, none⟩ = some (.int .u8 x) := by simp [go_sem]
      have c1 : (w.alloc (.cells #[.int .u8 x, .int .u8 y] 35)).cell? ⟨w.heap.size, 1, none⟩ = some (.int .u8 y) := by simp [go_sem]
      have hz : Below w.heap.size w (w.alloc (.cells #[.int .u8 x, .int .u8 y] 35)) := (Below.refl _ _).alloc (Nat.le_refl _) _
      have hzs : w.heap.size < (w.alloc (.cells #[.int .u8 x, .int .u8 y] 35)).heap.size := by simp
      have hEz := hE.after hz
      generalize (w.alloc (.cells #[.int .u8 x, .int .u8 y] 35)) = wz at *
      refine (awake_true _ hEz).mono ?_
      rintro e w1 ⟨rfl, hb⟩
      have d0 := (hb.cell (p := ⟨w.heap.size, 0, none⟩) (by show w.heap.size < _; omega)).trans c0
      have d1 := (hb.cell (p := ⟨w.heap.size, 1, none⟩) (by show w.heap.size < _; omega)).trans c1
      have hbz := hz.trans (hb.mono (show w.heap.size ≤ wz.heap.size by omega))
      go_wp2_with fail
      go_quiet (fail)
      go_wp2_with fail
      go_loopw [10, 11, 42] (fun s p i wr => ∃ k : Nat, k ≤ n ∧ i = .int .i64 k ∧ s = .int .i64 (zs.take k).sum ∧ p = .int .i64 (rsum P 1 (zs.take k)) ∧ Below w.heap.size w wr) (fun _ _ i _ => n - (intOf i).toNat)
      case atStart => exact ⟨0, Nat.zero_le _, rfl, rfl, rfl, by repeat (first | exact hbz | apply below_drewN)⟩
      case round =>
        obtain ⟨k, hk, rfl, rfl, rfl, hbr⟩ := hrel
        obtain ⟨wo, rfl⟩ : ∃ wo : World, wo = wr := ⟨_, rfl⟩
        obtain ⟨s1, s2⟩ := sum32_bd _ (take_bd HZ.out k)
        obtain ⟨r1, r2⟩ := rsum_bd (P := P) (m := 1) (by omega) _ (take_bd HZ.out k)
        have hlk : (zs.take k).length ≤ 100 := Nat.le_trans (List.length_take_le _ _) (by omega)
        generalize hS : (zs.take k).sum = S at *
        generalize hR : rsum P 1 (zs.take k) = R at *
        have HS := Lib.hid hS
        have HRR := Lib.hid hR
        clear hS hR
        by_cases hlt : k < n
        · obtain ⟨ad, rfl, _, hcell⟩ := (HR.out.below hbr).int_atq hlt
          obtain ⟨z1, z2⟩ := sums_at HZ.out (k := k) (by rw [HL.out]; exact hlt)
          have AS := Lib.hid (take_sum_succ (zs := zs) (k := k) (by rw [HL.out]; exact hlt))
          have AR := Lib.hid (rsum_succ (P := P) (m := 1) (zs := zs) (k := k) (by rw [HL.out]; exact hlt))
          rw [HS.out] at AS
          rw [HRR.out] at AR
          generalize zs.getD k 0 = z at *
          obtain ⟨y1, y2⟩ := rdI_bd (M := 2147483648) 1 (show 0 < P by omega) (show -2147483648 ≤ z ∧ z ≤ 2147483648 by omega)
          obtain ⟨e1, e2⟩ := DN.out z (by omega)
          have E1 := Lib.hid e1
          have E2 := Lib.hid e2
          clear e1 e2
          go_wp2_with fail
          refine (rescale_any _ _ _ _ _).mono ?_
          rintro e w2 ⟨rfl, hb2⟩
          rw [E1.out, E2.out]
          go_wp2_with fail
          go_round
          case rel => exact ⟨k + 1, by omega, by go_num, by rw [AS.out], by rw [AR.out], by repeat (first | exact below_two hbr hb2 | apply below_drewN)⟩
          case measure => simp [intOf]; omega
        · obtain rfl : k = n := by omega
          obtain ⟨e1, e2⟩ := DN.out S (by omega)
          have E1 := Lib.hid e1
          have E2 := Lib.hid e2
          have hT : zs.take k = zs := List.take_of_length_le (by rw [HL.out]; omega)
          have F1 := HS.out
          have F2 := HRR.out
          rw [hT] at F1 F2
          have fin := WH.out
          rw [F1, F2, HL.out] at fin
          obtain ⟨y1, y2⟩ := rdI_bd (M := 1000000000000) 1 (show 0 < P by omega) (show -1000000000000 ≤ S ∧ S ≤ 1000000000000 by omega)
          have ab := (absI_bd (n := R - rdI S P 1) (A := 1000000000000000) (by omega))
          obtain ⟨ab1, ab2⟩ := ab
          clear e1 e2 F1 F2 hT hlt
          go_wp2_with fail
          refine (rescale_any _ _ _ _ _).mono ?_
          rintro e w2 ⟨rfl, hb2⟩
          rw [E1.out, E2.out]
          go_wp2_with fail
          refine (refSize_any _ _ (by omega) (by omega)).mono ?_
          rintro e w3 ⟨rfl, rfl⟩
          go_wp2_with fail
          go_ret
          exact ⟨ret_bool (by simp), by repeat (first | exact below_two hbr hb2 | apply below_drewN)⟩
  · cases ev
    · have hcd : decide (x % 10 < y % 10) = false := by rw [decide_eq_false_iff_not]; exact hc
      have hft : y % 10 ≤ x % 10 := by omega
      clear hc
      obtain ⟨p1, p2⟩ := pw_bd (s := x % 10 - (y % 10)) (by omega) (by omega)
      generalize hP : pw (x % 10 - (y % 10)) = P at *
      have HP := Lib.hid hP
      clear hP
      have DN := Lib.hid (fun (n : Int) (hn : -1000000000000000 ≤ n ∧ n ≤ 1000000000000000) => rs_down (n := n) (f := x % 10) (t := y % 10) (m := 0) (by omega) (by omega) (by omega) (by omega) hn)
      rw [HP.out] at DN
      have WH := Lib.hid (rsum_whole (P := P) (m := 0) (by omega) (by omega) zs)
      go_enter Tryd.func7, Tryd.ntmps7
      go_wp2_with fail
      have c0 : (w.alloc (.cells #[.int .u8 x, .int .u8 y] 35)).cell? ⟨w.heap.size, 0, none⟩ = some (.int .u8 x) := by simp [go_sem]
      have c1 : (w.alloc (.cells #[.int .u8 x, .int .u8 y] 35)).cell? ⟨w.heap.size, 1, none⟩ = some (.int .u8 y) := by simp [go_sem]
      have hz : Below w.heap.size w (w.alloc (.cells #[.int .u8 x, .int .u8 y] 35)) := (Below.refl _ _).alloc (Nat.le_refl _) _
      have hzs : w.heap.size < (w.alloc (.cells #[.int .u8 x, .int .u8 y] 35)).heap.size := by simp
      have hEz := hE.after hz
      generalize (w.alloc (.cells #[.int .u8 x, .int .u8 y] 35)) = wz at *
      refine (awake_true _ hEz).mono ?_
      rintro e w1 ⟨rfl, hb⟩
      have d0 := (hb.cell (p := ⟨w.heap.size, 0, none⟩) (by show w.heap.size < _; omega)).trans c0
      have d1 := (hb.cell (p := ⟨w.heap.size, 1, none⟩) (by show w.heap.size < _; omega)).trans c1
      have hbz := hz.trans (hb.mono (show w.heap.size ≤ wz.heap.size by omega))
      go_wp2_with fail
      go_quiet (fail)
      go_wp2_with fail
      go_loopw [10, 11, 42] (fun s p i wr => ∃ k : Nat, k ≤ n ∧ i = .int .i64 k ∧ s = .int .i64 (zs.take k).sum ∧ p = .int .i64 (rsum P 0 (zs.take k)) ∧ Below w.heap.size w wr) (fun _ _ i _ => n - (intOf i).toNat)
      case atStart => exact ⟨0, Nat.zero_le _, rfl, rfl, rfl, by repeat (first | exact hbz | apply below_drewN)⟩
      case round =>
        obtain ⟨k, hk, rfl, rfl, rfl, hbr⟩ := hrel
        obtain ⟨wo, rfl⟩ : ∃ wo : World, wo = wr := ⟨_, rfl⟩
        obtain ⟨s1, s2⟩ := sum32_bd _ (take_bd HZ.out k)
        obtain ⟨r1, r2⟩ := rsum_bd (P := P) (m := 0) (by omega) _ (take_bd HZ.out k)
        have hlk : (zs.take k).length ≤ 100 := Nat.le_trans (List.length_take_le _ _) (by omega)
        generalize hS : (zs.take k).sum = S at *
        generalize hR : rsum P 0 (zs.take k) = R at *
        have HS := Lib.hid hS
        have HRR := Lib.hid hR
        clear hS hR
        by_cases hlt : k < n
        · obtain ⟨ad, rfl, _, hcell⟩ := (HR.out.below hbr).int_atq hlt
          obtain ⟨z1, z2⟩ := sums_at HZ.out (k := k) (by rw [HL.out]; exact hlt)
          have AS := Lib.hid (take_sum_succ (zs := zs) (k := k) (by rw [HL.out]; exact hlt))
          have AR := Lib.hid (rsum_succ (P := P) (m := 0) (zs := zs) (k := k) (by rw [HL.out]; exact hlt))
          rw [HS.out] at AS
          rw [HRR.out] at AR
          generalize zs.getD k 0 = z at *
          obtain ⟨y1, y2⟩ := rdI_bd (M := 2147483648) 0 (show 0 < P by omega) (show -2147483648 ≤ z ∧ z ≤ 2147483648 by omega)
          obtain ⟨e1, e2⟩ := DN.out z (by omega)
          have E1 := Lib.hid e1
          have E2 := Lib.hid e2
          clear e1 e2
          go_wp2_with fail
          refine (rescale_any _ _ _ _ _).mono ?_
          rintro e w2 ⟨rfl, hb2⟩
          rw [E1.out, E2.out]
          go_wp2_with fail
          go_round
          case rel => exact ⟨k + 1, by omega, by go_num, by rw [AS.out], by rw [AR.out], by repeat (first | exact below_two hbr hb2 | apply below_drewN)⟩
          case measure => simp [intOf]; omega
        · obtain rfl : k = n := by omega
          obtain ⟨e1, e2⟩ := DN.out S (by omega)
          have E1 := Lib.hid e1
          have E2 := Lib.hid e2
          have hT : zs.take k = zs := List.take_of_length_le (by rw [HL.out]; omega)
          have F1 := HS.out
          have F2 := HRR.out
          rw [hT] at F1 F2
          have fin := WH.out
          rw [F1, F2, HL.out] at fin
          obtain ⟨y1, y2⟩ := rdI_bd (M := 1000000000000) 0 (show 0 < P by omega) (show -1000000000000 ≤ S ∧ S ≤ 1000000000000 by omega)
          have ab := (absI_bd (n := R - rdI S P 0) (A := 1000000000000000) (by omega))
          obtain ⟨ab1, ab2⟩ := ab
          clear e1 e2 F1 F2 hT hlt
          go_wp2_with fail
          refine (rescale_any _ _ _ _ _).mono ?_
          rintro e w2 ⟨rfl, hb2⟩
          rw [E1.out, E2.out]
          go_wp2_with fail
          refine (refSize_any _ _ (by omega) (by omega)).mono ?_
          rintro e w3 ⟨rfl, rfl⟩
          go_wp2_with fail
          go_ret
          exact ⟨ret_bool (by simp), by repeat (first | exact below_two hbr hb2 | apply below_drewN)⟩
    · have hcd : decide (x % 10 < y % 10) = false := by rw [decide_eq_false_iff_not]; exact hc
      have hft : y % 10 ≤ x % 10 := by omega
      clear hc
      obtain ⟨p1, p2⟩ := pw_bd (s := x % 10 - (y % 10)) (by omega) (by omega)
      generalize hP : pw (x % 10 - (y % 10)) = P at *
      have HP := Lib.hid hP
      clear hP
      have DN := Lib.hid (fun (n : Int) (hn : -1000000000000000 ≤ n ∧ n ≤ 1000000000000000) => rs_down (n := n) (f := x % 10) (t := y % 10) (m := 1) (by omega) (by omega) (by omega) (by omega) hn)
      rw [HP.out] at DN
      have WH := Lib.hid (rsum_whole (P := P) (m := 1) (by omega) (by omega) zs)
      go_enter Tryd.func7, Tryd.ntmps7
      go_wp2_with fail
      have c0 : (w.alloc (.cells #[.int .u8 x, .int .u8 y] 35)).cell? ⟨w.heap.size, 0, none⟩ = some (.int .u8 x) := by simp [go_sem]
      have c1 : (w.alloc (.cells #[.int .u8 x, .int .u8 y] 35)).cell? ⟨w.heap.size, 1, none⟩ = some (.int .u8 y) := by simp [go_sem]
      have hz : Below w.heap.size w (w.alloc (.cells #[.int .u8 x, .int .u8 y] 35)) := (Below.refl _ _).alloc (Nat.le_refl _) _
      have hzs : w.heap.size < (w.alloc (.cells #[.int .u8 x, .int .u8 y] 35)).heap.size := by simp
      have hEz := hE.after hz
      generalize (w.alloc (.cells #[.int .u8 x, .int .u8 y] 35)) = wz at *
      refine (awake_true _ hEz).mono ?_
      rintro e w1 ⟨rfl, hb⟩
      have d0 := (hb.cell (p := ⟨w.heap.size, 0, none⟩) (by show w.heap.size < _; omega)).trans c0
      have d1 := (hb.cell (p := ⟨w.heap.size, 1, none⟩) (by show w.heap.size < _; omega)).trans c1
      have hbz := hz.trans (hb.mono (show w.heap.size ≤ wz.heap.size by omega))
      go_wp2_with fail
      go_quiet (fail)
      go_wp2_with fail
      go_loopw [10, 11, 42] (fun s p i wr => ∃ k : Nat, k ≤ n ∧ i = .int .i64 k ∧ s = .int .i64 (zs.take k).sum ∧ p = .int .i64 (rsum P 1 (zs.take k)) ∧ Below w.heap.size w wr) (fun _ _ i _ => n - (intOf i).toNat)
      case atStart => exact ⟨0, Nat.zero_le _, rfl, rfl, rfl, by repeat (first | exact hbz | apply below_drewN)⟩
      case round =>
        obtain ⟨k, hk, rfl, rfl, rfl, hbr⟩ := hrel
        obtain ⟨wo, rfl⟩ : ∃ wo : World, wo = wr := ⟨_, rfl⟩
        obtain ⟨s1, s2⟩ := sum32_bd _ (take_bd HZ.out k)
        obtain ⟨r1, r2⟩ := rsum_bd (P := P) (m := 1) (by omega) _ (take_bd HZ.out k)
        have hlk : (zs.take k).length ≤ 100 := Nat.le_trans (List.length_take_le _ _) (by omega)
        generalize hS : (zs.take k).sum = S at *
        generalize hR : rsum P 1 (zs.take k) = R at *
        have HS := Lib.hid hS
        have HRR := Lib.hid hR
        clear hS hR
        by_cases hlt : k < n
        · obtain ⟨ad, rfl, _, hcell⟩ := (HR.out.below hbr).int_atq hlt
          obtain ⟨z1, z2⟩ := sums_at HZ.out (k := k) (by rw [HL.out]; exact hlt)
          have AS := Lib.hid (take_sum_succ (zs := zs) (k := k) (by rw [HL.out]; exact hlt))
          have AR := Lib.hid (rsum_succ (P := P) (m := 1) (zs := zs) (k := k) (by rw [HL.out]; exact hlt))
          rw [HS.out] at AS
          rw [HRR.out] at AR
          generalize zs.getD k 0 = z at *
          obtain ⟨y1, y2⟩ := rdI_bd (M := 2147483648) 1 (show 0 < P by omega) (show -2147483648 ≤ z ∧ z ≤ 2147483648 by omega)
          obtain ⟨e1, e2⟩ := DN.out z (by omega)
          have E1 := Lib.hid e1
          have E2 := Lib.hid e2
          clear e1 e2
          go_wp2_with fail
          refine (rescale_any _ _ _ _ _).mono ?_
          rintro e w2 ⟨rfl, hb2⟩
          rw [E1.out, E2.out]
          go_wp2_with fail
          go_round
          case rel => exact ⟨k + 1, by omega, by go_num, by rw [AS.out], by rw [AR.out], by repeat (first | exact below_two hbr hb2 | apply below_drewN)⟩
          case measure => simp [intOf]; omega
        · obtain rfl : k = n := by omega
          obtain ⟨e1, e2⟩ := DN.out S (by omega)
          have E1 := Lib.hid e1
          have E2 := Lib.hid e2
          have hT : zs.take k = zs := List.take_of_length_le (by rw [HL.out]; omega)
          have F1 := HS.out
          have F2 := HRR.out
          rw [hT] at F1 F2
          have fin := WH.out
          rw [F1, F2, HL.out] at fin
          obtain ⟨y1, y2⟩ := rdI_bd (M := 1000000000000) 1 (show 0 < P by omega) (show -1000000000000 ≤ S ∧ S ≤ 1000000000000 by omega)
          have ab := (absI_bd (n := R - rdI S P 1) (A := 1000000000000000) (by omega))
          obtain ⟨ab1, ab2⟩ := ab
          clear e1 e2 F1 F2 hT hlt
          go_wp2_with fail
          refine (rescale_any _ _ _ _ _).mono ?_
          rintro e w2 ⟨rfl, hb2⟩
          rw [E1.out, E2.out]
          go_wp2_with fail
          refine (refSize_any _ _ (by omega) (by omega)).mono ?_
          rintro e w3 ⟨rfl, rfl⟩
          go_wp2_with fail
          go_ret
          exact ⟨ret_bool (by simp), by repeat (first | exact below_two hbr hb2 | apply below_drewN)⟩
end Go.Proofs.YtklpeibmjiolhaaDoor
