/-
  Sums: money.Sum, money.Add, the references, and the law MoneyAdd.
-/
import Derived.Test.YtaibaooebplehaaDoorMonW5
import Derived.Test.YtaibaooebplehaaDoorMem
import Derived.LoopTactic
namespace Go.Proofs.YtaibaooebplehaaDoor
open Go.RowKit
set_option linter.unusedVariables false
def allOk (zs : List Int) : Bool := zs.all okAmt
def sm1 (zs : List Int) : Int := if allOk zs then chk1 zs.sum else 0
def sm2 (zs : List Int) : Int := if allOk zs then chk2 zs.sum else 1
theorem sm_bad {zs : List Int} (h : allOk zs = false) : sm1 zs = 0 ∧ sm2 zs = 1 := by simp [sm1, sm2, h]
theorem sm_good {zs : List Int} (h : allOk zs = true) : sm1 zs = chk1 zs.sum ∧ sm2 zs = chk2 zs.sum := by simp [sm1, sm2, h]
theorem allOk_not {zs : List Int} {k : Nat} (hk : k < zs.length) (h : okAmt (zs.getD k 0) = false) : allOk zs = false := by
  unfold allOk
  rw [List.all_eq_false]
  refine ⟨zs.getD k 0, ?_, by rw [h]; simp⟩
  simp [List.getD, hk]
theorem take_ok_succ {zs : List Int} {k : Nat} (hk : k < zs.length) (h : allOk (zs.take k) = true) (h' : okAmt (zs.getD k 0) = true) : allOk (zs.take (k + 1)) = true := by
  unfold allOk at *
  rw [List.take_succ_eq_append_getElem hk, List.all_append, h]
  simp [List.getD, hk] at h'
  simp [h']
theorem take_sum_succ {zs : List Int} {k : Nat} (hk : k < zs.length) : (zs.take (k + 1)).sum = (zs.take k).sum + zs.getD k 0 := by
  rw [List.take_succ_eq_append_getElem hk, List.sum_append]
  simp [List.getD, hk]
theorem sum_bd {zs : List Int} (h : allOk zs = true) : -(1000000000000 * (zs.length : Int)) ≤ zs.sum ∧ zs.sum ≤ 1000000000000 * (zs.length : Int) := by
  induction zs with
  | nil => simp
  | cons z r ih =>
    unfold allOk at *
    simp only [List.all_cons, Bool.and_eq_true] at h
    have := ih h.2
    have := okAmt_iff.1 h.1
    simp only [List.sum_cons, List.length_cons]
    omega
set_option maxHeartbeats 1000000 in
theorem moneySum_any (zs : List Int) (A : Option Addr) (n c : Nat) (w : World) (B : Nat) (hr : Reads w B 1 A n (zs.map (Value.int .i64))) (hn : n ≤ 300) :
    Calls Tryd.prog 20 #[.slice A n c] w fun e w' => e = .returned (.tuple #[.int .i64 (sm1 zs), .int .i64 (sm2 zs)]) ∧ w = w' := by
  have hlen := hr.int_len
  have HL := Lib.hid hlen
  clear hlen
  have HR := Lib.hid hr
  clear hr
  go_enter Tryd.func20, Tryd.ntmps20
  go_wp2
  go_loop [4, 6, 9] (fun s _ i => ∃ k : Nat, k ≤ n ∧ i = .int .i64 k ∧ allOk (zs.take k) = true ∧ s = .int .i64 (zs.take k).sum) (fun _ _ i => n - (intOf i).toNat)
  case atStart => exact ⟨0, Nat.zero_le _, rfl, rfl, rfl⟩
  case round =>
    obtain ⟨k, hk, rfl, hok, rfl⟩ := hrel
    have HOK := Lib.hid hok
    have hbd := sum_bd hok
    have hlk : (zs.take k).length ≤ 300 := Nat.le_trans (List.length_take_le _ _) (by omega)
    clear hok
    by_cases hlt : k < n
    · obtain ⟨ad, rfl, _, hcell⟩ := HR.out.int_at hlt
      have hs := take_sum_succ (zs := zs) (k := k) (by rw [HL.out]; exact hlt)
      generalize hz : zs.getD k 0 = z at *
      generalize hS : (zs.take k).sum = S at *
      have HZ := Lib.hid hz
      have HS := Lib.hid hS
      have Hs := Lib.hid hs
      clear hz hS hs
      cases ho : okAmt z
      · have hfin := sm_bad (allOk_not (zs := zs) (k := k) (by rw [HL.out]; exact hlt) (by rw [HZ.out]; exact ho))
        have F := Lib.hid hfin
        clear hfin
        go_wp2_with (go_at_call 14; refine (moneyValid_any _ _).mono ?_; rintro e w' ⟨rfl, rfl⟩)
        go_ret2
        exact ⟨pair_int F.out.1.symm F.out.2.symm, rfl⟩
      · obtain ⟨z1, z2⟩ := okAmt_iff.1 ho
        have hok' := take_ok_succ (zs := zs) (k := k) (by rw [HL.out]; exact hlt) HOK.out (by rw [HZ.out]; exact ho)
        have HOK' := Lib.hid hok'
        clear hok'
        go_wp2_with (go_at_call 14; refine (moneyValid_any _ _).mono ?_; rintro e w' ⟨rfl, rfl⟩)
        go_round
        case rel => exact ⟨k + 1, by omega, by go_num, HOK'.out, by rw [Hs.out]⟩
        case measure => simp [intOf]; omega
    · have hkn : k = n := by omega
      have hfin := sm_good (zs := zs) (by have := HOK.out; rwa [List.take_of_length_le (by rw [HL.out]; omega)] at this)
      have hT : zs.take k = zs := List.take_of_length_le (by rw [HL.out]; omega)
      have F := Lib.hid hfin
      have HT := Lib.hid hT
      clear hkn hfin hT
      go_wp2_with (go_at_call 27; refine (checked_any _ _).mono ?_; rintro e w' ⟨rfl, rfl⟩)
      go_ret2
      exact ⟨pair_int (by rw [F.out.1, HT.out]) (by rw [F.out.2, HT.out]), rfl⟩
set_option maxHeartbeats 1000000 in
theorem refSum_any (zs : List Int) (A : Option Addr) (n c : Nat) (w : World) (B : Nat) (hr : Reads w B 1 A n (zs.map (Value.int .i64))) (hn : n ≤ 300) :
    Calls Tryd.prog 31 #[.slice A n c] w fun e w' => e = .returned (.tuple #[.int .i64 (sm1 zs), .int .i64 (sm2 zs)]) ∧ w = w' := by
  have hlen := hr.int_len
  have HL := Lib.hid hlen
  clear hlen
  have HR := Lib.hid hr
  clear hr
  go_enter Tryd.func31, Tryd.ntmps31
  go_wp2
  go_loop [4, 5] (fun s i => ∃ k : Nat, k ≤ n ∧ i = .int .i64 k ∧ allOk (zs.take k) = true ∧ s = .int .i64 (zs.take k).sum) (fun _ i => n - (intOf i).toNat)
  case atStart => exact ⟨0, Nat.zero_le _, rfl, rfl, rfl⟩
  case round =>
    obtain ⟨k, hk, rfl, hok, rfl⟩ := hrel
    have HOK := Lib.hid hok
    have hbd := sum_bd hok
    have hlk : (zs.take k).length ≤ 300 := Nat.le_trans (List.length_take_le _ _) (by omega)
    clear hok
    by_cases hlt : k < n
    · obtain ⟨ad, rfl, _, hcell⟩ := HR.out.int_at hlt
      have hs := take_sum_succ (zs := zs) (k := k) (by rw [HL.out]; exact hlt)
      generalize hz : zs.getD k 0 = z at *
      generalize hS : (zs.take k).sum = S at *
      have HZ := Lib.hid hz
      have HS := Lib.hid hS
      have Hs := Lib.hid hs
      clear hz hS hs
      cases ho : okAmt z
      · have hfin := sm_bad (allOk_not (zs := zs) (k := k) (by rw [HL.out]; exact hlt) (by rw [HZ.out]; exact ho))
        have F := Lib.hid hfin
        clear hfin
        go_wp2_with (go_at_call 15; refine (refValid_any _ _).mono ?_; rintro e w' ⟨rfl, rfl⟩)
        go_ret2
        exact ⟨pair_int F.out.1.symm F.out.2.symm, rfl⟩
      · obtain ⟨z1, z2⟩ := okAmt_iff.1 ho
        have hok' := take_ok_succ (zs := zs) (k := k) (by rw [HL.out]; exact hlt) HOK.out (by rw [HZ.out]; exact ho)
        have HOK' := Lib.hid hok'
        clear hok'
        go_wp2_with (go_at_call 15; refine (refValid_any _ _).mono ?_; rintro e w' ⟨rfl, rfl⟩)
        go_round
        case rel => exact ⟨k + 1, by omega, by go_num, HOK'.out, by rw [Hs.out]⟩
        case measure => simp [intOf]; omega
    · have hkn : k = n := by omega
      have hfin := sm_good (zs := zs) (by have := HOK.out; rwa [List.take_of_length_le (by rw [HL.out]; omega)] at this)
      have hT : zs.take k = zs := List.take_of_length_le (by rw [HL.out]; omega)
      have F := Lib.hid hfin
      have HT := Lib.hid hT
      clear hkn hfin hT
      go_wp2_with (go_at_call 29; refine (refChecked_any _ _).mono ?_; rintro e w' ⟨rfl, rfl⟩)
      go_ret2
      exact ⟨pair_int (by rw [F.out.1, HT.out]) (by rw [F.out.2, HT.out]), rfl⟩
set_option maxHeartbeats 1000000 in
theorem total_any (zs : List Int) (A : Option Addr) (n c : Nat) (w : World) (B : Nat) (hr : Reads w B 1 A n (zs.map (Value.int .i64))) (hn : n ≤ 300) :
    Calls Tryd.prog 21 #[.slice A n c] w fun e w' => e = .returned (.tuple #[.int .i64 (sm1 zs), .int .i64 (sm2 zs)]) ∧ w = w' := by
  have hlen := hr.int_len
  have HL := Lib.hid hlen
  clear hlen
  have HR := Lib.hid hr
  clear hr
  go_enter Tryd.func21, Tryd.ntmps21
  go_wp2
  go_loop [4] (fun i => ∃ k : Nat, k ≤ n ∧ i = .int .i64 k) (fun i => n - (intOf i).toNat)
  case atStart => exact ⟨0, Nat.zero_le _, rfl⟩
  case round =>
    obtain ⟨k, hk, rfl⟩ := hrel
    by_cases hlt : k < n
    · obtain ⟨ad, rfl, _, hcell⟩ := HR.out.int_at hlt
      generalize hz : zs.getD k 0 = z at *
      have HZ := Lib.hid hz
      clear hz
      cases ho : okAmt z
      · have hfin := sm_bad (allOk_not (zs := zs) (k := k) (by rw [HL.out]; exact hlt) (by rw [HZ.out]; exact ho))
        have F := Lib.hid hfin
        clear hfin
        go_wp2_with (go_at_call 15; refine (refValid_any _ _).mono ?_; rintro e w' ⟨rfl, rfl⟩)
        go_ret2
        exact ⟨pair_int F.out.1.symm F.out.2.symm, rfl⟩
      · go_wp2_with (go_at_call 15; refine (refValid_any _ _).mono ?_; rintro e w' ⟨rfl, rfl⟩)
        go_round
        case rel => exact ⟨k + 1, by omega, by go_num⟩
        case measure => simp [intOf]; omega
    · go_wp2_with (go_at_call 31; refine (refSum_any zs _ _ _ _ _ HR.out hn).mono ?_; rintro e w' ⟨rfl, rfl⟩)
      go_ret2
      exact ⟨rfl, rfl⟩
/-! Add -/
theorem sm_two (a b : Int) : allOk [a, b] = (okAmt a && okAmt b) := by simp [allOk]
theorem sm_sum (a b : Int) : ([a, b] : List Int).sum = a + b := by simp
theorem add_comm_sm (a b : Int) : sm1 [b, a] = sm1 [a, b] ∧ sm2 [b, a] = sm2 [a, b] := by
  unfold sm1 sm2
  rw [sm_two, sm_two, sm_sum, sm_sum, Bool.and_comm, Int.add_comm]
  exact ⟨rfl, rfl⟩
theorem add_any (a b : Int) (w : World) : Calls Tryd.prog 16 #[.int .i64 a, .int .i64 b] w fun e w' => e = .returned (.tuple #[.int .i64 (sm1 [a, b]), .int .i64 (sm2 [a, b])]) ∧ w = w' := by
  cases ha : okAmt a
  · obtain ⟨e1, e2⟩ := sm_bad (zs := [a, b]) (by rw [sm_two, ha]; rfl)
    rw [e1, e2]; clear e1 e2
    go_enter Tryd.func16, Tryd.ntmps16
    go_wp2_with (go_at_call 14; refine (moneyValid_any _ _).mono ?_; rintro e w' ⟨rfl, rfl⟩)
    go_ret2
    exact ⟨rfl, rfl⟩
  cases hb : okAmt b
  · obtain ⟨e1, e2⟩ := sm_bad (zs := [a, b]) (by rw [sm_two, ha, hb]; rfl)
    rw [e1, e2]; clear e1 e2
    go_enter Tryd.func16, Tryd.ntmps16
    go_wp2_with (go_at_call 14; refine (moneyValid_any _ _).mono ?_; rintro e w' ⟨rfl, rfl⟩)
    go_ret2
    exact ⟨rfl, rfl⟩
  obtain ⟨e1, e2⟩ := sm_good (zs := [a, b]) (by rw [sm_two, ha, hb]; rfl)
  rw [e1, e2, sm_sum]; clear e1 e2
  have ha' := okAmt_iff.1 ha
  have hb' := okAmt_iff.1 hb
  go_enter Tryd.func16, Tryd.ntmps16
  go_wp2_with (first | (go_at_call 14; refine (moneyValid_any _ _).mono ?_; rintro e w' ⟨rfl, rfl⟩) | (go_at_call 27; refine (checked_any _ _).mono ?_; rintro e w' ⟨rfl, rfl⟩))
  go_ret2
  exact ⟨rfl, rfl⟩
theorem reads_two (w : World) (a b : Int) (T : TypeId) : Reads (w.alloc (.cells #[.int .i64 a, .int .i64 b] T)) (w.heap.size + 1) 1 (some ⟨w.heap.size, 0, none⟩) 2 ([a, b].map (Value.int .i64)) := by
  refine ⟨rfl, fun _ => ⟨_, rfl, Nat.lt_succ_self _, fun j u hj => ?_⟩⟩
  have hb := Blk.new w T #[.int .i64 a, .int .i64 b]
  have e : (⟨w.heap.size, 0, none⟩ : Addr).add j = ⟨w.heap.size, j, none⟩ := by unfold Addr.add; split <;> simp_all
  rw [e, hb.cell j, ← hj]
  match j with
  | 0 => rfl
  | 1 => rfl
  | j + 2 => simp
theorem refAdd_any (a b : Int) (w : World) : Calls Tryd.prog 28 #[.int .i64 a, .int .i64 b] w fun e w' => e = .returned (.tuple #[.int .i64 (sm1 [a, b]), .int .i64 (sm2 [a, b])]) ∧ Below w.heap.size w w' := by
  go_enter Tryd.func28, Tryd.ntmps28
  go_wp2_with fail
  refine (refSum_any [a, b] _ _ _ _ _ (reads_two w a b _) (by omega)).mono ?_
  rintro e w' ⟨rfl, rfl⟩
  go_wp2_with fail
  go_ret2
  exact ⟨rfl, (Below.refl _ _).alloc (Nat.le_refl _) _⟩
theorem addition_any (a b : Int) (w : World) : Calls Tryd.prog 17 #[.int .i64 a, .int .i64 b] w fun e w' => e = .returned (.tuple #[.int .i64 (sm1 [a, b]), .int .i64 (sm2 [a, b])]) ∧ Below w.heap.size w w' := by
  cases ha : okAmt a
  · obtain ⟨e1, e2⟩ := sm_bad (zs := [a, b]) (by rw [sm_two, ha]; rfl)
    rw [e1, e2]; clear e1 e2
    go_enter Tryd.func17, Tryd.ntmps17
    go_wp2_with (go_at_call 15; refine (refValid_any _ _).mono ?_; rintro e w' ⟨rfl, rfl⟩)
    go_ret2
    exact ⟨rfl, Below.refl _ _⟩
  cases hb : okAmt b
  · obtain ⟨e1, e2⟩ := sm_bad (zs := [a, b]) (by rw [sm_two, ha, hb]; rfl)
    rw [e1, e2]; clear e1 e2
    go_enter Tryd.func17, Tryd.ntmps17
    go_wp2_with (go_at_call 15; refine (refValid_any _ _).mono ?_; rintro e w' ⟨rfl, rfl⟩)
    go_ret2
    exact ⟨rfl, Below.refl _ _⟩
  go_enter Tryd.func17, Tryd.ntmps17
  go_wp2_with (go_at_call 15; refine (refValid_any _ _).mono ?_; rintro e w' ⟨rfl, rfl⟩)
  refine (refAdd_any _ _ _).mono ?_
  rintro e w1 ⟨rfl, hbl⟩
  go_wp2_with fail
  go_ret2
  exact ⟨rfl, hbl⟩
set_option maxHeartbeats 1000000 in
theorem lawAdd (a b : Int) (w : World) (hE : Env w) :
    Calls Tryd.prog 5 #[.int .i64 a, .int .i64 b] w fun e w' => e = .returned (.bool true) ∧ Below w.heap.size w w' := by
  obtain ⟨c1, c2⟩ := add_comm_sm a b
  have C1 := Lib.hid c1
  have C2 := Lib.hid c2
  clear c1 c2
  cases hg : (okAmt a && okAmt b && okAmt (a + b))
  · have hz : (sm2 [a, b] != 0) = true := by
      unfold sm2 chk2
      rw [sm_two, sm_sum]
      cases ha : okAmt a <;> cases hb : okAmt b <;> cases hc : okAmt (a + b) <;> simp_all
    clear hg
    go_enter Tryd.func5, Tryd.ntmps5
    go_wp2_with fail
    refine (awake_true _ hE).mono ?_
    rintro e w1 ⟨rfl, hb⟩
    go_wp2_with (first | (go_at_call 14; refine (moneyValid_any _ _).mono ?_; rintro e w' ⟨rfl, rfl⟩) | (go_at_call 15; refine (refValid_any _ _).mono ?_; rintro e w' ⟨rfl, rfl⟩))
    refine (add_any _ _ _).mono ?_
    rintro e w' ⟨rfl, rfl⟩
    go_wp2_with fail
    refine (add_any _ _ _).mono ?_
    rintro e w' ⟨rfl, rfl⟩
    rw [C1.out, C2.out]
    go_wp2_with fail
    refine (addition_any _ _ _).mono ?_
    rintro e w2 ⟨rfl, hb2⟩
    go_wp2_with fail
    go_ret
    exact ⟨rfl, below_two hb hb2⟩
  · simp only [Bool.and_eq_true] at hg
    obtain ⟨⟨ha, hb⟩, hc⟩ := hg
    obtain ⟨e1, e2⟩ := sm_good (zs := [a, b]) (by rw [sm_two, ha, hb]; rfl)
    obtain ⟨f1, f2⟩ := chk_ok (okAmt_iff.1 hc)
    rw [sm_sum, f1] at e1
    rw [sm_sum, f2] at e2
    obtain ⟨e3, e4⟩ := sm_good (zs := [a + b, -b]) (by rw [sm_two, hc, okAmt_neg, hb]; rfl)
    obtain ⟨f3, f4⟩ := chk_ok (okAmt_iff.1 ha)
    rw [sm_sum, show a + b + -b = a from by omega, f3] at e3
    rw [sm_sum, show a + b + -b = a from by omega, f4] at e4
    obtain ⟨ha1, ha2⟩ := okAmt_iff.1 ha
    obtain ⟨hb1, hb2⟩ := okAmt_iff.1 hb
    have E1 := Lib.hid e1
    have E2 := Lib.hid e2
    have E3 := Lib.hid e3
    have E4 := Lib.hid e4
    clear e1 e2 e3 e4 f1 f2 f3 f4 ha hb hc
    go_enter Tryd.func5, Tryd.ntmps5
    go_wp2_with fail
    refine (awake_true _ hE).mono ?_
    rintro e w1 ⟨rfl, hb⟩
    go_wp2_with (first | (go_at_call 14; refine (moneyValid_any _ _).mono ?_; rintro e w' ⟨rfl, rfl⟩) | (go_at_call 15; refine (refValid_any _ _).mono ?_; rintro e w' ⟨rfl, rfl⟩))
    refine (add_any _ _ _).mono ?_
    rintro e w' ⟨rfl, rfl⟩
    rw [E1.out, E2.out]
    go_wp2_with fail
    refine (add_any _ _ _).mono ?_
    rintro e w' ⟨rfl, rfl⟩
    rw [C1.out, C2.out, E1.out, E2.out]
    go_wp2_with fail
    refine (addition_any _ _ _).mono ?_
    rintro e w2 ⟨rfl, hb2⟩
    rw [E1.out, E2.out]
    go_wp2_with fail
    refine (add_any _ _ _).mono ?_
    rintro e w' ⟨rfl, rfl⟩
    rw [E3.out, E4.out]
    go_wp2_with fail
    go_ret
    exact ⟨rfl, below_two hb hb2⟩
end Go.Proofs.YtaibaooebplehaaDoor
