/-
  Changed of both.
-/
import Derived.Test.YtenlbjobjnpghaaDoorRepPl2
import Derived.Test.YtenlbjobjnpghaaDoorRep11
namespace Go.Proofs.YtenlbjobjnpghaaDoor
open Go.RowKit
set_option linter.unusedVariables false
def ChSays (qs bs : List SBal) (rs : List SRow) (w : World) (e : Ending) (w' : World) : Prop :=
  ∃ v, e = .returned (.tuple #[v, .int .i64 (chE qs bs rs)]) ∧ w'.ownsRow w.heap.size 3 1 v (chO qs bs rs).length (((chO qs bs rs).map Int.ofNat).map (Value.int .i64)) ∧ Below w.heap.size w w'
theorem ch_none {qs bs : List SBal} {rs : List SRow} {x : Int} {w w' : World} (h : chE qs bs rs = x ∧ chO qs bs rs = []) (hb : Below w.heap.size w w') : ChSays qs bs rs w (.returned (.tuple #[.slice none 0 0, .int .i64 x])) w' := by
  refine ⟨.slice none 0 0, by rw [h.1], ?_, hb⟩
  rw [h.2]
  exact World.ownsRow_nil _ _ _ _
theorem ch_some {qs bs : List SBal} {rs : List SRow} {w w2 w' : World} {v : Value} (h : chE qs bs rs = 0 ∧ chO qs bs rs = chL qs bs rs) (hown : w'.ownsRow w2.heap.size 3 1 v (chUp qs bs rs rs.length).length (((chUp qs bs rs rs.length).map Int.ofNat).map (Value.int .i64))) (hb : Below w.heap.size w w2) (hb2 : Below w2.heap.size w2 w') : ChSays qs bs rs w (.returned (.tuple #[v, .int .i64 0])) w' := by
  refine ⟨v, by rw [h.1], ?_, below_two hb hb2⟩
  rw [h.2, ← chUp_all]
  exact own_mono hown hb.size
theorem res_blk {w : World} {g : Nat} {T : TypeId} {a b c d : Value} (h : Blk w g T #[a, b, c, d]) : w.cell? ⟨g, 0, none⟩ = some a ∧ w.cell? ⟨g, 1, none⟩ = some b ∧ w.cell? ⟨g, 2, none⟩ = some c ∧ w.cell? ⟨g, 3, none⟩ = some d :=
  ⟨h.cell 0, h.cell 1, h.cell 2, h.cell 3⟩
theorem own_drewN {w : World} {base n size : Nat} {e : TypeId} {v : Value} {xs : List Value} (h : w.ownsRow base e size v n xs) (k : Nat) : (w.drewN k).ownsRow base e size v n xs := h
set_option maxRecDepth 100000 in
set_option maxHeartbeats 8000000 in
theorem changed_any (qs bs : List SBal) (rs : List SRow) (A1 A2 A' : Option Addr) (n1 c1 n2 c2 n' c' : Nat) (B : Nat) (w : World) (hr1 : Reads w B 2 A1 n1 (balsCells qs)) (hr2 : Reads w B 2 A2 n2 (balsCells bs)) (hr' : Reads w B 5 A' n' (rowsCells rs)) (hB : B ≤ w.heap.size) (hn1 : n1 ≤ 200) (hn2 : n2 ≤ 200) (hs1 : smallB qs) (hs2 : smallB bs) (hn63 : n' ≤ 10000) (hnc : n' ≤ c') (hnm : ∀ r ∈ rs, r.name.length ≤ 3000) :
    Calls Tryd.prog 21 #[resV A1 n1 c1, resV A2 n2 c2, .slice A' n' c'] w (ChSays qs bs rs w) := by
  obtain ⟨i0, hi0, hz0, hz1, hz2⟩ := info_parts info_int
  unfold resV
  have HLR := Lib.hid (rows_len hr')
  have hbA := ((Below.refl w.heap.size w).alloc (Nat.le_refl _) (.cells #[.int .i64 0, .slice none 0 0, .slice none 0 0, .slice A1 n1 c1] 33)).alloc (by simp) (.cells #[.int .i64 0, .slice none 0 0, .slice none 0 0, .slice A2 n2 c2] 33)
  have HBA := Lib.hid hbA
  have hk1 := (Blk.new w 33 #[.int .i64 0, .slice none 0 0, .slice none 0 0, .slice A1 n1 c1]).alloc (.cells #[.int .i64 0, .slice none 0 0, .slice none 0 0, .slice A2 n2 c2] 33)
  have hk2 := Blk.new (w.alloc (.cells #[.int .i64 0, .slice none 0 0, .slice none 0 0, .slice A1 n1 c1] 33)) 33 #[.int .i64 0, .slice none 0 0, .slice none 0 0, .slice A2 n2 c2]
  rw [World.size_alloc] at hk2
  have HK1 := Lib.hid hk1
  have HK2 := Lib.hid hk2
  have HMA := Lib.hid (make_any qs rs A1 A' n1 c1 n' c' B _ (hr1.low hB (Nat.le_refl _) hbA) (hr'.low hB (Nat.le_refl _) hbA) (by have := hbA.size; omega) hn1 hs1 (by omega) hnc hnm)
  have HMB : Hid (∀ w', Below w.heap.size w w' → Calls Tryd.prog 11 #[resV A2 n2 c2, .slice A' n' c'] w' (MakeSays bs rs 51 w')) := fun w' hb => make_any bs rs A2 A' n2 c2 n' c' B w' (hr2.low hB (Nat.le_refl _) hb) (hr'.low hB (Nat.le_refl _) hb) (by have := hb.size; omega) hn2 hs2 (by omega) hnc hnm
  unfold resV at HMA HMB
  clear hr1 hr2 hr' hs1 hs2 hnm hk1 hk2 hbA
  cases ha : (mkE qs rs == 0)
  · have F := Lib.hid (ch_a (bs := bs) ha)
    have ha' : (mkE qs rs != 0) = true := by rw [bne, ha]; rfl
    clear ha
    go_enter Tryd.func21, Tryd.ntmps21
    go_wp2_with fail
    refine HMA.out.mono ?_
    rintro e w1 ⟨v, rfl, _, hb1⟩
    have hb := below_two HBA.out hb1
    generalize mkE qs rs = E at *
    clear hb1
    go_wp2_with fail
    go_ret2
    exact ch_none F.out hb
  have ha' : (mkE qs rs != 0) = false := by rw [bne, ha]; rfl
  have HA := Lib.hid ha
  have HAM := Lib.hid (mk_ok (show mkE qs rs = 0 by simpa using ha))
  clear ha
  cases hbq : (mkE bs rs == 0)
  · have F := Lib.hid (ch_b HA.out hbq)
    have hbq' : (mkE bs rs != 0) = true := by rw [bne, hbq]; rfl
    clear hbq
    go_enter Tryd.func21, Tryd.ntmps21
    go_wp2_with fail
    refine HMA.out.mono ?_
    rintro e w1 ⟨v, rfl, _, hb1⟩
    have hb := below_two HBA.out hb1
    have hkk := HK2.out.below hb1 (by simp)
    obtain ⟨y0, y1, y2, y3⟩ := res_blk hkk
    generalize mkE qs rs = E at *
    clear hb1 hkk
    go_wp2_with fail
    refine (HMB.out w1 hb).mono ?_
    rintro e w2 ⟨v2, rfl, _, hb2⟩
    have hb3 := below_two hb hb2
    generalize mkE bs rs = E2 at *
    clear hb hb2 y0 y1 y2 y3
    go_wp2_with fail
    go_ret2
    exact ch_none F.out hb3
  have F := Lib.hid (ch_c HA.out hbq)
  have HBM := Lib.hid (mk_ok (show mkE bs rs = 0 by simpa using hbq))
  have hbq' : (mkE bs rs != 0) = false := by rw [bne, hbq]; rfl
  clear hbq
  go_enter Tryd.func21, Tryd.ntmps21
  go_wp2_with fail
  refine HMA.out.mono ?_
  rintro e w1 ⟨v, rfl, hown, hb1⟩
  have hb := below_two HBA.out hb1
  rw [HAM.out.2.2, List.length_map, HLR.out] at hown
  obtain ⟨D1, d1, rfl⟩ := own_slice hown
  have HRA := Lib.hid (Reads.of_own hown)
  have hkk := HK2.out.below hb1 (by simp)
  obtain ⟨y0, y1, y2, y3⟩ := res_blk hkk
  generalize mkE qs rs = E at *
  clear hb1 hkk hown
  go_wp2_with fail
  refine (HMB.out w1 hb).mono ?_
  rintro e w2 ⟨v, rfl, hown, hb2⟩
  have hb3 := below_two hb hb2
  rw [HBM.out.2.2, List.length_map, HLR.out] at hown
  obtain ⟨D2, d2, rfl⟩ := own_slice hown
  have HRB := Lib.hid (Reads.of_own hown)
  have HRA := Lib.hid (HRA.out.below hb2)
  have HBW := Lib.hid hb3
  have hz12 := hb2.size
  generalize mkE bs rs = E2 at *
  clear hb hb2 hb3 hown y0 y1 y2 y3
  go_wp2_with fail
  go_loopw [11, 33] (fun v i wr => ∃ k : Nat, k ≤ n' ∧ i = .int .i64 k ∧ wr.ownsRow w2.heap.size 3 1 v (chUp qs bs rs k).length (((chUp qs bs rs k).map Int.ofNat).map (Value.int .i64)) ∧ Below w2.heap.size w2 wr) (fun _ i _ => n' - (intOf i).toNat)
  case atStart => exact ⟨0, Nat.zero_le _, rfl, World.ownsRow_nil _ _ _ _, Below.refl _ _⟩
  case round =>
    obtain ⟨k, hk, rfl, hown, hbr⟩ := hrel
    obtain ⟨wo, rfl⟩ : ∃ wo : World, wo = wr := ⟨_, rfl⟩
    have HO := Lib.hid hown
    clear hown
    by_cases hlt : k < n'
    · have k3 : decide ((k : Int) < (n' : Int)) = true := by rw [decide_eq_true_eq]; omega
      have hkl : k < rs.length := by rw [HLR.out]; exact hlt
      have b1 : (k : Int) < (n' : Int) := by omega
      obtain ⟨x1, rfl, hab1, c0, c1', c2', c3', c4', c5'⟩ := (HRA.out.low (by omega) (Nat.le_refl _) hbr).line_at hlt
      obtain ⟨x2, rfl, hab2, d0, d1', d2', d3', d4', d5'⟩ := (HRB.out.low (Nat.le_refl _) (Nat.le_refl _) hbr).line_at hlt
      rw [mkL_getD hkl] at c5' d5'
      have HUP := Lib.hid (chUp_step qs bs rs k)
      have hle := chUp_le qs bs rs k
      clear c0 c1' c2' c3' c4' d0 d1' d2' d3' d4' hkl
      generalize amtR qs (rs.getD k default) = X at *
      generalize amtR bs (rs.getD k default) = Y at *
      cases hxy : (X != Y)
      · have hxe : X = Y := by simpa using hxy
        have F2 : Hid (chUp qs bs rs (k + 1) = chUp qs bs rs k) := by show _ = _; rw [HUP.out, if_pos hxe, List.append_nil]
        have hxy2 : (X == Y) = true := by rw [hxe]; simp
        clear hxe
        go_wp2_with fail
        go_quiet (fail)
        go_wp2_with fail
        go_roundw
        case rel => exact ⟨k + 1, by omega, by go_num, by rw [F2.out]; exact own_drewN HO.out nq, below_drewN hbr nq⟩
        case measure => simp [intOf]; omega
      · have hxe : ¬ X = Y := by intro h; rw [h] at hxy; simp at hxy
        have F2 : Hid ((chUp qs bs rs (k + 1)).map Int.ofNat = (chUp qs bs rs k).map Int.ofNat ++ [(k : Int)] ∧ (chUp qs bs rs (k + 1)).length = (chUp qs bs rs k).length + 1) := by
          show _ ∧ _
          rw [HUP.out, if_neg hxe]; simp
        have hxy2 : (X == Y) = false := by rw [beq_eq_false_iff_ne]; exact hxe
        go_wp2_with fail
        go_quiet (fail)
        go_wp2_with (at_builtin; refine wpList_append_any _ rfl (.tmp 47) (.tmp 49) _ rfl w2.heap.size 3 i0 _ 1 8 Tryd.underlying53 hi0 hz0 hz1 hz2 rfl (by omega) _ (chUp qs bs rs k).length (((chUp qs bs rs k).map Int.ofNat).map (Value.int .i64)) rfl (World.ownsRow.alloc (own_drewN HO.out nq) _) (wo.heap.size + 1) (some ⟨wo.heap.size, 0, none⟩) 1 1 [.int .i64 (k : Int)] rfl (reads_one (wo.drewN nq) #[.int .i64 (k : Int)] 3 1 rfl) (ints_one [(k : Int)]) (by simp only [maxLen]; omega) (by omega) (by simp only [World.size_alloc]; have := hbr.size; exact Nat.le_succ_of_le this) ?_; intro v4 w4 hown4 hg4 hat4)
        go_wp2_with fail
        go_roundw
        case rel => exact ⟨k + 1, by omega, by go_num, by rw [F2.out.1, F2.out.2, List.map_append]; exact hown4, ((below_drewN hbr nq).alloc (by exact hbr.size) _).grown hg4 (by simp only [World.size_alloc]; have := hbr.size; exact Nat.le_succ_of_le this) (own_base HO.out)⟩
        case measure => simp [intOf]; omega
    · have k3 : decide ((k : Int) < (n' : Int)) = false := by rw [decide_eq_false_iff_not]; omega
      have hkn : k = rs.length := by rw [HLR.out]; omega
      have hown := HO.out
      rw [hkn] at hown
      have HO1 := Lib.hid hown
      clear hown HO hkn
      go_wp2_with fail
      go_ret2
      exact ch_some F.out HO1.out HBW.out hbr
set_option maxRecDepth 100000 in
set_option maxHeartbeats 8000000 in
theorem refChanged_any (qs bs : List SBal) (rs : List SRow) (A1 A2 A' : Option Addr) (n1 c1 n2 c2 n' c' : Nat) (B : Nat) (w : World) (hr1 : Reads w B 2 A1 n1 (balsCells qs)) (hr2 : Reads w B 2 A2 n2 (balsCells bs)) (hr' : Reads w B 5 A' n' (rowsCells rs)) (hB : B ≤ w.heap.size) (hn1 : n1 ≤ 200) (hn2 : n2 ≤ 200) (hs1 : smallB qs) (hs2 : smallB bs) (hn63 : n' ≤ 10000) (hnm : ∀ r ∈ rs, r.name.length ≤ 3000) :
    Calls Tryd.prog 22 #[resV A1 n1 c1, resV A2 n2 c2, .slice A' n' c'] w (ChSays qs bs rs w) := by
  obtain ⟨i0, hi0, hz0, hz1, hz2⟩ := info_parts info_int
  unfold resV
  have HLR := Lib.hid (rows_len hr')
  have hbA := ((Below.refl w.heap.size w).alloc (Nat.le_refl _) (.cells #[.int .i64 0, .slice none 0 0, .slice none 0 0, .slice A1 n1 c1] 33)).alloc (by simp) (.cells #[.int .i64 0, .slice none 0 0, .slice none 0 0, .slice A2 n2 c2] 33)
  have HBA := Lib.hid hbA
  have hk1 := (Blk.new w 33 #[.int .i64 0, .slice none 0 0, .slice none 0 0, .slice A1 n1 c1]).alloc (.cells #[.int .i64 0, .slice none 0 0, .slice none 0 0, .slice A2 n2 c2] 33)
  have hk2 := Blk.new (w.alloc (.cells #[.int .i64 0, .slice none 0 0, .slice none 0 0, .slice A1 n1 c1] 33)) 33 #[.int .i64 0, .slice none 0 0, .slice none 0 0, .slice A2 n2 c2]
  rw [World.size_alloc] at hk2
  have HK1 := Lib.hid hk1
  have HK2 := Lib.hid hk2
  have HMA := Lib.hid (refMake_any qs rs A1 A' n1 c1 n' c' B _ (hr1.low hB (Nat.le_refl _) hbA) (hr'.low hB (Nat.le_refl _) hbA) (by have := hbA.size; omega) hn1 hs1 (by omega) hnm)
  have HMB : Hid (∀ w', Below w.heap.size w w' → Calls Tryd.prog 12 #[resV A2 n2 c2, .slice A' n' c'] w' (MakeSays bs rs 65 w')) := fun w' hb => refMake_any bs rs A2 A' n2 c2 n' c' B w' (hr2.low hB (Nat.le_refl _) hb) (hr'.low hB (Nat.le_refl _) hb) (by have := hb.size; omega) hn2 hs2 (by omega) hnm
  unfold resV at HMA HMB
  clear hr1 hr2 hr' hs1 hs2 hnm hk1 hk2 hbA
  cases ha : (mkE qs rs == 0)
  · have F := Lib.hid (ch_a (bs := bs) ha)
    have ha' : (mkE qs rs != 0) = true := by rw [bne, ha]; rfl
    clear ha
    go_enter Tryd.func22, Tryd.ntmps22
    go_wp2_with fail
    refine HMA.out.mono ?_
    rintro e w1 ⟨v, rfl, _, hb1⟩
    have hb := below_two HBA.out hb1
    generalize mkE qs rs = E at *
    clear hb1
    go_wp2_with fail
    go_ret2
    exact ch_none F.out hb
  have ha' : (mkE qs rs != 0) = false := by rw [bne, ha]; rfl
  have HA := Lib.hid ha
  have HAM := Lib.hid (mk_ok (show mkE qs rs = 0 by simpa using ha))
  clear ha
  cases hbq : (mkE bs rs == 0)
  · have F := Lib.hid (ch_b HA.out hbq)
    have hbq' : (mkE bs rs != 0) = true := by rw [bne, hbq]; rfl
    clear hbq
    go_enter Tryd.func22, Tryd.ntmps22
    go_wp2_with fail
    refine HMA.out.mono ?_
    rintro e w1 ⟨v, rfl, _, hb1⟩
    have hb := below_two HBA.out hb1
    have hkk := HK2.out.below hb1 (by simp)
    obtain ⟨y0, y1, y2, y3⟩ := res_blk hkk
    generalize mkE qs rs = E at *
    clear hb1 hkk
    go_wp2_with fail
    refine (HMB.out w1 hb).mono ?_
    rintro e w2 ⟨v2, rfl, _, hb2⟩
    have hb3 := below_two hb hb2
    generalize mkE bs rs = E2 at *
    clear hb hb2 y0 y1 y2 y3
    go_wp2_with fail
    go_ret2
    exact ch_none F.out hb3
  have F := Lib.hid (ch_c HA.out hbq)
  have HBM := Lib.hid (mk_ok (show mkE bs rs = 0 by simpa using hbq))
  have hbq' : (mkE bs rs != 0) = false := by rw [bne, hbq]; rfl
  clear hbq
  go_enter Tryd.func22, Tryd.ntmps22
  go_wp2_with fail
  refine HMA.out.mono ?_
  rintro e w1 ⟨v, rfl, hown, hb1⟩
  have hb := below_two HBA.out hb1
  rw [HAM.out.2.2, List.length_map, HLR.out] at hown
  obtain ⟨D1, d1, rfl⟩ := own_slice hown
  have HRA := Lib.hid (Reads.of_own hown)
  have hkk := HK2.out.below hb1 (by simp)
  obtain ⟨y0, y1, y2, y3⟩ := res_blk hkk
  generalize mkE qs rs = E at *
  clear hb1 hkk hown
  go_wp2_with fail
  refine (HMB.out w1 hb).mono ?_
  rintro e w2 ⟨v, rfl, hown, hb2⟩
  have hb3 := below_two hb hb2
  rw [HBM.out.2.2, List.length_map, HLR.out] at hown
  obtain ⟨D2, d2, rfl⟩ := own_slice hown
  have HRB := Lib.hid (Reads.of_own hown)
  have HRA := Lib.hid (HRA.out.below hb2)
  have HBW := Lib.hid hb3
  have hz12 := hb2.size
  generalize mkE bs rs = E2 at *
  clear hb hb2 hb3 hown y0 y1 y2 y3
  go_wp2_with fail
  go_loopw [11, 12] (fun v i wr => ∃ k : Nat, k ≤ n' ∧ i = .int .i64 k ∧ wr.ownsRow w2.heap.size 3 1 v (chUp qs bs rs k).length (((chUp qs bs rs k).map Int.ofNat).map (Value.int .i64)) ∧ Below w2.heap.size w2 wr) (fun _ i _ => n' - (intOf i).toNat)
  case atStart => exact ⟨0, Nat.zero_le _, rfl, World.ownsRow_nil _ _ _ _, Below.refl _ _⟩
  case round =>
    obtain ⟨k, hk, rfl, hown, hbr⟩ := hrel
    obtain ⟨wo, rfl⟩ : ∃ wo : World, wo = wr := ⟨_, rfl⟩
    have HO := Lib.hid hown
    clear hown
    by_cases hlt : k < n'
    · have k3 : decide ((k : Int) < (n' : Int)) = true := by rw [decide_eq_true_eq]; omega
      have hkl : k < rs.length := by rw [HLR.out]; exact hlt
      have b1 : (k : Int) < (n' : Int) := by omega
      obtain ⟨x1, rfl, hab1, c0, c1', c2', c3', c4', c5'⟩ := (HRA.out.low (by omega) (Nat.le_refl _) hbr).line_at hlt
      obtain ⟨x2, rfl, hab2, d0, d1', d2', d3', d4', d5'⟩ := (HRB.out.low (Nat.le_refl _) (Nat.le_refl _) hbr).line_at hlt
      rw [mkL_getD hkl] at c5' d5'
      have HUP := Lib.hid (chUp_step qs bs rs k)
      have hle := chUp_le qs bs rs k
      clear c0 c1' c2' c3' c4' d0 d1' d2' d3' d4' hkl
      generalize amtR qs (rs.getD k default) = X at *
      generalize amtR bs (rs.getD k default) = Y at *
      cases hxy : (X != Y)
      · have hxe : X = Y := by simpa using hxy
        have F2 : Hid (chUp qs bs rs (k + 1) = chUp qs bs rs k) := by show _ = _; rw [HUP.out, if_pos hxe, List.append_nil]
        have hxy2 : (X == Y) = true := by rw [hxe]; simp
        clear hxe
        go_wp2_with fail
        go_quiet (fail)
        go_wp2_with fail
        go_roundw
        case rel => exact ⟨k + 1, by omega, by go_num, by rw [F2.out]; exact own_drewN HO.out nq, below_drewN hbr nq⟩
        case measure => simp [intOf]; omega
      · have hxe : ¬ X = Y := by intro h; rw [h] at hxy; simp at hxy
        have F2 : Hid ((chUp qs bs rs (k + 1)).map Int.ofNat = (chUp qs bs rs k).map Int.ofNat ++ [(k : Int)] ∧ (chUp qs bs rs (k + 1)).length = (chUp qs bs rs k).length + 1) := by
          show _ ∧ _
          rw [HUP.out, if_neg hxe]; simp
        have hxy2 : (X == Y) = false := by rw [beq_eq_false_iff_ne]; exact hxe
        go_wp2_with fail
        go_quiet (fail)
        go_wp2_with (at_builtin; refine wpList_append_any _ rfl (.tmp 48) (.tmp 50) _ rfl w2.heap.size 3 i0 _ 1 8 Tryd.underlying53 hi0 hz0 hz1 hz2 rfl (by omega) _ (chUp qs bs rs k).length (((chUp qs bs rs k).map Int.ofNat).map (Value.int .i64)) rfl (World.ownsRow.alloc (own_drewN HO.out nq) _) (wo.heap.size + 1) (some ⟨wo.heap.size, 0, none⟩) 1 1 [.int .i64 (k : Int)] rfl (reads_one (wo.drewN nq) #[.int .i64 (k : Int)] 3 1 rfl) (ints_one [(k : Int)]) (by simp only [maxLen]; omega) (by omega) (by simp only [World.size_alloc]; have := hbr.size; exact Nat.le_succ_of_le this) ?_; intro v4 w4 hown4 hg4 hat4)
        go_wp2_with fail
        go_roundw
        case rel => exact ⟨k + 1, by omega, by go_num, by rw [F2.out.1, F2.out.2, List.map_append]; exact hown4, ((below_drewN hbr nq).alloc (by exact hbr.size) _).grown hg4 (by simp only [World.size_alloc]; have := hbr.size; exact Nat.le_succ_of_le this) (own_base HO.out)⟩
        case measure => simp [intOf]; omega
    · have k3 : decide ((k : Int) < (n' : Int)) = false := by rw [decide_eq_false_iff_not]; omega
      have hkn : k = rs.length := by rw [HLR.out]; omega
      have hown := HO.out
      rw [hkn] at hown
      have HO1 := Lib.hid hown
      clear hown HO hkn
      go_wp2_with fail
      go_ret2
      exact ch_some F.out HO1.out HBW.out hbr
end Go.Proofs.YtenlbjobjnpghaaDoor
