/-
  The reference's Parse.
-/
import Derived.Test.YtophffmofpmbpaaDoorCel22
import Derived.Test.YtophffmofpmbpaaDoorCelPz3
import Derived.StillTailTactics
import Derived.OneCell
import Derived.IntWalk
namespace Go.Proofs.YtophffmofpmbpaaDoor
open Go.RowKit
set_option linter.unusedVariables false
def nB (ws : List (List UInt8)) (m : Nat) (x : Int) : List Int := (List.range 3).map fun j => if j < m then refN ws (j + 1) else if j = m then x else -1
theorem nB_len (ws : List (List UInt8)) (m : Nat) (x : Int) : (nB ws m x).length = 3 := by simp [nB]
theorem nB_set (ws : List (List UInt8)) (m : Nat) (x y : Int) : ((nB ws m x).map intV).toArray.setIfInBounds m (intV y) = ((nB ws m y).map intV).toArray := by
  match m with
  | 0 => simp [nB, List.range_succ]
  | 1 => simp [nB, List.range_succ]
  | 2 => simp [nB, List.range_succ]
  | m + 3 => simp [nB, List.range_succ]
theorem nB_at (ws : List (List UInt8)) (m : Nat) (x : Int) (h : m < 3) : (nB ws m x).getD m 0 = x := by
  obtain rfl | rfl | rfl : m = 0 ∨ m = 1 ∨ m = 2 := by omega
  · simp [nB, List.range_succ]
  · simp [nB, List.range_succ]
  · simp [nB, List.range_succ]
theorem nB_next (ws : List (List UInt8)) (m : Nat) (h : m < 3) : nB ws m (refN ws (m + 1)) = nB ws (m + 1) (-1) := by
  obtain rfl | rfl | rfl : m = 0 ∨ m = 1 ∨ m = 2 := by omega
  · simp [nB, List.range_succ]
  · simp [nB, List.range_succ]
  · simp [nB, List.range_succ]
theorem nB_end {ws : List (List UInt8)} {m : Nat} (h : ¬ (m + 1 < ws.length ∧ m + 1 ≤ 3)) : nB ws m (-1) = [refN ws 1, refN ws 2, refN ws 3] := by
  have hz : ∀ j, ws.length ≤ j → refN ws j = -1 := fun j hj => by unfold refN; rw [if_neg (by omega)]
  match m, h with
  | 0, h => simp [nB, List.range_succ, hz 1 (by omega), hz 2 (by omega), hz 3 (by omega)]
  | 1, h => simp [nB, List.range_succ, hz 2 (by omega), hz 3 (by omega)]
  | 2, h => simp [nB, List.range_succ, hz 3 (by omega)]
  | m + 3, h => simp [nB, List.range_succ]
theorem own_word {w : World} {base g c j : Nat} {ws : List (List UInt8)} (h : w.ownsRow base 9 1 (.slice (some ⟨g, 0, none⟩) ws.length c) ws.length (ws.map strV)) (hj : j < ws.length) : w.cell? ⟨g, j, none⟩ = some (.string ⟨(ws.getD j []).toArray⟩) := by
  have e : (⟨g, 0, none⟩ : Addr).add j = ⟨g, j, none⟩ := by unfold Addr.add; split <;> simp_all
  have := h.cells (g := g) rfl j (.string ⟨(ws.getD j []).toArray⟩) (by simp [List.getD, hj, strV])
  rw [e] at this
  exact this
set_option maxRecDepth 100000 in
set_option maxHeartbeats 8000000 in
theorem refParse_any (l : List UInt8) (w : World) (hl : l.length ≤ 1000) :
    Calls Tryd.prog 17 #[.string ⟨l.toArray⟩] w fun e w' => e = .returned (pcR l) ∧ Below w.heap.size w w' := by
  have HPD := Lib.hid (pcD_ref l)
  have hz0 := Blk.new w 23 #[.int .i64 0, .int .i64 0, .int .i64 0, .int .i64 0]
  have HZ0 := Lib.hid hz0
  have HB0 := Lib.hid ((Below.refl w.heap.size w).alloc (Nat.le_refl _) (.cells (#[.int .i64 0, .int .i64 0, .int .i64 0, .int .i64 0] : Array Value) 23))
  have HWO := Lib.hid (words_any l (w.alloc (.cells #[.int .i64 0, .int .i64 0, .int .i64 0, .int .i64 0] 23)) hl)
  have hwl := wordsL_ne l
  have hwb : (wordsL l).length ≤ l.length + 1 := by
    clear HPD HWO hz0 HZ0 HB0 hwl hl
    induction l with
    | nil => simp [wordsL]
    | cons b r ih =>
      simp only [wordsL]
      split
      · simp; omega
      · split
        · simp
        · rename_i h; rw [h] at ih; simp at ih ⊢; omega
  clear hz0
  generalize wordsL l = ws at *
  have hwp : 0 < ws.length := List.length_pos_iff.2 hwl
  clear hwl
  obtain ⟨w0, hw0⟩ : ∃ w0, ws.getD 0 [] = w0 := ⟨_, rfl⟩
  have HW0 := Lib.hid hw0
  clear hw0
  go_enter Tryd.func17, Tryd.ntmps17
  go_wp2_with fail
  refine HWO.out.mono ?_
  rintro e w1 ⟨v, rfl, hown, hb⟩
  rw [World.size_alloc] at hown
  obtain ⟨g, cap, rfl, hgb, hglt⟩ := hown.form hwp
  have d0 := own_word hown hwp
  rw [HW0.out] at d0
  have HO1 := Lib.hid hown
  have HB1 := Lib.hid (below_two HB0.out hb)
  have HZ1 := Lib.hid (HZ0.out.below hb (by simp))
  have b0 : (0 : Int) < (ws.length : Int) := by omega
  clear hb hown HWO HZ0 HB0
  go_wp2_with fail
  refine (refStage_any w0 _).mono ?_
  rintro e w2 ⟨rfl, hb⟩
  have HO2 := Lib.hid (own_below HO1.out hb)
  have HB2 := Lib.hid (below_two HB1.out hb)
  have hz2 := HZ1.out.below hb HZ1.out.lt
  have hg2 : g < w2.heap.size := by have := hb.size; omega
  clear hb HO1 HB1 HZ1 d0 hglt
  by_cases hst : stOf w0 = 0
  · have hpn : pcD l = none := by rw [HPD.out, HW0.out, if_pos hst]
    have HPN := Lib.hid (pcR_no hpn)
    rw [hst]
    obtain ⟨y0, y1, y2, y3⟩ := st_blk hz2
    have fz := hz2.frozen
    have HBK := Lib.hid (set_cell (a' := .int .i64 0) (b' := .int .i64 0) (c' := .int .i64 0) (d' := .int .i64 0) hz2)
    have HBZ := Lib.hid ((((HB2.out.setCell (p := ⟨w.heap.size, 0, none⟩) (Nat.le_refl _) (.int .i64 0)).setCell (p := ⟨w.heap.size, 1, none⟩) (Nat.le_refl _) (.int .i64 0)).setCell (p := ⟨w.heap.size, 2, none⟩) (Nat.le_refl _) (.int .i64 0)).setCell (p := ⟨w.heap.size, 3, none⟩) (Nat.le_refl _) (.int .i64 0))
    clear hz2 hpn
    go_wp2_with fail
    obtain ⟨z0, z1, z2, z3⟩ := st_blk HBK.out
    refine bodyPost_ret (v := .tuple #[.agg #[.int .i64 0, .int .i64 0, .int .i64 0, .int .i64 0], .int .i64 3]) ?_ rfl ⟨by rw [HPN.out], HBZ.out⟩
    simp [results, Tryd.results17, go_sem, z0, z1, z2, z3]
  obtain ⟨k, hk⟩ : ∃ k, stOf w0 = k := ⟨_, rfl⟩
  have HPD2 : Hid (pcD l = if validC (refD ws) && (textC (refD ws) == l) then some (refD ws) else none) := by show _ = _; rw [HPD.out, HW0.out, if_neg hst]
  have HRD : Hid (refD ws = if uO k then ofC k (refN ws 1) (refN ws 2) (refN ws 3) else if uE k then ofC k (refN ws 1) 0 (refN ws 2) else ofC k 0 0 (refN ws 1)) := by show _ = _; rw [← hk, ← HW0.out]; rfl
  have e1 : decide (1 ≤ k) = true := by rw [decide_eq_true_eq]; omega
  rw [hk, e1]
  clear hst hk HPD
  have hn1 : w.heap.size < w2.heap.size := hz2.lt
  have HZ3 := Lib.hid (hz2.alloc (.cells ((nB ws 0 (-1)).map intV).toArray 48))
  have HN3 := Lib.hid (Blk.new w2 48 ((nB ws 0 (-1)).map intV).toArray)
  have HB3 := Lib.hid (HB2.out.alloc HB2.out.size (.cells ((nB ws 0 (-1)).map intV).toArray 48))
  have HO3 := Lib.hid (HO2.out.alloc (.cells ((nB ws 0 (-1)).map intV).toArray 48))
  clear hz2 HO2 HB2
  generalize hP : w2.heap.size = P at *
  go_wp2_with fail
  go_loopw [8] (fun i wr => ∃ m : Nat, m ≤ 3 ∧ i = .int .i64 ((m : Int) + 1) ∧ Blk wr P 48 ((nB ws m (-1)).map intV).toArray ∧ Blk wr w.heap.size 23 #[.int .i64 0, .int .i64 0, .int .i64 0, .int .i64 0] ∧ Below w.heap.size w wr ∧ wr.ownsRow (w.heap.size + 1) 9 1 (.slice (some ⟨g, 0, none⟩) ws.length cap) ws.length (ws.map strV)) (fun i _ => 5 - (intOf i).toNat)
  case atStart => exact ⟨0, by omega, rfl, HN3.out, HZ3.out, HB3.out, HO3.out⟩
  case round =>
    clear HN3 HZ3 HB3 HO3 hP
    obtain ⟨m, hm, rfl, hn, hz, hbr, hown⟩ := hrel
    obtain ⟨wo, rfl⟩ : ∃ wo : World, wo = wr := ⟨_, rfl⟩
    have HN := Lib.hid hn
    have HZ := Lib.hid hz
    have HB := Lib.hid hbr
    have HO := Lib.hid hown
    clear hn hz hbr hown
    by_cases hgo : m + 1 < ws.length ∧ m + 1 ≤ 3
    · obtain ⟨h1, h2⟩ := hgo
      have k1 : decide ((m : Int) + 1 < (ws.length : Int)) = true := by rw [decide_eq_true_eq]; omega
      have k2 : decide ((m : Int) + 1 ≤ 3) = true := by rw [decide_eq_true_eq]; omega
      have k4 : decide (m + 1 < ws.length) = true := by rw [decide_eq_true_eq]; omega
      have b1 : (m : Int) + 1 < (ws.length : Int) := by omega
      have b2 : (m : Int) < 3 := by omega
      have hm3 : m < 3 := by omega
      have n0 := int_cell HN.out (j := m) (by rw [nB_len]; exact hm3)
      have f0 := HN.out.frozen
      have KN := HN.out.set_ m (intV 0)
      rw [nB_set] at KN
      have HN2 := Lib.hid KN
      have HZ2 := Lib.hid (HZ.out.far (p := ⟨P, m, none⟩) (by simp only []; omega) (intV 0))
      have HB2 := Lib.hid (HB.out.setCell (p := ⟨P, m, none⟩) (by simp only []; omega) (intV 0))
      have HO2 := Lib.hid (ownsRow_setCell_other HO.out (a := ⟨P, m, none⟩) (by simp [Value.ownBlock]; omega) (intV 0))
      obtain ⟨x, hx⟩ : ∃ x, ws.getD (m + 1) [] = x := ⟨_, rfl⟩
      have HX := Lib.hid hx
      have HRN : Hid (refN ws (m + 1) = refNum x) := by show _ = _; unfold refN; rw [if_pos h1, hx]
      clear KN hx
      go_wp2_with fail
      go_loopw [9] (fun i wr => ∃ q : Nat, q ≤ x.length ∧ q ≤ 4 ∧ i = .int .i64 (q : Int) ∧ Blk wr P 48 ((nB ws m (refNumT x q)).map intV).toArray ∧ Blk wr w.heap.size 23 #[.int .i64 0, .int .i64 0, .int .i64 0, .int .i64 0] ∧ Below w.heap.size w wr ∧ wr.ownsRow (w.heap.size + 1) 9 1 (.slice (some ⟨g, 0, none⟩) ws.length cap) ws.length (ws.map strV)) (fun i _ => 4 - (intOf i).toNat)
      case atStart => exact ⟨0, by omega, by omega, rfl, HN2.out, HZ2.out, HB2.out, HO2.out⟩
      case round =>
        clear HN HZ HB HO HN2 HZ2 HB2 HO2 n0 f0
        obtain ⟨q, hq, hq4, rfl, hn, hz, hbr, hown⟩ := hrel
        obtain ⟨wi, rfl⟩ : ∃ wi : World, wi = wr := ⟨_, rfl⟩
        have d1 := own_word hown h1
        rw [HX.out] at d1
        have HN := Lib.hid hn
        have HZ := Lib.hid hz
        have HB := Lib.hid hbr
        have HO := Lib.hid hown
        clear hn hz hbr hown
        by_cases hgq : q < x.length ∧ q < 4
        · obtain ⟨h3, h4⟩ := hgq
          have k3 : decide ((q : Int) < (x.length : Int)) = true := by rw [decide_eq_true_eq]; omega
          have k5 : decide (q < x.length) = true := by rw [decide_eq_true_eq]; omega
          have k6 : decide ((q : Int) < 4) = true := by rw [decide_eq_true_eq]; omega
          have b3 : (q : Int) < (x.length : Int) := by omega
          have hsz : q < (⟨x.toArray⟩ : ByteArray).size := by rw [mk_size]; exact h3
          have n0 := int_cell HN.out (j := m) (by rw [nB_len]; exact hm3)
          rw [nB_at _ _ _ hm3] at n0
          have f0 := HN.out.frozen
          have bd := refNumT_bd x q hq hq4
          have F : Hid (refNumT x (q + 1) = 10 * refNumT x q + ((⟨x.toArray⟩ : ByteArray)[q].toNat : Int) - 48) := by
            show _ = _
            rw [refNumT_succ h3, mk_getD]; rfl
          have lb : (⟨x.toArray⟩ : ByteArray)[q].toNat < 256 := ((⟨x.toArray⟩ : ByteArray)[q]).toNat_lt
          have KN := HN.out.set_ m (intV (10 * refNumT x q + ((⟨x.toArray⟩ : ByteArray)[q].toNat : Int) - 48))
          rw [nB_set, ← F.out] at KN
          have HN2 := Lib.hid KN
          have HZ2 := Lib.hid (HZ.out.far (p := ⟨P, m, none⟩) (by simp only []; omega) (intV (refNumT x (q + 1))))
          have HB2 := Lib.hid (HB.out.setCell (p := ⟨P, m, none⟩) (by simp only []; omega) (intV (refNumT x (q + 1))))
          have HO2 := Lib.hid (ownsRow_setCell_other HO.out (a := ⟨P, m, none⟩) (by simp [Value.ownBlock]; omega) (intV (refNumT x (q + 1))))
          clear KN
          generalize refNumT x q = y at *
          have y1 : -1000000 ≤ y := bd.1
          have y2 : y ≤ 1000000 := bd.2
          clear bd
          have b4 : (0 : Int) ≤ (m : Int) := by omega
          have b5 : (0 : Int) ≤ (m : Int) + 1 := by omega
          have v0 : ((m : Int) + 1).toNat = m + 1 := by omega
          have b6 : (0 : Int) ≤ (q : Int) := by omega
          have v1 : IntKind.i64.wrap (m : Int) = (m : Int) := IntWalk.i64_in _ (by omega)
          have v2 : IntKind.i64.wrap (10 * y) = 10 * y := IntWalk.i64_in _ (by omega)
          have v3 : IntKind.i64.wrap (10 * y + ((⟨x.toArray⟩ : ByteArray)[q].toNat : Int)) = 10 * y + ((⟨x.toArray⟩ : ByteArray)[q].toNat : Int) := IntWalk.i64_in _ (by omega)
          have v4 : IntKind.i64.wrap (10 * y + ((⟨x.toArray⟩ : ByteArray)[q].toNat : Int) - 48) = 10 * y + ((⟨x.toArray⟩ : ByteArray)[q].toNat : Int) - 48 := IntWalk.i64_in _ (by omega)
          have v5 : IntKind.i64.wrap ((⟨x.toArray⟩ : ByteArray)[q].toNat : Int) = ((⟨x.toArray⟩ : ByteArray)[q].toNat : Int) := IntWalk.i64_in _ (by omega)
          go_wp2_with fail
          go_still_tail 17, (by kernel_rfl)
          change wpList _ _ _ _ _ wi.drew
          clear v0 v1 v2 v3 v4 v5
          go_wp2_with fail
          refine ⟨⟨q + 1, by omega, by omega, by go_num, ?_, ?_, ?_, ?_⟩, by simp [intOf]; omega⟩
          · rw [← F.out]; exact HN2.out.drew
          · rw [← F.out]; exact HZ2.out.drew
          · rw [← F.out]; exact Below.drew HB2.out
          · rw [← F.out]; exact HO2.out.drew
        · have hnum : refNumT x q = refNum x := refNum_stop hq hq4 hgq
          have hN3 := HN.out
          rw [hnum, ← HRN.out, nB_next _ _ hm3] at hN3
          have HN3 := Lib.hid hN3
          clear hnum hN3 HN
          by_cases h3 : q < x.length
          · have h4 : ¬ q < 4 := fun h => hgq ⟨h3, h⟩
            have k3 : decide ((q : Int) < (x.length : Int)) = true := by rw [decide_eq_true_eq]; omega
            have k5 : decide (q < x.length) = true := by rw [decide_eq_true_eq]; omega
            have k6 : decide ((q : Int) < 4) = false := by rw [decide_eq_false_iff_not]; omega
            clear hgq
            go_wp2_with fail
            exact ⟨⟨m + 1, by omega, by go_num, HN3.out, HZ.out, HB.out, HO.out⟩, by simp [intOf]; omega⟩
          · have k3 : decide ((q : Int) < (x.length : Int)) = false := by rw [decide_eq_false_iff_not]; omega
            have k5 : decide (q < x.length) = false := by rw [decide_eq_false_iff_not]; omega
            clear hgq
            go_wp2_with fail
            exact ⟨⟨m + 1, by omega, by go_num, HN3.out, HZ.out, HB.out, HO.out⟩, by simp [intOf]; omega⟩
    · have hN3 := HN.out
      rw [nB_end hgo] at hN3
      obtain ⟨nn0, nn1, nn2⟩ : wo.cell? ⟨P, 0, none⟩ = some (.int .i64 (refN ws 1)) ∧ wo.cell? ⟨P, 1, none⟩ = some (.int .i64 (refN ws 2)) ∧ wo.cell? ⟨P, 2, none⟩ = some (.int .i64 (refN ws 3)) := ⟨hN3.cell 0, hN3.cell 1, hN3.cell 2⟩
      generalize refN ws 1 = r1 at *
      generalize refN ws 2 = r2 at *
      generalize refN ws 3 = r3 at *
      have HOF : Hid (∀ a b c w, Calls Tryd.prog 15 #[.int .i64 k, .int .i64 a, .int .i64 b, .int .i64 c] w fun e' w' => e' = .returned (cellV (ofC k a b c)) ∧ Below w.heap.size w w') := fun a b c w => refOf_any k a b c w
      have HN3 := Lib.hid hN3
      clear hN3 HN HO
      have hsp : (m + 1 < ws.length ∧ ¬ m + 1 ≤ 3) ∨ ¬ m + 1 < ws.length := by omega
      clear hgo
      obtain ⟨D, hD⟩ : ∃ D, refD ws = D := ⟨_, rfl⟩
      have key : ∃ a b c : Int, ofC k a b c = D ∧ ((uO k = false ∧ uE k = false ∧ a = 0 ∧ b = 0 ∧ c = r1) ∨ (uO k = false ∧ uE k = true ∧ a = r1 ∧ b = 0 ∧ c = r2) ∨ (uO k = true ∧ a = r1 ∧ b = r2 ∧ c = r3)) := by
        have := HRD.out
        cases ho : uO k
        · cases hee : uE k
          · rw [ho, hee] at this; exact ⟨0, 0, r1, by rw [← hD, this]; rfl, .inl ⟨rfl, rfl, rfl, rfl, rfl⟩⟩
          · rw [ho, hee] at this; exact ⟨r1, 0, r2, by rw [← hD, this]; rfl, .inr (.inl ⟨rfl, rfl, rfl, rfl, rfl⟩)⟩
        · rw [ho] at this; exact ⟨r1, r2, r3, by rw [← hD, this]; rfl, .inr (.inr ⟨rfl, rfl, rfl, rfl⟩)⟩
      have HPD3 : Hid (pcD l = if validC D && (textC D == l) then some D else none) := by show _ = _; rw [HPD2.out, hD]
      clear HPD2 HRD
      rw [hD] at *
      clear hD
      obtain ⟨a, b, c, hof, hc⟩ := key
      have HOD := Lib.hid hof
      clear hof
      have HU := Lib.hid (refUses_any k wo)
      generalize uO k = fo at *
      generalize uE k = fe at *
      generalize uP k = fp at *
      obtain ⟨x0, x1, x2, x3⟩ := D
      have HVA : Hid (∀ w, Calls Tryd.prog 11 #[.agg #[.int .i64 x0, .int .i64 x1, .int .i64 x2, .int .i64 x3]] w fun e w' => e = .returned (.bool (validC ⟨x0, x1, x2, x3⟩)) ∧ Below w.heap.size w w') := refValid_any ⟨x0, x1, x2, x3⟩
      have HTA : Hid (∀ w, Calls Tryd.prog 13 #[.agg #[.int .i64 x0, .int .i64 x1, .int .i64 x2, .int .i64 x3]] w fun e w' => e = .returned (.string ⟨(textC ⟨x0, x1, x2, x3⟩).toArray⟩) ∧ Below w.heap.size w w') := refText_any ⟨x0, x1, x2, x3⟩
      have HYS : Hid (validC ⟨x0, x1, x2, x3⟩ = true → textC ⟨x0, x1, x2, x3⟩ = l → pcR l = .tuple #[.agg #[.int .i64 x0, .int .i64 x1, .int .i64 x2, .int .i64 x3], .int .i64 0]) := fun h1 h2 => by
        have := pcR_yes (pcD_iff.2 ⟨h1, h2⟩)
        exact this
      generalize hVV : validC ⟨x0, x1, x2, x3⟩ = V at *
      generalize hTT : textC ⟨x0, x1, x2, x3⟩ = T at *
      clear hVV hTT
      have hPo : P < wo.heap.size := HN3.out.lt
      have hk := HN3.out.alloc (.cells (#[.int .i64 0, .int .i64 0, .int .i64 0, .int .i64 0] : Array Value) 23)
      clear nn0 nn1 nn2 HN3
      obtain ⟨nn0, nn1, nn2⟩ : (wo.alloc (.cells (#[.int .i64 0, .int .i64 0, .int .i64 0, .int .i64 0] : Array Value) 23)).cell? ⟨P, 0, none⟩ = some (.int .i64 r1) ∧ (wo.alloc (.cells (#[.int .i64 0, .int .i64 0, .int .i64 0, .int .i64 0] : Array Value) 23)).cell? ⟨P, 1, none⟩ = some (.int .i64 r2) ∧ (wo.alloc (.cells (#[.int .i64 0, .int .i64 0, .int .i64 0, .int .i64 0] : Array Value) 23)).cell? ⟨P, 2, none⟩ = some (.int .i64 r3) := ⟨hk.cell 0, hk.cell 1, hk.cell 2⟩
      clear hk
      have HQ := Lib.hid (Blk.new wo 23 (#[.int .i64 0, .int .i64 0, .int .i64 0, .int .i64 0] : Array Value))
      have HZ4 := Lib.hid (HZ.out.alloc (.cells (#[.int .i64 0, .int .i64 0, .int .i64 0, .int .i64 0] : Array Value) 23))
      have HB4 := Lib.hid (HB.out.alloc HB.out.size (.cells (#[.int .i64 0, .int .i64 0, .int .i64 0, .int .i64 0] : Array Value) 23))
      have hZo : w.heap.size < wo.heap.size := HZ.out.lt
      clear HZ HB
      generalize hQ : wo.heap.size = Q at *
      have hsq : (decide ((m : Int) + 1 < (ws.length : Int)) = true ∧ decide ((m : Int) + 1 ≤ 3) = false ∧ decide (m + 1 < ws.length) = true) ∨ (decide ((m : Int) + 1 < (ws.length : Int)) = false ∧ decide (m + 1 < ws.length) = false) := by
        rw [decide_eq_true_eq, decide_eq_false_iff_not, decide_eq_true_eq, decide_eq_false_iff_not, decide_eq_false_iff_not]
        omega
      clear hsp
      rcases hsq with ⟨k1, k2, k3⟩ | ⟨k1, k3⟩
      all_goals
        rcases hc with ⟨rfl, rfl, rfl, rfl, rfl⟩ | ⟨rfl, rfl, rfl, rfl, rfl⟩ | ⟨rfl, rfl, rfl, rfl⟩
        all_goals
          go_wp2_with fail
          refine HU.out.mono ?_
          rintro e' wx ⟨rfl, rfl⟩
          go_wp2_with fail
          refine (HOF.out _ _ _ _).mono ?_
          rintro e' w5 ⟨rfl, hb5⟩
          rw [HOD.out]
          have hq5 := HQ.out.below hb5 HQ.out.lt
          have HZ5 := Lib.hid (HZ4.out.below hb5 HZ4.out.lt)
          have HB5 := Lib.hid (below_two HB4.out hb5)
          clear nn0 nn1 nn2 HQ HZ4 HB4 hb5
          obtain ⟨y0, y1, y2, y3⟩ := st_blk hq5
          have fz := hq5.frozen
          have HQ6 := Lib.hid (set_cell (a' := .int .i64 x0) (b' := .int .i64 x1) (c' := .int .i64 x2) (d' := .int .i64 x3) hq5)
          have HB6 := Lib.hid ((((HB5.out.setCell (p := ⟨Q, 0, none⟩) (by simp only []; omega) (.int .i64 x0)).setCell (p := ⟨Q, 1, none⟩) (by simp only []; omega) (.int .i64 x1)).setCell (p := ⟨Q, 2, none⟩) (by simp only []; omega) (.int .i64 x2)).setCell (p := ⟨Q, 3, none⟩) (by simp only []; omega) (.int .i64 x3))
          have HZ6 := Lib.hid ((((HZ5.out.far (p := ⟨Q, 0, none⟩) (by simp only []; omega) (.int .i64 x0)).far (p := ⟨Q, 1, none⟩) (by simp only []; omega) (.int .i64 x1)).far (p := ⟨Q, 2, none⟩) (by simp only []; omega) (.int .i64 x2)).far (p := ⟨Q, 3, none⟩) (by simp only []; omega) (.int .i64 x3))
          have hcv : cellV ⟨x0, x1, x2, x3⟩ = .agg #[.int .i64 x0, .int .i64 x1, .int .i64 x2, .int .i64 x3] := rfl
          rw [hcv]
          clear hcv hq5 HZ5 HB5
          go_wp2_with fail
          refine (HVA.out _).mono ?_
          rintro e' w7 ⟨rfl, hb7⟩
          have HQ7 := Lib.hid (HQ6.out.below hb7 HQ6.out.lt)
          have HZ7 := Lib.hid (HZ6.out.below hb7 HZ6.out.lt)
          have HB7 := Lib.hid (below_two HB6.out hb7)
          clear hb7 HQ6 HZ6 HB6 y0 y1 y2 y3 fz
          cases V
          · have HF : Hid ((false && (T == l)) = false) := by show _ = _; rfl
            have hpn : pcD l = none := by rw [HPD3.out]; simp [HF.out]
            have HPN := Lib.hid (pcR_no hpn)
            obtain ⟨y0, y1, y2, y3⟩ := st_blk HZ7.out
            have fz := HZ7.out.frozen
            have HBK := Lib.hid (set_cell (a' := .int .i64 0) (b' := .int .i64 0) (c' := .int .i64 0) (d' := .int .i64 0) HZ7.out)
            have HBZ := Lib.hid ((((HB7.out.setCell (p := ⟨w.heap.size, 0, none⟩) (Nat.le_refl _) (.int .i64 0)).setCell (p := ⟨w.heap.size, 1, none⟩) (Nat.le_refl _) (.int .i64 0)).setCell (p := ⟨w.heap.size, 2, none⟩) (Nat.le_refl _) (.int .i64 0)).setCell (p := ⟨w.heap.size, 3, none⟩) (Nat.le_refl _) (.int .i64 0))
            clear hpn
            go_wp2_with fail
            obtain ⟨z0, z1, z2, z3⟩ := st_blk HBK.out
            refine bodyPost_ret (v := .tuple #[.agg #[.int .i64 0, .int .i64 0, .int .i64 0, .int .i64 0], .int .i64 3]) ?_ rfl ⟨by rw [HPN.out], HBZ.out⟩
            simp [results, Tryd.results17, go_sem, z0, z1, z2, z3]
          obtain ⟨y0, y1, y2, y3⟩ := st_blk HQ7.out
          go_wp2_with fail
          refine (HTA.out _).mono ?_
          rintro e' w8 ⟨rfl, hb8⟩
          have HQ8 := Lib.hid (HQ7.out.below hb8 HQ7.out.lt)
          have HZ8 := Lib.hid (HZ7.out.below hb8 HZ7.out.lt)
          have HB8 := Lib.hid (below_two HB7.out hb8)
          clear hb8 HQ7 HZ7 HB7 y0 y1 y2 y3
          by_cases hT : T = l
          · have HPN := Lib.hid (HYS.out (by simp) hT)
            have q3 : (T == l) = true := by rw [beq_iff_eq]; exact hT
            clear HYS HPD3
            subst hT
            obtain ⟨y0, y1, y2, y3⟩ := st_blk HQ8.out
            obtain ⟨z0, z1, z2, z3⟩ := st_blk HZ8.out
            have fz := HZ8.out.frozen
            have HBK := Lib.hid (set_cell (a' := .int .i64 x0) (b' := .int .i64 x1) (c' := .int .i64 x2) (d' := .int .i64 x3) HZ8.out)
            have HBZ := Lib.hid ((((HB8.out.setCell (p := ⟨w.heap.size, 0, none⟩) (Nat.le_refl _) (.int .i64 x0)).setCell (p := ⟨w.heap.size, 1, none⟩) (Nat.le_refl _) (.int .i64 x1)).setCell (p := ⟨w.heap.size, 2, none⟩) (Nat.le_refl _) (.int .i64 x2)).setCell (p := ⟨w.heap.size, 3, none⟩) (Nat.le_refl _) (.int .i64 x3))
            go_wp2_with fail
            clear z0 z1 z2 z3
            obtain ⟨z0, z1, z2, z3⟩ := st_blk HBK.out
            refine bodyPost_ret (v := .tuple #[.agg #[.int .i64 x0, .int .i64 x1, .int .i64 x2, .int .i64 x3], .int .i64 0]) ?_ rfl ⟨by rw [HPN.out], HBZ.out⟩
            simp [results, Tryd.results17, go_sem, z0, z1, z2, z3]
          · have q3 : (T == l) = false := by rw [beq_eq_false_iff_ne]; exact hT
            have HF : Hid ((true && (T == l)) = false) := by show _ = _; rw [q3]; rfl
            have hpn : pcD l = none := by rw [HPD3.out]; simp [HF.out]
            have HPN := Lib.hid (pcR_no hpn)
            obtain ⟨y0, y1, y2, y3⟩ := st_blk HZ8.out
            have fz := HZ8.out.frozen
            have HBK := Lib.hid (set_cell (a' := .int .i64 0) (b' := .int .i64 0) (c' := .int .i64 0) (d' := .int .i64 0) HZ8.out)
            have HBZ := Lib.hid ((((HB8.out.setCell (p := ⟨w.heap.size, 0, none⟩) (Nat.le_refl _) (.int .i64 0)).setCell (p := ⟨w.heap.size, 1, none⟩) (Nat.le_refl _) (.int .i64 0)).setCell (p := ⟨w.heap.size, 2, none⟩) (Nat.le_refl _) (.int .i64 0)).setCell (p := ⟨w.heap.size, 3, none⟩) (Nat.le_refl _) (.int .i64 0))
            clear hpn
            go_wp2_with fail
            obtain ⟨z0, z1, z2, z3⟩ := st_blk HBK.out
            refine bodyPost_ret (v := .tuple #[.agg #[.int .i64 0, .int .i64 0, .int .i64 0, .int .i64 0], .int .i64 3]) ?_ rfl ⟨by rw [HPN.out], HBZ.out⟩
            simp [results, Tryd.results17, go_sem, z0, z1, z2, z3]
end Go.Proofs.YtophffmofpmbpaaDoor
