/-
  The reference's Compare.
-/
import Derived.Test.YtophffmofpmbpaaDoorCel19
namespace Go.Proofs.YtophffmofpmbpaaDoor
open Go.RowKit
set_option linter.unusedVariables false
theorem cmpI_le {x y : Int} : (x < y → cmpI x y = -1) ∧ (y < x → cmpI x y = 1) ∧ (¬ x < y → ¬ y < x → cmpI x y = 0) := by
  unfold cmpI
  refine ⟨fun h => by rw [if_pos h], fun h => by rw [if_neg (by omega), if_pos h], fun h h' => by rw [if_neg h, if_neg h']⟩
theorem c4_at (xs ys : List Int) (k : Nat) (hx : xs.length = 4) (hy : ys.length = 4) (hk : k < 4) : orL ((List.zipWith cmpI xs ys).drop k) = if cmpI (xs.getD k 0) (ys.getD k 0) = 0 then orL ((List.zipWith cmpI xs ys).drop (k + 1)) else cmpI (xs.getD k 0) (ys.getD k 0) := by
  have hl : k < (List.zipWith cmpI xs ys).length := by rw [List.length_zipWith, hx, hy]; omega
  rw [orL_drop hl]
  have : (List.zipWith cmpI xs ys).getD k 0 = cmpI (xs.getD k 0) (ys.getD k 0) := by
    rw [List.getD_eq_getElem?_getD, List.getElem?_eq_getElem hl, List.getElem_zipWith, List.getD_eq_getElem?_getD, List.getD_eq_getElem?_getD, List.getElem?_eq_getElem (show k < xs.length by omega), List.getElem?_eq_getElem (show k < ys.length by omega)]
    rfl
  rw [this]
set_option maxRecDepth 100000 in
set_option maxHeartbeats 4000000 in
theorem refCompare_any (a b : SCell) (w : World) : Calls Tryd.prog 26 #[cellV a, cellV b] w fun e w' => e = .returned (.int .i64 (cmpC a b)) ∧ Below w.heap.size w w' := by
  have HC : Hid (cmpC a b = orL (List.zipWith cmpI [a.st, a.pe, a.en, a.ot] [b.st, b.pe, b.en, b.ot])) := by show _ = _; rfl
  generalize cmpC a b = R at *
  obtain ⟨st, en, ot, pe⟩ := a
  obtain ⟨st', en', ot', pe'⟩ := b
  unfold cellV
  simp only [] at *
  have hx := (Blk.new w 23 #[.int .i64 st, .int .i64 en, .int .i64 ot, .int .i64 pe]).alloc (.cells (#[.int .i64 st', .int .i64 en', .int .i64 ot', .int .i64 pe'] : Array Value) 23)
  have hy := Blk.new (w.alloc (.cells (#[.int .i64 st, .int .i64 en, .int .i64 ot, .int .i64 pe] : Array Value) 23)) 23 #[.int .i64 st', .int .i64 en', .int .i64 ot', .int .i64 pe']
  rw [World.size_alloc] at hy
  have HB0 := Lib.hid (((Below.refl w.heap.size w).alloc (Nat.le_refl _) (.cells (#[.int .i64 st, .int .i64 en, .int .i64 ot, .int .i64 pe] : Array Value) 23)).alloc (by simp) (.cells (#[.int .i64 st', .int .i64 en', .int .i64 ot', .int .i64 pe'] : Array Value) 23))
  obtain ⟨x0, x1, x2, x3⟩ := st_blk hx
  obtain ⟨y0, y1, y2, y3⟩ := st_blk hy
  clear hx hy
  have hk1 := (Blk.new ((w.alloc (.cells (#[.int .i64 st, .int .i64 en, .int .i64 ot, .int .i64 pe] : Array Value) 23)).alloc (.cells (#[.int .i64 st', .int .i64 en', .int .i64 ot', .int .i64 pe'] : Array Value) 23)) 62 ([st, pe, en, ot].map intV).toArray).alloc (.cells ([st', pe', en', ot'].map intV).toArray 62)
  have hk2 := Blk.new (((w.alloc (.cells (#[.int .i64 st, .int .i64 en, .int .i64 ot, .int .i64 pe] : Array Value) 23)).alloc (.cells (#[.int .i64 st', .int .i64 en', .int .i64 ot', .int .i64 pe'] : Array Value) 23)).alloc (.cells ([st, pe, en, ot].map intV).toArray 62)) 62 ([st', pe', en', ot'].map intV).toArray
  rw [World.size_alloc, World.size_alloc, World.size_alloc] at hk2
  rw [World.size_alloc, World.size_alloc] at hk1
  have HK1 := Lib.hid hk1
  have HK2 := Lib.hid hk2
  have HB1 := Lib.hid ((HB0.out.alloc HB0.out.size (.cells ([st, pe, en, ot].map intV).toArray 62)).alloc (by have := HB0.out.size; simp; omega) (.cells ([st', pe', en', ot'].map intV).toArray 62))
  clear hk1 hk2 HB0
  go_enter Tryd.func26, Tryd.ntmps26
  go_wp2_with fail
  go_loopw [7] (fun i wr => ∃ k : Nat, k ≤ 4 ∧ i = .int .i64 k ∧ Blk wr (w.heap.size + 1 + 1) 62 ([st, pe, en, ot].map intV).toArray ∧ Blk wr (w.heap.size + 1 + 1 + 1) 62 ([st', pe', en', ot'].map intV).toArray ∧ Below w.heap.size w wr ∧ R = orL ((List.zipWith cmpI [st, pe, en, ot] [st', pe', en', ot']).drop k)) (fun i _ => 4 - (intOf i).toNat)
  case atStart => exact ⟨0, by omega, rfl, HK1.out, HK2.out, HB1.out, HC.out⟩
  case round =>
    clear HK1 HK2 HB1 HC x0 x1 x2 x3 y0 y1 y2 y3
    obtain ⟨k, hk, rfl, hk1, hk2, hbr, ho⟩ := hrel
    obtain ⟨wo, rfl⟩ : ∃ wo : World, wo = wr := ⟨_, rfl⟩
    have HO := Lib.hid ho
    have HBR := Lib.hid hbr
    have HK1 := Lib.hid hk1
    have HK2 := Lib.hid hk2
    clear ho hk1 hk2 hbr
    by_cases hlt : k < 4
    · have k3 : decide ((k : Int) < 4) = true := by rw [decide_eq_true_eq]; omega
      have b1 : (k : Int) < 4 := by omega
      have hc1 := int_cell HK1.out (j := k) (by show k < 4; exact hlt)
      have hc2 := int_cell HK2.out (j := k) (by show k < 4; exact hlt)
      have HD := Lib.hid (c4_at [st, pe, en, ot] [st', pe', en', ot'] k rfl rfl hlt)
      generalize [st, pe, en, ot].getD k 0 = x at *
      generalize [st', pe', en', ot'].getD k 0 = y at *
      by_cases h1 : x < y
      · have q1 : decide (x < y) = true := by rw [decide_eq_true_eq]; exact h1
        have F : Hid (R = -1) := by
          show _ = _
          have := cmpI_le.1 h1
          rw [HO.out, HD.out, this]; rfl
        go_wp2_with fail
        go_quiet (fail)
        go_wp2_with fail
        go_ret
        exact ⟨ret_int F.out.symm, below_drewN HBR.out nq⟩
      · by_cases h2 : y < x
        · have q1 : decide (x < y) = false := by rw [decide_eq_false_iff_not]; exact h1
          have q2 : decide (y < x) = true := by rw [decide_eq_true_eq]; exact h2
          have F : Hid (R = 1) := by
            show _ = _
            have := cmpI_le.2.1 h2
            rw [HO.out, HD.out, this]; rfl
          go_wp2_with fail
          go_quiet (fail)
          have HB2 := Lib.hid (below_drewN HBR.out nq)
          have hc3 : (wo.drewN nq).cell? ⟨w.heap.size + 1 + 1, k, none⟩ = some (.int .i64 x) := hc1
          have hc4 : (wo.drewN nq).cell? ⟨w.heap.size + 1 + 1 + 1, k, none⟩ = some (.int .i64 y) := hc2
          generalize wo.drewN nq = wp at *
          go_wp2_with fail
          go_quiet (fail)
          go_wp2_with fail
          go_ret
          exact ⟨ret_int F.out.symm, below_drewN HB2.out nq⟩
        · have q1 : decide (x < y) = false := by rw [decide_eq_false_iff_not]; exact h1
          have q2 : decide (y < x) = false := by rw [decide_eq_false_iff_not]; exact h2
          have F : Hid (R = orL ((List.zipWith cmpI [st, pe, en, ot] [st', pe', en', ot']).drop (k + 1))) := by
            show _ = _
            have := cmpI_le.2.2 h1 h2
            rw [HO.out, HD.out, this]; rfl
          go_wp2_with fail
          go_quiet (fail)
          have HB2 := Lib.hid (below_drewN HBR.out nq)
          have HK3 := Lib.hid (HK1.out.drewN nq)
          have HK4 := Lib.hid (HK2.out.drewN nq)
          have hc3 : (wo.drewN nq).cell? ⟨w.heap.size + 1 + 1, k, none⟩ = some (.int .i64 x) := hc1
          have hc4 : (wo.drewN nq).cell? ⟨w.heap.size + 1 + 1 + 1, k, none⟩ = some (.int .i64 y) := hc2
          generalize wo.drewN nq = wp at *
          go_wp2_with fail
          go_quiet (fail)
          go_wp2_with fail
          exact ⟨⟨k + 1, by omega, by go_num, HK3.out.drewN nq, HK4.out.drewN nq, below_drewN HB2.out nq, F.out⟩, by simp [intOf]; omega⟩
    · have k3 : decide ((k : Int) < 4) = false := by rw [decide_eq_false_iff_not]; omega
      have F : Hid (R = 0) := by
        show _ = _
        rw [HO.out, List.drop_eq_nil_of_le (by show 4 ≤ k; omega)]; rfl
      go_wp2_with fail
      go_ret
      exact ⟨ret_int F.out.symm, HBR.out⟩
end Go.Proofs.YtophffmofpmbpaaDoor
