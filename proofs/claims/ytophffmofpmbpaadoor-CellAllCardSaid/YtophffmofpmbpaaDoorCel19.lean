/-
  The walks of Compare (both) and cmp.Or.
-/
import Derived.Test.YtophffmofpmbpaaDoorCel17
import Derived.StillTailTactics
import Derived.LoopTactic
namespace Go.Proofs.YtophffmofpmbpaaDoor
open Go.RowKit
set_option linter.unusedVariables false
theorem cmpInt_any (x y : Int) (w : World) : Calls Tryd.prog 40 #[.int .i64 x, .int .i64 y] w fun e w' => e = .returned (.int .i64 (cmpI x y)) ∧ w' = w := Tryd.cmp_Compare_int x y w
def intV (x : Int) : Value := .int .i64 x
theorem int_cell {w : World} {G : Nat} {T : TypeId} {xs : List Int} {j : Nat} (h : Blk w G T (xs.map intV).toArray) (hj : j < xs.length) : w.cell? ⟨G, j, none⟩ = some (.int .i64 (xs.getD j 0)) := by
  rw [h.cell j]
  simp [List.getD, hj, intV]
theorem orL_drop {xs : List Int} {k : Nat} (h : k < xs.length) : orL (xs.drop k) = if xs.getD k 0 = 0 then orL (xs.drop (k + 1)) else xs.getD k 0 := by
  rw [List.drop_eq_getElem_cons h, orL_cons, List.getD_eq_getElem?_getD, List.getElem?_eq_getElem h]
  rfl
set_option maxRecDepth 100000 in
set_option maxHeartbeats 2000000 in
theorem or_any (xs : List Int) (G : Nat) (w : World) (hk : Blk w G 3 (xs.map intV).toArray) (hl : xs.length = 4) :
    Calls Tryd.prog 39 #[.slice (some ⟨G, 0, none⟩) 4 4] w fun e w' => e = .returned (.int .i64 (orL xs)) ∧ w = w' := by
  have HK := Lib.hid hk
  have HL := Lib.hid hl
  clear hk hl
  go_enter Tryd.func39, Tryd.ntmps39
  go_wp2_with fail
  go_loop [8] (fun i => ∃ k : Nat, k ≤ 4 ∧ i = .int .i64 k ∧ orL xs = orL (xs.drop k)) (fun i => 4 - (intOf i).toNat)
  case atStart => exact ⟨0, by omega, rfl, rfl⟩
  case round =>
    obtain ⟨k, hk, rfl, ho⟩ := hrel
    have HO := Lib.hid ho
    clear ho
    by_cases hlt : k < 4
    · have k3 : decide ((k : Int) < 4) = true := by rw [decide_eq_true_eq]; omega
      have b1 : (k : Int) < 4 := by omega
      have hc := int_cell HK.out (j := k) (by rw [HL.out]; exact hlt)
      have HD := Lib.hid (orL_drop (xs := xs) (k := k) (by rw [HL.out]; exact hlt))
      generalize xs.getD k 0 = x at *
      by_cases hx : x = 0
      · have q1 : (x != 0) = false := by simp [hx]
        have F : Hid (orL xs = orL (xs.drop (k + 1))) := by
          show _ = _
          rw [HO.out, HD.out, if_pos hx]
        clear hx
        go_wp2_with fail
        go_round
        case rel => exact ⟨k + 1, by omega, by go_num, F.out⟩
        case measure => simp [intOf]; omega
      · have q1 : (x != 0) = true := by simp [hx]
        have F : Hid (orL xs = x) := by
          show _ = _
          rw [HO.out, HD.out, if_neg hx]
        clear hx
        go_wp2_with fail
        go_ret
        exact ⟨ret_int F.out.symm, rfl⟩
    · have k3 : decide ((k : Int) < 4) = false := by rw [decide_eq_false_iff_not]; omega
      have F : Hid (orL xs = 0) := by
        show _ = _
        rw [HO.out, List.drop_eq_nil_of_le (by rw [HL.out]; omega)]; rfl
      go_wp2_with fail
      go_ret
      exact ⟨ret_int F.out.symm, rfl⟩
set_option maxRecDepth 100000 in
set_option maxHeartbeats 4000000 in
theorem compare_any (a b : SCell) (w : World) : Calls Tryd.prog 25 #[cellV a, cellV b] w fun e w' => e = .returned (.int .i64 (cmpC a b)) ∧ Below w.heap.size w w' := by
  have HC : Hid (cmpC a b = orL [cmpI a.st b.st, cmpI a.pe b.pe, cmpI a.en b.en, cmpI a.ot b.ot]) := by show _ = _; rfl
  generalize cmpC a b = R at *
  obtain ⟨st, en, ot, pe⟩ := a
  obtain ⟨st', en', ot', pe'⟩ := b
  unfold cellV
  simp only [] at *
  have hx := (Blk.new w 23 #[.int .i64 st, .int .i64 en, .int .i64 ot, .int .i64 pe]).alloc (.cells (#[.int .i64 st', .int .i64 en', .int .i64 ot', .int .i64 pe'] : Array Value) 23)
  have hy := Blk.new (w.alloc (.cells (#[.int .i64 st, .int .i64 en, .int .i64 ot, .int .i64 pe] : Array Value) 23)) 23 #[.int .i64 st', .int .i64 en', .int .i64 ot', .int .i64 pe']
  rw [World.size_alloc] at hy
  have HB0 := Lib.hid (((Below.refl w.heap.size w).alloc (Nat.le_refl _) (.cells (#[.int .i64 st, .int .i64 en, .int .i64 ot, .int .i64 pe] : Array Value) 23)).alloc (by simp) (.cells (#[.int .i64 st', .int .i64 en', .int .i64 ot', .int .i64 pe'] : Array Value) 23))
  obtain ⟨x0, x1, x2, x3⟩ := st_blk hx
  obtain ⟨y0, y1, y2, y3⟩ := st_blk hy
  clear hx hy
  go_enter Tryd.func25, Tryd.ntmps25
  go_wp2_with fail
  generalize (w.alloc (.cells (#[.int .i64 st, .int .i64 en, .int .i64 ot, .int .i64 pe] : Array Value) 23)).alloc (.cells (#[.int .i64 st', .int .i64 en', .int .i64 ot', .int .i64 pe'] : Array Value) 23) = w2 at *
  go_still_tail 20, (by kernel_rfl)
  still_call (cmpInt_any _ _ _)
  repeat still_step
  still_call (cmpInt_any _ _ _)
  repeat still_step
  still_call (cmpInt_any _ _ _)
  repeat still_step
  still_call (cmpInt_any _ _ _)
  refine wpStill_nil ?_
  change wpList _ _ _ _ _ w2.drew
  have hz := Blk.new w2.drew 3 ([cmpI st st', cmpI pe pe', cmpI en en', cmpI ot ot'].map intV).toArray
  have HO := Lib.hid (or_any [cmpI st st', cmpI pe pe', cmpI en en', cmpI ot ot'] w2.drew.heap.size _ hz rfl)
  have HB1 := Lib.hid ((Below.drew HB0.out).alloc HB0.out.size (.cells ([cmpI st st', cmpI pe pe', cmpI en en', cmpI ot ot'].map intV).toArray 3))
  clear hz HB0
  go_wp2_with fail
  refine HO.out.mono ?_
  rintro e w3 ⟨rfl, rfl⟩
  go_wp2_with fail
  go_ret
  exact ⟨ret_int HC.out.symm, HB1.out⟩
end Go.Proofs.YtophffmofpmbpaaDoor
