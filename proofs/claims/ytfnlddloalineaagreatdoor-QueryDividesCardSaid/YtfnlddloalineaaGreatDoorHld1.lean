/-
  Fields of facts of both; the reference's fulfils; conditions as functions. (printed by wip/tools/gen_hld1.py)
-/
import Derived.Test.YtfnlddloalineaaGreatDoorFctPl
import Derived.Deep.RegionHeld3
import Derived.Deep.MidRow
namespace Go.Proofs.YtfnlddloalineaaGreatDoor
open Go.RowKit
set_option linter.unusedVariables false
set_option linter.unusedSimpArgs false
set_option maxRecDepth 100000
def fctV (x : SFact) : Value := .agg #[.int .i64 x.acc, .int .i64 x.ent, .int .i64 x.par, .int .i64 x.kind, .int .i64 x.dat, .int .i64 x.amt]
theorem int_five {f : Int} (h0 : 0 ≤ f) (h4 : f ≤ 4) : f = 0 ∨ f = 1 ∨ f = 2 ∨ f = 3 ∨ f = 4 := by omega
theorem int_six {f : Int} (h0 : 0 ≤ f) (h4 : f ≤ 5) : f = 0 ∨ f = 1 ∨ f = 2 ∨ f = 3 ∨ f = 4 ∨ f = 5 := by omega
theorem run_f5 (a b c d e : Int) : (∀ w, (Instr.index 117 (.agg #[.int .i64 a, .int .i64 b, .int .i64 c, .int .i64 d, .int .i64 e]) (.int .i64 0)).run Tryz.prog w = .ok (.int .i64 a) w) ∧ (∀ w, (Instr.index 117 (.agg #[.int .i64 a, .int .i64 b, .int .i64 c, .int .i64 d, .int .i64 e]) (.int .i64 1)).run Tryz.prog w = .ok (.int .i64 b) w) ∧ (∀ w, (Instr.index 117 (.agg #[.int .i64 a, .int .i64 b, .int .i64 c, .int .i64 d, .int .i64 e]) (.int .i64 2)).run Tryz.prog w = .ok (.int .i64 c) w) ∧ (∀ w, (Instr.index 117 (.agg #[.int .i64 a, .int .i64 b, .int .i64 c, .int .i64 d, .int .i64 e]) (.int .i64 3)).run Tryz.prog w = .ok (.int .i64 d) w) ∧ (∀ w, (Instr.index 117 (.agg #[.int .i64 a, .int .i64 b, .int .i64 c, .int .i64 d, .int .i64 e]) (.int .i64 4)).run Tryz.prog w = .ok (.int .i64 e) w) := ⟨fun w => by kernel_rfl, fun w => by kernel_rfl, fun w => by kernel_rfl, fun w => by kernel_rfl, fun w => by kernel_rfl⟩
theorem field_any (x : SFact) (k : Int) (w : World) (h0 : 0 ≤ k) (h4 : k ≤ 4) : Calls Tryz.prog 60 #[fctV x, .int .i64 k] w fun e w' => e = .returned (.int .i64 (fldF x k)) ∧ Below w.heap.size w w' := by
  obtain ⟨acc, ent, par, kind, dat, amt⟩ := x
  show Calls Tryz.prog 60 #[.agg #[.int .i64 acc, .int .i64 ent, .int .i64 par, .int .i64 kind, .int .i64 dat, .int .i64 amt], .int .i64 k] w _
  have hb := (Below.refl w.heap.size w).alloc (Nat.le_refl _) (.cells (#[.int .i64 acc, .int .i64 ent, .int .i64 par, .int .i64 kind, .int .i64 dat, .int .i64 amt] : Array Value) 56)
  have HB := Lib.hid hb
  clear hb
  rcases int_five h0 h4 with rfl | rfl | rfl | rfl | rfl
  all_goals
    clear h0 h4
    have ri := run_f5 acc ent par kind dat
    obtain ⟨r0, r1, r2, r3, r4⟩ := ri
    go_enter Tryz.func60, Tryz.ntmps60
    go_wp2_with fail
    go_ret
    exact ⟨rfl, HB.out⟩
theorem rfield_any (x : SFact) (k : Int) (w : World) (h0 : 0 ≤ k) (h4 : k ≤ 4) : Calls Tryz.prog 59 #[fctV x, .int .i64 k] w fun e w' => e = .returned (.int .i64 (fldF x k)) ∧ Below w.heap.size w w' := by
  obtain ⟨acc, ent, par, kind, dat, amt⟩ := x
  show Calls Tryz.prog 59 #[.agg #[.int .i64 acc, .int .i64 ent, .int .i64 par, .int .i64 kind, .int .i64 dat, .int .i64 amt], .int .i64 k] w _
  have hb := (Below.refl w.heap.size w).alloc (Nat.le_refl _) (.cells (#[.int .i64 acc, .int .i64 ent, .int .i64 par, .int .i64 kind, .int .i64 dat, .int .i64 amt] : Array Value) 55)
  have HB := Lib.hid (hb.alloc hb.size (.cells (#[.int .i64 acc, .int .i64 ent, .int .i64 par, .int .i64 kind, .int .i64 dat] : Array Value) 3))
  clear hb
  rcases int_five h0 h4 with rfl | rfl | rfl | rfl | rfl
  all_goals
    clear h0 h4
    
    
    go_enter Tryz.func59, Tryz.ntmps59
    go_wp2_with fail
    go_ret
    exact ⟨rfl, HB.out⟩
theorem fulfils_any (n op v : Int) (w : World) (h0 : 0 ≤ op) (h5 : op ≤ 5) : Calls Tryz.prog 58 #[.int .i64 n, .int .i64 op, .int .i64 v] w fun e w' => e = .returned (.bool (fulB n op v)) ∧ w = w' := by
  rcases int_six h0 h5 with rfl | rfl | rfl | rfl | rfl | rfl
  all_goals
    clear h0 h5
    go_enter Tryz.func58, Tryz.ntmps58
    go_wp2_with fail
    go_ret
    exact ⟨rfl, rfl⟩
/-- the function that compares -/
def cmpF : Nat → FuncId
  | 0 => 112
  | 1 => 113
  | 2 => 114
  | 3 => 115
  | 4 => 116
  | _ => 117
def cmpV (k G : Nat) : Value := .func (.func (cmpF k)) #[] #[.pointer (some ⟨G, 0, none⟩)]
/-- a condition as a function: its block of the comparison, its own block -/
def cloV (C G : Nat) : Value := .func (.func 118) #[] #[.pointer (some ⟨C, 0, none⟩), .pointer (some ⟨G, 0, none⟩)]
theorem nat_six {k : Nat} (h : k < 6) : k = 0 ∨ k = 1 ∨ k = 2 ∨ k = 3 ∨ k = 4 ∨ k = 5 := by omega
theorem run_cmp (k : Nat) (h : k < 6) (args : Array Value) (w : World) : (callFunc (cmpF k) args).run Tryz.prog w = .ok (.enter (cmpF k) args) w := by
  rcases nat_six h with rfl | rfl | rfl | rfl | rfl | rfl <;> simp [go_sem, cmpF]
theorem cmp_0 (a v : Int) (G : Nat) (w : World) (hc : w.cell? ⟨G, 2, none⟩ = some (.int .i64 v)) : Calls Tryz.prog 112 #[.int .i64 a, .pointer (some ⟨G, 0, none⟩)] w fun e w' => e = .returned (.bool (fulB a 0 v)) ∧ w = w' := by
  go_enter Tryz.func112, Tryz.ntmps112
  go_wp2_with fail
  go_ret
  exact ⟨rfl, rfl⟩
theorem cmp_1 (a v : Int) (G : Nat) (w : World) (hc : w.cell? ⟨G, 2, none⟩ = some (.int .i64 v)) : Calls Tryz.prog 113 #[.int .i64 a, .pointer (some ⟨G, 0, none⟩)] w fun e w' => e = .returned (.bool (fulB a 1 v)) ∧ w = w' := by
  go_enter Tryz.func113, Tryz.ntmps113
  go_wp2_with fail
  go_ret
  exact ⟨rfl, rfl⟩
theorem cmp_2 (a v : Int) (G : Nat) (w : World) (hc : w.cell? ⟨G, 2, none⟩ = some (.int .i64 v)) : Calls Tryz.prog 114 #[.int .i64 a, .pointer (some ⟨G, 0, none⟩)] w fun e w' => e = .returned (.bool (fulB a 2 v)) ∧ w = w' := by
  go_enter Tryz.func114, Tryz.ntmps114
  go_wp2_with fail
  go_ret
  exact ⟨rfl, rfl⟩
theorem cmp_3 (a v : Int) (G : Nat) (w : World) (hc : w.cell? ⟨G, 2, none⟩ = some (.int .i64 v)) : Calls Tryz.prog 115 #[.int .i64 a, .pointer (some ⟨G, 0, none⟩)] w fun e w' => e = .returned (.bool (fulB a 3 v)) ∧ w = w' := by
  go_enter Tryz.func115, Tryz.ntmps115
  go_wp2_with fail
  go_ret
  exact ⟨rfl, rfl⟩
theorem cmp_4 (a v : Int) (G : Nat) (w : World) (hc : w.cell? ⟨G, 2, none⟩ = some (.int .i64 v)) : Calls Tryz.prog 116 #[.int .i64 a, .pointer (some ⟨G, 0, none⟩)] w fun e w' => e = .returned (.bool (fulB a 4 v)) ∧ w = w' := by
  go_enter Tryz.func116, Tryz.ntmps116
  go_wp2_with fail
  go_ret
  exact ⟨rfl, rfl⟩
theorem cmp_5 (a v : Int) (G : Nat) (w : World) (hc : w.cell? ⟨G, 2, none⟩ = some (.int .i64 v)) : Calls Tryz.prog 117 #[.int .i64 a, .pointer (some ⟨G, 0, none⟩)] w fun e w' => e = .returned (.bool (fulB a 5 v)) ∧ w = w' := by
  go_enter Tryz.func117, Tryz.ntmps117
  go_wp2_with fail
  go_ret
  exact ⟨rfl, rfl⟩
theorem cmp_any (k : Nat) (a v : Int) (G : Nat) (w : World) (h : k < 6) (hc : w.cell? ⟨G, 2, none⟩ = some (.int .i64 v)) : Calls Tryz.prog (cmpF k) #[.int .i64 a, .pointer (some ⟨G, 0, none⟩)] w fun e w' => e = .returned (.bool (fulB a (k : Int) v)) ∧ w = w' := by
  rcases nat_six h with rfl | rfl | rfl | rfl | rfl | rfl
  · exact cmp_0 a v G w hc
  · exact cmp_1 a v G w hc
  · exact cmp_2 a v G w hc
  · exact cmp_3 a v G w hc
  · exact cmp_4 a v G w hc
  · exact cmp_5 a v G w hc
set_option maxHeartbeats 8000000 in
/-- a condition as a function, at a fact -/
theorem clo_any (x : SFact) (f v : Int) (k C G : Nat) (w : World) (h0 : 0 ≤ f) (h4 : f ≤ 4) (hk : k < 6) (hC : w.cell? ⟨C, 0, none⟩ = some (cmpV k G)) (hG0 : w.cell? ⟨G, 0, none⟩ = some (.int .i64 f)) (hG2 : w.cell? ⟨G, 2, none⟩ = some (.int .i64 v)) :
    Calls Tryz.prog 118 #[fctV x, .pointer (some ⟨C, 0, none⟩), .pointer (some ⟨G, 0, none⟩)] w fun e w' => e = .returned (.bool (cndB ⟨f, (k : Int), v⟩ x)) ∧ Below w.heap.size w w' := by
  have HFA : Hid (∀ w, Calls Tryz.prog 60 #[fctV x, .int .i64 f] w fun e w' => e = .returned (.int .i64 (fldF x f)) ∧ Below w.heap.size w w') := fun w => field_any x f w h0 h4
  have HCM : Hid (∀ (w : World), w.cell? ⟨G, 2, none⟩ = some (.int .i64 v) → Calls Tryz.prog (cmpF k) #[.int .i64 (fldF x f), .pointer (some ⟨G, 0, none⟩)] w fun e w' => e = .returned (.bool (fulB (fldF x f) (k : Int) v)) ∧ w = w') := fun w h => cmp_any k _ v G w hk h
  have HRN : Hid (∀ (args : Array Value) (w : World), (callFunc (cmpF k) args).run Tryz.prog w = .ok (.enter (cmpF k) args) w) := run_cmp k hk
  have HRES : Hid (cndB ⟨f, (k : Int), v⟩ x = fulB (fldF x f) (k : Int) v) := rfl
  rw [HRES.out]
  generalize fldF x f = FX at *
  obtain ⟨acc, ent, par, kind, dat, amt⟩ := x
  have HFA2 : Hid (∀ w, Calls Tryz.prog 60 #[.agg #[.int .i64 acc, .int .i64 ent, .int .i64 par, .int .i64 kind, .int .i64 dat, .int .i64 amt], .int .i64 f] w fun e w' => e = .returned (.int .i64 FX) ∧ Below w.heap.size w w') := HFA.out
  clear HFA HRES
  have HFA := HFA2
  clear HFA2
  show Calls Tryz.prog 118 #[.agg #[.int .i64 acc, .int .i64 ent, .int .i64 par, .int .i64 kind, .int .i64 dat, .int .i64 amt], .pointer (some ⟨C, 0, none⟩), .pointer (some ⟨G, 0, none⟩)] w _
  unfold cmpV at hC
  generalize fulB FX (k : Int) v = RB at *
  generalize cmpF k = Fu at *
  have hcf : ∀ (args : Array Value) (w : World), (callFunc Fu args).run Tryz.prog w = .ok (.enter Fu args) w := HRN.out
  have hb := (Below.refl w.heap.size w).alloc (Nat.le_refl _) (.cells (#[.int .i64 acc, .int .i64 ent, .int .i64 par, .int .i64 kind, .int .i64 dat, .int .i64 amt] : Array Value) 56)
  have HBX := Blk.new w 56 #[.int .i64 acc, .int .i64 ent, .int .i64 par, .int .i64 kind, .int .i64 dat, .int .i64 amt]
  obtain ⟨wz, hwz⟩ : ∃ wz, w.alloc (.cells (#[.int .i64 acc, .int .i64 ent, .int .i64 par, .int .i64 kind, .int .i64 dat, .int .i64 amt] : Array Value) 56) = wz := ⟨_, rfl⟩
  rw [hwz] at hb HBX
  obtain ⟨X, hX⟩ : ∃ X, w.heap.size = X := ⟨_, rfl⟩
  rw [hX] at HBX
  have g1 := (hb.cell (World.block_lt_of_cell? _ _ hC)).trans hC
  have g2 := (hb.cell (World.block_lt_of_cell? _ _ hG0)).trans hG0
  have g3 := (hb.cell (World.block_lt_of_cell? _ _ hG2)).trans hG2
  have HB := Lib.hid hb
  have x0 : wz.cell? ⟨X, 0, none⟩ = some (.int .i64 acc) := HBX.cell 0
  have x1 : wz.cell? ⟨X, 1, none⟩ = some (.int .i64 ent) := HBX.cell 1
  have x2 : wz.cell? ⟨X, 2, none⟩ = some (.int .i64 par) := HBX.cell 2
  have x3 : wz.cell? ⟨X, 3, none⟩ = some (.int .i64 kind) := HBX.cell 3
  have x4 : wz.cell? ⟨X, 4, none⟩ = some (.int .i64 dat) := HBX.cell 4
  have x5 : wz.cell? ⟨X, 5, none⟩ = some (.int .i64 amt) := HBX.cell 5
  clear hb HBX hC hG0 hG2
  go_enter Tryz.func118, Tryz.ntmps118
  go_upto_region 1 with fail
  refine wp_region_held_drew (S := fun w' => Below w.heap.size w w' ∧ w'.cell? ⟨C, 0, none⟩ = some (.func (.func Fu) #[] #[.pointer (some ⟨G, 0, none⟩)]) ∧ w'.cell? ⟨G, 0, none⟩ = some (.int .i64 f) ∧ w'.cell? ⟨G, 2, none⟩ = some (.int .i64 v) ∧ w'.cell? ⟨X, 0, none⟩ = some (.int .i64 acc) ∧ w'.cell? ⟨X, 1, none⟩ = some (.int .i64 ent) ∧ w'.cell? ⟨X, 2, none⟩ = some (.int .i64 par) ∧ w'.cell? ⟨X, 3, none⟩ = some (.int .i64 kind) ∧ w'.cell? ⟨X, 4, none⟩ = some (.int .i64 dat) ∧ w'.cell? ⟨X, 5, none⟩ = some (.int .i64 amt)) (by kernel_rfl) ⟨HB.out.drew, g1, g2, g3, x0, x1, x2, x3, x4, x5⟩ (fun hHeld => ?_)
  refine wpAnyH_take (i := 0) (v := ?vk0) rfl (by kernel_rfl) (by kernel_rfl) (by kernel_rfl) (fun _ _ _ h => h) (Or.inl ⟨by rfl, ?hyk0⟩) (by assumption) ?restk0
  case hyk0 => (intro w_ hSw; (try dsimp only at hSw); obtain ⟨d0_, d1_, d2_, d3_, y0_, y1_, y2_, y3_, y4_, y5_⟩ := hSw; go_simp; (try with_reducible rfl))
  (try simp only [Act.put, List.setIfInBounds_toArray, List.set_cons_zero, List.set_cons_succ, List.getElem_toArray, List.getElem_cons_zero, List.getElem_cons_succ])
  refine wpAnyH_take (i := 1) (v := ?vk1) rfl (by kernel_rfl) (by kernel_rfl) (by kernel_rfl) (fun _ _ _ h => h) (Or.inl ⟨by rfl, ?hyk1⟩) (by assumption) ?restk1
  case hyk1 => (intro w_ hSw; (try dsimp only at hSw); obtain ⟨d0_, d1_, d2_, d3_, y0_, y1_, y2_, y3_, y4_, y5_⟩ := hSw; go_simp; (try with_reducible rfl))
  (try simp only [Act.put, List.setIfInBounds_toArray, List.set_cons_zero, List.set_cons_succ, List.getElem_toArray, List.getElem_cons_zero, List.getElem_cons_succ])
  refine wpAnyH_take (i := 2) (v := ?vk2) rfl (by kernel_rfl) (by kernel_rfl) (by kernel_rfl) (fun _ _ _ h => h) (Or.inl ⟨by rfl, ?hyk2⟩) (by assumption) ?restk2
  case hyk2 => (intro w_ hSw; (try dsimp only at hSw); obtain ⟨d0_, d1_, d2_, d3_, y0_, y1_, y2_, y3_, y4_, y5_⟩ := hSw; go_simp; (try with_reducible rfl))
  (try simp only [Act.put, List.setIfInBounds_toArray, List.set_cons_zero, List.set_cons_succ, List.getElem_toArray, List.getElem_cons_zero, List.getElem_cons_succ])
  refine wpAnyH_take (i := 3) (v := ?vk3) rfl (by kernel_rfl) (by kernel_rfl) (by kernel_rfl) (fun _ _ _ h => h) (Or.inl ⟨by rfl, ?hyk3⟩) (by assumption) ?restk3
  case hyk3 => (intro w_ hSw; (try dsimp only at hSw); obtain ⟨d0_, d1_, d2_, d3_, y0_, y1_, y2_, y3_, y4_, y5_⟩ := hSw; go_simp; (try with_reducible rfl))
  (try simp only [Act.put, List.setIfInBounds_toArray, List.set_cons_zero, List.set_cons_succ, List.getElem_toArray, List.getElem_cons_zero, List.getElem_cons_succ])
  refine wpAnyH_ready (rs := [4]) (by kernel_rfl) (by simp) ?_
  refine AllReadyH.cons rfl (fun K hK => ?_) AllReadyH.nil
  go_simp
  go_wp2_with (go_at_call 60; refine (HFA.out _).mono ?_; rintro e w3 ⟨rfl, hbx⟩)
  refine hK.out _ _ ?hSk4 (fun hHeldk4 => ?_)
  case hSk4 => exact ⟨below_two hHeld.1 hbx, (hbx.cell (World.block_lt_of_cell? _ _ hHeld.2.1)).trans hHeld.2.1, (hbx.cell (World.block_lt_of_cell? _ _ hHeld.2.2.1)).trans hHeld.2.2.1, (hbx.cell (World.block_lt_of_cell? _ _ hHeld.2.2.2.1)).trans hHeld.2.2.2.1, (hbx.cell (World.block_lt_of_cell? _ _ hHeld.2.2.2.2.1)).trans hHeld.2.2.2.2.1, (hbx.cell (World.block_lt_of_cell? _ _ hHeld.2.2.2.2.2.1)).trans hHeld.2.2.2.2.2.1, (hbx.cell (World.block_lt_of_cell? _ _ hHeld.2.2.2.2.2.2.1)).trans hHeld.2.2.2.2.2.2.1, (hbx.cell (World.block_lt_of_cell? _ _ hHeld.2.2.2.2.2.2.2.1)).trans hHeld.2.2.2.2.2.2.2.1, (hbx.cell (World.block_lt_of_cell? _ _ hHeld.2.2.2.2.2.2.2.2.1)).trans hHeld.2.2.2.2.2.2.2.2.1, (hbx.cell (World.block_lt_of_cell? _ _ hHeld.2.2.2.2.2.2.2.2.2)).trans hHeld.2.2.2.2.2.2.2.2.2⟩
  clear hK K
  (try simp only [Act.put, List.setIfInBounds_toArray, List.set_cons_zero, List.set_cons_succ, List.getElem_toArray, List.getElem_cons_zero, List.getElem_cons_succ])
  refine wpAnyH_ready (rs := [5]) (by kernel_rfl) (by simp) ?_
  refine AllReadyH.cons rfl (fun K hK => ?_) AllReadyH.nil
  go_simp
  refine (HCM.out _ hHeldk4.2.2.2.1).mono ?_
  rintro e w4 ⟨rfl, rfl⟩
  refine hK.out _ _ ?hSk5 (fun hHeldk5 => ?_)
  case hSk5 => exact hHeldk4
  clear hK K
  (try simp only [Act.put, List.setIfInBounds_toArray, List.set_cons_zero, List.set_cons_succ, List.getElem_toArray, List.getElem_cons_zero, List.getElem_cons_succ])
  refine wpAnyH_take (i := 6) (v := ?vk6) rfl (by kernel_rfl) (by kernel_rfl) (by kernel_rfl) (fun _ _ _ h => h) (Or.inl ⟨by rfl, ?hyk6⟩) (by assumption) ?restk6
  case hyk6 => (intro w_ hSw; (try dsimp only at hSw); obtain ⟨d0_, d1_, d2_, d3_, y0_, y1_, y2_, y3_, y4_, y5_⟩ := hSw; go_simp; (try with_reducible rfl))
  (try simp only [Act.put, List.setIfInBounds_toArray, List.set_cons_zero, List.set_cons_succ, List.getElem_toArray, List.getElem_cons_zero, List.getElem_cons_succ])
  refine wpAnyH_done (by kernel_rfl) ?_ _
  have HBF := Lib.hid hHeldk4.1
  go_wp2_with fail
  go_ret
  exact ⟨rfl, HBF.out⟩
end Go.Proofs.YtfnlddloalineaaGreatDoor
