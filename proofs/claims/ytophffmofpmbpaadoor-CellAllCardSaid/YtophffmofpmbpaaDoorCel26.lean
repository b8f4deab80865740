/-
  The law CellAll. (printed by wip/tools/gen_cel26.py)
-/
import Derived.Test.YtophffmofpmbpaaDoorCel23
import Derived.Test.YtophffmofpmbpaaDoorCel12
import Derived.Deep.RegionHeld3
import Derived.Deep.MidRow
import Derived.IntWalk
namespace Go.Proofs.YtophffmofpmbpaaDoor
open Go.RowKit
set_option linter.unusedVariables false
def fndC (cs : List SCell) (c : SCell) (k : Nat) : Bool := (cs.take k).any fun x => decide (x = c)
theorem fndC_succ {cs : List SCell} {c : SCell} {k : Nat} (h : k < cs.length) : fndC cs c (k + 1) = (fndC cs c k || decide (cs.getD k default = c)) := by
  unfold fndC
  rw [List.take_succ_eq_append_getElem h, List.any_append, List.getD_eq_getElem?_getD, List.getElem?_eq_getElem h]
  simp
theorem fndC_all (s m p : Int) (c : SCell) : fndC (allC s m p) c (allC s m p).length = askC s m p c := by
  unfold fndC
  rw [List.take_length, Bool.eq_iff_iff, List.any_eq_true, ← mem_allC]
  constructor
  · rintro ⟨x, hx, h⟩
    rw [decide_eq_true_eq] at h
    rw [← h]; exact hx
  · intro h
    exact ⟨c, h, by simp⟩
theorem allC_len (s m p : Int) : (allC s m p).length ≤ 160 := by
  rw [← refAllC_all]
  have := refAllC_len s m p 12
  omega
theorem pair_cells {w : World} {g : Nat} {T : TypeId} {a b : Value} (h : Blk w g T #[a, b]) : w.cell? ⟨g, 0, none⟩ = some a ∧ w.cell? ⟨g, 1, none⟩ = some b := ⟨h.cell 0, h.cell 1⟩
theorem cell_ne {a b : SCell} (h : a ≠ b) : a.st ≠ b.st ∨ (a.st = b.st ∧ (a.en ≠ b.en ∨ (a.en = b.en ∧ (a.ot ≠ b.ot ∨ (a.ot = b.ot ∧ a.pe ≠ b.pe))))) := by
  have h0 : ¬ (a.st = b.st ∧ a.en = b.en ∧ a.ot = b.ot ∧ a.pe = b.pe) := by
    rintro ⟨h1, h2, h3, h4⟩
    apply h
    cases a; cases b; simp only [SCell.mk.injEq]; exact ⟨h1, h2, h3, h4⟩
  omega
theorem own_drewN {w : World} {base : Nat} {e : TypeId} {size : Nat} {v : Value} {n : Nat} {xs : List Value} (h : w.ownsRow base e size v n xs) (k : Nat) : (w.drewN k).ownsRow base e size v n xs := h
theorem add_zero_of (a : Addr) : a.add (0 * 4) = a := by unfold Addr.add; simp
set_option maxRecDepth 100000 in
set_option maxHeartbeats 16000000 in
theorem lawAll (s x y : Int) (c : SCell) (w : World) (hE : Env w) (hEE : EnvE w) : Calls Tryd.prog 8 #[.int .i64 s, .agg #[.int .i64 x, .int .i64 y], cellV c] w fun e w' => e = .returned (.bool true) ∧ Below w.heap.size w w' := by
  have HAL : Hid (∀ w, Calls Tryd.prog 27 #[.int .i64 s, .int .i64 x, .int .i64 y] w fun e w' => ∃ v, e = .returned v ∧ w'.ownsRow w.heap.size 23 4 v (allC s x y).length (cellsL (allC s x y)) ∧ Below w.heap.size w w') := all_any s x y
  have HRA : Hid (∀ w, Calls Tryd.prog 29 #[.int .i64 s, .int .i64 x, .int .i64 y] w fun e w' => ∃ v, e = .returned v ∧ w'.ownsRow w.heap.size 23 4 v (allC s x y).length (cellsL (allC s x y)) ∧ Below w.heap.size w w') := refAll_any s x y
  have HVL : Hid (∀ i, i < (allC s x y).length → validC ((allC s x y).getD i default) = true) := fun i h => allC_valid h
  have HCL : Hid (∀ i, i + 1 < (allC s x y).length → cmpC ((allC s x y).getD i default) ((allC s x y).getD (i + 1) default) = -1) := fun i h => allC_next h
  have HFN : Hid (fndC (allC s x y) c (allC s x y).length = askC s x y c) := fndC_all s x y c
  have hlen := allC_len s x y
  have HAK : Hid (askC s x y c = (validC c && (c.st == s && ((!uE s || decide (c.en < x)) && ((!uO s || decide (c.ot < x)) && (!uP s || c.pe == y)))))) := rfl
  have HVC : Hid (∀ w, Calls Tryd.prog 10 #[cellV c] w fun e w' => e = .returned (.bool (validC c)) ∧ Below w.heap.size w w') := valid_any c
  have HUS := Lib.hid (uses_any s)
  have HVA : Hid (∀ (d : SCell) w, validC d = true → Calls Tryd.prog 10 #[.agg #[.int .i64 d.st, .int .i64 d.en, .int .i64 d.ot, .int .i64 d.pe]] w fun e w' => e = .returned (.bool true) ∧ Below w.heap.size w w') := fun d w h => by have := valid_any d w; rw [h] at this; exact this
  have HCM : Hid (∀ (a b : SCell) w, cmpC a b = -1 → Calls Tryd.prog 25 #[.agg #[.int .i64 a.st, .int .i64 a.en, .int .i64 a.ot, .int .i64 a.pe], .agg #[.int .i64 b.st, .int .i64 b.en, .int .i64 b.ot, .int .i64 b.pe]] w fun e w' => e = .returned (.int .i64 (-1)) ∧ Below w.heap.size w w') := fun a b w h => by have := compare_any a b w; rw [h] at this; exact this
  generalize allC s x y = cs at *
  obtain ⟨n, hn⟩ : ∃ n, cs.length = n := ⟨_, rfl⟩
  rw [hn] at HAL HRA HVL HCL HFN hlen
  have HLN := Lib.hid hn
  clear hn
  generalize askC s x y c = AK at *
  generalize validC c = V at *
  generalize uE s = A1 at *
  generalize uO s = A2 at *
  generalize uP s = A3 at *
  have HFS : Hid (∀ k, k < n → fndC cs c (k + 1) = (fndC cs c k || decide (cs.getD k default = c))) := fun k h => fndC_succ (by rw [HLN.out]; exact h)
  have HCN : Hid (∀ d : SCell, d ≠ c → d.st ≠ c.st ∨ (d.st = c.st ∧ (d.en ≠ c.en ∨ (d.en = c.en ∧ (d.ot ≠ c.ot ∨ (d.ot = c.ot ∧ d.pe ≠ c.pe)))))) := fun d h => cell_ne h
  obtain ⟨fnd, hfnd⟩ : ∃ f : Nat → Bool, fndC cs c = f := ⟨_, rfl⟩
  have HF0 : Hid (fnd 0 = false) := by show _ = _; rw [← hfnd]; rfl
  rw [hfnd] at HFN HFS
  clear hfnd
  obtain ⟨c0, c1, c2, c3⟩ := c
  unfold cellV at *
  simp only [] at *
  have HN0 := Lib.hid ((Blk.new w 42 #[.int .i64 x, .int .i64 y]).alloc (.cells (#[.int .i64 c0, .int .i64 c1, .int .i64 c2, .int .i64 c3] : Array Value) 23))
  have hc0 := Blk.new (w.alloc (.cells (#[.int .i64 x, .int .i64 y] : Array Value) 42)) 23 #[.int .i64 c0, .int .i64 c1, .int .i64 c2, .int .i64 c3]
  rw [World.size_alloc] at hc0
  have HC0 := Lib.hid hc0
  clear hc0
  have HB0 := Lib.hid (((Below.refl w.heap.size w).alloc (Nat.le_refl _) (.cells (#[.int .i64 x, .int .i64 y] : Array Value) 42)).alloc (by simp) (.cells (#[.int .i64 c0, .int .i64 c1, .int .i64 c2, .int .i64 c3] : Array Value) 23))
  have HE0 := Lib.hid (hE.after HB0.out)
  have HEE0 := Lib.hid (hEE.below HB0.out hE.size)
  go_enter Tryd.func8, Tryd.ntmps8
  go_wp2_with fail
  refine (awake_true _ HE0.out HEE0.out).mono ?_
  rintro e w1 ⟨rfl, hb⟩
  have HB1 := Lib.hid (below_two HB0.out hb)
  have HN1 := Lib.hid (HN0.out.below hb HN0.out.lt)
  have HC1 := Lib.hid (HC0.out.below hb HC0.out.lt)
  clear hb HN0 HC0 HB0
  obtain ⟨x0, x1⟩ := pair_cells HN1.out
  go_wp2_with fail
  refine (HAL.out _).mono ?_
  rintro e w2 ⟨v, rfl, hown, hb⟩
  obtain ⟨A, cap, rfl⟩ := own_slice hown
  have HO2 := Lib.hid hown
  have HB2 := Lib.hid (below_two HB1.out hb)
  have HN2 := Lib.hid (HN1.out.below hb HN1.out.lt)
  have HC2 := Lib.hid (HC1.out.below hb HC1.out.lt)
  clear hb HN1 HC1 HB1 x0 x1 hown
  obtain ⟨x0, x1⟩ := pair_cells HN2.out
  go_wp2_with fail
  refine (HRA.out _).mono ?_
  rintro e w3 ⟨v', rfl, hown, hb⟩
  obtain ⟨A', cap', rfl⟩ := own_slice hown
  have hr' := Reads.of_own hown
  have HO3 := Lib.hid (own_below HO2.out hb)
  have hr := Reads.of_own HO3.out
  have HB3 := Lib.hid (below_two HB2.out hb)
  have HN3 := Lib.hid (HN2.out.below hb HN2.out.lt)
  have HC3 := Lib.hid (HC2.out.below hb HC2.out.lt)
  have HSM := Lib.hid (same_any cs A A' n cap cap' w3.heap.size w3.heap.size w3 hr hr' (Nat.le_refl _) (Nat.le_refl _) (by omega))
  clear hb HN2 HC2 HB2 x0 x1 hown hr hr' HO2
  go_wp2_with fail
  refine HSM.out.mono ?_
  rintro e w4 ⟨rfl, hb⟩
  have HO4 := Lib.hid (own_below HO3.out hb)
  have HB4 := Lib.hid (below_two HB3.out hb)
  have HN4 := Lib.hid (HN3.out.below hb HN3.out.lt)
  have HC4 := Lib.hid (HC3.out.below hb HC3.out.lt)
  clear hb HN3 HC3 HB3 HO3 HSM HAL HRA HE0 HEE0
  go_wp2_with fail
  go_loopw [8, 9] (fun f i wr => ∃ k : Nat, k ≤ n ∧ i = .int .i64 (k : Int) ∧ f = .bool (fnd k) ∧ wr.ownsRow w1.heap.size 23 4 (.slice A n cap) n (cellsL cs) ∧ Blk wr w.heap.size 42 #[.int .i64 x, .int .i64 y] ∧ Blk wr (w.heap.size + 1) 23 #[.int .i64 c0, .int .i64 c1, .int .i64 c2, .int .i64 c3] ∧ Below w.heap.size w wr) (fun _ i _ => n - (intOf i).toNat)
  case atStart => exact ⟨0, Nat.zero_le _, rfl, by rw [HF0.out], HO4.out, HN4.out, HC4.out, HB4.out⟩
  case round =>
    clear HO4 HN4 HC4 HB4 HF0
    obtain ⟨k, hk, rfl, rfl, hown, hkn, hkc, hbr⟩ := hrel
    obtain ⟨wo, rfl⟩ : ∃ wo : World, wo = wr := ⟨_, rfl⟩
    have HO := Lib.hid hown
    have HN := Lib.hid hkn
    have HC := Lib.hid hkc
    have HB := Lib.hid hbr
    clear hown hkn hkc hbr
    by_cases hlt : k < n
    · have k1 : decide ((k : Int) < (n : Int)) = true := by rw [decide_eq_true_eq]; omega
      have k2 : decide (k < n) = true := by rw [decide_eq_true_eq]; omega
      have b1 : (k : Int) < (n : Int) := by omega
      have b2 : (0 : Int) ≤ (k : Int) := by omega
      have HFK := Lib.hid (HFS.out k hlt)
      have HV1 := Lib.hid (HVL.out k hlt)
      have HCK := Lib.hid (HCN.out (cs.getD k default))
      rcases k with _ | m
      · obtain ⟨ad, rfl, hab, d0, d1, d2, d3⟩ := (Reads.of_own HO.out).cell_at hlt
        have HVX := Lib.hid (fun w => HVA.out (cs.getD 0 default) w HV1.out)
        have hcd : ∃ a : SCell, cs.getD 0 default = a := ⟨_, rfl⟩
        obtain ⟨a, ha⟩ := hcd
        have HA := Lib.hid ha
        rw [ha] at d0 d1 d2 d3 HVX
        rw [add_zero_of] at d0 d1 d2 d3
        clear ha
        have z1 : decide ((0 : Int) < ((0 : Nat) : Int)) = false := by simp
        have hS1 : Below wo.heap.size wo wo := Below.refl _ _
        go_wp2_with fail
        refine wp_region_held_drew (S := fun w' => Below wo.heap.size wo w' ∧ ad.block < w'.heap.size ∧ w'.cell? ad = some (.int .i64 a.st) ∧ w'.cell? ⟨ad.block, ad.off + 1, none⟩ = some (.int .i64 a.en) ∧ w'.cell? ⟨ad.block, ad.off + 2, none⟩ = some (.int .i64 a.ot) ∧ w'.cell? ⟨ad.block, ad.off + 3, none⟩ = some (.int .i64 a.pe)) (by kernel_rfl) ⟨Below.drew hS1, hab, d0, d1, d2, d3⟩ (fun hH => ?_)
        refine wpAnyH_take (i := 0) (oi := ?oi0) (v := (.slice (some ad) n cap)) ?hi0 (by kernel_rfl) (by kernel_rfl) (by kernel_rfl) ?hQ0 ?hy0 (by assumption) ?rest0
        case hi0 => simp only [List.getElem?_toArray, List.getElem?_cons_zero]; rfl
        case hQ0 => exact fun _ _ _ h => h
        case hy0 => exact Or.inl ⟨by rfl, fun w_ hSw => by obtain ⟨_, _, d0, d1, d2, d3⟩ := hSw; go_simp⟩
        simp only [Act.put, List.setIfInBounds_toArray, List.set_cons_zero, List.set_cons_succ]
        refine wpAnyH_take (i := 1) (oi := ?oi1) (v := (.int .i64 0)) ?hi1 (by kernel_rfl) (by kernel_rfl) (by kernel_rfl) ?hQ1 ?hy1 (by assumption) ?rest1
        case hi1 => simp only [List.getElem?_toArray, List.getElem?_cons_zero, List.getElem?_cons_succ]; rfl
        case hQ1 => exact fun _ _ _ h => h
        case hy1 => exact Or.inl ⟨by rfl, fun w_ hSw => by obtain ⟨_, _, d0, d1, d2, d3⟩ := hSw; go_simp⟩
        simp only [Act.put, List.setIfInBounds_toArray, List.set_cons_zero, List.set_cons_succ]
        refine wpAnyH_take (i := 2) (oi := ?oi2) (v := (.pointer (some ad))) ?hi2 (by kernel_rfl) (by kernel_rfl) (by kernel_rfl) ?hQ2 ?hy2 (by assumption) ?rest2
        case hi2 => simp only [List.getElem?_toArray, List.getElem?_cons_zero, List.getElem?_cons_succ]; rfl
        case hQ2 => exact fun _ _ _ h => h
        case hy2 => exact Or.inl ⟨by rfl, fun w_ hSw => by obtain ⟨_, _, d0, d1, d2, d3⟩ := hSw; go_simp⟩
        simp only [Act.put, List.setIfInBounds_toArray, List.set_cons_zero, List.set_cons_succ]
        refine wpAnyH_take (i := 3) (oi := ?oi3) (v := (.agg #[.int .i64 a.st, .int .i64 a.en, .int .i64 a.ot, .int .i64 a.pe])) ?hi3 (by kernel_rfl) (by kernel_rfl) (by kernel_rfl) ?hQ3 ?hy3 (by assumption) ?rest3
        case hi3 => simp only [List.getElem?_toArray, List.getElem?_cons_zero, List.getElem?_cons_succ]; rfl
        case hQ3 => exact fun _ _ _ h => h
        case hy3 => exact Or.inl ⟨by rfl, fun w_ hSw => by obtain ⟨_, _, d0, d1, d2, d3⟩ := hSw; go_simp⟩
        simp only [Act.put, List.setIfInBounds_toArray, List.set_cons_zero, List.set_cons_succ]
        refine wpAnyH_ready (rs := [4]) (by kernel_rfl) (by simp) ?_
        refine AllReadyH.cons (o := _) rfl (fun K hK => ?_) ?_
        rotate_left
        · exact AllReadyH.nil
        go_simp
        go_at_call 10
        (with_reducible refine (HVX.out _).mono ?_)
        rintro e wx ⟨rfl, hbx⟩
        have hS0 : Below wo.heap.size wo wx := below_two (Below.drew hS1) hbx
        refine hK.out _ _ ⟨hS0, by have := hS0.size; omega, (hS0.cell hab).trans d0, (hS0.cell (p := ⟨ad.block, ad.off + 1, none⟩) hab).trans d1, (hS0.cell (p := ⟨ad.block, ad.off + 2, none⟩) hab).trans d2, (hS0.cell (p := ⟨ad.block, ad.off + 3, none⟩) hab).trans d3⟩ (fun hHeld => ?_)
        clear hH hK K
        try simp only [Act.put, List.setIfInBounds_toArray, List.set_cons_zero, List.set_cons_succ]
        refine wpAnyH_take (i := 5) (oi := ?oi5) (v := (.bool false)) ?hi5 (by kernel_rfl) (by kernel_rfl) (by kernel_rfl) ?hQ5 ?hy5 (by assumption) ?rest5
        case hi5 => simp only [List.getElem?_toArray, List.getElem?_cons_zero, List.getElem?_cons_succ]; rfl
        case hQ5 => exact fun _ _ _ h => h
        case hy5 => exact Or.inl ⟨by rfl, fun w_ hSw => by obtain ⟨_, _, d0, d1, d2, d3⟩ := hSw; go_simp⟩
        simp only [Act.put, List.setIfInBounds_toArray, List.set_cons_zero, List.set_cons_succ]
        refine wpAnyH_take (i := 6) (oi := ?oi6) (v := (.bool false)) ?hi6 (by kernel_rfl) (by kernel_rfl) (by kernel_rfl) ?hQ6 ?hy6 (by assumption) ?rest6
        case hi6 => simp only [List.getElem?_toArray, List.getElem?_cons_zero, List.getElem?_cons_succ]; rfl
        case hQ6 => exact fun _ _ _ h => h
        case hy6 => exact Or.inl ⟨by rfl, fun w_ hSw => by obtain ⟨_, _, d0, d1, d2, d3⟩ := hSw; go_simp⟩
        simp only [Act.put, List.setIfInBounds_toArray, List.set_cons_zero, List.set_cons_succ]
        refine wpAnyH_take (i := 7) (oi := ?oi7) (v := (.int .i64 0)) ?hi7 (by kernel_rfl) (by kernel_rfl) (by kernel_rfl) ?hQ7 ?hy7 (by assumption) ?rest7
        case hi7 => simp only [List.getElem?_toArray, List.getElem?_cons_zero, List.getElem?_cons_succ]; rfl
        case hQ7 => exact fun _ _ _ h => h
        case hy7 => exact Or.inl ⟨by rfl, fun w_ hSw => by obtain ⟨_, _, d0, d1, d2, d3⟩ := hSw; go_simp⟩
        simp only [Act.put, List.setIfInBounds_toArray, List.set_cons_zero, List.set_cons_succ]
        refine wpAnyH_take (i := 8) (oi := ?oi8) (v := (.bool false)) ?hi8 (by kernel_rfl) (by kernel_rfl) (by kernel_rfl) ?hQ8 ?hy8 (by assumption) ?rest8
        case hi8 => simp only [List.getElem?_toArray, List.getElem?_cons_zero, List.getElem?_cons_succ]; rfl
        case hQ8 => exact fun _ _ _ h => h
        case hy8 => exact Or.inl ⟨by rfl, fun w_ hSw => by obtain ⟨_, _, d0, d1, d2, d3⟩ := hSw; go_simp⟩
        simp only [Act.put, List.setIfInBounds_toArray, List.set_cons_zero, List.set_cons_succ]
        refine wpAnyH_take (i := 9) (oi := ?oi9) (v := (.bool false)) ?hi9 (by kernel_rfl) (by kernel_rfl) (by kernel_rfl) ?hQ9 ?hy9 (by assumption) ?rest9
        case hi9 => simp only [List.getElem?_toArray, List.getElem?_cons_zero, List.getElem?_cons_succ]; rfl
        case hQ9 => exact fun _ _ _ h => h
        case hy9 => exact Or.inl ⟨by rfl, fun w_ hSw => by obtain ⟨_, _, d0, d1, d2, d3⟩ := hSw; go_simp⟩
        simp only [Act.put, List.setIfInBounds_toArray, List.set_cons_zero, List.set_cons_succ]
        refine wpAnyH_take (i := 10) (oi := ?oi10) (v := undef) ?hi10 (by kernel_rfl) (by kernel_rfl) (by kernel_rfl) ?hQ10 ?hy10 (by assumption) ?rest10
        case hi10 => simp only [List.getElem?_toArray, List.getElem?_cons_zero, List.getElem?_cons_succ]; rfl
        case hQ10 => exact fun _ _ _ h => h
        case hy10 => exact Or.inr ⟨by rfl, rfl⟩
        simp only [Act.put, List.setIfInBounds_toArray, List.set_cons_zero, List.set_cons_succ]
        refine wpAnyH_take (i := 11) (oi := ?oi11) (v := undef) ?hi11 (by kernel_rfl) (by kernel_rfl) (by kernel_rfl) ?hQ11 ?hy11 (by assumption) ?rest11
        case hi11 => simp only [List.getElem?_toArray, List.getElem?_cons_zero, List.getElem?_cons_succ]; rfl
        case hQ11 => exact fun _ _ _ h => h
        case hy11 => exact Or.inr ⟨by rfl, rfl⟩
        simp only [Act.put, List.setIfInBounds_toArray, List.set_cons_zero, List.set_cons_succ]
        refine wpAnyH_take (i := 12) (oi := ?oi12) (v := undef) ?hi12 (by kernel_rfl) (by kernel_rfl) (by kernel_rfl) ?hQ12 ?hy12 (by assumption) ?rest12
        case hi12 => simp only [List.getElem?_toArray, List.getElem?_cons_zero, List.getElem?_cons_succ]; rfl
        case hQ12 => exact fun _ _ _ h => h
        case hy12 => exact Or.inr ⟨by rfl, rfl⟩
        simp only [Act.put, List.setIfInBounds_toArray, List.set_cons_zero, List.set_cons_succ]
        refine wpAnyH_take (i := 13) (oi := ?oi13) (v := undef) ?hi13 (by kernel_rfl) (by kernel_rfl) (by kernel_rfl) ?hQ13 ?hy13 (by assumption) ?rest13
        case hi13 => simp only [List.getElem?_toArray, List.getElem?_cons_zero, List.getElem?_cons_succ]; rfl
        case hQ13 => exact fun _ _ _ h => h
        case hy13 => exact Or.inr ⟨by rfl, rfl⟩
        simp only [Act.put, List.setIfInBounds_toArray, List.set_cons_zero, List.set_cons_succ]
        refine wpAnyH_take (i := 14) (oi := ?oi14) (v := undef) ?hi14 (by kernel_rfl) (by kernel_rfl) (by kernel_rfl) ?hQ14 ?hy14 (by assumption) ?rest14
        case hi14 => simp only [List.getElem?_toArray, List.getElem?_cons_zero, List.getElem?_cons_succ]; rfl
        case hQ14 => exact fun _ _ _ h => h
        case hy14 => exact Or.inr ⟨by rfl, rfl⟩
        simp only [Act.put, List.setIfInBounds_toArray, List.set_cons_zero, List.set_cons_succ]
        refine wpAnyH_take (i := 15) (oi := ?oi15) (v := undef) ?hi15 (by kernel_rfl) (by kernel_rfl) (by kernel_rfl) ?hQ15 ?hy15 (by assumption) ?rest15
        case hi15 => simp only [List.getElem?_toArray, List.getElem?_cons_zero, List.getElem?_cons_succ]; rfl
        case hQ15 => exact fun _ _ _ h => h
        case hy15 => exact Or.inr ⟨by rfl, rfl⟩
        simp only [Act.put, List.setIfInBounds_toArray, List.set_cons_zero, List.set_cons_succ]
        refine wpAnyH_take (i := 16) (oi := ?oi16) (v := undef) ?hi16 (by kernel_rfl) (by kernel_rfl) (by kernel_rfl) ?hQ16 ?hy16 (by assumption) ?rest16
        case hi16 => simp only [List.getElem?_toArray, List.getElem?_cons_zero, List.getElem?_cons_succ]; rfl
        case hQ16 => exact fun _ _ _ h => h
        case hy16 => exact Or.inr ⟨by rfl, rfl⟩
        simp only [Act.put, List.setIfInBounds_toArray, List.set_cons_zero, List.set_cons_succ]
        refine wpAnyH_take (i := 17) (oi := ?oi17) (v := undef) ?hi17 (by kernel_rfl) (by kernel_rfl) (by kernel_rfl) ?hQ17 ?hy17 (by assumption) ?rest17
        case hi17 => simp only [List.getElem?_toArray, List.getElem?_cons_zero, List.getElem?_cons_succ]; rfl
        case hQ17 => exact fun _ _ _ h => h
        case hy17 => exact Or.inr ⟨by rfl, rfl⟩
        simp only [Act.put, List.setIfInBounds_toArray, List.set_cons_zero, List.set_cons_succ]
        refine wpAnyH_take (i := 18) (oi := ?oi18) (v := undef) ?hi18 (by kernel_rfl) (by kernel_rfl) (by kernel_rfl) ?hQ18 ?hy18 (by assumption) ?rest18
        case hi18 => simp only [List.getElem?_toArray, List.getElem?_cons_zero, List.getElem?_cons_succ]; rfl
        case hQ18 => exact fun _ _ _ h => h
        case hy18 => exact Or.inr ⟨by rfl, rfl⟩
        simp only [Act.put, List.setIfInBounds_toArray, List.set_cons_zero, List.set_cons_succ]
        refine wpAnyH_take (i := 19) (oi := ?oi19) (v := undef) ?hi19 (by kernel_rfl) (by kernel_rfl) (by kernel_rfl) ?hQ19 ?hy19 (by assumption) ?rest19
        case hi19 => simp only [List.getElem?_toArray, List.getElem?_cons_zero, List.getElem?_cons_succ]; rfl
        case hQ19 => exact fun _ _ _ h => h
        case hy19 => exact Or.inr ⟨by rfl, rfl⟩
        simp only [Act.put, List.setIfInBounds_toArray, List.set_cons_zero, List.set_cons_succ]
        refine wpAnyH_take (i := 20) (oi := ?oi20) (v := undef) ?hi20 (by kernel_rfl) (by kernel_rfl) (by kernel_rfl) ?hQ20 ?hy20 (by assumption) ?rest20
        case hi20 => simp only [List.getElem?_toArray, List.getElem?_cons_zero, List.getElem?_cons_succ]; rfl
        case hQ20 => exact fun _ _ _ h => h
        case hy20 => exact Or.inr ⟨by rfl, rfl⟩
        simp only [Act.put, List.setIfInBounds_toArray, List.set_cons_zero, List.set_cons_succ]
        refine wpAnyH_take (i := 21) (oi := ?oi21) (v := (.bool false)) ?hi21 (by kernel_rfl) (by kernel_rfl) (by kernel_rfl) ?hQ21 ?hy21 (by assumption) ?rest21
        case hi21 => simp only [List.getElem?_toArray, List.getElem?_cons_zero, List.getElem?_cons_succ]; rfl
        case hQ21 => exact fun _ _ _ h => h
        case hy21 => exact Or.inl ⟨by rfl, fun w_ hSw => by obtain ⟨_, _, d0, d1, d2, d3⟩ := hSw; go_simp⟩
        simp only [Act.put, List.setIfInBounds_toArray, List.set_cons_zero, List.set_cons_succ]
        refine wpAnyH_take (i := 22) (oi := ?oi22) (v := (.bool false)) ?hi22 (by kernel_rfl) (by kernel_rfl) (by kernel_rfl) ?hQ22 ?hy22 (by assumption) ?rest22
        case hi22 => simp only [List.getElem?_toArray, List.getElem?_cons_zero, List.getElem?_cons_succ]; rfl
        case hQ22 => exact fun _ _ _ h => h
        case hy22 => exact Or.inl ⟨by rfl, fun w_ hSw => by obtain ⟨_, _, d0, d1, d2, d3⟩ := hSw; go_simp⟩
        simp only [Act.put, List.setIfInBounds_toArray, List.set_cons_zero, List.set_cons_succ]
        refine wpAnyH_done (by kernel_rfl) ?_ _
        all_goals
          skip
          have HO2 := Lib.hid (own_below HO.out hS0)
          have HN2 := Lib.hid (HN.out.below hS0 HN.out.lt)
          have HC2 := Lib.hid (HC.out.below hS0 HC.out.lt)
          have HB2 := Lib.hid (below_two HB.out hS0)
          obtain ⟨ad', had', _, e0, e1, e2, e3⟩ := (Reads.of_own HO2.out).cell_at hlt
          obtain rfl : ad = ad' := by injection had'
          rw [add_zero_of] at e0 e1 e2 e3
          obtain ⟨f0, f1, f2, f3⟩ := st_blk HC2.out
          have hcb : w.heap.size + 1 < _ := HC2.out.lt
          clear HO HN HC HB hS0 had'
          rw [HA.out] at e0 e1 e2 e3 HFK HCK
          clear HA
          cases hf : fnd 0
          · rw [hf] at HFK
            by_cases hd : a = ⟨c0, c1, c2, c3⟩
            · have F : Hid (fnd (0 + 1) = true) := by show _ = _; rw [HFK.out, decide_eq_true hd]; rfl
              subst hd
              simp only [] at e0 e1 e2 e3
              clear HFK
              go_wp2_with fail
              go_quiet (fail)
              go_wp2_with fail
              exact ⟨⟨0 + 1, by omega, by go_num, by rw [F.out], own_drewN HO2.out nq, HN2.out.drewN nq, HC2.out.drewN nq, below_drewN HB2.out nq⟩, by simp [intOf]; omega⟩
            · have F : Hid (fnd (0 + 1) = false) := by show _ = _; rw [HFK.out, decide_eq_false hd]; rfl
              have hp := HCK.out hd
              obtain ⟨a0, a1, a2, a3⟩ := a
              simp only [] at e0 e1 e2 e3 hp
              clear HFK hd
              rcases hp with h | ⟨h1, h⟩
              · have q1 : (a0 == c0) = false := beq_eq_false_iff_ne.2 h
                clear h
                go_wp2_with fail
                go_quiet (fail)
                go_wp2_with fail
                exact ⟨⟨0 + 1, by omega, by go_num, by rw [F.out], own_drewN HO2.out nq, HN2.out.drewN nq, HC2.out.drewN nq, below_drewN HB2.out nq⟩, by simp [intOf]; omega⟩
              subst h1
              rcases h with h | ⟨h1, h⟩
              · have q1 : (a1 == c1) = false := beq_eq_false_iff_ne.2 h
                clear h
                go_wp2_with fail
                go_quiet (fail)
                go_wp2_with fail
                exact ⟨⟨0 + 1, by omega, by go_num, by rw [F.out], own_drewN HO2.out nq, HN2.out.drewN nq, HC2.out.drewN nq, below_drewN HB2.out nq⟩, by simp [intOf]; omega⟩
              subst h1
              rcases h with h | ⟨h1, h⟩
              · have q1 : (a2 == c2) = false := beq_eq_false_iff_ne.2 h
                clear h
                go_wp2_with fail
                go_quiet (fail)
                go_wp2_with fail
                exact ⟨⟨0 + 1, by omega, by go_num, by rw [F.out], own_drewN HO2.out nq, HN2.out.drewN nq, HC2.out.drewN nq, below_drewN HB2.out nq⟩, by simp [intOf]; omega⟩
              subst h1
              have q1 : (a3 == c3) = false := beq_eq_false_iff_ne.2 h
              clear h
              go_wp2_with fail
              go_quiet (fail)
              go_wp2_with fail
              exact ⟨⟨0 + 1, by omega, by go_num, by rw [F.out], own_drewN HO2.out nq, HN2.out.drewN nq, HC2.out.drewN nq, below_drewN HB2.out nq⟩, by simp [intOf]; omega⟩
          · have F : Hid (fnd (0 + 1) = true) := by show _ = _; rw [HFK.out, hf]; rfl
            clear HFK
            go_wp2_with fail
            go_quiet (fail)
            go_wp2_with fail
            exact ⟨⟨0 + 1, by omega, by go_num, by rw [F.out], own_drewN HO2.out nq, HN2.out.drewN nq, HC2.out.drewN nq, below_drewN HB2.out nq⟩, by simp [intOf]; omega⟩
      · obtain ⟨ad, rfl, hab, d0, d1, d2, d3⟩ := (Reads.of_own HO.out).cell_at hlt
        obtain ⟨ad', had', _, g0, g1, g2, g3⟩ := (Reads.of_own HO.out).cell_at (show m < n by omega)
        obtain rfl : ad = ad' := by injection had'
        have HVX := Lib.hid (fun w => HVA.out (cs.getD (m + 1) default) w HV1.out)
        have HCX := Lib.hid (fun w => HCM.out (cs.getD m default) (cs.getD (m + 1) default) w (HCL.out m hlt))
        obtain ⟨a, ha⟩ : ∃ a : SCell, cs.getD (m + 1) default = a := ⟨_, rfl⟩
        obtain ⟨b, hb⟩ : ∃ b : SCell, cs.getD m default = b := ⟨_, rfl⟩
        have HA := Lib.hid ha
        rw [ha] at d0 d1 d2 d3 HVX HCX
        rw [hb] at g0 g1 g2 g3 HCX
        clear ha hb had'
        have z1 : decide ((0 : Int) < (m : Int) + 1) = true := by rw [decide_eq_true_eq]; omega
        have z2 : decide (0 < m + 1) = true := by rw [decide_eq_true_eq]; omega
        have b3 : (m : Int) < (n : Int) := by omega
        have b4 : (0 : Int) ≤ (m : Int) := by omega
        have b5 : (m : Int) + 1 < (n : Int) := by omega
        have b6 : (0 : Int) ≤ (m : Int) + 1 := by omega
        have hS1 : Below wo.heap.size wo wo := Below.refl _ _
        have v0 : ((m : Int) + 1).toNat = m + 1 := by omega
        have v1 : IntKind.i64.wrap (m : Int) = (m : Int) := IntWalk.i64_in _ (by omega)
        have v2 : (m : Int) + 1 - 1 = (m : Int) := by omega
        go_wp2_with fail
        go_region_held3 (fun w' => Below wo.heap.size wo w' ∧ ad.block < w'.heap.size ∧ w'.cell? (ad.add ((m + 1) * 4)) = some (.int .i64 a.st) ∧ w'.cell? ⟨(ad.add ((m + 1) * 4)).block, (ad.add ((m + 1) * 4)).off + 1, none⟩ = some (.int .i64 a.en) ∧ w'.cell? ⟨(ad.add ((m + 1) * 4)).block, (ad.add ((m + 1) * 4)).off + 2, none⟩ = some (.int .i64 a.ot) ∧ w'.cell? ⟨(ad.add ((m + 1) * 4)).block, (ad.add ((m + 1) * 4)).off + 3, none⟩ = some (.int .i64 a.pe) ∧ w'.cell? (ad.add (m * 4)) = some (.int .i64 b.st) ∧ w'.cell? ⟨(ad.add (m * 4)).block, (ad.add (m * 4)).off + 1, none⟩ = some (.int .i64 b.en) ∧ w'.cell? ⟨(ad.add (m * 4)).block, (ad.add (m * 4)).off + 2, none⟩ = some (.int .i64 b.ot) ∧ w'.cell? ⟨(ad.add (m * 4)).block, (ad.add (m * 4)).off + 3, none⟩ = some (.int .i64 b.pe))
          ((go_split_ands
            refine ⟨?_, ?_, ?_, ?_, ?_, ?_, ?_, ?_, ?_, ?_⟩
            · (first | assumption | exact Below.drew (by assumption) | exact below_two (by assumption) hbx | exact below_two (Below.drew (by assumption)) hbx)
            · (first | assumption | (have := hbx.size; omega) | (have := hbx.size; simp at this; omega))
            · (first | assumption | exact (hbx.cell (by first | assumption | (simp only [block_of_add]; first | assumption | omega))).trans (by assumption))
            · (first | assumption | exact (hbx.cell (by first | assumption | (simp only [block_of_add]; first | assumption | omega))).trans (by assumption))
            · (first | assumption | exact (hbx.cell (by first | assumption | (simp only [block_of_add]; first | assumption | omega))).trans (by assumption))
            · (first | assumption | exact (hbx.cell (by first | assumption | (simp only [block_of_add]; first | assumption | omega))).trans (by assumption))
            · (first | assumption | exact (hbx.cell (by first | assumption | (simp only [block_of_add]; first | assumption | omega))).trans (by assumption))
            · (first | assumption | exact (hbx.cell (by first | assumption | (simp only [block_of_add]; first | assumption | omega))).trans (by assumption))
            · (first | assumption | exact (hbx.cell (by first | assumption | (simp only [block_of_add]; first | assumption | omega))).trans (by assumption))
            · (first | assumption | exact (hbx.cell (by first | assumption | (simp only [block_of_add]; first | assumption | omega))).trans (by assumption))))
          ((first
            | (go_at_call 10; (with_reducible refine (HVX.out _).mono ?_); (rintro e wx ⟨rfl, hbx⟩))
            | (go_at_call 25; (with_reducible refine (HCX.out _).mono ?_); (rintro e wx ⟨rfl, hbx⟩))))
        all_goals
          have hS0 : Below wo.heap.size wo _ := (show Below wo.heap.size wo _ ∧ ad.block < _ ∧ _ from by assumption).1
          clear v1 v2
          have HO2 := Lib.hid (own_below HO.out hS0)
          have HN2 := Lib.hid (HN.out.below hS0 HN.out.lt)
          have HC2 := Lib.hid (HC.out.below hS0 HC.out.lt)
          have HB2 := Lib.hid (below_two HB.out hS0)
          obtain ⟨ad', had', _, e0, e1, e2, e3⟩ := (Reads.of_own HO2.out).cell_at hlt
          obtain rfl : ad = ad' := by injection had'
          skip
          obtain ⟨f0, f1, f2, f3⟩ := st_blk HC2.out
          have hcb : w.heap.size + 1 < _ := HC2.out.lt
          clear HO HN HC HB hS0 had'
          rw [HA.out] at e0 e1 e2 e3 HFK HCK
          clear HA
          cases hf : fnd (m + 1)
          · rw [hf] at HFK
            by_cases hd : a = ⟨c0, c1, c2, c3⟩
            · have F : Hid (fnd ((m + 1) + 1) = true) := by show _ = _; rw [HFK.out, decide_eq_true hd]; rfl
              subst hd
              simp only [] at e0 e1 e2 e3
              clear HFK
              go_wp2_with fail
              go_quiet (fail)
              go_wp2_with fail
              exact ⟨⟨(m + 1) + 1, by omega, by go_num, by rw [F.out], own_drewN HO2.out nq, HN2.out.drewN nq, HC2.out.drewN nq, below_drewN HB2.out nq⟩, by simp [intOf]; omega⟩
            · have F : Hid (fnd ((m + 1) + 1) = false) := by show _ = _; rw [HFK.out, decide_eq_false hd]; rfl
              have hp := HCK.out hd
              obtain ⟨a0, a1, a2, a3⟩ := a
              simp only [] at e0 e1 e2 e3 hp
              clear HFK hd
              rcases hp with h | ⟨h1, h⟩
              · have q1 : (a0 == c0) = false := beq_eq_false_iff_ne.2 h
                clear h
                go_wp2_with fail
                go_quiet (fail)
                go_wp2_with fail
                exact ⟨⟨(m + 1) + 1, by omega, by go_num, by rw [F.out], own_drewN HO2.out nq, HN2.out.drewN nq, HC2.out.drewN nq, below_drewN HB2.out nq⟩, by simp [intOf]; omega⟩
              subst h1
              rcases h with h | ⟨h1, h⟩
              · have q1 : (a1 == c1) = false := beq_eq_false_iff_ne.2 h
                clear h
                go_wp2_with fail
                go_quiet (fail)
                go_wp2_with fail
                exact ⟨⟨(m + 1) + 1, by omega, by go_num, by rw [F.out], own_drewN HO2.out nq, HN2.out.drewN nq, HC2.out.drewN nq, below_drewN HB2.out nq⟩, by simp [intOf]; omega⟩
              subst h1
              rcases h with h | ⟨h1, h⟩
              · have q1 : (a2 == c2) = false := beq_eq_false_iff_ne.2 h
                clear h
                go_wp2_with fail
                go_quiet (fail)
                go_wp2_with fail
                exact ⟨⟨(m + 1) + 1, by omega, by go_num, by rw [F.out], own_drewN HO2.out nq, HN2.out.drewN nq, HC2.out.drewN nq, below_drewN HB2.out nq⟩, by simp [intOf]; omega⟩
              subst h1
              have q1 : (a3 == c3) = false := beq_eq_false_iff_ne.2 h
              clear h
              go_wp2_with fail
              go_quiet (fail)
              go_wp2_with fail
              exact ⟨⟨(m + 1) + 1, by omega, by go_num, by rw [F.out], own_drewN HO2.out nq, HN2.out.drewN nq, HC2.out.drewN nq, below_drewN HB2.out nq⟩, by simp [intOf]; omega⟩
          · have F : Hid (fnd ((m + 1) + 1) = true) := by show _ = _; rw [HFK.out, hf]; rfl
            clear HFK
            go_wp2_with fail
            go_quiet (fail)
            go_wp2_with fail
            exact ⟨⟨(m + 1) + 1, by omega, by go_num, by rw [F.out], own_drewN HO2.out nq, HN2.out.drewN nq, HC2.out.drewN nq, below_drewN HB2.out nq⟩, by simp [intOf]; omega⟩
    · have k1 : decide ((k : Int) < (n : Int)) = false := by rw [decide_eq_false_iff_not]; omega
      have k2 : decide (k < n) = false := by rw [decide_eq_false_iff_not]; omega
      obtain rfl : k = n := by omega
      rw [HFN.out]
      obtain ⟨f0, f1, f2, f3⟩ := st_blk HC.out
      obtain ⟨x0, x1⟩ := pair_cells HN.out
      go_wp2_with fail
      refine (HUS.out _).mono ?_
      rintro e w5 ⟨rfl, hb⟩
      have HB5 := Lib.hid (below_two HB.out hb)
      have HN5 := Lib.hid (HN.out.below hb HN.out.lt)
      have HC5 := Lib.hid (HC.out.below hb HC.out.lt)
      clear hb HB HN HC HO f0 f1 f2 f3 x0 x1
      obtain ⟨f0, f1, f2, f3⟩ := st_blk HC5.out
      go_wp2_with fail
      refine (HVC.out _).mono ?_
      rintro e w6 ⟨rfl, hb⟩
      have HB6 := Lib.hid (below_two HB5.out hb)
      have HN6 := Lib.hid (HN5.out.below hb HN5.out.lt)
      have HC6 := Lib.hid (HC5.out.below hb HC5.out.lt)
      clear hb HB5 HN5 HC5 f0 f1 f2 f3
      obtain ⟨f0, f1, f2, f3⟩ := st_blk HC6.out
      obtain ⟨x0, x1⟩ := pair_cells HN6.out
      obtain ⟨t1, h1⟩ : ∃ t, (c0 == s) = t := ⟨_, rfl⟩
      obtain ⟨t2, h2⟩ : ∃ t, decide (c1 < x) = t := ⟨_, rfl⟩
      obtain ⟨t3, h3⟩ : ∃ t, decide (c2 < x) = t := ⟨_, rfl⟩
      obtain ⟨t4, h4⟩ : ∃ t, (c3 == y) = t := ⟨_, rfl⟩
      have hak := HAK.out
      rw [h1, h2, h3, h4] at hak
      have HAK2 := Lib.hid hak
      clear hak HAK HVL HCL HFN HLN HVC HUS HVA HCM HFS HCN
      have FIN : ∀ {b : Bool}, AK = b → Hid (AK = b) := fun h => h
      cases V
      · skip
        have e0 := HAK2.out
        simp at e0
        subst e0
        clear HAK2
        go_wp2_with fail
        go_ret
        exact ⟨rfl, HB6.out⟩
      cases t1
      · skip
        have e0 := HAK2.out
        simp at e0
        subst e0
        clear HAK2
        go_wp2_with fail
        go_ret
        exact ⟨rfl, HB6.out⟩
      cases A1
      · skip
        cases A2
        · skip
          cases A3
          · skip
            have e0 := HAK2.out
            simp at e0
            subst e0
            clear HAK2
            go_wp2_with fail
            go_ret
            exact ⟨rfl, HB6.out⟩
          · cases t4
            · skip
              have e0 := HAK2.out
              simp at e0
              subst e0
              clear HAK2
              go_wp2_with fail
              go_ret
              exact ⟨rfl, HB6.out⟩
            · skip
              have e0 := HAK2.out
              simp at e0
              subst e0
              clear HAK2
              go_wp2_with fail
              go_ret
              exact ⟨rfl, HB6.out⟩
        · cases t3
          · skip
            have e0 := HAK2.out
            simp at e0
            subst e0
            clear HAK2
            go_wp2_with fail
            go_ret
            exact ⟨rfl, HB6.out⟩
          · skip
            cases A3
            · skip
              have e0 := HAK2.out
              simp at e0
              subst e0
              clear HAK2
              go_wp2_with fail
              go_ret
              exact ⟨rfl, HB6.out⟩
            · cases t4
              · skip
                have e0 := HAK2.out
                simp at e0
                subst e0
                clear HAK2
                go_wp2_with fail
                go_ret
                exact ⟨rfl, HB6.out⟩
              · skip
                have e0 := HAK2.out
                simp at e0
                subst e0
                clear HAK2
                go_wp2_with fail
                go_ret
                exact ⟨rfl, HB6.out⟩
      · cases t2
        · skip
          have e0 := HAK2.out
          simp at e0
          subst e0
          clear HAK2
          go_wp2_with fail
          go_ret
          exact ⟨rfl, HB6.out⟩
        · skip
          cases A2
          · skip
            cases A3
            · skip
              have e0 := HAK2.out
              simp at e0
              subst e0
              clear HAK2
              go_wp2_with fail
              go_ret
              exact ⟨rfl, HB6.out⟩
            · cases t4
              · skip
                have e0 := HAK2.out
                simp at e0
                subst e0
                clear HAK2
                go_wp2_with fail
                go_ret
                exact ⟨rfl, HB6.out⟩
              · skip
                have e0 := HAK2.out
                simp at e0
                subst e0
                clear HAK2
                go_wp2_with fail
                go_ret
                exact ⟨rfl, HB6.out⟩
          · cases t3
            · skip
              have e0 := HAK2.out
              simp at e0
              subst e0
              clear HAK2
              go_wp2_with fail
              go_ret
              exact ⟨rfl, HB6.out⟩
            · skip
              cases A3
              · skip
                have e0 := HAK2.out
                simp at e0
                subst e0
                clear HAK2
                go_wp2_with fail
                go_ret
                exact ⟨rfl, HB6.out⟩
              · cases t4
                · skip
                  have e0 := HAK2.out
                  simp at e0
                  subst e0
                  clear HAK2
                  go_wp2_with fail
                  go_ret
                  exact ⟨rfl, HB6.out⟩
                · skip
                  have e0 := HAK2.out
                  simp at e0
                  subst e0
                  clear HAK2
                  go_wp2_with fail
                  go_ret
                  exact ⟨rfl, HB6.out⟩
end Go.Proofs.YtophffmofpmbpaaDoor
