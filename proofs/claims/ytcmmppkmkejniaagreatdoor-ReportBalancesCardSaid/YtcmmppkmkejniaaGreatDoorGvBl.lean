/-
  The law ReportBalances.
-/
import Derived.Test.YtcmmppkmkejniaaGreatDoorGvBlP
import Derived.Test.YtcmmppkmkejniaaGreatDoorGvSd2
import Derived.Test.YtcmmppkmkejniaaGreatDoorSrRep11
namespace Go.Proofs.YtcmmppkmkejniaaGreatDoor
open Go.RowKit
set_option linter.unusedVariables false
set_option linter.unusedSimpArgs false
theorem refAmount_any (n : Int) (w : World) : Calls Tryz.prog 18 #[.int .i64 n] w fun e w' => e = .returned (.bool (okAmt n)) ∧ w = w' := by
  cases h1 : decide (-1000000000000 ≤ n) <;> cases h2 : decide (n ≤ 1000000000000)
  all_goals (
    have F : Hid (okAmt n = (decide (-1000000000000 ≤ n) && decide (n ≤ 1000000000000))) := rfl
    rw [h1, h2] at F
    have h1' := h1
    have h2' := h2
    have k1 : decide (n ≥ -1000000000000) = decide (-1000000000000 ≤ n) := rfl
    rw [h1] at k1
    go_enter Tryz.func18, Tryz.ntmps18
    go_wp2_with fail
    go_ret
    exact ⟨by rw [F.out]; rfl, rfl⟩)
theorem balS_bd {bs : List SBal} : ∀ k, k ≤ bs.length → (∀ b ∈ bs.take k, -1000000000000 ≤ b.amt ∧ b.amt ≤ 1000000000000) → -(1000000000000 * (k : Int)) ≤ balS bs k ∧ balS bs k ≤ 1000000000000 * (k : Int) := by
  intro k
  induction k with
  | zero => intro _ _; simp [balS]
  | succ k ih =>
    intro hk h
    have i := ih (by omega) fun b hb => h b (by rw [List.take_succ_eq_append_getElem (by omega)]; exact List.mem_append.2 (.inl hb))
    have e : bs.getD k default = bs[k] := by simp [List.getD, show k < bs.length by omega]
    have j := h (bs.getD k default) (by rw [List.take_succ_eq_append_getElem (by omega), e]; exact List.mem_append.2 (.inr (by simp)))
    rw [balS_step (by omega)]
    omega
/-- the totals so far are amounts, their accounts of the chart -/
def balOk (ch : List SAcc) (bs : List SBal) (k : Nat) : Prop := ∀ b ∈ bs.take k, (∃ a, findA ch b.acct = some a) ∧ -1000000000000 ≤ b.amt ∧ b.amt ≤ 1000000000000
theorem balOk_step {ch : List SAcc} {bs : List SBal} {k : Nat} (hk : k < bs.length) (h : balOk ch bs k) {a : SAcc} (hf : findA ch (bs.getD k default).acct = some a) (ha : okAmt (bs.getD k default).amt = true) : balOk ch bs (k + 1) := by
  intro b hb
  rw [List.take_succ_eq_append_getElem hk] at hb
  have e : bs.getD k default = bs[k] := by simp [List.getD, hk]
  rw [e] at hf ha
  rcases List.mem_append.1 hb with hb | hb
  · exact h b hb
  · rw [List.mem_singleton] at hb
    subst hb
    exact ⟨⟨a, hf⟩, okAmt_iff.1 ha⟩
theorem findV_some (l : List SAcc) (c : Int) : ∃ (q0 q1 q2 q3 : Int) (okv : Bool), findV l c = .tuple #[.agg #[.int .i64 q0, .int .i64 q1, .int .i64 q2, .int .i64 q3], .bool okv] ∧ (okv = true → ∃ a, findA l c = some a) := by
  cases h : findA l c with
  | none => exact ⟨0, 0, 0, 0, false, findV_no h, fun h => by cases h⟩
  | some a => exact ⟨a.code, a.kind, a.basis, a.parent, true, findV_yes h, fun _ => ⟨a, rfl⟩⟩
/-- a total's account, as the region has it before it -/
def BlS (g0 : Nat) (v : Value) (p : Addr) (c : Int) (wo W : World) : Prop := Below wo.heap.size wo W ∧ W.cell? ⟨g0, 4, none⟩ = some v ∧ W.cell? p = some (.int .i64 c)
theorem BlS.step {g0 : Nat} {v : Value} {p : Addr} {c : Int} {wo W W' : World} (h : BlS g0 v p c wo W) (hb : Below W.heap.size W W') (h0 : g0 < wo.heap.size) (hp : p.block < wo.heap.size) : BlS g0 v p c wo W' :=
  ⟨below_two h.1 hb, (hb.cell (by show g0 < _; have := h.1.size; omega)).trans h.2.1, (hb.cell (by have := h.1.size; omega)).trans h.2.2⟩
theorem BlS.far {g0 : Nat} {v : Value} {p : Addr} {c : Int} {wo W : World} (h : BlS g0 v p c wo W) {q : Addr} (hq : wo.heap.size ≤ q.block) (h0 : g0 < wo.heap.size) (hp : p.block < wo.heap.size) (u : Value) : BlS g0 v p c wo (W.setCell q u) :=
  ⟨h.1.setCell hq u, (World.cell?_setCell_other W q _ u (fun e => by have e2 : q.block = g0 := congrArg Addr.block e; omega)).trans h.2.1, (World.cell?_setCell_other W q _ u (fun e => by have e2 := congrArg Addr.block e; omega)).trans h.2.2⟩
/-- the cells of a row of three, of two numbers -/
theorem own_3 {w : World} {base : Nat} {T : TypeId} {A : Option Addr} {c n : Nat} {a b d : Int} (h : w.ownsRow base T 1 (.slice A n c) n ([a, b, d].map (Value.int .i64))) : n = 3 ∧ ∃ ad, A = some ad ∧ w.cell? ad = some (.int .i64 a) ∧ w.cell? ⟨ad.block, ad.off + 1, none⟩ = some (.int .i64 b) ∧ w.cell? ⟨ad.block, ad.off + 2, none⟩ = some (.int .i64 d) := by
  have hr := Reads.of_own h
  have hn : n = 3 := by have := hr.1; simp at this; omega
  obtain ⟨ad, rfl, _, hc⟩ := hr.2 (by omega)
  refine ⟨hn, ad, rfl, ?_, ?_, ?_⟩
  · have := hc 0 _ rfl; simpa [Addr.add_zero'] using this
  · have := hc 1 _ rfl; rwa [add_pos _ 1 (by omega)] at this
  · have := hc 2 _ rfl; rwa [add_pos _ 2 (by omega)] at this
theorem own_2 {w : World} {base : Nat} {T : TypeId} {A : Option Addr} {c n : Nat} {a b : Int} (h : w.ownsRow base T 1 (.slice A n c) n ([a, b].map (Value.int .i64))) : n = 2 ∧ ∃ ad, A = some ad ∧ w.cell? ad = some (.int .i64 a) ∧ w.cell? ⟨ad.block, ad.off + 1, none⟩ = some (.int .i64 b) := by
  have hr := Reads.of_own h
  have hn : n = 2 := by have := hr.1; simp at this; omega
  obtain ⟨ad, rfl, _, hc⟩ := hr.2 (by omega)
  refine ⟨hn, ad, rfl, ?_, ?_⟩
  · have := hc 0 _ rfl; simpa [Addr.add_zero'] using this
  · have := hc 1 _ rfl; rwa [add_pos _ 1 (by omega)] at this
set_option maxRecDepth 100000 in
set_option maxHeartbeats 32000000 in
theorem lawBalances (g : SGrp) (bs : List SBal) (A : Option Addr) (n c : Nat) (B : Nat) (w : World) (hE : Env w) (hg : GrpIn w B g) (hB : B ≤ w.heap.size) (hr : Reads w B 2 A n (balsCells bs)) (hn : n ≤ 9223372036854775807) :
    Calls Tryz.prog 5 #[grpV g, .slice A n c] w fun e w' => e = .returned (.bool true) ∧ Below w.heap.size w w' := by
  have HAW : Hid (∀ W : World, Below w.heap.size w W → Calls Tryz.prog 17 #[] W fun e w' => e = .returned (.bool true) ∧ Below W.heap.size W w') := fun W hW => awake51_true W (hE.after hW)
  have HFW : Hid (∀ W : World, Below w.heap.size w W → Calls Tryz.prog 7 #[grpV g] W (FewSays g W)) := fun W hW => gfew_any g B W (hg.low hB (Nat.le_refl _) hW) (by have := hW.size; omega)
  have HVA : Hid (g.nc ≤ 60 → (∀ x ∈ g.ents, x.nc ≤ 1000) → g.ne ≤ 1000 → (∀ W : World, Below w.heap.size w W → Calls Tryz.prog 13 #[grpV g] W fun e w' => e = .returned (.bool (grpR g.p)) ∧ Below W.heap.size W w')) := fun h1 h2 h3 W hW => rgrp_any g B W (hg.low hB (Nat.le_refl _) hW) (by have := hW.size; omega) (by omega) h2 h3
  have HYES : Hid (g.nc ≤ 60 → (∀ x ∈ g.ents, x.nc ≤ 1000) → g.ne ≤ 1000 → grpR g.p = true → (∀ W : World, Below w.heap.size w W → Calls Tryz.prog 8 #[grpV g] W fun e w' => ∃ v, e = .returned (.tuple #[v, .int .i64 0]) ∧ w'.ownsRow W.heap.size 39 5 v (posRows g.chart).length (rowsCells (posRows g.chart)) ∧ Below W.heap.size W w') ∧ (∀ W : World, Below w.heap.size w W → Calls Tryz.prog 10 #[grpV g] W fun e w' => ∃ v, e = .returned (.tuple #[v, .int .i64 0]) ∧ w'.ownsRow W.heap.size 39 5 v (incRows g.chart).length (rowsCells (incRows g.chart)) ∧ Below W.heap.size W w') ∧ (∀ r ∈ allRows g.chart, r.name.length ≤ 16) ∧ (∀ x ∈ g.chart, 1 ≤ x.kind ∧ x.kind ≤ 5) ∧ chartR g.chart true = true ∧ g.chart.length = g.nc) := by
    intro h1 h2 h3 h4
    have h5 : grpP g.p = true := by rw [grp_same]; exact h4
    obtain ⟨hc, hch⟩ := grpR_codes h4
    have h6 : ∀ x ∈ g.chart, 0 ≤ x.code ∧ x.code ≤ 99999 := fun x hx => by have := hc x hx; omega
    have h7 : ∀ x ∈ g.chart, 1 ≤ x.code ∧ x.code ≤ 99999 := fun x hx => by have := hc x hx; omega
    have h8 : ∀ x ∈ g.chart, 1 ≤ x.kind ∧ x.kind ≤ 5 := fun x hx => by have := hc x hx; omega
    have hl := hg.ch.len
    exact ⟨fun W hW => ppos_yes g B W (hE.after hW) (hg.low hB (Nat.le_refl _) hW) (by have := hW.size; omega) (by omega) h2 h6 h5,
      fun W hW => pinc_yes g B W (hE.after hW) (hg.low hB (Nat.le_refl _) hW) (by have := hW.size; omega) (by omega) h2 h6 h5,
      fun r hr => all_names h7 hr, h8, hch, hl⟩
  have HCH := Lib.hid hg.ch
  have HRB := Lib.hid hr
  have HLB := Lib.hid (bals_len hr)
  clear hg hE hr
  obtain ⟨cu, yr, mo, pe, Ac, nc, cc, ch, ro, Ae, ne, ce, es⟩ := g
  unfold FewSays at HFW
  unfold grpV at HFW HVA HYES ⊢
  simp only [] at HFW HVA HYES HCH ⊢
  have HBX := Lib.hid ((Below.refl w.heap.size w).alloc (Nat.le_refl _) (.cells #[.string ⟨cu.toArray⟩, .int .i64 yr, .int .i64 mo, .int .i64 pe, .slice Ac nc cc, .int .i64 ro.c0, .int .i64 ro.c1, .int .i64 ro.c2, .int .i64 ro.c3, .int .i64 ro.c4, .int .i64 ro.c5, .int .i64 ro.c6, .int .i64 ro.c7, .int .i64 ro.c8, .int .i64 ro.c9, .int .i64 ro.c10, .int .i64 ro.c11, .int .i64 ro.c12, .int .i64 ro.c13, .int .i64 ro.c14, .slice Ae ne ce] 29))
  have HE := Lib.hid (Blk.new w 29 #[.string ⟨cu.toArray⟩, .int .i64 yr, .int .i64 mo, .int .i64 pe, .slice Ac nc cc, .int .i64 ro.c0, .int .i64 ro.c1, .int .i64 ro.c2, .int .i64 ro.c3, .int .i64 ro.c4, .int .i64 ro.c5, .int .i64 ro.c6, .int .i64 ro.c7, .int .i64 ro.c8, .int .i64 ro.c9, .int .i64 ro.c10, .int .i64 ro.c11, .int .i64 ro.c12, .int .i64 ro.c13, .int .i64 ro.c14, .slice Ae ne ce])
  go_enter Tryz.func5, Tryz.ntmps5
  go_wp2_with fail
  refine (HAW.out _ HBX.out).mono ?_
  rintro e w1 ⟨rfl, hb1⟩
  have HB1 := Lib.hid (below_two HBX.out hb1)
  have HE1 := Lib.hid (HE.out.below hb1 (by simp))
  have hs1 : w.heap.size < w1.heap.size := by have := hb1.size; simp only [World.size_alloc] at this; omega
  clear hb1
  go_wp2_with (refine wpList_load_grp (by first | rfl | simp [Region.wanted, yielded]) _ rfl _ rfl _ rfl HE1.out ?_)
  refine (HFW.out _ HB1.out).mono ?_
  rintro e w2 ⟨b, rfl, hfb, hb2⟩
  have HB2 := Lib.hid (below_two HB1.out hb2)
  have HE2 := Lib.hid (HE1.out.below hb2 hs1)
  have hs2 : w1.heap.size ≤ w2.heap.size := hb2.size
  clear hb2
  cases b
  · go_wp2_with fail
    refine (HAW.out _ HB2.out).mono ?_
    rintro e wz ⟨rfl, hbz⟩
    have HBZ := Lib.hid (below_two HB2.out hbz)
    clear hbz
    go_wp2_with fail
    go_ret
    exact ⟨rfl, HBZ.out⟩
  obtain ⟨f1, f2, f3⟩ := hfb rfl
  replace HVA := Lib.hid (HVA.out (by omega) (fun x hx => by have := f3 x hx; omega) (by omega))
  replace HYES := Lib.hid (HYES.out (by omega) (fun x hx => by have := f3 x hx; omega) (by omega))
  clear hfb f3 HFW
  go_wp2_with (refine wpList_load_grp (by first | rfl | simp [Region.wanted, yielded]) _ rfl _ rfl _ rfl HE2.out ?_)
  refine (HVA.out _ HB2.out).mono ?_
  rintro e w3 ⟨rfl, hb3⟩
  have HB3 := Lib.hid (below_two HB2.out hb3)
  have HE3 := Lib.hid (HE2.out.below hb3 (by omega))
  have hs3 : w2.heap.size ≤ w3.heap.size := hb3.size
  clear hb3 HVA
  cases hgr : grpR (SGrp.p ⟨cu, yr, mo, pe, Ac, nc, cc, ch, ro, Ae, ne, ce, es⟩)
  · clear HYES hgr
    go_wp2_with fail
    refine (HAW.out _ HB3.out).mono ?_
    rintro e wz ⟨rfl, hbz⟩
    have HBZ := Lib.hid (below_two HB3.out hbz)
    clear hbz
    go_wp2_with fail
    go_ret
    exact ⟨rfl, HBZ.out⟩
  obtain ⟨Q1, Q2, NM, KI, CO, HL⟩ := HYES.out hgr
  replace Q1 := Lib.hid Q1
  replace Q2 := Lib.hid Q2
  replace NM := Lib.hid NM
  replace KI := Lib.hid KI
  replace CO := Lib.hid CO
  replace HL := Lib.hid HL
  clear hgr HYES
  by_cases hn60 : n ≤ 60
  case neg =>
    have q60 : decide ((n : Int) > 60) = true := by rw [decide_eq_true_eq]; omega
    have q60' : decide (60 < (n : Int)) = true := by rw [decide_eq_true_eq]; omega
    go_wp2_with fail
    refine (HAW.out _ HB3.out).mono ?_
    rintro e wz ⟨rfl, hbz⟩
    have HBZ := Lib.hid (below_two HB3.out hbz)
    clear hbz
    go_wp2_with fail
    go_ret
    exact ⟨rfl, HBZ.out⟩
  have q60 : decide ((n : Int) > 60) = false := by rw [decide_eq_false_iff_not]; omega
  have q60' : decide (60 < (n : Int)) = false := by rw [decide_eq_false_iff_not]; omega
  clear HAW
  go_wp2_with fail
  go_loopw [5, 37] (fun sv iv wr => ∃ k : Nat, iv = .int .i64 k ∧ k ≤ n ∧ sv = .int .i64 (balS bs k) ∧ balOk ch bs k ∧ Below w3.heap.size w3 wr) (fun _ iv _ => n - (intOf iv).toNat)
  case atStart => exact ⟨0, rfl, by omega, rfl, (fun b hb => by simp at hb), Below.refl _ _⟩
  case round =>
    obtain ⟨k, rfl, hk, rfl, hok, hbr⟩ := hrel
    obtain ⟨wo, rfl⟩ : ∃ wo : World, wo = wr := ⟨_, rfl⟩
    have hs4 := hbr.size
    have hsb := balS_bd k (by rw [HLB.out]; omega) (fun b hb => (hok b hb).2)
    by_cases hlt : k < n
    case pos =>
      have k3 : decide ((k : Int) < (n : Int)) = true := by rw [decide_eq_true_eq]; omega
      have b3 : (k : Int) < (n : Int) := by omega
      obtain ⟨ad, rfl, hab, d0, d1⟩ := (HRB.out.low hB (Nat.le_refl _) (below_two HB3.out hbr)).bal_at hlt
      have FS := Lib.hid (balS_step (bs := bs) (k := k) (by rw [HLB.out]; omega))
      have FO : Hid (∀ a, findA ch (bs.getD k default).acct = some a → okAmt (bs.getD k default).amt = true → balOk ch bs (k + 1)) := fun a hf ha => balOk_step (by rw [HLB.out]; omega) hok hf ha
      clear hok
      generalize balS bs k = sm at *
      generalize bs.getD k default = b at *
      obtain ⟨ac, am⟩ := b
      simp only [] at d0 d1
      have hlt0 : w.heap.size < wo.heap.size := by omega
      have hpb : (ad.add (k * 2)).block < wo.heap.size := by rw [block_of_add]; omega
      have g4 := (HE3.out.below hbr (by omega)).cell 4
      simp only [List.getElem?_toArray, List.getElem?_cons_succ, List.getElem?_cons_zero] at g4
      have HS : Hid (BlS w.heap.size (.slice Ac nc cc) (ad.add (k * 2)) ac wo wo.drew) := ⟨below_drew (Below.refl _ _), g4, d0⟩
      have HFI : Hid (∀ W, Below wo.heap.size wo W → Calls Tryz.prog 16 #[.slice Ac nc cc, .int .i64 ac] W fun e w' => e = .returned (findV ch ac) ∧ Below W.heap.size W w') := fun W hW => rfind_any ch Ac nc cc ac B W (HCH.out.rd.lowg hB (Nat.le_refl _) (below_two HB3.out (below_two hbr hW))) (by have := hW.size; omega) (by omega)
      obtain ⟨q0, q1, q2, q3, okv, hV, hfi⟩ := findV_some ch ac
      replace hV := Lib.hid hV
      replace hfi := Lib.hid hfi
      have HD1 := Lib.hid d1
      have HBR := Lib.hid hbr
      clear d0 d1 g4 hbr
      go_upto_region 7 with fail
      refine wp_region_held_drew (S := BlS w.heap.size (.slice Ac nc cc) (ad.add (k * 2)) ac wo) (by kernel_rfl) HS.out (fun hHeld => ?_)
      refine wpAnyH_take (i := 0) (v := ?vb0) rfl (by kernel_rfl) (by kernel_rfl) (by kernel_rfl) (fun _ _ _ h => h) (Or.inl ⟨by rfl, ?hyb0⟩) (by assumption) ?restb0
      case hyb0 => (intro w_ hSw; (try dsimp only at hSw); obtain ⟨_, g4_, c0_⟩ := hSw; go_simp; (try with_reducible rfl))
      (try simp only [Act.put, List.setIfInBounds_toArray, List.set_cons_zero, List.set_cons_succ, List.getElem_toArray, List.getElem_cons_zero, List.getElem_cons_succ])
      refine wpAnyH_take (i := 1) (v := ?vb1) rfl (by kernel_rfl) (by kernel_rfl) (by kernel_rfl) (fun _ _ _ h => h) (Or.inl ⟨by rfl, ?hyb1⟩) (by assumption) ?restb1
      case hyb1 => (intro w_ hSw; (try dsimp only at hSw); obtain ⟨_, g4_, c0_⟩ := hSw; go_simp; (try with_reducible rfl))
      (try simp only [Act.put, List.setIfInBounds_toArray, List.set_cons_zero, List.set_cons_succ, List.getElem_toArray, List.getElem_cons_zero, List.getElem_cons_succ])
      refine wpAnyH_take (i := 2) (v := ?vb2) rfl (by kernel_rfl) (by kernel_rfl) (by kernel_rfl) (fun _ _ _ h => h) (Or.inl ⟨by rfl, ?hyb2⟩) (by assumption) ?restb2
      case hyb2 => (intro w_ hSw; (try dsimp only at hSw); obtain ⟨_, g4_, c0_⟩ := hSw; go_simp; (try with_reducible rfl))
      (try simp only [Act.put, List.setIfInBounds_toArray, List.set_cons_zero, List.set_cons_succ, List.getElem_toArray, List.getElem_cons_zero, List.getElem_cons_succ])
      refine wpAnyH_take (i := 3) (v := ?vb3) rfl (by kernel_rfl) (by kernel_rfl) (by kernel_rfl) (fun _ _ _ h => h) (Or.inl ⟨by rfl, ?hyb3⟩) (by assumption) ?restb3
      case hyb3 => (intro w_ hSw; (try dsimp only at hSw); obtain ⟨_, g4_, c0_⟩ := hSw; go_simp; (try with_reducible rfl))
      (try simp only [Act.put, List.setIfInBounds_toArray, List.set_cons_zero, List.set_cons_succ, List.getElem_toArray, List.getElem_cons_zero, List.getElem_cons_succ])
      refine wpAnyH_take (i := 4) (v := ?vb4) rfl (by kernel_rfl) (by kernel_rfl) (by kernel_rfl) (fun _ _ _ h => h) (Or.inl ⟨by rfl, ?hyb4⟩) (by assumption) ?restb4
      case hyb4 => (intro w_ hSw; (try dsimp only at hSw); obtain ⟨_, g4_, c0_⟩ := hSw; go_simp; (try with_reducible rfl))
      (try simp only [Act.put, List.setIfInBounds_toArray, List.set_cons_zero, List.set_cons_succ, List.getElem_toArray, List.getElem_cons_zero, List.getElem_cons_succ])
      refine wpAnyH_take (i := 5) (v := ?vb5) rfl (by kernel_rfl) (by kernel_rfl) (by kernel_rfl) (fun _ _ _ h => h) (Or.inl ⟨by rfl, ?hyb5⟩) (by assumption) ?restb5
      case hyb5 => (intro w_ hSw; (try dsimp only at hSw); obtain ⟨_, g4_, c0_⟩ := hSw; go_simp; (try with_reducible rfl))
      (try simp only [Act.put, List.setIfInBounds_toArray, List.set_cons_zero, List.set_cons_succ, List.getElem_toArray, List.getElem_cons_zero, List.getElem_cons_succ])
      refine wpAnyH_take (i := 6) (v := ?vb6) rfl (by kernel_rfl) (by kernel_rfl) (by kernel_rfl) (fun _ _ _ h => h) (Or.inl ⟨by rfl, ?hyb6⟩) (by assumption) ?restb6
      case hyb6 => (intro w_ hSw; (try dsimp only at hSw); obtain ⟨_, g4_, c0_⟩ := hSw; go_simp; (try with_reducible rfl))
      (try simp only [Act.put, List.setIfInBounds_toArray, List.set_cons_zero, List.set_cons_succ, List.getElem_toArray, List.getElem_cons_zero, List.getElem_cons_succ])
      refine wpAnyH_ready (rs := [7, 11]) (by kernel_rfl) (by simp) ?_
      refine AllReadyH.cons rfl (fun K hK => ?_) (AllReadyH.cons rfl (fun K hK => ?_) AllReadyH.nil)
      · go_simp
        refine (HFI.out _ hHeld.1).mono ?_
        rintro e wa ⟨rfl, hba⟩
        rw [hV.out]
        dsimp only
        refine hK.out _ _ ?hSba7 (fun hHeld7 => ?_)
        case hSba7 => exact hHeld.step hba hlt0 hpb
        clear hK K
        (try simp only [Act.put, List.setIfInBounds_toArray, List.set_cons_zero, List.set_cons_succ, List.getElem_toArray, List.getElem_cons_zero, List.getElem_cons_succ])
        refine wpAnyH_take (i := 8) (v := ?vba8) rfl (by kernel_rfl) (by kernel_rfl) (by kernel_rfl) (fun _ _ _ h => h) (Or.inl ⟨by rfl, ?hyba8⟩) (by assumption) ?restba8
        case hyba8 => (intro w_ hSw; (try dsimp only at hSw); obtain ⟨_, g4_, c0_⟩ := hSw; go_simp; (try with_reducible rfl))
        (try simp only [Act.put, List.setIfInBounds_toArray, List.set_cons_zero, List.set_cons_succ, List.getElem_toArray, List.getElem_cons_zero, List.getElem_cons_succ])
        refine wpAnyH_take (i := 9) (v := ?vba9) rfl (by kernel_rfl) (by kernel_rfl) (by kernel_rfl) (fun _ _ _ h => h) (Or.inl ⟨by rfl, ?hyba9⟩) (by assumption) ?restba9
        case hyba9 => (intro w_ hSw; (try dsimp only at hSw); obtain ⟨_, g4_, c0_⟩ := hSw; go_simp; (try with_reducible rfl))
        (try simp only [Act.put, List.setIfInBounds_toArray, List.set_cons_zero, List.set_cons_succ, List.getElem_toArray, List.getElem_cons_zero, List.getElem_cons_succ])
        refine wpAnyH_take (i := 10) (v := ?vba10) rfl (by kernel_rfl) (by kernel_rfl) (by kernel_rfl) (fun _ _ _ h => h) (Or.inl ⟨by rfl, ?hyba10⟩) (by assumption) ?restba10
        case hyba10 => (intro w_ hSw; (try dsimp only at hSw); obtain ⟨_, g4_, c0_⟩ := hSw; go_simp; (try with_reducible rfl))
        (try simp only [Act.put, List.setIfInBounds_toArray, List.set_cons_zero, List.set_cons_succ, List.getElem_toArray, List.getElem_cons_zero, List.getElem_cons_succ])
        refine wpAnyH_ready (rs := [11]) (by kernel_rfl) (by simp) ?_
        refine (AllReadyH.cons rfl (fun K hK => ?_) AllReadyH.nil)
        go_simp
        refine hK.out _ _ ?hSba11 (fun hHeld11 => ?_)
        case hSba11 => exact hHeld7.step ((Below.refl _ _).alloc (Nat.le_refl _) _) hlt0 hpb
        clear hK K
        (try simp only [Act.put, List.setIfInBounds_toArray, List.set_cons_zero, List.set_cons_succ, List.getElem_toArray, List.getElem_cons_zero, List.getElem_cons_succ])
        refine wpAnyH_ready (rs := [12]) (by kernel_rfl) (by simp) ?_
        refine (AllReadyH.cons rfl (fun K hK => ?_) AllReadyH.nil)
        go_simp
        refine hK.out _ _ ?hSba12 (fun hHeld12 => ?_)
        case hSba12 => exact hHeld7.step ((Below.refl _ _).alloc (Nat.le_refl _) _) hlt0 hpb
        clear hK K
        (try simp only [Act.put, List.setIfInBounds_toArray, List.set_cons_zero, List.set_cons_succ, List.getElem_toArray, List.getElem_cons_zero, List.getElem_cons_succ])
        refine wpAnyH_take (i := 13) (v := ?vba13) rfl (by kernel_rfl) (by kernel_rfl) (by kernel_rfl) (fun _ _ _ h => h) (Or.inl ⟨by rfl, ?hyba13⟩) (by assumption) ?restba13
        case hyba13 => (intro w_ hSw; (try dsimp only at hSw); obtain ⟨_, g4_, c0_⟩ := hSw; go_simp; (try with_reducible rfl))
        (try simp only [Act.put, List.setIfInBounds_toArray, List.set_cons_zero, List.set_cons_succ, List.getElem_toArray, List.getElem_cons_zero, List.getElem_cons_succ])
        refine wpAnyH_done (by kernel_rfl) ?_ _
        have HBF := Lib.hid (below_two HBR.out hHeld12.1)
        have e1 := ((show Below wo.heap.size wo _ from hHeld12.1).cell (p := ⟨(ad.add (k * 2)).block, (ad.add (k * 2)).off + 1, none⟩) (by exact hpb)).trans HD1.out
        have hs5 := (show Below wo.heap.size wo _ from hHeld12.1).size
        generalize wa.alloc (.cells #[.int .i64 q0, .int .i64 q1, .int .i64 q2, .int .i64 q3] 42) = wf at *
        clear hHeld hHeld7 hHeld11 hHeld12 hba
        cases okv
        case false =>
          go_wp2_with fail
          go_ret
          exact ⟨rfl, (below_two HB3.out HBF.out)⟩
        case true =>
          obtain ⟨a, ha⟩ := hfi.out rfl
          have FO2 := Lib.hid (FO.out a ha)
          go_wp2_with fail
          refine (refAmount_any am _).mono ?_
          rintro e wx ⟨rfl, rfl⟩
          cases hoa : okAmt am
          case false =>
            clear hoa FO2 FO
            go_wp2_with fail
            go_ret
            exact ⟨rfl, (below_two HB3.out HBF.out)⟩
          case true =>
            have hb2 := okAmt_iff.1 hoa
            have FO3 := Lib.hid (FO2.out hoa)
            have FS2 : Hid (balS bs (k + 1) = sm + am) := FS.out
            clear FO2 FO FS hoa
            go_wp2_with fail
            exact ⟨⟨k + 1, by go_num, by omega, by rw [FS2.out], FO3.out, HBF.out⟩, by simp [intOf]; omega⟩
      · go_simp
        refine hK.out _ _ ?hSbb11 (fun hHeld11 => ?_)
        case hSbb11 => exact hHeld.step ((Below.refl _ _).alloc (Nat.le_refl _) _) hlt0 hpb
        clear hK K
        (try simp only [Act.put, List.setIfInBounds_toArray, List.set_cons_zero, List.set_cons_succ, List.getElem_toArray, List.getElem_cons_zero, List.getElem_cons_succ])
        refine wpAnyH_ready (rs := [7]) (by kernel_rfl) (by simp) ?_
        refine (AllReadyH.cons rfl (fun K hK => ?_) AllReadyH.nil)
        go_simp
        have hkz : Blk _ wo.heap.size 42 #[.int .i64 0, .int .i64 0, .int .i64 0, .int .i64 0] := Blk.new wo.drew 42 #[.int .i64 0, .int .i64 0, .int .i64 0, .int .i64 0]
        refine (HFI.out _ hHeld11.1).mono ?_
        rintro e wa ⟨rfl, hba⟩
        have hka := hkz.below hba (by simp)
        have hfa := hka.frozen
        obtain ⟨y0, y1, y2, y3⟩ := acc_blk hka
        rw [hV.out]
        dsimp only
        refine hK.out _ _ ?hSbb7 (fun hHeld7 => ?_)
        case hSbb7 => exact hHeld11.step hba hlt0 hpb
        clear hK K
        (try simp only [Act.put, List.setIfInBounds_toArray, List.set_cons_zero, List.set_cons_succ, List.getElem_toArray, List.getElem_cons_zero, List.getElem_cons_succ])
        refine wpAnyH_take (i := 8) (v := ?vbb8) rfl (by kernel_rfl) (by kernel_rfl) (by kernel_rfl) (fun _ _ _ h => h) (Or.inl ⟨by rfl, ?hybb8⟩) (by assumption) ?restbb8
        case hybb8 => (intro w_ hSw; (try dsimp only at hSw); obtain ⟨_, g4_, c0_⟩ := hSw; go_simp; (try with_reducible rfl))
        (try simp only [Act.put, List.setIfInBounds_toArray, List.set_cons_zero, List.set_cons_succ, List.getElem_toArray, List.getElem_cons_zero, List.getElem_cons_succ])
        refine wpAnyH_take (i := 9) (v := ?vbb9) rfl (by kernel_rfl) (by kernel_rfl) (by kernel_rfl) (fun _ _ _ h => h) (Or.inl ⟨by rfl, ?hybb9⟩) (by assumption) ?restbb9
        case hybb9 => (intro w_ hSw; (try dsimp only at hSw); obtain ⟨_, g4_, c0_⟩ := hSw; go_simp; (try with_reducible rfl))
        (try simp only [Act.put, List.setIfInBounds_toArray, List.set_cons_zero, List.set_cons_succ, List.getElem_toArray, List.getElem_cons_zero, List.getElem_cons_succ])
        refine wpAnyH_take (i := 10) (v := ?vbb10) rfl (by kernel_rfl) (by kernel_rfl) (by kernel_rfl) (fun _ _ _ h => h) (Or.inl ⟨by rfl, ?hybb10⟩) (by assumption) ?restbb10
        case hybb10 => (intro w_ hSw; (try dsimp only at hSw); obtain ⟨_, g4_, c0_⟩ := hSw; go_simp; (try with_reducible rfl))
        (try simp only [Act.put, List.setIfInBounds_toArray, List.set_cons_zero, List.set_cons_succ, List.getElem_toArray, List.getElem_cons_zero, List.getElem_cons_succ])
        refine wpAnyH_ready (rs := [12]) (by kernel_rfl) (by simp) ?_
        refine (AllReadyH.cons rfl (fun K hK => ?_) AllReadyH.nil)
        go_simp
        refine hK.out _ _ ?hSbb12 (fun hHeld12 => ?_)
        case hSbb12 => exact (((hHeld7.far (q := ⟨wo.heap.size, 0, none⟩) (Nat.le_refl _) hlt0 hpb _).far (q := ⟨wo.heap.size, 1, none⟩) (Nat.le_refl _) hlt0 hpb _).far (q := ⟨wo.heap.size, 2, none⟩) (Nat.le_refl _) hlt0 hpb _).far (q := ⟨wo.heap.size, 3, none⟩) (Nat.le_refl _) hlt0 hpb _
        clear hK K
        (try simp only [Act.put, List.setIfInBounds_toArray, List.set_cons_zero, List.set_cons_succ, List.getElem_toArray, List.getElem_cons_zero, List.getElem_cons_succ])
        refine wpAnyH_take (i := 13) (v := ?vbb13) rfl (by kernel_rfl) (by kernel_rfl) (by kernel_rfl) (fun _ _ _ h => h) (Or.inl ⟨by rfl, ?hybb13⟩) (by assumption) ?restbb13
        case hybb13 => (intro w_ hSw; (try dsimp only at hSw); obtain ⟨_, g4_, c0_⟩ := hSw; go_simp; (try with_reducible rfl))
        (try simp only [Act.put, List.setIfInBounds_toArray, List.set_cons_zero, List.set_cons_succ, List.getElem_toArray, List.getElem_cons_zero, List.getElem_cons_succ])
        refine wpAnyH_done (by kernel_rfl) ?_ _
        have HBF := Lib.hid (below_two HBR.out hHeld12.1)
        have e1 := ((show Below wo.heap.size wo _ from hHeld12.1).cell (p := ⟨(ad.add (k * 2)).block, (ad.add (k * 2)).off + 1, none⟩) (by exact hpb)).trans HD1.out
        have hs5 := (show Below wo.heap.size wo _ from hHeld12.1).size
        generalize World.setCell _ ⟨wo.heap.size, 3, none⟩ _ = wf at *
        clear hHeld hHeld7 hHeld11 hHeld12 hba hka hfa y0 y1 y2 y3 hkz
        cases okv
        case false =>
          go_wp2_with fail
          go_ret
          exact ⟨rfl, (below_two HB3.out HBF.out)⟩
        case true =>
          obtain ⟨a, ha⟩ := hfi.out rfl
          have FO2 := Lib.hid (FO.out a ha)
          go_wp2_with fail
          refine (refAmount_any am _).mono ?_
          rintro e wx ⟨rfl, rfl⟩
          cases hoa : okAmt am
          case false =>
            clear hoa FO2 FO
            go_wp2_with fail
            go_ret
            exact ⟨rfl, (below_two HB3.out HBF.out)⟩
          case true =>
            have hb2 := okAmt_iff.1 hoa
            have FO3 := Lib.hid (FO2.out hoa)
            have FS2 : Hid (balS bs (k + 1) = sm + am) := FS.out
            clear FO2 FO FS hoa
            go_wp2_with fail
            exact ⟨⟨k + 1, by go_num, by omega, by rw [FS2.out], FO3.out, HBF.out⟩, by simp [intOf]; omega⟩
    case neg =>
      have k3 : decide ((k : Int) < (n : Int)) = false := by rw [decide_eq_false_iff_not]; omega
      have HBo := Lib.hid (below_two HB3.out hbr)
      have HEo := Lib.hid (HE3.out.below hbr (by omega))
      have HOK : Hid (∀ b ∈ bs, (∃ a, findA ch b.acct = some a) ∧ -1000000000000 ≤ b.amt ∧ b.amt ≤ 1000000000000) := fun b hb => hok b (by rw [List.take_of_length_le (by rw [HLB.out]; omega)]; exact hb)
      have HSM : Hid (balS bs k = balS bs bs.length) := by show _ = _; rw [HLB.out, show k = n by omega]
      have HSL : Hid (smallB bs) := fun b hb => by have := (HOK.out b hb).2; omega
      have hsw : w.heap.size < wo.heap.size := by omega
      generalize balS bs k = sm at *
      clear hok hbr HE HE1 HE2 HE3 HB1 HB2
      go_wp2_with (refine wpList_load_grp (by first | rfl | simp [Region.wanted, yielded]) _ rfl _ rfl _ rfl HEo.out ?_)
      refine (Q1.out _ HBo.out).mono ?_
      rintro e w4 ⟨v1, rfl, ho1, hb⟩
      obtain ⟨A1, c1, rfl⟩ := own_slice ho1
      have hc1 := own_cap ho1
      have HO1 := Lib.hid ho1
      have HB4 := Lib.hid (below_two HBo.out hb)
      have HE4 := Lib.hid (HEo.out.below hb (by omega))
      have hs5 : wo.heap.size ≤ w4.heap.size := hb.size
      clear ho1 hb
      go_wp2_with (refine wpList_load_grp (by first | rfl | simp [Region.wanted, yielded]) _ rfl _ rfl _ rfl HE4.out ?_)
      refine (Q2.out _ HB4.out).mono ?_
      rintro e w5 ⟨v2, rfl, ho2, hb⟩
      obtain ⟨A2, c2, rfl⟩ := own_slice ho2
      have hc2 := own_cap ho2
      have HO2 := Lib.hid ho2
      replace HO1 := Lib.hid (own_below HO1.out hb)
      have HB5 := Lib.hid (below_two HB4.out hb)
      have hs6 : w4.heap.size ≤ w5.heap.size := hb.size
      have hl1 := posRows_len ch
      have hl2 := incRows_len ch
      rw [HL.out] at hl1 hl2
      have AR : Hid (allRows ch = posRows ch ++ incRows ch) := rfl
      have NM1 : Hid (∀ r ∈ posRows ch, r.name.length ≤ 3000) := fun r hr => by have := NM.out r (by rw [AR.out]; simp [hr]); omega
      have NM2 : Hid (∀ r ∈ incRows ch, r.name.length ≤ 3000) := fun r hr => by have := NM.out r (by rw [AR.out]; simp [hr]); omega
      have LAW := Lib.hid (fun l m hp hi => bal_law (bs := bs) CO.out KI.out (fun b hb => (HOK.out b hb).1) (l := l) (m := m) hp hi)
      clear ho2 hb Q1 Q2 AR HEo HE4
      generalize posRows ch = r1 at *
      generalize incRows ch = r2 at *
      have HSD1 := Lib.hid (sides_any bs r1 A A1 n c r1.length c1 w5.heap.size w5 ((HRB.out.low hB (Nat.le_refl _) HB5.out).more (by omega)) (Reads.of_own HO1.out) (Nat.le_refl _) (by omega) HSL.out (by omega) hc1 NM1.out)
      unfold resV SidesSay at HSD1
      go_wp2_with fail
      refine HSD1.out.mono ?_
      rintro e w6 ⟨hsd, hb⟩
      have HB6 := Lib.hid (below_two HB5.out hb)
      have hs7 : w5.heap.size ≤ w6.heap.size := hb.size
      replace HO2 := Lib.hid (own_below HO2.out hb)
      have HSD2 := Lib.hid (sides_any bs r2 A A2 n c r2.length c2 w6.heap.size w6 ((HRB.out.low hB (Nat.le_refl _) HB6.out).more (by omega)) (Reads.of_own HO2.out) (Nat.le_refl _) (by omega) HSL.out (by omega) hc2 NM2.out)
      unfold resV SidesSay at HSD2
      clear hb HSD1
      rcases hsd with ⟨l1, v1, -, hd1, rfl, ho1⟩ | rfl
      case inr =>
        go_wp2_with fail
        refine HSD2.out.mono ?_
        rintro e w7 ⟨hsd, hb⟩
        have HB7 := Lib.hid (below_two HB6.out hb)
        clear hb HSD2
        rcases hsd with ⟨l2, v2, -, hd2, rfl, ho2⟩ | rfl
        case inr =>
          go_wp2_with fail
          go_ret
          exact ⟨rfl, HB7.out⟩
        case inl =>
          clear hd2
          obtain ⟨A4, c4, rfl⟩ := own_slice ho2
          clear ho2
          go_wp2_with fail
          go_ret
          exact ⟨rfl, HB7.out⟩
      case inl =>
        obtain ⟨A3, c3, rfl⟩ := own_slice ho1
        have HO3 := Lib.hid ho1
        have HD1 := Lib.hid hd1
        clear ho1 hd1
        go_wp2_with fail
        refine HSD2.out.mono ?_
        rintro e w7 ⟨hsd, hb⟩
        have HB7 := Lib.hid (below_two HB6.out hb)
        replace HO3 := Lib.hid (own_below HO3.out hb)
        clear hb HSD2
        rcases hsd with ⟨l2, v2, -, hd2, rfl, ho2⟩ | rfl
        case inr =>
          go_wp2_with fail
          go_ret
          exact ⟨rfl, HB7.out⟩
        case inl =>
          obtain ⟨A4, c4, rfl⟩ := own_slice ho2
          obtain ⟨a0, a1, a2, b0, b1, rfl, rfl, hsum, ba0, ba1, ba2, bb0, bb1⟩ := LAW.out _ _ HD1.out hd2
          obtain ⟨-, ad3, rfl, x0, x1, x2⟩ := own_3 HO3.out
          obtain ⟨-, ad4, rfl, y0, y1⟩ := own_2 ho2
          have hsm : a0 - a1 - a2 - b0 + b1 = sm := by rw [HSM.out]; exact hsum
          have hq : (a0 - a1 - a2 - b0 + b1 == sm) = true := by rw [beq_iff_eq]; exact hsm
          clear HSM hsum LAW HD1 hd2 ho2 HO3 HO1 HO2 HL NM KI CO HCH
          go_wp2_with fail
          go_quiet (fail)
          go_wp2_with fail
          go_ret
          exact ⟨rfl, below_drewN HB7.out _⟩
end Go.Proofs.YtcmmppkmkejniaaGreatDoor
