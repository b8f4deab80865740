/-
  The reference's Position and Income.
-/
import Derived.Test.YtcmmppkmkejniaaGreatDoorGvRp
namespace Go.Proofs.YtcmmppkmkejniaaGreatDoor
open Go.RowKit
set_option linter.unusedVariables false
set_option linter.unusedSimpArgs false
theorem rowsG_one (rs : List SRow) : ∀ u ∈ rowsCells rs, u.oneCell' = true := by
  intro u hu
  unfold rowsCells at hu
  obtain ⟨r, hr, h⟩ := List.mem_flatMap.1 hu
  exact rowG_one r u h
set_option maxRecDepth 100000 in
set_option maxHeartbeats 8000000 in
theorem rpos_no (g : SGrp) (B : Nat) (w : World) (hg : GrpIn w B g) (hB : B ≤ w.heap.size) (hn : g.nc ≤ 1000) (hen : ∀ x ∈ g.ents, x.nc ≤ 1000) (hne : g.ne ≤ 1000) (hv : grpR g.p = false) :
    Calls Tryz.prog 9 #[grpV g] w fun e w' => e = .returned (.tuple #[.slice none 0 0, .int .i64 1]) ∧ Below w.heap.size w w' := by
  have HVA : Hid (∀ W : World, Below w.heap.size w W → Calls Tryz.prog 13 #[grpV g] W fun e w' => e = .returned (.bool (grpR g.p)) ∧ Below W.heap.size W w') := fun W hW =>
    rgrp_any g B W (hg.low hB (Nat.le_refl _) hW) (by have := hW.size; omega) hn hen hne
  rw [hv] at HVA
  clear hg hen hv
  obtain ⟨cu, yr, mo, pe, Ac, nc, cc, ch, ro, Ae, ne, ce, es⟩ := g
  unfold grpV at HVA ⊢
  simp only [] at HVA ⊢
  have HBX := Lib.hid ((Below.refl w.heap.size w).alloc (Nat.le_refl _) (.cells #[.string ⟨cu.toArray⟩, .int .i64 yr, .int .i64 mo, .int .i64 pe, .slice Ac nc cc, .int .i64 ro.c0, .int .i64 ro.c1, .int .i64 ro.c2, .int .i64 ro.c3, .int .i64 ro.c4, .int .i64 ro.c5, .int .i64 ro.c6, .int .i64 ro.c7, .int .i64 ro.c8, .int .i64 ro.c9, .int .i64 ro.c10, .int .i64 ro.c11, .int .i64 ro.c12, .int .i64 ro.c13, .int .i64 ro.c14, .slice Ae ne ce] 29))
  have HE := Lib.hid (Blk.new w 29 #[.string ⟨cu.toArray⟩, .int .i64 yr, .int .i64 mo, .int .i64 pe, .slice Ac nc cc, .int .i64 ro.c0, .int .i64 ro.c1, .int .i64 ro.c2, .int .i64 ro.c3, .int .i64 ro.c4, .int .i64 ro.c5, .int .i64 ro.c6, .int .i64 ro.c7, .int .i64 ro.c8, .int .i64 ro.c9, .int .i64 ro.c10, .int .i64 ro.c11, .int .i64 ro.c12, .int .i64 ro.c13, .int .i64 ro.c14, .slice Ae ne ce])
  go_enter Tryz.func9, Tryz.ntmps9
  go_wp2_with (refine wpList_load_grp (by first | rfl | simp [Region.wanted, yielded]) _ rfl _ rfl _ rfl HE.out ?_)
  refine (HVA.out _ HBX.out).mono ?_
  rintro e w1 ⟨rfl, hb1⟩
  have HB1 := Lib.hid (below_two HBX.out hb1)
  clear hb1
  go_wp2_with fail
  go_ret2
  exact ⟨rfl, HB1.out⟩
set_option maxRecDepth 100000 in
set_option maxHeartbeats 8000000 in
theorem rinc_no (g : SGrp) (B : Nat) (w : World) (hg : GrpIn w B g) (hB : B ≤ w.heap.size) (hn : g.nc ≤ 1000) (hen : ∀ x ∈ g.ents, x.nc ≤ 1000) (hne : g.ne ≤ 1000) (hv : grpR g.p = false) :
    Calls Tryz.prog 11 #[grpV g] w fun e w' => e = .returned (.tuple #[.slice none 0 0, .int .i64 1]) ∧ Below w.heap.size w w' := by
  have HVA : Hid (∀ W : World, Below w.heap.size w W → Calls Tryz.prog 13 #[grpV g] W fun e w' => e = .returned (.bool (grpR g.p)) ∧ Below W.heap.size W w') := fun W hW =>
    rgrp_any g B W (hg.low hB (Nat.le_refl _) hW) (by have := hW.size; omega) hn hen hne
  rw [hv] at HVA
  clear hg hen hv
  obtain ⟨cu, yr, mo, pe, Ac, nc, cc, ch, ro, Ae, ne, ce, es⟩ := g
  unfold grpV at HVA ⊢
  simp only [] at HVA ⊢
  have HBX := Lib.hid ((Below.refl w.heap.size w).alloc (Nat.le_refl _) (.cells #[.string ⟨cu.toArray⟩, .int .i64 yr, .int .i64 mo, .int .i64 pe, .slice Ac nc cc, .int .i64 ro.c0, .int .i64 ro.c1, .int .i64 ro.c2, .int .i64 ro.c3, .int .i64 ro.c4, .int .i64 ro.c5, .int .i64 ro.c6, .int .i64 ro.c7, .int .i64 ro.c8, .int .i64 ro.c9, .int .i64 ro.c10, .int .i64 ro.c11, .int .i64 ro.c12, .int .i64 ro.c13, .int .i64 ro.c14, .slice Ae ne ce] 29))
  have HE := Lib.hid (Blk.new w 29 #[.string ⟨cu.toArray⟩, .int .i64 yr, .int .i64 mo, .int .i64 pe, .slice Ac nc cc, .int .i64 ro.c0, .int .i64 ro.c1, .int .i64 ro.c2, .int .i64 ro.c3, .int .i64 ro.c4, .int .i64 ro.c5, .int .i64 ro.c6, .int .i64 ro.c7, .int .i64 ro.c8, .int .i64 ro.c9, .int .i64 ro.c10, .int .i64 ro.c11, .int .i64 ro.c12, .int .i64 ro.c13, .int .i64 ro.c14, .slice Ae ne ce])
  go_enter Tryz.func11, Tryz.ntmps11
  go_wp2_with (refine wpList_load_grp (by first | rfl | simp [Region.wanted, yielded]) _ rfl _ rfl _ rfl HE.out ?_)
  refine (HVA.out _ HBX.out).mono ?_
  rintro e w1 ⟨rfl, hb1⟩
  have HB1 := Lib.hid (below_two HBX.out hb1)
  clear hb1
  go_wp2_with fail
  go_ret2
  exact ⟨rfl, HB1.out⟩
set_option maxRecDepth 100000 in
set_option maxHeartbeats 8000000 in
theorem rpos_yes (g : SGrp) (B : Nat) (w : World) (hg : GrpIn w B g) (hB : B ≤ w.heap.size) (hn : g.nc ≤ 1000) (hen : ∀ x ∈ g.ents, x.nc ≤ 1000) (hne : g.ne ≤ 1000) (hv : grpR g.p = true) :
    Calls Tryz.prog 9 #[grpV g] w fun e w' => ∃ v, e = .returned (.tuple #[v, .int .i64 0]) ∧ w'.ownsRow w.heap.size 39 5 v (posRows g.chart).length (rowsCells (posRows g.chart)) ∧ Below w.heap.size w w' := by
  have HVA : Hid (∀ W : World, Below w.heap.size w W → Calls Tryz.prog 13 #[grpV g] W fun e w' => e = .returned (.bool (grpR g.p)) ∧ Below W.heap.size W w') := fun W hW =>
    rgrp_any g B W (hg.low hB (Nat.le_refl _) hW) (by have := hW.size; omega) hn hen hne
  rw [hv] at HVA
  have HP_nmAssets : Hid (∀ W : World, Below w.heap.size w W → Calls Tryz.prog 22 #[grpV g, .string ⟨#[65, 115, 115, 101, 116, 115]⟩, .int .i64 1, .bool false] W fun e w' => ∃ v, e = .returned v ∧ w'.ownsRow W.heap.size 39 5 v (secRows g.chart nmAssets 1 false).length (rowsCells (secRows g.chart nmAssets 1 false)) ∧ Below W.heap.size W w') := fun W hW =>
    part_any g nmAssets 1 false B W (hg.ch.low hB (Nat.le_refl _) hW) (by have := hW.size; omega) hn (fun x hx => by have := (grpR_codes hv).1 x hx; omega)
  have HL_nmAssets : Hid ((secRows g.chart nmAssets 1 false).length ≤ 1001) := by show _ ≤ _; have := secRows_len g.chart nmAssets 1 false; have := hg.ch.len; omega
  have HP_nmLiab : Hid (∀ W : World, Below w.heap.size w W → Calls Tryz.prog 22 #[grpV g, .string ⟨#[76, 105, 97, 98, 105, 108, 105, 116, 105, 101, 115]⟩, .int .i64 2, .bool true] W fun e w' => ∃ v, e = .returned v ∧ w'.ownsRow W.heap.size 39 5 v (secRows g.chart nmLiab 2 true).length (rowsCells (secRows g.chart nmLiab 2 true)) ∧ Below W.heap.size W w') := fun W hW =>
    part_any g nmLiab 2 true B W (hg.ch.low hB (Nat.le_refl _) hW) (by have := hW.size; omega) hn (fun x hx => by have := (grpR_codes hv).1 x hx; omega)
  have HL_nmLiab : Hid ((secRows g.chart nmLiab 2 true).length ≤ 1001) := by show _ ≤ _; have := secRows_len g.chart nmLiab 2 true; have := hg.ch.len; omega
  have HP_nmEquity : Hid (∀ W : World, Below w.heap.size w W → Calls Tryz.prog 22 #[grpV g, .string ⟨#[69, 113, 117, 105, 116, 121]⟩, .int .i64 3, .bool true] W fun e w' => ∃ v, e = .returned v ∧ w'.ownsRow W.heap.size 39 5 v (secRows g.chart nmEquity 3 true).length (rowsCells (secRows g.chart nmEquity 3 true)) ∧ Below W.heap.size W w') := fun W hW =>
    part_any g nmEquity 3 true B W (hg.ch.low hB (Nat.le_refl _) hW) (by have := hW.size; omega) hn (fun x hx => by have := (grpR_codes hv).1 x hx; omega)
  have HL_nmEquity : Hid ((secRows g.chart nmEquity 3 true).length ≤ 1001) := by show _ ≤ _; have := secRows_len g.chart nmEquity 3 true; have := hg.ch.len; omega
  clear hg hen hv
  obtain ⟨i0, hi0, hz0, hz1, hz2⟩ := info_parts info_rowG
  obtain ⟨cu, yr, mo, pe, Ac, nc, cc, ch, ro, Ae, ne, ce, es⟩ := g
  unfold grpV at HVA HP_nmAssets HP_nmLiab HP_nmEquity ⊢
  simp only [] at HVA HP_nmAssets HP_nmLiab HP_nmEquity HL_nmAssets HL_nmLiab HL_nmEquity ⊢
  have HBX := Lib.hid ((Below.refl w.heap.size w).alloc (Nat.le_refl _) (.cells #[.string ⟨cu.toArray⟩, .int .i64 yr, .int .i64 mo, .int .i64 pe, .slice Ac nc cc, .int .i64 ro.c0, .int .i64 ro.c1, .int .i64 ro.c2, .int .i64 ro.c3, .int .i64 ro.c4, .int .i64 ro.c5, .int .i64 ro.c6, .int .i64 ro.c7, .int .i64 ro.c8, .int .i64 ro.c9, .int .i64 ro.c10, .int .i64 ro.c11, .int .i64 ro.c12, .int .i64 ro.c13, .int .i64 ro.c14, .slice Ae ne ce] 29))
  have HE := Lib.hid (Blk.new w 29 #[.string ⟨cu.toArray⟩, .int .i64 yr, .int .i64 mo, .int .i64 pe, .slice Ac nc cc, .int .i64 ro.c0, .int .i64 ro.c1, .int .i64 ro.c2, .int .i64 ro.c3, .int .i64 ro.c4, .int .i64 ro.c5, .int .i64 ro.c6, .int .i64 ro.c7, .int .i64 ro.c8, .int .i64 ro.c9, .int .i64 ro.c10, .int .i64 ro.c11, .int .i64 ro.c12, .int .i64 ro.c13, .int .i64 ro.c14, .slice Ae ne ce])
  go_enter Tryz.func9, Tryz.ntmps9
  go_wp2_with (refine wpList_load_grp (by first | rfl | simp [Region.wanted, yielded]) _ rfl _ rfl _ rfl HE.out ?_)
  refine (HVA.out _ HBX.out).mono ?_
  rintro e w1 ⟨rfl, hb1⟩
  have HB1 := Lib.hid (below_two HBX.out hb1)
  have HE1 := Lib.hid (HE.out.below hb1 (by simp))
  have hs1 : w.heap.size < w1.heap.size := by have := hb1.size; simp only [World.size_alloc] at this; omega
  clear hb1 HVA
  have HPR : Hid (posRows ch = secRows ch nmAssets 1 false ++ secRows ch nmLiab 2 true ++ secRows ch nmEquity 3 true) := rfl
  generalize secRows ch nmAssets 1 false = r1 at *
  generalize secRows ch nmLiab 2 true = r2 at *
  generalize secRows ch nmEquity 3 true = r3 at *
  have hl1 := HL_nmAssets.out
  have hl2 := HL_nmLiab.out
  have hl3 := HL_nmEquity.out
  go_wp2_with (refine wpList_load_grp (by first | rfl | simp [Region.wanted, yielded]) _ rfl _ rfl _ rfl HE1.out ?_)
  refine (HP_nmAssets.out _ HB1.out).mono ?_
  rintro e w2 ⟨v1, rfl, ho1, hb2⟩
  obtain ⟨A1, c1, rfl⟩ := own_slice ho1
  have HO1 := Lib.hid ho1
  have HB2 := Lib.hid (below_two HB1.out hb2)
  have HE2 := Lib.hid (HE1.out.below hb2 hs1)
  have hs2 : w1.heap.size ≤ w2.heap.size := hb2.size
  clear ho1 hb2
  go_wp2_with (refine wpList_load_grp (by first | rfl | simp [Region.wanted, yielded]) _ rfl _ rfl _ rfl HE2.out ?_)
  refine (HP_nmLiab.out _ HB2.out).mono ?_
  rintro e w3 ⟨v2, rfl, ho2, hb3⟩
  obtain ⟨A2, c2, rfl⟩ := own_slice ho2
  have HO1' := Lib.hid (own_below HO1.out hb3)
  have HO2 := Lib.hid ho2
  have HB3 := Lib.hid (below_two HB2.out hb3)
  have HE3 := Lib.hid (HE2.out.below hb3 (by omega))
  have hs3 : w2.heap.size ≤ w3.heap.size := hb3.size
  clear ho2 hb3
  go_wp2_with (first | (at_builtin; refine wpList_append_any _ rfl (.tmp 10) (.tmp 12) _ rfl w1.heap.size 39 i0 _ 5 48 Tryz.underlying32 hi0 hz0 hz1 hz2 rfl (by omega) _ r1.length (rowsCells r1) rfl HO1'.out w3.heap.size A2 r2.length c2 (rowsCells r2) rfl (Reads.of_own HO2.out) (rowsG_one _) (by simp only [maxLen]; omega) (by omega) (by omega) ?_; intro v4 w4 hown4 hg4 hat4; obtain ⟨A4, c4, rfl⟩ := own_slice hown4; have HO4 := Lib.hid hown4; have HB4 := Lib.hid (HB3.out.grown hg4 (by omega) (fun j hj => by have := own_base HO1'.out j hj; omega)); have HE4 := Lib.hid (HE3.out.grown hg4 (by intro e; have := own_base HO1'.out _ e.symm; omega)); have hs4 := hg4.size; clear hown4 hg4 hat4) | (refine wpList_load_grp (by first | rfl | simp [Region.wanted, yielded]) _ rfl _ rfl _ rfl HE4.out ?_))
  refine (HP_nmEquity.out _ HB4.out).mono ?_
  rintro e w5 ⟨v3, rfl, ho3, hb5⟩
  obtain ⟨A3, c3, rfl⟩ := own_slice ho3
  have HO4' := Lib.hid (own_below HO4.out hb5)
  have HO3 := Lib.hid ho3
  have HB5 := Lib.hid (below_two HB4.out hb5)
  have hs5 : w4.heap.size ≤ w5.heap.size := hb5.size
  clear ho3 hb5
  go_wp2_with (at_builtin; refine wpList_append_any _ rfl (.tmp 14) (.tmp 16) _ rfl w1.heap.size 39 i0 _ 5 48 Tryz.underlying32 hi0 hz0 hz1 hz2 rfl (by omega) _ (r1.length + r2.length) (rowsCells r1 ++ rowsCells r2) rfl HO4'.out w5.heap.size A3 r3.length c3 (rowsCells r3) rfl (Reads.of_own HO3.out) (rowsG_one _) (by simp only [maxLen]; omega) (by omega) (by omega) ?_; intro v6 w6 hown6 hg6 hat6; have HO6 := Lib.hid hown6; have HB6 := Lib.hid (HB5.out.grown hg6 (by omega) (fun j hj => by have := own_base HO4'.out j hj; omega)); clear hown6 hg6 hat6)
  go_ret2
  refine ⟨_, rfl, ?_, HB6.out⟩
  (try dsimp only)
  rw [HPR.out, List.length_append, List.length_append, rowsCells_app, rowsCells_app]
  exact own_mono HO6.out (by omega)
set_option maxRecDepth 100000 in
set_option maxHeartbeats 8000000 in
theorem rinc_yes (g : SGrp) (B : Nat) (w : World) (hg : GrpIn w B g) (hB : B ≤ w.heap.size) (hn : g.nc ≤ 1000) (hen : ∀ x ∈ g.ents, x.nc ≤ 1000) (hne : g.ne ≤ 1000) (hv : grpR g.p = true) :
    Calls Tryz.prog 11 #[grpV g] w fun e w' => ∃ v, e = .returned (.tuple #[v, .int .i64 0]) ∧ w'.ownsRow w.heap.size 39 5 v (incRows g.chart).length (rowsCells (incRows g.chart)) ∧ Below w.heap.size w w' := by
  have HVA : Hid (∀ W : World, Below w.heap.size w W → Calls Tryz.prog 13 #[grpV g] W fun e w' => e = .returned (.bool (grpR g.p)) ∧ Below W.heap.size W w') := fun W hW =>
    rgrp_any g B W (hg.low hB (Nat.le_refl _) hW) (by have := hW.size; omega) hn hen hne
  rw [hv] at HVA
  have HP_nmIncome : Hid (∀ W : World, Below w.heap.size w W → Calls Tryz.prog 22 #[grpV g, .string ⟨#[73, 110, 99, 111, 109, 101]⟩, .int .i64 4, .bool true] W fun e w' => ∃ v, e = .returned v ∧ w'.ownsRow W.heap.size 39 5 v (secRows g.chart nmIncome 4 true).length (rowsCells (secRows g.chart nmIncome 4 true)) ∧ Below W.heap.size W w') := fun W hW =>
    part_any g nmIncome 4 true B W (hg.ch.low hB (Nat.le_refl _) hW) (by have := hW.size; omega) hn (fun x hx => by have := (grpR_codes hv).1 x hx; omega)
  have HL_nmIncome : Hid ((secRows g.chart nmIncome 4 true).length ≤ 1001) := by show _ ≤ _; have := secRows_len g.chart nmIncome 4 true; have := hg.ch.len; omega
  have HP_nmExpenses : Hid (∀ W : World, Below w.heap.size w W → Calls Tryz.prog 22 #[grpV g, .string ⟨#[69, 120, 112, 101, 110, 115, 101, 115]⟩, .int .i64 5, .bool false] W fun e w' => ∃ v, e = .returned v ∧ w'.ownsRow W.heap.size 39 5 v (secRows g.chart nmExpenses 5 false).length (rowsCells (secRows g.chart nmExpenses 5 false)) ∧ Below W.heap.size W w') := fun W hW =>
    part_any g nmExpenses 5 false B W (hg.ch.low hB (Nat.le_refl _) hW) (by have := hW.size; omega) hn (fun x hx => by have := (grpR_codes hv).1 x hx; omega)
  have HL_nmExpenses : Hid ((secRows g.chart nmExpenses 5 false).length ≤ 1001) := by show _ ≤ _; have := secRows_len g.chart nmExpenses 5 false; have := hg.ch.len; omega
  clear hg hen hv
  obtain ⟨i0, hi0, hz0, hz1, hz2⟩ := info_parts info_rowG
  obtain ⟨cu, yr, mo, pe, Ac, nc, cc, ch, ro, Ae, ne, ce, es⟩ := g
  unfold grpV at HVA HP_nmIncome HP_nmExpenses ⊢
  simp only [] at HVA HP_nmIncome HP_nmExpenses HL_nmIncome HL_nmExpenses ⊢
  have HBX := Lib.hid ((Below.refl w.heap.size w).alloc (Nat.le_refl _) (.cells #[.string ⟨cu.toArray⟩, .int .i64 yr, .int .i64 mo, .int .i64 pe, .slice Ac nc cc, .int .i64 ro.c0, .int .i64 ro.c1, .int .i64 ro.c2, .int .i64 ro.c3, .int .i64 ro.c4, .int .i64 ro.c5, .int .i64 ro.c6, .int .i64 ro.c7, .int .i64 ro.c8, .int .i64 ro.c9, .int .i64 ro.c10, .int .i64 ro.c11, .int .i64 ro.c12, .int .i64 ro.c13, .int .i64 ro.c14, .slice Ae ne ce] 29))
  have HE := Lib.hid (Blk.new w 29 #[.string ⟨cu.toArray⟩, .int .i64 yr, .int .i64 mo, .int .i64 pe, .slice Ac nc cc, .int .i64 ro.c0, .int .i64 ro.c1, .int .i64 ro.c2, .int .i64 ro.c3, .int .i64 ro.c4, .int .i64 ro.c5, .int .i64 ro.c6, .int .i64 ro.c7, .int .i64 ro.c8, .int .i64 ro.c9, .int .i64 ro.c10, .int .i64 ro.c11, .int .i64 ro.c12, .int .i64 ro.c13, .int .i64 ro.c14, .slice Ae ne ce])
  go_enter Tryz.func11, Tryz.ntmps11
  go_wp2_with (refine wpList_load_grp (by first | rfl | simp [Region.wanted, yielded]) _ rfl _ rfl _ rfl HE.out ?_)
  refine (HVA.out _ HBX.out).mono ?_
  rintro e w1 ⟨rfl, hb1⟩
  have HB1 := Lib.hid (below_two HBX.out hb1)
  have HE1 := Lib.hid (HE.out.below hb1 (by simp))
  have hs1 : w.heap.size < w1.heap.size := by have := hb1.size; simp only [World.size_alloc] at this; omega
  clear hb1 HVA
  have HPR : Hid (incRows ch = secRows ch nmIncome 4 true ++ secRows ch nmExpenses 5 false) := rfl
  generalize secRows ch nmIncome 4 true = r1 at *
  generalize secRows ch nmExpenses 5 false = r2 at *
  have hl1 := HL_nmIncome.out
  have hl2 := HL_nmExpenses.out
  go_upto_region 3 with fail
  refine wp_region_held_drew (S := fun W => Below w1.heap.size w1 W) (by kernel_rfl) (below_drew (Below.refl _ _)) (fun hHeld => ?_)
  refine wpAnyH_take (i := 0) (v := ?vi0) rfl (by kernel_rfl) (by kernel_rfl) (by kernel_rfl) (fun _ _ _ h => h) (Or.inl ⟨by rfl, ?hyi0⟩) (by assumption) ?resti0
  case hyi0 => (intro w_ hSw; refine exec_grp _ _ (.tmp 1) ?_ w_ w.heap.size ?_ _ ?_ (HE1.out.below hSw hs1) <;> rfl)
  (try simp only [Act.put, List.setIfInBounds_toArray, List.set_cons_zero, List.set_cons_succ, List.getElem_toArray, List.getElem_cons_zero, List.getElem_cons_succ])
  refine wpAnyH_take (i := 2) (v := ?vi2) rfl (by kernel_rfl) (by kernel_rfl) (by kernel_rfl) (fun _ _ _ h => h) (Or.inl ⟨by rfl, ?hyi2⟩) (by assumption) ?resti2
  case hyi2 => (intro w_ hSw; refine exec_grp _ _ (.tmp 1) ?_ w_ w.heap.size ?_ _ ?_ (HE1.out.below hSw hs1) <;> rfl)
  (try simp only [Act.put, List.setIfInBounds_toArray, List.set_cons_zero, List.set_cons_succ, List.getElem_toArray, List.getElem_cons_zero, List.getElem_cons_succ])
  refine wpAnyH_ready (rs := [1]) (by kernel_rfl) (by simp) ?_
  refine AllReadyH.cons rfl (fun K hK => ?_) AllReadyH.nil
  · go_simp
    refine (HP_nmIncome.out _ (below_two HB1.out hHeld)).mono ?_
    rintro e w2 ⟨v1, rfl, ho1, hba⟩
    obtain ⟨A1, c1, rfl⟩ := own_slice ho1
    try simp only [World.size_drew] at ho1
    dsimp only
    refine hK.out _ _ ?hSia1 (fun hHeld1 => ?_)
    case hSia1 => exact below_two hHeld hba
    have hs2 : w1.heap.size ≤ w2.heap.size := hHeld1.size
    clear hK K hba
    (try simp only [Act.put, List.setIfInBounds_toArray, List.set_cons_zero, List.set_cons_succ, List.getElem_toArray, List.getElem_cons_zero, List.getElem_cons_succ])
    refine wpAnyH_ready (rs := [3]) (by kernel_rfl) (by simp) ?_
    refine (AllReadyH.cons rfl (fun K hK => ?_) AllReadyH.nil)
    go_simp
    refine (HP_nmExpenses.out _ (below_two HB1.out hHeld1)).mono ?_
    rintro e w3 ⟨v2, rfl, ho2, hba⟩
    obtain ⟨A2, c2, rfl⟩ := own_slice ho2
    try simp only [World.size_drew] at ho2
    dsimp only
    refine hK.out _ _ ?hSia3 (fun hHeld3 => ?_)
    case hSia3 => exact below_two hHeld1 hba
    have ho1' := own_below ho1 hba
    have hs3 : w2.heap.size ≤ w3.heap.size := hba.size
    clear hK K hba
    (try simp only [Act.put, List.setIfInBounds_toArray, List.set_cons_zero, List.set_cons_succ, List.getElem_toArray, List.getElem_cons_zero, List.getElem_cons_succ])
    refine wpAnyH_ready (rs := [4]) (by kernel_rfl) (by simp) ?_
    refine (AllReadyH.cons rfl (fun K hK => ?_) AllReadyH.nil)
    refine step_append_any _ rfl (.tmp 8) (.tmp 10) _ rfl w1.heap.size 39 i0 _ 5 48 Tryz.underlying32 hi0 hz0 hz1 hz2 rfl (by omega) _ r1.length (rowsCells r1) (by simp [Act.eval]) ho1' w3.heap.size A2 r2.length c2 (rowsCells r2) (by simp [Act.eval]) (Reads.of_own ho2) (rowsG_one _) (by simp only [maxLen]; omega) (by omega) (by omega) ?_
    intro v4 w4 hown4 hg4 hat4
    have hb4 : Below w1.heap.size w1 w4 := Below.grown hHeld3 hg4 (by omega) (fun r hr => by have := own_base ho1' r hr; omega)
    refine hK.out _ _ ?hSia4 (fun hHeld4 => ?_)
    case hSia4 => exact hb4
    have HO4 := Lib.hid (own_mono (b' := w1.heap.size) hown4 (by omega))
    have HB4 := Lib.hid (below_two HB1.out hb4)
    clear hK K hown4 hg4 hat4 ho1 ho1' ho2 hHeld hHeld1 hHeld3 hb4
    (try simp only [Act.put, List.setIfInBounds_toArray, List.set_cons_zero, List.set_cons_succ, List.getElem_toArray, List.getElem_cons_zero, List.getElem_cons_succ])
    refine wpAnyH_take (i := 5) (v := ?via5) rfl (by kernel_rfl) (by kernel_rfl) (by kernel_rfl) (fun _ _ _ h => h) (Or.inl ⟨by rfl, ?hyia5⟩) (by assumption) ?restia5
    case hyia5 => (intro w_ hSw; (try dsimp only at hSw); obtain _ := hSw; go_simp; (try with_reducible rfl))
    (try simp only [Act.put, List.setIfInBounds_toArray, List.set_cons_zero, List.set_cons_succ, List.getElem_toArray, List.getElem_cons_zero, List.getElem_cons_succ])
    refine wpAnyH_take (i := 6) (v := ?via6) rfl (by kernel_rfl) (by kernel_rfl) (by kernel_rfl) (fun _ _ _ h => h) (Or.inl ⟨by rfl, ?hyia6⟩) (by assumption) ?restia6
    case hyia6 => (intro w_ hSw; (try dsimp only at hSw); obtain _ := hSw; go_simp; (try with_reducible rfl))
    (try simp only [Act.put, List.setIfInBounds_toArray, List.set_cons_zero, List.set_cons_succ, List.getElem_toArray, List.getElem_cons_zero, List.getElem_cons_succ])
    refine wpAnyH_done (by kernel_rfl) ?_ _
    clear hHeld4
    go_wp2_with fail
    go_ret2
    refine ⟨_, rfl, ?_, HB4.out⟩
    (try dsimp only)
    rw [HPR.out, List.length_append, rowsCells_app]
    exact own_mono HO4.out (by omega)
end Go.Proofs.YtcmmppkmkejniaaGreatDoor
