/-
  The law StatementComplete.
-/
import Derived.Test.YtcmmppkmkejniaaGreatDoorGvScP
namespace Go.Proofs.YtcmmppkmkejniaaGreatDoor
open Go.RowKit
set_option linter.unusedVariables false
set_option linter.unusedSimpArgs false
theorem own_cap {w : World} {base : Nat} {e : TypeId} {size n c : Nat} {A : Option Addr} {xs : List Value} (h : w.ownsRow base e size (.slice A n c) n xs) : n ≤ c := by
  obtain ⟨_, h⟩ := h
  rcases h with ⟨h1, h2⟩ | ⟨g, cap, cur, h1, _, _, h2, _⟩
  · omega
  · injection h1 with _ _ hc
    omega
theorem row_emptyU (w : World) (e : TypeId) (S : Nat) : (w.alloc (.cells #[] e)).ownsRow w.heap.size e S (.slice (some ⟨w.heap.size, 0, none⟩) 0 0) 0 [] :=
  ⟨by simp, .inr ⟨w.heap.size, 0, #[], rfl, Nat.le_refl _, (MapKept.heap_alloc w _).1, Nat.le_refl _, Nat.zero_le _, by simp, by simp⟩⟩
theorem cov_step {rs : List SRow} {k : Nat} (hk : k < rs.length) (c : Int) : cov c (rs.take (k + 1)) = cov c (rs.take k) + (if decide ((rs.getD k default).from_ ≤ c) && decide (c ≤ (rs.getD k default).to_) then 1 else 0) := by
  have e : rs.getD k default = rs[k] := by simp [List.getD, hk]
  rw [List.take_succ_eq_append_getElem hk, cov_app, e]
  unfold cov
  rw [List.filter_cons]
  split <;> simp
theorem ttl_step {rs : List SRow} {k : Nat} (hk : k < rs.length) : ttl (rs.take (k + 1)) = ttl (rs.take k) + (if isTitle (rs.getD k default) then 0 else 1) := by
  have e : rs.getD k default = rs[k] := by simp [List.getD, hk]
  rw [List.take_succ_eq_append_getElem hk, ttl_app, e]
  unfold ttl
  rw [List.filter_cons]
  cases isTitle rs[k] <;> simp
theorem rows_getD_mem {rs : List SRow} {k : Nat} (hk : k < rs.length) : rs.getD k default ∈ rs := by
  have e : rs.getD k default = rs[k] := by simp [List.getD, hk]
  rw [e]; exact List.getElem_mem _
theorem cov_le (c : Int) (l : List SRow) : cov c l ≤ l.length := List.length_filter_le _ _
theorem ttl_le (l : List SRow) : ttl l ≤ l.length := List.length_filter_le _ _
set_option maxRecDepth 100000 in
set_option maxHeartbeats 32000000 in
theorem lawComplete (g : SGrp) (B : Nat) (w : World) (hE : Env w) (hg : GrpIn w B g) (hB : B ≤ w.heap.size) :
    Calls Tryz.prog 4 #[grpV g] w fun e w' => e = .returned (.bool true) ∧ Below w.heap.size w w' := by
  obtain ⟨i0, hi0, hz0, hz1, hz2⟩ := info_parts info_rowG
  have HAW : Hid (∀ W : World, Below w.heap.size w W → Calls Tryz.prog 6 #[] W fun e w' => e = .returned (.bool true) ∧ Below W.heap.size W w') := fun W hW => awake_true W (hE.after hW)
  have HFW : Hid (∀ W : World, Below w.heap.size w W → Calls Tryz.prog 7 #[grpV g] W (FewSays g W)) := fun W hW => gfew_any g B W (hg.low hB (Nat.le_refl _) hW) (by have := hW.size; omega)
  have HVA : Hid (g.nc ≤ 60 → (∀ x ∈ g.ents, x.nc ≤ 1000) → g.ne ≤ 1000 → (∀ W : World, Below w.heap.size w W → Calls Tryz.prog 13 #[grpV g] W fun e w' => e = .returned (.bool (grpR g.p)) ∧ Below W.heap.size W w')) := fun h1 h2 h3 W hW => rgrp_any g B W (hg.low hB (Nat.le_refl _) hW) (by have := hW.size; omega) (by omega) h2 h3
  have HYES : Hid (g.nc ≤ 60 → (∀ x ∈ g.ents, x.nc ≤ 1000) → g.ne ≤ 1000 → grpR g.p = true → (∀ W : World, Below w.heap.size w W → Calls Tryz.prog 8 #[grpV g] W fun e w' => ∃ v, e = .returned (.tuple #[v, .int .i64 0]) ∧ w'.ownsRow W.heap.size 39 5 v (posRows g.chart).length (rowsCells (posRows g.chart)) ∧ Below W.heap.size W w') ∧ (∀ W : World, Below w.heap.size w W → Calls Tryz.prog 10 #[grpV g] W fun e w' => ∃ v, e = .returned (.tuple #[v, .int .i64 0]) ∧ w'.ownsRow W.heap.size 39 5 v (incRows g.chart).length (rowsCells (incRows g.chart)) ∧ Below W.heap.size W w') ∧ validR (posRows g.chart) = true ∧ validR (incRows g.chart) = true ∧ (∀ r ∈ allRows g.chart, r.name.length ≤ 16) ∧ ttl (allRows g.chart) = g.nc ∧ (∀ i, i < g.nc → cov (g.chart.getD i default).code (allRows g.chart) = 1) ∧ g.chart.length = g.nc) := by
    intro h1 h2 h3 h4
    have h5 : grpP g.p = true := by rw [grp_same]; exact h4
    obtain ⟨hc, hch⟩ := grpR_codes h4
    have h6 : ∀ x ∈ g.chart, 0 ≤ x.code ∧ x.code ≤ 99999 := fun x hx => by have := hc x hx; omega
    have h7 : ∀ x ∈ g.chart, 1 ≤ x.code ∧ x.code ≤ 99999 := fun x hx => by have := hc x hx; omega
    have h8 : ∀ x ∈ g.chart, 1 ≤ x.kind ∧ x.kind ≤ 5 := fun x hx => by have := hc x hx; omega
    have hl := hg.ch.len
    exact ⟨fun W hW => ppos_yes g B W (hE.after hW) (hg.low hB (Nat.le_refl _) hW) (by have := hW.size; omega) (by omega) h2 h6 h5,
      fun W hW => pinc_yes g B W (hE.after hW) (hg.low hB (Nat.le_refl _) hW) (by have := hW.size; omega) (by omega) h2 h6 h5,
      pos_valid h7 (by omega), inc_valid h7 (by omega), fun r hr => all_names h7 hr, by rw [ttl_all h8, hl], fun i hi => by rw [cov_all h8]; exact code_one hch (by omega), hl⟩
  have HCH := Lib.hid hg.ch
  clear hg hE
  obtain ⟨cu, yr, mo, pe, Ac, nc, cc, ch, ro, Ae, ne, ce, es⟩ := g
  unfold FewSays at HFW
  unfold grpV at HFW HVA HYES ⊢
  simp only [] at HFW HVA HYES HCH ⊢
  have HBX := Lib.hid ((Below.refl w.heap.size w).alloc (Nat.le_refl _) (.cells #[.string ⟨cu.toArray⟩, .int .i64 yr, .int .i64 mo, .int .i64 pe, .slice Ac nc cc, .int .i64 ro.c0, .int .i64 ro.c1, .int .i64 ro.c2, .int .i64 ro.c3, .int .i64 ro.c4, .int .i64 ro.c5, .int .i64 ro.c6, .int .i64 ro.c7, .int .i64 ro.c8, .int .i64 ro.c9, .int .i64 ro.c10, .int .i64 ro.c11, .int .i64 ro.c12, .int .i64 ro.c13, .int .i64 ro.c14, .slice Ae ne ce] 29))
  have HE := Lib.hid (Blk.new w 29 #[.string ⟨cu.toArray⟩, .int .i64 yr, .int .i64 mo, .int .i64 pe, .slice Ac nc cc, .int .i64 ro.c0, .int .i64 ro.c1, .int .i64 ro.c2, .int .i64 ro.c3, .int .i64 ro.c4, .int .i64 ro.c5, .int .i64 ro.c6, .int .i64 ro.c7, .int .i64 ro.c8, .int .i64 ro.c9, .int .i64 ro.c10, .int .i64 ro.c11, .int .i64 ro.c12, .int .i64 ro.c13, .int .i64 ro.c14, .slice Ae ne ce])
  go_enter Tryz.func4, Tryz.ntmps4
  go_wp2_with fail
  refine (HAW.out _ HBX.out).mono ?_
  rintro e w1 ⟨rfl, hb1⟩
  have HB1 := Lib.hid (below_two HBX.out hb1)
  have HE1 := Lib.hid (HE.out.below hb1 (by simp))
  have hs1 : w.heap.size < w1.heap.size := by have := hb1.size; simp only [World.size_alloc] at this; omega
  clear hb1
  go_wp2_with (refine wpList_load_grp (by first | rfl | simp [Region.wanted, yielded]) _ rfl _ rfl _ rfl HE1.out ?_)
  refine (HFW.out _ HB1.out).mono ?_
  rintro e w2 ⟨b, rfl, hfb, hb2⟩
  have HB2 := Lib.hid (below_two HB1.out hb2)
  have HE2 := Lib.hid (HE1.out.below hb2 hs1)
  have hs2 : w1.heap.size ≤ w2.heap.size := hb2.size
  clear hb2
  cases b
  · go_wp2_with fail
    refine (HAW.out _ HB2.out).mono ?_
    rintro e w3 ⟨rfl, hb3⟩
    have HB3 := Lib.hid (below_two HB2.out hb3)
    clear hb3
    go_wp2_with fail
    go_ret
    exact ⟨rfl, HB3.out⟩
  obtain ⟨f1, f2, f3⟩ := hfb rfl
  replace HVA := Lib.hid (HVA.out (by omega) (fun x hx => by have := f3 x hx; omega) (by omega))
  replace HYES := Lib.hid (HYES.out (by omega) (fun x hx => by have := f3 x hx; omega) (by omega))
  clear hfb f3 HFW
  go_wp2_with (refine wpList_load_grp (by first | rfl | simp [Region.wanted, yielded]) _ rfl _ rfl _ rfl HE2.out ?_)
  refine (HVA.out _ HB2.out).mono ?_
  rintro e w3 ⟨rfl, hb3⟩
  have HB3 := Lib.hid (below_two HB2.out hb3)
  have HE3 := Lib.hid (HE2.out.below hb3 (by omega))
  have hs3 : w2.heap.size ≤ w3.heap.size := hb3.size
  clear hb3 HVA
  cases hgr : grpR (SGrp.p ⟨cu, yr, mo, pe, Ac, nc, cc, ch, ro, Ae, ne, ce, es⟩)
  · clear HYES hgr
    go_wp2_with fail
    refine (HAW.out _ HB3.out).mono ?_
    rintro e w4 ⟨rfl, hb4⟩
    have HB4 := Lib.hid (below_two HB3.out hb4)
    clear hb4
    go_wp2_with fail
    go_ret
    exact ⟨rfl, HB4.out⟩
  obtain ⟨Q1, Q2, V1, V2, NM, T1, C1, HL⟩ := HYES.out hgr
  replace Q1 := Lib.hid Q1
  replace Q2 := Lib.hid Q2
  replace V1 := Lib.hid V1
  replace V2 := Lib.hid V2
  replace NM := Lib.hid NM
  replace T1 := Lib.hid T1
  replace C1 := Lib.hid C1
  replace HL := Lib.hid HL
  have hl1 := posRows_len ch
  have hl2 := incRows_len ch
  rw [HL.out] at hl1 hl2
  have AF : Hid (∀ r ∈ allRows ch, isTitle r = true ∨ isTitle r = false ∧ r.to_ = r.from_ ∧ ∃ a, findA ch r.from_ = some a) := fun r hr => all_found hr
  have AR : Hid (allRows ch = posRows ch ++ incRows ch) := rfl
  clear hgr HYES HAW
  generalize posRows ch = r1 at *
  generalize incRows ch = r2 at *
  generalize allRows ch = rs at *
  obtain rfl : rs = r1 ++ r2 := AR.out
  have NM1 : Hid (∀ r ∈ r1, r.name.length ≤ 3000) := fun r hr => by have := NM.out r (by simp [hr]); omega
  have NM2 : Hid (∀ r ∈ r2, r.name.length ≤ 3000) := fun r hr => by have := NM.out r (by simp [hr]); omega
  clear NM AR
  go_wp2_with (refine wpList_load_grp (by first | rfl | simp [Region.wanted, yielded]) _ rfl _ rfl _ rfl HE3.out ?_)
  refine (Q1.out _ HB3.out).mono ?_
  rintro e w4 ⟨v1, rfl, ho1, hb⟩
  obtain ⟨A1, c1, rfl⟩ := own_slice ho1
  have hc1 := own_cap ho1
  have HO1 := Lib.hid ho1
  have HB4 := Lib.hid (below_two HB3.out hb)
  have HE4 := Lib.hid (HE3.out.below hb (by omega))
  have hs4 : w3.heap.size ≤ w4.heap.size := hb.size
  clear ho1 hb
  go_wp2_with (refine wpList_load_grp (by first | rfl | simp [Region.wanted, yielded]) _ rfl _ rfl _ rfl HE4.out ?_)
  refine (Q2.out _ HB4.out).mono ?_
  rintro e w5 ⟨v2, rfl, ho2, hb⟩
  obtain ⟨A2, c2, rfl⟩ := own_slice ho2
  have hc2 := own_cap ho2
  have HO2 := Lib.hid ho2
  replace HO1 := Lib.hid (own_below HO1.out hb)
  have HB5 := Lib.hid (below_two HB4.out hb)
  have HE5 := Lib.hid (HE4.out.below hb (by omega))
  have hs5 : w4.heap.size ≤ w5.heap.size := hb.size
  clear ho2 hb Q1 Q2
  go_wp2_with fail
  refine (valid_any r1 A1 _ c1 w5.heap.size w5 (Reads.of_own HO1.out) (Nat.le_refl _) (by omega) hc1 NM1.out).mono ?_
  rintro e w6 ⟨rfl, hb⟩
  rw [V1.out]
  replace HO1 := Lib.hid (own_below HO1.out hb)
  replace HO2 := Lib.hid (own_below HO2.out hb)
  have HB6 := Lib.hid (below_two HB5.out hb)
  have HE6 := Lib.hid (HE5.out.below hb (by omega))
  have hs6 : w5.heap.size ≤ w6.heap.size := hb.size
  clear hb
  go_wp2_with fail
  refine (valid_any r2 A2 _ c2 w6.heap.size w6 (Reads.of_own HO2.out) (Nat.le_refl _) (by omega) hc2 NM2.out).mono ?_
  rintro e w7 ⟨rfl, hb⟩
  rw [V2.out]
  replace HO1 := Lib.hid (own_below HO1.out hb)
  replace HO2 := Lib.hid (own_below HO2.out hb)
  have HB7 := Lib.hid (below_two HB6.out hb)
  have HE7 := Lib.hid (HE6.out.below hb (by omega))
  have hs7 : w6.heap.size ≤ w7.heap.size := hb.size
  clear hb
  go_wp2_with (first | (at_builtin; refine wpList_append_any _ rfl (.tmp 56) (.tmp 57) _ rfl w7.heap.size 39 i0 _ 5 48 Tryz.underlying32 hi0 hz0 hz1 hz2 rfl (by omega) _ 0 ([]) rfl (row_emptyU w7 39 5) w7.heap.size A1 r1.length c1 (rowsCells r1) rfl ((Reads.of_own HO1.out).keep fun p hp => ((Below.refl w7.heap.size w7).alloc (Nat.le_refl _) (.cells #[] 39)).cell hp) (rowsG_one _) (by simp only [maxLen]; omega) (by omega) (by (try simp only [World.size_alloc]); omega) ?_; intro v8 w8 hown8 hg8 hat8; have hb8 := (((Below.refl w7.heap.size w7).alloc (Nat.le_refl _) (.cells #[] 39)).grown hg8 (by simp only [World.size_alloc]; omega) (fun j hj => by have := own_base (row_emptyU w7 39 5) j hj; omega)); rw [Nat.zero_add, List.nil_append] at hown8; obtain ⟨A8, c8, rfl⟩ := own_slice hown8; have HO8 := Lib.hid hown8; have HB8 := Lib.hid hb8; have hs8 := hb8.size; clear hown8 hg8 hat8 hb8) | (at_builtin; refine wpList_append_any _ rfl (.tmp 58) (.tmp 59) _ rfl w7.heap.size 39 i0 _ 5 48 Tryz.underlying32 hi0 hz0 hz1 hz2 rfl (by omega) _ r1.length (rowsCells r1) rfl HO8.out w7.heap.size A2 r2.length c2 (rowsCells r2) rfl ((Reads.of_own HO2.out).keep fun p hp => HB8.out.cell hp) (rowsG_one _) (by simp only [maxLen]; omega) (by omega) (by (try simp only [World.size_alloc]); omega) ?_; intro v9 w9 hown9 hg9 hat9; have hb9 := HB8.out.grown hg9 (by omega) (fun j hj => by have := own_base HO8.out j hj; omega); rw [← rowsCells_app] at hown9; obtain ⟨A9, c9, rfl⟩ := own_slice hown9; have HRD9 := Lib.hid (Reads.of_own hown9); have HB9 := Lib.hid (below_two HB7.out hb9); have HE9 := Lib.hid (HE7.out.below hb9 (by omega)); have hs9 : w7.heap.size ≤ w9.heap.size := hb9.size; clear hown9 hg9 hat9 hb9))
  try simp only [← Int.natCast_add, ← List.length_append]
  try rw [← List.length_append] at *
  have hln : (r1 ++ r2).length ≤ 400 := by rw [List.length_append]; omega
  generalize r1 ++ r2 = rs at *
  clear HO1 HO2 HO8 HB8 HB1 HB2 HB3 HB4 HB5 HB6 HE HE1 HE2 HE3 HE4 HE5 HE6 NM1 NM2 V1 V2
  go_loopw [8, 63] (fun rv iv wr => ∃ k : Nat, iv = .int .i64 k ∧ k ≤ rs.length ∧ rv = .int .i64 (ttl (rs.take k)) ∧ Below w9.heap.size w9 wr) (fun _ iv _ => rs.length - (intOf iv).toNat)
  case atStart => exact ⟨0, rfl, by omega, rfl, Below.refl _ _⟩
  case round =>
    obtain ⟨k, rfl, hk, rfl, hbr⟩ := hrel
    obtain ⟨wo, rfl⟩ : ∃ wo : World, wo = wr := ⟨_, rfl⟩
    have hs10 := hbr.size
    have hm1 : ttl (rs.take k) ≤ 400 := by have := ttl_le (rs.take k); rw [List.length_take] at this; omega
    by_cases hlt : k < rs.length
    case pos =>
      have k3 : decide ((k : Int) < (rs.length : Int)) = true := by rw [decide_eq_true_eq]; omega
      have b3 : (k : Int) < (rs.length : Int) := by omega
      obtain ⟨ad, rfl, hab, d0, d1, d2, d3, d4⟩ := (HRD9.out.low (Nat.le_refl _) (Nat.le_refl _) hbr).row_at hlt
      have hfd := AF.out _ (rows_getD_mem hlt)
      have F := Lib.hid (ttl_step hlt)
      generalize rs.getD k default = r at *
      generalize ttl (rs.take k) = m at *
      obtain ⟨nm, lv, fr, to_, ng⟩ := r
      simp only [] at d0 d1 d2 d3 d4 hfd
      have HX := Lib.hid (Blk.new wo 39 #[.string ⟨nm.toArray⟩, .int .i64 lv, .int .i64 fr, .int .i64 to_, .bool ng])
      have HBA := Lib.hid (hbr.alloc hs10 (.cells #[.string ⟨nm.toArray⟩, .int .i64 lv, .int .i64 fr, .int .i64 to_, .bool ng] 39))
      have HT := Lib.hid (refTitle_any ⟨nm, lv, fr, to_, ng⟩ (wo.alloc (.cells #[.string ⟨nm.toArray⟩, .int .i64 lv, .int .i64 fr, .int .i64 to_, .bool ng] 39)))
      unfold rowV at HT
      simp only [] at HT
      go_wp2_with fail
      refine HT.out.mono ?_
      rintro e w10 ⟨rfl, hb⟩
      have HB10 := Lib.hid (below_two HBA.out hb)
      have HX10 := Lib.hid (HX.out.below hb (by simp))
      have hs11 : wo.heap.size < w10.heap.size := by have := hb.size; simp only [World.size_alloc] at this; omega
      clear hb HT d0 d1 d2 d3 d4
      cases ht : isTitle ⟨nm, lv, fr, to_, ng⟩
      case true =>
        have F2 : Hid (ttl (rs.take (k + 1)) = m) := by show _ = _; rw [F.out, ht]; rfl
        clear ht hfd F
        go_wp2_with fail
        exact ⟨⟨k + 1, by go_num, by omega, by rw [F2.out], HB10.out⟩, by simp [intOf]; omega⟩
      case false =>
        have F2 : Hid (ttl (rs.take (k + 1)) = m + 1) := by show _ = _; rw [F.out, ht]; rfl
        rcases hfd with h | ⟨_, hto, a, ha⟩
        · rw [ht] at h; cases h
        · subst hto
          have HFI := Lib.hid (rfind_any ch Ac nc cc to_ B w10 (HCH.out.rd.lowg hB (Nat.le_refl _) (below_two HB9.out HB10.out)) (by have := (below_two HB9.out HB10.out).size; omega) (by omega))
          rw [findV_yes ha] at HFI
          obtain ⟨a0, a1, a2, a3⟩ := a
          simp only [] at HFI
          clear ht ha F
          have x2 := HX10.out.cell 2
          have g4 := (HE9.out.below HB10.out (by omega)).cell 4
          simp only [List.getElem?_toArray, List.getElem?_cons_succ, List.getElem?_cons_zero] at x2 g4
          go_wp2_with fail
          refine HFI.out.mono ?_
          rintro e w11 ⟨rfl, hb⟩
          have HB11 := Lib.hid (below_two HB10.out hb)
          have hX11 := (HX10.out.below hb hs11).alloc (.cells #[.int .i64 a0, .int .i64 a1, .int .i64 a2, .int .i64 a3] 42)
          have hs12 : w10.heap.size ≤ w11.heap.size := hb.size
          have z2 := hX11.cell 2
          have z3 := hX11.cell 3
          simp only [List.getElem?_toArray, List.getElem?_cons_succ, List.getElem?_cons_zero] at z2 z3
          clear hb HFI x2 g4 hX11
          have ne : (to_ != to_) = false := by simp
          go_wp2_with fail
          exact ⟨⟨k + 1, by go_num, by omega, by rw [F2.out]; go_num, HB11.out.alloc (by omega) _⟩, by simp [intOf]; omega⟩
    case neg =>
      have k3 : decide ((k : Int) < (rs.length : Int)) = false := by rw [decide_eq_false_iff_not]; omega
      have e1 : ttl (rs.take k) = nc := by rw [List.take_of_length_le (by omega)]; exact T1.out
      rw [e1] at *
      have HBo := Lib.hid hbr
      have hlt9 : w.heap.size < w9.heap.size := by omega
      have g4 := (HE9.out.below hbr hlt9).cell 4
      simp only [List.getElem?_toArray, List.getElem?_cons_succ, List.getElem?_cons_zero] at g4
      clear hbr
      go_wp2_with fail
      go_loopw [93] (fun iv wr => ∃ i : Nat, iv = .int .i64 i ∧ i ≤ nc ∧ Below w9.heap.size w9 wr) (fun iv _ => nc - (intOf iv).toNat)
      case atStart => exact ⟨0, rfl, by omega, HBo.out⟩
      case round =>
        obtain ⟨i, rfl, hi, hbi⟩ := hrel
        obtain ⟨wi, rfl⟩ : ∃ wi : World, wi = wr := ⟨_, rfl⟩
        clear g4
        by_cases hli : i < nc
        case neg =>
          have k4 : decide ((i : Int) < (nc : Int)) = false := by rw [decide_eq_false_iff_not]; omega
          have g4 := (HE9.out.below hbi hlt9).cell 4
          simp only [List.getElem?_toArray, List.getElem?_cons_succ, List.getElem?_cons_zero] at g4
          have q : (((nc : Nat) : Int) == ((nc : Nat) : Int)) = true := by simp
          go_wp2_with fail
          go_ret
          exact ⟨rfl, below_two HB9.out hbi⟩
        case pos =>
          have k4 : decide ((i : Int) < (nc : Int)) = true := by rw [decide_eq_true_eq]; omega
          have b4 : (i : Int) < (nc : Int) := by omega
          have hcov := C1.out i hli
          generalize hcd : (ch.getD i default).code = cd at *
          have HCV := Lib.hid hcov
          clear hcov
          go_wp2_with fail
          go_loopw [14, 98] (fun fv jv wr => ∃ j : Nat, jv = .int .i64 j ∧ j ≤ rs.length ∧ fv = .int .i64 (cov cd (rs.take j)) ∧ Below w9.heap.size w9 wr) (fun _ jv _ => rs.length - (intOf jv).toNat)
          case atStart => exact ⟨0, rfl, by omega, rfl, hbi⟩
          case round =>
            obtain ⟨j, rfl, hj, rfl, hbj⟩ := hrel
            obtain ⟨wj, rfl⟩ : ∃ wj : World, wj = wr := ⟨_, rfl⟩
            have hsj := hbj.size
            have hm2 : cov cd (rs.take j) ≤ 400 := by have := cov_le cd (rs.take j); rw [List.length_take] at this; omega
            by_cases hlj : j < rs.length
            case neg =>
              have k5 : decide ((j : Int) < (rs.length : Int)) = false := by rw [decide_eq_false_iff_not]; omega
              have e2 : cov cd (rs.take j) = 1 := by rw [List.take_of_length_le (by omega)]; exact HCV.out
              rw [e2] at *
              go_wp2_with fail
              exact ⟨⟨i + 1, by go_num, by omega, hbj⟩, by simp [intOf]; omega⟩
            case pos =>
              have k5 : decide ((j : Int) < (rs.length : Int)) = true := by rw [decide_eq_true_eq]; omega
              have b5 : (j : Int) < (rs.length : Int) := by omega
              obtain ⟨ad, rfl, hab, d0, d1, d2, d3, d4⟩ := (HRD9.out.low (Nat.le_refl _) (Nat.le_refl _) hbj).row_at hlj
              have hsw : w.heap.size ≤ wj.heap.size := by omega
              obtain ⟨ac, rfl, hac, a0, a1, a2, a3⟩ := (HCH.out.rd.lowg hB (Nat.le_refl _) (below_two HB9.out hbj)).acc_at hli
              rw [hcd] at a0
              clear a1 a2 a3
              have F := Lib.hid (cov_step hlj cd)
              generalize rs.getD j default = r at *
              generalize cov cd (rs.take j) = m at *
              obtain ⟨nm, lv, fr, to_, ng⟩ := r
              simp only [] at d0 d1 d2 d3 d4
              have hX := Blk.new wj 39 #[.string ⟨nm.toArray⟩, .int .i64 lv, .int .i64 fr, .int .i64 to_, .bool ng]
              have x2 := hX.cell 2
              have x3 := hX.cell 3
              have g4 := ((HE9.out.below hbj hlt9).alloc (.cells #[.string ⟨nm.toArray⟩, .int .i64 lv, .int .i64 fr, .int .i64 to_, .bool ng] 39)).cell 4
              simp only [List.getElem?_toArray, List.getElem?_cons_succ, List.getElem?_cons_zero] at x2 x3 g4
              have a0z : (wj.alloc (.cells #[.string ⟨nm.toArray⟩, .int .i64 lv, .int .i64 fr, .int .i64 to_, .bool ng] 39)).cell? (ac.add (i * 4)) = some (.int .i64 cd) := (World.cell?_alloc_lt wj _ _ (by rw [block_of_add]; omega)).trans a0
              have HBZ := Lib.hid (hbj.alloc hsj (.cells #[.string ⟨nm.toArray⟩, .int .i64 lv, .int .i64 fr, .int .i64 to_, .bool ng] 39))
              clear hX
              go_upto_region 25 with fail
              generalize wj.alloc (.cells #[.string ⟨nm.toArray⟩, .int .i64 lv, .int .i64 fr, .int .i64 to_, .bool ng] 39) = wz at *
              clear d0 d1 d2 d3 d4 a0
              cases t1 : decide (fr ≤ cd) <;> cases t2 : decide (cd ≤ to_)
              all_goals (
                have F2 := F.out
                simp only [t1, t2, Bool.false_and, Bool.and_false, Bool.and_true, Bool.and_self, Bool.false_eq_true, ↓reduceIte, Nat.add_zero] at F2
                replace F2 := Lib.hid F2
                clear F
                go_quiet (fail)
                go_wp2_with fail
                exact ⟨⟨j + 1, by go_num, by omega, by first | (rw [F2.out]; done) | (rw [F2.out]; go_num), below_drewN HBZ.out nq⟩, by simp [intOf]; omega⟩)
end Go.Proofs.YtcmmppkmkejniaaGreatDoor
