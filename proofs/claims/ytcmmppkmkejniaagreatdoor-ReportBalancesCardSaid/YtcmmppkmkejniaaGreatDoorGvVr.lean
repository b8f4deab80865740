/-
  The reference's Valid (groups).
-/
import Derived.Test.YtcmmppkmkejniaaGreatDoorGvEr
namespace Go.Proofs.YtcmmppkmkejniaaGreatDoor
open Go.RowKit
set_option linter.unusedVariables false
set_option linter.unusedSimpArgs false
theorem grpR_1 {g : PGrp} (h : booksR g = false) : grpR g = false := by unfold grpR; rw [h]; rfl
theorem grpR_2 {g : PGrp} (h : entsIn g = false) : grpR g = false := by unfold grpR; rw [h]; simp
theorem grpR_3 {g : PGrp} {k : Nat} (hk : k < g.ents.length) (h : entAtR g k = false) : grpR g = false := by unfold grpR; rw [allR_no hk h]; simp
theorem grpR_yes {g : PGrp} (h1 : booksR g = true) (h2 : entsIn g = true) (h3 : (List.range g.ents.length).all (entAtR g) = true) : grpR g = true := by unfold grpR; rw [h1, h2, h3]; rfl
theorem entIdx_first {es : List SEnt} {k : Nat} (hk : k < es.length) : ∃ m, m ≤ k ∧ entIdx es (es.getD k default).name = some m ∧ nameSeen (es.map SEnt.p) k (es.getD k default).name = !decide (m = k) := by
  have key : ∀ m, m ≤ k → (∀ i, i < m → ((es.getD i default).name == (es.getD k default).name) = false) → ∃ m', m' ≤ k ∧ (∀ i, i < m' → ((es.getD i default).name == (es.getD k default).name) = false) ∧ ((es.getD m' default).name == (es.getD k default).name) = true := by
    intro m
    induction h : k - m generalizing m with
    | zero =>
      intro hm hi
      obtain rfl : m = k := by omega
      exact ⟨m, Nat.le_refl _, hi, by simp⟩
    | succ d ih =>
      intro hm hi
      cases hc : ((es.getD m default).name == (es.getD k default).name)
      · refine ih (m + 1) (by omega) (by omega) fun i hi2 => ?_
        rcases Nat.lt_or_ge i m with h1 | h1
        · exact hi i h1
        · obtain rfl : i = m := by omega
          exact hc
      · exact ⟨m, hm, hi, hc⟩
  obtain ⟨m, hm, hi, hc⟩ := key 0 (Nat.zero_le _) (fun i hi => by omega)
  refine ⟨m, hm, entIdx_at (by omega) hi hc, ?_⟩
  have hgd : ∀ i, (es.map SEnt.p).getD i default = (es.getD i default).p := fun i => getD_map SEnt.p rfl es i
  by_cases hmk : m = k
  · subst hmk
    rw [decide_eq_true rfl]
    unfold nameSeen
    rw [Bool.not_true, List.any_eq_false]
    intro x hx h2
    obtain ⟨i, hi2, rfl⟩ := List.mem_iff_getElem.1 hx
    rw [List.length_take] at hi2
    have := hi i (by omega)
    rw [List.getElem_take, List.getElem_map] at h2
    have hil : i < es.length := by omega
    have e : es.getD i default = es[i] := by simp [List.getD, hil]
    rw [e] at this
    have h3 : (es[i].name == (es.getD m default).name) = true := h2
    rw [this] at h3; cases h3
  · rw [decide_eq_false hmk]
    unfold nameSeen
    refine any_of (j := m) (by omega) (by rw [List.length_map]; omega) ?_
    rw [hgd]
    exact hc
/-- what a round has before it -/
def EvS (wo : World) (gb : Nat) (sl : Value) (ad : Addr) (k : Nat) (e0 e1 e2 e3 e4 : Value) (W : World) : Prop := Below wo.heap.size wo W ∧ W.cell? ⟨gb, 20, none⟩ = some sl ∧ W.cell? (ad.add (k * 5)) = some e0 ∧ W.cell? ⟨(ad.add (k * 5)).block, (ad.add (k * 5)).off + 1, none⟩ = some e1 ∧
  W.cell? ⟨(ad.add (k * 5)).block, (ad.add (k * 5)).off + 2, none⟩ = some e2 ∧ W.cell? ⟨(ad.add (k * 5)).block, (ad.add (k * 5)).off + 3, none⟩ = some e3 ∧ W.cell? ⟨(ad.add (k * 5)).block, (ad.add (k * 5)).off + 4, none⟩ = some e4
theorem EvS.step {wo W W' : World} {gb : Nat} {sl : Value} {ad : Addr} {k : Nat} {e0 e1 e2 e3 e4 : Value} (h : EvS wo gb sl ad k e0 e1 e2 e3 e4 W) (hb : Below W.heap.size W W') (had : ad.block < wo.heap.size) (hgb : gb < wo.heap.size) : EvS wo gb sl ad k e0 e1 e2 e3 e4 W' := by
  obtain ⟨h0, h1, h2, h3, h4, h5, h6⟩ := h
  have hs := h0.size
  have hq : ∀ o, (⟨(ad.add (k * 5)).block, o, none⟩ : Addr).block < W.heap.size := fun o => by show (ad.add (k * 5)).block < _; rw [block_of_add]; omega
  exact ⟨below_two h0 hb, (hb.cell (p := ⟨gb, 20, none⟩) (by show gb < _; omega)).trans h1, (hb.cell (by rw [block_of_add]; omega)).trans h2, (hb.cell (hq _)).trans h3, (hb.cell (hq _)).trans h4, (hb.cell (hq _)).trans h5, (hb.cell (hq _)).trans h6⟩
theorem EvS.drew {wo W : World} {gb : Nat} {sl : Value} {ad : Addr} {k : Nat} {e0 e1 e2 e3 e4 : Value} (h : EvS wo gb sl ad k e0 e1 e2 e3 e4 W) : EvS wo gb sl ad k e0 e1 e2 e3 e4 W.drew := ⟨below_drew h.1, h.2⟩
set_option maxRecDepth 100000 in
set_option maxHeartbeats 16000000 in
theorem rgrp_any (g : SGrp) (B : Nat) (w : World) (hg : GrpIn w B g) (hB : B ≤ w.heap.size) (hn : g.nc ≤ 1000) (hen : ∀ x ∈ g.ents, x.nc ≤ 1000) (hne : g.ne ≤ 1000) :
    Calls Tryz.prog 13 #[grpV g] w fun e w' => e = .returned (.bool (grpR g.p)) ∧ Below w.heap.size w w' := by
  have HENT : Hid (∀ x ∈ g.ents, ∀ W : World, Below w.heap.size w W → Calls Tryz.prog 25 #[grpV g, entV x] W fun e w' => e = .returned (.bool (entR g.p x.p)) ∧ Below W.heap.size W w') := fun x hx W hW =>
    rent_any g x B W (hg.low hB (Nat.le_refl _) hW) ((hg.ok x hx).low hB (Nat.le_refl _) hW) (by have := hW.size; omega) hn (hen x hx)
  have HBK : Hid (∀ W : World, Below w.heap.size w W → Calls Tryz.prog 23 #[grpV g] W fun e w' => e = .returned (.bool (booksR g.p)) ∧ Below W.heap.size W w') := fun W hW =>
    books_any g B W (hg.low hB (Nat.le_refl _) hW) (by have := hW.size; omega) hn
  have HFIN : Hid (∀ (s : List UInt8) (W : World), Below w.heap.size w W → Calls Tryz.prog 24 #[grpV g, .string ⟨s.toArray⟩] W fun e w' => e = .returned (findEV g.ents s) ∧ Below W.heap.size W w') := fun s W hW =>
    refind_any g s B W (hg.en.lowg hB (Nat.le_refl _) hW) (by have := hW.size; omega) hne
  have HEL : Hid (g.p.ents.length = g.ne) := by
    show _ = _
    unfold SGrp.p
    rw [List.length_map, ents_len hg.en]
  have HPE : Hid (g.p.ents = g.ents.map SEnt.p) := rfl
  have HGD : Hid (∀ k, g.p.ents.getD k default = (g.ents.getD k default).p) := fun k => getD_map SEnt.p rfl g.ents k
  have HEL2 := Lib.hid (ents_len hg.en)
  obtain ⟨cu, yr, mo, pe, Ac, nc, cc, ch, ro, Ae, ne, ce, es⟩ := g
  unfold grpV at HENT HBK HFIN ⊢
  have HEN := Lib.hid hg.en
  clear hg hen
  simp only [] at HEN hne HENT HBK HFIN HEL HGD HEL2 HPE ⊢
  obtain ⟨gp, hgp⟩ : ∃ gp, SGrp.p ⟨cu, yr, mo, pe, Ac, nc, cc, ch, ro, Ae, ne, ce, es⟩ = gp := ⟨_, rfl⟩
  rw [hgp] at HENT HBK HEL HGD HPE ⊢
  clear hgp
  generalize hgo : grpR gp = ok
  have HG := Lib.hid hgo.symm
  clear hgo
  have HBX := Lib.hid ((Below.refl w.heap.size w).alloc (Nat.le_refl _) (.cells #[.string ⟨cu.toArray⟩, .int .i64 yr, .int .i64 mo, .int .i64 pe, .slice Ac nc cc, .int .i64 ro.c0, .int .i64 ro.c1, .int .i64 ro.c2, .int .i64 ro.c3, .int .i64 ro.c4, .int .i64 ro.c5, .int .i64 ro.c6, .int .i64 ro.c7, .int .i64 ro.c8, .int .i64 ro.c9, .int .i64 ro.c10, .int .i64 ro.c11, .int .i64 ro.c12, .int .i64 ro.c13, .int .i64 ro.c14, .slice Ae ne ce] 29))
  have HE := Lib.hid (Blk.new w 29 #[.string ⟨cu.toArray⟩, .int .i64 yr, .int .i64 mo, .int .i64 pe, .slice Ac nc cc, .int .i64 ro.c0, .int .i64 ro.c1, .int .i64 ro.c2, .int .i64 ro.c3, .int .i64 ro.c4, .int .i64 ro.c5, .int .i64 ro.c6, .int .i64 ro.c7, .int .i64 ro.c8, .int .i64 ro.c9, .int .i64 ro.c10, .int .i64 ro.c11, .int .i64 ro.c12, .int .i64 ro.c13, .int .i64 ro.c14, .slice Ae ne ce])
  go_enter Tryz.func13, Tryz.ntmps13
  go_wp2_with (refine wpList_load_grp (by first | rfl | simp [Region.wanted, yielded]) _ rfl _ rfl _ rfl HE.out ?_)
  have hs0 : (w.alloc (.cells #[.string ⟨cu.toArray⟩, .int .i64 yr, .int .i64 mo, .int .i64 pe, .slice Ac nc cc, .int .i64 ro.c0, .int .i64 ro.c1, .int .i64 ro.c2, .int .i64 ro.c3, .int .i64 ro.c4, .int .i64 ro.c5, .int .i64 ro.c6, .int .i64 ro.c7, .int .i64 ro.c8, .int .i64 ro.c9, .int .i64 ro.c10, .int .i64 ro.c11, .int .i64 ro.c12, .int .i64 ro.c13, .int .i64 ro.c14, .slice Ae ne ce] 29)).heap.size = w.heap.size + 1 := by simp
  generalize hw0 : w.alloc _ = w0 at *
  clear hw0
  refine (HBK.out _ HBX.out).mono ?_
  rintro e w2 ⟨rfl, hb2⟩
  have HB2 := Lib.hid (below_two HBX.out hb2)
  have HE2 := Lib.hid (HE.out.below hb2 (by omega))
  have hs2 : w.heap.size < w2.heap.size := by have := hb2.size; omega
  clear hb2 HBX HBK
  have HBX := HB2
  cases v1 : booksR gp
  case false =>
    have F : Hid (grpR gp = false) := grpR_1 v1
    clear v1
    go_wp2_with fail
    go_ret
    exact ⟨ret_bool (HG.out.trans F.out).symm, HBX.out⟩
  case true =>
    have V1 := Lib.hid v1
    clear v1
    have g20 := HE2.out.cell 20
    simp only [List.getElem?_toArray, List.getElem?_cons_succ, List.getElem?_cons_zero] at g20
    by_cases h1 : 1 ≤ ne
    case neg =>
      have d1 : decide ((ne : Int) < 1) = true := by rw [decide_eq_true_eq]; omega
      have F : Hid (grpR gp = false) := grpR_2 (entsIn_1 (by rw [HEL.out]; exact h1))
      go_wp2_with fail
      go_ret
      exact ⟨ret_bool (HG.out.trans F.out).symm, HBX.out⟩
    case pos =>
      have d1 : decide ((ne : Int) < 1) = false := by rw [decide_eq_false_iff_not]; omega
      by_cases h12 : ne ≤ 12
      case neg =>
        have d2 : decide ((12 : Int) < (ne : Int)) = true := by rw [decide_eq_true_eq]; omega
        have F : Hid (grpR gp = false) := grpR_2 (entsIn_2 (by rw [HEL.out]; exact h12))
        go_wp2_with fail
        go_ret
        exact ⟨ret_bool (HG.out.trans F.out).symm, HBX.out⟩
      case pos =>
        have d2 : decide ((12 : Int) < (ne : Int)) = false := by rw [decide_eq_false_iff_not]; omega
        have b0 : (0 : Int) < (ne : Int) := by omega
        obtain ⟨ad, rfl, hbk, j0, j1, j2, j3, j4⟩ := (HEN.out.lowg hB (Nat.le_refl _) HB2.out).ent_at (k := 0) (by omega)
        have HJ : Hid ((gp.ents.getD 0 default).joint = (es.getD 0 default).joint) := by show _ = _; rw [HGD.out]; rfl
        generalize (es.getD 0 default).joint = jn at *
        simp only [Nat.zero_mul, show ad.add 0 = ad from rfl] at j4
        clear j0 j1 j2 j3
        cases jn
        case true =>
          have F : Hid (grpR gp = false) := grpR_2 (entsIn_3 HJ.out)
          go_wp2_with fail
          go_ret
          exact ⟨ret_bool (HG.out.trans F.out).symm, HBX.out⟩
        case false =>
          have V4 : Hid (entsIn gp = true) := entsIn_yes (by rw [HEL.out]; exact h1) (by rw [HEL.out]; exact h12) HJ.out
          go_wp2_with fail
          clear g20 j4
          go_loopw [3] (fun i wr => ∃ k : Nat, i = .int .i64 k ∧ k ≤ ne ∧ (List.range k).all (entAtR gp) = true ∧ Below w.heap.size w wr ∧ Blk wr w.heap.size 29 #[.string ⟨cu.toArray⟩, .int .i64 yr, .int .i64 mo, .int .i64 pe, .slice Ac nc cc, .int .i64 ro.c0, .int .i64 ro.c1, .int .i64 ro.c2, .int .i64 ro.c3, .int .i64 ro.c4, .int .i64 ro.c5, .int .i64 ro.c6, .int .i64 ro.c7, .int .i64 ro.c8, .int .i64 ro.c9, .int .i64 ro.c10, .int .i64 ro.c11, .int .i64 ro.c12, .int .i64 ro.c13, .int .i64 ro.c14, .slice (some ad) ne ce]) (fun i _ => ne - (intOf i).toNat)
          case atStart => exact ⟨0, rfl, by omega, rfl, HB2.out, HE2.out⟩
          case round =>
            obtain ⟨k, rfl, hk, hd, hbr, hbl⟩ := hrel
            obtain ⟨wo, rfl⟩ : ∃ wo : World, wo = wr := ⟨_, rfl⟩
            have HD := Lib.hid hd
            have HEO := Lib.hid hbl
            have hlt0 := hbl.lt
            have g20 := hbl.cell 20
            simp only [List.getElem?_toArray, List.getElem?_cons_succ, List.getElem?_cons_zero] at g20
            clear hd hbl
            by_cases hlt : k < ne
            case neg =>
              have k3 : decide ((k : Int) < (ne : Int)) = false := by rw [decide_eq_false_iff_not]; omega
              have F : Hid (grpR gp = true) := grpR_yes V1.out V4.out (by rw [HEL.out, show ne = k by omega]; exact HD.out)
              go_wp2_with fail
              go_ret
              exact ⟨ret_bool (HG.out.trans F.out).symm, hbr⟩
            case pos =>
              have k3 : decide ((k : Int) < (ne : Int)) = true := by rw [decide_eq_true_eq]; omega
              have b15 : (k : Int) < (ne : Int) := by omega
              have hkl : k < es.length := by rw [HEL2.out]; exact hlt
              obtain ⟨ad', ead, hbk2, c0, c1, c2, c3, c4⟩ := (HEN.out.lowg hB (Nat.le_refl _) hbr).ent_at hlt
              injection ead with ead
              subst ead
              have had : ad.block < wo.heap.size := by have := hbr.size; omega
              have hmem : es.getD k default ∈ es := by simp [List.getD, hkl]
              have HEX := Lib.hid (HENT.out _ hmem)
              have HNO : Hid (entAtR gp k = false → grpR gp = false) := fun h => grpR_3 (by rw [HEL.out]; exact hlt) h
              have HAT : Hid (entAtR gp k = (!nameSeen gp.ents k (es.getD k default).name && entR gp (es.getD k default).p)) := by show _ = _; unfold entAtR; rw [HGD.out]; rfl
              obtain ⟨m, hmk, hidx, hseen⟩ := entIdx_first hkl
              rw [← HPE.out] at hseen
              have HFM : Hid (findEV es (es.getD k default).name = .tuple #[.int .i64 (m : Int), .bool true]) := by show _ = _; unfold findEV; rw [hidx]
              have HSEEN := Lib.hid hseen
              clear hkl hmem hidx hseen
              generalize es.getD k default = x at *
              obtain ⟨nm, xu, Xc, xn, xc, xch, Al, nl, cl, ls, jt⟩ := x
              unfold entV at HEX
              simp only [] at c0 c1 c2 c3 c4 HEX HAT HFM HSEEN
              have HFI : Hid (∀ W : World, Below wo.heap.size wo W → Calls Tryz.prog 24 #[.agg #[.string ⟨cu.toArray⟩, .int .i64 yr, .int .i64 mo, .int .i64 pe, .slice Ac nc cc, .int .i64 ro.c0, .int .i64 ro.c1, .int .i64 ro.c2, .int .i64 ro.c3, .int .i64 ro.c4, .int .i64 ro.c5, .int .i64 ro.c6, .int .i64 ro.c7, .int .i64 ro.c8, .int .i64 ro.c9, .int .i64 ro.c10, .int .i64 ro.c11, .int .i64 ro.c12, .int .i64 ro.c13, .int .i64 ro.c14, .slice (some ad) ne ce], .string ⟨nm.toArray⟩] W fun e w' => e = .returned (findEV es nm) ∧ Below W.heap.size W w') := fun W hW => HFIN.out nm W (below_two hbr hW)
              have HEN2 : Hid (∀ W : World, Below wo.heap.size wo W → Calls Tryz.prog 25 #[.agg #[.string ⟨cu.toArray⟩, .int .i64 yr, .int .i64 mo, .int .i64 pe, .slice Ac nc cc, .int .i64 ro.c0, .int .i64 ro.c1, .int .i64 ro.c2, .int .i64 ro.c3, .int .i64 ro.c4, .int .i64 ro.c5, .int .i64 ro.c6, .int .i64 ro.c7, .int .i64 ro.c8, .int .i64 ro.c9, .int .i64 ro.c10, .int .i64 ro.c11, .int .i64 ro.c12, .int .i64 ro.c13, .int .i64 ro.c14, .slice (some ad) ne ce], .agg #[.string ⟨nm.toArray⟩, .string ⟨xu.toArray⟩, .slice Xc xn xc, .slice Al nl cl, .bool jt]] W fun e w' => e = .returned (.bool (entR gp (SEnt.p ⟨nm, xu, Xc, xn, xc, xch, Al, nl, cl, ls, jt⟩))) ∧ Below W.heap.size W w') := fun W hW => HEX.out W (below_two hbr hW)
              generalize entR gp (SEnt.p ⟨nm, xu, Xc, xn, xc, xch, Al, nl, cl, ls, jt⟩) = ev at *
              have HS : Hid (EvS wo w.heap.size (.slice (some ad) ne ce) ad k (.string ⟨nm.toArray⟩) (.string ⟨xu.toArray⟩) (.slice Xc xn xc) (.slice Al nl cl) (.bool jt) wo) := ⟨Below.refl _ _, g20, c0, c1, c2, c3, c4⟩
              clear c0 c1 c2 c3 c4
              go_upto_region 6 with fail
              refine wp_region_held_drew (S := EvS wo w.heap.size (.slice (some ad) ne ce) ad k (.string ⟨nm.toArray⟩) (.string ⟨xu.toArray⟩) (.slice Xc xn xc) (.slice Al nl cl) (.bool jt)) (by kernel_rfl) HS.out.drew (fun hHeld => ?_)
              refine wpAnyH_take (i := 0) (v := ?vf0) rfl (by kernel_rfl) (by kernel_rfl) (by kernel_rfl) (fun _ _ _ h => h) (Or.inl ⟨by rfl, ?hyf0⟩) (by assumption) ?restf0
              case hyf0 => (intro w_ hSw; refine exec_grp _ _ (.tmp 1) ?_ w_ w.heap.size ?_ _ ?_ (HEO.out.below hSw.1 hlt0) <;> rfl)
              (try simp only [Act.put, List.setIfInBounds_toArray, List.set_cons_zero, List.set_cons_succ, List.getElem_toArray, List.getElem_cons_zero, List.getElem_cons_succ])
              refine wpAnyH_take (i := 1) (v := ?vf1) rfl (by kernel_rfl) (by kernel_rfl) (by kernel_rfl) (fun _ _ _ h => h) (Or.inl ⟨by rfl, ?hyf1⟩) (by assumption) ?restf1
              case hyf1 => (intro w_ hSw; (try dsimp only at hSw); obtain ⟨_, s20_, s0_, s1_, s2_, s3_, s4_⟩ := hSw; go_simp; (try with_reducible rfl))
              (try simp only [Act.put, List.setIfInBounds_toArray, List.set_cons_zero, List.set_cons_succ, List.getElem_toArray, List.getElem_cons_zero, List.getElem_cons_succ])
              refine wpAnyH_take (i := 2) (v := ?vf2) rfl (by kernel_rfl) (by kernel_rfl) (by kernel_rfl) (fun _ _ _ h => h) (Or.inl ⟨by rfl, ?hyf2⟩) (by assumption) ?restf2
              case hyf2 => (intro w_ hSw; (try dsimp only at hSw); obtain ⟨_, s20_, s0_, s1_, s2_, s3_, s4_⟩ := hSw; go_simp; (try with_reducible rfl))
              (try simp only [Act.put, List.setIfInBounds_toArray, List.set_cons_zero, List.set_cons_succ, List.getElem_toArray, List.getElem_cons_zero, List.getElem_cons_succ])
              refine wpAnyH_take (i := 3) (v := ?vf3) rfl (by kernel_rfl) (by kernel_rfl) (by kernel_rfl) (fun _ _ _ h => h) (Or.inl ⟨by rfl, ?hyf3⟩) (by assumption) ?restf3
              case hyf3 => (intro w_ hSw; (try dsimp only at hSw); obtain ⟨_, s20_, s0_, s1_, s2_, s3_, s4_⟩ := hSw; go_simp; (try with_reducible rfl))
              (try simp only [Act.put, List.setIfInBounds_toArray, List.set_cons_zero, List.set_cons_succ, List.getElem_toArray, List.getElem_cons_zero, List.getElem_cons_succ])
              refine wpAnyH_take (i := 4) (v := ?vf4) rfl (by kernel_rfl) (by kernel_rfl) (by kernel_rfl) (fun _ _ _ h => h) (Or.inl ⟨by rfl, ?hyf4⟩) (by assumption) ?restf4
              case hyf4 => (intro w_ hSw; (try dsimp only at hSw); obtain ⟨_, s20_, s0_, s1_, s2_, s3_, s4_⟩ := hSw; go_simp; (try with_reducible rfl))
              (try simp only [Act.put, List.setIfInBounds_toArray, List.set_cons_zero, List.set_cons_succ, List.getElem_toArray, List.getElem_cons_zero, List.getElem_cons_succ])
              refine wpAnyH_take (i := 5) (v := ?vf5) rfl (by kernel_rfl) (by kernel_rfl) (by kernel_rfl) (fun _ _ _ h => h) (Or.inl ⟨by rfl, ?hyf5⟩) (by assumption) ?restf5
              case hyf5 => (intro w_ hSw; (try dsimp only at hSw); obtain ⟨_, s20_, s0_, s1_, s2_, s3_, s4_⟩ := hSw; go_simp; (try with_reducible rfl))
              (try simp only [Act.put, List.setIfInBounds_toArray, List.set_cons_zero, List.set_cons_succ, List.getElem_toArray, List.getElem_cons_zero, List.getElem_cons_succ])
              refine wpAnyH_take (i := 6) (v := ?vf6) rfl (by kernel_rfl) (by kernel_rfl) (by kernel_rfl) (fun _ _ _ h => h) (Or.inl ⟨by rfl, ?hyf6⟩) (by assumption) ?restf6
              case hyf6 => (intro w_ hSw; (try dsimp only at hSw); obtain ⟨_, s20_, s0_, s1_, s2_, s3_, s4_⟩ := hSw; go_simp; (try with_reducible rfl))
              (try simp only [Act.put, List.setIfInBounds_toArray, List.set_cons_zero, List.set_cons_succ, List.getElem_toArray, List.getElem_cons_zero, List.getElem_cons_succ])
              refine wpAnyH_ready (rs := [7]) (by kernel_rfl) (by simp) ?_
              refine (AllReadyH.cons rfl (fun K hK => ?_) AllReadyH.nil)
              go_simp
              refine (HFI.out _ hHeld.1).mono ?_
              rintro e wa ⟨rfl, hba⟩
              rw [HFM.out]
              dsimp only
              refine hK.out _ _ ?hSf7 (fun hHeld7 => ?_)
              case hSf7 => exact hHeld.step hba had hlt0
              clear hK K hba
              (try simp only [Act.put, List.setIfInBounds_toArray, List.set_cons_zero, List.set_cons_succ, List.getElem_toArray, List.getElem_cons_zero, List.getElem_cons_succ])
              refine wpAnyH_take (i := 8) (v := ?vf8) rfl (by kernel_rfl) (by kernel_rfl) (by kernel_rfl) (fun _ _ _ h => h) (Or.inl ⟨by rfl, ?hyf8⟩) (by assumption) ?restf8
              case hyf8 => (intro w_ hSw; (try dsimp only at hSw); obtain ⟨_, s20_, s0_, s1_, s2_, s3_, s4_⟩ := hSw; go_simp; (try with_reducible rfl))
              (try simp only [Act.put, List.setIfInBounds_toArray, List.set_cons_zero, List.set_cons_succ, List.getElem_toArray, List.getElem_cons_zero, List.getElem_cons_succ])
              refine wpAnyH_take (i := 9) (v := ?vf9) rfl (by kernel_rfl) (by kernel_rfl) (by kernel_rfl) (fun _ _ _ h => h) (Or.inl ⟨by rfl, ?hyf9⟩) (by assumption) ?restf9
              case hyf9 => (intro w_ hSw; (try dsimp only at hSw); obtain ⟨_, s20_, s0_, s1_, s2_, s3_, s4_⟩ := hSw; go_simp; (try with_reducible rfl))
              (try simp only [Act.put, List.setIfInBounds_toArray, List.set_cons_zero, List.set_cons_succ, List.getElem_toArray, List.getElem_cons_zero, List.getElem_cons_succ])
              refine wpAnyH_take (i := 10) (v := ?vf10) rfl (by kernel_rfl) (by kernel_rfl) (by kernel_rfl) (fun _ _ _ h => h) (Or.inl ⟨by rfl, ?hyf10⟩) (by assumption) ?restf10
              case hyf10 => (intro w_ hSw; (try dsimp only at hSw); obtain ⟨_, s20_, s0_, s1_, s2_, s3_, s4_⟩ := hSw; go_simp; (try with_reducible rfl))
              (try simp only [Act.put, List.setIfInBounds_toArray, List.set_cons_zero, List.set_cons_succ, List.getElem_toArray, List.getElem_cons_zero, List.getElem_cons_succ])
              refine wpAnyH_take (i := 11) (v := ?vf11) rfl (by kernel_rfl) (by kernel_rfl) (by kernel_rfl) (fun _ _ _ h => h) (Or.inl ⟨by rfl, ?hyf11⟩) (by assumption) ?restf11
              case hyf11 => (intro w_ hSw; (try dsimp only at hSw); obtain ⟨_, s20_, s0_, s1_, s2_, s3_, s4_⟩ := hSw; go_simp; (try with_reducible rfl))
              (try simp only [Act.put, List.setIfInBounds_toArray, List.set_cons_zero, List.set_cons_succ, List.getElem_toArray, List.getElem_cons_zero, List.getElem_cons_succ])
              refine wpAnyH_take (i := 12) (v := ?vf12) rfl (by kernel_rfl) (by kernel_rfl) (by kernel_rfl) (fun _ _ _ h => h) (Or.inl ⟨by rfl, ?hyf12⟩) (by assumption) ?restf12
              case hyf12 => (intro w_ hSw; (try dsimp only at hSw); obtain ⟨_, s20_, s0_, s1_, s2_, s3_, s4_⟩ := hSw; go_simp; (try with_reducible rfl))
              (try simp only [Act.put, List.setIfInBounds_toArray, List.set_cons_zero, List.set_cons_succ, List.getElem_toArray, List.getElem_cons_zero, List.getElem_cons_succ])
              refine wpAnyH_done (by kernel_rfl) ?_ _
              have HS7 := Lib.hid hHeld7
              clear hHeld hHeld7
              by_cases hme : m = k
              case neg =>
                have n1 : ((m : Int) != (k : Int)) = true := by rw [bne_iff_ne]; omega
                have F : Hid (grpR gp = false) := HNO.out (by rw [HAT.out, HSEEN.out, decide_eq_false hme]; rfl)
                clear hme
                go_upto_region 7 with fail
                refine wp_region_held_drew (S := EvS wo w.heap.size (.slice (some ad) ne ce) ad k (.string ⟨nm.toArray⟩) (.string ⟨xu.toArray⟩) (.slice Xc xn xc) (.slice Al nl cl) (.bool jt)) (by kernel_rfl) HS7.out.drew (fun hHeld => ?_)
                refine wpAnyH_take (i := 0) (v := ?vz0) rfl (by kernel_rfl) (by kernel_rfl) (by kernel_rfl) (fun _ _ _ h => h) (Or.inl ⟨by rfl, ?hyz0⟩) (by assumption) ?restz0
                case hyz0 => (intro w_ hSw; (try dsimp only at hSw); obtain ⟨_, s20_, s0_, s1_, s2_, s3_, s4_⟩ := hSw; go_simp; (try with_reducible rfl))
                (try simp only [Act.put, List.setIfInBounds_toArray, List.set_cons_zero, List.set_cons_succ, List.getElem_toArray, List.getElem_cons_zero, List.getElem_cons_succ])
                refine wpAnyH_take (i := 1) (v := ?vz1) rfl (by kernel_rfl) (by kernel_rfl) (by kernel_rfl) (fun _ _ _ h => h) (Or.inl ⟨by rfl, ?hyz1⟩) (by assumption) ?restz1
                case hyz1 => (intro w_ hSw; (try dsimp only at hSw); obtain ⟨_, s20_, s0_, s1_, s2_, s3_, s4_⟩ := hSw; go_simp; (try with_reducible rfl))
                (try simp only [Act.put, List.setIfInBounds_toArray, List.set_cons_zero, List.set_cons_succ, List.getElem_toArray, List.getElem_cons_zero, List.getElem_cons_succ])
                refine wpAnyH_take (i := 2) (v := ?vz2) rfl (by kernel_rfl) (by kernel_rfl) (by kernel_rfl) (fun _ _ _ h => h) (Or.inl ⟨by rfl, ?hyz2⟩) (by assumption) ?restz2
                case hyz2 => (intro w_ hSw; (try dsimp only at hSw); obtain ⟨_, s20_, s0_, s1_, s2_, s3_, s4_⟩ := hSw; go_simp; (try with_reducible rfl))
                (try simp only [Act.put, List.setIfInBounds_toArray, List.set_cons_zero, List.set_cons_succ, List.getElem_toArray, List.getElem_cons_zero, List.getElem_cons_succ])
                refine wpAnyH_take (i := 3) (v := ?vz3) rfl (by kernel_rfl) (by kernel_rfl) (by kernel_rfl) (fun _ _ _ h => h) (Or.inl ⟨by rfl, ?hyz3⟩) (by assumption) ?restz3
                case hyz3 => (intro w_ hSw; (try dsimp only at hSw); obtain ⟨_, s20_, s0_, s1_, s2_, s3_, s4_⟩ := hSw; go_simp; (try with_reducible rfl))
                (try simp only [Act.put, List.setIfInBounds_toArray, List.set_cons_zero, List.set_cons_succ, List.getElem_toArray, List.getElem_cons_zero, List.getElem_cons_succ])
                refine wpAnyH_take (i := 4) (v := undef) rfl (by kernel_rfl) (by kernel_rfl) (by kernel_rfl) (fun _ _ _ h => h) (Or.inr ⟨by rfl, rfl⟩) (by assumption) ?restz4
                (try simp only [Act.put, List.setIfInBounds_toArray, List.set_cons_zero, List.set_cons_succ, List.getElem_toArray, List.getElem_cons_zero, List.getElem_cons_succ])
                refine wpAnyH_take (i := 5) (v := undef) rfl (by kernel_rfl) (by kernel_rfl) (by kernel_rfl) (fun _ _ _ h => h) (Or.inr ⟨by rfl, rfl⟩) (by assumption) ?restz5
                (try simp only [Act.put, List.setIfInBounds_toArray, List.set_cons_zero, List.set_cons_succ, List.getElem_toArray, List.getElem_cons_zero, List.getElem_cons_succ])
                refine wpAnyH_take (i := 6) (v := undef) rfl (by kernel_rfl) (by kernel_rfl) (by kernel_rfl) (fun _ _ _ h => h) (Or.inr ⟨by rfl, rfl⟩) (by assumption) ?restz6
                (try simp only [Act.put, List.setIfInBounds_toArray, List.set_cons_zero, List.set_cons_succ, List.getElem_toArray, List.getElem_cons_zero, List.getElem_cons_succ])
                refine wpAnyH_take (i := 7) (v := undef) rfl (by kernel_rfl) (by kernel_rfl) (by kernel_rfl) (fun _ _ _ h => h) (Or.inr ⟨by rfl, rfl⟩) (by assumption) ?restz7
                (try simp only [Act.put, List.setIfInBounds_toArray, List.set_cons_zero, List.set_cons_succ, List.getElem_toArray, List.getElem_cons_zero, List.getElem_cons_succ])
                refine wpAnyH_take (i := 8) (v := undef) rfl (by kernel_rfl) (by kernel_rfl) (by kernel_rfl) (fun _ _ _ h => h) (Or.inr ⟨by rfl, rfl⟩) (by assumption) ?restz8
                (try simp only [Act.put, List.setIfInBounds_toArray, List.set_cons_zero, List.set_cons_succ, List.getElem_toArray, List.getElem_cons_zero, List.getElem_cons_succ])
                refine wpAnyH_take (i := 9) (v := undef) rfl (by kernel_rfl) (by kernel_rfl) (by kernel_rfl) (fun _ _ _ h => h) (Or.inr ⟨by rfl, rfl⟩) (by assumption) ?restz9
                (try simp only [Act.put, List.setIfInBounds_toArray, List.set_cons_zero, List.set_cons_succ, List.getElem_toArray, List.getElem_cons_zero, List.getElem_cons_succ])
                refine wpAnyH_take (i := 10) (v := undef) rfl (by kernel_rfl) (by kernel_rfl) (by kernel_rfl) (fun _ _ _ h => h) (Or.inr ⟨by rfl, rfl⟩) (by assumption) ?restz10
                (try simp only [Act.put, List.setIfInBounds_toArray, List.set_cons_zero, List.set_cons_succ, List.getElem_toArray, List.getElem_cons_zero, List.getElem_cons_succ])
                refine wpAnyH_take (i := 11) (v := undef) rfl (by kernel_rfl) (by kernel_rfl) (by kernel_rfl) (fun _ _ _ h => h) (Or.inr ⟨by rfl, rfl⟩) (by assumption) ?restz11
                (try simp only [Act.put, List.setIfInBounds_toArray, List.set_cons_zero, List.set_cons_succ, List.getElem_toArray, List.getElem_cons_zero, List.getElem_cons_succ])
                refine wpAnyH_take (i := 12) (v := ?vz12) rfl (by kernel_rfl) (by kernel_rfl) (by kernel_rfl) (fun _ _ _ h => h) (Or.inl ⟨by rfl, ?hyz12⟩) (by assumption) ?restz12
                case hyz12 => (intro w_ hSw; (try dsimp only at hSw); obtain ⟨_, s20_, s0_, s1_, s2_, s3_, s4_⟩ := hSw; go_simp; (try with_reducible rfl))
                (try simp only [Act.put, List.setIfInBounds_toArray, List.set_cons_zero, List.set_cons_succ, List.getElem_toArray, List.getElem_cons_zero, List.getElem_cons_succ])
                refine wpAnyH_done (by kernel_rfl) ?_ _
                have hbf := below_two hbr hHeld.1
                clear hHeld
                go_wp2_with fail
                go_ret
                exact ⟨ret_bool (HG.out.trans F.out).symm, hbf⟩
              case pos =>
                subst hme
                have n1 : ((m : Int) != (m : Int)) = false := by simp
                have HAT2 : Hid (entAtR gp m = ev) := by show _ = _; rw [HAT.out, HSEEN.out, decide_eq_true rfl]; rfl
                clear HAT
                go_upto_region 7 with fail
                refine wp_region_held_drew (S := EvS wo w.heap.size (.slice (some ad) ne ce) ad m (.string ⟨nm.toArray⟩) (.string ⟨xu.toArray⟩) (.slice Xc xn xc) (.slice Al nl cl) (.bool jt)) (by kernel_rfl) HS7.out.drew (fun hHeld => ?_)
                refine wpAnyH_take (i := 0) (v := ?vy0) rfl (by kernel_rfl) (by kernel_rfl) (by kernel_rfl) (fun _ _ _ h => h) (Or.inl ⟨by rfl, ?hyy0⟩) (by assumption) ?resty0
                case hyy0 => (intro w_ hSw; (try dsimp only at hSw); obtain ⟨_, s20_, s0_, s1_, s2_, s3_, s4_⟩ := hSw; go_simp; (try with_reducible rfl))
                (try simp only [Act.put, List.setIfInBounds_toArray, List.set_cons_zero, List.set_cons_succ, List.getElem_toArray, List.getElem_cons_zero, List.getElem_cons_succ])
                refine wpAnyH_take (i := 1) (v := ?vy1) rfl (by kernel_rfl) (by kernel_rfl) (by kernel_rfl) (fun _ _ _ h => h) (Or.inl ⟨by rfl, ?hyy1⟩) (by assumption) ?resty1
                case hyy1 => (intro w_ hSw; (try dsimp only at hSw); obtain ⟨_, s20_, s0_, s1_, s2_, s3_, s4_⟩ := hSw; go_simp; (try with_reducible rfl))
                (try simp only [Act.put, List.setIfInBounds_toArray, List.set_cons_zero, List.set_cons_succ, List.getElem_toArray, List.getElem_cons_zero, List.getElem_cons_succ])
                refine wpAnyH_take (i := 2) (v := ?vy2) rfl (by kernel_rfl) (by kernel_rfl) (by kernel_rfl) (fun _ _ _ h => h) (Or.inl ⟨by rfl, ?hyy2⟩) (by assumption) ?resty2
                case hyy2 => (intro w_ hSw; (try dsimp only at hSw); obtain ⟨_, s20_, s0_, s1_, s2_, s3_, s4_⟩ := hSw; go_simp; (try with_reducible rfl))
                (try simp only [Act.put, List.setIfInBounds_toArray, List.set_cons_zero, List.set_cons_succ, List.getElem_toArray, List.getElem_cons_zero, List.getElem_cons_succ])
                refine wpAnyH_take (i := 3) (v := ?vy3) rfl (by kernel_rfl) (by kernel_rfl) (by kernel_rfl) (fun _ _ _ h => h) (Or.inl ⟨by rfl, ?hyy3⟩) (by assumption) ?resty3
                case hyy3 => (intro w_ hSw; (try dsimp only at hSw); obtain ⟨_, s20_, s0_, s1_, s2_, s3_, s4_⟩ := hSw; go_simp; (try with_reducible rfl))
                (try simp only [Act.put, List.setIfInBounds_toArray, List.set_cons_zero, List.set_cons_succ, List.getElem_toArray, List.getElem_cons_zero, List.getElem_cons_succ])
                refine wpAnyH_take (i := 4) (v := ?vy4) rfl (by kernel_rfl) (by kernel_rfl) (by kernel_rfl) (fun _ _ _ h => h) (Or.inl ⟨by rfl, ?hyy4⟩) (by assumption) ?resty4
                case hyy4 => (intro w_ hSw; refine exec_grp _ _ (.tmp 1) ?_ w_ w.heap.size ?_ _ ?_ (HEO.out.below hSw.1 hlt0) <;> rfl)
                (try simp only [Act.put, List.setIfInBounds_toArray, List.set_cons_zero, List.set_cons_succ, List.getElem_toArray, List.getElem_cons_zero, List.getElem_cons_succ])
                refine wpAnyH_take (i := 5) (v := ?vy5) rfl (by kernel_rfl) (by kernel_rfl) (by kernel_rfl) (fun _ _ _ h => h) (Or.inl ⟨by rfl, ?hyy5⟩) (by assumption) ?resty5
                case hyy5 => (intro w_ hSw; (try dsimp only at hSw); obtain ⟨_, s20_, s0_, s1_, s2_, s3_, s4_⟩ := hSw; go_simp; (try with_reducible rfl))
                (try simp only [Act.put, List.setIfInBounds_toArray, List.set_cons_zero, List.set_cons_succ, List.getElem_toArray, List.getElem_cons_zero, List.getElem_cons_succ])
                refine wpAnyH_take (i := 6) (v := ?vy6) rfl (by kernel_rfl) (by kernel_rfl) (by kernel_rfl) (fun _ _ _ h => h) (Or.inl ⟨by rfl, ?hyy6⟩) (by assumption) ?resty6
                case hyy6 => (intro w_ hSw; (try dsimp only at hSw); obtain ⟨_, s20_, s0_, s1_, s2_, s3_, s4_⟩ := hSw; go_simp; (try with_reducible rfl))
                (try simp only [Act.put, List.setIfInBounds_toArray, List.set_cons_zero, List.set_cons_succ, List.getElem_toArray, List.getElem_cons_zero, List.getElem_cons_succ])
                refine wpAnyH_take (i := 7) (v := ?vy7) rfl (by kernel_rfl) (by kernel_rfl) (by kernel_rfl) (fun _ _ _ h => h) (Or.inl ⟨by rfl, ?hyy7⟩) (by assumption) ?resty7
                case hyy7 => (intro w_ hSw; (try dsimp only at hSw); obtain ⟨_, s20_, s0_, s1_, s2_, s3_, s4_⟩ := hSw; go_simp; (try with_reducible rfl))
                (try simp only [Act.put, List.setIfInBounds_toArray, List.set_cons_zero, List.set_cons_succ, List.getElem_toArray, List.getElem_cons_zero, List.getElem_cons_succ])
                refine wpAnyH_take (i := 8) (v := ?vy8) rfl (by kernel_rfl) (by kernel_rfl) (by kernel_rfl) (fun _ _ _ h => h) (Or.inl ⟨by rfl, ?hyy8⟩) (by assumption) ?resty8
                case hyy8 => (intro w_ hSw; (try dsimp only at hSw); obtain ⟨_, s20_, s0_, s1_, s2_, s3_, s4_⟩ := hSw; go_simp; (try with_reducible rfl))
                (try simp only [Act.put, List.setIfInBounds_toArray, List.set_cons_zero, List.set_cons_succ, List.getElem_toArray, List.getElem_cons_zero, List.getElem_cons_succ])
                refine wpAnyH_take (i := 9) (v := ?vy9) rfl (by kernel_rfl) (by kernel_rfl) (by kernel_rfl) (fun _ _ _ h => h) (Or.inl ⟨by rfl, ?hyy9⟩) (by assumption) ?resty9
                case hyy9 => (intro w_ hSw; (try dsimp only at hSw); obtain ⟨_, s20_, s0_, s1_, s2_, s3_, s4_⟩ := hSw; go_simp; (try with_reducible rfl))
                (try simp only [Act.put, List.setIfInBounds_toArray, List.set_cons_zero, List.set_cons_succ, List.getElem_toArray, List.getElem_cons_zero, List.getElem_cons_succ])
                refine wpAnyH_ready (rs := [10]) (by kernel_rfl) (by simp) ?_
                refine (AllReadyH.cons rfl (fun K hK => ?_) AllReadyH.nil)
                go_simp
                refine (HEN2.out _ hHeld.1).mono ?_
                rintro e wb ⟨rfl, hba⟩
                dsimp only
                refine hK.out _ _ ?hSy10 (fun hHeld10 => ?_)
                case hSy10 => exact hHeld.step hba had hlt0
                clear hK K hba
                (try simp only [Act.put, List.setIfInBounds_toArray, List.set_cons_zero, List.set_cons_succ, List.getElem_toArray, List.getElem_cons_zero, List.getElem_cons_succ])
                refine wpAnyH_take (i := 11) (v := ?vy11) rfl (by kernel_rfl) (by kernel_rfl) (by kernel_rfl) (fun _ _ _ h => h) (Or.inl ⟨by rfl, ?hyy11⟩) (by assumption) ?resty11
                case hyy11 => (intro w_ hSw; (try dsimp only at hSw); obtain ⟨_, s20_, s0_, s1_, s2_, s3_, s4_⟩ := hSw; go_simp; (try with_reducible rfl))
                (try simp only [Act.put, List.setIfInBounds_toArray, List.set_cons_zero, List.set_cons_succ, List.getElem_toArray, List.getElem_cons_zero, List.getElem_cons_succ])
                refine wpAnyH_take (i := 12) (v := ?vy12) rfl (by kernel_rfl) (by kernel_rfl) (by kernel_rfl) (fun _ _ _ h => h) (Or.inl ⟨by rfl, ?hyy12⟩) (by assumption) ?resty12
                case hyy12 => (intro w_ hSw; (try dsimp only at hSw); obtain ⟨_, s20_, s0_, s1_, s2_, s3_, s4_⟩ := hSw; go_simp; (try with_reducible rfl))
                (try simp only [Act.put, List.setIfInBounds_toArray, List.set_cons_zero, List.set_cons_succ, List.getElem_toArray, List.getElem_cons_zero, List.getElem_cons_succ])
                refine wpAnyH_done (by kernel_rfl) ?_ _
                have HBF := Lib.hid (below_two hbr hHeld10.1)
                have HEF := Lib.hid (HEO.out.below hHeld10.1 hlt0)
                clear hHeld hHeld10
                cases ev
                case false =>
                  have F : Hid (grpR gp = false) := HNO.out HAT2.out
                  go_wp2_with fail
                  go_ret
                  exact ⟨ret_bool (HG.out.trans F.out).symm, HBF.out⟩
                case true =>
                  have F := Lib.hid (allR_step HD.out HAT2.out)
                  go_wp2_with fail
                  exact ⟨⟨m + 1, by go_num, by omega, F.out, HBF.out, HEF.out⟩, by simp [intOf]; omega⟩
end Go.Proofs.YtcmmppkmkejniaaGreatDoor
