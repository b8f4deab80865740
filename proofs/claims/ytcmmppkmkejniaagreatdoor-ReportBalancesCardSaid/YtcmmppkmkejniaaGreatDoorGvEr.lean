/-
  The reference's entity: an entity is valid in a group.
-/
import Derived.Test.YtcmmppkmkejniaaGreatDoorGvBk
namespace Go.Proofs.YtcmmppkmkejniaaGreatDoor
open Go.RowKit
set_option linter.unusedVariables false
theorem entR_1 {g : PGrp} {e : PEnt} (h : nmOk e.name = false) : entR g e = false := by unfold entR; rw [h]; rfl
theorem entR_2 {g : PGrp} {e : PEnt} (h : curOk e.cur = false) : entR g e = false := by unfold entR; rw [h]; simp
theorem entR_3 {g : PGrp} {e : PEnt} (h : mapR e.chart g.chart e.links = false) : entR g e = false := by unfold entR; rw [h]; simp
theorem entR_4 {g : PGrp} {e : PEnt} (h1 : nmOk e.name = true) (h2 : curOk e.cur = true) (h3 : mapR e.chart g.chart e.links = true) : entR g e = !e.links.any fun x => closedR (rolesL g.roles) x.to_ := by unfold entR; rw [h1, h2, h3]; simp
set_option maxRecDepth 100000 in
set_option maxHeartbeats 8000000 in
theorem rent_any (g : SGrp) (x : SEnt) (B : Nat) (w : World) (hg : GrpIn w B g) (hx : EntIn w B x) (hB : B ≤ w.heap.size) (hn : g.nc ≤ 1000) (hxn : x.nc ≤ 1000) :
    Calls Tryz.prog 25 #[grpV g, entV x] w fun e w' => e = .returned (.bool (entR g.p x.p)) ∧ Below w.heap.size w w' := by
  obtain ⟨cu, yr, mo, pe, Ac, nc, cc, ch, ro, Ae, ne, ce, es⟩ := g
  obtain ⟨nm, xu, Xc, xn, xc, xch, Al, nl, cl, ls, jt⟩ := x
  have HMV : Hid (∀ W : World, Below w.heap.size w W → Calls Tryz.prog 43 #[.agg #[.string ⟨nm.toArray⟩, .string ⟨xu.toArray⟩, .slice Xc xn xc, .slice Al nl cl, .bool jt], .slice Ac nc cc] W fun e w' => e = .returned (.bool (mapR xch ch ls)) ∧ Below W.heap.size W w') := fun W hW =>
    rmapv_any ⟨nm, xu, Xc, xn, xc, xch, Al, nl, cl, ls, jt⟩ Ac nc cc ch B W (hx.low hB (Nat.le_refl _) hW) (hg.ch.low hB (Nat.le_refl _) hW) (by have := hW.size; omega) hxn hn
  unfold grpV entV
  have HLI := Lib.hid hx.li
  have HNM := Lib.hid hx.nm
  have HCU := Lib.hid hx.cu
  clear hg hx
  simp only [] at HLI HNM HCU hn hxn ⊢
  have HLL := Lib.hid HLI.out.len
  have hle := HLI.out.le
  obtain ⟨gp, hgp⟩ : ∃ gp, SGrp.p ⟨cu, yr, mo, pe, Ac, nc, cc, ch, ro, Ae, ne, ce, es⟩ = gp := ⟨_, rfl⟩
  have HGC : Hid (gp.chart = ch) := by show _ = _; rw [← hgp]; rfl
  have HGR : Hid (gp.roles = ro) := by show _ = _; rw [← hgp]; rfl
  obtain ⟨xp, hxp⟩ : ∃ xp, SEnt.p ⟨nm, xu, Xc, xn, xc, xch, Al, nl, cl, ls, jt⟩ = xp := ⟨_, rfl⟩
  have HXN : Hid (xp.name = nm) := by show _ = _; rw [← hxp]; rfl
  have HXU : Hid (xp.cur = xu) := by show _ = _; rw [← hxp]; rfl
  have HXC : Hid (xp.chart = xch) := by show _ = _; rw [← hxp]; rfl
  have HXL : Hid (xp.links = ls) := by show _ = _; rw [← hxp]; rfl
  rw [hgp, hxp]
  clear hgp hxp
  generalize hgo : entR gp xp = ok
  have HG := Lib.hid hgo.symm
  clear hgo
  have HB0 := Lib.hid (((Below.refl w.heap.size w).alloc (Nat.le_refl _) (.cells #[.string ⟨cu.toArray⟩, .int .i64 yr, .int .i64 mo, .int .i64 pe, .slice Ac nc cc, .int .i64 ro.c0, .int .i64 ro.c1, .int .i64 ro.c2, .int .i64 ro.c3, .int .i64 ro.c4, .int .i64 ro.c5, .int .i64 ro.c6, .int .i64 ro.c7, .int .i64 ro.c8, .int .i64 ro.c9, .int .i64 ro.c10, .int .i64 ro.c11, .int .i64 ro.c12, .int .i64 ro.c13, .int .i64 ro.c14, .slice Ae ne ce] 29)).alloc (by simp) (.cells #[.string ⟨nm.toArray⟩, .string ⟨xu.toArray⟩, .slice Xc xn xc, .slice Al nl cl, .bool jt] 61))
  have HE := Lib.hid ((Blk.new w 29 #[.string ⟨cu.toArray⟩, .int .i64 yr, .int .i64 mo, .int .i64 pe, .slice Ac nc cc, .int .i64 ro.c0, .int .i64 ro.c1, .int .i64 ro.c2, .int .i64 ro.c3, .int .i64 ro.c4, .int .i64 ro.c5, .int .i64 ro.c6, .int .i64 ro.c7, .int .i64 ro.c8, .int .i64 ro.c9, .int .i64 ro.c10, .int .i64 ro.c11, .int .i64 ro.c12, .int .i64 ro.c13, .int .i64 ro.c14, .slice Ae ne ce]).alloc (.cells #[.string ⟨nm.toArray⟩, .string ⟨xu.toArray⟩, .slice Xc xn xc, .slice Al nl cl, .bool jt] 61))
  have HX : Hid (Blk ((w.alloc (.cells #[.string ⟨cu.toArray⟩, .int .i64 yr, .int .i64 mo, .int .i64 pe, .slice Ac nc cc, .int .i64 ro.c0, .int .i64 ro.c1, .int .i64 ro.c2, .int .i64 ro.c3, .int .i64 ro.c4, .int .i64 ro.c5, .int .i64 ro.c6, .int .i64 ro.c7, .int .i64 ro.c8, .int .i64 ro.c9, .int .i64 ro.c10, .int .i64 ro.c11, .int .i64 ro.c12, .int .i64 ro.c13, .int .i64 ro.c14, .slice Ae ne ce] 29)).alloc (.cells #[.string ⟨nm.toArray⟩, .string ⟨xu.toArray⟩, .slice Xc xn xc, .slice Al nl cl, .bool jt] 61)) (w.heap.size + 1) 61 #[.string ⟨nm.toArray⟩, .string ⟨xu.toArray⟩, .slice Xc xn xc, .slice Al nl cl, .bool jt]) := by
    have := Blk.new (w.alloc (.cells #[.string ⟨cu.toArray⟩, .int .i64 yr, .int .i64 mo, .int .i64 pe, .slice Ac nc cc, .int .i64 ro.c0, .int .i64 ro.c1, .int .i64 ro.c2, .int .i64 ro.c3, .int .i64 ro.c4, .int .i64 ro.c5, .int .i64 ro.c6, .int .i64 ro.c7, .int .i64 ro.c8, .int .i64 ro.c9, .int .i64 ro.c10, .int .i64 ro.c11, .int .i64 ro.c12, .int .i64 ro.c13, .int .i64 ro.c14, .slice Ae ne ce] 29)) 61 #[.string ⟨nm.toArray⟩, .string ⟨xu.toArray⟩, .slice Xc xn xc, .slice Al nl cl, .bool jt]
    simp only [World.size_alloc] at this
    exact this
  have hs0 : ((w.alloc (.cells #[.string ⟨cu.toArray⟩, .int .i64 yr, .int .i64 mo, .int .i64 pe, .slice Ac nc cc, .int .i64 ro.c0, .int .i64 ro.c1, .int .i64 ro.c2, .int .i64 ro.c3, .int .i64 ro.c4, .int .i64 ro.c5, .int .i64 ro.c6, .int .i64 ro.c7, .int .i64 ro.c8, .int .i64 ro.c9, .int .i64 ro.c10, .int .i64 ro.c11, .int .i64 ro.c12, .int .i64 ro.c13, .int .i64 ro.c14, .slice Ae ne ce] 29)).alloc (.cells #[.string ⟨nm.toArray⟩, .string ⟨xu.toArray⟩, .slice Xc xn xc, .slice Al nl cl, .bool jt] 61)).heap.size = w.heap.size + 1 + 1 := by simp
  go_enter Tryz.func25, Tryz.ntmps25
  go_wp2_with fail
  generalize hw0 : (w.alloc _).alloc _ = w0 at *
  clear hw0
  obtain ⟨x0, x1, x2, x3, x4⟩ := ent_blk HX.out
  refine (rnm_any nm _ HNM.out).mono ?_
  rintro e wx ⟨rfl, rfl⟩
  cases v1 : nmOk nm
  case false =>
    have F : Hid (entR gp xp = false) := entR_1 (by rw [HXN.out]; exact v1)
    clear v1
    go_wp2_with fail
    go_ret
    exact ⟨ret_bool (HG.out.trans F.out).symm, HB0.out⟩
  case true =>
    have V1 := Lib.hid v1
    clear v1
    go_wp2_with fail
    refine (rcur_any xu _ HCU.out).mono ?_
    rintro e wx ⟨rfl, rfl⟩
    cases v2 : curOk xu
    case false =>
      have F : Hid (entR gp xp = false) := entR_2 (by rw [HXU.out]; exact v2)
      clear v2
      go_wp2_with fail
      go_ret
      exact ⟨ret_bool (HG.out.trans F.out).symm, HB0.out⟩
    case true =>
      have V2 := Lib.hid v2
      clear v2
      have g4 := HE.out.cell 4
      simp only [List.getElem?_toArray, List.getElem?_cons_succ, List.getElem?_cons_zero] at g4
      go_wp2_with fail
      refine (HMV.out _ HB0.out).mono ?_
      rintro e w1 ⟨rfl, hb1⟩
      have HB1 := Lib.hid (below_two HB0.out hb1)
      have HE1 := Lib.hid (HE.out.below hb1 (by omega))
      have HX1 := Lib.hid (HX.out.below hb1 (by omega))
      have hs1 : w.heap.size + 1 < w1.heap.size := by have := hb1.size; omega
      clear hb1 g4 x0 x1 x2 x3 x4
      cases v3 : mapR xch ch ls
      case false =>
        have F : Hid (entR gp xp = false) := entR_3 (by rw [HXC.out, HGC.out, HXL.out]; exact v3)
        clear v3
        go_wp2_with fail
        go_ret
        exact ⟨ret_bool (HG.out.trans F.out).symm, HB1.out⟩
      case true =>
        have HEQ : Hid (entR gp xp = !ls.any fun x => closedR (rolesL ro) x.to_) := by
          have := entR_4 (g := gp) (e := xp) (by rw [HXN.out]; exact V1.out) (by rw [HXU.out]; exact V2.out) (by rw [HXC.out, HGC.out, HXL.out]; exact v3)
          rw [HXL.out, HGR.out] at this
          exact this
        clear v3
        obtain ⟨g0, g1, g2, g3, g4, g5, g6, g7, g8, g9, g10, g11, g12, g13, g14, g15, g16, g17, g18, g19, g20⟩ := grp_blk HE1.out
        have H4 : Hid (∀ W : World, Calls Tryz.prog 40 #[.agg #[.int .i64 ro.c0, .int .i64 ro.c1, .int .i64 ro.c2, .int .i64 ro.c3, .int .i64 ro.c4, .int .i64 ro.c5, .int .i64 ro.c6, .int .i64 ro.c7, .int .i64 ro.c8, .int .i64 ro.c9, .int .i64 ro.c10, .int .i64 ro.c11, .int .i64 ro.c12, .int .i64 ro.c13, .int .i64 ro.c14]] W fun e w' => ∃ ad : Addr, e = .returned (.slice (some ad) 15 15) ∧ Reads w' w'.heap.size 5 (some ad) 15 (rolesC (rolesL ro)) ∧ W.heap.size ≤ ad.block ∧ Below W.heap.size W w') := fun W => rroles_any ro W
        go_wp2_with fail
        refine (H4.out _).mono ?_
        rintro e w4 ⟨ad, rfl, hrd, had, hb4⟩
        have HB4 := Lib.hid (below_two HB1.out hb4)
        have HX4 := Lib.hid (HX1.out.below hb4 (by omega))
        have HLT4 := Lib.hid (LitAt.of hrd (by omega))
        clear hrd had hb4 H4 g0 g1 g2 g3 g4 g5 g6 g7 g8 g9 g10 g11 g12 g13 g14 g15 g16 g17 g18 g19 g20
        have HRL : Hid ((rolesL ro).length = 15) := rolesL_len ro
        have HRCL : Hid ((rolesC (rolesL ro)).length = 15 * 5) := rolesC_len ro
        generalize rolesL ro = rs at *
        have HNO : Hid ((ls.any fun x => closedR rs x.to_) = true → entR gp xp = false) := fun h => by rw [HEQ.out, h]; rfl
        have HYES : Hid ((ls.any fun x => closedR rs x.to_) = false → entR gp xp = true) := fun h => by rw [HEQ.out, h]; rfl
        clear HEQ
        go_wp2_with fail
        go_loopw [6] (fun i wr => ∃ k : Nat, i = .int .i64 k ∧ k ≤ nl ∧ ((ls.take k).any fun x => closedR rs x.to_) = false ∧ Below w.heap.size w wr ∧ Blk wr (w.heap.size + 1) 61 #[.string ⟨nm.toArray⟩, .string ⟨xu.toArray⟩, .slice Xc xn xc, .slice Al nl cl, .bool jt] ∧ LitAt wr ad (rolesC rs)) (fun i _ => nl - (intOf i).toNat)
        case atStart => exact ⟨0, rfl, by omega, rfl, HB4.out, HX4.out, HLT4.out⟩
        case round =>
          obtain ⟨k, rfl, hk, hd, hbr, hbl, hlit⟩ := hrel
          obtain ⟨wo, rfl⟩ : ∃ wo : World, wo = wr := ⟨_, rfl⟩
          have HD := Lib.hid hd
          have HXO := Lib.hid hbl
          have HLT := Lib.hid hlit
          have hlt0 := hbl.lt
          obtain ⟨x0, x1, x2, x3, x4⟩ := ent_blk hbl
          clear hd hbl hlit
          by_cases hlt : k < nl
          case neg =>
            have k3 : decide ((k : Int) < (nl : Int)) = false := by rw [decide_eq_false_iff_not]; omega
            have F : Hid (entR gp xp = true) := HYES.out (by
              have := HD.out
              rw [List.take_of_length_le (by rw [HLL.out]; omega)] at this
              exact this)
            go_wp2_with fail
            go_ret
            exact ⟨ret_bool (HG.out.trans F.out).symm, hbr⟩
          case pos =>
            have k3 : decide ((k : Int) < (nl : Int)) = true := by rw [decide_eq_true_eq]; omega
            have b15 : (k : Int) < (nl : Int) := by omega
            have hkl : k < ls.length := by rw [HLL.out]; exact hlt
            have HY : Hid (closedR rs (ls.getD k default).to_ = true → entR gp xp = false) := fun h => HNO.out (anyX_yes (p := fun x => closedR rs x.to_) hkl h)
            have HN : Hid (closedR rs (ls.getD k default).to_ = false → ((ls.take (k + 1)).any fun x => closedR rs x.to_) = false) := fun h => anyX_step (p := fun x => closedR rs x.to_) hkl HD.out h
            have HLKD : Hid (∀ (W : World), Below w.heap.size w W → ∃ ad', Al = some ad' ∧ W.cell? ⟨(ad'.add (k * 3)).block, (ad'.add (k * 3)).off + 1, none⟩ = some (.int .i64 (ls.getD k default).to_)) := fun W hW => by
              obtain ⟨ad', e, _, _, d1, _⟩ := (HLI.out.rd.lowg hB (Nat.le_refl _) hW).link_at hlt
              exact ⟨ad', e, d1⟩
            clear hkl
            generalize (ls.getD k default).to_ = tc at *
            obtain ⟨al, eal, _⟩ := HLKD.out wo hbr
            subst eal
            go_wp2_with fail
            clear x0 x1 x2 x3 x4
            go_loopw [7] (fun i wr => ∃ j : Nat, i = .int .i64 j ∧ j ≤ 15 ∧ ((rs.take j).any fun r => (tc == r.code) && !r.mapped) = false ∧ Below wo.heap.size wo wr) (fun i _ => 15 - (intOf i).toNat)
            case atStart => exact ⟨0, rfl, by omega, rfl, Below.refl _ _⟩
            case round =>
              obtain ⟨j, rfl, hj, hja, hbj⟩ := hrel
              obtain ⟨wj, rfl⟩ : ∃ wj : World, wj = wr := ⟨_, rfl⟩
              have HJA := Lib.hid hja
              have HBJ := Lib.hid (below_two hbr hbj)
              have HXJ := Lib.hid (HXO.out.below hbj hlt0)
              have HLJ := Lib.hid (HLT.out.below hbj)
              clear hja
              by_cases hjk : j < 15
              case pos =>
                have k5 : decide ((j : Int) < 15) = true := by rw [decide_eq_true_eq]; omega
                have j15 : (j : Int) < 15 := by omega
                obtain ⟨x0, x1, x2, x3, x4⟩ := ent_blk HXJ.out
                obtain ⟨al', eal, l1⟩ := HLKD.out wj HBJ.out
                injection eal with eal
                subst eal
                obtain ⟨ad3, ead3, hbk4, d0, d1, d2, d3, d4⟩ := (HLJ.out.reads HRCL.out).role_at (k := j) hjk
                injection ead3 with ead3
                subst ead3
                clear d0 d2 d3
                have hjl : j < rs.length := by rw [HRL.out]; exact hjk
                have HJY : Hid (((tc == (rs.getD j default).code) && !(rs.getD j default).mapped) = true → closedR rs tc = true) := fun h => anyX_yes (p := fun r : SRole => (tc == r.code) && !r.mapped) hjl h
                have HJN : Hid (((tc == (rs.getD j default).code) && !(rs.getD j default).mapped) = false → ((rs.take (j + 1)).any fun r => (tc == r.code) && !r.mapped) = false) := fun h => anyX_step (p := fun r : SRole => (tc == r.code) && !r.mapped) hjl HJA.out h
                clear hjl
                generalize rs.getD j default = y at *
                obtain ⟨ynm, yc, yk, yb, ym⟩ := y
                simp only [] at d1 d4 HJY HJN
                cases f1 : tc == yc
                case false =>
                  have F := Lib.hid (HJN.out (by rw [f1]; rfl))
                  clear HJY HJN
                  go_wp2_with fail
                  go_quiet (fail)
                  go_wp2_with fail
                  exact ⟨⟨j + 1, by go_num, by omega, F.out, below_drewN hbj _⟩, by simp [intOf]; omega⟩
                case true =>
                  cases ym
                  case true =>
                    have F := Lib.hid (HJN.out (by rw [f1]; rfl))
                    clear HJY HJN
                    go_wp2_with fail
                    go_quiet (fail)
                    go_wp2_with fail
                    exact ⟨⟨j + 1, by go_num, by omega, F.out, below_drewN hbj _⟩, by simp [intOf]; omega⟩
                  case false =>
                    have F := Lib.hid (HY.out (HJY.out (by rw [f1]; rfl)))
                    clear HJY HJN
                    go_wp2_with fail
                    go_quiet (fail)
                    go_wp2_with fail
                    go_ret
                    exact ⟨ret_bool (HG.out.trans F.out).symm, below_drewN HBJ.out _⟩
              case neg =>
                have k5 : decide ((j : Int) < 15) = false := by rw [decide_eq_false_iff_not]; omega
                have F := Lib.hid (HN.out (by
                  have := HJA.out
                  rw [List.take_of_length_le (by rw [HRL.out]; omega)] at this
                  exact this))
                go_wp2_with fail
                exact ⟨⟨k + 1, by go_num, by omega, F.out, HBJ.out, HXJ.out, HLJ.out⟩, by simp [intOf]; omega⟩
end Go.Proofs.YtcmmppkmkejniaaGreatDoor
