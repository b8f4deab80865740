/-
  group.entity: an entity is valid in a group.
-/
import Derived.Test.YtcmmppkmkejniaaGreatDoorGvAc
namespace Go.Proofs.YtcmmppkmkejniaaGreatDoor
open Go.RowKit
set_option linter.unusedVariables false
def clsK (rs : List SRole) (k : Nat) (c : Int) : Bool := (rs.take k).foldl (fun v r => if r.code = c then !r.mapped else v) false
theorem clsK_step {rs : List SRole} {k : Nat} (hk : k < rs.length) (c : Int) : clsK rs (k + 1) c = if (rs.getD k default).code = c then !(rs.getD k default).mapped else clsK rs k c := by
  unfold clsK
  rw [List.take_succ_eq_append_getElem hk, List.foldl_append]
  simp [List.getD, hk]
theorem clsK_all {rs : List SRole} {k : Nat} (hk : rs.length ≤ k) (c : Int) : clsK rs k c = closedP rs c := by
  unfold clsK closedP
  rw [List.take_of_length_le hk]
theorem entP_1 {g : PGrp} {e : PEnt} (h : nmOk e.name = false) : entP g e = false := by unfold entP; rw [h]; rfl
theorem entP_2 {g : PGrp} {e : PEnt} (h : curOk e.cur = false) : entP g e = false := by unfold entP; rw [h]; simp
theorem entP_3 {g : PGrp} {e : PEnt} (h : mapP e.chart g.chart e.links = false) : entP g e = false := by unfold entP; rw [h]; simp
theorem entP_4 {g : PGrp} {e : PEnt} (h1 : nmOk e.name = true) (h2 : curOk e.cur = true) (h3 : mapP e.chart g.chart e.links = true) : entP g e = !e.links.any fun x => closedP (rolesL g.roles) x.to_ := by unfold entP; rw [h1, h2, h3]; simp
theorem contC_any (ls : List SLink) (g mb : Nat) (m : List (Int × Bool)) (hok : ∀ x ∈ ls, LinkOk x) (A : Option Addr) (n c B : Nat) (w : World) (hr : Reads w B 3 A n (linksC ls)) (hB : B ≤ w.heap.size) (hn : n ≤ 9223372036854775807) (hb : BoxM g mb m w) :
    Calls Tryz.prog 89 #[.slice A n c, .func (.func 90) #[] #[.pointer (some ⟨g, 0, none⟩)]] w fun e w' => e = .returned (.bool (ls.any fun x => getB m x.to_)) ∧ Below w.heap.size w w' :=
  contL_any 90 #[.pointer (some ⟨g, 0, none⟩)] (fun x => getB m x.to_) (BoxM g mb m) enter_ent1 (fun _ _ h hb => h.below hb) ls (fun x hx w hw => ent1_any x g mb m w (hok x hx) hw) A n c B w hr hB hn hb
set_option maxRecDepth 100000 in
set_option maxHeartbeats 8000000 in
theorem ent_any (g : SGrp) (x : SEnt) (B : Nat) (w : World) (hg : GrpIn w B g) (hx : EntIn w B x) (hB : B ≤ w.heap.size) (hn : g.nc ≤ 1000) (hxn : x.nc ≤ 1000) :
    Calls Tryz.prog 63 #[grpV g, entV x] w fun e w' => e = .returned (.bool (entP g.p x.p)) ∧ Below w.heap.size w w' := by
  obtain ⟨cu, yr, mo, pe, Ac, nc, cc, ch, ro, Ae, ne, ce, es⟩ := g
  obtain ⟨nm, xu, Xc, xn, xc, xch, Al, nl, cl, ls, jt⟩ := x
  have HMV : Hid (∀ W : World, Below w.heap.size w W → Calls Tryz.prog 88 #[.agg #[.string ⟨nm.toArray⟩, .string ⟨xu.toArray⟩, .slice Xc xn xc, .slice Al nl cl, .bool jt], .slice Ac nc cc] W fun e w' => e = .returned (.bool (mapP xch ch ls)) ∧ Below W.heap.size W w') := fun W hW =>
    mapv_any ⟨nm, xu, Xc, xn, xc, xch, Al, nl, cl, ls, jt⟩ Ac nc cc ch B W (hx.low hB (Nat.le_refl _) hW) (hg.ch.low hB (Nat.le_refl _) hW) (by have := hW.size; omega) hxn hn
  unfold grpV entV
  have HRO := Lib.hid hg.ro
  have HLI := Lib.hid hx.li
  have hnm := hx.nm
  have hcu := hx.cu
  clear hg hx
  simp only [] at HRO HLI hn hxn hnm hcu ⊢
  obtain ⟨gp, hgp⟩ : ∃ gp, SGrp.p ⟨cu, yr, mo, pe, Ac, nc, cc, ch, ro, Ae, ne, ce, es⟩ = gp := ⟨_, rfl⟩
  have HGC : Hid (gp.chart = ch) := by show _ = _; rw [← hgp]; rfl
  have HGR : Hid (gp.roles = ro) := by show _ = _; rw [← hgp]; rfl
  obtain ⟨xp, hxp⟩ : ∃ xp, SEnt.p ⟨nm, xu, Xc, xn, xc, xch, Al, nl, cl, ls, jt⟩ = xp := ⟨_, rfl⟩
  have HXN : Hid (xp.name = nm) := by show _ = _; rw [← hxp]; rfl
  have HXU : Hid (xp.cur = xu) := by show _ = _; rw [← hxp]; rfl
  have HXC : Hid (xp.chart = xch) := by show _ = _; rw [← hxp]; rfl
  have HXL : Hid (xp.links = ls) := by show _ = _; rw [← hxp]; rfl
  rw [hgp, hxp]
  clear hgp hxp
  generalize hgo : entP gp xp = ok
  have HG := Lib.hid hgo.symm
  clear hgo
  have HB0 := Lib.hid (((Below.refl w.heap.size w).alloc (Nat.le_refl _) (.cells #[.string ⟨cu.toArray⟩, .int .i64 yr, .int .i64 mo, .int .i64 pe, .slice Ac nc cc, .int .i64 ro.c0, .int .i64 ro.c1, .int .i64 ro.c2, .int .i64 ro.c3, .int .i64 ro.c4, .int .i64 ro.c5, .int .i64 ro.c6, .int .i64 ro.c7, .int .i64 ro.c8, .int .i64 ro.c9, .int .i64 ro.c10, .int .i64 ro.c11, .int .i64 ro.c12, .int .i64 ro.c13, .int .i64 ro.c14, .slice Ae ne ce] 29)).alloc (by simp) (.cells #[.string ⟨nm.toArray⟩, .string ⟨xu.toArray⟩, .slice Xc xn xc, .slice Al nl cl, .bool jt] 61))
  have HE := Lib.hid ((Blk.new w 29 #[.string ⟨cu.toArray⟩, .int .i64 yr, .int .i64 mo, .int .i64 pe, .slice Ac nc cc, .int .i64 ro.c0, .int .i64 ro.c1, .int .i64 ro.c2, .int .i64 ro.c3, .int .i64 ro.c4, .int .i64 ro.c5, .int .i64 ro.c6, .int .i64 ro.c7, .int .i64 ro.c8, .int .i64 ro.c9, .int .i64 ro.c10, .int .i64 ro.c11, .int .i64 ro.c12, .int .i64 ro.c13, .int .i64 ro.c14, .slice Ae ne ce]).alloc (.cells #[.string ⟨nm.toArray⟩, .string ⟨xu.toArray⟩, .slice Xc xn xc, .slice Al nl cl, .bool jt] 61))
  have HX : Hid (Blk ((w.alloc (.cells #[.string ⟨cu.toArray⟩, .int .i64 yr, .int .i64 mo, .int .i64 pe, .slice Ac nc cc, .int .i64 ro.c0, .int .i64 ro.c1, .int .i64 ro.c2, .int .i64 ro.c3, .int .i64 ro.c4, .int .i64 ro.c5, .int .i64 ro.c6, .int .i64 ro.c7, .int .i64 ro.c8, .int .i64 ro.c9, .int .i64 ro.c10, .int .i64 ro.c11, .int .i64 ro.c12, .int .i64 ro.c13, .int .i64 ro.c14, .slice Ae ne ce] 29)).alloc (.cells #[.string ⟨nm.toArray⟩, .string ⟨xu.toArray⟩, .slice Xc xn xc, .slice Al nl cl, .bool jt] 61)) (w.heap.size + 1) 61 #[.string ⟨nm.toArray⟩, .string ⟨xu.toArray⟩, .slice Xc xn xc, .slice Al nl cl, .bool jt]) := by
    have := Blk.new (w.alloc (.cells #[.string ⟨cu.toArray⟩, .int .i64 yr, .int .i64 mo, .int .i64 pe, .slice Ac nc cc, .int .i64 ro.c0, .int .i64 ro.c1, .int .i64 ro.c2, .int .i64 ro.c3, .int .i64 ro.c4, .int .i64 ro.c5, .int .i64 ro.c6, .int .i64 ro.c7, .int .i64 ro.c8, .int .i64 ro.c9, .int .i64 ro.c10, .int .i64 ro.c11, .int .i64 ro.c12, .int .i64 ro.c13, .int .i64 ro.c14, .slice Ae ne ce] 29)) 61 #[.string ⟨nm.toArray⟩, .string ⟨xu.toArray⟩, .slice Xc xn xc, .slice Al nl cl, .bool jt]
    simp only [World.size_alloc] at this
    exact this
  have hs0 : ((w.alloc (.cells #[.string ⟨cu.toArray⟩, .int .i64 yr, .int .i64 mo, .int .i64 pe, .slice Ac nc cc, .int .i64 ro.c0, .int .i64 ro.c1, .int .i64 ro.c2, .int .i64 ro.c3, .int .i64 ro.c4, .int .i64 ro.c5, .int .i64 ro.c6, .int .i64 ro.c7, .int .i64 ro.c8, .int .i64 ro.c9, .int .i64 ro.c10, .int .i64 ro.c11, .int .i64 ro.c12, .int .i64 ro.c13, .int .i64 ro.c14, .slice Ae ne ce] 29)).alloc (.cells #[.string ⟨nm.toArray⟩, .string ⟨xu.toArray⟩, .slice Xc xn xc, .slice Al nl cl, .bool jt] 61)).heap.size = w.heap.size + 1 + 1 := by simp
  have hmm := @run_makeMap Tryz.prog
  go_enter Tryz.func63, Tryz.ntmps63
  go_wp2_with fail
  generalize hw0 : (w.alloc _).alloc _ = w0 at *
  clear hw0
  obtain ⟨x0, x1, x2, x3, x4⟩ := ent_blk HX.out
  refine (nm_any nm _ hnm).mono ?_
  rintro e wx ⟨rfl, rfl⟩
  cases v1 : nmOk nm
  case false =>
    have F : Hid (entP gp xp = false) := entP_1 (by rw [HXN.out]; exact v1)
    clear v1
    go_wp2_with fail
    go_ret
    exact ⟨ret_bool (HG.out.trans F.out).symm, HB0.out⟩
  case true =>
    have V1 := Lib.hid v1
    clear v1
    go_wp2_with fail
    refine (cur_any xu _ hcu).mono ?_
    rintro e wx ⟨rfl, rfl⟩
    cases v2 : curOk xu
    case false =>
      have F : Hid (entP gp xp = false) := entP_2 (by rw [HXU.out]; exact v2)
      clear v2
      go_wp2_with fail
      go_ret
      exact ⟨ret_bool (HG.out.trans F.out).symm, HB0.out⟩
    case true =>
      have V2 := Lib.hid v2
      clear v2
      have g4 := HE.out.cell 4
      simp only [List.getElem?_toArray, List.getElem?_cons_succ, List.getElem?_cons_zero] at g4
      go_wp2_with fail
      refine (HMV.out _ HB0.out).mono ?_
      rintro e w1 ⟨rfl, hb1⟩
      have HB1 := Lib.hid (below_two HB0.out hb1)
      have HE1 := Lib.hid (HE.out.below hb1 (by omega))
      have HX1 := Lib.hid (HX.out.below hb1 (by omega))
      have hs1 : w.heap.size + 1 < w1.heap.size := by have := hb1.size; omega
      clear hb1 g4 x0 x1 x2 x3 x4
      cases v3 : mapP xch ch ls
      case false =>
        have F : Hid (entP gp xp = false) := entP_3 (by rw [HXC.out, HGC.out, HXL.out]; exact v3)
        clear v3
        go_wp2_with fail
        go_ret
        exact ⟨ret_bool (HG.out.trans F.out).symm, HB1.out⟩
      case true =>
        have HEQ : Hid (entP gp xp = !ls.any fun x => closedP (rolesL ro) x.to_) := by
          have := entP_4 (g := gp) (e := xp) (by rw [HXN.out]; exact V1.out) (by rw [HXU.out]; exact V2.out) (by rw [HXC.out, HGC.out, HXL.out]; exact v3)
          rw [HXL.out, HGR.out] at this
          exact this
        clear v3
        have HM0 := Lib.hid ((MapB.made (M := MI) w1).alloc (.cells #[.map (some w1.heap.size)] 132))
        have HB3 := Lib.hid ((HB1.out.alloc (by omega) (.map #[] 0)).alloc (by simp only [World.size_alloc]; omega) (.cells #[.map (some w1.heap.size)] 132))
        have HE3 := Lib.hid ((HE1.out.alloc (.map #[] 0)).alloc (.cells #[.map (some w1.heap.size)] 132))
        have HX3 := Lib.hid ((HX1.out.alloc (.map #[] 0)).alloc (.cells #[.map (some w1.heap.size)] 132))
        have HK3 : Hid (Blk ((w1.alloc (.map #[] 0)).alloc (.cells #[.map (some w1.heap.size)] 132)) (w1.heap.size + 1) 132 #[.map (some w1.heap.size)]) := by
          have := Blk.new (w1.alloc (.map #[] 0)) 132 #[.map (some w1.heap.size)]
          simp only [World.size_alloc] at this
          exact this
        obtain ⟨g0, g1, g2, g3, g4, g5, g6, g7, g8, g9, g10, g11, g12, g13, g14, g15, g16, g17, g18, g19, g20⟩ := grp_blk HE1.out
        have hs1b : w.heap.size < w1.heap.size := by omega
        have H4 : Hid (∀ W : World, Calls Tryz.prog 85 #[.agg #[.int .i64 ro.c0, .int .i64 ro.c1, .int .i64 ro.c2, .int .i64 ro.c3, .int .i64 ro.c4, .int .i64 ro.c5, .int .i64 ro.c6, .int .i64 ro.c7, .int .i64 ro.c8, .int .i64 ro.c9, .int .i64 ro.c10, .int .i64 ro.c11, .int .i64 ro.c12, .int .i64 ro.c13, .int .i64 ro.c14]] W fun e w' => ∃ ad : Addr, e = .returned (.slice (some ad) 15 15) ∧ Reads w' w'.heap.size 5 (some ad) 15 (rolesC (rolesL ro)) ∧ W.heap.size ≤ ad.block ∧ Below W.heap.size W w') := fun W => roles_any ro W
        go_wp2_with fail
        refine (H4.out _).mono ?_
        rintro e w4 ⟨ad, rfl, hrd, had, hb4⟩
        have HB4 := Lib.hid (below_two HB3.out hb4)
        have HX4 := Lib.hid (HX3.out.below hb4 (by simp only [World.size_alloc]; omega))
        have HM4 := Lib.hid (HM0.out.below hb4 (by simp only [World.size_alloc]; omega))
        have HK4 := Lib.hid (HK3.out.below hb4 (by simp))
        have HLT4 := Lib.hid (LitAt.of hrd (by omega))
        have HNE : Hid (w1.heap.size + 1 < ad.block) := by show _ < _; simp only [World.size_alloc] at had; omega
        clear hrd had hb4 H4 g0 g1 g2 g3 g4 g5 g6 g7 g8 g9 g10 g11 g12 g13 g14 g15 g16 g17 g18 g19 g20
        have HRL : Hid ((rolesL ro).length = 15) := rolesL_len ro
        have HRCL : Hid ((rolesC (rolesL ro)).length = 15 * 5) := rolesC_len ro
        generalize rolesL ro = rs at *
        generalize hmbe : w1.heap.size = mb at *
        clear hmbe
        go_wp2_with fail
        go_loopw [30] (fun i wr => ∃ (k : Nat) (m : List (Int × Bool)), i = .int .i64 k ∧ k ≤ 15 ∧ MapB MI wr mb m ∧ (∀ c, getB m c = clsK rs k c) ∧ Below w.heap.size w wr ∧
          Blk wr (w.heap.size + 1) 61 #[.string ⟨nm.toArray⟩, .string ⟨xu.toArray⟩, .slice Xc xn xc, .slice Al nl cl, .bool jt] ∧ LitAt wr ad (rolesC rs) ∧ Blk wr (mb + 1) 132 #[.map (some mb)]) (fun i _ => 15 - (intOf i).toNat)
        case atStart => exact ⟨0, [], rfl, by omega, HM4.out, fun _ => rfl, HB4.out, HX4.out, HLT4.out, HK4.out⟩
        case round =>
          obtain ⟨k, m, rfl, hk, hm, hgt, hbr, hbl, hlit, hbk⟩ := hrel
          obtain ⟨wo, rfl⟩ : ∃ wo : World, wo = wr := ⟨_, rfl⟩
          have HM := Lib.hid hm
          have HGT := Lib.hid hgt
          have HXO := Lib.hid hbl
          have HLT := Lib.hid hlit
          have HBK := Lib.hid hbk
          have hlt0 := hbl.lt
          have hml := hm.lt
          have hkl0 := hbk.lt
          have b0 := hbk.cell 0
          simp only [List.getElem?_toArray, List.getElem?_cons_zero] at b0
          clear hm hgt hlit hbk
          by_cases hlt : k < 15
          case neg =>
            have k3 : decide ((k : Int) < 15) = false := by rw [decide_eq_false_iff_not]; omega
            obtain ⟨x0, x1, x2, x3, x4⟩ := ent_blk hbl
            have HCC := Lib.hid (contC_any ls (mb + 1) mb m HLI.out.ok Al nl cl B wo (HLI.out.rd.lowg hB (Nat.le_refl _) hbr) (by have := hbr.size; omega) HLI.out.le ⟨HBK.out, HM.out⟩)
            have HFIN : Hid ((ls.any fun x => getB m x.to_) = ls.any fun x => closedP rs x.to_) := by
              show _ = _
              congr 1
              funext x
              rw [HGT.out, clsK_all (by rw [HRL.out]; omega)]
            go_wp2_with fail
            refine HCC.out.mono ?_
            rintro e w9 ⟨rfl, hb9⟩
            rw [HFIN.out]
            have HB9 := Lib.hid (below_two hbr hb9)
            clear hb9 HCC
            generalize (ls.any fun x => closedP rs x.to_) = av at *
            go_wp2_with fail
            go_ret
            exact ⟨ret_bool (HG.out.trans HEQ.out).symm, HB9.out⟩
          case pos =>
            have k3 : decide ((k : Int) < 15) = true := by rw [decide_eq_true_eq]; omega
            have b15 : (k : Int) < 15 := by omega
            have hkl : k < rs.length := by rw [HRL.out]; exact hlt
            obtain ⟨ad', ead, hbk2, c0, c1, c2, c3, c4⟩ := (HLT.out.reads HRCL.out).role_at hlt
            injection ead with ead
            subst ead
            have HOKX := Lib.hid (HRO.out (rs.getD k default) (by simp [List.getD, hkl]))
            have HST : Hid (∀ c : Int, clsK rs (k + 1) c = if (rs.getD k default).code = c then !(rs.getD k default).mapped else clsK rs k c) := fun c => clsK_step hkl c
            clear hkl hbl
            generalize rs.getD k default = x at *
            obtain ⟨rnm, rc, rk, rb, rm⟩ := x
            simp only [] at c0 c1 c2 c3 c4 HST HOKX
            have HKO : Hid (MI.ok rc) := HOKX.out
            have hs3 := hbr.size
            have HB6 := Lib.hid (hbr.alloc hs3 (.cells #[.string ⟨rnm.toArray⟩, .int .i64 rc, .int .i64 rk, .int .i64 rb, .bool rm] 136))
            have HM6 := Lib.hid (HM.out.alloc (.cells #[.string ⟨rnm.toArray⟩, .int .i64 rc, .int .i64 rk, .int .i64 rb, .bool rm] 136))
            have HX6 := Lib.hid (HXO.out.alloc (.cells #[.string ⟨rnm.toArray⟩, .int .i64 rc, .int .i64 rk, .int .i64 rb, .bool rm] 136))
            have HLT6 := Lib.hid (HLT.out.alloc (.cells #[.string ⟨rnm.toArray⟩, .int .i64 rc, .int .i64 rk, .int .i64 rb, .bool rm] 136))
            have HBK6 := Lib.hid (HBK.out.alloc (.cells #[.string ⟨rnm.toArray⟩, .int .i64 rc, .int .i64 rk, .int .i64 rb, .bool rm] 136))
            go_wp2_with (at_mapUpdate; refine wpList_storeB (M := MI) _ rfl _ _ _ rfl mb m rc (!rm) rfl rfl rfl HM6.out HKO.out ?_; intro w8 hm8 hg8)
            refine ⟨⟨k + 1, putB m rc (!rm), by go_num, by omega, hm8, ?_, HB6.out.grown hg8 (by simp only [World.size_alloc]; omega) (fun j hj => by cases hj; omega), HX6.out.grown hg8 (by intro e; have := Option.some.inj e; omega), HLT6.out.grown hg8 (by intro e; have := Option.some.inj e; have := HNE.out; omega), HBK6.out.grown hg8 (by intro e; have := Option.some.inj e; omega)⟩, by simp [intOf]; omega⟩
            intro c
            rw [getB_putB, HST.out, HGT.out]
end Go.Proofs.YtcmmppkmkejniaaGreatDoor
