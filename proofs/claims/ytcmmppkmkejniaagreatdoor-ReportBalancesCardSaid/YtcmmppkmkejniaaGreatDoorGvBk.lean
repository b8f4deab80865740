/-
  The reference's books: currency, calendar, chart and roles of a group.
-/
import Derived.Test.YtcmmppkmkejniaaGreatDoorBlG3
import Derived.Deep.MidRow
namespace Go.Proofs.YtcmmppkmkejniaaGreatDoor
open Go.RowKit
set_option linter.unusedVariables false
set_option linter.unusedSimpArgs false
theorem booksR_1 {g : PGrp} (h : curOk g.cur = false) : booksR g = false := by unfold booksR; rw [h]; rfl
theorem booksR_2 {g : PGrp} (h : calOk g.year g.month g.periods = false) : booksR g = false := by unfold booksR; rw [h]; simp
theorem booksR_3 {g : PGrp} (h : chartR g.chart true = false) : booksR g = false := by unfold booksR; rw [h]; simp
theorem booksR_4 {g : PGrp} {k : Nat} (hk : k < g.chart.length) (h : basedB (g.chart.getD k default) = false) : booksR g = false := by
  have : g.chart.all basedB = false := by
    rw [List.all_eq_false]
    exact ⟨_, getD_memA hk, by rw [h]; simp⟩
  unfold booksR; rw [this]; simp
theorem booksR_5 {g : PGrp} {k : Nat} (hk : k < 15) (h : roleAt g.chart (rolesL g.roles) k = false) : booksR g = false := by
  unfold booksR; rw [rolesOk_no (by rw [rolesL_len]; exact hk) h]; simp
theorem booksR_yes {g : PGrp} (h1 : curOk g.cur = true) (h2 : calOk g.year g.month g.periods = true) (h3 : chartR g.chart true = true) (h4 : g.chart.all basedB = true) (h5 : rolesOk g.chart (rolesL g.roles) = true) : booksR g = true := by unfold booksR; rw [h1, h2, h3, h4, h5]; rfl
theorem all_take {α : Type} [Inhabited α] {p : α → Bool} {xs : List α} {k : Nat} (hk : k < xs.length) (h : (xs.take k).all p = true) (h2 : p (xs.getD k default) = true) : (xs.take (k + 1)).all p = true := by
  rw [List.take_succ_eq_append_getElem hk, List.all_append, h]
  have e : xs.getD k default = xs[k] := by simp [List.getD, hk]
  rw [e] at h2
  simp [h2]
theorem findV_form (l : List SAcc) (c : Int) : ∃ (q0 q1 q2 q3 : Int) (okv : Bool), findV l c = .tuple #[.agg #[.int .i64 q0, .int .i64 q1, .int .i64 q2, .int .i64 q3], .bool okv] ∧
    (∀ nm rk rb rm, roleIs l ⟨nm, c, rk, rb, rm⟩ = (okv && ((q1 == rk) && (q2 == rb)))) := by
  cases h : findA l c with
  | none => exact ⟨0, 0, 0, 0, false, findV_no h, fun _ _ _ _ => by rw [roleIs_none h]; rfl⟩
  | some a => exact ⟨a.code, a.kind, a.basis, a.parent, true, findV_yes h, fun _ _ _ _ => by rw [roleIs_some h]; rfl⟩
/-- a role's code, as a region has it before it -/
def BkS (wo : World) (ad : Addr) (k : Nat) (rc : Int) (W : World) : Prop := Below wo.heap.size wo W ∧ W.cell? ⟨(ad.add (k * 5)).block, (ad.add (k * 5)).off + 1, none⟩ = some (.int .i64 rc)
theorem BkS.step {wo W W' : World} {ad : Addr} {k : Nat} {rc : Int} (h : BkS wo ad k rc W) (hb : Below W.heap.size W W') (had : ad.block < wo.heap.size) : BkS wo ad k rc W' :=
  ⟨below_two h.1 hb, (hb.cell (by show (ad.add (k * 5)).block < _; rw [block_of_add]; have := h.1.size; omega)).trans h.2⟩
theorem BkS.far {wo W : World} {ad : Addr} {k : Nat} {rc : Int} (h : BkS wo ad k rc W) {p : Addr} (hp : wo.heap.size ≤ p.block) (had : ad.block < wo.heap.size) (u : Value) : BkS wo ad k rc (W.setCell p u) :=
  ⟨h.1.setCell hp u, (World.cell?_setCell_other W p _ u (fun e => by have e2 := congrArg Addr.block e; simp only [block_of_add] at e2; omega)).trans h.2⟩
theorem exec_grp (ρ : Operand → Value) (o : Oper) (x : Operand) (ho : o.op = .load 29 x) (w : World) (g : Nat) (hx : ρ x = .pointer (some ⟨g, 0, none⟩)) (cs : Array Value) (hs : cs.size = 21) (hg : Blk w g 29 cs) : (execOp ρ o).run Tryz.prog w = .ok (.value (.agg cs)) w := by
  unfold execOp
  simp only [ho, hx, Instr.loadAt, Instr.sureAddr, Sem.run_bind, Sem.run_pure, Result.andThen_ok, run_loadVar_row w g 29 29 cs (0, 0) _ hg Tryz.underlying29 rfl (by rw [info_grp, hs])]
set_option maxRecDepth 100000 in
set_option maxHeartbeats 16000000 in
theorem books_any (g : SGrp) (B : Nat) (w : World) (hg : GrpIn w B g) (hB : B ≤ w.heap.size) (hn : g.nc ≤ 1000) :
    Calls Tryz.prog 23 #[grpV g] w fun e w' => e = .returned (.bool (booksR g.p)) ∧ Below w.heap.size w w' := by
  have HAC : Hid (∀ (code : Int) (W : World), Below w.heap.size w W → Calls Tryz.prog 41 #[grpV g, .int .i64 code] W fun e w' => e = .returned (findV g.chart code) ∧ Below W.heap.size W w') := fun code W hW =>
    racc_any g code B W (hg.ch.low hB (Nat.le_refl _) hW) (by have := hW.size; omega)
  obtain ⟨cu, yr, mo, pe, Ac, nc, cc, ch, ro, Ae, ne, ce, es⟩ := g
  unfold grpV at HAC ⊢
  have HC := Lib.hid hg.ch
  have HCU := Lib.hid hg.cu
  clear hg
  simp only [] at HC HCU hn HAC ⊢
  have HLC := Lib.hid HC.out.len
  obtain ⟨gp, hgp⟩ : ∃ gp, SGrp.p ⟨cu, yr, mo, pe, Ac, nc, cc, ch, ro, Ae, ne, ce, es⟩ = gp := ⟨_, rfl⟩
  have HGU : Hid (gp.cur = cu) := by show _ = _; rw [← hgp]; rfl
  have HGY : Hid (calOk gp.year gp.month gp.periods = calOk yr mo pe) := by show _ = _; rw [← hgp]; rfl
  have HGC : Hid (gp.chart = ch) := by show _ = _; rw [← hgp]; rfl
  have HGR : Hid (gp.roles = ro) := by show _ = _; rw [← hgp]; rfl
  rw [hgp]
  clear hgp
  generalize hgo : booksR gp = ok
  have HG := Lib.hid hgo.symm
  clear hgo
  have HBX := Lib.hid ((Below.refl w.heap.size w).alloc (Nat.le_refl _) (.cells #[.string ⟨cu.toArray⟩, .int .i64 yr, .int .i64 mo, .int .i64 pe, .slice Ac nc cc, .int .i64 ro.c0, .int .i64 ro.c1, .int .i64 ro.c2, .int .i64 ro.c3, .int .i64 ro.c4, .int .i64 ro.c5, .int .i64 ro.c6, .int .i64 ro.c7, .int .i64 ro.c8, .int .i64 ro.c9, .int .i64 ro.c10, .int .i64 ro.c11, .int .i64 ro.c12, .int .i64 ro.c13, .int .i64 ro.c14, .slice Ae ne ce] 29))
  have HE := Lib.hid (Blk.new w 29 #[.string ⟨cu.toArray⟩, .int .i64 yr, .int .i64 mo, .int .i64 pe, .slice Ac nc cc, .int .i64 ro.c0, .int .i64 ro.c1, .int .i64 ro.c2, .int .i64 ro.c3, .int .i64 ro.c4, .int .i64 ro.c5, .int .i64 ro.c6, .int .i64 ro.c7, .int .i64 ro.c8, .int .i64 ro.c9, .int .i64 ro.c10, .int .i64 ro.c11, .int .i64 ro.c12, .int .i64 ro.c13, .int .i64 ro.c14, .slice Ae ne ce])
  go_enter Tryz.func23, Tryz.ntmps23
  go_wp2_with fail
  have hs0 : (w.alloc (.cells #[.string ⟨cu.toArray⟩, .int .i64 yr, .int .i64 mo, .int .i64 pe, .slice Ac nc cc, .int .i64 ro.c0, .int .i64 ro.c1, .int .i64 ro.c2, .int .i64 ro.c3, .int .i64 ro.c4, .int .i64 ro.c5, .int .i64 ro.c6, .int .i64 ro.c7, .int .i64 ro.c8, .int .i64 ro.c9, .int .i64 ro.c10, .int .i64 ro.c11, .int .i64 ro.c12, .int .i64 ro.c13, .int .i64 ro.c14, .slice Ae ne ce] 29)).heap.size = w.heap.size + 1 := by simp
  generalize hw0 : w.alloc _ = w0 at *
  clear hw0
  refine (rcur_any cu _ HCU.out).mono ?_
  rintro e wx ⟨rfl, rfl⟩
  cases v1 : curOk cu
  case false =>
    have F : Hid (booksR gp = false) := booksR_1 (by rw [HGU.out]; exact v1)
    clear v1
    go_wp2_with fail
    go_ret
    exact ⟨ret_bool (HG.out.trans F.out).symm, HBX.out⟩
  case true =>
    have V1 := Lib.hid v1
    clear v1
    obtain ⟨g0, g1, g2, g3, _⟩ := grp_blk HE.out
    go_wp2_with fail
    refine (rcal_any yr mo pe _).mono ?_
    rintro e w1 ⟨rfl, hb1⟩
    have HB1 := Lib.hid (below_two HBX.out hb1)
    have HE1 := Lib.hid (HE.out.below hb1 (by omega))
    have hs1 : w.heap.size < w1.heap.size := by have := hb1.size; omega
    clear hb1 HBX g0 g1 g2 g3
    have HBX := HB1
    cases v2 : calOk yr mo pe
    case false =>
      have F : Hid (booksR gp = false) := booksR_2 (by rw [HGY.out]; exact v2)
      clear v2
      go_wp2_with fail
      go_ret
      exact ⟨ret_bool (HG.out.trans F.out).symm, HBX.out⟩
    case true =>
      have V2 := Lib.hid v2
      clear v2
      have g4 := HE1.out.cell 4
      simp only [List.getElem?_toArray, List.getElem?_cons_succ, List.getElem?_cons_zero] at g4
      go_wp2_with fail
      have H2 := Lib.hid (rchart_any ch Ac nc cc true B w1 (HC.out.rd.lowg hB (Nat.le_refl _) HB1.out) (by omega) hn)
      refine H2.out.mono ?_
      rintro e w2 ⟨rfl, hb2⟩
      have HB2 := Lib.hid (below_two HB1.out hb2)
      have HE2 := Lib.hid (HE1.out.below hb2 hs1)
      have hs2 : w.heap.size < w2.heap.size := by have := hb2.size; omega
      clear hb2 HBX g4 H2
      have HBX := HB2
      cases v3 : chartR ch true
      case false =>
        have F : Hid (booksR gp = false) := booksR_3 (by rw [HGC.out]; exact v3)
        clear v3
        go_wp2_with fail
        go_ret
        exact ⟨ret_bool (HG.out.trans F.out).symm, HBX.out⟩
      case true =>
        have V3 := Lib.hid v3
        clear v3
        go_wp2_with fail
        go_loopw [3] (fun i wr => ∃ k : Nat, i = .int .i64 k ∧ k ≤ nc ∧ (ch.take k).all basedB = true ∧ Below w.heap.size w wr ∧ Blk wr w.heap.size 29 #[.string ⟨cu.toArray⟩, .int .i64 yr, .int .i64 mo, .int .i64 pe, .slice Ac nc cc, .int .i64 ro.c0, .int .i64 ro.c1, .int .i64 ro.c2, .int .i64 ro.c3, .int .i64 ro.c4, .int .i64 ro.c5, .int .i64 ro.c6, .int .i64 ro.c7, .int .i64 ro.c8, .int .i64 ro.c9, .int .i64 ro.c10, .int .i64 ro.c11, .int .i64 ro.c12, .int .i64 ro.c13, .int .i64 ro.c14, .slice Ae ne ce]) (fun i _ => nc - (intOf i).toNat)
        case atStart => exact ⟨0, rfl, by omega, rfl, HB2.out, HE2.out⟩
        case round =>
          obtain ⟨k, rfl, hk, hd, hbr, hbl⟩ := hrel
          obtain ⟨wo, rfl⟩ : ∃ wo : World, wo = wr := ⟨_, rfl⟩
          have HD := Lib.hid hd
          have HEO := Lib.hid hbl
          have hlt0 := hbl.lt
          have g4 := hbl.cell 4
          simp only [List.getElem?_toArray, List.getElem?_cons_succ, List.getElem?_cons_zero] at g4
          clear hd hbl
          by_cases hlt : k < nc
          case pos =>
            have k3 : decide ((k : Int) < (nc : Int)) = true := by rw [decide_eq_true_eq]; omega
            have b15 : (k : Int) < (nc : Int) := by omega
            have hkl : k < ch.length := by rw [HLC.out]; exact hlt
            obtain ⟨ad, rfl, hbk, c0, c1, c2, c3⟩ := (HC.out.rd.lowg hB (Nat.le_refl _) hbr).acc_at hlt
            have HY : Hid (basedB (ch.getD k default) = false → booksR gp = false) := fun h => booksR_4 (k := k) (by rw [HGC.out]; exact hkl) (by rw [HGC.out]; exact h)
            have HN : Hid (basedB (ch.getD k default) = true → (ch.take (k + 1)).all basedB = true) := fun h => all_take hkl HD.out h
            clear hkl
            generalize ch.getD k default = x at *
            obtain ⟨x0, x1, x2, x3⟩ := x
            simp only [] at c0 c1 c2 c3
            have HBA : Hid (∀ W : World, Calls Tryz.prog 39 #[.agg #[.int .i64 x0, .int .i64 x1, .int .i64 x2, .int .i64 x3]] W fun e w' => e = .returned (.bool (basedB ⟨x0, x1, x2, x3⟩)) ∧ Below W.heap.size W w') := fun W => basis_any ⟨x0, x1, x2, x3⟩ W
            generalize basedB ⟨x0, x1, x2, x3⟩ = bv at *
            go_wp2_with fail
            refine (HBA.out _).mono ?_
            rintro e w3 ⟨rfl, hb3⟩
            have HB3 := Lib.hid (below_two hbr hb3)
            have HE3 := Lib.hid (HEO.out.below hb3 hlt0)
            clear hb3 HBA c0 c1 c2 c3 g4
            cases bv
            case false =>
              have F := Lib.hid (HY.out rfl)
              clear HY HN
              go_wp2_with fail
              go_ret
              exact ⟨ret_bool (HG.out.trans F.out).symm, HB3.out⟩
            case true =>
              have F := Lib.hid (HN.out rfl)
              clear HY HN
              go_wp2_with fail
              exact ⟨⟨k + 1, by go_num, by omega, F.out, HB3.out, HE3.out⟩, by simp [intOf]; omega⟩
          case neg =>
            have k3 : decide ((k : Int) < (nc : Int)) = false := by rw [decide_eq_false_iff_not]; omega
            have V4 : Hid (ch.all basedB = true) := by
              have := HD.out
              rw [List.take_of_length_le (by rw [HLC.out]; omega)] at this
              exact this
            obtain ⟨wp, rfl⟩ : ∃ wp : World, wp = wo := ⟨_, rfl⟩
            obtain ⟨g0, g1, g2, g3, g4', g5, g6, g7, g8, g9, g10, g11, g12, g13, g14, g15, g16, g17, g18, g19, g20⟩ := grp_blk HEO.out
            have H4 : Hid (∀ W : World, Calls Tryz.prog 40 #[.agg #[.int .i64 ro.c0, .int .i64 ro.c1, .int .i64 ro.c2, .int .i64 ro.c3, .int .i64 ro.c4, .int .i64 ro.c5, .int .i64 ro.c6, .int .i64 ro.c7, .int .i64 ro.c8, .int .i64 ro.c9, .int .i64 ro.c10, .int .i64 ro.c11, .int .i64 ro.c12, .int .i64 ro.c13, .int .i64 ro.c14]] W fun e w' => ∃ ad : Addr, e = .returned (.slice (some ad) 15 15) ∧ Reads w' w'.heap.size 5 (some ad) 15 (rolesC (rolesL ro)) ∧ W.heap.size ≤ ad.block ∧ Below W.heap.size W w') := fun W => rroles_any ro W
            go_wp2_with fail
            refine (H4.out _).mono ?_
            rintro e w4 ⟨ad, rfl, hrd, had, hb4⟩
            have HB4 := Lib.hid (below_two hbr hb4)
            have HE4 := Lib.hid (HEO.out.below hb4 hlt0)
            have HLT4 := Lib.hid (LitAt.of hrd (by omega))
            clear hrd had hb4 H4 g0 g1 g2 g3 g4 g4' g5 g6 g7 g8 g9 g10 g11 g12 g13 g14 g15 g16 g17 g18 g19 g20
            have HYES : Hid (rolesOk ch (rolesL ro) = true → booksR gp = true) := fun h => booksR_yes (by rw [HGU.out]; exact V1.out) (by rw [HGY.out]; exact V2.out) (by rw [HGC.out]; exact V3.out) (by rw [HGC.out]; exact V4.out) (by rw [HGC.out, HGR.out]; exact h)
            have HNO' : Hid (∀ k, k < 15 → roleAt ch (rolesL ro) k = false → booksR gp = false) := fun k hk h => booksR_5 hk (by rw [HGC.out, HGR.out]; exact h)
            have HRL : Hid ((rolesL ro).length = 15) := rolesL_len ro
            have HRCL : Hid ((rolesC (rolesL ro)).length = 15 * 5) := rolesC_len ro
            generalize rolesL ro = rs at *
            clear hbr hlt0 k3 hlt HD hk HEO
            go_wp2_with fail
            go_loopw [5] (fun i wr => ∃ k : Nat, i = .int .i64 k ∧ k ≤ 15 ∧ (List.range k).all (roleAt ch rs) = true ∧ Below w.heap.size w wr ∧ Blk wr w.heap.size 29 #[.string ⟨cu.toArray⟩, .int .i64 yr, .int .i64 mo, .int .i64 pe, .slice Ac nc cc, .int .i64 ro.c0, .int .i64 ro.c1, .int .i64 ro.c2, .int .i64 ro.c3, .int .i64 ro.c4, .int .i64 ro.c5, .int .i64 ro.c6, .int .i64 ro.c7, .int .i64 ro.c8, .int .i64 ro.c9, .int .i64 ro.c10, .int .i64 ro.c11, .int .i64 ro.c12, .int .i64 ro.c13, .int .i64 ro.c14, .slice Ae ne ce] ∧ LitAt wr ad (rolesC rs)) (fun i _ => 15 - (intOf i).toNat)
            case atStart => exact ⟨0, rfl, by omega, rfl, HB4.out, HE4.out, HLT4.out⟩
            case round =>
              obtain ⟨k, rfl, hk, hd, hbr, hbl, hlit⟩ := hrel
              obtain ⟨wo, rfl⟩ : ∃ wo : World, wo = wr := ⟨_, rfl⟩
              have HD := Lib.hid hd
              have HEO := Lib.hid hbl
              have HLT := Lib.hid hlit
              have hlt0 := hbl.lt
              have had := hlit.1
              clear hd hbl hlit
              by_cases hlt : k < 15
              case neg =>
                have k3 : decide ((k : Int) < 15) = false := by rw [decide_eq_false_iff_not]; omega
                have F : Hid (booksR gp = true) := HYES.out (by unfold rolesOk; rw [HRL.out, show 15 = k by omega]; exact HD.out)
                go_wp2_with fail
                go_ret
                exact ⟨ret_bool (HG.out.trans F.out).symm, hbr⟩
              case pos =>
                have k3 : decide ((k : Int) < 15) = true := by rw [decide_eq_true_eq]; omega
                have b15 : (k : Int) < 15 := by omega
                have hkl : k < rs.length := by rw [HRL.out]; exact hlt
                obtain ⟨ad', ead, hbk2, c0, c1, c2, c3, c4⟩ := (HLT.out.reads HRCL.out).role_at hlt
                injection ead with ead
                subst ead
                have HAT : Hid (roleAt ch rs k = (roleIs ch (rs.getD k default) && !roleSeen rs k (rs.getD k default).code)) := rfl
                have HNO := Lib.hid (HNO'.out k hlt)
                generalize hrk : rs.getD k default = x at *
                have HRK := Lib.hid hrk
                clear hrk hkl
                obtain ⟨rnm, rc, rk, rb, rm⟩ := x
                simp only [] at c0 c1 c2 c3 c4 HAT
                obtain ⟨q0, q1, q2, q3, okv, hfv, hri⟩ := findV_form ch rc
                have HFV := Lib.hid hfv
                have HRI := Lib.hid (hri rnm rk rb rm)
                clear hfv hri
                have HS : Hid (BkS wo ad k rc wo.drew) := ⟨below_drew (Below.refl _ _), c1⟩
                have HACW : Hid (∀ W : World, Below wo.heap.size wo W → Calls Tryz.prog 41 #[.agg #[.string ⟨cu.toArray⟩, .int .i64 yr, .int .i64 mo, .int .i64 pe, .slice Ac nc cc, .int .i64 ro.c0, .int .i64 ro.c1, .int .i64 ro.c2, .int .i64 ro.c3, .int .i64 ro.c4, .int .i64 ro.c5, .int .i64 ro.c6, .int .i64 ro.c7, .int .i64 ro.c8, .int .i64 ro.c9, .int .i64 ro.c10, .int .i64 ro.c11, .int .i64 ro.c12, .int .i64 ro.c13, .int .i64 ro.c14, .slice Ae ne ce], .int .i64 rc] W fun e w' => e = .returned (findV ch rc) ∧ Below W.heap.size W w') := fun W hW => HAC.out rc W (below_two hbr hW)
                clear HAC
                have HAC := HACW
                clear c0 c1 c2 c3 c4
                go_upto_region 12 with fail
                refine wp_region_held_drew (S := BkS wo ad k rc) (by kernel_rfl) HS.out (fun hHeld => ?_)
                refine wpAnyH_take (i := 0) (v := ?vg0) rfl (by kernel_rfl) (by kernel_rfl) (by kernel_rfl) (fun _ _ _ h => h) (Or.inl ⟨by rfl, ?hyg0⟩) (by assumption) ?restg0
                case hyg0 => (intro w_ hSw; refine exec_grp _ _ (.tmp 1) ?_ w_ w.heap.size ?_ _ ?_ (HEO.out.below hSw.1 hlt0) <;> rfl)
                (try simp only [Act.put, List.setIfInBounds_toArray, List.set_cons_zero, List.set_cons_succ, List.getElem_toArray, List.getElem_cons_zero, List.getElem_cons_succ])
                refine wpAnyH_take (i := 1) (v := ?vg1) rfl (by kernel_rfl) (by kernel_rfl) (by kernel_rfl) (fun _ _ _ h => h) (Or.inl ⟨by rfl, ?hyg1⟩) (by assumption) ?restg1
                case hyg1 => (intro w_ hSw; (try dsimp only at hSw); obtain ⟨_, c1_⟩ := hSw; go_simp; (try with_reducible rfl))
                (try simp only [Act.put, List.setIfInBounds_toArray, List.set_cons_zero, List.set_cons_succ, List.getElem_toArray, List.getElem_cons_zero, List.getElem_cons_succ])
                refine wpAnyH_take (i := 2) (v := ?vg2) rfl (by kernel_rfl) (by kernel_rfl) (by kernel_rfl) (fun _ _ _ h => h) (Or.inl ⟨by rfl, ?hyg2⟩) (by assumption) ?restg2
                case hyg2 => (intro w_ hSw; (try dsimp only at hSw); obtain ⟨_, c1_⟩ := hSw; go_simp; (try with_reducible rfl))
                (try simp only [Act.put, List.setIfInBounds_toArray, List.set_cons_zero, List.set_cons_succ, List.getElem_toArray, List.getElem_cons_zero, List.getElem_cons_succ])
                refine wpAnyH_take (i := 3) (v := ?vg3) rfl (by kernel_rfl) (by kernel_rfl) (by kernel_rfl) (fun _ _ _ h => h) (Or.inl ⟨by rfl, ?hyg3⟩) (by assumption) ?restg3
                case hyg3 => (intro w_ hSw; (try dsimp only at hSw); obtain ⟨_, c1_⟩ := hSw; go_simp; (try with_reducible rfl))
                (try simp only [Act.put, List.setIfInBounds_toArray, List.set_cons_zero, List.set_cons_succ, List.getElem_toArray, List.getElem_cons_zero, List.getElem_cons_succ])
                refine wpAnyH_take (i := 4) (v := ?vg4) rfl (by kernel_rfl) (by kernel_rfl) (by kernel_rfl) (fun _ _ _ h => h) (Or.inl ⟨by rfl, ?hyg4⟩) (by assumption) ?restg4
                case hyg4 => (intro w_ hSw; (try dsimp only at hSw); obtain ⟨_, c1_⟩ := hSw; go_simp; (try with_reducible rfl))
                (try simp only [Act.put, List.setIfInBounds_toArray, List.set_cons_zero, List.set_cons_succ, List.getElem_toArray, List.getElem_cons_zero, List.getElem_cons_succ])
                refine wpAnyH_take (i := 5) (v := ?vg5) rfl (by kernel_rfl) (by kernel_rfl) (by kernel_rfl) (fun _ _ _ h => h) (Or.inl ⟨by rfl, ?hyg5⟩) (by assumption) ?restg5
                case hyg5 => (intro w_ hSw; (try dsimp only at hSw); obtain ⟨_, c1_⟩ := hSw; go_simp; (try with_reducible rfl))
                (try simp only [Act.put, List.setIfInBounds_toArray, List.set_cons_zero, List.set_cons_succ, List.getElem_toArray, List.getElem_cons_zero, List.getElem_cons_succ])
                refine wpAnyH_ready (rs := [6, 10]) (by kernel_rfl) (by simp) ?_
                refine AllReadyH.cons rfl (fun K hK => ?_) (AllReadyH.cons rfl (fun K hK => ?_) AllReadyH.nil)
                · go_simp
                  refine (HAC.out _ hHeld.1).mono ?_
                  rintro e wa ⟨rfl, hba⟩
                  rw [HFV.out]
                  dsimp only
                  refine hK.out _ _ ?hSga6 (fun hHeld6 => ?_)
                  case hSga6 => exact hHeld.step hba had
                  clear hK K
                  (try simp only [Act.put, List.setIfInBounds_toArray, List.set_cons_zero, List.set_cons_succ, List.getElem_toArray, List.getElem_cons_zero, List.getElem_cons_succ])
                  refine wpAnyH_take (i := 7) (v := ?vga7) rfl (by kernel_rfl) (by kernel_rfl) (by kernel_rfl) (fun _ _ _ h => h) (Or.inl ⟨by rfl, ?hyga7⟩) (by assumption) ?restga7
                  case hyga7 => (intro w_ hSw; (try dsimp only at hSw); obtain ⟨_, c1_⟩ := hSw; go_simp; (try with_reducible rfl))
                  (try simp only [Act.put, List.setIfInBounds_toArray, List.set_cons_zero, List.set_cons_succ, List.getElem_toArray, List.getElem_cons_zero, List.getElem_cons_succ])
                  refine wpAnyH_take (i := 8) (v := ?vga8) rfl (by kernel_rfl) (by kernel_rfl) (by kernel_rfl) (fun _ _ _ h => h) (Or.inl ⟨by rfl, ?hyga8⟩) (by assumption) ?restga8
                  case hyga8 => (intro w_ hSw; (try dsimp only at hSw); obtain ⟨_, c1_⟩ := hSw; go_simp; (try with_reducible rfl))
                  (try simp only [Act.put, List.setIfInBounds_toArray, List.set_cons_zero, List.set_cons_succ, List.getElem_toArray, List.getElem_cons_zero, List.getElem_cons_succ])
                  refine wpAnyH_take (i := 9) (v := ?vga9) rfl (by kernel_rfl) (by kernel_rfl) (by kernel_rfl) (fun _ _ _ h => h) (Or.inl ⟨by rfl, ?hyga9⟩) (by assumption) ?restga9
                  case hyga9 => (intro w_ hSw; (try dsimp only at hSw); obtain ⟨_, c1_⟩ := hSw; go_simp; (try with_reducible rfl))
                  (try simp only [Act.put, List.setIfInBounds_toArray, List.set_cons_zero, List.set_cons_succ, List.getElem_toArray, List.getElem_cons_zero, List.getElem_cons_succ])
                  refine wpAnyH_ready (rs := [10]) (by kernel_rfl) (by simp) ?_
                  refine (AllReadyH.cons rfl (fun K hK => ?_) AllReadyH.nil)
                  go_simp
                  refine hK.out _ _ ?hSga10 (fun hHeld10 => ?_)
                  case hSga10 => exact hHeld6.step ((Below.refl _ _).alloc (Nat.le_refl _) _) had
                  clear hK K
                  (try simp only [Act.put, List.setIfInBounds_toArray, List.set_cons_zero, List.set_cons_succ, List.getElem_toArray, List.getElem_cons_zero, List.getElem_cons_succ])
                  refine wpAnyH_ready (rs := [11]) (by kernel_rfl) (by simp) ?_
                  refine (AllReadyH.cons rfl (fun K hK => ?_) AllReadyH.nil)
                  go_simp
                  refine hK.out _ _ ?hSga11 (fun hHeld11 => ?_)
                  case hSga11 => exact hHeld6.step ((Below.refl _ _).alloc (Nat.le_refl _) _) had
                  clear hK K
                  (try simp only [Act.put, List.setIfInBounds_toArray, List.set_cons_zero, List.set_cons_succ, List.getElem_toArray, List.getElem_cons_zero, List.getElem_cons_succ])
                  refine wpAnyH_take (i := 12) (v := ?vga12) rfl (by kernel_rfl) (by kernel_rfl) (by kernel_rfl) (fun _ _ _ h => h) (Or.inl ⟨by rfl, ?hyga12⟩) (by assumption) ?restga12
                  case hyga12 => (intro w_ hSw; (try dsimp only at hSw); obtain ⟨_, c1_⟩ := hSw; go_simp; (try with_reducible rfl))
                  (try simp only [Act.put, List.setIfInBounds_toArray, List.set_cons_zero, List.set_cons_succ, List.getElem_toArray, List.getElem_cons_zero, List.getElem_cons_succ])
                  refine wpAnyH_done (by kernel_rfl) ?_ _
                  have HKF := Lib.hid (Blk.new wa 42 #[.int .i64 q0, .int .i64 q1, .int .i64 q2, .int .i64 q3])
                  generalize wa.alloc (.cells #[.int .i64 q0, .int .i64 q1, .int .i64 q2, .int .i64 q3] 42) = wf at *
                  have HBF := Lib.hid (below_two hbr hHeld11.1)
                  have HEF := Lib.hid (HEO.out.below hHeld11.1 hlt0)
                  have HLF := Lib.hid (HLT.out.below hHeld11.1)
                  have hblt := HKF.out.lt
                  clear hHeld hHeld6 hHeld10 hHeld11 hba
                  obtain ⟨ad2, ead2, hbk3, c0, c1, c2, c3, c4⟩ := (HLF.out.reads HRCL.out).role_at hlt
                  injection ead2 with ead2
                  subst ead2
                  rw [HRK.out] at c0 c1 c2 c3 c4
                  simp only [] at c0 c1 c2 c3 c4
                  obtain ⟨y0, y1, y2, y3⟩ := acc_blk HKF.out
                  cases okv
                  case false =>
                    have F : Hid (booksR gp = false) := HNO.out (by rw [HAT.out, HRI.out]; rfl)
                    go_wp2_with fail
                    go_quiet (fail)
                    go_wp2_with fail
                    go_ret
                    exact ⟨ret_bool (HG.out.trans F.out).symm, below_drewN HBF.out _⟩
                  case true =>
                    cases e1 : q1 == rk
                    case false =>
                      have e1' : (q1 != rk) = true := by rw [bne, e1]; rfl
                      have F : Hid (booksR gp = false) := HNO.out (by rw [HAT.out, HRI.out, e1]; rfl)
                      go_wp2_with fail
                      go_quiet (fail)
                      go_wp2_with fail
                      go_ret
                      exact ⟨ret_bool (HG.out.trans F.out).symm, below_drewN HBF.out _⟩
                    case true =>
                      have e1' : (q1 != rk) = false := by rw [bne, e1]; rfl
                      cases e2 : q2 == rb
                      case false =>
                        have e2' : (q2 != rb) = true := by rw [bne, e2]; rfl
                        have F : Hid (booksR gp = false) := HNO.out (by rw [HAT.out, HRI.out, e1, e2]; rfl)
                        have HEE := Lib.hid e1
                        clear e1
                        go_wp2_with fail
                        go_quiet (fail)
                        go_wp2_with fail
                        go_ret
                        exact ⟨ret_bool (HG.out.trans F.out).symm, below_drewN HBF.out _⟩
                      case true =>
                        have e2' : (q2 != rb) = false := by rw [bne, e2]; rfl
                        have HAT2 : Hid (roleAt ch rs k = !roleSeen rs k rc) := by show _ = _; rw [HAT.out, HRI.out, e1, e2]; rfl
                        have HEE := Lib.hid (And.intro e1 e2)
                        clear e1 e2
                        go_wp2_with fail
                        go_quiet (fail)
                        go_wp2_with fail
                        clear c0 c1 c2 c3 c4 y0 y1 y2 y3 e1' e2'
                        generalize hwi : World.drewN wf _ = wi at *
                        have HBI : Hid (Below w.heap.size w wi) := by show Below _ _ _; rw [← hwi]; exact below_drewN HBF.out _
                        have HEI : Hid (Blk wi w.heap.size 29 #[.string ⟨cu.toArray⟩, .int .i64 yr, .int .i64 mo, .int .i64 pe, .slice Ac nc cc, .int .i64 ro.c0, .int .i64 ro.c1, .int .i64 ro.c2, .int .i64 ro.c3, .int .i64 ro.c4, .int .i64 ro.c5, .int .i64 ro.c6, .int .i64 ro.c7, .int .i64 ro.c8, .int .i64 ro.c9, .int .i64 ro.c10, .int .i64 ro.c11, .int .i64 ro.c12, .int .i64 ro.c13, .int .i64 ro.c14, .slice Ae ne ce]) := by show Blk _ _ _ _; rw [← hwi]; exact HEF.out.drewN _
                        have HLI : Hid (LitAt wi ad (rolesC rs)) := by show LitAt _ _ _; rw [← hwi]; exact HLF.out
                        clear hwi
                        have hEI := HEI.out.lt
                        go_loopw [8] (fun i wr => ∃ j : Nat, i = .int .i64 j ∧ j ≤ k ∧ roleSeen rs j rc = false ∧ Below wi.heap.size wi wr) (fun i _ => k - (intOf i).toNat)
                        case atStart => exact ⟨0, rfl, by omega, rfl, Below.refl _ _⟩
                        case round =>
                          obtain ⟨j, rfl, hj, hja, hbj⟩ := hrel
                          obtain ⟨wj, rfl⟩ : ∃ wj : World, wj = wr := ⟨_, rfl⟩
                          have HJA := Lib.hid hja
                          have HBJ := Lib.hid (below_two HBI.out hbj)
                          have HEJ := Lib.hid (HEI.out.below hbj hEI)
                          have HLJ := Lib.hid (HLI.out.below hbj)
                          clear hja
                          by_cases hjk : j < k
                          case pos =>
                            have k5 : decide ((j : Int) < (k : Int)) = true := by rw [decide_eq_true_eq]; omega
                            have j15 : (j : Int) < 15 := by omega
                            obtain ⟨ad2, ead2, hbk3, c0, c1, c2, c3, c4⟩ := (HLJ.out.reads HRCL.out).role_at hlt
                            injection ead2 with ead2
                            subst ead2
                            rw [HRK.out] at c1
                            obtain ⟨ad3, ead3, hbk4, d0, d1, d2, d3, d4⟩ := (HLJ.out.reads HRCL.out).role_at (k := j) (by omega)
                            injection ead3 with ead3
                            subst ead3
                            simp only [] at c1
                            clear c0 c2 c3 c4 d0 d2 d3 d4
                            have HJS : Hid (roleSeen rs (j + 1) rc = (roleSeen rs j rc || (rs.getD j default).code == rc)) := roleSeen_step (by rw [HRL.out]; omega) rc
                            have HJY : Hid (((rs.getD j default).code == rc) = true → roleSeen rs k rc = true) := fun h => any_of hjk (by rw [HRL.out]; omega) h
                            generalize (rs.getD j default).code = yc at *
                            cases f1 : yc == rc
                            case false =>
                              have F : Hid (roleSeen rs (j + 1) rc = false) := by show _ = _; rw [HJS.out, HJA.out, f1]; rfl
                              clear HJS HJY
                              go_wp2_with fail
                              go_quiet (fail)
                              go_wp2_with fail
                              exact ⟨⟨j + 1, by go_num, by omega, F.out, below_drewN hbj _⟩, by simp [intOf]; omega⟩
                            case true =>
                              have HSE := Lib.hid (HJY.out f1)
                              have F : Hid (booksR gp = false) := HNO.out (by rw [HAT2.out, HSE.out]; rfl)
                              clear HJS HJY
                              go_wp2_with fail
                              go_quiet (fail)
                              go_wp2_with fail
                              go_ret
                              exact ⟨ret_bool (HG.out.trans F.out).symm, below_drewN HBJ.out _⟩
                          case neg =>
                            have k5 : decide ((j : Int) < (k : Int)) = false := by rw [decide_eq_false_iff_not]; omega
                            have HSE : Hid (roleSeen rs k rc = false) := by show _ = _; rw [show k = j by omega]; exact HJA.out
                            have F := Lib.hid (allR_step HD.out (by rw [HAT2.out, HSE.out]; rfl))
                            go_wp2_with fail
                            exact ⟨⟨k + 1, by go_num, by omega, F.out, HBJ.out, HEJ.out, HLJ.out⟩, by simp [intOf]; omega⟩
                · go_simp
                  refine hK.out _ _ ?hSgb10 (fun hHeld10 => ?_)
                  case hSgb10 => exact hHeld.step ((Below.refl _ _).alloc (Nat.le_refl _) _) had
                  clear hK K
                  (try simp only [Act.put, List.setIfInBounds_toArray, List.set_cons_zero, List.set_cons_succ, List.getElem_toArray, List.getElem_cons_zero, List.getElem_cons_succ])
                  refine wpAnyH_ready (rs := [6]) (by kernel_rfl) (by simp) ?_
                  refine (AllReadyH.cons rfl (fun K hK => ?_) AllReadyH.nil)
                  go_simp
                  have hkz : Blk _ wo.heap.size 42 #[.int .i64 0, .int .i64 0, .int .i64 0, .int .i64 0] := Blk.new wo.drew 42 #[.int .i64 0, .int .i64 0, .int .i64 0, .int .i64 0]
                  refine (HAC.out _ hHeld10.1).mono ?_
                  rintro e wa ⟨rfl, hba⟩
                  have hka := hkz.below hba (by simp)
                  have hfa := hka.frozen
                  obtain ⟨y0, y1, y2, y3⟩ := acc_blk hka
                  rw [HFV.out]
                  dsimp only
                  refine hK.out _ _ ?hSgb6 (fun hHeld6 => ?_)
                  case hSgb6 => exact hHeld10.step hba had
                  clear hK K
                  (try simp only [Act.put, List.setIfInBounds_toArray, List.set_cons_zero, List.set_cons_succ, List.getElem_toArray, List.getElem_cons_zero, List.getElem_cons_succ])
                  refine wpAnyH_take (i := 7) (v := ?vgb7) rfl (by kernel_rfl) (by kernel_rfl) (by kernel_rfl) (fun _ _ _ h => h) (Or.inl ⟨by rfl, ?hygb7⟩) (by assumption) ?restgb7
                  case hygb7 => (intro w_ hSw; (try dsimp only at hSw); obtain ⟨_, c1_⟩ := hSw; go_simp; (try with_reducible rfl))
                  (try simp only [Act.put, List.setIfInBounds_toArray, List.set_cons_zero, List.set_cons_succ, List.getElem_toArray, List.getElem_cons_zero, List.getElem_cons_succ])
                  refine wpAnyH_take (i := 8) (v := ?vgb8) rfl (by kernel_rfl) (by kernel_rfl) (by kernel_rfl) (fun _ _ _ h => h) (Or.inl ⟨by rfl, ?hygb8⟩) (by assumption) ?restgb8
                  case hygb8 => (intro w_ hSw; (try dsimp only at hSw); obtain ⟨_, c1_⟩ := hSw; go_simp; (try with_reducible rfl))
                  (try simp only [Act.put, List.setIfInBounds_toArray, List.set_cons_zero, List.set_cons_succ, List.getElem_toArray, List.getElem_cons_zero, List.getElem_cons_succ])
                  refine wpAnyH_take (i := 9) (v := ?vgb9) rfl (by kernel_rfl) (by kernel_rfl) (by kernel_rfl) (fun _ _ _ h => h) (Or.inl ⟨by rfl, ?hygb9⟩) (by assumption) ?restgb9
                  case hygb9 => (intro w_ hSw; (try dsimp only at hSw); obtain ⟨_, c1_⟩ := hSw; go_simp; (try with_reducible rfl))
                  (try simp only [Act.put, List.setIfInBounds_toArray, List.set_cons_zero, List.set_cons_succ, List.getElem_toArray, List.getElem_cons_zero, List.getElem_cons_succ])
                  refine wpAnyH_ready (rs := [11]) (by kernel_rfl) (by simp) ?_
                  refine (AllReadyH.cons rfl (fun K hK => ?_) AllReadyH.nil)
                  go_simp
                  refine hK.out _ _ ?hSgb11 (fun hHeld11 => ?_)
                  case hSgb11 => exact (((hHeld6.far (p := ⟨wo.heap.size, 0, none⟩) (Nat.le_refl _) had _).far (p := ⟨wo.heap.size, 1, none⟩) (Nat.le_refl _) had _).far (p := ⟨wo.heap.size, 2, none⟩) (Nat.le_refl _) had _).far (p := ⟨wo.heap.size, 3, none⟩) (Nat.le_refl _) had _
                  clear hK K
                  (try simp only [Act.put, List.setIfInBounds_toArray, List.set_cons_zero, List.set_cons_succ, List.getElem_toArray, List.getElem_cons_zero, List.getElem_cons_succ])
                  refine wpAnyH_take (i := 12) (v := ?vgb12) rfl (by kernel_rfl) (by kernel_rfl) (by kernel_rfl) (fun _ _ _ h => h) (Or.inl ⟨by rfl, ?hygb12⟩) (by assumption) ?restgb12
                  case hygb12 => (intro w_ hSw; (try dsimp only at hSw); obtain ⟨_, c1_⟩ := hSw; go_simp; (try with_reducible rfl))
                  (try simp only [Act.put, List.setIfInBounds_toArray, List.set_cons_zero, List.set_cons_succ, List.getElem_toArray, List.getElem_cons_zero, List.getElem_cons_succ])
                  refine wpAnyH_done (by kernel_rfl) ?_ _
                  have HKF := Lib.hid (set4 (a' := .int .i64 q0) (b' := .int .i64 q1) (c' := .int .i64 q2) (d' := .int .i64 q3) hka)
                  clear hka hfa y0 y1 y2 y3 hkz
                  generalize World.setCell _ ⟨wo.heap.size, 3, none⟩ _ = wf at *
                  have HBF := Lib.hid (below_two hbr hHeld11.1)
                  have HEF := Lib.hid (HEO.out.below hHeld11.1 hlt0)
                  have HLF := Lib.hid (HLT.out.below hHeld11.1)
                  have hblt := HKF.out.lt
                  clear hHeld hHeld6 hHeld10 hHeld11 hba
                  obtain ⟨ad2, ead2, hbk3, c0, c1, c2, c3, c4⟩ := (HLF.out.reads HRCL.out).role_at hlt
                  injection ead2 with ead2
                  subst ead2
                  rw [HRK.out] at c0 c1 c2 c3 c4
                  simp only [] at c0 c1 c2 c3 c4
                  obtain ⟨y0, y1, y2, y3⟩ := acc_blk HKF.out
                  cases okv
                  case false =>
                    have F : Hid (booksR gp = false) := HNO.out (by rw [HAT.out, HRI.out]; rfl)
                    go_wp2_with fail
                    go_quiet (fail)
                    go_wp2_with fail
                    go_ret
                    exact ⟨ret_bool (HG.out.trans F.out).symm, below_drewN HBF.out _⟩
                  case true =>
                    cases e1 : q1 == rk
                    case false =>
                      have e1' : (q1 != rk) = true := by rw [bne, e1]; rfl
                      have F : Hid (booksR gp = false) := HNO.out (by rw [HAT.out, HRI.out, e1]; rfl)
                      go_wp2_with fail
                      go_quiet (fail)
                      go_wp2_with fail
                      go_ret
                      exact ⟨ret_bool (HG.out.trans F.out).symm, below_drewN HBF.out _⟩
                    case true =>
                      have e1' : (q1 != rk) = false := by rw [bne, e1]; rfl
                      cases e2 : q2 == rb
                      case false =>
                        have e2' : (q2 != rb) = true := by rw [bne, e2]; rfl
                        have F : Hid (booksR gp = false) := HNO.out (by rw [HAT.out, HRI.out, e1, e2]; rfl)
                        have HEE := Lib.hid e1
                        clear e1
                        go_wp2_with fail
                        go_quiet (fail)
                        go_wp2_with fail
                        go_ret
                        exact ⟨ret_bool (HG.out.trans F.out).symm, below_drewN HBF.out _⟩
                      case true =>
                        have e2' : (q2 != rb) = false := by rw [bne, e2]; rfl
                        have HAT2 : Hid (roleAt ch rs k = !roleSeen rs k rc) := by show _ = _; rw [HAT.out, HRI.out, e1, e2]; rfl
                        have HEE := Lib.hid (And.intro e1 e2)
                        clear e1 e2
                        go_wp2_with fail
                        go_quiet (fail)
                        go_wp2_with fail
                        clear c0 c1 c2 c3 c4 y0 y1 y2 y3 e1' e2'
                        generalize hwi : World.drewN wf _ = wi at *
                        have HBI : Hid (Below w.heap.size w wi) := by show Below _ _ _; rw [← hwi]; exact below_drewN HBF.out _
                        have HEI : Hid (Blk wi w.heap.size 29 #[.string ⟨cu.toArray⟩, .int .i64 yr, .int .i64 mo, .int .i64 pe, .slice Ac nc cc, .int .i64 ro.c0, .int .i64 ro.c1, .int .i64 ro.c2, .int .i64 ro.c3, .int .i64 ro.c4, .int .i64 ro.c5, .int .i64 ro.c6, .int .i64 ro.c7, .int .i64 ro.c8, .int .i64 ro.c9, .int .i64 ro.c10, .int .i64 ro.c11, .int .i64 ro.c12, .int .i64 ro.c13, .int .i64 ro.c14, .slice Ae ne ce]) := by show Blk _ _ _ _; rw [← hwi]; exact HEF.out.drewN _
                        have HLI : Hid (LitAt wi ad (rolesC rs)) := by show LitAt _ _ _; rw [← hwi]; exact HLF.out
                        clear hwi
                        have hEI := HEI.out.lt
                        go_loopw [8] (fun i wr => ∃ j : Nat, i = .int .i64 j ∧ j ≤ k ∧ roleSeen rs j rc = false ∧ Below wi.heap.size wi wr) (fun i _ => k - (intOf i).toNat)
                        case atStart => exact ⟨0, rfl, by omega, rfl, Below.refl _ _⟩
                        case round =>
                          obtain ⟨j, rfl, hj, hja, hbj⟩ := hrel
                          obtain ⟨wj, rfl⟩ : ∃ wj : World, wj = wr := ⟨_, rfl⟩
                          have HJA := Lib.hid hja
                          have HBJ := Lib.hid (below_two HBI.out hbj)
                          have HEJ := Lib.hid (HEI.out.below hbj hEI)
                          have HLJ := Lib.hid (HLI.out.below hbj)
                          clear hja
                          by_cases hjk : j < k
                          case pos =>
                            have k5 : decide ((j : Int) < (k : Int)) = true := by rw [decide_eq_true_eq]; omega
                            have j15 : (j : Int) < 15 := by omega
                            obtain ⟨ad2, ead2, hbk3, c0, c1, c2, c3, c4⟩ := (HLJ.out.reads HRCL.out).role_at hlt
                            injection ead2 with ead2
                            subst ead2
                            rw [HRK.out] at c1
                            obtain ⟨ad3, ead3, hbk4, d0, d1, d2, d3, d4⟩ := (HLJ.out.reads HRCL.out).role_at (k := j) (by omega)
                            injection ead3 with ead3
                            subst ead3
                            simp only [] at c1
                            clear c0 c2 c3 c4 d0 d2 d3 d4
                            have HJS : Hid (roleSeen rs (j + 1) rc = (roleSeen rs j rc || (rs.getD j default).code == rc)) := roleSeen_step (by rw [HRL.out]; omega) rc
                            have HJY : Hid (((rs.getD j default).code == rc) = true → roleSeen rs k rc = true) := fun h => any_of hjk (by rw [HRL.out]; omega) h
                            generalize (rs.getD j default).code = yc at *
                            cases f1 : yc == rc
                            case false =>
                              have F : Hid (roleSeen rs (j + 1) rc = false) := by show _ = _; rw [HJS.out, HJA.out, f1]; rfl
                              clear HJS HJY
                              go_wp2_with fail
                              go_quiet (fail)
                              go_wp2_with fail
                              exact ⟨⟨j + 1, by go_num, by omega, F.out, below_drewN hbj _⟩, by simp [intOf]; omega⟩
                            case true =>
                              have HSE := Lib.hid (HJY.out f1)
                              have F : Hid (booksR gp = false) := HNO.out (by rw [HAT2.out, HSE.out]; rfl)
                              clear HJS HJY
                              go_wp2_with fail
                              go_quiet (fail)
                              go_wp2_with fail
                              go_ret
                              exact ⟨ret_bool (HG.out.trans F.out).symm, below_drewN HBJ.out _⟩
                          case neg =>
                            have k5 : decide ((j : Int) < (k : Int)) = false := by rw [decide_eq_false_iff_not]; omega
                            have HSE : Hid (roleSeen rs k rc = false) := by show _ = _; rw [show k = j by omega]; exact HJA.out
                            have F := Lib.hid (allR_step HD.out (by rw [HAT2.out, HSE.out]; rfl))
                            go_wp2_with fail
                            exact ⟨⟨k + 1, by go_num, by omega, F.out, HBJ.out, HEJ.out, HLJ.out⟩, by simp [intOf]; omega⟩
end Go.Proofs.YtcmmppkmkejniaaGreatDoor
