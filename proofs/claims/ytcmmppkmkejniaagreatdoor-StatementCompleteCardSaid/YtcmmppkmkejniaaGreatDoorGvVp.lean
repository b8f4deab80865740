/-
  group.Valid.
-/
import Derived.Test.YtcmmppkmkejniaaGreatDoorGvEn
import Derived.Test.YtcmmppkmkejniaaGreatDoorGvCal
namespace Go.Proofs.YtcmmppkmkejniaaGreatDoor
open Go.RowKit
set_option linter.unusedVariables false
theorem info_grp : (Tryz.prog.info? 29).map (·.size) = some 21 := by kernel_rfl
/-- a whole group is loaded -/
theorem wpList_load_grp {ops : Array Oper} {rest : List Oper} {o : Oper} {a : Act} {w : World} {Q : Exit → Act → World → Prop} (hw : Region.wanted o (yielded ops a.tmps) = true) (x : Operand) (ho : o.op = .load 29 x)
    (g : Nat) (hx : a.eval x = .pointer (some ⟨g, 0, none⟩)) (cs : Array Value) (hs : cs.size = 21) (hg : Blk w g 29 cs) (h : wpList Tryz.prog ops Q rest (a.put o.dst (.agg cs)) w) : wpList Tryz.prog ops Q (o :: rest) a w :=
  BigFrame.wpList_want hw fun K hK => wp_load_row 29 x ho g hx 29 cs (0, 0) _ hg Tryz.underlying29 rfl (by rw [info_grp, hs]) (hK _ _ h)
theorem grpP_1 {g : PGrp} (h : curOk g.cur = false) : grpP g = false := by unfold grpP; rw [h]; rfl
theorem grpP_2 {g : PGrp} (h : calOk g.year g.month g.periods = false) : grpP g = false := by unfold grpP; rw [h]; simp
theorem grpP_3 {g : PGrp} (h : accsP g = false) : grpP g = false := by unfold grpP; rw [h]; simp
theorem grpP_4 {g : PGrp} (h : entsIn g = false) : grpP g = false := by unfold grpP; rw [h]; simp
theorem grpP_5 {g : PGrp} {k : Nat} (hk : k < g.ents.length) (h : entAtP g k = false) : grpP g = false := by unfold grpP; rw [allR_no hk h]; simp
theorem grpP_yes {g : PGrp} (h1 : curOk g.cur = true) (h2 : calOk g.year g.month g.periods = true) (h3 : accsP g = true) (h4 : entsIn g = true) (h5 : (List.range g.ents.length).all (entAtP g) = true) : grpP g = true := by unfold grpP; rw [h1, h2, h3, h4, h5]; rfl
theorem getD_map {α β : Type} [Inhabited α] [Inhabited β] (f : α → β) (hf : f default = default) (l : List α) (k : Nat) : (l.map f).getD k default = f (l.getD k default) := by
  simp only [List.getD_eq_getElem?_getD, List.getElem?_map]
  cases l[k]? with
  | none => exact hf.symm
  | some x => rfl
theorem nameSeen_step {es : List PEnt} {k : Nat} (hk : k < es.length) (s : List UInt8) : nameSeen es (k + 1) s = (nameSeen es k s || (es.getD k default).name == s) := any_take hk
theorem entsIn_1 {g : PGrp} (h : ¬ 1 ≤ g.ents.length) : entsIn g = false := by unfold entsIn; rw [decide_eq_false h]; rfl
theorem entsIn_2 {g : PGrp} (h : ¬ g.ents.length ≤ 12) : entsIn g = false := by unfold entsIn; rw [decide_eq_false h]; simp
theorem entsIn_3 {g : PGrp} (h : (g.ents.getD 0 default).joint = true) : entsIn g = false := by unfold entsIn; rw [h]; simp
theorem entsIn_yes {g : PGrp} (h1 : 1 ≤ g.ents.length) (h2 : g.ents.length ≤ 12) (h3 : (g.ents.getD 0 default).joint = false) : entsIn g = true := by unfold entsIn; rw [decide_eq_true h1, decide_eq_true h2, h3]; rfl
set_option maxRecDepth 100000 in
set_option maxHeartbeats 8000000 in
theorem grp_any (g : SGrp) (B : Nat) (w : World) (hg : GrpIn w B g) (hB : B ≤ w.heap.size) (hn : g.nc ≤ 1000) (hen : ∀ x ∈ g.ents, x.nc ≤ 1000) :
    Calls Tryz.prog 33 #[grpV g] w fun e w' => e = .returned (.bool (grpP g.p)) ∧ Below w.heap.size w w' := by
  have HENT : Hid (∀ x ∈ g.ents, ∀ W : World, Below w.heap.size w W → Calls Tryz.prog 63 #[grpV g, entV x] W fun e w' => e = .returned (.bool (entP g.p x.p)) ∧ Below W.heap.size W w') := fun x hx W hW =>
    ent_any g x B W (hg.low hB (Nat.le_refl _) hW) ((hg.ok x hx).low hB (Nat.le_refl _) hW) (by have := hW.size; omega) hn (hen x hx)
  have HACC : Hid (∀ W : World, Below w.heap.size w W → Calls Tryz.prog 62 #[grpV g] W fun e w' => e = .returned (.bool (accsP g.p)) ∧ Below W.heap.size W w') := fun W hW =>
    accs_any g B W (hg.low hB (Nat.le_refl _) hW) (by have := hW.size; omega) hn
  have HEL : Hid (g.p.ents.length = g.ne) := by
    show _ = _
    unfold SGrp.p
    rw [List.length_map, ents_len hg.en]
  have HGD : Hid (∀ k, g.p.ents.getD k default = (g.ents.getD k default).p) := fun k => getD_map SEnt.p rfl g.ents k
  have HEL2 := Lib.hid (ents_len hg.en)
  obtain ⟨cu, yr, mo, pe, Ac, nc, cc, ch, ro, Ae, ne, ce, es⟩ := g
  unfold grpV at HENT HACC ⊢
  have HEN := Lib.hid hg.en
  have HOK := Lib.hid hg.ok
  have HCU := Lib.hid hg.cu
  clear hg hen
  simp only [] at HEN HOK HCU HENT HACC HEL HGD HEL2 ⊢
  obtain ⟨gp, hgp⟩ : ∃ gp, SGrp.p ⟨cu, yr, mo, pe, Ac, nc, cc, ch, ro, Ae, ne, ce, es⟩ = gp := ⟨_, rfl⟩
  have HGU : Hid (gp.cur = cu) := by show _ = _; rw [← hgp]; rfl
  have HGY : Hid (calOk gp.year gp.month gp.periods = calOk yr mo pe) := by show _ = _; rw [← hgp]; rfl
  rw [hgp] at HENT HACC HEL HGD ⊢
  clear hgp
  generalize hgo : grpP gp = ok
  have HG := Lib.hid hgo.symm
  clear hgo
  have HBX := Lib.hid ((Below.refl w.heap.size w).alloc (Nat.le_refl _) (.cells #[.string ⟨cu.toArray⟩, .int .i64 yr, .int .i64 mo, .int .i64 pe, .slice Ac nc cc, .int .i64 ro.c0, .int .i64 ro.c1, .int .i64 ro.c2, .int .i64 ro.c3, .int .i64 ro.c4, .int .i64 ro.c5, .int .i64 ro.c6, .int .i64 ro.c7, .int .i64 ro.c8, .int .i64 ro.c9, .int .i64 ro.c10, .int .i64 ro.c11, .int .i64 ro.c12, .int .i64 ro.c13, .int .i64 ro.c14, .slice Ae ne ce] 29))
  have HE := Lib.hid (Blk.new w 29 #[.string ⟨cu.toArray⟩, .int .i64 yr, .int .i64 mo, .int .i64 pe, .slice Ac nc cc, .int .i64 ro.c0, .int .i64 ro.c1, .int .i64 ro.c2, .int .i64 ro.c3, .int .i64 ro.c4, .int .i64 ro.c5, .int .i64 ro.c6, .int .i64 ro.c7, .int .i64 ro.c8, .int .i64 ro.c9, .int .i64 ro.c10, .int .i64 ro.c11, .int .i64 ro.c12, .int .i64 ro.c13, .int .i64 ro.c14, .slice Ae ne ce])
  have hmm := @run_makeMap Tryz.prog
  go_enter Tryz.func33, Tryz.ntmps33
  go_wp2_with fail
  have hs0 : (w.alloc (.cells #[.string ⟨cu.toArray⟩, .int .i64 yr, .int .i64 mo, .int .i64 pe, .slice Ac nc cc, .int .i64 ro.c0, .int .i64 ro.c1, .int .i64 ro.c2, .int .i64 ro.c3, .int .i64 ro.c4, .int .i64 ro.c5, .int .i64 ro.c6, .int .i64 ro.c7, .int .i64 ro.c8, .int .i64 ro.c9, .int .i64 ro.c10, .int .i64 ro.c11, .int .i64 ro.c12, .int .i64 ro.c13, .int .i64 ro.c14, .slice Ae ne ce] 29)).heap.size = w.heap.size + 1 := by simp
  generalize hw0 : w.alloc _ = w0 at *
  clear hw0
  refine (cur_any cu _ HCU.out).mono ?_
  rintro e wx ⟨rfl, rfl⟩
  cases v1 : curOk cu
  case false =>
    have F : Hid (grpP gp = false) := grpP_1 (by rw [HGU.out]; exact v1)
    clear v1
    go_wp2_with fail
    go_ret
    exact ⟨ret_bool (HG.out.trans F.out).symm, HBX.out⟩
  case true =>
    have V1 := Lib.hid v1
    clear v1
    obtain ⟨g0, g1, g2, g3, _⟩ := grp_blk HE.out
    go_wp2_with fail
    refine (cal_any yr mo pe _).mono ?_
    rintro e w1 ⟨rfl, hb1⟩
    have HB1 := Lib.hid (below_two HBX.out hb1)
    have HE1 := Lib.hid (HE.out.below hb1 (by omega))
    have hs1 : w.heap.size < w1.heap.size := by have := hb1.size; omega
    clear hb1 HBX g0 g1 g2 g3
    have HBX := HB1
    cases v2 : calOk yr mo pe
    case false =>
      have F : Hid (grpP gp = false) := grpP_2 (by rw [HGY.out]; exact v2)
      clear v2
      go_wp2_with fail
      go_ret
      exact ⟨ret_bool (HG.out.trans F.out).symm, HBX.out⟩
    case true =>
      have V2 := Lib.hid v2
      clear v2
      go_wp2_with (refine wpList_load_grp (by first | rfl | simp [Region.wanted, yielded]) _ rfl _ rfl _ rfl HE1.out ?_)
      refine (HACC.out _ HB1.out).mono ?_
      rintro e w2 ⟨rfl, hb2⟩
      have HB2 := Lib.hid (below_two HB1.out hb2)
      have HE2 := Lib.hid (HE1.out.below hb2 hs1)
      have hs2 : w.heap.size < w2.heap.size := by have := hb2.size; omega
      clear hb2 HBX
      have HBX := HB2
      cases v3 : accsP gp
      case false =>
        have F : Hid (grpP gp = false) := grpP_3 v3
        clear v3
        go_wp2_with fail
        go_ret
        exact ⟨ret_bool (HG.out.trans F.out).symm, HBX.out⟩
      case true =>
        have V3 := Lib.hid v3
        clear v3
        have g20 := HE2.out.cell 20
        simp only [List.getElem?_toArray, List.getElem?_cons_succ, List.getElem?_cons_zero] at g20
        by_cases h1 : 1 ≤ ne
        case neg =>
          have d1 : decide ((ne : Int) < 1) = true := by rw [decide_eq_true_eq]; omega
          have F : Hid (grpP gp = false) := grpP_4 (entsIn_1 (by rw [HEL.out]; exact h1))
          go_wp2_with fail
          go_ret
          exact ⟨ret_bool (HG.out.trans F.out).symm, HBX.out⟩
        case pos =>
          have d1 : decide ((ne : Int) < 1) = false := by rw [decide_eq_false_iff_not]; omega
          by_cases h12 : ne ≤ 12
          case neg =>
            have d2 : decide ((12 : Int) < (ne : Int)) = true := by rw [decide_eq_true_eq]; omega
            have F : Hid (grpP gp = false) := grpP_4 (entsIn_2 (by rw [HEL.out]; exact h12))
            go_wp2_with fail
            go_ret
            exact ⟨ret_bool (HG.out.trans F.out).symm, HBX.out⟩
          case pos =>
            have d2 : decide ((12 : Int) < (ne : Int)) = false := by rw [decide_eq_false_iff_not]; omega
            have b0 : (0 : Int) < (ne : Int) := by omega
            obtain ⟨ad, rfl, hbk, j0, j1, j2, j3, j4⟩ := (HEN.out.lowg hB (Nat.le_refl _) HB2.out).ent_at (k := 0) (by omega)
            have HJ : Hid ((gp.ents.getD 0 default).joint = (es.getD 0 default).joint) := by show _ = _; rw [HGD.out]; rfl
            generalize (es.getD 0 default).joint = jn at *
            simp only [Nat.zero_mul, show ad.add 0 = ad from rfl] at j4
            clear j0 j1 j2 j3
            cases jn
            case true =>
              have F : Hid (grpP gp = false) := grpP_4 (entsIn_3 HJ.out)
              go_wp2_with fail
              go_ret
              exact ⟨ret_bool (HG.out.trans F.out).symm, HBX.out⟩
            case false =>
              have V4 : Hid (entsIn gp = true) := entsIn_yes (by rw [HEL.out]; exact h1) (by rw [HEL.out]; exact h12) HJ.out
              have HM0 := Lib.hid (MapB.made (M := MS) w2)
              have HB3 := Lib.hid (HB2.out.alloc (by omega) (.map #[] 0))
              have HE3 := Lib.hid (HE2.out.alloc (.map #[] 0))
              go_wp2_with fail
              clear g20 j4
              go_loopw [44] (fun i wr => ∃ (k : Nat) (m : List (List UInt8 × Bool)), i = .int .i64 k ∧ k ≤ ne ∧ (List.range k).all (entAtP gp) = true ∧ MapB MS wr w2.heap.size m ∧ (∀ s, getB m s = nameSeen gp.ents k s) ∧ Below w.heap.size w wr ∧
                Blk wr w.heap.size 29 #[.string ⟨cu.toArray⟩, .int .i64 yr, .int .i64 mo, .int .i64 pe, .slice Ac nc cc, .int .i64 ro.c0, .int .i64 ro.c1, .int .i64 ro.c2, .int .i64 ro.c3, .int .i64 ro.c4, .int .i64 ro.c5, .int .i64 ro.c6, .int .i64 ro.c7, .int .i64 ro.c8, .int .i64 ro.c9, .int .i64 ro.c10, .int .i64 ro.c11, .int .i64 ro.c12, .int .i64 ro.c13, .int .i64 ro.c14, .slice (some ad) ne ce]) (fun i _ => ne - (intOf i).toNat)
              case atStart => exact ⟨0, [], rfl, by omega, rfl, HM0.out, fun _ => rfl, HB3.out, HE3.out⟩
              case round =>
                obtain ⟨k, m, rfl, hk, hd, hm, hgt, hbr, hbl⟩ := hrel
                obtain ⟨wo, rfl⟩ : ∃ wo : World, wo = wr := ⟨_, rfl⟩
                have HD := Lib.hid hd
                have HM := Lib.hid hm
                have HGT := Lib.hid hgt
                have HEO := Lib.hid hbl
                have hlt0 := hbl.lt
                have hml := hm.lt
                clear hd hm hgt
                by_cases hlt : k < ne
                case neg =>
                  have k3 : decide ((k : Int) < (ne : Int)) = false := by rw [decide_eq_false_iff_not]; omega
                  have F : Hid (grpP gp = true) := grpP_yes (by rw [HGU.out]; exact V1.out) (by rw [HGY.out]; exact V2.out) V3.out V4.out (by rw [HEL.out, show ne = k by omega]; exact HD.out)
                  clear hbl
                  go_wp2_with fail
                  go_ret
                  exact ⟨ret_bool (HG.out.trans F.out).symm, hbr⟩
                case pos =>
                  have k3 : decide ((k : Int) < (ne : Int)) = true := by rw [decide_eq_true_eq]; omega
                  have b15 : (k : Int) < (ne : Int) := by omega
                  have hkl : k < es.length := by rw [HEL2.out]; exact hlt
                  obtain ⟨ad', ead, hbk2, c0, c1, c2, c3, c4⟩ := (HEN.out.lowg hB (Nat.le_refl _) hbr).ent_at hlt
                  injection ead with ead
                  subst ead
                  have hmem : es.getD k default ∈ es := by simp [List.getD, hkl]
                  have HEX := Lib.hid (HENT.out _ hmem)
                  have HNM := Lib.hid (HOK.out _ hmem).nm
                  have HNO : Hid (entAtP gp k = false → grpP gp = false) := fun h => grpP_5 (by rw [HEL.out]; exact hlt) h
                  have HAT : Hid (entAtP gp k = (!nameSeen gp.ents k (es.getD k default).name && entP gp (es.getD k default).p)) := by show _ = _; unfold entAtP; rw [HGD.out]; rfl
                  have HST : Hid (∀ s, nameSeen gp.ents (k + 1) s = (nameSeen gp.ents k s || (es.getD k default).name == s)) := fun s => by
                    have := nameSeen_step (es := gp.ents) (k := k) (by rw [HEL.out]; exact hlt) s
                    rw [HGD.out] at this
                    exact this
                  have HSN : Hid (getB m (es.getD k default).name = nameSeen gp.ents k (es.getD k default).name) := HGT.out _
                  clear hkl hmem
                  generalize es.getD k default = x at *
                  obtain ⟨nm, xu, Xc, xn, xc, xch, Al, nl, cl, ls, jt⟩ := x
                  unfold entV at HEX
                  simp only [] at c0 c1 c2 c3 c4 HEX HNM HAT HST HSN
                  have HKO : Hid (MS.ok nm) := HNM.out
                  have hs3 := hbr.size
                  have HB6 := Lib.hid (hbr.alloc hs3 (.cells #[.string ⟨nm.toArray⟩, .string ⟨xu.toArray⟩, .slice Xc xn xc, .slice Al nl cl, .bool jt] 61))
                  have HM6 := Lib.hid (HM.out.alloc (.cells #[.string ⟨nm.toArray⟩, .string ⟨xu.toArray⟩, .slice Xc xn xc, .slice Al nl cl, .bool jt] 61))
                  have HE6 := Lib.hid (HEO.out.alloc (.cells #[.string ⟨nm.toArray⟩, .string ⟨xu.toArray⟩, .slice Xc xn xc, .slice Al nl cl, .bool jt] 61))
                  have HK6 := Lib.hid (Blk.new wo 61 #[.string ⟨nm.toArray⟩, .string ⟨xu.toArray⟩, .slice Xc xn xc, .slice Al nl cl, .bool jt])
                  clear hbl
                  cases sv : nameSeen gp.ents k nm
                  case true =>
                    have F : Hid (grpP gp = false) := HNO.out (by rw [HAT.out, sv]; simp)
                    have HS2 : Hid (getB m nm = true) := HSN.out.trans sv
                    clear sv
                    go_wp2_with (at_lookup; refine wpList_lookupB (M := MS) _ rfl _ _ rfl w2.heap.size m nm rfl rfl HM6.out HKO.out ?_; rw [HS2.out])
                    go_ret
                    exact ⟨ret_bool (HG.out.trans F.out).symm, HB6.out⟩
                  case false =>
                    have HS2 : Hid (getB m nm = false) := HSN.out.trans sv
                    generalize hev : entP gp (SEnt.p ⟨nm, xu, Xc, xn, xc, xch, Al, nl, cl, ls, jt⟩) = ev at *
                    have HAT2 : Hid (entAtP gp k = ev) := by show _ = _; rw [HAT.out, sv]; simp
                    clear sv hev HAT
                    go_wp2_with (first | (at_lookup; refine wpList_lookupB (M := MS) _ rfl _ _ rfl w2.heap.size m nm rfl rfl HM6.out HKO.out ?_; rw [HS2.out]) | (refine wpList_load_grp (by first | rfl | simp [Region.wanted, yielded]) _ rfl _ rfl _ rfl HE6.out ?_))
                    refine (HEX.out _ HB6.out).mono ?_
                    rintro e w7 ⟨rfl, hb7⟩
                    have HB7 := Lib.hid (below_two HB6.out hb7)
                    have HM7 := Lib.hid (HM6.out.below hb7 (by simp only [World.size_alloc]; omega))
                    have HE7 := Lib.hid (HE6.out.below hb7 (by simp only [World.size_alloc]; omega))
                    have hk7 := HK6.out.below hb7 (by simp)
                    obtain ⟨q0, q1, q2, q3, q4⟩ := ent_blk hk7
                    have hs7 := HB7.out.size
                    clear hb7 hk7 c0 c1 c2 c3 c4
                    cases ev
                    case false =>
                      have F : Hid (grpP gp = false) := HNO.out HAT2.out
                      go_wp2_with fail
                      go_ret
                      exact ⟨ret_bool (HG.out.trans F.out).symm, HB7.out⟩
                    case true =>
                      have F := Lib.hid (allR_step HD.out HAT2.out)
                      go_wp2_with (at_mapUpdate; refine wpList_storeB (M := MS) _ rfl _ _ _ rfl w2.heap.size m nm true rfl rfl rfl HM7.out HKO.out ?_; intro w8 hm8 hg8)
                      refine ⟨⟨k + 1, putB m nm true, by go_num, by omega, F.out, hm8, ?_, HB7.out.grown hg8 hs7 (fun j hj => by cases hj; omega), HE7.out.grown hg8 (by intro e; have := Option.some.inj e; omega)⟩, by simp [intOf]; omega⟩
                      intro s
                      rw [getB_putB, HST.out, HGT.out]
                      by_cases hcc : nm = s
                      · rw [if_pos hcc, beq_iff_eq.2 hcc, Bool.or_true]
                      · rw [if_neg hcc, beq_eq_false_iff_ne.2 hcc, Bool.or_false]
end Go.Proofs.YtcmmppkmkejniaaGreatDoor
