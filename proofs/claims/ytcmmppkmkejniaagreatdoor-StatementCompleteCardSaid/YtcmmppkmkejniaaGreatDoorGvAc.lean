/-
  group.accounts: the chart and the roles of a group.
-/
import Derived.Test.YtcmmppkmkejniaaGreatDoorGvRo
import Derived.Test.YtcmmppkmkejniaaGreatDoorGvMv
namespace Go.Proofs.YtcmmppkmkejniaaGreatDoor
open Go.RowKit
set_option linter.unusedVariables false
/-- a block of the call's own reads as a list -/
def LitAt (w : World) (ad : Addr) (xs : List Value) : Prop := ad.block < w.heap.size ∧ ∀ j u, xs[j]? = some u → w.cell? (ad.add j) = some u
section
variable {w w' : World} {ad : Addr} {xs : List Value}
theorem LitAt.of {size n : Nat} (h : Reads w w.heap.size size (some ad) n xs) (hn : 0 < n) : LitAt w ad xs := by
  obtain ⟨ad', e, hb, hc⟩ := h.2 hn
  injection e with e
  subst e
  exact ⟨hb, hc⟩
theorem LitAt.reads {size n : Nat} (h : LitAt w ad xs) (hl : xs.length = n * size) : Reads w w.heap.size size (some ad) n xs := ⟨hl, fun _ => ⟨ad, rfl, h.1, h.2⟩⟩
theorem LitAt.below (h : LitAt w ad xs) (hb : Below w.heap.size w w') : LitAt w' ad xs := ⟨Nat.lt_of_lt_of_le h.1 hb.size, fun j u hu => (hb.cell (by rw [block_of_add]; exact h.1)).trans (h.2 j u hu)⟩
theorem LitAt.alloc (h : LitAt w ad xs) (o : Obj) : LitAt (w.alloc o) ad xs := h.below ((Below.refl _ _).alloc (Nat.le_refl _) _)
theorem LitAt.grown {row : Option Nat} (h : LitAt w ad xs) (hg : w.grownBy w' row) (hr : some ad.block ≠ row) : LitAt w' ad xs :=
  ⟨Nat.lt_of_lt_of_le h.1 hg.size, fun j u hu => (World.cell?_of_block (hg.block (ad.add j).block (by rw [block_of_add]; exact h.1) (by rw [block_of_add]; exact hr))).trans (h.2 j u hu)⟩
end
theorem rolesOk_no {l : List SAcc} {rs : List SRole} {k : Nat} (hk : k < rs.length) (h : roleAt l rs k = false) : rolesOk l rs = false := by unfold rolesOk; exact allR_no hk h
theorem accsP_1 {g : PGrp} (h : chartP g.chart true = false) : accsP g = false := by unfold accsP; rw [h]; rfl
theorem accsP_2 {g : PGrp} (h : (g.chart.any fun a => !basedB a) = true) : accsP g = false := by unfold accsP; rw [h]; simp
theorem accsP_3 {g : PGrp} (h : rolesOk g.chart (rolesL g.roles) = false) : accsP g = false := by unfold accsP; rw [h]; simp
theorem accsP_yes {g : PGrp} (h1 : chartP g.chart true = true) (h2 : (g.chart.any fun a => !basedB a) = false) (h3 : rolesOk g.chart (rolesL g.roles) = true) : accsP g = true := by unfold accsP; rw [h1, h2, h3]; rfl
theorem roleIs_none {l : List SAcc} {r : SRole} (h : findA l r.code = none) : roleIs l r = false := by unfold roleIs; rw [h]
theorem roleIs_some {l : List SAcc} {r : SRole} {a : SAcc} (h : findA l r.code = some a) : roleIs l r = ((a.kind == r.kind) && (a.basis == r.basis)) := by unfold roleIs; rw [h]
theorem rolesC_len (r : SRoles) : (rolesC (rolesL r)).length = 15 * 5 := rfl
theorem roleSeen_step {rs : List SRole} {k : Nat} (hk : k < rs.length) (c : Int) : roleSeen rs (k + 1) c = (roleSeen rs k c || (rs.getD k default).code == c) := any_take hk
theorem contB_any (l : List SAcc) (A : Option Addr) (n c B : Nat) (w : World) (hr : Reads w B 4 A n (accsC l)) (hB : B ≤ w.heap.size) (hn : n ≤ 9223372036854775807) :
    Calls Tryz.prog 82 #[.slice A n c, .func (.func 83) #[] #[]] w fun e w' => e = .returned (.bool (l.any fun a => !basedB a)) ∧ Below w.heap.size w w' :=
  contA_any 83 #[] (fun a => !basedB a) (fun _ => True) enter_acc1 (fun _ _ _ _ => trivial) l (fun x _ w _ => acc1_any x w) A n c B w hr hB hn trivial
set_option maxRecDepth 100000 in
set_option maxHeartbeats 8000000 in
theorem accs_any (g : SGrp) (B : Nat) (w : World) (hg : GrpIn w B g) (hB : B ≤ w.heap.size) (hn : g.nc ≤ 1000) :
    Calls Tryz.prog 62 #[grpV g] w fun e w' => e = .returned (.bool (accsP g.p)) ∧ Below w.heap.size w w' := by
  obtain ⟨cu, yr, mo, pe, Ac, nc, cc, ch, ro, Ae, ne, ce, es⟩ := g
  unfold grpV
  have HC := Lib.hid hg.ch
  have HRO := Lib.hid hg.ro
  clear hg
  simp only [] at HC HRO hn ⊢
  obtain ⟨gp, hgp⟩ : ∃ gp, SGrp.p ⟨cu, yr, mo, pe, Ac, nc, cc, ch, ro, Ae, ne, ce, es⟩ = gp := ⟨_, rfl⟩
  have HGC : Hid (gp.chart = ch) := by show _ = _; rw [← hgp]; rfl
  have HGR : Hid (gp.roles = ro) := by show _ = _; rw [← hgp]; rfl
  rw [hgp]
  clear hgp
  generalize hgo : accsP gp = ok
  have HG := Lib.hid hgo.symm
  clear hgo
  have HB0 := Lib.hid ((Below.refl w.heap.size w).alloc (Nat.le_refl _) (.cells #[.string ⟨cu.toArray⟩, .int .i64 yr, .int .i64 mo, .int .i64 pe, .slice Ac nc cc, .int .i64 ro.c0, .int .i64 ro.c1, .int .i64 ro.c2, .int .i64 ro.c3, .int .i64 ro.c4, .int .i64 ro.c5, .int .i64 ro.c6, .int .i64 ro.c7, .int .i64 ro.c8, .int .i64 ro.c9, .int .i64 ro.c10, .int .i64 ro.c11, .int .i64 ro.c12, .int .i64 ro.c13, .int .i64 ro.c14, .slice Ae ne ce] 29))
  have HE := Lib.hid (Blk.new w 29 #[.string ⟨cu.toArray⟩, .int .i64 yr, .int .i64 mo, .int .i64 pe, .slice Ac nc cc, .int .i64 ro.c0, .int .i64 ro.c1, .int .i64 ro.c2, .int .i64 ro.c3, .int .i64 ro.c4, .int .i64 ro.c5, .int .i64 ro.c6, .int .i64 ro.c7, .int .i64 ro.c8, .int .i64 ro.c9, .int .i64 ro.c10, .int .i64 ro.c11, .int .i64 ro.c12, .int .i64 ro.c13, .int .i64 ro.c14, .slice Ae ne ce])
  have hmm := @run_makeMap Tryz.prog
  go_enter Tryz.func62, Tryz.ntmps62
  go_wp2_with fail
  have H1 := Lib.hid (chart_any ch Ac nc cc true B _ (HC.out.rd.lowg hB (Nat.le_refl _) HB0.out) (by simp only [World.size_alloc]; omega) hn HC.out.ok)
  refine H1.out.mono ?_
  rintro e w1 ⟨rfl, hb1⟩
  have HB1 := Lib.hid (below_two HB0.out hb1)
  have HE1 := Lib.hid (HE.out.below hb1 (by simp))
  have hs1 : w.heap.size < w1.heap.size := by have := hb1.size; simp only [World.size_alloc] at this; omega
  have g4 := HE1.out.cell 4
  simp only [List.getElem?_toArray, List.getElem?_cons_succ, List.getElem?_cons_zero] at g4
  clear hb1 H1
  cases v1 : chartP ch true
  case false =>
    have F : Hid (accsP gp = false) := accsP_1 (by rw [HGC.out]; exact v1)
    clear v1
    go_wp2_with fail
    go_ret
    exact ⟨ret_bool (HG.out.trans F.out).symm, HB1.out⟩
  case true =>
    have V1 := Lib.hid v1
    clear v1
    have H2 := Lib.hid (contB_any ch Ac nc cc B w1 (HC.out.rd.lowg hB (Nat.le_refl _) HB1.out) (by omega) HC.out.le)
    go_wp2_with fail
    refine H2.out.mono ?_
    rintro e w2 ⟨rfl, hb2⟩
    have HB2 := Lib.hid (below_two HB1.out hb2)
    have HE2 := Lib.hid (HE1.out.below hb2 hs1)
    have hs2 : w.heap.size < w2.heap.size := by have := hb2.size; omega
    clear hb2 H2 g4
    cases v2 : (ch.any fun a => !basedB a)
    case true =>
      have F : Hid (accsP gp = false) := accsP_2 (by rw [HGC.out]; exact v2)
      clear v2
      go_wp2_with fail
      go_ret
      exact ⟨ret_bool (HG.out.trans F.out).symm, HB2.out⟩
    case false =>
      have V2 := Lib.hid v2
      clear v2
      have HM0 := Lib.hid (MapB.made (M := MI) w2)
      have HB3 := Lib.hid (HB2.out.alloc (by omega) (.map #[] 0))
      have HE3 := Lib.hid (HE2.out.alloc (.map #[] 0))
      obtain ⟨g0, g1, g2, g3, g4, g5, g6, g7, g8, g9, g10, g11, g12, g13, g14, g15, g16, g17, g18, g19, g20⟩ := grp_blk HE2.out
      have H4 : Hid (∀ W : World, Calls Tryz.prog 85 #[.agg #[.int .i64 ro.c0, .int .i64 ro.c1, .int .i64 ro.c2, .int .i64 ro.c3, .int .i64 ro.c4, .int .i64 ro.c5, .int .i64 ro.c6, .int .i64 ro.c7, .int .i64 ro.c8, .int .i64 ro.c9, .int .i64 ro.c10, .int .i64 ro.c11, .int .i64 ro.c12, .int .i64 ro.c13, .int .i64 ro.c14]] W fun e w' => ∃ ad : Addr, e = .returned (.slice (some ad) 15 15) ∧ Reads w' w'.heap.size 5 (some ad) 15 (rolesC (rolesL ro)) ∧ W.heap.size ≤ ad.block ∧ Below W.heap.size W w') := fun W => roles_any ro W
      go_wp2_with fail
      refine (H4.out _).mono ?_
      rintro e w4 ⟨ad, rfl, hrd, had, hb4⟩
      have HB4 := Lib.hid (below_two HB3.out hb4)
      have HE4 := Lib.hid (HE3.out.below hb4 (by simp only [World.size_alloc]; omega))
      have HM4 := Lib.hid (HM0.out.below hb4 (by simp))
      have HLT4 := Lib.hid (LitAt.of hrd (by omega))
      have hmb : w.heap.size < w2.heap.size := hs2
      have HNE : Hid (w2.heap.size < ad.block) := by show _ < _; simp only [World.size_alloc] at had; omega
      clear hrd had hb4 H4 g0 g1 g2 g3 g4 g5 g6 g7 g8 g9 g10 g11 g12 g13 g14 g15 g16 g17 g18 g19 g20
      have HYES : Hid (rolesOk ch (rolesL ro) = true → accsP gp = true) := fun h => accsP_yes (by rw [HGC.out]; exact V1.out) (by rw [HGC.out]; exact V2.out) (by rw [HGC.out, HGR.out]; exact h)
      have HNO' : Hid (∀ k, k < 15 → roleAt ch (rolesL ro) k = false → accsP gp = false) := fun k hk h => accsP_3 (by rw [HGC.out, HGR.out]; exact rolesOk_no (by rw [rolesL_len]; exact hk) h)
      have HRL : Hid ((rolesL ro).length = 15) := rolesL_len ro
      have HRCL : Hid ((rolesC (rolesL ro)).length = 15 * 5) := rolesC_len ro
      generalize rolesL ro = rs at *
      generalize hmbe : w2.heap.size = mb at *
      clear hmbe
      go_wp2_with fail
      go_loopw [22] (fun i wr => ∃ (k : Nat) (m : List (Int × Bool)), i = .int .i64 k ∧ k ≤ 15 ∧ (List.range k).all (roleAt ch rs) = true ∧ MapB MI wr mb m ∧ (∀ c, getB m c = roleSeen rs k c) ∧ Below w.heap.size w wr ∧
        Blk wr w.heap.size 29 #[.string ⟨cu.toArray⟩, .int .i64 yr, .int .i64 mo, .int .i64 pe, .slice Ac nc cc, .int .i64 ro.c0, .int .i64 ro.c1, .int .i64 ro.c2, .int .i64 ro.c3, .int .i64 ro.c4, .int .i64 ro.c5, .int .i64 ro.c6, .int .i64 ro.c7, .int .i64 ro.c8, .int .i64 ro.c9, .int .i64 ro.c10, .int .i64 ro.c11, .int .i64 ro.c12, .int .i64 ro.c13, .int .i64 ro.c14, .slice Ae ne ce] ∧ LitAt wr ad (rolesC rs)) (fun i _ => 15 - (intOf i).toNat)
      case atStart => exact ⟨0, [], rfl, by omega, rfl, HM4.out, fun _ => rfl, HB4.out, HE4.out, HLT4.out⟩
      case round =>
        obtain ⟨k, m, rfl, hk, hd, hm, hgt, hbr, hbl, hlit⟩ := hrel
        obtain ⟨wo, rfl⟩ : ∃ wo : World, wo = wr := ⟨_, rfl⟩
        have HD := Lib.hid hd
        have HM := Lib.hid hm
        have HGT := Lib.hid hgt
        have HEO := Lib.hid hbl
        have HLT := Lib.hid hlit
        have hlt0 := hbl.lt
        have hml := hm.lt
        have g4 := hbl.cell 4
        simp only [List.getElem?_toArray, List.getElem?_cons_succ, List.getElem?_cons_zero] at g4
        clear hd hm hgt hbl hlit
        by_cases hlt : k < 15
        case neg =>
          have k3 : decide ((k : Int) < 15) = false := by rw [decide_eq_false_iff_not]; omega
          have F : Hid (accsP gp = true) := HYES.out (by unfold rolesOk; rw [HRL.out, show 15 = k by omega]; exact HD.out)
          go_wp2_with fail
          go_ret
          exact ⟨ret_bool (HG.out.trans F.out).symm, hbr⟩
        case pos =>
          have k3 : decide ((k : Int) < 15) = true := by rw [decide_eq_true_eq]; omega
          have b15 : (k : Int) < 15 := by omega
          have hkl : k < rs.length := by rw [HRL.out]; exact hlt
          obtain ⟨ad', ead, hbk, c0, c1, c2, c3, c4⟩ := (HLT.out.reads HRCL.out).role_at hlt
          injection ead with ead
          subst ead
          have HOKX := Lib.hid (HRO.out (rs.getD k default) (by simp [List.getD, hkl]))
          have HAT : Hid (roleAt ch rs k = (roleIs ch (rs.getD k default) && !roleSeen rs k (rs.getD k default).code)) := rfl
          have HSN : Hid (getB m (rs.getD k default).code = roleSeen rs k (rs.getD k default).code) := HGT.out _
          have HST : Hid (∀ c : Int, roleSeen rs (k + 1) c = (roleSeen rs k c || (rs.getD k default).code == c)) := fun c => roleSeen_step hkl c
          have HNO := Lib.hid (HNO'.out k hlt)
          clear hkl
          generalize rs.getD k default = x at *
          obtain ⟨rnm, rc, rk, rb, rm⟩ := x
          simp only [] at c0 c1 c2 c3 c4 HAT HSN HST HOKX
          have HKO : Hid (MI.ok rc) := HOKX.out
          have hs3 := hbr.size
          have HB6 := Lib.hid (hbr.alloc hs3 (.cells #[.string ⟨rnm.toArray⟩, .int .i64 rc, .int .i64 rk, .int .i64 rb, .bool rm] 136))
          have HM6 := Lib.hid (HM.out.alloc (.cells #[.string ⟨rnm.toArray⟩, .int .i64 rc, .int .i64 rk, .int .i64 rb, .bool rm] 136))
          have HE6 := Lib.hid (HEO.out.alloc (.cells #[.string ⟨rnm.toArray⟩, .int .i64 rc, .int .i64 rk, .int .i64 rb, .bool rm] 136))
          have HK6 := Lib.hid (Blk.new wo 136 #[.string ⟨rnm.toArray⟩, .int .i64 rc, .int .i64 rk, .int .i64 rb, .bool rm])
          have HLT6 := Lib.hid (HLT.out.alloc (.cells #[.string ⟨rnm.toArray⟩, .int .i64 rc, .int .i64 rk, .int .i64 rb, .bool rm] 136))
          cases hf : findA ch rc with
          | none =>
            have FV := Lib.hid (findV_no hf)
            have F : Hid (accsP gp = false) := HNO.out (by rw [HAT.out, roleIs_none hf]; rfl)
            clear hf
            go_wp2_with fail
            have HFC := Lib.hid (find_any ch Ac nc cc rc B _ (HC.out.rd.lowg hB (Nat.le_refl _) HB6.out) (by simp only [World.size_alloc]; omega) HC.out.le)
            refine HFC.out.mono ?_
            rintro e w7 ⟨rfl, hb7⟩
            rw [FV.out]
            have HB7 := Lib.hid ((below_two HB6.out hb7).alloc (by have := hb7.size; simp only [World.size_alloc] at this; omega) (.cells #[.int .i64 0, .int .i64 0, .int .i64 0, .int .i64 0] 42))
            have hk7 := HK6.out.below hb7 (by simp)
            have HM7 := Lib.hid ((HM6.out.below hb7 (by simp only [World.size_alloc]; omega)).alloc (.cells #[.int .i64 0, .int .i64 0, .int .i64 0, .int .i64 0] 42))
            have HE7 := Lib.hid ((HE6.out.below hb7 (by simp only [World.size_alloc]; omega)).alloc (.cells #[.int .i64 0, .int .i64 0, .int .i64 0, .int .i64 0] 42))
            have HLT7 := Lib.hid ((HLT6.out.below hb7).alloc (.cells #[.int .i64 0, .int .i64 0, .int .i64 0, .int .i64 0] 42))
            have HK7 := Lib.hid (hk7.alloc (.cells #[.int .i64 0, .int .i64 0, .int .i64 0, .int .i64 0] 42))
            have hs7 : wo.heap.size < w7.heap.size := by have := hb7.size; simp only [World.size_alloc] at this; omega
            obtain ⟨q0, q1, q2, q3, q4⟩ := role_blk hk7
            clear hb7 HFC hk7 g4 c0 c1 c2 c3 c4
            go_wp2_with fail
            go_ret
            exact ⟨ret_bool (HG.out.trans F.out).symm, HB7.out⟩
          | some a =>
            have FV := Lib.hid (findV_yes hf)
            have HRI : Hid (roleIs ch ⟨rnm, rc, rk, rb, rm⟩ = ((a.kind == rk) && (a.basis == rb))) := roleIs_some hf
            clear hf
            obtain ⟨a0, a1, a2, a3⟩ := a
            simp only [] at FV HRI
            cases sv : roleSeen rs k rc
            case true =>
              have F : Hid (accsP gp = false) := HNO.out (by rw [HAT.out, sv]; simp)
              have HS2 : Hid (getB m rc = true) := HSN.out.trans sv
              clear sv
              go_wp2_with fail
              have HFC := Lib.hid (find_any ch Ac nc cc rc B _ (HC.out.rd.lowg hB (Nat.le_refl _) HB6.out) (by simp only [World.size_alloc]; omega) HC.out.le)
              refine HFC.out.mono ?_
              rintro e w7 ⟨rfl, hb7⟩
              rw [FV.out]
              have HB7 := Lib.hid ((below_two HB6.out hb7).alloc (by have := hb7.size; simp only [World.size_alloc] at this; omega) (.cells #[.int .i64 a0, .int .i64 a1, .int .i64 a2, .int .i64 a3] 42))
              have hk7 := HK6.out.below hb7 (by simp)
              have HM7 := Lib.hid ((HM6.out.below hb7 (by simp only [World.size_alloc]; omega)).alloc (.cells #[.int .i64 a0, .int .i64 a1, .int .i64 a2, .int .i64 a3] 42))
              have HE7 := Lib.hid ((HE6.out.below hb7 (by simp only [World.size_alloc]; omega)).alloc (.cells #[.int .i64 a0, .int .i64 a1, .int .i64 a2, .int .i64 a3] 42))
              have HLT7 := Lib.hid ((HLT6.out.below hb7).alloc (.cells #[.int .i64 a0, .int .i64 a1, .int .i64 a2, .int .i64 a3] 42))
              have HK7 := Lib.hid (hk7.alloc (.cells #[.int .i64 a0, .int .i64 a1, .int .i64 a2, .int .i64 a3] 42))
              have hs7 : wo.heap.size < w7.heap.size := by have := hb7.size; simp only [World.size_alloc] at this; omega
              obtain ⟨q0, q1, q2, q3, q4⟩ := role_blk hk7
              clear hb7 HFC hk7 g4 c0 c1 c2 c3 c4
              go_wp2_with (at_lookup; refine wpList_lookupB_want (M := MI) _ (by first | rfl | simp [Region.wanted, yielded]) _ _ rfl mb m rc rfl rfl HM7.out HKO.out ?_; rw [HS2.out])
              go_ret
              exact ⟨ret_bool (HG.out.trans F.out).symm, HB7.out⟩
            case false =>
              have HS2 : Hid (getB m rc = false) := HSN.out.trans sv
              have HAT2 : Hid (roleAt ch rs k = ((a1 == rk) && (a2 == rb))) := by show _ = _; rw [HAT.out, sv, HRI.out]; simp
              clear sv
              cases e1 : a1 == rk
              case false =>
                have e1' : (a1 != rk) = true := by rw [bne, e1]; rfl
                have F : Hid (accsP gp = false) := HNO.out (by rw [HAT2.out, e1]; rfl)
                go_wp2_with fail
                have HFC := Lib.hid (find_any ch Ac nc cc rc B _ (HC.out.rd.lowg hB (Nat.le_refl _) HB6.out) (by simp only [World.size_alloc]; omega) HC.out.le)
                refine HFC.out.mono ?_
                rintro e w7 ⟨rfl, hb7⟩
                rw [FV.out]
                have HB7 := Lib.hid ((below_two HB6.out hb7).alloc (by have := hb7.size; simp only [World.size_alloc] at this; omega) (.cells #[.int .i64 a0, .int .i64 a1, .int .i64 a2, .int .i64 a3] 42))
                have hk7 := HK6.out.below hb7 (by simp)
                have HM7 := Lib.hid ((HM6.out.below hb7 (by simp only [World.size_alloc]; omega)).alloc (.cells #[.int .i64 a0, .int .i64 a1, .int .i64 a2, .int .i64 a3] 42))
                have HE7 := Lib.hid ((HE6.out.below hb7 (by simp only [World.size_alloc]; omega)).alloc (.cells #[.int .i64 a0, .int .i64 a1, .int .i64 a2, .int .i64 a3] 42))
                have HLT7 := Lib.hid ((HLT6.out.below hb7).alloc (.cells #[.int .i64 a0, .int .i64 a1, .int .i64 a2, .int .i64 a3] 42))
                have HK7 := Lib.hid (hk7.alloc (.cells #[.int .i64 a0, .int .i64 a1, .int .i64 a2, .int .i64 a3] 42))
                have hs7 : wo.heap.size < w7.heap.size := by have := hb7.size; simp only [World.size_alloc] at this; omega
                obtain ⟨q0, q1, q2, q3, q4⟩ := role_blk hk7
                clear hb7 HFC hk7 g4 c0 c1 c2 c3 c4
                go_wp2_with (at_lookup; refine wpList_lookupB_want (M := MI) _ (by first | rfl | simp [Region.wanted, yielded]) _ _ rfl mb m rc rfl rfl HM7.out HKO.out ?_; rw [HS2.out])
                go_ret
                exact ⟨ret_bool (HG.out.trans F.out).symm, HB7.out⟩
              case true =>
                have e1' : (a1 != rk) = false := by rw [bne, e1]; rfl
                cases e2 : a2 == rb
                case false =>
                  have e2' : (a2 != rb) = true := by rw [bne, e2]; rfl
                  have F : Hid (accsP gp = false) := HNO.out (by rw [HAT2.out, e1, e2]; rfl)
                  have HEE := Lib.hid e1
                  clear e1
                  go_wp2_with fail
                  have HFC := Lib.hid (find_any ch Ac nc cc rc B _ (HC.out.rd.lowg hB (Nat.le_refl _) HB6.out) (by simp only [World.size_alloc]; omega) HC.out.le)
                  refine HFC.out.mono ?_
                  rintro e w7 ⟨rfl, hb7⟩
                  rw [FV.out]
                  have HB7 := Lib.hid ((below_two HB6.out hb7).alloc (by have := hb7.size; simp only [World.size_alloc] at this; omega) (.cells #[.int .i64 a0, .int .i64 a1, .int .i64 a2, .int .i64 a3] 42))
                  have hk7 := HK6.out.below hb7 (by simp)
                  have HM7 := Lib.hid ((HM6.out.below hb7 (by simp only [World.size_alloc]; omega)).alloc (.cells #[.int .i64 a0, .int .i64 a1, .int .i64 a2, .int .i64 a3] 42))
                  have HE7 := Lib.hid ((HE6.out.below hb7 (by simp only [World.size_alloc]; omega)).alloc (.cells #[.int .i64 a0, .int .i64 a1, .int .i64 a2, .int .i64 a3] 42))
                  have HLT7 := Lib.hid ((HLT6.out.below hb7).alloc (.cells #[.int .i64 a0, .int .i64 a1, .int .i64 a2, .int .i64 a3] 42))
                  have HK7 := Lib.hid (hk7.alloc (.cells #[.int .i64 a0, .int .i64 a1, .int .i64 a2, .int .i64 a3] 42))
                  have hs7 : wo.heap.size < w7.heap.size := by have := hb7.size; simp only [World.size_alloc] at this; omega
                  obtain ⟨q0, q1, q2, q3, q4⟩ := role_blk hk7
                  clear hb7 HFC hk7 g4 c0 c1 c2 c3 c4
                  go_wp2_with (at_lookup; refine wpList_lookupB_want (M := MI) _ (by first | rfl | simp [Region.wanted, yielded]) _ _ rfl mb m rc rfl rfl HM7.out HKO.out ?_; rw [HS2.out])
                  go_ret
                  exact ⟨ret_bool (HG.out.trans F.out).symm, HB7.out⟩
                case true =>
                  have e2' : (a2 != rb) = false := by rw [bne, e2]; rfl
                  have F := Lib.hid (allR_step HD.out (by rw [HAT2.out, e1, e2]; rfl))
                  have HEE := Lib.hid (And.intro e1 e2)
                  clear e1 e2
                  go_wp2_with fail
                  have HFC := Lib.hid (find_any ch Ac nc cc rc B _ (HC.out.rd.lowg hB (Nat.le_refl _) HB6.out) (by simp only [World.size_alloc]; omega) HC.out.le)
                  refine HFC.out.mono ?_
                  rintro e w7 ⟨rfl, hb7⟩
                  rw [FV.out]
                  have HB7 := Lib.hid ((below_two HB6.out hb7).alloc (by have := hb7.size; simp only [World.size_alloc] at this; omega) (.cells #[.int .i64 a0, .int .i64 a1, .int .i64 a2, .int .i64 a3] 42))
                  have hk7 := HK6.out.below hb7 (by simp)
                  have HM7 := Lib.hid ((HM6.out.below hb7 (by simp only [World.size_alloc]; omega)).alloc (.cells #[.int .i64 a0, .int .i64 a1, .int .i64 a2, .int .i64 a3] 42))
                  have HE7 := Lib.hid ((HE6.out.below hb7 (by simp only [World.size_alloc]; omega)).alloc (.cells #[.int .i64 a0, .int .i64 a1, .int .i64 a2, .int .i64 a3] 42))
                  have HLT7 := Lib.hid ((HLT6.out.below hb7).alloc (.cells #[.int .i64 a0, .int .i64 a1, .int .i64 a2, .int .i64 a3] 42))
                  have HK7 := Lib.hid (hk7.alloc (.cells #[.int .i64 a0, .int .i64 a1, .int .i64 a2, .int .i64 a3] 42))
                  have hs7 : wo.heap.size < w7.heap.size := by have := hb7.size; simp only [World.size_alloc] at this; omega
                  obtain ⟨q0, q1, q2, q3, q4⟩ := role_blk hk7
                  clear hb7 HFC hk7 g4 c0 c1 c2 c3 c4
                  go_wp2_with (first
                    | (at_lookup; refine wpList_lookupB_want (M := MI) _ (by first | rfl | simp [Region.wanted, yielded]) _ _ rfl mb m rc rfl rfl HM7.out HKO.out ?_; rw [HS2.out])
                    | (at_mapUpdate; refine wpList_storeB (M := MI) _ rfl _ _ _ rfl mb m rc true rfl rfl rfl HM7.out HKO.out ?_; intro w8 hm8 hg8))
                  have hs8 := HB7.out.size
                  refine ⟨⟨k + 1, putB m rc true, by go_num, by omega, F.out, hm8, ?_, HB7.out.grown hg8 hs8 (fun j hj => by cases hj; omega), HE7.out.grown hg8 (by intro e; have := Option.some.inj e; omega), HLT7.out.grown hg8 (by intro e; have := Option.some.inj e; have := HNE.out; omega)⟩, by simp [intOf]; omega⟩
                  intro c
                  rw [getB_putB, HST.out, HGT.out]
                  by_cases hcc : rc = c
                  · rw [if_pos hcc, beq_iff_eq.2 hcc, Bool.or_true]
                  · rw [if_neg hcc, beq_eq_false_iff_ne.2 hcc, Bool.or_false]
end Go.Proofs.YtcmmppkmkejniaaGreatDoor
