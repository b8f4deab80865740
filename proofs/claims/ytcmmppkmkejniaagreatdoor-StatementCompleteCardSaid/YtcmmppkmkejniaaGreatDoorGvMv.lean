/-
  mapping.Valid.
-/
import Derived.Test.YtcmmppkmkejniaaGreatDoorGvLn
import Derived.Test.YtcmmppkmkejniaaGreatDoorMpK
namespace Go.Proofs.YtcmmppkmkejniaaGreatDoor
open Go.RowKit
set_option linter.unusedVariables false
theorem any_take {α : Type} [Inhabited α] {p : α → Bool} {xs : List α} {k : Nat} (hk : k < xs.length) : (xs.take (k + 1)).any p = ((xs.take k).any p || p (xs.getD k default)) := by
  rw [List.take_succ_eq_append_getElem hk, List.any_append]
  simp [List.getD, hk]
theorem linksOk_no {ec gc : List SAcc} {ls : List SLink} {k : Nat} (hk : k < ls.length) (h : linkAt ec gc ls k = false) : linksOk ec gc ls = false := by unfold linksOk; exact allR_no hk h
theorem mapP_1 {ec gc : List SAcc} {ls : List SLink} (h : chartP gc true = false) : mapP ec gc ls = false := by unfold mapP; rw [h]; rfl
theorem mapP_2 {ec gc : List SAcc} {ls : List SLink} (h : chartP ec false = false) : mapP ec gc ls = false := by unfold mapP; rw [h]; simp
theorem mapP_3 {ec gc : List SAcc} {ls : List SLink} (h : ¬ ls.length ≤ 400) : mapP ec gc ls = false := by unfold mapP; rw [decide_eq_false h]; simp
theorem mapP_4 {ec gc : List SAcc} {ls : List SLink} (h : linksOk ec gc ls = false) : mapP ec gc ls = false := by unfold mapP; rw [h]; simp
theorem mapP_yes {ec gc : List SAcc} {ls : List SLink} (h1 : chartP gc true = true) (h2 : chartP ec false = true) (h3 : ls.length ≤ 400) (h4 : linksOk ec gc ls = true) : mapP ec gc ls = true := by unfold mapP; rw [h1, h2, h4, decide_eq_true h3]; rfl
theorem okI_0 : okI 0 := by unfold okI; decide
set_option maxRecDepth 100000 in
set_option maxHeartbeats 8000000 in
theorem mapv_any (x : SEnt) (gA : Option Addr) (gn gc : Nat) (gl : List SAcc) (B : Nat) (w : World) (hx : EntIn w B x) (hg : ChartIn w B gA gn gc gl) (hB : B ≤ w.heap.size) (hn : x.nc ≤ 1000) (hgn : gn ≤ 1000) :
    Calls Tryz.prog 88 #[entV x, .slice gA gn gc] w fun e w' => e = .returned (.bool (mapP x.chart gl x.links)) ∧ Below w.heap.size w w' := by
  obtain ⟨nm, cu, Ac, nc, cc, ch, Al, nl, cl, ls, jt⟩ := x
  unfold entV
  have HX := Lib.hid hx
  have HC := Lib.hid hx.ch
  have HLI := Lib.hid hx.li
  have HGC := Lib.hid hg
  clear hx hg
  simp only [] at HC HLI hn ⊢
  have HLL := Lib.hid HLI.out.len
  have hle := HLI.out.le
  generalize hgo : mapP ch gl ls = ok
  have HG := Lib.hid hgo.symm
  clear hgo
  have HB0 := Lib.hid ((Below.refl w.heap.size w).alloc (Nat.le_refl _) (.cells #[.string ⟨nm.toArray⟩, .string ⟨cu.toArray⟩, .slice Ac nc cc, .slice Al nl cl, .bool jt] 61))
  have HE := Lib.hid (Blk.new w 61 #[.string ⟨nm.toArray⟩, .string ⟨cu.toArray⟩, .slice Ac nc cc, .slice Al nl cl, .bool jt])
  have hmm := @run_makeMap Tryz.prog
  go_enter Tryz.func88, Tryz.ntmps88
  go_wp2_with fail
  have H1 := Lib.hid (chart_any gl gA gn gc true B _ (HGC.out.rd.lowg hB (Nat.le_refl _) HB0.out) (by simp only [World.size_alloc]; omega) hgn HGC.out.ok)
  refine H1.out.mono ?_
  rintro e w1 ⟨rfl, hb1⟩
  have HB1 := Lib.hid (below_two HB0.out hb1)
  have HE1 := Lib.hid (HE.out.below hb1 (by simp))
  have hs1 : w.heap.size < w1.heap.size := by have := hb1.size; simp only [World.size_alloc] at this; omega
  obtain ⟨e0, e1, e2, e3, e4⟩ := ent_blk HE1.out
  clear hb1 H1
  cases v1 : chartP gl true
  case false =>
    have F : Hid (mapP ch gl ls = false) := mapP_1 v1
    clear v1
    go_wp2_with fail
    go_ret
    exact ⟨ret_bool (HG.out.trans F.out).symm, HB1.out⟩
  case true =>
    have V1 := Lib.hid v1
    clear v1
    have H2 := Lib.hid (chart_any ch Ac nc cc false B w1 (HC.out.rd.lowg hB (Nat.le_refl _) HB1.out) (by omega) hn HC.out.ok)
    go_wp2_with fail
    refine H2.out.mono ?_
    rintro e w2 ⟨rfl, hb2⟩
    have HB2 := Lib.hid (below_two HB1.out hb2)
    have HE2 := Lib.hid (HE1.out.below hb2 hs1)
    have hs2 : w.heap.size < w2.heap.size := by have := hb2.size; omega
    clear hb2 H2 e0 e1 e2 e3 e4
    obtain ⟨e0, e1, e2, e3, e4⟩ := ent_blk HE2.out
    cases v2 : chartP ch false
    case false =>
      have F : Hid (mapP ch gl ls = false) := mapP_2 v2
      clear v2
      go_wp2_with fail
      go_ret
      exact ⟨ret_bool (HG.out.trans F.out).symm, HB2.out⟩
    case true =>
      have V2 := Lib.hid v2
      clear v2
      by_cases h400 : nl ≤ 400
      case neg =>
        have d4 : decide ((400 : Int) < (nl : Int)) = true := by rw [decide_eq_true_eq]; omega
        have F : Hid (mapP ch gl ls = false) := mapP_3 (by rw [HLL.out]; exact h400)
        go_wp2_with fail
        go_ret
        exact ⟨ret_bool (HG.out.trans F.out).symm, HB2.out⟩
      case pos =>
        have d4 : decide ((400 : Int) < (nl : Int)) = false := by rw [decide_eq_false_iff_not]; omega
        have HM0 := Lib.hid (MapB.made (M := ML) w2)
        have HB3 := Lib.hid (HB2.out.alloc (by omega) (.map #[] 0))
        have HE3 := Lib.hid (HE2.out.alloc (.map #[] 0))
        go_wp2_with fail
        clear e0 e1 e2 e3 e4
        go_loopw [28] (fun i wr => ∃ (k : Nat) (m : List (SLink × Bool)), i = .int .i64 k ∧ k ≤ nl ∧ (List.range k).all (linkAt ch gl ls) = true ∧ MapB ML wr w2.heap.size m ∧ (∀ a b : Int, getB m ⟨a, 0, b⟩ = (ls.take k).any fun y => (y.frm == a) && (y.since == b)) ∧ Below w.heap.size w wr ∧
          Blk wr w.heap.size 61 #[.string ⟨nm.toArray⟩, .string ⟨cu.toArray⟩, .slice Ac nc cc, .slice Al nl cl, .bool jt]) (fun i _ => nl - (intOf i).toNat)
        case atStart => exact ⟨0, [], rfl, by omega, rfl, HM0.out, fun _ _ => rfl, HB3.out, HE3.out⟩
        case round =>
          obtain ⟨k, m, rfl, hk, hd, hm, hg, hbr, hbl⟩ := hrel
          obtain ⟨wo, rfl⟩ : ∃ wo : World, wo = wr := ⟨_, rfl⟩
          have HD := Lib.hid hd
          have HM := Lib.hid hm
          have HGT := Lib.hid hg
          have HEO := Lib.hid hbl
          have hlt0 := hbl.lt
          have hml := hm.lt
          clear hd hm hg hbl
          by_cases hlt : k < nl
          case neg =>
            have k3 : decide ((k : Int) < (nl : Int)) = false := by rw [decide_eq_false_iff_not]; omega
            have F : Hid (mapP ch gl ls = true) := mapP_yes V1.out V2.out (by rw [HLL.out]; exact h400) (by unfold linksOk; rw [HLL.out, show nl = k by omega]; exact HD.out)
            go_wp2_with fail
            go_ret
            exact ⟨ret_bool (HG.out.trans F.out).symm, hbr⟩
          case pos =>
            have k3 : decide ((k : Int) < (nl : Int)) = true := by rw [decide_eq_true_eq]; omega
            have hkl : k < ls.length := by rw [HLL.out]; exact hlt
            obtain ⟨ad, rfl, hbk, c0, c1, c2⟩ := (HLI.out.rd.lowg hB (Nat.le_refl _) hbr).link_at hlt
            have HOKX := Lib.hid (HLI.out.ok (ls.getD k default) (by simp [List.getD, hkl]))
            have HAT : Hid (linkAt ch gl ls k = (linkOk ch gl (ls.getD k default) && !linkSeen ls k (ls.getD k default))) := rfl
            have HSN : Hid (getB m ⟨(ls.getD k default).frm, 0, (ls.getD k default).since⟩ = linkSeen ls k (ls.getD k default)) := HGT.out _ _
            have HST : Hid (∀ a b : Int, (ls.take (k + 1)).any (fun y => (y.frm == a) && (y.since == b)) = ((ls.take k).any (fun y => (y.frm == a) && (y.since == b)) || (((ls.getD k default).frm == a) && ((ls.getD k default).since == b)))) := fun a b => any_take hkl
            have HKL := Lib.hid hkl
            clear hkl
            generalize ls.getD k default = x at *
            obtain ⟨x0, x1, x2⟩ := x
            simp only [] at c0 c1 c2 HAT HSN HST HOKX
            have HKO : Hid (ML.ok ⟨x0, 0, x2⟩) := ⟨HOKX.out.1, okI_0, HOKX.out.2.2⟩
            have hs3 := hbr.size
            have HB4 := Lib.hid ((hbr.alloc hs3 (.cells #[.int .i64 x0, .int .i64 x1, .int .i64 x2] 99)).alloc (by simp only [World.size_alloc]; omega) (.cells #[.int .i64 x0, .int .i64 0, .int .i64 x2] 99))
            have HM4 := Lib.hid ((HM.out.alloc (.cells #[.int .i64 x0, .int .i64 x1, .int .i64 x2] 99)).alloc (.cells #[.int .i64 x0, .int .i64 0, .int .i64 x2] 99))
            have hE4 := (HEO.out.alloc (.cells #[.int .i64 x0, .int .i64 x1, .int .i64 x2] 99)).alloc (.cells #[.int .i64 x0, .int .i64 0, .int .i64 x2] 99)
            obtain ⟨e0, e1, e2, e3, e4⟩ := ent_blk HEO.out
            have HE4 := Lib.hid hE4
            have HK4 : Hid (Blk ((wo.alloc (.cells #[.int .i64 x0, .int .i64 x1, .int .i64 x2] 99)).alloc (.cells #[.int .i64 x0, .int .i64 0, .int .i64 x2] 99)) (wo.heap.size + 1) 99 #[.int .i64 x0, .int .i64 0, .int .i64 x2]) := by
              have := Blk.new (wo.alloc (.cells #[.int .i64 x0, .int .i64 x1, .int .i64 x2] 99)) 99 #[.int .i64 x0, .int .i64 0, .int .i64 x2]
              simp only [World.size_alloc] at this
              exact this
            clear hE4
            cases sv : linkSeen ls k ⟨x0, x1, x2⟩
            case true =>
              have F : Hid (mapP ch gl ls = false) := mapP_4 (linksOk_no HKL.out (by rw [HAT.out, sv]; simp))
              have HS2 : Hid (getB m ⟨x0, 0, x2⟩ = true) := HSN.out.trans sv
              clear sv
              go_wp2_with (at_lookup; refine wpList_lookupB (M := ML) _ rfl _ _ rfl w2.heap.size m ⟨x0, 0, x2⟩ rfl rfl HM4.out HKO.out ?_; rw [HS2.out])
              go_ret
              exact ⟨ret_bool (HG.out.trans F.out).symm, HB4.out⟩
            case false =>
              have HS2 : Hid (getB m ⟨x0, 0, x2⟩ = false) := HSN.out.trans sv
              have HAT2 : Hid (linkAt ch gl ls k = linkOk ch gl ⟨x0, x1, x2⟩) := by show _ = _; rw [HAT.out, sv]; simp
              clear sv
              have HLK := Lib.hid (link_any ⟨nm, cu, Ac, nc, cc, ch, some ad, nl, cl, ls, jt⟩ ⟨x0, x1, x2⟩ gA gn gc gl B _ (HX.out.low hB (Nat.le_refl _) HB4.out) (HGC.out.low hB (Nat.le_refl _) HB4.out) (by simp only [World.size_alloc]; omega))
              unfold entV linkV at HLK
              simp only [] at HLK
              go_wp2_with (at_lookup; refine wpList_lookupB (M := ML) _ rfl _ _ rfl w2.heap.size m ⟨x0, 0, x2⟩ rfl rfl HM4.out HKO.out ?_; rw [HS2.out])
              refine HLK.out.mono ?_
              rintro e w5 ⟨rfl, hb5⟩
              have HB5 := Lib.hid (below_two HB4.out hb5)
              have HM5 := Lib.hid (HM4.out.below hb5 (by simp only [World.size_alloc]; omega))
              have HE5 := Lib.hid (HE4.out.below hb5 (by simp only [World.size_alloc]; omega))
              have HK5 := Lib.hid (HK4.out.below hb5 (by simp only [World.size_alloc]; omega))
              obtain ⟨q0, q1, q2⟩ := link_blk HK5.out
              have hs5 := HB5.out.size
              clear hb5 HLK c0 c1 c2 e0 e1 e2 e3 e4
              cases lv : linkOk ch gl ⟨x0, x1, x2⟩
              case false =>
                have F : Hid (mapP ch gl ls = false) := mapP_4 (linksOk_no HKL.out (by rw [HAT2.out, lv]))
                clear lv
                go_wp2_with fail
                go_ret
                exact ⟨ret_bool (HG.out.trans F.out).symm, HB5.out⟩
              case true =>
                have F := Lib.hid (allR_step HD.out (HAT2.out.trans lv))
                clear lv
                go_wp2_with (at_mapUpdate; refine wpList_storeB (M := ML) _ rfl _ _ _ rfl w2.heap.size m ⟨x0, 0, x2⟩ true rfl rfl rfl HM5.out HKO.out ?_; intro w6 hm6 hg6)
                refine ⟨⟨k + 1, putB m ⟨x0, 0, x2⟩ true, by go_num, by omega, F.out, hm6, ?_, HB5.out.grown hg6 (by omega) (fun j hj => by cases hj; omega), HE5.out.grown hg6 (by intro e; have := Option.some.inj e; omega)⟩, by simp [intOf]; omega⟩
                intro a b
                rw [getB_putB, HST.out, HGT.out]
                by_cases hab : (⟨x0, 0, x2⟩ : SLink) = ⟨a, 0, b⟩
                · rw [if_pos hab]
                  injection hab with h1 _ h3
                  subst h1 h3
                  simp
                · rw [if_neg hab]
                  have : ((x0 == a) && (x2 == b)) = false := by
                    cases e1 : (x0 == a) && (x2 == b)
                    · rfl
                    · rw [Bool.and_eq_true, beq_iff_eq, beq_iff_eq] at e1
                      exact absurd (by rw [e1.1, e1.2]) hab
                  rw [this, Bool.or_false]
end Go.Proofs.YtcmmppkmkejniaaGreatDoor
