/-
  The reference's Valid of mappings.
-/
import Derived.Test.YtcmmppkmkejniaaGreatDoorGvMv
import Derived.Deep.QuietTactic
import Derived.BigQuiet
namespace Go.Proofs.YtcmmppkmkejniaaGreatDoor
open Go.RowKit
set_option linter.unusedVariables false
theorem any_of {α : Type} [Inhabited α] {p : α → Bool} {xs : List α} {j k : Nat} (hj : j < k) (hk : k ≤ xs.length) (h : p (xs.getD j default) = true) : (xs.take k).any p = true := by
  rw [List.any_eq_true]
  refine ⟨xs.getD j default, ?_, h⟩
  have hjl : j < xs.length := by omega
  have e : xs.getD j default = xs[j] := by simp [List.getD, hjl]
  rw [e, List.mem_iff_getElem]
  exact ⟨j, by rw [List.length_take]; omega, by simp⟩
theorem mapR_1 {ec gc : List SAcc} {ls : List SLink} (h : chartR gc true = false) : mapR ec gc ls = false := by unfold mapR; rw [h]; rfl
theorem mapR_2 {ec gc : List SAcc} {ls : List SLink} (h : chartR ec false = false) : mapR ec gc ls = false := by unfold mapR; rw [h]; simp
theorem mapR_3 {ec gc : List SAcc} {ls : List SLink} (h : ¬ ls.length ≤ 400) : mapR ec gc ls = false := by unfold mapR; rw [decide_eq_false h]; simp
theorem mapR_4 {ec gc : List SAcc} {ls : List SLink} (h : linksOk ec gc ls = false) : mapR ec gc ls = false := by unfold mapR; rw [h]; simp
theorem mapR_yes {ec gc : List SAcc} {ls : List SLink} (h1 : chartR gc true = true) (h2 : chartR ec false = true) (h3 : ls.length ≤ 400) (h4 : linksOk ec gc ls = true) : mapR ec gc ls = true := by unfold mapR; rw [h1, h2, h4, decide_eq_true h3]; rfl
set_option maxRecDepth 100000 in
set_option maxHeartbeats 8000000 in
theorem rmapv_any (x : SEnt) (gA : Option Addr) (gn gc : Nat) (gl : List SAcc) (B : Nat) (w : World) (hx : EntIn w B x) (hg : ChartIn w B gA gn gc gl) (hB : B ≤ w.heap.size) (hn : x.nc ≤ 1000) (hgn : gn ≤ 1000) :
    Calls Tryz.prog 43 #[entV x, .slice gA gn gc] w fun e w' => e = .returned (.bool (mapR x.chart gl x.links)) ∧ Below w.heap.size w w' := by
  obtain ⟨nm, cu, Ac, nc, cc, ch, Al, nl, cl, ls, jt⟩ := x
  unfold entV
  have HX := Lib.hid hx
  have HC := Lib.hid hx.ch
  have HLI := Lib.hid hx.li
  have HGC := Lib.hid hg
  clear hx hg
  simp only [] at HC HLI hn ⊢
  have HLL := Lib.hid HLI.out.len
  have hle := HLI.out.le
  generalize hgo : mapR ch gl ls = ok
  have HG := Lib.hid hgo.symm
  clear hgo
  have HB0 := Lib.hid ((Below.refl w.heap.size w).alloc (Nat.le_refl _) (.cells #[.string ⟨nm.toArray⟩, .string ⟨cu.toArray⟩, .slice Ac nc cc, .slice Al nl cl, .bool jt] 61))
  have HE := Lib.hid (Blk.new w 61 #[.string ⟨nm.toArray⟩, .string ⟨cu.toArray⟩, .slice Ac nc cc, .slice Al nl cl, .bool jt])
  go_enter Tryz.func43, Tryz.ntmps43
  go_wp2_with fail
  have H1 := Lib.hid (rchart_any gl gA gn gc true B _ (HGC.out.rd.lowg hB (Nat.le_refl _) HB0.out) (by simp only [World.size_alloc]; omega) hgn)
  refine H1.out.mono ?_
  rintro e w1 ⟨rfl, hb1⟩
  have HB1 := Lib.hid (below_two HB0.out hb1)
  have HE1 := Lib.hid (HE.out.below hb1 (by simp))
  have hs1 : w.heap.size < w1.heap.size := by have := hb1.size; simp only [World.size_alloc] at this; omega
  obtain ⟨e0, e1, e2, e3, e4⟩ := ent_blk HE1.out
  clear hb1 H1
  cases v1 : chartR gl true
  case false =>
    have F : Hid (mapR ch gl ls = false) := mapR_1 v1
    clear v1
    go_wp2_with fail
    go_ret
    exact ⟨ret_bool (HG.out.trans F.out).symm, HB1.out⟩
  case true =>
    have V1 := Lib.hid v1
    clear v1
    have H2 := Lib.hid (rchart_any ch Ac nc cc false B w1 (HC.out.rd.lowg hB (Nat.le_refl _) HB1.out) (by omega) hn)
    go_wp2_with fail
    refine H2.out.mono ?_
    rintro e w2 ⟨rfl, hb2⟩
    have HB2 := Lib.hid (below_two HB1.out hb2)
    have HE2 := Lib.hid (HE1.out.below hb2 hs1)
    have hs2 : w.heap.size < w2.heap.size := by have := hb2.size; omega
    clear hb2 H2 e0 e1 e2 e3 e4
    obtain ⟨e0, e1, e2, e3, e4⟩ := ent_blk HE2.out
    cases v2 : chartR ch false
    case false =>
      have F : Hid (mapR ch gl ls = false) := mapR_2 v2
      clear v2
      go_wp2_with fail
      go_ret
      exact ⟨ret_bool (HG.out.trans F.out).symm, HB2.out⟩
    case true =>
      have V2 := Lib.hid v2
      clear v2
      by_cases h400 : nl ≤ 400
      case neg =>
        have d4 : decide ((400 : Int) < (nl : Int)) = true := by rw [decide_eq_true_eq]; omega
        have F : Hid (mapR ch gl ls = false) := mapR_3 (by rw [HLL.out]; exact h400)
        go_wp2_with fail
        go_ret
        exact ⟨ret_bool (HG.out.trans F.out).symm, HB2.out⟩
      case pos =>
        have d4 : decide ((400 : Int) < (nl : Int)) = false := by rw [decide_eq_false_iff_not]; omega
        go_wp2_with fail
        clear e0 e1 e2 e3 e4
        go_loopw [5] (fun i wr => ∃ (k : Nat), i = .int .i64 k ∧ k ≤ nl ∧ (List.range k).all (linkAt ch gl ls) = true ∧ Below w.heap.size w wr ∧ Blk wr w.heap.size 61 #[.string ⟨nm.toArray⟩, .string ⟨cu.toArray⟩, .slice Ac nc cc, .slice Al nl cl, .bool jt]) (fun i _ => nl - (intOf i).toNat)
        case atStart => exact ⟨0, rfl, by omega, rfl, HB2.out, HE2.out⟩
        case round =>
          obtain ⟨k, rfl, hk, hd, hbr, hbl⟩ := hrel
          obtain ⟨wo, rfl⟩ : ∃ wo : World, wo = wr := ⟨_, rfl⟩
          have HD := Lib.hid hd
          have HEO := Lib.hid hbl
          have hlt0 := hbl.lt
          obtain ⟨e0, e1, e2, e3, e4⟩ := ent_blk hbl
          clear hd hbl
          by_cases hlt : k < nl
          case neg =>
            have k3 : decide ((k : Int) < (nl : Int)) = false := by rw [decide_eq_false_iff_not]; omega
            have F : Hid (mapR ch gl ls = true) := mapR_yes V1.out V2.out (by rw [HLL.out]; exact h400) (by unfold linksOk; rw [HLL.out, show nl = k by omega]; exact HD.out)
            go_wp2_with fail
            go_ret
            exact ⟨ret_bool (HG.out.trans F.out).symm, hbr⟩
          case pos =>
            have k3 : decide ((k : Int) < (nl : Int)) = true := by rw [decide_eq_true_eq]; omega
            have hkl : k < ls.length := by rw [HLL.out]; exact hlt
            obtain ⟨ad, rfl, hbk, c0, c1, c2⟩ := (HLI.out.rd.lowg hB (Nat.le_refl _) hbr).link_at hlt
            have HAT : Hid (linkAt ch gl ls k = (linkOk ch gl (ls.getD k default) && !linkSeen ls k (ls.getD k default))) := rfl
            have HKL := Lib.hid hkl
            clear hkl
            generalize ls.getD k default = x at *
            obtain ⟨x0, x1, x2⟩ := x
            simp only [] at c0 c1 c2 HAT
            have hs3 := hbr.size
            have HB4 := Lib.hid (hbr.alloc hs3 (.cells #[.int .i64 x0, .int .i64 x1, .int .i64 x2] 99))
            have HE4 := Lib.hid (HEO.out.alloc (.cells #[.int .i64 x0, .int .i64 x1, .int .i64 x2] 99))
            have HL4 := Lib.hid (Blk.new wo 99 #[.int .i64 x0, .int .i64 x1, .int .i64 x2])
            cases hfa : findA ch x0 with
            | none =>
              have FA := Lib.hid (findV_no hfa)
              have HLO : Hid (linkOk ch gl ⟨x0, x1, x2⟩ = false) := linkOk_a hfa
              clear hfa
              cases hfb : findA gl x1 with
              | none =>
                have FB := Lib.hid (findV_no hfb)
                clear hfb
                go_wp2_with fail
                have HF1 := Lib.hid (rfind_any ch Ac nc cc x0 B _ (HC.out.rd.lowg hB (Nat.le_refl _) HB4.out) (by simp only [World.size_alloc]; omega) HC.out.le)
                refine HF1.out.mono ?_
                rintro e w5 ⟨rfl, hb5⟩
                rw [FA.out]
                have HB5 := Lib.hid (below_two HB4.out hb5)
                have HE5 := Lib.hid (HE4.out.below hb5 (by simp only [World.size_alloc]; omega))
                have HL5 := Lib.hid (HL4.out.below hb5 (by simp only [World.size_alloc]; omega))
                have hs5 : wo.heap.size < w5.heap.size := by have := hb5.size; simp only [World.size_alloc] at this; omega
                obtain ⟨q0, q1, q2⟩ := link_blk HL5.out
                clear hb5 HF1 c0 c1 c2 e0 e1 e2 e3 e4
                have HF2 := Lib.hid (rfind_any gl gA gn gc x1 B (w5.alloc (.cells #[.int .i64 0, .int .i64 0, .int .i64 0, .int .i64 0] 42)) (HGC.out.rd.lowg hB (Nat.le_refl _) (HB5.out.alloc (by omega) _)) (by simp only [World.size_alloc]; omega) HGC.out.le)
                go_wp2_with fail
                refine HF2.out.mono ?_
                rintro e w6 ⟨rfl, hb6⟩
                rw [FB.out]
                have HB6 := Lib.hid ((below_two (HB5.out.alloc (by omega) (.cells #[.int .i64 0, .int .i64 0, .int .i64 0, .int .i64 0] 42)) hb6).alloc (by have := hb6.size; simp only [World.size_alloc] at this; omega) (.cells #[.int .i64 0, .int .i64 0, .int .i64 0, .int .i64 0] 42))
                have hk6 := ((Blk.new w5 42 #[.int .i64 0, .int .i64 0, .int .i64 0, .int .i64 0]).below hb6 (by simp))
                have hl6 := ((HL5.out.alloc (.cells #[.int .i64 0, .int .i64 0, .int .i64 0, .int .i64 0] 42)).below hb6 (by simp only [World.size_alloc]; omega))
                have he6 := ((HE5.out.alloc (.cells #[.int .i64 0, .int .i64 0, .int .i64 0, .int .i64 0] 42)).below hb6 (by simp only [World.size_alloc]; omega))
                have hs6 : w5.heap.size < w6.heap.size := by have := hb6.size; simp only [World.size_alloc] at this; omega
                have hs6' : wo.heap.size < w6.heap.size := by omega
                have hs6'' : w.heap.size < w6.heap.size := by omega
                have HE6 := Lib.hid (he6.alloc (.cells #[.int .i64 0, .int .i64 0, .int .i64 0, .int .i64 0] 42))
                have HL6 := Lib.hid (hl6.alloc (.cells #[.int .i64 0, .int .i64 0, .int .i64 0, .int .i64 0] 42))
                obtain ⟨k0, k1', k2, k3'⟩ := acc_blk hk6
                obtain ⟨m0, m1, m2⟩ := link_blk hl6
                obtain ⟨n0, n1, n2, n3, n4⟩ := ent_blk he6
                clear hb6 HF2 q0 q1 q2 hk6 hl6 he6
                have F : Hid (mapR ch gl ls = false) := mapR_4 (linksOk_no HKL.out (by rw [HAT.out, HLO.out]; rfl))
                go_wp2_with fail
                go_ret
                exact ⟨ret_bool (HG.out.trans F.out).symm, HB6.out⟩
              | some b =>
                have FB := Lib.hid (findV_yes hfb)
                clear hfb
                obtain ⟨b0, b1, b2, b3⟩ := b
                simp only [] at FB
                go_wp2_with fail
                have HF1 := Lib.hid (rfind_any ch Ac nc cc x0 B _ (HC.out.rd.lowg hB (Nat.le_refl _) HB4.out) (by simp only [World.size_alloc]; omega) HC.out.le)
                refine HF1.out.mono ?_
                rintro e w5 ⟨rfl, hb5⟩
                rw [FA.out]
                have HB5 := Lib.hid (below_two HB4.out hb5)
                have HE5 := Lib.hid (HE4.out.below hb5 (by simp only [World.size_alloc]; omega))
                have HL5 := Lib.hid (HL4.out.below hb5 (by simp only [World.size_alloc]; omega))
                have hs5 : wo.heap.size < w5.heap.size := by have := hb5.size; simp only [World.size_alloc] at this; omega
                obtain ⟨q0, q1, q2⟩ := link_blk HL5.out
                clear hb5 HF1 c0 c1 c2 e0 e1 e2 e3 e4
                have HF2 := Lib.hid (rfind_any gl gA gn gc x1 B (w5.alloc (.cells #[.int .i64 0, .int .i64 0, .int .i64 0, .int .i64 0] 42)) (HGC.out.rd.lowg hB (Nat.le_refl _) (HB5.out.alloc (by omega) _)) (by simp only [World.size_alloc]; omega) HGC.out.le)
                go_wp2_with fail
                refine HF2.out.mono ?_
                rintro e w6 ⟨rfl, hb6⟩
                rw [FB.out]
                have HB6 := Lib.hid ((below_two (HB5.out.alloc (by omega) (.cells #[.int .i64 0, .int .i64 0, .int .i64 0, .int .i64 0] 42)) hb6).alloc (by have := hb6.size; simp only [World.size_alloc] at this; omega) (.cells #[.int .i64 b0, .int .i64 b1, .int .i64 b2, .int .i64 b3] 42))
                have hk6 := ((Blk.new w5 42 #[.int .i64 0, .int .i64 0, .int .i64 0, .int .i64 0]).below hb6 (by simp))
                have hl6 := ((HL5.out.alloc (.cells #[.int .i64 0, .int .i64 0, .int .i64 0, .int .i64 0] 42)).below hb6 (by simp only [World.size_alloc]; omega))
                have he6 := ((HE5.out.alloc (.cells #[.int .i64 0, .int .i64 0, .int .i64 0, .int .i64 0] 42)).below hb6 (by simp only [World.size_alloc]; omega))
                have hs6 : w5.heap.size < w6.heap.size := by have := hb6.size; simp only [World.size_alloc] at this; omega
                have hs6' : wo.heap.size < w6.heap.size := by omega
                have hs6'' : w.heap.size < w6.heap.size := by omega
                have HE6 := Lib.hid (he6.alloc (.cells #[.int .i64 b0, .int .i64 b1, .int .i64 b2, .int .i64 b3] 42))
                have HL6 := Lib.hid (hl6.alloc (.cells #[.int .i64 b0, .int .i64 b1, .int .i64 b2, .int .i64 b3] 42))
                obtain ⟨k0, k1', k2, k3'⟩ := acc_blk hk6
                obtain ⟨m0, m1, m2⟩ := link_blk hl6
                obtain ⟨n0, n1, n2, n3, n4⟩ := ent_blk he6
                clear hb6 HF2 q0 q1 q2 hk6 hl6 he6
                have F : Hid (mapR ch gl ls = false) := mapR_4 (linksOk_no HKL.out (by rw [HAT.out, HLO.out]; rfl))
                go_wp2_with fail
                go_ret
                exact ⟨ret_bool (HG.out.trans F.out).symm, HB6.out⟩
            | some a =>
              have FA := Lib.hid (findV_yes hfa)
              cases hfb : findA gl x1 with
              | none =>
                have FB := Lib.hid (findV_no hfb)
                have HLO : Hid (linkOk ch gl ⟨x0, x1, x2⟩ = false) := linkOk_b hfb
                clear hfa hfb
                obtain ⟨a0, a1, a2, a3⟩ := a
                simp only [] at FA
                go_wp2_with fail
                have HF1 := Lib.hid (rfind_any ch Ac nc cc x0 B _ (HC.out.rd.lowg hB (Nat.le_refl _) HB4.out) (by simp only [World.size_alloc]; omega) HC.out.le)
                refine HF1.out.mono ?_
                rintro e w5 ⟨rfl, hb5⟩
                rw [FA.out]
                have HB5 := Lib.hid (below_two HB4.out hb5)
                have HE5 := Lib.hid (HE4.out.below hb5 (by simp only [World.size_alloc]; omega))
                have HL5 := Lib.hid (HL4.out.below hb5 (by simp only [World.size_alloc]; omega))
                have hs5 : wo.heap.size < w5.heap.size := by have := hb5.size; simp only [World.size_alloc] at this; omega
                obtain ⟨q0, q1, q2⟩ := link_blk HL5.out
                clear hb5 HF1 c0 c1 c2 e0 e1 e2 e3 e4
                have HF2 := Lib.hid (rfind_any gl gA gn gc x1 B (w5.alloc (.cells #[.int .i64 a0, .int .i64 a1, .int .i64 a2, .int .i64 a3] 42)) (HGC.out.rd.lowg hB (Nat.le_refl _) (HB5.out.alloc (by omega) _)) (by simp only [World.size_alloc]; omega) HGC.out.le)
                go_wp2_with fail
                refine HF2.out.mono ?_
                rintro e w6 ⟨rfl, hb6⟩
                rw [FB.out]
                have HB6 := Lib.hid ((below_two (HB5.out.alloc (by omega) (.cells #[.int .i64 a0, .int .i64 a1, .int .i64 a2, .int .i64 a3] 42)) hb6).alloc (by have := hb6.size; simp only [World.size_alloc] at this; omega) (.cells #[.int .i64 0, .int .i64 0, .int .i64 0, .int .i64 0] 42))
                have hk6 := ((Blk.new w5 42 #[.int .i64 a0, .int .i64 a1, .int .i64 a2, .int .i64 a3]).below hb6 (by simp))
                have hl6 := ((HL5.out.alloc (.cells #[.int .i64 a0, .int .i64 a1, .int .i64 a2, .int .i64 a3] 42)).below hb6 (by simp only [World.size_alloc]; omega))
                have he6 := ((HE5.out.alloc (.cells #[.int .i64 a0, .int .i64 a1, .int .i64 a2, .int .i64 a3] 42)).below hb6 (by simp only [World.size_alloc]; omega))
                have hs6 : w5.heap.size < w6.heap.size := by have := hb6.size; simp only [World.size_alloc] at this; omega
                have hs6' : wo.heap.size < w6.heap.size := by omega
                have hs6'' : w.heap.size < w6.heap.size := by omega
                have HE6 := Lib.hid (he6.alloc (.cells #[.int .i64 0, .int .i64 0, .int .i64 0, .int .i64 0] 42))
                have HL6 := Lib.hid (hl6.alloc (.cells #[.int .i64 0, .int .i64 0, .int .i64 0, .int .i64 0] 42))
                obtain ⟨k0, k1', k2, k3'⟩ := acc_blk hk6
                obtain ⟨m0, m1, m2⟩ := link_blk hl6
                obtain ⟨n0, n1, n2, n3, n4⟩ := ent_blk he6
                clear hb6 HF2 q0 q1 q2 hk6 hl6 he6
                have F : Hid (mapR ch gl ls = false) := mapR_4 (linksOk_no HKL.out (by rw [HAT.out, HLO.out]; rfl))
                go_wp2_with fail
                go_ret
                exact ⟨ret_bool (HG.out.trans F.out).symm, HB6.out⟩
              | some b =>
                have FB := Lib.hid (findV_yes hfb)
                have FO : Hid (linkOk ch gl ⟨x0, x1, x2⟩ = ((a.kind == b.kind) && dateB x2)) := linkOk_ab hfa hfb
                clear hfa hfb
                obtain ⟨a0, a1, a2, a3⟩ := a
                obtain ⟨b0, b1, b2, b3⟩ := b
                simp only [] at FA FB FO
                cases hkk : a1 == b1
                case false =>
                  have hkn : (a1 != b1) = true := by rw [bne, hkk]; rfl
                  have HLO : Hid (linkOk ch gl ⟨x0, x1, x2⟩ = false) := by show _ = _; rw [FO.out, hkk]; rfl
                  go_wp2_with fail
                  have HF1 := Lib.hid (rfind_any ch Ac nc cc x0 B _ (HC.out.rd.lowg hB (Nat.le_refl _) HB4.out) (by simp only [World.size_alloc]; omega) HC.out.le)
                  refine HF1.out.mono ?_
                  rintro e w5 ⟨rfl, hb5⟩
                  rw [FA.out]
                  have HB5 := Lib.hid (below_two HB4.out hb5)
                  have HE5 := Lib.hid (HE4.out.below hb5 (by simp only [World.size_alloc]; omega))
                  have HL5 := Lib.hid (HL4.out.below hb5 (by simp only [World.size_alloc]; omega))
                  have hs5 : wo.heap.size < w5.heap.size := by have := hb5.size; simp only [World.size_alloc] at this; omega
                  obtain ⟨q0, q1, q2⟩ := link_blk HL5.out
                  clear hb5 HF1 c0 c1 c2 e0 e1 e2 e3 e4
                  have HF2 := Lib.hid (rfind_any gl gA gn gc x1 B (w5.alloc (.cells #[.int .i64 a0, .int .i64 a1, .int .i64 a2, .int .i64 a3] 42)) (HGC.out.rd.lowg hB (Nat.le_refl _) (HB5.out.alloc (by omega) _)) (by simp only [World.size_alloc]; omega) HGC.out.le)
                  go_wp2_with fail
                  refine HF2.out.mono ?_
                  rintro e w6 ⟨rfl, hb6⟩
                  rw [FB.out]
                  have HB6 := Lib.hid ((below_two (HB5.out.alloc (by omega) (.cells #[.int .i64 a0, .int .i64 a1, .int .i64 a2, .int .i64 a3] 42)) hb6).alloc (by have := hb6.size; simp only [World.size_alloc] at this; omega) (.cells #[.int .i64 b0, .int .i64 b1, .int .i64 b2, .int .i64 b3] 42))
                  have hk6 := ((Blk.new w5 42 #[.int .i64 a0, .int .i64 a1, .int .i64 a2, .int .i64 a3]).below hb6 (by simp))
                  have hl6 := ((HL5.out.alloc (.cells #[.int .i64 a0, .int .i64 a1, .int .i64 a2, .int .i64 a3] 42)).below hb6 (by simp only [World.size_alloc]; omega))
                  have he6 := ((HE5.out.alloc (.cells #[.int .i64 a0, .int .i64 a1, .int .i64 a2, .int .i64 a3] 42)).below hb6 (by simp only [World.size_alloc]; omega))
                  have hs6 : w5.heap.size < w6.heap.size := by have := hb6.size; simp only [World.size_alloc] at this; omega
                  have hs6' : wo.heap.size < w6.heap.size := by omega
                  have hs6'' : w.heap.size < w6.heap.size := by omega
                  have HE6 := Lib.hid (he6.alloc (.cells #[.int .i64 b0, .int .i64 b1, .int .i64 b2, .int .i64 b3] 42))
                  have HL6 := Lib.hid (hl6.alloc (.cells #[.int .i64 b0, .int .i64 b1, .int .i64 b2, .int .i64 b3] 42))
                  obtain ⟨k0, k1', k2, k3'⟩ := acc_blk hk6
                  obtain ⟨m0, m1, m2⟩ := link_blk hl6
                  obtain ⟨n0, n1, n2, n3, n4⟩ := ent_blk he6
                  clear hb6 HF2 q0 q1 q2 hk6 hl6 he6
                  have F : Hid (mapR ch gl ls = false) := mapR_4 (linksOk_no HKL.out (by rw [HAT.out, HLO.out]; rfl))
                  go_wp2_with fail
                  go_ret
                  exact ⟨ret_bool (HG.out.trans F.out).symm, HB6.out⟩
                case true =>
                  have hkn : (a1 != b1) = false := by rw [bne, hkk]; rfl
                  cases hdv : dateB x2
                  case false =>
                    have HDV := Lib.hid hdv
                    have HLO : Hid (linkOk ch gl ⟨x0, x1, x2⟩ = false) := by show _ = _; rw [FO.out, hkk, hdv]; rfl
                    have HKK := Lib.hid hkk
                    clear hdv hkk
                    go_wp2_with fail
                    have HF1 := Lib.hid (rfind_any ch Ac nc cc x0 B _ (HC.out.rd.lowg hB (Nat.le_refl _) HB4.out) (by simp only [World.size_alloc]; omega) HC.out.le)
                    refine HF1.out.mono ?_
                    rintro e w5 ⟨rfl, hb5⟩
                    rw [FA.out]
                    have HB5 := Lib.hid (below_two HB4.out hb5)
                    have HE5 := Lib.hid (HE4.out.below hb5 (by simp only [World.size_alloc]; omega))
                    have HL5 := Lib.hid (HL4.out.below hb5 (by simp only [World.size_alloc]; omega))
                    have hs5 : wo.heap.size < w5.heap.size := by have := hb5.size; simp only [World.size_alloc] at this; omega
                    obtain ⟨q0, q1, q2⟩ := link_blk HL5.out
                    clear hb5 HF1 c0 c1 c2 e0 e1 e2 e3 e4
                    have HF2 := Lib.hid (rfind_any gl gA gn gc x1 B (w5.alloc (.cells #[.int .i64 a0, .int .i64 a1, .int .i64 a2, .int .i64 a3] 42)) (HGC.out.rd.lowg hB (Nat.le_refl _) (HB5.out.alloc (by omega) _)) (by simp only [World.size_alloc]; omega) HGC.out.le)
                    go_wp2_with fail
                    refine HF2.out.mono ?_
                    rintro e w6 ⟨rfl, hb6⟩
                    rw [FB.out]
                    have HB6 := Lib.hid ((below_two (HB5.out.alloc (by omega) (.cells #[.int .i64 a0, .int .i64 a1, .int .i64 a2, .int .i64 a3] 42)) hb6).alloc (by have := hb6.size; simp only [World.size_alloc] at this; omega) (.cells #[.int .i64 b0, .int .i64 b1, .int .i64 b2, .int .i64 b3] 42))
                    have hk6 := ((Blk.new w5 42 #[.int .i64 a0, .int .i64 a1, .int .i64 a2, .int .i64 a3]).below hb6 (by simp))
                    have hl6 := ((HL5.out.alloc (.cells #[.int .i64 a0, .int .i64 a1, .int .i64 a2, .int .i64 a3] 42)).below hb6 (by simp only [World.size_alloc]; omega))
                    have he6 := ((HE5.out.alloc (.cells #[.int .i64 a0, .int .i64 a1, .int .i64 a2, .int .i64 a3] 42)).below hb6 (by simp only [World.size_alloc]; omega))
                    have hs6 : w5.heap.size < w6.heap.size := by have := hb6.size; simp only [World.size_alloc] at this; omega
                    have hs6' : wo.heap.size < w6.heap.size := by omega
                    have hs6'' : w.heap.size < w6.heap.size := by omega
                    have HE6 := Lib.hid (he6.alloc (.cells #[.int .i64 b0, .int .i64 b1, .int .i64 b2, .int .i64 b3] 42))
                    have HL6 := Lib.hid (hl6.alloc (.cells #[.int .i64 b0, .int .i64 b1, .int .i64 b2, .int .i64 b3] 42))
                    obtain ⟨k0, k1', k2, k3'⟩ := acc_blk hk6
                    obtain ⟨m0, m1, m2⟩ := link_blk hl6
                    obtain ⟨n0, n1, n2, n3, n4⟩ := ent_blk he6
                    clear hb6 HF2 q0 q1 q2 hk6 hl6 he6
                    have F : Hid (mapR ch gl ls = false) := mapR_4 (linksOk_no HKL.out (by rw [HAT.out, HLO.out]; rfl))
                    go_wp2_with fail
                    refine (refDvalid_any x2 _).mono ?_
                    rintro e wx ⟨rfl, rfl⟩
                    rw [HDV.out]
                    go_wp2_with fail
                    go_ret
                    exact ⟨ret_bool (HG.out.trans F.out).symm, HB6.out⟩
                  case true =>
                    have HDV := Lib.hid hdv
                    have HLO : Hid (linkOk ch gl ⟨x0, x1, x2⟩ = true) := by show _ = _; rw [FO.out, hkk, hdv]; rfl
                    have HKK := Lib.hid hkk
                    clear hdv hkk
                    go_wp2_with fail
                    have HF1 := Lib.hid (rfind_any ch Ac nc cc x0 B _ (HC.out.rd.lowg hB (Nat.le_refl _) HB4.out) (by simp only [World.size_alloc]; omega) HC.out.le)
                    refine HF1.out.mono ?_
                    rintro e w5 ⟨rfl, hb5⟩
                    rw [FA.out]
                    have HB5 := Lib.hid (below_two HB4.out hb5)
                    have HE5 := Lib.hid (HE4.out.below hb5 (by simp only [World.size_alloc]; omega))
                    have HL5 := Lib.hid (HL4.out.below hb5 (by simp only [World.size_alloc]; omega))
                    have hs5 : wo.heap.size < w5.heap.size := by have := hb5.size; simp only [World.size_alloc] at this; omega
                    obtain ⟨q0, q1, q2⟩ := link_blk HL5.out
                    clear hb5 HF1 c0 c1 c2 e0 e1 e2 e3 e4
                    have HF2 := Lib.hid (rfind_any gl gA gn gc x1 B (w5.alloc (.cells #[.int .i64 a0, .int .i64 a1, .int .i64 a2, .int .i64 a3] 42)) (HGC.out.rd.lowg hB (Nat.le_refl _) (HB5.out.alloc (by omega) _)) (by simp only [World.size_alloc]; omega) HGC.out.le)
                    go_wp2_with fail
                    refine HF2.out.mono ?_
                    rintro e w6 ⟨rfl, hb6⟩
                    rw [FB.out]
                    have HB6 := Lib.hid ((below_two (HB5.out.alloc (by omega) (.cells #[.int .i64 a0, .int .i64 a1, .int .i64 a2, .int .i64 a3] 42)) hb6).alloc (by have := hb6.size; simp only [World.size_alloc] at this; omega) (.cells #[.int .i64 b0, .int .i64 b1, .int .i64 b2, .int .i64 b3] 42))
                    have hk6 := ((Blk.new w5 42 #[.int .i64 a0, .int .i64 a1, .int .i64 a2, .int .i64 a3]).below hb6 (by simp))
                    have hl6 := ((HL5.out.alloc (.cells #[.int .i64 a0, .int .i64 a1, .int .i64 a2, .int .i64 a3] 42)).below hb6 (by simp only [World.size_alloc]; omega))
                    have he6 := ((HE5.out.alloc (.cells #[.int .i64 a0, .int .i64 a1, .int .i64 a2, .int .i64 a3] 42)).below hb6 (by simp only [World.size_alloc]; omega))
                    have hs6 : w5.heap.size < w6.heap.size := by have := hb6.size; simp only [World.size_alloc] at this; omega
                    have hs6' : wo.heap.size < w6.heap.size := by omega
                    have hs6'' : w.heap.size < w6.heap.size := by omega
                    have HE6 := Lib.hid (he6.alloc (.cells #[.int .i64 b0, .int .i64 b1, .int .i64 b2, .int .i64 b3] 42))
                    have HL6 := Lib.hid (hl6.alloc (.cells #[.int .i64 b0, .int .i64 b1, .int .i64 b2, .int .i64 b3] 42))
                    obtain ⟨k0, k1', k2, k3'⟩ := acc_blk hk6
                    obtain ⟨m0, m1, m2⟩ := link_blk hl6
                    obtain ⟨n0, n1, n2, n3, n4⟩ := ent_blk he6
                    clear hb6 HF2 q0 q1 q2 hk6 hl6 he6
                    go_wp2_with fail
                    refine (refDvalid_any x2 _).mono ?_
                    rintro e wx ⟨rfl, rfl⟩
                    rw [HDV.out]
                    go_wp2_with fail
                    clear k0 k1' k2 k3' m0 m1 m2 n0 n1 n2 n3 n4
                    have hsb := HB6.out.size
                    generalize hwi : w6.alloc _ = wi at *
                    clear hwi
                    have hLt := HL6.out.lt
                    have hEt := HE6.out.lt
                    go_loopw [11] (fun i wr => ∃ j : Nat, i = .int .i64 j ∧ j ≤ k ∧ (ls.take j).any (fun y => (y.frm == x0) && (y.since == x2)) = false ∧ Below wi.heap.size wi wr) (fun i _ => k - (intOf i).toNat)
                    case atStart => exact ⟨0, rfl, by omega, rfl, Below.refl _ _⟩
                    case round =>
                      obtain ⟨j, rfl, hj, hja, hbj⟩ := hrel
                      obtain ⟨wj, rfl⟩ : ∃ wj : World, wj = wr := ⟨_, rfl⟩
                      have HJA := Lib.hid hja
                      clear hja
                      have HBJ := Lib.hid (below_two HB6.out hbj)
                      have HEJ := Lib.hid (HE6.out.below hbj hEt)
                      have HLJ := Lib.hid (HL6.out.below hbj hLt)
                      have hsj := hbj.size
                      by_cases hjk : j < k
                      case pos =>
                        have k5 : decide ((j : Int) < (k : Int)) = true := by rw [decide_eq_true_eq]; omega
                        obtain ⟨ad', ead, hbk', d0, d1, d2⟩ := (HLI.out.rd.lowg hB (Nat.le_refl _) HBJ.out).link_at (k := j) (by omega)
                        injection ead with ead
                        subst ead
                        obtain ⟨m0, m1, m2⟩ := link_blk HLJ.out
                        obtain ⟨n0, n1, n2, n3, n4⟩ := ent_blk HEJ.out
                        have HJS : Hid ((ls.take (j + 1)).any (fun y => (y.frm == x0) && (y.since == x2)) = ((ls.take j).any (fun y => (y.frm == x0) && (y.since == x2)) || (((ls.getD j default).frm == x0) && ((ls.getD j default).since == x2)))) := any_take (by have := HKL.out; omega)
                        have HJY : Hid ((((ls.getD j default).frm == x0) && ((ls.getD j default).since == x2)) = true → linkSeen ls k ⟨x0, x1, x2⟩ = true) := fun h => any_of hjk (by have := HKL.out; omega) h
                        have hj1 : (j : Int) < (nl : Int) := by omega
                        have hj0 : (0 : Int) ≤ (j : Int) := by omega
                        generalize ls.getD j default = y at *
                        obtain ⟨y0, y1, y2⟩ := y
                        simp only [] at d0 d1 d2 HJS HJY
                        cases f1 : y0 == x0
                        case false =>
                          have F : Hid ((ls.take (j + 1)).any (fun y => (y.frm == x0) && (y.since == x2)) = false) := by show _ = _; rw [HJS.out, HJA.out, f1]; rfl
                          clear HJS HJY
                          go_wp2_with fail
                          go_quiet (fail)
                          go_wp2_with fail
                          exact ⟨⟨j + 1, by go_num, by omega, F.out, below_drewN hbj _⟩, by simp [intOf]; omega⟩
                        case true =>
                          cases f2 : y2 == x2
                          case false =>
                            have F : Hid ((ls.take (j + 1)).any (fun y => (y.frm == x0) && (y.since == x2)) = false) := by show _ = _; rw [HJS.out, HJA.out, f2]; simp
                            clear HJS HJY
                            go_wp2_with fail
                            go_quiet (fail)
                            go_wp2_with fail
                            exact ⟨⟨j + 1, by go_num, by omega, F.out, below_drewN hbj _⟩, by simp [intOf]; omega⟩
                          case true =>
                            have HSE := Lib.hid (HJY.out (by rw [f1, f2]; rfl))
                            have F : Hid (mapR ch gl ls = false) := mapR_4 (linksOk_no HKL.out (by rw [HAT.out, HSE.out]; simp))
                            clear HJS HJY
                            go_wp2_with fail
                            go_quiet (fail)
                            go_wp2_with fail
                            go_ret
                            exact ⟨ret_bool (HG.out.trans F.out).symm, below_drewN HBJ.out _⟩
                      case neg =>
                        have k5 : decide ((j : Int) < (k : Int)) = false := by rw [decide_eq_false_iff_not]; omega
                        have HSE : Hid (linkSeen ls k ⟨x0, x1, x2⟩ = false) := by
                          show _ = _
                          unfold linkSeen
                          rw [show k = j by omega]
                          exact HJA.out
                        have F := Lib.hid (allR_step HD.out (by rw [HAT.out, HLO.out, HSE.out]; rfl))
                        go_wp2_with fail
                        exact ⟨⟨k + 1, by go_num, by omega, F.out, HBJ.out, HEJ.out⟩, by simp [intOf]; omega⟩
end Go.Proofs.YtcmmppkmkejniaaGreatDoor
