/-
  mapping.link: a link leads from an account of the entity to one of the group.
-/
import Derived.Test.YtcmmppkmkejniaaGreatDoorGvCv
import Derived.Test.YtcmmppkmkejniaaGreatDoorDatB
namespace Go.Proofs.YtcmmppkmkejniaaGreatDoor
open Go.RowKit
set_option linter.unusedVariables false
theorem linkOk_a {ec gc : List SAcc} {x : SLink} (h : findA ec x.frm = none) : linkOk ec gc x = false := by unfold linkOk; rw [h]
theorem linkOk_b {ec gc : List SAcc} {x : SLink} (h : findA gc x.to_ = none) : linkOk ec gc x = false := by
  unfold linkOk
  rw [h]
  cases findA ec x.frm <;> rfl
theorem linkOk_ab {ec gc : List SAcc} {x : SLink} {a b : SAcc} (h : findA ec x.frm = some a) (h2 : findA gc x.to_ = some b) : linkOk ec gc x = ((a.kind == b.kind) && dateB x.since) := by unfold linkOk; rw [h, h2]
set_option maxRecDepth 100000 in
set_option maxHeartbeats 8000000 in
theorem link_any (x : SEnt) (l : SLink) (gA : Option Addr) (gn gc : Nat) (gl : List SAcc) (B : Nat) (w : World) (hx : EntIn w B x) (hg : ChartIn w B gA gn gc gl) (hB : B ≤ w.heap.size) :
    Calls Tryz.prog 110 #[entV x, .slice gA gn gc, linkV l] w fun e w' => e = .returned (.bool (linkOk x.chart gl l)) ∧ Below w.heap.size w w' := by
  obtain ⟨nm, cu, Ac, nc, cc, ch, Al, nl, cl, ls, jt⟩ := x
  obtain ⟨l0, l1, l2⟩ := l
  unfold entV linkV
  have HC := Lib.hid hx.ch
  have HGC := Lib.hid hg
  clear hx hg
  simp only [] at HC ⊢
  generalize hgo : linkOk ch gl ⟨l0, l1, l2⟩ = ok
  have HG := Lib.hid hgo.symm
  clear hgo
  have HB0 := Lib.hid (((Below.refl w.heap.size w).alloc (Nat.le_refl _) (.cells #[.string ⟨nm.toArray⟩, .string ⟨cu.toArray⟩, .slice Ac nc cc, .slice Al nl cl, .bool jt] 61)).alloc (by simp) (.cells #[.int .i64 l0, .int .i64 l1, .int .i64 l2] 99))
  have HL : Hid (Blk ((w.alloc (.cells #[.string ⟨nm.toArray⟩, .string ⟨cu.toArray⟩, .slice Ac nc cc, .slice Al nl cl, .bool jt] 61)).alloc (.cells #[.int .i64 l0, .int .i64 l1, .int .i64 l2] 99)) (w.heap.size + 1) 99 #[.int .i64 l0, .int .i64 l1, .int .i64 l2]) := by
    have := Blk.new (w.alloc (.cells #[.string ⟨nm.toArray⟩, .string ⟨cu.toArray⟩, .slice Ac nc cc, .slice Al nl cl, .bool jt] 61)) 99 #[.int .i64 l0, .int .i64 l1, .int .i64 l2]
    simp only [World.size_alloc] at this
    exact this
  cases hfa : findA ch l0 with
  | none =>
    have FA := Lib.hid (findV_no hfa)
    have F : Hid (linkOk ch gl ⟨l0, l1, l2⟩ = false) := linkOk_a hfa
    clear hfa
    cases hfb : findA gl l1 with
    | none =>
      have FB := Lib.hid (findV_no hfb)
      clear hfb
      skip
      go_enter Tryz.func110, Tryz.ntmps110
      go_wp2_with fail
      have HF1 := Lib.hid (find_any ch Ac nc cc l0 B _ (HC.out.rd.lowg hB (Nat.le_refl _) HB0.out) (by simp only [World.size_alloc]; omega) HC.out.le)
      refine HF1.out.mono ?_
      rintro e w1 ⟨rfl, hb1⟩
      rw [FA.out]
      have HB1 := Lib.hid (below_two HB0.out hb1)
      have HL1 := Lib.hid (HL.out.below hb1 (by simp))
      obtain ⟨c0, c1, c2⟩ := link_blk HL1.out
      have hs1 : w.heap.size + 1 < w1.heap.size := by have := hb1.size; simp only [World.size_alloc] at this; omega
      clear hb1 HF1
      have HF2 := Lib.hid (find_any gl gA gn gc l1 B (w1.alloc (.cells #[.int .i64 0, .int .i64 0, .int .i64 0, .int .i64 0] 42)) (HGC.out.rd.lowg hB (Nat.le_refl _) (HB1.out.alloc (by omega) _)) (by simp only [World.size_alloc]; omega) HGC.out.le)
      go_wp2_with fail
      refine HF2.out.mono ?_
      rintro e w2 ⟨rfl, hb2⟩
      rw [FB.out]
      have HB2 := Lib.hid (below_two (HB1.out.alloc (by omega) (.cells #[.int .i64 0, .int .i64 0, .int .i64 0, .int .i64 0] 42)) hb2)
      have HK2 := Lib.hid ((Blk.new w1 42 #[.int .i64 0, .int .i64 0, .int .i64 0, .int .i64 0]).below hb2 (by simp))
      have HL2 := Lib.hid ((HL1.out.alloc (.cells #[.int .i64 0, .int .i64 0, .int .i64 0, .int .i64 0] 42)).below hb2 (by simp only [World.size_alloc]; omega))
      have hs2 : w1.heap.size < w2.heap.size := by have := hb2.size; simp only [World.size_alloc] at this; omega
      have hs2' : w.heap.size + 1 < w2.heap.size := by omega
      obtain ⟨k0, k1, k2, k3⟩ := acc_blk HK2.out
      obtain ⟨m0, m1, m2⟩ := link_blk HL2.out
      clear hb2 HF2 c0 c1 c2
      go_wp2_with fail
      go_ret
      exact ⟨ret_bool (HG.out.trans F.out).symm, HB2.out.alloc (by omega) _⟩
    | some b =>
      have FB := Lib.hid (findV_yes hfb)
      clear hfb
      obtain ⟨b0, b1, b2, b3⟩ := b
      simp only [] at FB
      skip
      go_enter Tryz.func110, Tryz.ntmps110
      go_wp2_with fail
      have HF1 := Lib.hid (find_any ch Ac nc cc l0 B _ (HC.out.rd.lowg hB (Nat.le_refl _) HB0.out) (by simp only [World.size_alloc]; omega) HC.out.le)
      refine HF1.out.mono ?_
      rintro e w1 ⟨rfl, hb1⟩
      rw [FA.out]
      have HB1 := Lib.hid (below_two HB0.out hb1)
      have HL1 := Lib.hid (HL.out.below hb1 (by simp))
      obtain ⟨c0, c1, c2⟩ := link_blk HL1.out
      have hs1 : w.heap.size + 1 < w1.heap.size := by have := hb1.size; simp only [World.size_alloc] at this; omega
      clear hb1 HF1
      have HF2 := Lib.hid (find_any gl gA gn gc l1 B (w1.alloc (.cells #[.int .i64 0, .int .i64 0, .int .i64 0, .int .i64 0] 42)) (HGC.out.rd.lowg hB (Nat.le_refl _) (HB1.out.alloc (by omega) _)) (by simp only [World.size_alloc]; omega) HGC.out.le)
      go_wp2_with fail
      refine HF2.out.mono ?_
      rintro e w2 ⟨rfl, hb2⟩
      rw [FB.out]
      have HB2 := Lib.hid (below_two (HB1.out.alloc (by omega) (.cells #[.int .i64 0, .int .i64 0, .int .i64 0, .int .i64 0] 42)) hb2)
      have HK2 := Lib.hid ((Blk.new w1 42 #[.int .i64 0, .int .i64 0, .int .i64 0, .int .i64 0]).below hb2 (by simp))
      have HL2 := Lib.hid ((HL1.out.alloc (.cells #[.int .i64 0, .int .i64 0, .int .i64 0, .int .i64 0] 42)).below hb2 (by simp only [World.size_alloc]; omega))
      have hs2 : w1.heap.size < w2.heap.size := by have := hb2.size; simp only [World.size_alloc] at this; omega
      have hs2' : w.heap.size + 1 < w2.heap.size := by omega
      obtain ⟨k0, k1, k2, k3⟩ := acc_blk HK2.out
      obtain ⟨m0, m1, m2⟩ := link_blk HL2.out
      clear hb2 HF2 c0 c1 c2
      go_wp2_with fail
      go_ret
      exact ⟨ret_bool (HG.out.trans F.out).symm, HB2.out.alloc (by omega) _⟩
  | some a =>
    have FA := Lib.hid (findV_yes hfa)
    cases hfb : findA gl l1 with
    | none =>
      have FB := Lib.hid (findV_no hfb)
      have F : Hid (linkOk ch gl ⟨l0, l1, l2⟩ = false) := linkOk_b hfb
      clear hfa hfb
      obtain ⟨a0, a1, a2, a3⟩ := a
      simp only [] at FA
      skip
      go_enter Tryz.func110, Tryz.ntmps110
      go_wp2_with fail
      have HF1 := Lib.hid (find_any ch Ac nc cc l0 B _ (HC.out.rd.lowg hB (Nat.le_refl _) HB0.out) (by simp only [World.size_alloc]; omega) HC.out.le)
      refine HF1.out.mono ?_
      rintro e w1 ⟨rfl, hb1⟩
      rw [FA.out]
      have HB1 := Lib.hid (below_two HB0.out hb1)
      have HL1 := Lib.hid (HL.out.below hb1 (by simp))
      obtain ⟨c0, c1, c2⟩ := link_blk HL1.out
      have hs1 : w.heap.size + 1 < w1.heap.size := by have := hb1.size; simp only [World.size_alloc] at this; omega
      clear hb1 HF1
      have HF2 := Lib.hid (find_any gl gA gn gc l1 B (w1.alloc (.cells #[.int .i64 a0, .int .i64 a1, .int .i64 a2, .int .i64 a3] 42)) (HGC.out.rd.lowg hB (Nat.le_refl _) (HB1.out.alloc (by omega) _)) (by simp only [World.size_alloc]; omega) HGC.out.le)
      go_wp2_with fail
      refine HF2.out.mono ?_
      rintro e w2 ⟨rfl, hb2⟩
      rw [FB.out]
      have HB2 := Lib.hid (below_two (HB1.out.alloc (by omega) (.cells #[.int .i64 a0, .int .i64 a1, .int .i64 a2, .int .i64 a3] 42)) hb2)
      have HK2 := Lib.hid ((Blk.new w1 42 #[.int .i64 a0, .int .i64 a1, .int .i64 a2, .int .i64 a3]).below hb2 (by simp))
      have HL2 := Lib.hid ((HL1.out.alloc (.cells #[.int .i64 a0, .int .i64 a1, .int .i64 a2, .int .i64 a3] 42)).below hb2 (by simp only [World.size_alloc]; omega))
      have hs2 : w1.heap.size < w2.heap.size := by have := hb2.size; simp only [World.size_alloc] at this; omega
      have hs2' : w.heap.size + 1 < w2.heap.size := by omega
      obtain ⟨k0, k1, k2, k3⟩ := acc_blk HK2.out
      obtain ⟨m0, m1, m2⟩ := link_blk HL2.out
      clear hb2 HF2 c0 c1 c2
      go_wp2_with fail
      go_ret
      exact ⟨ret_bool (HG.out.trans F.out).symm, HB2.out.alloc (by omega) _⟩
    | some b =>
      have FB := Lib.hid (findV_yes hfb)
      have FO : Hid (linkOk ch gl ⟨l0, l1, l2⟩ = ((a.kind == b.kind) && dateB l2)) := linkOk_ab hfa hfb
      clear hfa hfb
      obtain ⟨a0, a1, a2, a3⟩ := a
      obtain ⟨b0, b1, b2, b3⟩ := b
      simp only [] at FA FB FO
      cases hk : a1 == b1
      case false =>
        have F : Hid (linkOk ch gl ⟨l0, l1, l2⟩ = false) := by show _ = _; rw [FO.out, hk]; rfl
        skip
        go_enter Tryz.func110, Tryz.ntmps110
        go_wp2_with fail
        have HF1 := Lib.hid (find_any ch Ac nc cc l0 B _ (HC.out.rd.lowg hB (Nat.le_refl _) HB0.out) (by simp only [World.size_alloc]; omega) HC.out.le)
        refine HF1.out.mono ?_
        rintro e w1 ⟨rfl, hb1⟩
        rw [FA.out]
        have HB1 := Lib.hid (below_two HB0.out hb1)
        have HL1 := Lib.hid (HL.out.below hb1 (by simp))
        obtain ⟨c0, c1, c2⟩ := link_blk HL1.out
        have hs1 : w.heap.size + 1 < w1.heap.size := by have := hb1.size; simp only [World.size_alloc] at this; omega
        clear hb1 HF1
        have HF2 := Lib.hid (find_any gl gA gn gc l1 B (w1.alloc (.cells #[.int .i64 a0, .int .i64 a1, .int .i64 a2, .int .i64 a3] 42)) (HGC.out.rd.lowg hB (Nat.le_refl _) (HB1.out.alloc (by omega) _)) (by simp only [World.size_alloc]; omega) HGC.out.le)
        go_wp2_with fail
        refine HF2.out.mono ?_
        rintro e w2 ⟨rfl, hb2⟩
        rw [FB.out]
        have HB2 := Lib.hid (below_two (HB1.out.alloc (by omega) (.cells #[.int .i64 a0, .int .i64 a1, .int .i64 a2, .int .i64 a3] 42)) hb2)
        have HK2 := Lib.hid ((Blk.new w1 42 #[.int .i64 a0, .int .i64 a1, .int .i64 a2, .int .i64 a3]).below hb2 (by simp))
        have HL2 := Lib.hid ((HL1.out.alloc (.cells #[.int .i64 a0, .int .i64 a1, .int .i64 a2, .int .i64 a3] 42)).below hb2 (by simp only [World.size_alloc]; omega))
        have hs2 : w1.heap.size < w2.heap.size := by have := hb2.size; simp only [World.size_alloc] at this; omega
        have hs2' : w.heap.size + 1 < w2.heap.size := by omega
        obtain ⟨k0, k1, k2, k3⟩ := acc_blk HK2.out
        obtain ⟨m0, m1, m2⟩ := link_blk HL2.out
        clear hb2 HF2 c0 c1 c2
        go_wp2_with fail
        go_ret
        exact ⟨ret_bool (HG.out.trans F.out).symm, HB2.out.alloc (by omega) _⟩
      case true =>
        have F : Hid (linkOk ch gl ⟨l0, l1, l2⟩ = dateB l2) := by show _ = _; rw [FO.out, hk]; rfl
        skip
        go_enter Tryz.func110, Tryz.ntmps110
        go_wp2_with fail
        have HF1 := Lib.hid (find_any ch Ac nc cc l0 B _ (HC.out.rd.lowg hB (Nat.le_refl _) HB0.out) (by simp only [World.size_alloc]; omega) HC.out.le)
        refine HF1.out.mono ?_
        rintro e w1 ⟨rfl, hb1⟩
        rw [FA.out]
        have HB1 := Lib.hid (below_two HB0.out hb1)
        have HL1 := Lib.hid (HL.out.below hb1 (by simp))
        obtain ⟨c0, c1, c2⟩ := link_blk HL1.out
        have hs1 : w.heap.size + 1 < w1.heap.size := by have := hb1.size; simp only [World.size_alloc] at this; omega
        clear hb1 HF1
        have HF2 := Lib.hid (find_any gl gA gn gc l1 B (w1.alloc (.cells #[.int .i64 a0, .int .i64 a1, .int .i64 a2, .int .i64 a3] 42)) (HGC.out.rd.lowg hB (Nat.le_refl _) (HB1.out.alloc (by omega) _)) (by simp only [World.size_alloc]; omega) HGC.out.le)
        go_wp2_with fail
        refine HF2.out.mono ?_
        rintro e w2 ⟨rfl, hb2⟩
        rw [FB.out]
        have HB2 := Lib.hid (below_two (HB1.out.alloc (by omega) (.cells #[.int .i64 a0, .int .i64 a1, .int .i64 a2, .int .i64 a3] 42)) hb2)
        have HK2 := Lib.hid ((Blk.new w1 42 #[.int .i64 a0, .int .i64 a1, .int .i64 a2, .int .i64 a3]).below hb2 (by simp))
        have HL2 := Lib.hid ((HL1.out.alloc (.cells #[.int .i64 a0, .int .i64 a1, .int .i64 a2, .int .i64 a3] 42)).below hb2 (by simp only [World.size_alloc]; omega))
        have hs2 : w1.heap.size < w2.heap.size := by have := hb2.size; simp only [World.size_alloc] at this; omega
        have hs2' : w.heap.size + 1 < w2.heap.size := by omega
        obtain ⟨k0, k1, k2, k3⟩ := acc_blk HK2.out
        obtain ⟨m0, m1, m2⟩ := link_blk HL2.out
        clear hb2 HF2 c0 c1 c2
        go_wp2_with fail
        refine (dvalid_any l2 _).mono ?_
        rintro e wx ⟨rfl, rfl⟩
        go_wp2_with fail
        go_ret
        exact ⟨ret_bool (HG.out.trans F.out).symm, HB2.out.alloc (by omega) _⟩
end Go.Proofs.YtcmmppkmkejniaaGreatDoor
