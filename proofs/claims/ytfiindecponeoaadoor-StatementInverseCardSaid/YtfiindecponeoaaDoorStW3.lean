/-
  The reference's proper.
-/
import Derived.Test.YtfiindecponeoaaDoorStW2
namespace Go.Proofs.YtfiindecponeoaaDoor
open Go.RowKit
set_option linter.unusedVariables false
theorem nameOk_len {l : List UInt8} (h : ¬ (1 ≤ l.length ∧ l.length ≤ 16)) : nameOk l = false := by
  unfold nameOk
  have : (decide (1 ≤ l.length) && decide (l.length ≤ 16)) = false := by
    rw [Bool.and_eq_false_iff]
    by_cases h1 : 1 ≤ l.length
    · right; rw [decide_eq_false_iff_not]; omega
    · left; rw [decide_eq_false_iff_not]; omega
  rw [this, Bool.and_false]; rfl
theorem nameOk_first {l : List UInt8} (h : (l.getD 0 0 == 32) = true) : nameOk l = false := by
  unfold nameOk; rw [h]; simp
theorem nameOk_last {l : List UInt8} (h : (l.getD (l.length - 1) 0 == 32) = true) : nameOk l = false := by
  unfold nameOk; rw [h]; simp
theorem nameOk_all {l : List UInt8} (h : l.all prB = true) (h1 : 1 ≤ l.length) (h2 : l.length ≤ 16) (h3 : (l.getD 0 0 == 32) = false) (h4 : (l.getD (l.length - 1) 0 == 32) = false) : nameOk l = true := by
  unfold nameOk; rw [h, h3, h4, decide_eq_true h1, decide_eq_true h2]; rfl
theorem byte32 (b : UInt8) : (((b.toNat : Nat) : Int) == 32) = (b == 32) := by
  rw [Bool.eq_iff_iff, beq_iff_eq, beq_iff_eq]
  constructor
  · intro h; exact UInt8.toNat_inj.1 (by rw [show (32 : UInt8).toNat = 32 from rfl]; omega)
  · intro h; rw [h]; rfl
set_option maxRecDepth 100000 in
set_option maxHeartbeats 8000000 in
theorem refProper_any (b : Int) (r : SRow) (w : World) (hb1 : -1 ≤ b) (hb2 : b ≤ 9) (hnl : r.name.length ≤ 9223372036854775807) :
    Calls Tryd.prog 24 #[rowV r, .int .i64 b] w fun e w' => e = .returned (.bool (okRow b r)) ∧ Below w.heap.size w w' := by
  obtain ⟨l, lv, fr, to_, ng⟩ := r
  unfold rowV
  simp only [] at hnl ⊢
  generalize hgo : okRow b ⟨l, lv, fr, to_, ng⟩ = ok
  have HG := Lib.hid hgo.symm
  clear hgo
  have hb0 := (Below.refl w.heap.size w).alloc (Nat.le_refl _) (.cells #[.string ⟨l.toArray⟩, .int .i64 lv, .int .i64 fr, .int .i64 to_, .bool ng] 40)
  have HB0 := Lib.hid hb0
  have HBLK := Lib.hid (Blk.new w 40 #[.string ⟨l.toArray⟩, .int .i64 lv, .int .i64 fr, .int .i64 to_, .bool ng])
  clear hb0
  go_enter Tryd.func24, Tryd.ntmps24
  go_wp2_with fail
  go_loop [5] (fun i => ∃ k : Nat, k ≤ l.length ∧ i = .int .i64 k ∧ (l.take k).all prB = true) (fun i => l.length - (intOf i).toNat)
  case atStart => exact ⟨0, Nat.zero_le _, rfl, rfl⟩
  case round =>
    obtain ⟨k, hk, rfl, hd⟩ := hrel
    have HD := Lib.hid hd
    clear hd
    by_cases hlt : k < l.length
    · have hli : decide ((k : Int) < (l.length : Int)) = true := by rw [decide_eq_true_eq]; omega
      have hsz : k < (⟨l.toArray⟩ : ByteArray).size := by rw [mk_size]; exact hlt
      have hg := mk_getD l k hsz
      cases hc : prB (l.getD k 0)
      · have F := Lib.hid (okRow_no (b := b) (r := ⟨l, lv, fr, to_, ng⟩) (by simp only []; rintro ⟨a, _⟩; rw [nameOk_bad hlt hc] at a; cases a))
        have hno := prB_no hc
        rw [← hg] at hno
        clear hg hc
        rcases hno with g1 | g1 | g1
        · have g2 : decide (((⟨l.toArray⟩ : ByteArray)[k].toNat : Int) < 32) = true := by rw [decide_eq_true_eq]; omega
          clear g1
          go_wp2_with fail
          go_ret
          exact ⟨ret_bool (HG.out.trans F.out).symm, HB0.out⟩
        · have g2 : decide (((⟨l.toArray⟩ : ByteArray)[k].toNat : Int) < 32) = false := by rw [decide_eq_false_iff_not]; omega
          have g3 : decide ((126 : Int) < ((⟨l.toArray⟩ : ByteArray)[k].toNat : Int)) = true := by rw [decide_eq_true_eq]; omega
          clear g1
          go_wp2_with fail
          go_ret
          exact ⟨ret_bool (HG.out.trans F.out).symm, HB0.out⟩
        · have g2 : decide (((⟨l.toArray⟩ : ByteArray)[k].toNat : Int) < 32) = false := by rw [decide_eq_false_iff_not]; omega
          have g3 : decide ((126 : Int) < ((⟨l.toArray⟩ : ByteArray)[k].toNat : Int)) = false := by rw [decide_eq_false_iff_not]; omega
          have g4 : (((⟨l.toArray⟩ : ByteArray)[k].toNat : Int) == 34) = true := by rw [beq_iff_eq]; omega
          clear g1
          go_wp2_with fail
          go_ret
          exact ⟨ret_bool (HG.out.trans F.out).symm, HB0.out⟩
      · have h12 := prB_iff.1 hc
        rw [← hg] at h12
        have g2 : decide (((⟨l.toArray⟩ : ByteArray)[k].toNat : Int) < 32) = false := by rw [decide_eq_false_iff_not]; omega
        have g3 : decide ((126 : Int) < ((⟨l.toArray⟩ : ByteArray)[k].toNat : Int)) = false := by rw [decide_eq_false_iff_not]; omega
        have g4 : (((⟨l.toArray⟩ : ByteArray)[k].toNat : Int) == 34) = false := by rw [beq_eq_false_iff_ne]; omega
        have F := Lib.hid (take_all_succ hlt HD.out hc)
        clear hg hc h12
        go_wp2_with fail
        go_round
        case rel => exact ⟨k + 1, by omega, by go_num, F.out⟩
        case measure => simp [intOf]; omega
    · have hT : l.all prB = true := by have := HD.out; rwa [List.take_of_length_le (by omega)] at this
      have hli : decide ((k : Int) < (l.length : Int)) = false := by rw [decide_eq_false_iff_not]; omega
      have HT := Lib.hid hT
      clear hT
      by_cases h1 : (l.length : Int) < 1
      · have e1 : decide ((l.length : Int) < 1) = true := by rw [decide_eq_true_eq]; exact h1
        have F := Lib.hid (okRow_no (b := b) (r := ⟨l, lv, fr, to_, ng⟩) (by simp only []; rintro ⟨a0, a, bb, c⟩; rw [nameOk_len (by omega)] at a0; cases a0))
        go_wp2_with fail
        go_ret
        exact ⟨ret_bool (HG.out.trans F.out).symm, HB0.out⟩
      have e1 : decide ((l.length : Int) < 1) = false := by rw [decide_eq_false_iff_not]; exact h1
      by_cases h16 : 16 < (l.length : Int)
      · have e2 : decide (16 < (l.length : Int)) = true := by rw [decide_eq_true_eq]; exact h16
        have F := Lib.hid (okRow_no (b := b) (r := ⟨l, lv, fr, to_, ng⟩) (by simp only []; rintro ⟨a0, a, bb, c⟩; rw [nameOk_len (by omega)] at a0; cases a0))
        go_wp2_with fail
        go_ret
        exact ⟨ret_bool (HG.out.trans F.out).symm, HB0.out⟩
      have e2 : decide (16 < (l.length : Int)) = false := by rw [decide_eq_false_iff_not]; exact h16
      have z0 : 0 < (⟨l.toArray⟩ : ByteArray).size := by rw [mk_size]; omega
      have y0 : 0 < l.length := by omega
      have g0 : (((⟨l.toArray⟩ : ByteArray)[0].toNat : Int) == 32) = (l.getD 0 0 == 32) := by rw [mk_getD]; exact byte32 _
      have z1 : l.length - 1 < (⟨l.toArray⟩ : ByteArray).size := by rw [mk_size]; omega
      have g1 : (((⟨l.toArray⟩ : ByteArray)[l.length - 1].toNat : Int) == 32) = (l.getD (l.length - 1) 0 == 32) := by rw [mk_getD]; exact byte32 _
      have i1 : ((l.length : Int) - 1).toNat = l.length - 1 := by omega
      have i2 : (0 : Int) ≤ (l.length : Int) - 1 := by omega
      have i3 : l.length - 1 < l.length := by omega
      cases hf0 : (l.getD 0 0 == 32)
      · cases hf1 : (l.getD (l.length - 1) 0 == 32)
        · have HNM := Lib.hid (nameOk_all HT.out (by omega) (by omega) hf0 hf1)
          rw [hf0] at g0
          rw [hf1] at g1
          clear hf0 hf1
          by_cases t2 : lv < 0
          · have d2 : (decide (lv < 0)) = true := by rw [decide_eq_true_eq]; omega
            have F := Lib.hid (okRow_no (b := b) (r := ⟨l, lv, fr, to_, ng⟩) (by simp only []; rintro ⟨a0, a, bb, c⟩; omega))
            go_wp2_with fail
            go_ret
            exact ⟨ret_bool (HG.out.trans F.out).symm, HB0.out⟩
          have d2 : (decide (lv < 0)) = false := by rw [decide_eq_false_iff_not]; omega
          by_cases t3 : 9 < lv
          · have d3 : (decide (9 < lv)) = true := by rw [decide_eq_true_eq]; omega
            have F := Lib.hid (okRow_no (b := b) (r := ⟨l, lv, fr, to_, ng⟩) (by simp only []; rintro ⟨a0, a, bb, c⟩; omega))
            go_wp2_with fail
            go_ret
            exact ⟨ret_bool (HG.out.trans F.out).symm, HB0.out⟩
          have d3 : (decide (9 < lv)) = false := by rw [decide_eq_false_iff_not]; omega
          by_cases t4 : b + 1 < lv
          · have d4 : (decide (b + 1 < lv)) = true := by rw [decide_eq_true_eq]; omega
            have F := Lib.hid (okRow_no (b := b) (r := ⟨l, lv, fr, to_, ng⟩) (by simp only []; rintro ⟨a0, a, bb, c⟩; omega))
            go_wp2_with fail
            go_ret
            exact ⟨ret_bool (HG.out.trans F.out).symm, HB0.out⟩
          have d4 : (decide (b + 1 < lv)) = false := by rw [decide_eq_false_iff_not]; omega
          by_cases t8 : to_ < fr
          · by_cases t9 : fr = 1
            · have d9 : (fr == 1) = true := by rw [beq_iff_eq]; exact t9
              by_cases t10 : to_ = 0
              · have d10 : (to_ == 0) = true := by rw [beq_iff_eq]; exact t10
                cases ng
                · have F := Lib.hid ((okRow_iff (b := b) (r := ⟨l, lv, fr, to_, false⟩)).2 (by simp only []; exact ⟨HNM.out, by omega, fun _ => ⟨t9, t10, trivial⟩, fun _ => by omega⟩))
                  have TT : Hid (isTitle ⟨l, lv, fr, to_, false⟩ = true) := by show _ = _; unfold isTitle; rw [decide_eq_true_eq]; omega
                  clear t9 t10
                  go_wp2_with fail
                  refine (refTitle_any ⟨l, lv, fr, to_, false⟩ _).mono ?_
                  rintro e w2 ⟨rfl, hb2⟩
                  rw [TT.out]
                  obtain ⟨e0, e1, e2, e3, e4⟩ := row_cells (HBLK.out.below hb2 (by simp))
                  go_wp2_with fail
                  go_ret
                  exact ⟨ret_bool (HG.out.trans F.out).symm, below_two HB0.out hb2⟩
                · have F := Lib.hid (okRow_no (b := b) (r := ⟨l, lv, fr, to_, true⟩) (by simp only []; rintro ⟨_, a, bb, c⟩; cases (bb t8).2.2))
                  have TT : Hid (isTitle ⟨l, lv, fr, to_, true⟩ = true) := by show _ = _; unfold isTitle; rw [decide_eq_true_eq]; omega
                  clear t9 t10
                  go_wp2_with fail
                  refine (refTitle_any ⟨l, lv, fr, to_, true⟩ _).mono ?_
                  rintro e w2 ⟨rfl, hb2⟩
                  rw [TT.out]
                  obtain ⟨e0, e1, e2, e3, e4⟩ := row_cells (HBLK.out.below hb2 (by simp))
                  go_wp2_with fail
                  go_ret
                  exact ⟨ret_bool (HG.out.trans F.out).symm, below_two HB0.out hb2⟩
              · have d10 : (to_ == 0) = false := by rw [beq_eq_false_iff_ne]; exact t10
                have F := Lib.hid (okRow_no (b := b) (r := ⟨l, lv, fr, to_, ng⟩) (by simp only []; rintro ⟨_, a, bb, c⟩; omega))
                have TT : Hid (isTitle ⟨l, lv, fr, to_, ng⟩ = true) := by show _ = _; unfold isTitle; rw [decide_eq_true_eq]; omega
                clear t9 t10
                go_wp2_with fail
                refine (refTitle_any ⟨l, lv, fr, to_, ng⟩ _).mono ?_
                rintro e w2 ⟨rfl, hb2⟩
                rw [TT.out]
                obtain ⟨e0, e1, e2, e3, e4⟩ := row_cells (HBLK.out.below hb2 (by simp))
                go_wp2_with fail
                go_ret
                exact ⟨ret_bool (HG.out.trans F.out).symm, below_two HB0.out hb2⟩
            · have d9 : (fr == 1) = false := by rw [beq_eq_false_iff_ne]; exact t9
              have F := Lib.hid (okRow_no (b := b) (r := ⟨l, lv, fr, to_, ng⟩) (by simp only []; rintro ⟨_, a, bb, c⟩; omega))
              have TT : Hid (isTitle ⟨l, lv, fr, to_, ng⟩ = true) := by show _ = _; unfold isTitle; rw [decide_eq_true_eq]; omega
              go_wp2_with fail
              refine (refTitle_any ⟨l, lv, fr, to_, ng⟩ _).mono ?_
              rintro e w2 ⟨rfl, hb2⟩
              rw [TT.out]
              obtain ⟨e0, e1, e2, e3, e4⟩ := row_cells (HBLK.out.below hb2 (by simp))
              go_wp2_with fail
              go_ret
              exact ⟨ret_bool (HG.out.trans F.out).symm, below_two HB0.out hb2⟩
          · by_cases t11 : 0 ≤ fr
            · have d11 : decide (0 ≤ fr) = true := by rw [decide_eq_true_eq]; omega
              by_cases t12 : to_ ≤ 99999
              · have d12 : decide (to_ ≤ 99999) = true := by rw [decide_eq_true_eq]; omega
                have F := Lib.hid ((okRow_iff (b := b) (r := ⟨l, lv, fr, to_, ng⟩)).2 (by simp only []; exact ⟨HNM.out, by omega, fun _ => by omega, fun _ => by omega⟩))
                have TT : Hid (isTitle ⟨l, lv, fr, to_, ng⟩ = false) := by show _ = _; unfold isTitle; rw [decide_eq_false_iff_not]; simp only []; omega
                go_wp2_with fail
                refine (refTitle_any ⟨l, lv, fr, to_, ng⟩ _).mono ?_
                rintro e w2 ⟨rfl, hb2⟩
                rw [TT.out]
                obtain ⟨e0, e1, e2, e3, e4⟩ := row_cells (HBLK.out.below hb2 (by simp))
                go_wp2_with fail
                go_ret
                exact ⟨ret_bool (HG.out.trans F.out).symm, below_two HB0.out hb2⟩
              · have d12 : decide (to_ ≤ 99999) = false := by rw [decide_eq_false_iff_not]; omega
                have F := Lib.hid (okRow_no (b := b) (r := ⟨l, lv, fr, to_, ng⟩) (by simp only []; rintro ⟨_, a, bb, c⟩; omega))
                have TT : Hid (isTitle ⟨l, lv, fr, to_, ng⟩ = false) := by show _ = _; unfold isTitle; rw [decide_eq_false_iff_not]; simp only []; omega
                go_wp2_with fail
                refine (refTitle_any ⟨l, lv, fr, to_, ng⟩ _).mono ?_
                rintro e w2 ⟨rfl, hb2⟩
                rw [TT.out]
                obtain ⟨e0, e1, e2, e3, e4⟩ := row_cells (HBLK.out.below hb2 (by simp))
                go_wp2_with fail
                go_ret
                exact ⟨ret_bool (HG.out.trans F.out).symm, below_two HB0.out hb2⟩
            · have d11 : decide (0 ≤ fr) = false := by rw [decide_eq_false_iff_not]; omega
              have F := Lib.hid (okRow_no (b := b) (r := ⟨l, lv, fr, to_, ng⟩) (by simp only []; rintro ⟨_, a, bb, c⟩; omega))
              have TT : Hid (isTitle ⟨l, lv, fr, to_, ng⟩ = false) := by show _ = _; unfold isTitle; rw [decide_eq_false_iff_not]; simp only []; omega
              go_wp2_with fail
              refine (refTitle_any ⟨l, lv, fr, to_, ng⟩ _).mono ?_
              rintro e w2 ⟨rfl, hb2⟩
              rw [TT.out]
              obtain ⟨e0, e1, e2, e3, e4⟩ := row_cells (HBLK.out.below hb2 (by simp))
              go_wp2_with fail
              go_ret
              exact ⟨ret_bool (HG.out.trans F.out).symm, below_two HB0.out hb2⟩
        · rw [hf0] at g0
          have F := Lib.hid (okRow_no (b := b) (r := ⟨l, lv, fr, to_, ng⟩) (by simp only []; rintro ⟨a0, a, bb, c⟩; rw [nameOk_last hf1] at a0; cases a0))
          rw [hf1] at g1
          clear hf0 hf1
          go_wp2_with fail
          go_ret
          exact ⟨ret_bool (HG.out.trans F.out).symm, HB0.out⟩
      · skip
        have F := Lib.hid (okRow_no (b := b) (r := ⟨l, lv, fr, to_, ng⟩) (by simp only []; rintro ⟨a0, a, bb, c⟩; rw [nameOk_first hf0] at a0; cases a0))
        rw [hf0] at g0
        clear hf0
        go_wp2_with fail
        go_ret
        exact ⟨ret_bool (HG.out.trans F.out).symm, HB0.out⟩
end Go.Proofs.YtfiindecponeoaaDoor
