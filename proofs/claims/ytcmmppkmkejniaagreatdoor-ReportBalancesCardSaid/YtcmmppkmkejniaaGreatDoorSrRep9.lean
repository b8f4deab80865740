/-
  MaxFunc over lines.
-/
import Derived.Test.YtcmmppkmkejniaaGreatDoorSrRep8
namespace Go.Proofs.YtcmmppkmkejniaaGreatDoor
open Go.RowKit
set_option linter.unusedVariables false
theorem set_line {w : World} {g : Nat} {T : TypeId} {a b c d e f a' b' c' d' e' f' : Value} (h : Blk w g T #[a, b, c, d, e, f]) : Blk ((((((w.setCell ⟨g, 0, none⟩ a').setCell ⟨g, 1, none⟩ b').setCell ⟨g, 2, none⟩ c').setCell ⟨g, 3, none⟩ d').setCell ⟨g, 4, none⟩ e').setCell ⟨g, 5, none⟩ f') g T #[a', b', c', d', e', f'] := by
  have := (((((h.set_ 0 a').set_ 1 b').set_ 2 c').set_ 3 d').set_ 4 e').set_ 5 f'
  simpa using this
theorem set_line_far {w : World} {g g2 : Nat} {T : TypeId} {cs : Array Value} {a' b' c' d' e' f' : Value} (h : Blk w g2 T cs) (hne : g2 ≠ g) : Blk ((((((w.setCell ⟨g, 0, none⟩ a').setCell ⟨g, 1, none⟩ b').setCell ⟨g, 2, none⟩ c').setCell ⟨g, 3, none⟩ d').setCell ⟨g, 4, none⟩ e').setCell ⟨g, 5, none⟩ f') g2 T cs :=
  (((((h.far (p := ⟨g, 0, none⟩) hne a').far (p := ⟨g, 1, none⟩) hne b').far (p := ⟨g, 2, none⟩) hne c').far (p := ⟨g, 3, none⟩) hne d').far (p := ⟨g, 4, none⟩) hne e').far (p := ⟨g, 5, none⟩) hne f'
theorem set_line_below {w w0 : World} {B g : Nat} {a b c d e f : Value} (h : Below B w0 w) (hB : B ≤ g) : Below B w0 ((((((w.setCell ⟨g, 0, none⟩ a).setCell ⟨g, 1, none⟩ b).setCell ⟨g, 2, none⟩ c).setCell ⟨g, 3, none⟩ d).setCell ⟨g, 4, none⟩ e).setCell ⟨g, 5, none⟩ f) :=
  (((((h.setCell (p := ⟨g, 0, none⟩) hB a).setCell (p := ⟨g, 1, none⟩) hB b).setCell (p := ⟨g, 2, none⟩) hB c).setCell (p := ⟨g, 3, none⟩) hB d).setCell (p := ⟨g, 4, none⟩) hB e).setCell (p := ⟨g, 5, none⟩) hB f
def lineArr (x : SLine) : Array Value := #[.string ⟨x.row.name.toArray⟩, .int .i64 x.row.level, .int .i64 x.row.from_, .int .i64 x.row.to_, .bool x.row.neg, .int .i64 x.amt]
theorem read_line {w : World} {g : Nat} {tmps : Array Value} {x : SLine} (h : Blk w g 102 (lineArr x)) (h4 : tmps.getD 4 undef = .pointer (some ⟨g, 0, none⟩)) :
    (results Tryz.f50 tmps).run Tryz.prog w = .ok (lineV x) w := by
  obtain ⟨z0, z1, z2, z3, z4, z5⟩ := line_blk h
  have h4' : tmps[4]?.getD undef = .pointer (some ⟨g, 0, none⟩) := by simpa using h4
  simp [results, Tryz.results50, go_sem, lineV, z0, z1, z2, z3, z4, z5, h4']
def MaxSays (xs : List SLine) (w : World) (e : Ending) (w' : World) : Prop := ∃ j, j < xs.length ∧ e = .returned (lineV (xs.getD j default)) ∧ widL (xs.getD j default) = longL xs ∧ Below w.heap.size w w'
theorem long_one {xs : List SLine} (h : 0 < xs.length) : widL (xs.getD 0 default) = longL (xs.take 1) := by
  rw [longL_step (k := 0) h]; simp [longL]
set_option maxRecDepth 100000 in
set_option maxHeartbeats 8000000 in
theorem maxF_any (xs : List SLine) (A : Option Addr) (n c B : Nat) (w : World) (hE : Env w) (hr : Reads w B 6 A n (linesCells xs)) (hB : B ≤ w.heap.size) (hn0 : 0 < n) (hv : validL xs = true) :
    Calls Tryz.prog 50 #[.slice A n c, .func (.func 51) #[] #[]] w (MaxSays xs w) := by
  have HL := Lib.hid (lines_len hr)
  have HR := Lib.hid hr
  have HVL := Lib.hid hv
  have hn3 : n ≤ 300 := by have := validL_len hv; have := lines_len hr; omega
  have HEB : Hid (∀ w_, Below w.heap.size w w_ → Env w_) := fun w_ h => hE.after h
  clear hE hr hv
  obtain ⟨ad, rfl, hbk, c0, c1, c2, c3, c4, c5⟩ := HR.out.line_at hn0
  have e0 : ad.add (0 * 6) = ad := by rw [Nat.zero_mul]; unfold Addr.add; rfl
  rw [e0] at c0 c1 c2 c3 c4 c5
  clear e0
  have HL1 := Lib.hid (long_one (xs := xs) (by rw [HL.out]; exact hn0))
  have hbW : ad.block < w.heap.size := by omega
  have n1 : ¬ (n : Int) < 1 := by omega
  have n2 : decide ((n : Int) < 1) = false := by rw [decide_eq_false_iff_not]; omega
  have n3 : (0 : Int) < (n : Int) := by omega
  have HX0 : Hid (Blk ((w.alloc (.cells #[.string ⟨#[]⟩, .int .i64 0, .int .i64 0, .int .i64 0, .bool false, .int .i64 0] 102)).alloc (.cells (lineArr (xs.getD 0 default)) 102)) (w.heap.size + 1) 102 (lineArr (xs.getD 0 default))) := by
    have := Blk.new (w.alloc (.cells #[.string ⟨#[]⟩, .int .i64 0, .int .i64 0, .int .i64 0, .bool false, .int .i64 0] 102)) 102 (lineArr (xs.getD 0 default))
    rw [World.size_alloc] at this
    exact this
  go_enter Tryz.func50, Tryz.ntmps50
  go_wp2_with fail
  clear c0 c1 c2 c3 c4 c5 n1
  go_loopw [6] (fun i wr => ∃ k j : Nat, 1 ≤ k ∧ k ≤ n ∧ i = .int .i64 k ∧ j < k ∧ widL (xs.getD j default) = longL (xs.take k) ∧ Blk wr w.heap.size 102 #[.string ⟨#[]⟩, .int .i64 0, .int .i64 0, .int .i64 0, .bool false, .int .i64 0] ∧ Blk wr (w.heap.size + 1) 102 (lineArr (xs.getD j default)) ∧ Below w.heap.size w wr) (fun i _ => n - (intOf i).toNat)
  case atStart => exact ⟨1, 0, Nat.le_refl _, hn0, rfl, by omega, HL1.out, (Blk.new w 102 #[.string ⟨#[]⟩, .int .i64 0, .int .i64 0, .int .i64 0, .bool false, .int .i64 0]).alloc _, HX0.out, ((Below.refl _ _).alloc (Nat.le_refl _) _).alloc (by simp) _⟩
  case round =>
    obtain ⟨k, j, hk1, hk, rfl, hj, hw, hb4, hb5, hbr⟩ := hrel
    obtain ⟨wo, rfl⟩ : ∃ wo : World, wo = wr := ⟨_, rfl⟩
    have HW := Lib.hid hw
    clear hw
    by_cases hlt : k < n
    · have k3 : decide ((k : Int) < (n : Int)) = true := by rw [decide_eq_true_eq]; omega
      have hkl : k < xs.length := by rw [HL.out]; exact hlt
      obtain ⟨ad2, e2, hab, c0, c1, c2, c3, c4, c5⟩ := (HR.out.low hB (Nat.le_refl _) hbr).line_at hlt
      injection e2 with e2
      subst e2
      have hx := validL_at HVL.out hkl
      have hy := validL_at HVL.out (show j < xs.length by omega)
      have HXL := Lib.hid hx.2.2
      have HYL := Lib.hid hy.2.2
      have HT : Hid (∀ w, Env w → Calls Tryz.prog 51 #[lineV (xs.getD k default), lineV (xs.getD j default)] w fun e w' => e = .returned (.int .i64 ((widL (xs.getD k default) : Int) - widL (xs.getD j default))) ∧ Below w.heap.size w w') := fun w hE => text1_any _ _ w hE hx.1 hx.2.1.1 hx.2.1.2 (okLn_iff.1 HXL.out).1 hy.1 hy.2.1.1 hy.2.1.2 (okLn_iff.1 HYL.out).1
      have HST := Lib.hid (longL_step (xs := xs) (k := k) hkl)
      rw [← HW.out] at HST
      have HGK : Hid (xs.getD k default = xs.getD k default) := rfl
      clear hx hy HXL HYL
      have hbB : (ad.add (k * 6)).block < wo.heap.size := by rw [block_of_add]; have := hbr.size; omega
      have hsz : w.heap.size + 1 < wo.heap.size := hb5.lt
      have b1 : (k : Int) < (n : Int) := by omega
      have b2 : (0 : Int) ≤ (k : Int) := by omega
      generalize hgx : xs.getD k default = x at *
      generalize hgy : xs.getD j default = y at *
      have HGX := Lib.hid hgx
      have HGY := Lib.hid hgy
      clear hgx hgy HGK
      have HWD : Hid (decide ((0 : Int) < (widL x : Int) - (widL y : Int)) = decide (widL y < widL x)) := by
        show _ = _
        rw [decide_eq_decide]; omega
      generalize hXX : widL x = X at *
      generalize hYY : widL y = Y at *
      have HXX := Lib.hid hXX
      have HYY := Lib.hid hYY
      clear hXX hYY
      obtain ⟨⟨nm, lv, fr, to_, ng⟩, am⟩ := x
      obtain ⟨⟨nm', lv', fr', to_', ng'⟩, am'⟩ := y
      unfold lineV at HT
      unfold lineArr at hb5
      simp only [] at c0 c1 c2 c3 c4 c5 hb5 HT
      obtain ⟨d0, d1, d2, d3, d4, d5⟩ := line_blk hb5
      go_wp2_with fail
      go_region_held3 (fun w' => Below w.heap.size w w' ∧ w.heap.size + 1 < w'.heap.size ∧ (ad.add (k * 6)).block < w'.heap.size ∧ Blk w' w.heap.size 102 #[.string ⟨#[]⟩, .int .i64 0, .int .i64 0, .int .i64 0, .bool false, .int .i64 0] ∧ Blk w' (w.heap.size + 1) 102 #[.string ⟨nm'.toArray⟩, .int .i64 lv', .int .i64 fr', .int .i64 to_', .bool ng', .int .i64 am'] ∧ w'.cell? (ad.add (k * 6)) = some (.string ⟨nm.toArray⟩) ∧ w'.cell? ⟨(ad.add (k * 6)).block, (ad.add (k * 6)).off + 1, none⟩ = some (.int .i64 lv) ∧ w'.cell? ⟨(ad.add (k * 6)).block, (ad.add (k * 6)).off + 2, none⟩ = some (.int .i64 fr) ∧ w'.cell? ⟨(ad.add (k * 6)).block, (ad.add (k * 6)).off + 3, none⟩ = some (.int .i64 to_) ∧ w'.cell? ⟨(ad.add (k * 6)).block, (ad.add (k * 6)).off + 4, none⟩ = some (.bool ng) ∧ w'.cell? ⟨(ad.add (k * 6)).block, (ad.add (k * 6)).off + 5, none⟩ = some (.int .i64 am) ∧ w'.cell? ⟨w.heap.size + 1, 0, none⟩ = some (.string ⟨nm'.toArray⟩) ∧ w'.cell? ⟨w.heap.size + 1, 1, none⟩ = some (.int .i64 lv') ∧ w'.cell? ⟨w.heap.size + 1, 2, none⟩ = some (.int .i64 fr') ∧ w'.cell? ⟨w.heap.size + 1, 3, none⟩ = some (.int .i64 to_') ∧ w'.cell? ⟨w.heap.size + 1, 4, none⟩ = some (.bool ng') ∧ w'.cell? ⟨w.heap.size + 1, 5, none⟩ = some (.int .i64 am'))
        ((go_split_ands
          refine ⟨?_, ?_, ?_, ?_, ?_, ?_, ?_, ?_, ?_, ?_, ?_, ?_, ?_, ?_, ?_, ?_, ?_⟩
          · (first | assumption | exact Below.drew (by assumption) | exact below_two (by assumption) hbx | exact below_two (Below.drew (by assumption)) hbx)
          · (first | assumption | exact Nat.lt_of_lt_of_le (by assumption) hbx.size)
          · (first | assumption | exact Nat.lt_of_lt_of_le (by assumption) hbx.size)
          · (first | assumption | exact Blk.drew (by assumption) | exact Blk.below (by assumption) hbx (Blk.lt (by assumption)) | exact Blk.below (Blk.drew (by assumption)) hbx (Blk.lt (by assumption)))
          · (first | assumption | exact Blk.drew (by assumption) | exact Blk.below (by assumption) hbx (Blk.lt (by assumption)) | exact Blk.below (Blk.drew (by assumption)) hbx (Blk.lt (by assumption)))
          · (first | assumption | exact (hbx.cell (by first | assumption | exact Nat.lt_of_succ_lt (by assumption))).trans (by assumption))
          · (first | assumption | exact (hbx.cell (by first | assumption | exact Nat.lt_of_succ_lt (by assumption))).trans (by assumption))
          · (first | assumption | exact (hbx.cell (by first | assumption | exact Nat.lt_of_succ_lt (by assumption))).trans (by assumption))
          · (first | assumption | exact (hbx.cell (by first | assumption | exact Nat.lt_of_succ_lt (by assumption))).trans (by assumption))
          · (first | assumption | exact (hbx.cell (by first | assumption | exact Nat.lt_of_succ_lt (by assumption))).trans (by assumption))
          · (first | assumption | exact (hbx.cell (by first | assumption | exact Nat.lt_of_succ_lt (by assumption))).trans (by assumption))
          · (first | assumption | exact (hbx.cell (by first | assumption | exact Nat.lt_of_succ_lt (by assumption))).trans (by assumption))
          · (first | assumption | exact (hbx.cell (by first | assumption | exact Nat.lt_of_succ_lt (by assumption))).trans (by assumption))
          · (first | assumption | exact (hbx.cell (by first | assumption | exact Nat.lt_of_succ_lt (by assumption))).trans (by assumption))
          · (first | assumption | exact (hbx.cell (by first | assumption | exact Nat.lt_of_succ_lt (by assumption))).trans (by assumption))
          · (first | assumption | exact (hbx.cell (by first | assumption | exact Nat.lt_of_succ_lt (by assumption))).trans (by assumption))
          · (first | assumption | exact (hbx.cell (by first | assumption | exact Nat.lt_of_succ_lt (by assumption))).trans (by assumption))))
        ((go_at_call 51; refine (HT.out _ (by (first | exact HEB.out _ (by assumption) | exact HEB.out _ (Below.drew (by assumption)) | exact HEB.out _ (show Below w.heap.size w _ ∧ w.heap.size + 1 < _ ∧ _ from by assumption).1 | exact HEB.out _ (Below.drew (show Below w.heap.size w _ ∧ w.heap.size + 1 < _ ∧ _ from by assumption).1)))).mono ?_; rintro e wx ⟨rfl, hbx⟩))
      all_goals
        obtain ⟨s0, s1, s2, s3, s4, g0, g1, g2, g3, g4, g5, e0, e1, e2, e3, e4, e5⟩ := (show Below w.heap.size w _ ∧ w.heap.size + 1 < _ ∧ _ from by assumption)
        clear c0 c1 c2 c3 c4 c5 d0 d1 d2 d3 d4 d5
        have S0 := Lib.hid s0
        have S3 := Lib.hid s3
        have S4 := Lib.hid s4
        have fz := s4.frozen
        clear s0 s3 s4
        by_cases hyx : Y < X
        · have dd : decide (Y < X) = true := by rw [decide_eq_true_eq]; exact hyx
          have F : Hid (X = longL (xs.take (k + 1))) := by show _ = _; rw [HST.out]; omega
          go_wp2_with fail
          go_roundw
          case rel => exact ⟨k + 1, k, by omega, by omega, by go_num, by omega, by rw [HGX.out, HXX.out]; exact F.out, set_line_far S3.out (by omega), by rw [HGX.out]; exact set_line S4.out, set_line_below S0.out (by omega)⟩
          case measure => simp [intOf]; omega
        · have dd : decide (Y < X) = false := by rw [decide_eq_false_iff_not]; exact hyx
          have F : Hid (Y = longL (xs.take (k + 1))) := by show _ = _; rw [HST.out]; omega
          go_wp2_with fail
          go_roundw
          case rel => exact ⟨k + 1, j, by omega, by omega, by go_num, by omega, by rw [HGY.out, HYY.out]; exact F.out, S3.out, by rw [HGY.out]; exact S4.out, S0.out⟩
          case measure => simp [intOf]; omega
    · have k3 : decide ((k : Int) < (n : Int)) = false := by rw [decide_eq_false_iff_not]; omega
      have hkn : k = n := by omega
      subst hkn
      have hw := HW.out
      rw [List.take_of_length_le (show xs.length ≤ k by rw [HL.out]; omega)] at hw
      have HW2 := Lib.hid hw
      have hjl : j < xs.length := by rw [HL.out]; exact hj
      clear hw HW
      generalize hgy : xs.getD j default = y at *
      have HGY := Lib.hid hgy
      clear hgy
      obtain ⟨⟨nm', lv', fr', to_', ng'⟩, am'⟩ := y
      unfold lineArr at hb5
      simp only [] at hb5
      have HB4 := Lib.hid hb4
      have HBR := Lib.hid hbr
      have hsz : w.heap.size + 1 < wo.heap.size := hb5.lt
      obtain ⟨d0, d1, d2, d3, d4, d5⟩ := line_blk hb5
      obtain ⟨e0, e1, e2, e3, e4, e5⟩ := line_blk hb4
      have fz := hb4.frozen
      go_wp2_with fail
      refine bodyPost_ret (read_line (x := ⟨⟨nm', lv', fr', to_', ng'⟩, am'⟩) (set_line (by exact HB4.out)) rfl) rfl ⟨j, hjl, by rw [HGY.out], by rw [HGY.out]; exact HW2.out, set_line_below HBR.out (Nat.le_refl _)⟩
end Go.Proofs.YtcmmppkmkejniaaGreatDoor
