/-
  The law CellTexts.
-/
import Derived.Test.YtophffmofpmbpaaDoorCel14
import Derived.Deep.RegionHeld3
import Derived.Deep.MidRow
namespace Go.Proofs.YtophffmofpmbpaaDoor
open Go.RowKit
set_option linter.unusedVariables false
set_option maxRecDepth 100000 in
set_option maxHeartbeats 8000000 in
theorem lawTexts (x y : SCell) (w : World) (hE : Env w) (hEE : EnvE w) : Calls Tryd.prog 5 #[cellV x, cellV y] w fun e w' => e = .returned (.bool true) ∧ Below w.heap.size w w' := by
  have HVX : Hid (∀ w, Calls Tryd.prog 10 #[cellV x] w fun e w' => e = .returned (.bool (validC x)) ∧ Below w.heap.size w w') := valid_any x
  have HVY : Hid (∀ w, Calls Tryd.prog 10 #[cellV y] w fun e w' => e = .returned (.bool (validC y)) ∧ Below w.heap.size w w') := valid_any y
  have HTX : Hid (∀ w, Env w → Calls Tryd.prog 12 #[cellV x] w fun e w' => e = .returned (.string ⟨(textC x).toArray⟩) ∧ Below w.heap.size w w') := text_any x
  have HTY : Hid (∀ w, Env w → Calls Tryd.prog 12 #[cellV y] w fun e w' => e = .returned (.string ⟨(textC y).toArray⟩) ∧ Below w.heap.size w w') := text_any y
  have HEB : Hid (∀ w_, Below w.heap.size w w_ → Env w_) := fun w_ h => hE.after h
  have HXE : Hid (validC x = false → textC x = []) := text_empty
  have HYE : Hid (validC y = false → textC y = []) := text_empty
  have HXS : Hid (validC x = true → (textC x).isEmpty = false) := text_some
  have HPR : Hid (validC x = true → ∀ w, Env w → EnvE w → NG ≤ w.heap.size → Calls Tryd.prog 16 #[.string ⟨(textC x).toArray⟩] w fun e w' => e = .returned (.tuple #[cellV x, .int .i64 0]) ∧ Below w.heap.size w w') := fun h w h1 h2 h3 => by
    have := parse_any (textC x) w h1 h2 h3 (by have := text_len x; omega)
    rw [pcR_text h] at this
    exact this
  have HIN : Hid (validC x = true → validC y = true → textC x = textC y → x = y) := text_inj
  have HTE : Hid ((x.st = y.st ∧ x.en = y.en ∧ x.ot = y.ot ∧ x.pe = y.pe) → textC x = textC y) := fun h => by
    have : x = y := by cases x; cases y; simp only [SCell.mk.injEq]; exact h
    rw [this]
  generalize hvx : validC x = VX at *
  generalize hvy : validC y = VY at *
  generalize textC x = TX at *
  generalize textC y = TY at *
  clear hvx hvy
  obtain ⟨st, en, ot, pe⟩ := x
  obtain ⟨st', en', ot', pe'⟩ := y
  unfold cellV at *
  simp only [] at *
  have HX0 := Lib.hid ((Blk.new w 23 #[.int .i64 st, .int .i64 en, .int .i64 ot, .int .i64 pe]).alloc (.cells (#[.int .i64 st', .int .i64 en', .int .i64 ot', .int .i64 pe'] : Array Value) 23))
  have hy0 := Blk.new (w.alloc (.cells (#[.int .i64 st, .int .i64 en, .int .i64 ot, .int .i64 pe] : Array Value) 23)) 23 #[.int .i64 st', .int .i64 en', .int .i64 ot', .int .i64 pe']
  rw [World.size_alloc] at hy0
  have HY0 := Lib.hid hy0
  clear hy0
  have HB0 := Lib.hid (((Below.refl w.heap.size w).alloc (Nat.le_refl _) (.cells (#[.int .i64 st, .int .i64 en, .int .i64 ot, .int .i64 pe] : Array Value) 23)).alloc (by simp) (.cells (#[.int .i64 st', .int .i64 en', .int .i64 ot', .int .i64 pe'] : Array Value) 23))
  have HE0 := Lib.hid (hE.after HB0.out)
  have HEE0 := Lib.hid (hEE.below HB0.out hE.size)
  have HES := Lib.hid hE.size
  go_enter Tryd.func5, Tryd.ntmps5
  go_wp2_with fail
  refine (awake_true _ HE0.out HEE0.out).mono ?_
  rintro e w1 ⟨rfl, hb1⟩
  have HB1 := Lib.hid (below_two HB0.out hb1)
  have HX1 := Lib.hid (HX0.out.below hb1 HX0.out.lt)
  have HY1 := Lib.hid (HY0.out.below hb1 HY0.out.lt)
  obtain ⟨x0, x1, x2, x3⟩ := st_blk HX1.out
  clear hb1 HB0 HX0 HY0
  go_wp2_with fail
  refine (HVX.out _).mono ?_
  rintro e w2 ⟨rfl, hb2⟩
  have HB2 := Lib.hid (below_two HB1.out hb2)
  have HX2 := Lib.hid (HX1.out.below hb2 HX1.out.lt)
  have HY2 := Lib.hid (HY1.out.below hb2 HY1.out.lt)
  clear hb2 HB1 HX1 HY1 x0 x1 x2 x3
  obtain ⟨x0, x1, x2, x3⟩ := st_blk HX2.out
  obtain ⟨y0, y1, y2, y3⟩ := st_blk HY2.out
  cases VX
  · have F := Lib.hid (HXE.out rfl)
    go_wp2_with fail
    refine (HTX.out _ (HEB.out _ HB2.out)).mono ?_
    rintro e w3 ⟨rfl, hb3⟩
    rw [F.out]
    have HB3 := Lib.hid (below_two HB2.out hb3)
    go_wp2_with fail
    go_ret
    exact ⟨rfl, HB3.out⟩
  go_wp2_with fail
  refine (HVY.out _).mono ?_
  rintro e w3 ⟨rfl, hb3⟩
  have HB3 := Lib.hid (below_two HB2.out hb3)
  have HX3 := Lib.hid (HX2.out.below hb3 HX2.out.lt)
  have HY3 := Lib.hid (HY2.out.below hb3 HY2.out.lt)
  clear hb3 HB2 HX2 HY2 x0 x1 x2 x3 y0 y1 y2 y3
  obtain ⟨x0, x1, x2, x3⟩ := st_blk HX3.out
  obtain ⟨y0, y1, y2, y3⟩ := st_blk HY3.out
  cases VY
  · have F := Lib.hid (HYE.out rfl)
    have q1 := HXS.out (by simp)
    go_wp2_with fail
    refine (HTX.out _ (HEB.out _ HB3.out)).mono ?_
    rintro e w4 ⟨rfl, hb4⟩
    have HB4 := Lib.hid (below_two HB3.out hb4)
    have HY4 := Lib.hid (HY3.out.below hb4 HY3.out.lt)
    clear hb4 x0 x1 x2 x3 y0 y1 y2 y3
    obtain ⟨y0, y1, y2, y3⟩ := st_blk HY4.out
    go_wp2_with fail
    refine (HTY.out _ (HEB.out _ HB4.out)).mono ?_
    rintro e w5 ⟨rfl, hb5⟩
    rw [F.out]
    have HB5 := Lib.hid (below_two HB4.out hb5)
    go_wp2_with fail
    go_ret
    exact ⟨rfl, HB5.out⟩
  go_wp2_with fail
  refine (HTX.out _ (HEB.out _ HB3.out)).mono ?_
  rintro e w4 ⟨rfl, hb4⟩
  have HB4 := Lib.hid (below_two HB3.out hb4)
  have HX4 := Lib.hid (HX3.out.below hb4 HX3.out.lt)
  have HY4 := Lib.hid (HY3.out.below hb4 HY3.out.lt)
  clear hb4 x0 x1 x2 x3 y0 y1 y2 y3
  go_wp2_with fail
  refine (HPR.out (by simp) _ (HEB.out _ HB4.out) (hEE.below HB4.out HES.out) (by have := HB4.out.size; have := HES.out; omega)).mono ?_
  rintro e w5 ⟨rfl, hb5⟩
  have HB5 := Lib.hid (below_two HB4.out hb5)
  have HX5 := Lib.hid (HX4.out.below hb5 HX4.out.lt)
  have HY5 := Lib.hid (HY4.out.below hb5 HY4.out.lt)
  clear hb5 HB4 HX4 HY4
  have HX6 := Lib.hid (HX5.out.alloc (.cells (#[.int .i64 st, .int .i64 en, .int .i64 ot, .int .i64 pe] : Array Value) 23))
  have HY6 := Lib.hid (HY5.out.alloc (.cells (#[.int .i64 st, .int .i64 en, .int .i64 ot, .int .i64 pe] : Array Value) 23))
  have HB6 := Lib.hid (HB5.out.alloc HB5.out.size (.cells (#[.int .i64 st, .int .i64 en, .int .i64 ot, .int .i64 pe] : Array Value) 23))
  have HP6 := Lib.hid (Blk.new w5 23 #[.int .i64 st, .int .i64 en, .int .i64 ot, .int .i64 pe])
  have hg1 : w.heap.size < w5.heap.size := HX5.out.lt
  have hg2 : w.heap.size + 1 < w5.heap.size := HY5.out.lt
  clear HB5 HX5 HY5
  generalize hP : w5.heap.size = P at *
  go_wp2_with fail
  obtain ⟨x0, x1, x2, x3⟩ := st_blk HX6.out
  obtain ⟨y0, y1, y2, y3⟩ := st_blk HY6.out
  obtain ⟨p0, p1, p2, p3⟩ := st_blk HP6.out
  have hs0 := HB6.out
  have hs1 := HP6.out.lt
  clear HX6 HY6 HP6 HB6
  generalize w5.alloc (.cells (#[.int .i64 st, .int .i64 en, .int .i64 ot, .int .i64 pe] : Array Value) 23) = w6 at *
  by_cases hT : TX = TY
  · have hxy := HIN.out (by simp) (by simp) hT
    simp only [SCell.mk.injEq] at hxy
    obtain ⟨rfl, rfl, rfl, rfl⟩ := hxy
    subst hT
    have q3 : (TX == TX) = true := by simp
    clear HIN
    go_region_held3 (fun w' => Below w.heap.size w w' ∧ P < w'.heap.size ∧ w'.cell? ⟨w.heap.size, 0, none⟩ = some (.int .i64 st) ∧ w'.cell? ⟨w.heap.size, 1, none⟩ = some (.int .i64 en) ∧ w'.cell? ⟨w.heap.size, 2, none⟩ = some (.int .i64 ot) ∧ w'.cell? ⟨w.heap.size, 3, none⟩ = some (.int .i64 pe) ∧ w'.cell? ⟨(w.heap.size + 1), 0, none⟩ = some (.int .i64 st) ∧ w'.cell? ⟨(w.heap.size + 1), 1, none⟩ = some (.int .i64 en) ∧ w'.cell? ⟨(w.heap.size + 1), 2, none⟩ = some (.int .i64 ot) ∧ w'.cell? ⟨(w.heap.size + 1), 3, none⟩ = some (.int .i64 pe) ∧ w'.cell? ⟨P, 0, none⟩ = some (.int .i64 st) ∧ w'.cell? ⟨P, 1, none⟩ = some (.int .i64 en) ∧ w'.cell? ⟨P, 2, none⟩ = some (.int .i64 ot) ∧ w'.cell? ⟨P, 3, none⟩ = some (.int .i64 pe))
      ((go_split_ands
        refine ⟨?_, ?_, ?_, ?_, ?_, ?_, ?_, ?_, ?_, ?_, ?_, ?_, ?_, ?_⟩
        · (first | assumption | exact Below.drew (by assumption) | exact below_two (by assumption) hbx | exact below_two (Below.drew (by assumption)) hbx)
        · (first | assumption | (have := hbx.size; omega) | (have := hbx.size; simp at this; omega))
        · (first | assumption | exact (hbx.cell (by first | assumption | (simp only []; omega))).trans (by assumption))
        · (first | assumption | exact (hbx.cell (by first | assumption | (simp only []; omega))).trans (by assumption))
        · (first | assumption | exact (hbx.cell (by first | assumption | (simp only []; omega))).trans (by assumption))
        · (first | assumption | exact (hbx.cell (by first | assumption | (simp only []; omega))).trans (by assumption))
        · (first | assumption | exact (hbx.cell (by first | assumption | (simp only []; omega))).trans (by assumption))
        · (first | assumption | exact (hbx.cell (by first | assumption | (simp only []; omega))).trans (by assumption))
        · (first | assumption | exact (hbx.cell (by first | assumption | (simp only []; omega))).trans (by assumption))
        · (first | assumption | exact (hbx.cell (by first | assumption | (simp only []; omega))).trans (by assumption))
        · (first | assumption | exact (hbx.cell (by first | assumption | (simp only []; omega))).trans (by assumption))
        · (first | assumption | exact (hbx.cell (by first | assumption | (simp only []; omega))).trans (by assumption))
        · (first | assumption | exact (hbx.cell (by first | assumption | (simp only []; omega))).trans (by assumption))
        · (first | assumption | exact (hbx.cell (by first | assumption | (simp only []; omega))).trans (by assumption))))
      ((first
        | (go_at_call 12; refine (HTX.out _ (by (first | exact HEB.out _ (by assumption) | exact HEB.out _ (Below.drew (by assumption)) | exact HEB.out _ (show Below w.heap.size w _ ∧ P < _ ∧ _ from by assumption).1 | exact HEB.out _ (Below.drew (show Below w.heap.size w _ ∧ P < _ ∧ _ from by assumption).1)))).mono ?_; rintro e wx ⟨rfl, hbx⟩)
        | (go_at_call 12; refine (HTY.out _ (by (first | exact HEB.out _ (by assumption) | exact HEB.out _ (Below.drew (by assumption)) | exact HEB.out _ (show Below w.heap.size w _ ∧ P < _ ∧ _ from by assumption).1 | exact HEB.out _ (Below.drew (show Below w.heap.size w _ ∧ P < _ ∧ _ from by assumption).1)))).mono ?_; rintro e wx ⟨rfl, hbx⟩)))
    all_goals
      have hS0 : Below w.heap.size w _ := (show Below w.heap.size w _ ∧ P < _ ∧ _ from by assumption).1
      go_wp2_with fail
      go_ret
      exact ⟨rfl, hS0⟩
  · have q3 : (TX == TY) = false := by rw [beq_eq_false_iff_ne]; exact hT
    have q4 : ¬ (st = st' ∧ en = en' ∧ ot = ot' ∧ pe = pe') := by
      rintro ⟨rfl, rfl, rfl, rfl⟩
      exact hT (HTE.out ⟨rfl, rfl, rfl, rfl⟩)
    have hd : st ≠ st' ∨ (st = st' ∧ (en ≠ en' ∨ (en = en' ∧ (ot ≠ ot' ∨ (ot = ot' ∧ pe ≠ pe'))))) := by omega
    clear q4 HTE
    rcases hd with h | ⟨rfl, h | ⟨rfl, h | ⟨rfl, h⟩⟩⟩
    · have q5 := beq_eq_false_iff_ne.2 h
      clear h
      clear HIN
      go_region_held3 (fun w' => Below w.heap.size w w' ∧ P < w'.heap.size ∧ w'.cell? ⟨w.heap.size, 0, none⟩ = some (.int .i64 st) ∧ w'.cell? ⟨w.heap.size, 1, none⟩ = some (.int .i64 en) ∧ w'.cell? ⟨w.heap.size, 2, none⟩ = some (.int .i64 ot) ∧ w'.cell? ⟨w.heap.size, 3, none⟩ = some (.int .i64 pe) ∧ w'.cell? ⟨(w.heap.size + 1), 0, none⟩ = some (.int .i64 st') ∧ w'.cell? ⟨(w.heap.size + 1), 1, none⟩ = some (.int .i64 en') ∧ w'.cell? ⟨(w.heap.size + 1), 2, none⟩ = some (.int .i64 ot') ∧ w'.cell? ⟨(w.heap.size + 1), 3, none⟩ = some (.int .i64 pe') ∧ w'.cell? ⟨P, 0, none⟩ = some (.int .i64 st) ∧ w'.cell? ⟨P, 1, none⟩ = some (.int .i64 en) ∧ w'.cell? ⟨P, 2, none⟩ = some (.int .i64 ot) ∧ w'.cell? ⟨P, 3, none⟩ = some (.int .i64 pe))
        ((go_split_ands
          refine ⟨?_, ?_, ?_, ?_, ?_, ?_, ?_, ?_, ?_, ?_, ?_, ?_, ?_, ?_⟩
          · (first | assumption | exact Below.drew (by assumption) | exact below_two (by assumption) hbx | exact below_two (Below.drew (by assumption)) hbx)
          · (first | assumption | (have := hbx.size; omega) | (have := hbx.size; simp at this; omega))
          · (first | assumption | exact (hbx.cell (by first | assumption | (simp only []; omega))).trans (by assumption))
          · (first | assumption | exact (hbx.cell (by first | assumption | (simp only []; omega))).trans (by assumption))
          · (first | assumption | exact (hbx.cell (by first | assumption | (simp only []; omega))).trans (by assumption))
          · (first | assumption | exact (hbx.cell (by first | assumption | (simp only []; omega))).trans (by assumption))
          · (first | assumption | exact (hbx.cell (by first | assumption | (simp only []; omega))).trans (by assumption))
          · (first | assumption | exact (hbx.cell (by first | assumption | (simp only []; omega))).trans (by assumption))
          · (first | assumption | exact (hbx.cell (by first | assumption | (simp only []; omega))).trans (by assumption))
          · (first | assumption | exact (hbx.cell (by first | assumption | (simp only []; omega))).trans (by assumption))
          · (first | assumption | exact (hbx.cell (by first | assumption | (simp only []; omega))).trans (by assumption))
          · (first | assumption | exact (hbx.cell (by first | assumption | (simp only []; omega))).trans (by assumption))
          · (first | assumption | exact (hbx.cell (by first | assumption | (simp only []; omega))).trans (by assumption))
          · (first | assumption | exact (hbx.cell (by first | assumption | (simp only []; omega))).trans (by assumption))))
        ((first
          | (go_at_call 12; (with_reducible refine (HTX.out _ ?_).mono ?_); (exact (by (first | exact HEB.out _ (by assumption) | exact HEB.out _ (Below.drew (by assumption)) | exact HEB.out _ (show Below w.heap.size w _ ∧ P < _ ∧ _ from by assumption).1 | exact HEB.out _ (Below.drew (show Below w.heap.size w _ ∧ P < _ ∧ _ from by assumption).1)))); (rintro e wx ⟨rfl, hbx⟩))
          | (go_at_call 12; (with_reducible refine (HTY.out _ ?_).mono ?_); (exact (by (first | exact HEB.out _ (by assumption) | exact HEB.out _ (Below.drew (by assumption)) | exact HEB.out _ (show Below w.heap.size w _ ∧ P < _ ∧ _ from by assumption).1 | exact HEB.out _ (Below.drew (show Below w.heap.size w _ ∧ P < _ ∧ _ from by assumption).1)))); (rintro e wx ⟨rfl, hbx⟩))))
      all_goals
        have hS0 : Below w.heap.size w _ := (show Below w.heap.size w _ ∧ P < _ ∧ _ from by assumption).1
        go_wp2_with fail
        go_ret
        exact ⟨rfl, hS0⟩
    · have q5 := beq_eq_false_iff_ne.2 h
      clear h
      clear HIN
      go_region_held3 (fun w' => Below w.heap.size w w' ∧ P < w'.heap.size ∧ w'.cell? ⟨w.heap.size, 0, none⟩ = some (.int .i64 st) ∧ w'.cell? ⟨w.heap.size, 1, none⟩ = some (.int .i64 en) ∧ w'.cell? ⟨w.heap.size, 2, none⟩ = some (.int .i64 ot) ∧ w'.cell? ⟨w.heap.size, 3, none⟩ = some (.int .i64 pe) ∧ w'.cell? ⟨(w.heap.size + 1), 0, none⟩ = some (.int .i64 st) ∧ w'.cell? ⟨(w.heap.size + 1), 1, none⟩ = some (.int .i64 en') ∧ w'.cell? ⟨(w.heap.size + 1), 2, none⟩ = some (.int .i64 ot') ∧ w'.cell? ⟨(w.heap.size + 1), 3, none⟩ = some (.int .i64 pe') ∧ w'.cell? ⟨P, 0, none⟩ = some (.int .i64 st) ∧ w'.cell? ⟨P, 1, none⟩ = some (.int .i64 en) ∧ w'.cell? ⟨P, 2, none⟩ = some (.int .i64 ot) ∧ w'.cell? ⟨P, 3, none⟩ = some (.int .i64 pe))
        ((go_split_ands
          refine ⟨?_, ?_, ?_, ?_, ?_, ?_, ?_, ?_, ?_, ?_, ?_, ?_, ?_, ?_⟩
          · (first | assumption | exact Below.drew (by assumption) | exact below_two (by assumption) hbx | exact below_two (Below.drew (by assumption)) hbx)
          · (first | assumption | (have := hbx.size; omega) | (have := hbx.size; simp at this; omega))
          · (first | assumption | exact (hbx.cell (by first | assumption | (simp only []; omega))).trans (by assumption))
          · (first | assumption | exact (hbx.cell (by first | assumption | (simp only []; omega))).trans (by assumption))
          · (first | assumption | exact (hbx.cell (by first | assumption | (simp only []; omega))).trans (by assumption))
          · (first | assumption | exact (hbx.cell (by first | assumption | (simp only []; omega))).trans (by assumption))
          · (first | assumption | exact (hbx.cell (by first | assumption | (simp only []; omega))).trans (by assumption))
          · (first | assumption | exact (hbx.cell (by first | assumption | (simp only []; omega))).trans (by assumption))
          · (first | assumption | exact (hbx.cell (by first | assumption | (simp only []; omega))).trans (by assumption))
          · (first | assumption | exact (hbx.cell (by first | assumption | (simp only []; omega))).trans (by assumption))
          · (first | assumption | exact (hbx.cell (by first | assumption | (simp only []; omega))).trans (by assumption))
          · (first | assumption | exact (hbx.cell (by first | assumption | (simp only []; omega))).trans (by assumption))
          · (first | assumption | exact (hbx.cell (by first | assumption | (simp only []; omega))).trans (by assumption))
          · (first | assumption | exact (hbx.cell (by first | assumption | (simp only []; omega))).trans (by assumption))))
        ((first
          | (go_at_call 12; (with_reducible refine (HTX.out _ ?_).mono ?_); (exact (by (first | exact HEB.out _ (by assumption) | exact HEB.out _ (Below.drew (by assumption)) | exact HEB.out _ (show Below w.heap.size w _ ∧ P < _ ∧ _ from by assumption).1 | exact HEB.out _ (Below.drew (show Below w.heap.size w _ ∧ P < _ ∧ _ from by assumption).1)))); (rintro e wx ⟨rfl, hbx⟩))
          | (go_at_call 12; (with_reducible refine (HTY.out _ ?_).mono ?_); (exact (by (first | exact HEB.out _ (by assumption) | exact HEB.out _ (Below.drew (by assumption)) | exact HEB.out _ (show Below w.heap.size w _ ∧ P < _ ∧ _ from by assumption).1 | exact HEB.out _ (Below.drew (show Below w.heap.size w _ ∧ P < _ ∧ _ from by assumption).1)))); (rintro e wx ⟨rfl, hbx⟩))))
      all_goals
        have hS0 : Below w.heap.size w _ := (show Below w.heap.size w _ ∧ P < _ ∧ _ from by assumption).1
        go_wp2_with fail
        go_ret
        exact ⟨rfl, hS0⟩
    · have q5 := beq_eq_false_iff_ne.2 h
      clear h
      clear HIN
      go_region_held3 (fun w' => Below w.heap.size w w' ∧ P < w'.heap.size ∧ w'.cell? ⟨w.heap.size, 0, none⟩ = some (.int .i64 st) ∧ w'.cell? ⟨w.heap.size, 1, none⟩ = some (.int .i64 en) ∧ w'.cell? ⟨w.heap.size, 2, none⟩ = some (.int .i64 ot) ∧ w'.cell? ⟨w.heap.size, 3, none⟩ = some (.int .i64 pe) ∧ w'.cell? ⟨(w.heap.size + 1), 0, none⟩ = some (.int .i64 st) ∧ w'.cell? ⟨(w.heap.size + 1), 1, none⟩ = some (.int .i64 en) ∧ w'.cell? ⟨(w.heap.size + 1), 2, none⟩ = some (.int .i64 ot') ∧ w'.cell? ⟨(w.heap.size + 1), 3, none⟩ = some (.int .i64 pe') ∧ w'.cell? ⟨P, 0, none⟩ = some (.int .i64 st) ∧ w'.cell? ⟨P, 1, none⟩ = some (.int .i64 en) ∧ w'.cell? ⟨P, 2, none⟩ = some (.int .i64 ot) ∧ w'.cell? ⟨P, 3, none⟩ = some (.int .i64 pe))
        ((go_split_ands
          refine ⟨?_, ?_, ?_, ?_, ?_, ?_, ?_, ?_, ?_, ?_, ?_, ?_, ?_, ?_⟩
          · (first | assumption | exact Below.drew (by assumption) | exact below_two (by assumption) hbx | exact below_two (Below.drew (by assumption)) hbx)
          · (first | assumption | (have := hbx.size; omega) | (have := hbx.size; simp at this; omega))
          · (first | assumption | exact (hbx.cell (by first | assumption | (simp only []; omega))).trans (by assumption))
          · (first | assumption | exact (hbx.cell (by first | assumption | (simp only []; omega))).trans (by assumption))
          · (first | assumption | exact (hbx.cell (by first | assumption | (simp only []; omega))).trans (by assumption))
          · (first | assumption | exact (hbx.cell (by first | assumption | (simp only []; omega))).trans (by assumption))
          · (first | assumption | exact (hbx.cell (by first | assumption | (simp only []; omega))).trans (by assumption))
          · (first | assumption | exact (hbx.cell (by first | assumption | (simp only []; omega))).trans (by assumption))
          · (first | assumption | exact (hbx.cell (by first | assumption | (simp only []; omega))).trans (by assumption))
          · (first | assumption | exact (hbx.cell (by first | assumption | (simp only []; omega))).trans (by assumption))
          · (first | assumption | exact (hbx.cell (by first | assumption | (simp only []; omega))).trans (by assumption))
          · (first | assumption | exact (hbx.cell (by first | assumption | (simp only []; omega))).trans (by assumption))
          · (first | assumption | exact (hbx.cell (by first | assumption | (simp only []; omega))).trans (by assumption))
          · (first | assumption | exact (hbx.cell (by first | assumption | (simp only []; omega))).trans (by assumption))))
        ((first
          | (go_at_call 12; (with_reducible refine (HTX.out _ ?_).mono ?_); (exact (by (first | exact HEB.out _ (by assumption) | exact HEB.out _ (Below.drew (by assumption)) | exact HEB.out _ (show Below w.heap.size w _ ∧ P < _ ∧ _ from by assumption).1 | exact HEB.out _ (Below.drew (show Below w.heap.size w _ ∧ P < _ ∧ _ from by assumption).1)))); (rintro e wx ⟨rfl, hbx⟩))
          | (go_at_call 12; (with_reducible refine (HTY.out _ ?_).mono ?_); (exact (by (first | exact HEB.out _ (by assumption) | exact HEB.out _ (Below.drew (by assumption)) | exact HEB.out _ (show Below w.heap.size w _ ∧ P < _ ∧ _ from by assumption).1 | exact HEB.out _ (Below.drew (show Below w.heap.size w _ ∧ P < _ ∧ _ from by assumption).1)))); (rintro e wx ⟨rfl, hbx⟩))))
      all_goals
        have hS0 : Below w.heap.size w _ := (show Below w.heap.size w _ ∧ P < _ ∧ _ from by assumption).1
        go_wp2_with fail
        go_ret
        exact ⟨rfl, hS0⟩
    · have q5 := beq_eq_false_iff_ne.2 h
      clear h
      clear HIN
      go_region_held3 (fun w' => Below w.heap.size w w' ∧ P < w'.heap.size ∧ w'.cell? ⟨w.heap.size, 0, none⟩ = some (.int .i64 st) ∧ w'.cell? ⟨w.heap.size, 1, none⟩ = some (.int .i64 en) ∧ w'.cell? ⟨w.heap.size, 2, none⟩ = some (.int .i64 ot) ∧ w'.cell? ⟨w.heap.size, 3, none⟩ = some (.int .i64 pe) ∧ w'.cell? ⟨(w.heap.size + 1), 0, none⟩ = some (.int .i64 st) ∧ w'.cell? ⟨(w.heap.size + 1), 1, none⟩ = some (.int .i64 en) ∧ w'.cell? ⟨(w.heap.size + 1), 2, none⟩ = some (.int .i64 ot) ∧ w'.cell? ⟨(w.heap.size + 1), 3, none⟩ = some (.int .i64 pe') ∧ w'.cell? ⟨P, 0, none⟩ = some (.int .i64 st) ∧ w'.cell? ⟨P, 1, none⟩ = some (.int .i64 en) ∧ w'.cell? ⟨P, 2, none⟩ = some (.int .i64 ot) ∧ w'.cell? ⟨P, 3, none⟩ = some (.int .i64 pe))
        ((go_split_ands
          refine ⟨?_, ?_, ?_, ?_, ?_, ?_, ?_, ?_, ?_, ?_, ?_, ?_, ?_, ?_⟩
          · (first | assumption | exact Below.drew (by assumption) | exact below_two (by assumption) hbx | exact below_two (Below.drew (by assumption)) hbx)
          · (first | assumption | (have := hbx.size; omega) | (have := hbx.size; simp at this; omega))
          · (first | assumption | exact (hbx.cell (by first | assumption | (simp only []; omega))).trans (by assumption))
          · (first | assumption | exact (hbx.cell (by first | assumption | (simp only []; omega))).trans (by assumption))
          · (first | assumption | exact (hbx.cell (by first | assumption | (simp only []; omega))).trans (by assumption))
          · (first | assumption | exact (hbx.cell (by first | assumption | (simp only []; omega))).trans (by assumption))
          · (first | assumption | exact (hbx.cell (by first | assumption | (simp only []; omega))).trans (by assumption))
          · (first | assumption | exact (hbx.cell (by first | assumption | (simp only []; omega))).trans (by assumption))
          · (first | assumption | exact (hbx.cell (by first | assumption | (simp only []; omega))).trans (by assumption))
          · (first | assumption | exact (hbx.cell (by first | assumption | (simp only []; omega))).trans (by assumption))
          · (first | assumption | exact (hbx.cell (by first | assumption | (simp only []; omega))).trans (by assumption))
          · (first | assumption | exact (hbx.cell (by first | assumption | (simp only []; omega))).trans (by assumption))
          · (first | assumption | exact (hbx.cell (by first | assumption | (simp only []; omega))).trans (by assumption))
          · (first | assumption | exact (hbx.cell (by first | assumption | (simp only []; omega))).trans (by assumption))))
        ((first
          | (go_at_call 12; (with_reducible refine (HTX.out _ ?_).mono ?_); (exact (by (first | exact HEB.out _ (by assumption) | exact HEB.out _ (Below.drew (by assumption)) | exact HEB.out _ (show Below w.heap.size w _ ∧ P < _ ∧ _ from by assumption).1 | exact HEB.out _ (Below.drew (show Below w.heap.size w _ ∧ P < _ ∧ _ from by assumption).1)))); (rintro e wx ⟨rfl, hbx⟩))
          | (go_at_call 12; (with_reducible refine (HTY.out _ ?_).mono ?_); (exact (by (first | exact HEB.out _ (by assumption) | exact HEB.out _ (Below.drew (by assumption)) | exact HEB.out _ (show Below w.heap.size w _ ∧ P < _ ∧ _ from by assumption).1 | exact HEB.out _ (Below.drew (show Below w.heap.size w _ ∧ P < _ ∧ _ from by assumption).1)))); (rintro e wx ⟨rfl, hbx⟩))))
      all_goals
        have hS0 : Below w.heap.size w _ := (show Below w.heap.size w _ ∧ P < _ ∧ _ from by assumption).1
        go_wp2_with fail
        go_ret
        exact ⟨rfl, hS0⟩
end Go.Proofs.YtophffmofpmbpaaDoor
