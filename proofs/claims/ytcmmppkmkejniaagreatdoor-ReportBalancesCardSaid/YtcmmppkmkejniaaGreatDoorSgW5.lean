/-
  The line of a row: line, the reference's Line; Itoa and Number.
-/
import Derived.Test.YtcmmppkmkejniaaGreatDoorBlSt
import Derived.Test.YtcmmppkmkejniaaGreatDoorRefDig03
namespace Go.Proofs.YtcmmppkmkejniaaGreatDoor
open Go.RowKit
set_option linter.unusedVariables false
theorem itoa_any (x : Int) (w : World) (h0 : -9223372036854775808 ≤ x) (h1 : x ≤ 9223372036854775807) (hE : Env w) :
    Calls Tryz.prog 34 #[.int .i64 x] w fun e w' => e = .returned (.string ⟨(Lib.itoa x).toArray⟩) ∧ Below w.heap.size w w' := by
  refine (Tryz.strconv_Itoa _ h0 h1 _ hE.tab).mono ?_
  rintro e w1 ⟨rfl, hw1⟩
  exact ⟨rfl, below_itoa hw1⟩
theorem refNumber_any (x : Int) (w : World) (h0 : 0 ≤ x) (h1 : x ≤ 1000000000000000000) :
    Calls Tryz.prog 35 #[.int .i64 x] w fun e w' => e = .returned (.string ⟨(Lib.itoa x).toArray⟩) ∧ Below w.heap.size w w' := by
  obtain ⟨m, rfl⟩ : ∃ m : Nat, x = m := ⟨x.toNat, by omega⟩
  rw [Lib.itoa_nonneg]
  have hd : decide ((m : Int) < 0) = false := by rw [decide_eq_false_iff_not]; omega
  have HM := Lib.hid h1
  clear h0 h1
  go_enter Tryz.func35, Tryz.ntmps35
  go_wp2_with fail
  refine (refDigits_int m m _ rfl (by have := HM.out; omega)).mono ?_
  rintro e w1 ⟨rfl, hb⟩
  go_wp2_with fail
  go_ret
  exact ⟨rfl, hb⟩
theorem itoa_len {x : Int} (h0 : -9223372036854775808 ≤ x) (h1 : x ≤ 9223372036854775807) : (Lib.itoa x).length ≤ 21 := Lib.itoa_length_le x h0 h1
theorem line_title {nm : List UInt8} {lv fr to_ : Int} {ng : Bool} (h : isTitle ⟨nm, lv, fr, to_, ng⟩ = true) : lineL ⟨nm, lv, fr, to_, ng⟩ = Lib.itoa lv ++ [32, 34] ++ nm ++ [34] := by
  unfold lineL; rw [h]; simp
theorem line_row {nm : List UInt8} {lv fr to_ : Int} (h : isTitle ⟨nm, lv, fr, to_, false⟩ = false) : lineL ⟨nm, lv, fr, to_, false⟩ = Lib.itoa lv ++ [32, 34] ++ nm ++ [34] ++ ([32] ++ Lib.itoa fr ++ [46, 46] ++ Lib.itoa to_) := by
  unfold lineL; rw [h]; simp
theorem line_neg {nm : List UInt8} {lv fr to_ : Int} (h : isTitle ⟨nm, lv, fr, to_, true⟩ = false) : lineL ⟨nm, lv, fr, to_, true⟩ = Lib.itoa lv ++ [32, 34] ++ nm ++ [34] ++ ([32] ++ Lib.itoa fr ++ [46, 46] ++ Lib.itoa to_) ++ [32, 45] := by
  unfold lineL; rw [h]; simp
theorem lineL_len {r : SRow} (h1 : -9223372036854775808 ≤ r.level) (h2 : r.level ≤ 9223372036854775807) (h3 : -9223372036854775808 ≤ r.from_) (h4 : r.from_ ≤ 9223372036854775807) (h5 : -9223372036854775808 ≤ r.to_) (h6 : r.to_ ≤ 9223372036854775807) : (lineL r).length ≤ r.name.length + 80 := by
  have a := itoa_len h1 h2
  have b := itoa_len h3 h4
  have c := itoa_len h5 h6
  unfold lineL
  simp only [List.length_append]
  split
  · simp; omega
  · split <;> simp <;> omega
set_option maxRecDepth 100000 in
set_option maxHeartbeats 8000000 in
theorem line_any (r : SRow) (w : World) (hE : Env w) (h1 : -9223372036854775808 ≤ r.level) (h2 : r.level ≤ 9223372036854775807) (h3 : -9223372036854775808 ≤ r.from_) (h4 : r.from_ ≤ 9223372036854775807) (h5 : -9223372036854775808 ≤ r.to_) (h6 : r.to_ ≤ 9223372036854775807) (hnl : r.name.length ≤ 3000) :
    Calls Tryz.prog 31 #[rowV r] w fun e w' => e = .returned (.string ⟨(lineL r).toArray⟩) ∧ Below w.heap.size w w' := by
  obtain ⟨nm, lv, fr, to_, ng⟩ := r
  unfold rowV
  simp only [] at *
  have q1 : (Lib.itoa lv).length ≤ 21 := itoa_len (by omega) (by omega)
  have q2 : (Lib.itoa fr).length ≤ 21 := itoa_len (by omega) (by omega)
  have q3 : (Lib.itoa to_).length ≤ 21 := itoa_len (by omega) (by omega)
  cases ht : isTitle ⟨nm, lv, fr, to_, ng⟩
  · cases ng
    · skip
      have F := Lib.hid (line_row ht)
      have TT := Lib.hid ht
      clear ht
      go_enter Tryz.func31, Tryz.ntmps31
      go_wp2_with fail
      have hs0 : Below w.heap.size w (w.alloc (.cells #[.string ⟨nm.toArray⟩, .int .i64 lv, .int .i64 fr, .int .i64 to_, .bool false] 39)) := (Below.refl _ _).alloc (Nat.le_refl _) _
      have hs1 : w.heap.size < (w.alloc (.cells #[.string ⟨nm.toArray⟩, .int .i64 lv, .int .i64 fr, .int .i64 to_, .bool false] 39)).heap.size := by simp
      obtain ⟨hc0, hc1, hc2, hc3, hc4⟩ := row_cells (Blk.new w 39 #[.string ⟨nm.toArray⟩, .int .i64 lv, .int .i64 fr, .int .i64 to_, .bool false])
      generalize w.alloc (.cells #[.string ⟨nm.toArray⟩, .int .i64 lv, .int .i64 fr, .int .i64 to_, .bool false] 39) = wz at *
      have HEB : Hid (∀ w_, Below w.heap.size w w_ → Env w_) := fun w_ h => hE.after h
      have n1 : ¬9223372036854775807 < (Lib.itoa lv).length + 2 := by omega
      have n2 : ¬9223372036854775807 < (Lib.itoa lv).length + 2 + nm.length := by omega
      have n3 : ¬9223372036854775807 < (Lib.itoa lv).length + 2 + nm.length + 1 := by omega
      go_region_held3 (fun w' => Below w.heap.size w w' ∧ w.heap.size < w'.heap.size ∧ w'.cell? ⟨w.heap.size, 0, none⟩ = some (.string ⟨nm.toArray⟩) ∧ w'.cell? ⟨w.heap.size, 1, none⟩ = some (.int .i64 lv) ∧ w'.cell? ⟨w.heap.size, 2, none⟩ = some (.int .i64 fr) ∧ w'.cell? ⟨w.heap.size, 3, none⟩ = some (.int .i64 to_) ∧ w'.cell? ⟨w.heap.size, 4, none⟩ = some (.bool false))
        ((go_split_ands
          refine ⟨?_, ?_, ?_, ?_, ?_, ?_, ?_⟩
          · (first | assumption | exact Below.drew (by assumption) | exact below_two (by assumption) hbx | exact below_two (Below.drew (by assumption)) hbx)
          · (first | assumption | (have := hbx.size; omega) | (have := hbx.size; simp at this; omega))
          · (first | assumption | exact (hbx.cell (by assumption)).trans (by assumption))
          · (first | assumption | exact (hbx.cell (by assumption)).trans (by assumption))
          · (first | assumption | exact (hbx.cell (by assumption)).trans (by assumption))
          · (first | assumption | exact (hbx.cell (by assumption)).trans (by assumption))
          · (first | assumption | exact (hbx.cell (by assumption)).trans (by assumption))))
        ((go_at_call 34; refine (itoa_any _ _ (by assumption) (by assumption) (by (first | exact HEB.out _ (by assumption) | exact HEB.out _ (Below.drew (by assumption)) | exact HEB.out _ (show Below w.heap.size w _ ∧ w.heap.size < _ ∧ _ from by assumption).1 | exact HEB.out _ (Below.drew (show Below w.heap.size w _ ∧ w.heap.size < _ ∧ _ from by assumption).1)))).mono ?_; rintro e wx ⟨rfl, hbx⟩))
      all_goals
        have hS0 : Below w.heap.size w _ := (show Below w.heap.size w _ ∧ w.heap.size < _ ∧ _ from by assumption).1
        have hS1 := (show Below w.heap.size w _ ∧ w.heap.size < _ ∧ _ from by assumption).2.1
        go_wp2_with fail
        refine (title_any ⟨nm, lv, fr, to_, false⟩ _).mono ?_
        rintro e w2 ⟨rfl, hb2⟩
        rw [TT.out]
        have hS2 := below_two hS0 hb2
        have hpre : (⟨(Lib.itoa lv).toArray⟩ ++ ⟨#[32, 34]⟩ ++ ⟨nm.toArray⟩ ++ ⟨#[34]⟩ : ByteArray) = ⟨(Lib.itoa lv ++ [32, 34] ++ nm ++ [34]).toArray⟩ := by apply ByteArray.ext; simp
        rw [hpre]
        clear hpre
        have hpl : (Lib.itoa lv ++ [32, 34] ++ nm ++ [34]).length ≤ 3024 := by simp; omega
        generalize Lib.itoa lv ++ [32, 34] ++ nm ++ [34] = p1 at *
        have hS3 : w.heap.size < w2.heap.size := by have := hb2.size; omega
        obtain ⟨a0, a1, a2, a3, a4⟩ := (show Below w.heap.size w _ ∧ w.heap.size < _ ∧ _ from by assumption).2.2
        have g0 := (hb2.cell (p := ⟨w.heap.size, 0, none⟩) hS1).trans a0
        have g1 := (hb2.cell (p := ⟨w.heap.size, 1, none⟩) hS1).trans a1
        have g2 := (hb2.cell (p := ⟨w.heap.size, 2, none⟩) hS1).trans a2
        have g3 := (hb2.cell (p := ⟨w.heap.size, 3, none⟩) hS1).trans a3
        have g4 := (hb2.cell (p := ⟨w.heap.size, 4, none⟩) hS1).trans a4
        clear a0 a1 a2 a3 a4 hb2 hc0 hc1 hc2 hc3 hc4 hs0 hs1
        go_wp2_with fail
        have n4 : ¬9223372036854775807 < 1 + (Lib.itoa fr).length := by omega
        have n5 : ¬9223372036854775807 < 1 + (Lib.itoa fr).length + 2 := by omega
        have n6 : ¬9223372036854775807 < 1 + (Lib.itoa fr).length + 2 + (Lib.itoa to_).length := by omega
        have n7 : ¬9223372036854775807 < p1.length + (1 + (Lib.itoa fr).length + 2 + (Lib.itoa to_).length) := by omega
        go_region_held3 (fun w' => Below w.heap.size w w' ∧ w.heap.size < w'.heap.size ∧ w'.cell? ⟨w.heap.size, 0, none⟩ = some (.string ⟨nm.toArray⟩) ∧ w'.cell? ⟨w.heap.size, 1, none⟩ = some (.int .i64 lv) ∧ w'.cell? ⟨w.heap.size, 2, none⟩ = some (.int .i64 fr) ∧ w'.cell? ⟨w.heap.size, 3, none⟩ = some (.int .i64 to_) ∧ w'.cell? ⟨w.heap.size, 4, none⟩ = some (.bool false))
          ((go_split_ands
            refine ⟨?_, ?_, ?_, ?_, ?_, ?_, ?_⟩
            · (first | assumption | exact Below.drew (by assumption) | exact below_two (by assumption) hbx | exact below_two (Below.drew (by assumption)) hbx)
            · (first | assumption | (have := hbx.size; omega) | (have := hbx.size; simp at this; omega))
            · (first | assumption | exact (hbx.cell (by assumption)).trans (by assumption))
            · (first | assumption | exact (hbx.cell (by assumption)).trans (by assumption))
            · (first | assumption | exact (hbx.cell (by assumption)).trans (by assumption))
            · (first | assumption | exact (hbx.cell (by assumption)).trans (by assumption))
            · (first | assumption | exact (hbx.cell (by assumption)).trans (by assumption))))
          ((go_at_call 34; refine (itoa_any _ _ (by assumption) (by assumption) (by (first | exact HEB.out _ (by assumption) | exact HEB.out _ (Below.drew (by assumption)) | exact HEB.out _ (show Below w.heap.size w _ ∧ w.heap.size < _ ∧ _ from by assumption).1 | exact HEB.out _ (Below.drew (show Below w.heap.size w _ ∧ w.heap.size < _ ∧ _ from by assumption).1)))).mono ?_; rintro e wx ⟨rfl, hbx⟩))
        all_goals
          have hS4 : Below w.heap.size w _ := (show Below w.heap.size w _ ∧ w.heap.size < _ ∧ _ from by assumption).1
          obtain ⟨a0, a1, a2, a3, a4⟩ := (show Below w.heap.size w _ ∧ w.heap.size < _ ∧ _ from by assumption).2.2
          go_wp2_with fail
          go_ret
          exact ⟨ret_str' (by rw [F.out]; apply ByteArray.ext; simp), hS4⟩
    · skip
      have F := Lib.hid (line_neg ht)
      have TT := Lib.hid ht
      clear ht
      go_enter Tryz.func31, Tryz.ntmps31
      go_wp2_with fail
      have hs0 : Below w.heap.size w (w.alloc (.cells #[.string ⟨nm.toArray⟩, .int .i64 lv, .int .i64 fr, .int .i64 to_, .bool true] 39)) := (Below.refl _ _).alloc (Nat.le_refl _) _
      have hs1 : w.heap.size < (w.alloc (.cells #[.string ⟨nm.toArray⟩, .int .i64 lv, .int .i64 fr, .int .i64 to_, .bool true] 39)).heap.size := by simp
      obtain ⟨hc0, hc1, hc2, hc3, hc4⟩ := row_cells (Blk.new w 39 #[.string ⟨nm.toArray⟩, .int .i64 lv, .int .i64 fr, .int .i64 to_, .bool true])
      generalize w.alloc (.cells #[.string ⟨nm.toArray⟩, .int .i64 lv, .int .i64 fr, .int .i64 to_, .bool true] 39) = wz at *
      have HEB : Hid (∀ w_, Below w.heap.size w w_ → Env w_) := fun w_ h => hE.after h
      have n1 : ¬9223372036854775807 < (Lib.itoa lv).length + 2 := by omega
      have n2 : ¬9223372036854775807 < (Lib.itoa lv).length + 2 + nm.length := by omega
      have n3 : ¬9223372036854775807 < (Lib.itoa lv).length + 2 + nm.length + 1 := by omega
      go_region_held3 (fun w' => Below w.heap.size w w' ∧ w.heap.size < w'.heap.size ∧ w'.cell? ⟨w.heap.size, 0, none⟩ = some (.string ⟨nm.toArray⟩) ∧ w'.cell? ⟨w.heap.size, 1, none⟩ = some (.int .i64 lv) ∧ w'.cell? ⟨w.heap.size, 2, none⟩ = some (.int .i64 fr) ∧ w'.cell? ⟨w.heap.size, 3, none⟩ = some (.int .i64 to_) ∧ w'.cell? ⟨w.heap.size, 4, none⟩ = some (.bool true))
        ((go_split_ands
          refine ⟨?_, ?_, ?_, ?_, ?_, ?_, ?_⟩
          · (first | assumption | exact Below.drew (by assumption) | exact below_two (by assumption) hbx | exact below_two (Below.drew (by assumption)) hbx)
          · (first | assumption | (have := hbx.size; omega) | (have := hbx.size; simp at this; omega))
          · (first | assumption | exact (hbx.cell (by assumption)).trans (by assumption))
          · (first | assumption | exact (hbx.cell (by assumption)).trans (by assumption))
          · (first | assumption | exact (hbx.cell (by assumption)).trans (by assumption))
          · (first | assumption | exact (hbx.cell (by assumption)).trans (by assumption))
          · (first | assumption | exact (hbx.cell (by assumption)).trans (by assumption))))
        ((go_at_call 34; refine (itoa_any _ _ (by assumption) (by assumption) (by (first | exact HEB.out _ (by assumption) | exact HEB.out _ (Below.drew (by assumption)) | exact HEB.out _ (show Below w.heap.size w _ ∧ w.heap.size < _ ∧ _ from by assumption).1 | exact HEB.out _ (Below.drew (show Below w.heap.size w _ ∧ w.heap.size < _ ∧ _ from by assumption).1)))).mono ?_; rintro e wx ⟨rfl, hbx⟩))
      all_goals
        have hS0 : Below w.heap.size w _ := (show Below w.heap.size w _ ∧ w.heap.size < _ ∧ _ from by assumption).1
        have hS1 := (show Below w.heap.size w _ ∧ w.heap.size < _ ∧ _ from by assumption).2.1
        go_wp2_with fail
        refine (title_any ⟨nm, lv, fr, to_, true⟩ _).mono ?_
        rintro e w2 ⟨rfl, hb2⟩
        rw [TT.out]
        have hS2 := below_two hS0 hb2
        have hpre : (⟨(Lib.itoa lv).toArray⟩ ++ ⟨#[32, 34]⟩ ++ ⟨nm.toArray⟩ ++ ⟨#[34]⟩ : ByteArray) = ⟨(Lib.itoa lv ++ [32, 34] ++ nm ++ [34]).toArray⟩ := by apply ByteArray.ext; simp
        rw [hpre]
        clear hpre
        have hpl : (Lib.itoa lv ++ [32, 34] ++ nm ++ [34]).length ≤ 3024 := by simp; omega
        generalize Lib.itoa lv ++ [32, 34] ++ nm ++ [34] = p1 at *
        have hS3 : w.heap.size < w2.heap.size := by have := hb2.size; omega
        obtain ⟨a0, a1, a2, a3, a4⟩ := (show Below w.heap.size w _ ∧ w.heap.size < _ ∧ _ from by assumption).2.2
        have g0 := (hb2.cell (p := ⟨w.heap.size, 0, none⟩) hS1).trans a0
        have g1 := (hb2.cell (p := ⟨w.heap.size, 1, none⟩) hS1).trans a1
        have g2 := (hb2.cell (p := ⟨w.heap.size, 2, none⟩) hS1).trans a2
        have g3 := (hb2.cell (p := ⟨w.heap.size, 3, none⟩) hS1).trans a3
        have g4 := (hb2.cell (p := ⟨w.heap.size, 4, none⟩) hS1).trans a4
        clear a0 a1 a2 a3 a4 hb2 hc0 hc1 hc2 hc3 hc4 hs0 hs1
        go_wp2_with fail
        have n4 : ¬9223372036854775807 < 1 + (Lib.itoa fr).length := by omega
        have n5 : ¬9223372036854775807 < 1 + (Lib.itoa fr).length + 2 := by omega
        have n6 : ¬9223372036854775807 < 1 + (Lib.itoa fr).length + 2 + (Lib.itoa to_).length := by omega
        have n7 : ¬9223372036854775807 < p1.length + (1 + (Lib.itoa fr).length + 2 + (Lib.itoa to_).length) := by omega
        go_region_held3 (fun w' => Below w.heap.size w w' ∧ w.heap.size < w'.heap.size ∧ w'.cell? ⟨w.heap.size, 0, none⟩ = some (.string ⟨nm.toArray⟩) ∧ w'.cell? ⟨w.heap.size, 1, none⟩ = some (.int .i64 lv) ∧ w'.cell? ⟨w.heap.size, 2, none⟩ = some (.int .i64 fr) ∧ w'.cell? ⟨w.heap.size, 3, none⟩ = some (.int .i64 to_) ∧ w'.cell? ⟨w.heap.size, 4, none⟩ = some (.bool true))
          ((go_split_ands
            refine ⟨?_, ?_, ?_, ?_, ?_, ?_, ?_⟩
            · (first | assumption | exact Below.drew (by assumption) | exact below_two (by assumption) hbx | exact below_two (Below.drew (by assumption)) hbx)
            · (first | assumption | (have := hbx.size; omega) | (have := hbx.size; simp at this; omega))
            · (first | assumption | exact (hbx.cell (by assumption)).trans (by assumption))
            · (first | assumption | exact (hbx.cell (by assumption)).trans (by assumption))
            · (first | assumption | exact (hbx.cell (by assumption)).trans (by assumption))
            · (first | assumption | exact (hbx.cell (by assumption)).trans (by assumption))
            · (first | assumption | exact (hbx.cell (by assumption)).trans (by assumption))))
          ((go_at_call 34; refine (itoa_any _ _ (by assumption) (by assumption) (by (first | exact HEB.out _ (by assumption) | exact HEB.out _ (Below.drew (by assumption)) | exact HEB.out _ (show Below w.heap.size w _ ∧ w.heap.size < _ ∧ _ from by assumption).1 | exact HEB.out _ (Below.drew (show Below w.heap.size w _ ∧ w.heap.size < _ ∧ _ from by assumption).1)))).mono ?_; rintro e wx ⟨rfl, hbx⟩))
        all_goals
          have hS4 : Below w.heap.size w _ := (show Below w.heap.size w _ ∧ w.heap.size < _ ∧ _ from by assumption).1
          obtain ⟨a0, a1, a2, a3, a4⟩ := (show Below w.heap.size w _ ∧ w.heap.size < _ ∧ _ from by assumption).2.2
          go_wp2_with fail
          go_ret
          exact ⟨ret_str' (by rw [F.out]; apply ByteArray.ext; simp), hS4⟩
  · skip
    have F := Lib.hid (line_title ht)
    have TT := Lib.hid ht
    clear ht
    go_enter Tryz.func31, Tryz.ntmps31
    go_wp2_with fail
    have hs0 : Below w.heap.size w (w.alloc (.cells #[.string ⟨nm.toArray⟩, .int .i64 lv, .int .i64 fr, .int .i64 to_, .bool ng] 39)) := (Below.refl _ _).alloc (Nat.le_refl _) _
    have hs1 : w.heap.size < (w.alloc (.cells #[.string ⟨nm.toArray⟩, .int .i64 lv, .int .i64 fr, .int .i64 to_, .bool ng] 39)).heap.size := by simp
    obtain ⟨hc0, hc1, hc2, hc3, hc4⟩ := row_cells (Blk.new w 39 #[.string ⟨nm.toArray⟩, .int .i64 lv, .int .i64 fr, .int .i64 to_, .bool ng])
    generalize w.alloc (.cells #[.string ⟨nm.toArray⟩, .int .i64 lv, .int .i64 fr, .int .i64 to_, .bool ng] 39) = wz at *
    have HEB : Hid (∀ w_, Below w.heap.size w w_ → Env w_) := fun w_ h => hE.after h
    have n1 : ¬9223372036854775807 < (Lib.itoa lv).length + 2 := by omega
    have n2 : ¬9223372036854775807 < (Lib.itoa lv).length + 2 + nm.length := by omega
    have n3 : ¬9223372036854775807 < (Lib.itoa lv).length + 2 + nm.length + 1 := by omega
    go_region_held3 (fun w' => Below w.heap.size w w' ∧ w.heap.size < w'.heap.size ∧ w'.cell? ⟨w.heap.size, 0, none⟩ = some (.string ⟨nm.toArray⟩) ∧ w'.cell? ⟨w.heap.size, 1, none⟩ = some (.int .i64 lv) ∧ w'.cell? ⟨w.heap.size, 2, none⟩ = some (.int .i64 fr) ∧ w'.cell? ⟨w.heap.size, 3, none⟩ = some (.int .i64 to_) ∧ w'.cell? ⟨w.heap.size, 4, none⟩ = some (.bool ng))
      ((go_split_ands
        refine ⟨?_, ?_, ?_, ?_, ?_, ?_, ?_⟩
        · (first | assumption | exact Below.drew (by assumption) | exact below_two (by assumption) hbx | exact below_two (Below.drew (by assumption)) hbx)
        · (first | assumption | (have := hbx.size; omega) | (have := hbx.size; simp at this; omega))
        · (first | assumption | exact (hbx.cell (by assumption)).trans (by assumption))
        · (first | assumption | exact (hbx.cell (by assumption)).trans (by assumption))
        · (first | assumption | exact (hbx.cell (by assumption)).trans (by assumption))
        · (first | assumption | exact (hbx.cell (by assumption)).trans (by assumption))
        · (first | assumption | exact (hbx.cell (by assumption)).trans (by assumption))))
      ((go_at_call 34; refine (itoa_any _ _ (by assumption) (by assumption) (by (first | exact HEB.out _ (by assumption) | exact HEB.out _ (Below.drew (by assumption)) | exact HEB.out _ (show Below w.heap.size w _ ∧ w.heap.size < _ ∧ _ from by assumption).1 | exact HEB.out _ (Below.drew (show Below w.heap.size w _ ∧ w.heap.size < _ ∧ _ from by assumption).1)))).mono ?_; rintro e wx ⟨rfl, hbx⟩))
    all_goals
      have hS0 : Below w.heap.size w _ := (show Below w.heap.size w _ ∧ w.heap.size < _ ∧ _ from by assumption).1
      have hS1 := (show Below w.heap.size w _ ∧ w.heap.size < _ ∧ _ from by assumption).2.1
      go_wp2_with fail
      refine (title_any ⟨nm, lv, fr, to_, ng⟩ _).mono ?_
      rintro e w2 ⟨rfl, hb2⟩
      rw [TT.out]
      have hS2 := below_two hS0 hb2
      have hpre : (⟨(Lib.itoa lv).toArray⟩ ++ ⟨#[32, 34]⟩ ++ ⟨nm.toArray⟩ ++ ⟨#[34]⟩ : ByteArray) = ⟨(Lib.itoa lv ++ [32, 34] ++ nm ++ [34]).toArray⟩ := by apply ByteArray.ext; simp
      rw [hpre]
      clear hpre
      have hpl : (Lib.itoa lv ++ [32, 34] ++ nm ++ [34]).length ≤ 3024 := by simp; omega
      generalize Lib.itoa lv ++ [32, 34] ++ nm ++ [34] = p1 at *
      go_wp2_with fail
      go_ret
      exact ⟨ret_str' (by rw [F.out]), hS2⟩
end Go.Proofs.YtcmmppkmkejniaaGreatDoor
