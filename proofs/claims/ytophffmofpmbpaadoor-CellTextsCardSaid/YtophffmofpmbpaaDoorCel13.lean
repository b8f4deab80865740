/-
  The law CellValid.
-/
import Derived.Test.YtophffmofpmbpaaDoorCel12
import Derived.Test.YtophffmofpmbpaaDoorCel7
import Derived.Deep.RegionHeld3
import Derived.Deep.MidRow
namespace Go.Proofs.YtophffmofpmbpaaDoor
open Go.RowKit
set_option linter.unusedVariables false
set_option maxRecDepth 100000 in
set_option maxHeartbeats 8000000 in
theorem lawValid (c : SCell) (w : World) (hE : Env w) (hEE : EnvE w) : Calls Tryd.prog 3 #[cellV c] w fun e w' => e = .returned (.bool true) ∧ Below w.heap.size w w' := by
  have HV1 : Hid (∀ w, Calls Tryd.prog 10 #[cellV c] w fun e w' => e = .returned (.bool (validC c)) ∧ Below w.heap.size w w') := valid_any c
  have HV2 : Hid (∀ w, Calls Tryd.prog 11 #[cellV c] w fun e w' => e = .returned (.bool (validC c)) ∧ Below w.heap.size w w') := refValid_any c
  have HT1 : Hid (∀ w, Env w → Calls Tryd.prog 12 #[cellV c] w fun e w' => e = .returned (.string ⟨(textC c).toArray⟩) ∧ Below w.heap.size w w') := text_any c
  have HT2 : Hid (∀ w, Calls Tryd.prog 13 #[cellV c] w fun e w' => e = .returned (.string ⟨(textC c).toArray⟩) ∧ Below w.heap.size w w') := refText_any c
  have HO1 : Hid (∀ w, Calls Tryd.prog 14 #[.int .i64 c.st, .int .i64 c.en, .int .i64 c.ot, .int .i64 c.pe] w fun e' w' => e' = .returned (cellV (ofC c.st c.en c.ot c.pe)) ∧ Below w.heap.size w w') := of_any c.st c.en c.ot c.pe
  have HO2 : Hid (∀ w, Calls Tryd.prog 15 #[.int .i64 c.st, .int .i64 c.en, .int .i64 c.ot, .int .i64 c.pe] w fun e' w' => e' = .returned (cellV (ofC c.st c.en c.ot c.pe)) ∧ Below w.heap.size w w') := refOf_any c.st c.en c.ot c.pe
  generalize ofC c.st c.en c.ot c.pe = d at *
  generalize validC c = V at *
  generalize textC c = T at *
  obtain ⟨st, en, ot, pe⟩ := c
  obtain ⟨d0, d1, d2, d3⟩ := d
  unfold cellV at *
  simp only [] at *
  have HKX := Lib.hid (Blk.new w 23 #[.int .i64 st, .int .i64 en, .int .i64 ot, .int .i64 pe])
  have HB0 := Lib.hid ((Below.refl w.heap.size w).alloc (Nat.le_refl _) (.cells (#[.int .i64 st, .int .i64 en, .int .i64 ot, .int .i64 pe] : Array Value) 23))
  have HE0 := Lib.hid (hE.after HB0.out)
  have HEE0 := Lib.hid (hEE.below HB0.out hE.size)
  have HEB : Hid (∀ w_, Below w.heap.size w w_ → Env w_) := fun w_ h => hE.after h
  go_enter Tryd.func3, Tryd.ntmps3
  go_wp2_with fail
  refine (awake_true _ HE0.out HEE0.out).mono ?_
  rintro e w1 ⟨rfl, hb1⟩
  have hs0 := below_two HB0.out hb1
  have hk1 := HKX.out.below hb1 (by simp)
  have hs1 : w.heap.size < w1.heap.size := hk1.lt
  obtain ⟨hc0, hc1, hc2, hc3⟩ := st_blk hk1
  clear hb1 hk1
  have q1 : (V == V) = true := by simp
  have q2 : (V != V) = false := by simp
  have q3 : (T == T) = true := by simp
  go_wp2_with fail
  go_region_held3 (fun w' => Below w.heap.size w w' ∧ w.heap.size < w'.heap.size ∧ w'.cell? ⟨w.heap.size, 0, none⟩ = some (.int .i64 st) ∧ w'.cell? ⟨w.heap.size, 1, none⟩ = some (.int .i64 en) ∧ w'.cell? ⟨w.heap.size, 2, none⟩ = some (.int .i64 ot) ∧ w'.cell? ⟨w.heap.size, 3, none⟩ = some (.int .i64 pe))
    ((go_split_ands
      refine ⟨?_, ?_, ?_, ?_, ?_, ?_⟩
      · (first | assumption | exact Below.drew (by assumption) | exact below_two (by assumption) hbx | exact below_two (Below.drew (by assumption)) hbx)
      · (first | assumption | (have := hbx.size; omega) | (have := hbx.size; simp at this; omega))
      · (first | assumption | exact (hbx.cell (by assumption)).trans (by assumption))
      · (first | assumption | exact (hbx.cell (by assumption)).trans (by assumption))
      · (first | assumption | exact (hbx.cell (by assumption)).trans (by assumption))
      · (first | assumption | exact (hbx.cell (by assumption)).trans (by assumption))))
    ((first
      | (go_at_call 10; refine (HV1.out _).mono ?_; rintro e wx ⟨rfl, hbx⟩)
      | (go_at_call 11; refine (HV2.out _).mono ?_; rintro e wx ⟨rfl, hbx⟩)
      | (go_at_call 12; refine (HT1.out _ (by (first | exact HEB.out _ (by assumption) | exact HEB.out _ (Below.drew (by assumption)) | exact HEB.out _ (show Below w.heap.size w _ ∧ w.heap.size < _ ∧ _ from by assumption).1 | exact HEB.out _ (Below.drew (show Below w.heap.size w _ ∧ w.heap.size < _ ∧ _ from by assumption).1)))).mono ?_; rintro e wx ⟨rfl, hbx⟩)
      | (go_at_call 13; refine (HT2.out _).mono ?_; rintro e wx ⟨rfl, hbx⟩)
      | (go_at_call 14; refine (HO1.out _).mono ?_; rintro e wx ⟨rfl, hbx⟩)
      | (go_at_call 15; refine (HO2.out _).mono ?_; rintro e wx ⟨rfl, hbx⟩)))
  all_goals
    have hS0 : Below w.heap.size w _ := (show Below w.heap.size w _ ∧ w.heap.size < _ ∧ _ from by assumption).1
    go_wp2_with fail
    go_ret
    exact ⟨rfl, hS0⟩
end Go.Proofs.YtophffmofpmbpaaDoor
