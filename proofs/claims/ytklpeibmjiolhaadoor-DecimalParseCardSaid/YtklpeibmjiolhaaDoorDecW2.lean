/-
  Walk of decimal.round: it returns the rounded quotient, in each of the six modes.
-/
import Derived.Test.YtklpeibmjiolhaaDoorDecW1
namespace Go.Proofs.YtklpeibmjiolhaaDoor
open Go.RowKit
set_option linter.unusedVariables false
set_option maxRecDepth 100000 in
set_option maxHeartbeats 4000000 in
theorem round_m0 (num den : Int) (w : World) (h1 : -1000000000000000000 ≤ num) (h2 : num ≤ 1000000000000000000) (h3 : -1000000000000000000 ≤ den) (h4 : den ≤ 1000000000000000000) (h5 : den ≠ 0) :
    Calls Tryd.prog 29 #[.int .i64 num, .int .i64 den, .int .i64 0] w fun e w' => e = .returned (.int .i64 (rdI num den 0)) ∧ Below w.heap.size w w' := by
  obtain ⟨a1, a2⟩ := absI_bd (n := num) ⟨h1, h2⟩
  obtain ⟨b1, b2⟩ := absI_bd (n := den) ⟨h3, h4⟩
  obtain ⟨q1, q2, q3, q4, q5⟩ := qr_bd (num := num) h5
  have F := Lib.hid (show rdI num den 0 = rounded (qu num den) (re num den) (ngB num den) (more 0 (ngB num den) (qu num den) (re num den) (absI den)) from rfl)
  have hix : ∀ w, (Instr.index 64 (.agg #[.func (.func 66) #[] #[], .func (.func 68) #[] #[], .func (.func 69) #[] #[], .func (.func 70) #[] #[], .func (.func 71) #[] #[], .func (.func 72) #[] #[]]) (.int .i64 0)).run Tryd.prog w = .ok (.func (.func 66) #[] #[]) w := fun _ => by kernel_rfl
  go_enter Tryd.func29, Tryd.ntmps29
  go_wp2_with fail
  refine (newQuotient_any _ _ _ h1 h2 h3 h4 h5).mono ?_
  rintro e w1 ⟨rfl, hb⟩
  generalize qu num den = q at *
  generalize re num den = r at *
  generalize ngB num den = neg at *
  generalize absI den = d at *
  clear h5
  go_wp2_with fail
  have hs0 : Below w.heap.size w (w1.alloc (.cells #[.int .i64 q, .int .i64 r, .int .i64 d, .bool neg] 60)) := hb.alloc hb.size _
  have hs1 : w1.heap.size < (w1.alloc (.cells #[.int .i64 q, .int .i64 r, .int .i64 d, .bool neg] 60)).heap.size := by simp
  have hs2 : (w1.alloc (.cells #[.int .i64 q, .int .i64 r, .int .i64 d, .bool neg] 60)).cell? ⟨w1.heap.size, 0, none⟩ = some (.int .i64 q) := by simp [go_sem]
  have hs3 : (w1.alloc (.cells #[.int .i64 q, .int .i64 r, .int .i64 d, .bool neg] 60)).cell? ⟨w1.heap.size, 1, none⟩ = some (.int .i64 r) := by simp [go_sem]
  have hs4 : (w1.alloc (.cells #[.int .i64 q, .int .i64 r, .int .i64 d, .bool neg] 60)).cell? ⟨w1.heap.size, 2, none⟩ = some (.int .i64 d) := by simp [go_sem]
  have hs5 : (w1.alloc (.cells #[.int .i64 q, .int .i64 r, .int .i64 d, .bool neg] 60)).cell? ⟨w1.heap.size, 3, none⟩ = some (.bool neg) := by simp [go_sem]
  generalize w1.alloc (.cells #[.int .i64 q, .int .i64 r, .int .i64 d, .bool neg] 60) = wz at *
  generalize w1.heap.size = B at *
  clear hb
  go_region_held3 (fun w' => Below w.heap.size w w' ∧ B < w'.heap.size ∧ w'.cell? ⟨B, 0, none⟩ = some (.int .i64 q) ∧ w'.cell? ⟨B, 1, none⟩ = some (.int .i64 r) ∧ w'.cell? ⟨B, 2, none⟩ = some (.int .i64 d) ∧ w'.cell? ⟨B, 3, none⟩ = some (.bool neg))
    ((go_split_ands
      refine ⟨?_, ?_, ?_, ?_, ?_, ?_⟩
      · (first | assumption | exact Below.drew (by assumption) | exact below_two (by assumption) hbx | exact below_two (Below.drew (by assumption)) hbx)
      · (first | assumption | (have := hbx.size; omega) | (have := hbx.size; simp at this; omega))
      · (first | assumption | exact (hbx.cell (by assumption)).trans (by assumption))
      · (first | assumption | exact (hbx.cell (by assumption)).trans (by assumption))
      · (first | assumption | exact (hbx.cell (by assumption)).trans (by assumption))
      · (first | assumption | exact (hbx.cell (by assumption)).trans (by assumption))))
    (first
      | (go_at_call 48; refine (modes_any _).mono ?_; rintro e wx ⟨rfl, hbx⟩)
      | (go_at_call 66; refine (m0_any _ _ _ _ _ (by assumption) (by assumption) (by assumption)).mono ?_; rintro e wx ⟨rfl, hbx⟩)
      | (go_at_call 47; refine (rounded_any _ _ _ _ _ _ (by assumption) (by omega)).mono ?_; rintro e wx ⟨rfl, hbx⟩))
  go_wp2
  go_ret
  exact ⟨ret_int F.out.symm, (show Below w.heap.size w _ ∧ B < _ ∧ _ from by assumption).1⟩
set_option maxRecDepth 100000 in
set_option maxHeartbeats 4000000 in
theorem round_m1 (num den : Int) (w : World) (h1 : -1000000000000000000 ≤ num) (h2 : num ≤ 1000000000000000000) (h3 : -1000000000000000000 ≤ den) (h4 : den ≤ 1000000000000000000) (h5 : den ≠ 0) :
    Calls Tryd.prog 29 #[.int .i64 num, .int .i64 den, .int .i64 1] w fun e w' => e = .returned (.int .i64 (rdI num den 1)) ∧ Below w.heap.size w w' := by
  obtain ⟨a1, a2⟩ := absI_bd (n := num) ⟨h1, h2⟩
  obtain ⟨b1, b2⟩ := absI_bd (n := den) ⟨h3, h4⟩
  obtain ⟨q1, q2, q3, q4, q5⟩ := qr_bd (num := num) h5
  have F := Lib.hid (show rdI num den 1 = rounded (qu num den) (re num den) (ngB num den) (more 1 (ngB num den) (qu num den) (re num den) (absI den)) from rfl)
  have hix : ∀ w, (Instr.index 64 (.agg #[.func (.func 66) #[] #[], .func (.func 68) #[] #[], .func (.func 69) #[] #[], .func (.func 70) #[] #[], .func (.func 71) #[] #[], .func (.func 72) #[] #[]]) (.int .i64 1)).run Tryd.prog w = .ok (.func (.func 68) #[] #[]) w := fun _ => by kernel_rfl
  go_enter Tryd.func29, Tryd.ntmps29
  go_wp2_with fail
  refine (newQuotient_any _ _ _ h1 h2 h3 h4 h5).mono ?_
  rintro e w1 ⟨rfl, hb⟩
  generalize qu num den = q at *
  generalize re num den = r at *
  generalize ngB num den = neg at *
  generalize absI den = d at *
  clear h5
  go_wp2_with fail
  have hs0 : Below w.heap.size w (w1.alloc (.cells #[.int .i64 q, .int .i64 r, .int .i64 d, .bool neg] 60)) := hb.alloc hb.size _
  have hs1 : w1.heap.size < (w1.alloc (.cells #[.int .i64 q, .int .i64 r, .int .i64 d, .bool neg] 60)).heap.size := by simp
  have hs2 : (w1.alloc (.cells #[.int .i64 q, .int .i64 r, .int .i64 d, .bool neg] 60)).cell? ⟨w1.heap.size, 0, none⟩ = some (.int .i64 q) := by simp [go_sem]
  have hs3 : (w1.alloc (.cells #[.int .i64 q, .int .i64 r, .int .i64 d, .bool neg] 60)).cell? ⟨w1.heap.size, 1, none⟩ = some (.int .i64 r) := by simp [go_sem]
  have hs4 : (w1.alloc (.cells #[.int .i64 q, .int .i64 r, .int .i64 d, .bool neg] 60)).cell? ⟨w1.heap.size, 2, none⟩ = some (.int .i64 d) := by simp [go_sem]
  have hs5 : (w1.alloc (.cells #[.int .i64 q, .int .i64 r, .int .i64 d, .bool neg] 60)).cell? ⟨w1.heap.size, 3, none⟩ = some (.bool neg) := by simp [go_sem]
  generalize w1.alloc (.cells #[.int .i64 q, .int .i64 r, .int .i64 d, .bool neg] 60) = wz at *
  generalize w1.heap.size = B at *
  clear hb
  go_region_held3 (fun w' => Below w.heap.size w w' ∧ B < w'.heap.size ∧ w'.cell? ⟨B, 0, none⟩ = some (.int .i64 q) ∧ w'.cell? ⟨B, 1, none⟩ = some (.int .i64 r) ∧ w'.cell? ⟨B, 2, none⟩ = some (.int .i64 d) ∧ w'.cell? ⟨B, 3, none⟩ = some (.bool neg))
    ((go_split_ands
      refine ⟨?_, ?_, ?_, ?_, ?_, ?_⟩
      · (first | assumption | exact Below.drew (by assumption) | exact below_two (by assumption) hbx | exact below_two (Below.drew (by assumption)) hbx)
      · (first | assumption | (have := hbx.size; omega) | (have := hbx.size; simp at this; omega))
      · (first | assumption | exact (hbx.cell (by assumption)).trans (by assumption))
      · (first | assumption | exact (hbx.cell (by assumption)).trans (by assumption))
      · (first | assumption | exact (hbx.cell (by assumption)).trans (by assumption))
      · (first | assumption | exact (hbx.cell (by assumption)).trans (by assumption))))
    (first
      | (go_at_call 48; refine (modes_any _).mono ?_; rintro e wx ⟨rfl, hbx⟩)
      | (go_at_call 68; refine (m1_any _ _ _ _ _ (by assumption) (by omega) (by assumption) (by assumption) (by assumption)).mono ?_; rintro e wx ⟨rfl, hbx⟩)
      | (go_at_call 47; refine (rounded_any _ _ _ _ _ _ (by assumption) (by omega)).mono ?_; rintro e wx ⟨rfl, hbx⟩))
  go_wp2
  go_ret
  exact ⟨ret_int F.out.symm, (show Below w.heap.size w _ ∧ B < _ ∧ _ from by assumption).1⟩
set_option maxRecDepth 100000 in
set_option maxHeartbeats 4000000 in
theorem round_m2 (num den : Int) (w : World) (h1 : -1000000000000000000 ≤ num) (h2 : num ≤ 1000000000000000000) (h3 : -1000000000000000000 ≤ den) (h4 : den ≤ 1000000000000000000) (h5 : den ≠ 0) :
    Calls Tryd.prog 29 #[.int .i64 num, .int .i64 den, .int .i64 2] w fun e w' => e = .returned (.int .i64 (rdI num den 2)) ∧ Below w.heap.size w w' := by
  obtain ⟨a1, a2⟩ := absI_bd (n := num) ⟨h1, h2⟩
  obtain ⟨b1, b2⟩ := absI_bd (n := den) ⟨h3, h4⟩
  obtain ⟨q1, q2, q3, q4, q5⟩ := qr_bd (num := num) h5
  have F := Lib.hid (show rdI num den 2 = rounded (qu num den) (re num den) (ngB num den) (more 2 (ngB num den) (qu num den) (re num den) (absI den)) from rfl)
  have hix : ∀ w, (Instr.index 64 (.agg #[.func (.func 66) #[] #[], .func (.func 68) #[] #[], .func (.func 69) #[] #[], .func (.func 70) #[] #[], .func (.func 71) #[] #[], .func (.func 72) #[] #[]]) (.int .i64 2)).run Tryd.prog w = .ok (.func (.func 69) #[] #[]) w := fun _ => by kernel_rfl
  go_enter Tryd.func29, Tryd.ntmps29
  go_wp2_with fail
  refine (newQuotient_any _ _ _ h1 h2 h3 h4 h5).mono ?_
  rintro e w1 ⟨rfl, hb⟩
  generalize qu num den = q at *
  generalize re num den = r at *
  generalize ngB num den = neg at *
  generalize absI den = d at *
  clear h5
  go_wp2_with fail
  have hs0 : Below w.heap.size w (w1.alloc (.cells #[.int .i64 q, .int .i64 r, .int .i64 d, .bool neg] 60)) := hb.alloc hb.size _
  have hs1 : w1.heap.size < (w1.alloc (.cells #[.int .i64 q, .int .i64 r, .int .i64 d, .bool neg] 60)).heap.size := by simp
  have hs2 : (w1.alloc (.cells #[.int .i64 q, .int .i64 r, .int .i64 d, .bool neg] 60)).cell? ⟨w1.heap.size, 0, none⟩ = some (.int .i64 q) := by simp [go_sem]
  have hs3 : (w1.alloc (.cells #[.int .i64 q, .int .i64 r, .int .i64 d, .bool neg] 60)).cell? ⟨w1.heap.size, 1, none⟩ = some (.int .i64 r) := by simp [go_sem]
  have hs4 : (w1.alloc (.cells #[.int .i64 q, .int .i64 r, .int .i64 d, .bool neg] 60)).cell? ⟨w1.heap.size, 2, none⟩ = some (.int .i64 d) := by simp [go_sem]
  have hs5 : (w1.alloc (.cells #[.int .i64 q, .int .i64 r, .int .i64 d, .bool neg] 60)).cell? ⟨w1.heap.size, 3, none⟩ = some (.bool neg) := by simp [go_sem]
  generalize w1.alloc (.cells #[.int .i64 q, .int .i64 r, .int .i64 d, .bool neg] 60) = wz at *
  generalize w1.heap.size = B at *
  clear hb
  go_region_held3 (fun w' => Below w.heap.size w w' ∧ B < w'.heap.size ∧ w'.cell? ⟨B, 0, none⟩ = some (.int .i64 q) ∧ w'.cell? ⟨B, 1, none⟩ = some (.int .i64 r) ∧ w'.cell? ⟨B, 2, none⟩ = some (.int .i64 d) ∧ w'.cell? ⟨B, 3, none⟩ = some (.bool neg))
    ((go_split_ands
      refine ⟨?_, ?_, ?_, ?_, ?_, ?_⟩
      · (first | assumption | exact Below.drew (by assumption) | exact below_two (by assumption) hbx | exact below_two (Below.drew (by assumption)) hbx)
      · (first | assumption | (have := hbx.size; omega) | (have := hbx.size; simp at this; omega))
      · (first | assumption | exact (hbx.cell (by assumption)).trans (by assumption))
      · (first | assumption | exact (hbx.cell (by assumption)).trans (by assumption))
      · (first | assumption | exact (hbx.cell (by assumption)).trans (by assumption))
      · (first | assumption | exact (hbx.cell (by assumption)).trans (by assumption))))
    (first
      | (go_at_call 48; refine (modes_any _).mono ?_; rintro e wx ⟨rfl, hbx⟩)
      | (go_at_call 69; refine (m2_any _ _ q r d neg rfl).mono ?_; rintro e wx ⟨rfl, hbx⟩)
      | (go_at_call 47; refine (rounded_any _ _ _ _ _ _ (by assumption) (by omega)).mono ?_; rintro e wx ⟨rfl, hbx⟩))
  go_wp2
  go_ret
  exact ⟨ret_int F.out.symm, (show Below w.heap.size w _ ∧ B < _ ∧ _ from by assumption).1⟩
set_option maxRecDepth 100000 in
set_option maxHeartbeats 4000000 in
theorem round_m3 (num den : Int) (w : World) (h1 : -1000000000000000000 ≤ num) (h2 : num ≤ 1000000000000000000) (h3 : -1000000000000000000 ≤ den) (h4 : den ≤ 1000000000000000000) (h5 : den ≠ 0) :
    Calls Tryd.prog 29 #[.int .i64 num, .int .i64 den, .int .i64 3] w fun e w' => e = .returned (.int .i64 (rdI num den 3)) ∧ Below w.heap.size w w' := by
  obtain ⟨a1, a2⟩ := absI_bd (n := num) ⟨h1, h2⟩
  obtain ⟨b1, b2⟩ := absI_bd (n := den) ⟨h3, h4⟩
  obtain ⟨q1, q2, q3, q4, q5⟩ := qr_bd (num := num) h5
  have F := Lib.hid (show rdI num den 3 = rounded (qu num den) (re num den) (ngB num den) (more 3 (ngB num den) (qu num den) (re num den) (absI den)) from rfl)
  have hix : ∀ w, (Instr.index 64 (.agg #[.func (.func 66) #[] #[], .func (.func 68) #[] #[], .func (.func 69) #[] #[], .func (.func 70) #[] #[], .func (.func 71) #[] #[], .func (.func 72) #[] #[]]) (.int .i64 3)).run Tryd.prog w = .ok (.func (.func 70) #[] #[]) w := fun _ => by kernel_rfl
  go_enter Tryd.func29, Tryd.ntmps29
  go_wp2_with fail
  refine (newQuotient_any _ _ _ h1 h2 h3 h4 h5).mono ?_
  rintro e w1 ⟨rfl, hb⟩
  generalize qu num den = q at *
  generalize re num den = r at *
  generalize ngB num den = neg at *
  generalize absI den = d at *
  clear h5
  go_wp2_with fail
  have hs0 : Below w.heap.size w (w1.alloc (.cells #[.int .i64 q, .int .i64 r, .int .i64 d, .bool neg] 60)) := hb.alloc hb.size _
  have hs1 : w1.heap.size < (w1.alloc (.cells #[.int .i64 q, .int .i64 r, .int .i64 d, .bool neg] 60)).heap.size := by simp
  have hs2 : (w1.alloc (.cells #[.int .i64 q, .int .i64 r, .int .i64 d, .bool neg] 60)).cell? ⟨w1.heap.size, 0, none⟩ = some (.int .i64 q) := by simp [go_sem]
  have hs3 : (w1.alloc (.cells #[.int .i64 q, .int .i64 r, .int .i64 d, .bool neg] 60)).cell? ⟨w1.heap.size, 1, none⟩ = some (.int .i64 r) := by simp [go_sem]
  have hs4 : (w1.alloc (.cells #[.int .i64 q, .int .i64 r, .int .i64 d, .bool neg] 60)).cell? ⟨w1.heap.size, 2, none⟩ = some (.int .i64 d) := by simp [go_sem]
  have hs5 : (w1.alloc (.cells #[.int .i64 q, .int .i64 r, .int .i64 d, .bool neg] 60)).cell? ⟨w1.heap.size, 3, none⟩ = some (.bool neg) := by simp [go_sem]
  generalize w1.alloc (.cells #[.int .i64 q, .int .i64 r, .int .i64 d, .bool neg] 60) = wz at *
  generalize w1.heap.size = B at *
  clear hb
  go_region_held3 (fun w' => Below w.heap.size w w' ∧ B < w'.heap.size ∧ w'.cell? ⟨B, 0, none⟩ = some (.int .i64 q) ∧ w'.cell? ⟨B, 1, none⟩ = some (.int .i64 r) ∧ w'.cell? ⟨B, 2, none⟩ = some (.int .i64 d) ∧ w'.cell? ⟨B, 3, none⟩ = some (.bool neg))
    ((go_split_ands
      refine ⟨?_, ?_, ?_, ?_, ?_, ?_⟩
      · (first | assumption | exact Below.drew (by assumption) | exact below_two (by assumption) hbx | exact below_two (Below.drew (by assumption)) hbx)
      · (first | assumption | (have := hbx.size; omega) | (have := hbx.size; simp at this; omega))
      · (first | assumption | exact (hbx.cell (by assumption)).trans (by assumption))
      · (first | assumption | exact (hbx.cell (by assumption)).trans (by assumption))
      · (first | assumption | exact (hbx.cell (by assumption)).trans (by assumption))
      · (first | assumption | exact (hbx.cell (by assumption)).trans (by assumption))))
    (first
      | (go_at_call 48; refine (modes_any _).mono ?_; rintro e wx ⟨rfl, hbx⟩)
      | (go_at_call 70; refine (m3_any _ _ q r d neg rfl).mono ?_; rintro e wx ⟨rfl, hbx⟩)
      | (go_at_call 47; refine (rounded_any _ _ _ _ _ _ (by assumption) (by omega)).mono ?_; rintro e wx ⟨rfl, hbx⟩))
  go_wp2
  go_ret
  exact ⟨ret_int F.out.symm, (show Below w.heap.size w _ ∧ B < _ ∧ _ from by assumption).1⟩
set_option maxRecDepth 100000 in
set_option maxHeartbeats 4000000 in
theorem round_m4 (num den : Int) (w : World) (h1 : -1000000000000000000 ≤ num) (h2 : num ≤ 1000000000000000000) (h3 : -1000000000000000000 ≤ den) (h4 : den ≤ 1000000000000000000) (h5 : den ≠ 0) :
    Calls Tryd.prog 29 #[.int .i64 num, .int .i64 den, .int .i64 4] w fun e w' => e = .returned (.int .i64 (rdI num den 4)) ∧ Below w.heap.size w w' := by
  obtain ⟨a1, a2⟩ := absI_bd (n := num) ⟨h1, h2⟩
  obtain ⟨b1, b2⟩ := absI_bd (n := den) ⟨h3, h4⟩
  obtain ⟨q1, q2, q3, q4, q5⟩ := qr_bd (num := num) h5
  have F := Lib.hid (show rdI num den 4 = rounded (qu num den) (re num den) (ngB num den) (more 4 (ngB num den) (qu num den) (re num den) (absI den)) from rfl)
  have hix : ∀ w, (Instr.index 64 (.agg #[.func (.func 66) #[] #[], .func (.func 68) #[] #[], .func (.func 69) #[] #[], .func (.func 70) #[] #[], .func (.func 71) #[] #[], .func (.func 72) #[] #[]]) (.int .i64 4)).run Tryd.prog w = .ok (.func (.func 71) #[] #[]) w := fun _ => by kernel_rfl
  go_enter Tryd.func29, Tryd.ntmps29
  go_wp2_with fail
  refine (newQuotient_any _ _ _ h1 h2 h3 h4 h5).mono ?_
  rintro e w1 ⟨rfl, hb⟩
  generalize qu num den = q at *
  generalize re num den = r at *
  generalize ngB num den = neg at *
  generalize absI den = d at *
  clear h5
  go_wp2_with fail
  have hs0 : Below w.heap.size w (w1.alloc (.cells #[.int .i64 q, .int .i64 r, .int .i64 d, .bool neg] 60)) := hb.alloc hb.size _
  have hs1 : w1.heap.size < (w1.alloc (.cells #[.int .i64 q, .int .i64 r, .int .i64 d, .bool neg] 60)).heap.size := by simp
  have hs2 : (w1.alloc (.cells #[.int .i64 q, .int .i64 r, .int .i64 d, .bool neg] 60)).cell? ⟨w1.heap.size, 0, none⟩ = some (.int .i64 q) := by simp [go_sem]
  have hs3 : (w1.alloc (.cells #[.int .i64 q, .int .i64 r, .int .i64 d, .bool neg] 60)).cell? ⟨w1.heap.size, 1, none⟩ = some (.int .i64 r) := by simp [go_sem]
  have hs4 : (w1.alloc (.cells #[.int .i64 q, .int .i64 r, .int .i64 d, .bool neg] 60)).cell? ⟨w1.heap.size, 2, none⟩ = some (.int .i64 d) := by simp [go_sem]
  have hs5 : (w1.alloc (.cells #[.int .i64 q, .int .i64 r, .int .i64 d, .bool neg] 60)).cell? ⟨w1.heap.size, 3, none⟩ = some (.bool neg) := by simp [go_sem]
  generalize w1.alloc (.cells #[.int .i64 q, .int .i64 r, .int .i64 d, .bool neg] 60) = wz at *
  generalize w1.heap.size = B at *
  clear hb
  go_region_held3 (fun w' => Below w.heap.size w w' ∧ B < w'.heap.size ∧ w'.cell? ⟨B, 0, none⟩ = some (.int .i64 q) ∧ w'.cell? ⟨B, 1, none⟩ = some (.int .i64 r) ∧ w'.cell? ⟨B, 2, none⟩ = some (.int .i64 d) ∧ w'.cell? ⟨B, 3, none⟩ = some (.bool neg))
    ((go_split_ands
      refine ⟨?_, ?_, ?_, ?_, ?_, ?_⟩
      · (first | assumption | exact Below.drew (by assumption) | exact below_two (by assumption) hbx | exact below_two (Below.drew (by assumption)) hbx)
      · (first | assumption | (have := hbx.size; omega) | (have := hbx.size; simp at this; omega))
      · (first | assumption | exact (hbx.cell (by assumption)).trans (by assumption))
      · (first | assumption | exact (hbx.cell (by assumption)).trans (by assumption))
      · (first | assumption | exact (hbx.cell (by assumption)).trans (by assumption))
      · (first | assumption | exact (hbx.cell (by assumption)).trans (by assumption))))
    (first
      | (go_at_call 48; refine (modes_any _).mono ?_; rintro e wx ⟨rfl, hbx⟩)
      | (go_at_call 71; refine (m4_any _ _ q r d neg rfl).mono ?_; rintro e wx ⟨rfl, hbx⟩)
      | (go_at_call 47; refine (rounded_any _ _ _ _ _ _ (by assumption) (by omega)).mono ?_; rintro e wx ⟨rfl, hbx⟩))
  go_wp2
  go_ret
  exact ⟨ret_int F.out.symm, (show Below w.heap.size w _ ∧ B < _ ∧ _ from by assumption).1⟩
set_option maxRecDepth 100000 in
set_option maxHeartbeats 4000000 in
theorem round_m5 (num den : Int) (w : World) (h1 : -1000000000000000000 ≤ num) (h2 : num ≤ 1000000000000000000) (h3 : -1000000000000000000 ≤ den) (h4 : den ≤ 1000000000000000000) (h5 : den ≠ 0) :
    Calls Tryd.prog 29 #[.int .i64 num, .int .i64 den, .int .i64 5] w fun e w' => e = .returned (.int .i64 (rdI num den 5)) ∧ Below w.heap.size w w' := by
  obtain ⟨a1, a2⟩ := absI_bd (n := num) ⟨h1, h2⟩
  obtain ⟨b1, b2⟩ := absI_bd (n := den) ⟨h3, h4⟩
  obtain ⟨q1, q2, q3, q4, q5⟩ := qr_bd (num := num) h5
  have F := Lib.hid (show rdI num den 5 = rounded (qu num den) (re num den) (ngB num den) (more 5 (ngB num den) (qu num den) (re num den) (absI den)) from rfl)
  have hix : ∀ w, (Instr.index 64 (.agg #[.func (.func 66) #[] #[], .func (.func 68) #[] #[], .func (.func 69) #[] #[], .func (.func 70) #[] #[], .func (.func 71) #[] #[], .func (.func 72) #[] #[]]) (.int .i64 5)).run Tryd.prog w = .ok (.func (.func 72) #[] #[]) w := fun _ => by kernel_rfl
  go_enter Tryd.func29, Tryd.ntmps29
  go_wp2_with fail
  refine (newQuotient_any _ _ _ h1 h2 h3 h4 h5).mono ?_
  rintro e w1 ⟨rfl, hb⟩
  generalize qu num den = q at *
  generalize re num den = r at *
  generalize ngB num den = neg at *
  generalize absI den = d at *
  clear h5
  go_wp2_with fail
  have hs0 : Below w.heap.size w (w1.alloc (.cells #[.int .i64 q, .int .i64 r, .int .i64 d, .bool neg] 60)) := hb.alloc hb.size _
  have hs1 : w1.heap.size < (w1.alloc (.cells #[.int .i64 q, .int .i64 r, .int .i64 d, .bool neg] 60)).heap.size := by simp
  have hs2 : (w1.alloc (.cells #[.int .i64 q, .int .i64 r, .int .i64 d, .bool neg] 60)).cell? ⟨w1.heap.size, 0, none⟩ = some (.int .i64 q) := by simp [go_sem]
  have hs3 : (w1.alloc (.cells #[.int .i64 q, .int .i64 r, .int .i64 d, .bool neg] 60)).cell? ⟨w1.heap.size, 1, none⟩ = some (.int .i64 r) := by simp [go_sem]
  have hs4 : (w1.alloc (.cells #[.int .i64 q, .int .i64 r, .int .i64 d, .bool neg] 60)).cell? ⟨w1.heap.size, 2, none⟩ = some (.int .i64 d) := by simp [go_sem]
  have hs5 : (w1.alloc (.cells #[.int .i64 q, .int .i64 r, .int .i64 d, .bool neg] 60)).cell? ⟨w1.heap.size, 3, none⟩ = some (.bool neg) := by simp [go_sem]
  generalize w1.alloc (.cells #[.int .i64 q, .int .i64 r, .int .i64 d, .bool neg] 60) = wz at *
  generalize w1.heap.size = B at *
  clear hb
  go_region_held3 (fun w' => Below w.heap.size w w' ∧ B < w'.heap.size ∧ w'.cell? ⟨B, 0, none⟩ = some (.int .i64 q) ∧ w'.cell? ⟨B, 1, none⟩ = some (.int .i64 r) ∧ w'.cell? ⟨B, 2, none⟩ = some (.int .i64 d) ∧ w'.cell? ⟨B, 3, none⟩ = some (.bool neg))
    ((go_split_ands
      refine ⟨?_, ?_, ?_, ?_, ?_, ?_⟩
      · (first | assumption | exact Below.drew (by assumption) | exact below_two (by assumption) hbx | exact below_two (Below.drew (by assumption)) hbx)
      · (first | assumption | (have := hbx.size; omega) | (have := hbx.size; simp at this; omega))
      · (first | assumption | exact (hbx.cell (by assumption)).trans (by assumption))
      · (first | assumption | exact (hbx.cell (by assumption)).trans (by assumption))
      · (first | assumption | exact (hbx.cell (by assumption)).trans (by assumption))
      · (first | assumption | exact (hbx.cell (by assumption)).trans (by assumption))))
    (first
      | (go_at_call 48; refine (modes_any _).mono ?_; rintro e wx ⟨rfl, hbx⟩)
      | (go_at_call 72; refine (m5_any _ _ q r d neg rfl).mono ?_; rintro e wx ⟨rfl, hbx⟩)
      | (go_at_call 47; refine (rounded_any _ _ _ _ _ _ (by assumption) (by omega)).mono ?_; rintro e wx ⟨rfl, hbx⟩))
  go_wp2
  go_ret
  exact ⟨ret_int F.out.symm, (show Below w.heap.size w _ ∧ B < _ ∧ _ from by assumption).1⟩
theorem round_any (num den mode : Int) (w : World) (h1 : -1000000000000000000 ≤ num) (h2 : num ≤ 1000000000000000000) (h3 : -1000000000000000000 ≤ den) (h4 : den ≤ 1000000000000000000) (h5 : den ≠ 0) (h6 : 0 ≤ mode) (h7 : mode ≤ 5) :
    Calls Tryd.prog 29 #[.int .i64 num, .int .i64 den, .int .i64 mode] w fun e w' => e = .returned (.int .i64 (rdI num den mode)) ∧ Below w.heap.size w w' := by
  obtain h | h | h | h | h | h : mode = 0 ∨ mode = 1 ∨ mode = 2 ∨ mode = 3 ∨ mode = 4 ∨ mode = 5 := by omega
  · subst h; exact round_m0 num den w h1 h2 h3 h4 h5
  · subst h; exact round_m1 num den w h1 h2 h3 h4 h5
  · subst h; exact round_m2 num den w h1 h2 h3 h4 h5
  · subst h; exact round_m3 num den w h1 h2 h3 h4 h5
  · subst h; exact round_m4 num den w h1 h2 h3 h4 h5
  · subst h; exact round_m5 num den w h1 h2 h3 h4 h5
end Go.Proofs.YtklpeibmjiolhaaDoor
