/-
  The laws ReportText and ReportSum.
-/
import Derived.Test.YtenlbjobjnpghaaDoorRep13
import Derived.Test.YtenlbjobjnpghaaDoorRep14
import Derived.Test.YtenlbjobjnpghaaDoorRep11
namespace Go.Proofs.YtenlbjobjnpghaaDoor
open Go.RowKit
set_option linter.unusedVariables false
theorem fewL_nil {rs : List SRow} : fewL [] rs = fewB rs := by unfold fewL; simp
theorem few_names {xs : List SLine} (h : fewB (rowsOf xs) = true) : (∀ x ∈ xs, x.row.name.length ≤ 3000) ∧ xs.length ≤ 310 := by
  obtain ⟨h1, h2⟩ := fewB_iff.1 h
  refine ⟨fun x hx => ?_, by rwa [rowsOf_len] at h2⟩
  have := h1 x.row (List.mem_map.2 ⟨x, hx, rfl⟩)
  omega
set_option maxRecDepth 100000 in
set_option maxHeartbeats 4000000 in
theorem lawText (xs : List SLine) (A : Option Addr) (n c : Nat) (w : World) (hE : Env w) (hr : Reads w w.heap.size 6 A n (linesCells xs)) (hn : n * 56 ≤ 140737488351232) :
    Calls Tryd.prog 4 #[.slice A n c] w fun e w' => e = .returned (.bool true) ∧ Below w.heap.size w w' := by
  have HR := Lib.hid hr
  have HL := Lib.hid (lines_len hr)
  clear hr
  cases hf : fewB (rowsOf xs)
  · have HF := Lib.hid hf
    clear hf
    go_enter Tryd.func4, Tryd.ntmps4
    go_wp2_with fail
    refine (awake_true _ hE).mono ?_
    rintro e w1 ⟨rfl, hb1⟩
    go_wp2_with fail
    refine (rRows_any xs A n c w.heap.size _ (HR.out.below hb1) hb1.size (by omega)).mono ?_
    rintro e w2 ⟨v, rfl, hown, hb2⟩
    obtain ⟨A1, c1, rfl⟩ := own_slice hown
    have HRW := Lib.hid (Reads.of_own hown)
    have hb12 := below_two hb1 hb2
    clear hown
    go_wp2_with fail
    refine (fewL_any [] (rowsOf xs) none A1 0 0 xs.length c1 _ w2 Reads.none_ HRW.out (by omega) (by have := HL.out; omega)).mono ?_
    rintro e wx ⟨rfl, rfl⟩
    rw [fewL_nil, HF.out]
    go_wp2_with fail
    refine (awake_true _ (hE.after hb12)).mono ?_
    rintro e w3 ⟨rfl, hb3⟩
    go_wp2_with fail
    go_ret
    exact ⟨rfl, below_two hb12 hb3⟩
  · have HF := Lib.hid hf
    obtain ⟨hnm, h310⟩ := few_names hf
    have HNM := Lib.hid hnm
    have hn310 : n ≤ 310 := by have := HL.out; omega
    clear hf hnm h310
    go_enter Tryd.func4, Tryd.ntmps4
    go_wp2_with fail
    refine (awake_true _ hE).mono ?_
    rintro e w1 ⟨rfl, hb1⟩
    go_wp2_with fail
    refine (rRows_any xs A n c w.heap.size _ (HR.out.below hb1) hb1.size (by omega)).mono ?_
    rintro e w2 ⟨v, rfl, hown, hb2⟩
    obtain ⟨A1, c1, rfl⟩ := own_slice hown
    have HRW := Lib.hid (Reads.of_own hown)
    have hb12 := below_two hb1 hb2
    clear hown hb1 hb2
    go_wp2_with fail
    refine (fewL_any [] (rowsOf xs) none A1 0 0 xs.length c1 _ w2 Reads.none_ HRW.out (by omega) (by have := HL.out; omega)).mono ?_
    rintro e wx ⟨rfl, rfl⟩
    rw [fewL_nil, HF.out]
    go_wp2_with fail
    refine (to_any xs A n c w.heap.size _ (HR.out.below hb12) hb12.size (by omega)).mono ?_
    rintro e w3 ⟨v, rfl, hown, hb3⟩
    obtain ⟨A2, c2, rfl⟩ := own_slice hown
    have HR2 := Lib.hid (Reads.of_own hown)
    have hb13 := below_two hb12 hb3
    have hol : xs.length ≤ 10000 := by have := HL.out; omega
    clear hown hb12 hb3
    go_wp2_with fail
    refine (rtext_any xs A2 xs.length c2 _ w3 (hE.after hb13) HR2.out (Nat.le_refl _) hol HNM.out).mono ?_
    rintro e w4 ⟨rfl, hb4⟩
    have hb14 := below_two hb13 hb4
    clear hb13 hb4
    go_wp2_with fail
    refine (refText_any xs A n c w.heap.size w4 (HR.out.below hb14) hb14.size (by omega) HNM.out).mono ?_
    rintro e w5 ⟨rfl, hb5⟩
    have hb15 := below_two hb14 hb5
    clear hb14 hb5
    generalize rtS xs = S at *
    generalize rtE xs = E at *
    have q1 : (S == S) = true := by simp
    have q2 : (E == E) = true := by simp
    go_wp2_with fail
    go_ret
    exact ⟨rfl, hb15⟩
set_option maxRecDepth 100000 in
set_option maxHeartbeats 4000000 in
theorem lawSum (xs : List SLine) (A : Option Addr) (n c : Nat) (i : Int) (w : World) (hE : Env w) (hr : Reads w w.heap.size 6 A n (linesCells xs)) (hn : n * 56 ≤ 140737488351232) :
    Calls Tryd.prog 8 #[.slice A n c, .int .i64 i] w fun e w' => e = .returned (.bool true) ∧ Below w.heap.size w w' := by
  have HR := Lib.hid hr
  have HL := Lib.hid (lines_len hr)
  clear hr
  cases hf : fewB (rowsOf xs)
  · have HF := Lib.hid hf
    clear hf
    go_enter Tryd.func8, Tryd.ntmps8
    go_wp2_with fail
    refine (awake_true _ hE).mono ?_
    rintro e w1 ⟨rfl, hb1⟩
    go_wp2_with fail
    refine (rRows_any xs A n c w.heap.size _ (HR.out.below hb1) hb1.size (by omega)).mono ?_
    rintro e w2 ⟨v, rfl, hown, hb2⟩
    obtain ⟨A1, c1, rfl⟩ := own_slice hown
    have HRW := Lib.hid (Reads.of_own hown)
    have hb12 := below_two hb1 hb2
    clear hown
    go_wp2_with fail
    refine (fewL_any [] (rowsOf xs) none A1 0 0 xs.length c1 _ w2 Reads.none_ HRW.out (by omega) (by have := HL.out; omega)).mono ?_
    rintro e wx ⟨rfl, rfl⟩
    rw [fewL_nil, HF.out]
    go_wp2_with fail
    refine (awake_true _ (hE.after hb12)).mono ?_
    rintro e w3 ⟨rfl, hb3⟩
    go_wp2_with fail
    go_ret
    exact ⟨rfl, below_two hb12 hb3⟩
  · have HF := Lib.hid hf
    obtain ⟨hnm, h310⟩ := few_names hf
    have HNM := Lib.hid hnm
    have hn310 : n ≤ 310 := by have := HL.out; omega
    clear hf hnm h310
    go_enter Tryd.func8, Tryd.ntmps8
    go_wp2_with fail
    refine (awake_true _ hE).mono ?_
    rintro e w1 ⟨rfl, hb1⟩
    go_wp2_with fail
    refine (rRows_any xs A n c w.heap.size _ (HR.out.below hb1) hb1.size (by omega)).mono ?_
    rintro e w2 ⟨v, rfl, hown, hb2⟩
    obtain ⟨A1, c1, rfl⟩ := own_slice hown
    have HRW := Lib.hid (Reads.of_own hown)
    have hb12 := below_two hb1 hb2
    clear hown hb1 hb2
    go_wp2_with fail
    refine (fewL_any [] (rowsOf xs) none A1 0 0 xs.length c1 _ w2 Reads.none_ HRW.out (by omega) (by have := HL.out; omega)).mono ?_
    rintro e wx ⟨rfl, rfl⟩
    rw [fewL_nil, HF.out]
    go_wp2_with fail
    refine (to_any xs A n c w.heap.size _ (HR.out.below hb12) hb12.size (by omega)).mono ?_
    rintro e w3 ⟨v, rfl, hown, hb3⟩
    obtain ⟨A2, c2, rfl⟩ := own_slice hown
    have HR2 := Lib.hid (Reads.of_own hown)
    have hb13 := below_two hb12 hb3
    have hol : xs.length ≤ 10000 := by have := HL.out; omega
    clear hown hb12 hb3
    go_wp2_with fail
    refine (sum_any xs A2 xs.length c2 _ i w3 HR2.out (Nat.le_refl _) hol HNM.out).mono ?_
    rintro e w4 ⟨rfl, hb4⟩
    have hb14 := below_two hb13 hb4
    clear hb13 hb4
    go_wp2_with fail
    refine (refSum_any xs A n c w.heap.size i w4 (HR.out.below hb14) hb14.size (by omega) HNM.out).mono ?_
    rintro e w5 ⟨rfl, hb5⟩
    have hb15 := below_two hb14 hb5
    clear hb14 hb5
    generalize suN xs i = S at *
    generalize suE xs i = E at *
    have q1 : (S == S) = true := by simp
    have q2 : (E == E) = true := by simp
    go_wp2_with fail
    go_ret
    exact ⟨rfl, hb15⟩
end Go.Proofs.YtenlbjobjnpghaaDoor
