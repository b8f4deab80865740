/-
  awake of the report's laws.
-/
import Derived.Test.YtcmmppkmkejniaaGreatDoorSrRep10
import Derived.Test.YtcmmppkmkejniaaGreatDoorSgW7
namespace Go.Proofs.YtcmmppkmkejniaaGreatDoor
open Go.RowKit
set_option linter.unusedVariables false
def aqBs : List SBal := [⟨1010, 1250⟩, ⟨2000, -1250⟩]
def aqRs : List SRow := [⟨[65, 115, 115, 101, 116, 115], 0, 1, 0, false⟩, ⟨[67, 97, 115, 104], 1, 1000, 1099, false⟩]
theorem aq_mkE : mkE aqBs aqRs = 0 := by kernel_rfl
theorem aq_txt : rtS (mkL aqBs aqRs) = [65, 115, 115, 101, 116, 115, 10, 32, 32, 67, 97, 115, 104, 32, 49, 50, 46, 53, 48, 10] := by kernel_rfl
theorem aq_txE : rtE (mkL aqBs aqRs) = 0 := by kernel_rfl
theorem aq_len : (mkL aqBs aqRs).length = 2 := by kernel_rfl
theorem aq_nm : ∀ x ∈ mkL aqBs aqRs, x.row.name.length ≤ 3000 := by
  have h : (mkL aqBs aqRs).all (fun x => decide (x.row.name.length ≤ 3000)) = true := by kernel_rfl
  intro x hx
  exact of_decide_eq_true (List.all_eq_true.1 h x hx)
def aq1 (w : World) : World := w.alloc (.cells #[.int .i64 1010, .int .i64 1250, .int .i64 2000, .int .i64 (-1250)] 47)
def aq2 (w : World) : World := (aq1 w).alloc (.cells #[.int .i64 0, .slice none 0 0, .slice none 0 0, .slice (some ⟨w.heap.size, 0, none⟩) 2 2] 55)
def aq3 (w : World) : World := (aq2 w).alloc (.cells #[.string ⟨#[65, 115, 115, 101, 116, 115]⟩, .int .i64 0, .int .i64 1, .int .i64 0, .bool false, .string ⟨#[67, 97, 115, 104]⟩, .int .i64 1, .int .i64 1000, .int .i64 1099, .bool false] 39)
theorem aq_below (w : World) : Below w.heap.size w (aq3 w) := by
  unfold aq3 aq2 aq1
  exact (((Below.refl _ _).alloc (Nat.le_refl _) _).alloc (by simp) _).alloc (by simp; omega) _
theorem aq_size (w : World) : (aq3 w).heap.size = w.heap.size + 3 := by simp [aq3, aq2, aq1]
theorem aq_bals (w : World) : Reads (aq3 w) (w.heap.size + 3) 2 (some ⟨w.heap.size, 0, none⟩) 2 (balsCells aqBs) := by
  have h := reads_many w #[.int .i64 1010, .int .i64 1250, .int .i64 2000, .int .i64 (-1250)] 47 2 2 rfl
  have h2 : Reads (aq3 w) (w.heap.size + 1) 2 (some ⟨w.heap.size, 0, none⟩) 2 (balsCells aqBs) := by
    unfold aq3 aq2 aq1
    exact Reads.alloc (Reads.alloc h (by simp) _) (by simp) _
  exact h2.more (by omega)
theorem aq_rows (w : World) : Reads (aq3 w) (w.heap.size + 3) 5 (some ⟨w.heap.size + 2, 0, none⟩) 2 (rowsCells aqRs) := by
  have h := reads_many (aq2 w) #[.string ⟨#[65, 115, 115, 101, 116, 115]⟩, .int .i64 0, .int .i64 1, .int .i64 0, .bool false, .string ⟨#[67, 97, 115, 104]⟩, .int .i64 1, .int .i64 1000, .int .i64 1099, .bool false] 39 5 2 rfl
  have e : (aq2 w).heap.size = w.heap.size + 2 := by simp [aq2, aq1]
  rw [e] at h
  exact h
set_option maxRecDepth 100000 in
set_option maxHeartbeats 4000000 in
theorem awake51_true (w : World) (hE : Env w) : Calls Tryz.prog 17 #[] w fun e w' => e = .returned (.bool true) ∧ Below w.heap.size w w' := by
  have HA := Lib.hid (aq_below w)
  have HM := Lib.hid (make_any aqBs aqRs (some ⟨w.heap.size, 0, none⟩) (some ⟨w.heap.size + 2, 0, none⟩) 2 2 2 2 (w.heap.size + 3) (aq3 w) (aq_bals w) (aq_rows w) (by rw [aq_size]; omega) (by omega) (by intro b hb; simp [aqBs] at hb; rcases hb with rfl | rfl <;> simp) (by omega) (by omega) (by intro r hr; simp [aqRs] at hr; rcases hr with rfl | rfl <;> simp))
  unfold resV aq3 aq2 aq1 at HM
  unfold aq3 aq2 aq1 at HA
  go_enter Tryz.func17, Tryz.ntmps17
  go_wp2_with fail
  refine HM.out.mono ?_
  rintro e w1 ⟨v, rfl, hown, hb1⟩
  have hb2 := below_two HA.out hb1
  rw [aq_mkE]
  rw [aq_len] at hown
  obtain ⟨A1, c1, rfl⟩ := own_slice hown
  have HT := Lib.hid (rtext_any (mkL aqBs aqRs) A1 2 c1 w1.heap.size w1 (hE.after hb2) (Reads.of_own hown) (Nat.le_refl _) (by omega) aq_nm)
  rw [aq_txt, aq_txE] at HT
  clear hown hb1
  go_wp2_with fail
  refine HT.out.mono ?_
  rintro e w3 ⟨rfl, hb3⟩
  go_wp2_with fail
  go_ret
  exact ⟨rfl, below_two hb2 hb3⟩
end Go.Proofs.YtcmmppkmkejniaaGreatDoor
