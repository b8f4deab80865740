/-
  awake; the law ReportMake.
-/
import Derived.Test.YtenlbjobjnpghaaDoorRep10
import Derived.Test.YtenlbjobjnpghaaDoorRep4
import Derived.Test.YtenlbjobjnpghaaDoorRep6
namespace Go.Proofs.YtenlbjobjnpghaaDoor
open Go.RowKit
set_option linter.unusedVariables false
theorem reads_many (w : World) (cs : Array Value) (T : TypeId) (size n : Nat) (h : cs.size = n * size) : Reads (w.alloc (.cells cs T)) (w.heap.size + 1) size (some ⟨w.heap.size, 0, none⟩) n cs.toList := by
  refine ⟨by simpa using h, fun _ => ⟨_, rfl, Nat.lt_succ_self _, fun j u hj => ?_⟩⟩
  have hb := Blk.new w T cs
  have e : (⟨w.heap.size, 0, none⟩ : Addr).add j = ⟨w.heap.size, j, none⟩ := by unfold Addr.add; split <;> simp_all
  rw [e, hb.cell j, ← hj]
  simp
def awBs : List SBal := [⟨1010, 1250⟩, ⟨2000, -1250⟩]
def awRs : List SRow := [⟨[65, 115, 115, 101, 116, 115], 0, 1, 0, false⟩, ⟨[67, 97, 115, 104], 1, 1000, 1099, false⟩]
theorem aw_mkE : mkE awBs awRs = 0 := by kernel_rfl
theorem aw_txt : rtS (mkL awBs awRs) = [65, 115, 115, 101, 116, 115, 10, 32, 32, 67, 97, 115, 104, 32, 49, 50, 46, 53, 48, 10] := by kernel_rfl
theorem aw_txE : rtE (mkL awBs awRs) = 0 := by kernel_rfl
theorem aw_len : (mkL awBs awRs).length = 2 := by kernel_rfl
theorem aw_nm : ∀ x ∈ mkL awBs awRs, x.row.name.length ≤ 3000 := by
  have h : (mkL awBs awRs).all (fun x => decide (x.row.name.length ≤ 3000)) = true := by kernel_rfl
  intro x hx
  exact of_decide_eq_true (List.all_eq_true.1 h x hx)
def aw1 (w : World) : World := w.alloc (.cells #[.int .i64 1010, .int .i64 1250, .int .i64 2000, .int .i64 (-1250)] 57)
def aw2 (w : World) : World := (aw1 w).alloc (.cells #[.int .i64 0, .slice none 0 0, .slice none 0 0, .slice (some ⟨w.heap.size, 0, none⟩) 2 2] 33)
def aw3 (w : World) : World := (aw2 w).alloc (.cells #[.string ⟨#[65, 115, 115, 101, 116, 115]⟩, .int .i64 0, .int .i64 1, .int .i64 0, .bool false, .string ⟨#[67, 97, 115, 104]⟩, .int .i64 1, .int .i64 1000, .int .i64 1099, .bool false] 46)
theorem aw_below (w : World) : Below w.heap.size w (aw3 w) := by
  unfold aw3 aw2 aw1
  exact (((Below.refl _ _).alloc (Nat.le_refl _) _).alloc (by simp) _).alloc (by simp; omega) _
theorem aw_size (w : World) : (aw3 w).heap.size = w.heap.size + 3 := by simp [aw3, aw2, aw1]
theorem aw_bals (w : World) : Reads (aw3 w) (w.heap.size + 3) 2 (some ⟨w.heap.size, 0, none⟩) 2 (balsCells awBs) := by
  have h := reads_many w #[.int .i64 1010, .int .i64 1250, .int .i64 2000, .int .i64 (-1250)] 57 2 2 rfl
  have h2 : Reads (aw3 w) (w.heap.size + 1) 2 (some ⟨w.heap.size, 0, none⟩) 2 (balsCells awBs) := by
    unfold aw3 aw2 aw1
    exact Reads.alloc (Reads.alloc h (by simp) _) (by simp) _
  exact h2.more (by omega)
theorem aw_rows (w : World) : Reads (aw3 w) (w.heap.size + 3) 5 (some ⟨w.heap.size + 2, 0, none⟩) 2 (rowsCells awRs) := by
  have h := reads_many (aw2 w) #[.string ⟨#[65, 115, 115, 101, 116, 115]⟩, .int .i64 0, .int .i64 1, .int .i64 0, .bool false, .string ⟨#[67, 97, 115, 104]⟩, .int .i64 1, .int .i64 1000, .int .i64 1099, .bool false] 46 5 2 rfl
  have e : (aw2 w).heap.size = w.heap.size + 2 := by simp [aw2, aw1]
  rw [e] at h
  exact h
set_option maxRecDepth 100000 in
set_option maxHeartbeats 4000000 in
theorem awake_true (w : World) (hE : Env w) : Calls Tryd.prog 9 #[] w fun e w' => e = .returned (.bool true) ∧ Below w.heap.size w w' := by
  have HA := Lib.hid (aw_below w)
  have HM := Lib.hid (make_any awBs awRs (some ⟨w.heap.size, 0, none⟩) (some ⟨w.heap.size + 2, 0, none⟩) 2 2 2 2 (w.heap.size + 3) (aw3 w) (aw_bals w) (aw_rows w) (by rw [aw_size]; omega) (by omega) (by intro b hb; simp [awBs] at hb; rcases hb with rfl | rfl <;> simp) (by omega) (by omega) (by intro r hr; simp [awRs] at hr; rcases hr with rfl | rfl <;> simp))
  unfold resV aw3 aw2 aw1 at HM
  unfold aw3 aw2 aw1 at HA
  go_enter Tryd.func9, Tryd.ntmps9
  go_wp2_with fail
  refine HM.out.mono ?_
  rintro e w1 ⟨v, rfl, hown, hb1⟩
  have hb2 := below_two HA.out hb1
  rw [aw_mkE]
  rw [aw_len] at hown
  obtain ⟨A1, c1, rfl⟩ := own_slice hown
  have HT := Lib.hid (rtext_any (mkL awBs awRs) A1 2 c1 w1.heap.size w1 (hE.after hb2) (Reads.of_own hown) (Nat.le_refl _) (by omega) aw_nm)
  rw [aw_txt, aw_txE] at HT
  clear hown hb1
  go_wp2_with fail
  refine HT.out.mono ?_
  rintro e w3 ⟨rfl, hb3⟩
  go_wp2_with fail
  go_ret
  exact ⟨rfl, below_two hb2 hb3⟩
theorem mkL_len {bs : List SBal} {rs : List SRow} {n : Nat} (h : rs.length = n) : (mkL bs rs).length ≤ n := by
  unfold mkL; split <;> simp <;> omega
set_option maxRecDepth 100000 in
set_option maxHeartbeats 4000000 in
theorem lawMake (bs : List SBal) (rs : List SRow) (A A' : Option Addr) (n c n' c' : Nat) (w : World) (hE : Env w) (hr : Reads w w.heap.size 2 A n (balsCells bs)) (hr' : Reads w w.heap.size 5 A' n' (rowsCells rs)) (hn : n ≤ 9223372036854775807) (hn' : n' ≤ 9223372036854775807) (hnc' : n' ≤ c') :
    Calls Tryd.prog 3 #[.slice A n c, .slice A' n' c'] w fun e w' => e = .returned (.bool true) ∧ Below w.heap.size w w' := by
  have HR := Lib.hid hr
  have HR' := Lib.hid hr'
  have HLB := Lib.hid (bals_len hr)
  have HLR := Lib.hid (rows_len hr')
  clear hr hr'
  cases hf : fewL bs rs
  · have HF := Lib.hid hf
    clear hf
    go_enter Tryd.func3, Tryd.ntmps3
    go_wp2_with fail
    refine (awake_true _ hE).mono ?_
    rintro e w1 ⟨rfl, hb1⟩
    go_wp2_with fail
    refine (fewL_any bs rs A A' n c n' c' w.heap.size _ (HR.out.below hb1) (HR'.out.below hb1) hn hn').mono ?_
    rintro e wx ⟨rfl, rfl⟩
    rw [HF.out]
    go_wp2_with fail
    refine (awake_true _ (hE.after hb1)).mono ?_
    rintro e w2 ⟨rfl, hb2⟩
    go_wp2_with fail
    go_ret
    exact ⟨rfl, below_two hb1 hb2⟩
  · have HF := Lib.hid hf
    obtain ⟨hs, h60, hfb⟩ := fewL_iff.1 hf
    obtain ⟨h1, h2⟩ := fewB_iff.1 hfb
    have HNM : Hid (∀ r ∈ rs, r.name.length ≤ 3000) := fun r hr => by have := h1 r hr; omega
    have hn60 : n ≤ 60 := by have := HLB.out; omega
    have hn310 : n' ≤ 310 := by have := HLR.out; omega
    have HS := Lib.hid hs
    clear hf hfb h1 h2 hs h60
    go_enter Tryd.func3, Tryd.ntmps3
    go_wp2_with fail
    refine (awake_true _ hE).mono ?_
    rintro e w1 ⟨rfl, hb1⟩
    go_wp2_with fail
    refine (fewL_any bs rs A A' n c n' c' w.heap.size _ (HR.out.below hb1) (HR'.out.below hb1) hn hn').mono ?_
    rintro e wx ⟨rfl, rfl⟩
    rw [HF.out]
    go_wp2_with fail
    refine (make_any bs rs A A' n c n' c' w.heap.size _ (HR.out.below hb1) (HR'.out.below hb1) hb1.size (by omega) HS.out hn' hnc' HNM.out).mono ?_
    rintro e w2 ⟨v, rfl, hown, hb2⟩
    obtain ⟨A1, c1, rfl⟩ := own_slice hown
    have hb12 := below_two hb1 hb2
    have HR1 := Lib.hid (Reads.of_own hown)
    clear hown
    go_wp2_with fail
    refine (refMake_any bs rs A A' n c n' c' w.heap.size _ (HR.out.below hb12) (HR'.out.below hb12) hb12.size (by omega) HS.out hn' HNM.out).mono ?_
    rintro e w3 ⟨v, rfl, hown, hb3⟩
    obtain ⟨A2, c2, rfl⟩ := own_slice hown
    have hb13 := below_two hb12 hb3
    have HR2 := Lib.hid (Reads.of_own hown)
    have HR1 := Lib.hid (HR1.out.below hb3)
    have hml := mkL_len (bs := bs) HLR.out
    have hz23 := hb3.size
    generalize mkE bs rs = E at *
    generalize mkL bs rs = L at *
    have q1 : (E == E) = true := by simp
    clear hown hb2 hb12 hb3 hb1
    go_wp2_with fail
    refine (from_any L A1 L.length c1 _ w3 HR1.out hz23 (by omega)).mono ?_
    rintro e w4 ⟨v, rfl, hown, hb4⟩
    obtain ⟨A3, c3, rfl⟩ := own_slice hown
    have HR3 := Lib.hid (Reads.of_own hown)
    have hb14 := below_two hb13 hb4
    clear hown
    go_wp2_with fail
    refine (rsame_any L A3 A2 L.length c3 c2 _ _ w4 HR3.out (HR2.out.below hb4) (Nat.le_refl _) hb4.size (by omega)).mono ?_
    rintro e w5 ⟨rfl, hb5⟩
    go_wp2_with fail
    go_ret
    exact ⟨rfl, below_two hb14 hb5⟩
end Go.Proofs.YtenlbjobjnpghaaDoor
