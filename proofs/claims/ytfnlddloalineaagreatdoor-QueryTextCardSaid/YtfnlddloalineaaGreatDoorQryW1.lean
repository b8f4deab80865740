/-
  The lists of names of both; index and has of the reference. (printed by wip/tools/gen_qry1.py)
-/
import Derived.Test.YtfnlddloalineaaGreatDoorDatW1
import Derived.Test.YtfnlddloalineaaGreatDoorQryPl
import Derived.Test.YtfnlddloalineaaGreatDoorOwn2
namespace Go.Proofs.YtfnlddloalineaaGreatDoor
open Go.RowKit
set_option linter.unusedVariables false
def strV (l : List UInt8) : Value := .string ⟨l.toArray⟩
theorem word_cell {w : World} {G : Nat} {T : TypeId} {ws : List (List UInt8)} {j : Nat} (h : Blk w G T (ws.map strV).toArray) (hj : j < ws.length) : w.cell? ⟨G, j, none⟩ = some (.string ⟨(ws.getD j []).toArray⟩) := by
  rw [h.cell j]
  simp [List.getD, hj, strV]
def vbL : List (List UInt8) := [[115, 117, 109], [99, 111, 117, 110, 116]]
set_option maxRecDepth 100000 in
theorem vb_any (w : World) : Calls Tryz.prog 43 #[] w fun e w' => e = .returned (.slice (some ⟨w.heap.size, 0, none⟩) 2 2) ∧ w' = w.alloc (.cells (vbL.map strV).toArray 9) := by
  go_enter Tryz.func43, Tryz.ntmps43
  go_wp2_with fail
  go_ret
  exact ⟨rfl, rfl⟩
set_option maxRecDepth 100000 in
theorem ref_vb_any (w : World) : Calls Tryz.prog 38 #[] w fun e w' => e = .returned (.slice (some ⟨w.heap.size, 0, none⟩) 2 2) ∧ w' = w.alloc (.cells (vbL.map strV).toArray 9) := by
  go_enter Tryz.func38, Tryz.ntmps38
  go_wp2_with fail
  go_ret
  exact ⟨rfl, rfl⟩
def fdL : List (List UInt8) := [[97, 99, 99, 111, 117, 110, 116], [101, 110, 116, 105, 116, 121], [112, 97, 114, 116, 110, 101, 114], [107, 105, 110, 100], [100, 97, 116, 101]]
set_option maxRecDepth 100000 in
theorem fd_any (w : World) : Calls Tryz.prog 44 #[] w fun e w' => e = .returned (.slice (some ⟨w.heap.size, 0, none⟩) 5 5) ∧ w' = w.alloc (.cells (fdL.map strV).toArray 9) := by
  go_enter Tryz.func44, Tryz.ntmps44
  go_wp2_with fail
  go_ret
  exact ⟨rfl, rfl⟩
set_option maxRecDepth 100000 in
theorem ref_fd_any (w : World) : Calls Tryz.prog 48 #[] w fun e w' => e = .returned (.slice (some ⟨w.heap.size, 0, none⟩) 5 5) ∧ w' = w.alloc (.cells (fdL.map strV).toArray 9) := by
  go_enter Tryz.func48, Tryz.ntmps48
  go_wp2_with fail
  go_ret
  exact ⟨rfl, rfl⟩
def opL : List (List UInt8) := [[61], [33, 61], [60], [60, 61], [62], [62, 61]]
set_option maxRecDepth 100000 in
theorem op_any (w : World) : Calls Tryz.prog 46 #[] w fun e w' => e = .returned (.slice (some ⟨w.heap.size, 0, none⟩) 6 6) ∧ w' = w.alloc (.cells (opL.map strV).toArray 9) := by
  go_enter Tryz.func46, Tryz.ntmps46
  go_wp2_with fail
  go_ret
  exact ⟨rfl, rfl⟩
set_option maxRecDepth 100000 in
theorem ref_op_any (w : World) : Calls Tryz.prog 49 #[] w fun e w' => e = .returned (.slice (some ⟨w.heap.size, 0, none⟩) 6 6) ∧ w' = w.alloc (.cells (opL.map strV).toArray 9) := by
  go_enter Tryz.func49, Tryz.ntmps49
  go_wp2_with fail
  go_ret
  exact ⟨rfl, rfl⟩
def kdL : List (List UInt8) := [[105, 116, 101, 109], [114, 101, 115, 101, 114, 118, 101], [100, 105, 115, 112, 111, 115, 97, 108], [109, 97, 116, 99, 104], [99, 97, 112, 105, 116, 97, 108], [115, 116, 101, 112], [109, 105, 110, 111, 114, 105, 116, 121], [97, 115, 115, 111, 99, 105, 97, 116, 101], [105, 110, 118, 101, 110, 116, 111, 114, 121], [100, 105, 118, 105, 100, 101, 110, 100], [114, 117, 108, 101]]
set_option maxRecDepth 100000 in
theorem kd_any (w : World) : Calls Tryz.prog 79 #[] w fun e w' => e = .returned (.slice (some ⟨w.heap.size, 0, none⟩) 11 11) ∧ w' = w.alloc (.cells (kdL.map strV).toArray 9) := by
  go_enter Tryz.func79, Tryz.ntmps79
  go_wp2_with fail
  go_ret
  exact ⟨rfl, rfl⟩
set_option maxRecDepth 100000 in
theorem ref_kd_any (w : World) : Calls Tryz.prog 82 #[] w fun e w' => e = .returned (.slice (some ⟨w.heap.size, 0, none⟩) 11 11) ∧ w' = w.alloc (.cells (kdL.map strV).toArray 9) := by
  go_enter Tryz.func82, Tryz.ntmps82
  go_wp2_with fail
  go_ret
  exact ⟨rfl, rfl⟩
theorem idxW_cons (x : List UInt8) (l : List (List UInt8)) (s : List UInt8) : idxW (x :: l) s = if (x == s) = true then 0 else if idxW l s < 0 then -1 else idxW l s + 1 := by
  unfold idxW
  rw [List.findIdx?_cons]
  cases h : (x == s)
  · simp only [Bool.false_eq_true, if_false]
    cases hf : List.findIdx? (fun y => y == s) l with
    | none => simp
    | some k => simp only [Option.map_some]; rw [if_neg (by omega)]; omega
  · simp
theorem idxW_bd (l : List (List UInt8)) (s : List UInt8) : -1 ≤ idxW l s ∧ idxW l s < l.length := by
  induction l with
  | nil => simp [idxW]
  | cons x l ih =>
    rw [idxW_cons]
    simp only [List.length_cons]
    split
    · omega
    · split <;> omega
/-- found at k: nothing ahead of it is the word -/
theorem idxW_at {l : List (List UInt8)} {s : List UInt8} {k : Nat} (hk : k < l.length) (hp : ∀ j, j < k → (l.getD j [] == s) = false) (h : (l.getD k [] == s) = true) : idxW l s = k := by
  induction l generalizing k with
  | nil => simp at hk
  | cons x l ih =>
    rw [idxW_cons]
    cases k with
    | zero =>
      rw [List.getD_cons_zero] at h
      rw [if_pos h]; rfl
    | succ k =>
      have h0 := hp 0 (by omega)
      rw [List.getD_cons_zero] at h0
      rw [if_neg (by rw [h0]; simp), ih (by simpa using hk) (fun j hj => by have := hp (j + 1) (by omega); rwa [List.getD_cons_succ] at this) (by rwa [List.getD_cons_succ] at h), if_neg (by omega)]
      omega
theorem idxW_no {l : List (List UInt8)} {s : List UInt8} (hp : ∀ j, j < l.length → (l.getD j [] == s) = false) : idxW l s = -1 := by
  induction l with
  | nil => rfl
  | cons x l ih =>
    have h0 := hp 0 (by simp)
    rw [List.getD_cons_zero] at h0
    rw [idxW_cons, if_neg (by rw [h0]; simp), ih (fun j hj => by have := hp (j + 1) (by simpa using hj); rwa [List.getD_cons_succ] at this), if_pos (by omega)]
set_option maxRecDepth 100000 in
set_option maxHeartbeats 1600000 in
theorem refIndex_any (l : List (List UInt8)) (s : List UInt8) (G n c : Nat) (w : World) (hk : ∀ j, j < n → w.cell? ⟨G, j, none⟩ = some (.string ⟨(l.getD j []).toArray⟩)) (hn : n = l.length) (hl : l.length ≤ 1000) :
    Calls Tryz.prog 37 #[.slice (some ⟨G, 0, none⟩) n c, .string ⟨s.toArray⟩] w fun e w' => e = .returned (.int .i64 (idxW l s)) ∧ w = w' := by
  have HK := Lib.hid hk
  have HN := Lib.hid hn
  have hn1 : n ≤ 1000 := by omega
  clear hk hn hl
  go_enter Tryz.func37, Tryz.ntmps37
  go_wp2_with fail
  go_loop [5] (fun i => ∃ k : Nat, k ≤ n ∧ i = .int .i64 (k : Int) ∧ ∀ j, j < k → (l.getD j [] == s) = false) (fun i => n - (intOf i).toNat)
  case atStart => exact ⟨0, Nat.zero_le _, rfl, fun j h => by omega⟩
  case round =>
    obtain ⟨k, hk, rfl, hd⟩ := hrel
    have HD := Lib.hid hd
    clear hd
    by_cases hlt : k < n
    · have k1 : decide ((k : Int) < (n : Int)) = true := by rw [decide_eq_true_eq]; omega
      have k2 : decide (k < n) = true := by rw [decide_eq_true_eq]; omega
      have b1 : (k : Int) < (n : Int) := by omega
      have hc := HK.out k hlt
      have HX : Hid ((l.getD k [] == s) = true → idxW l s = k) := fun h => idxW_at (by rw [← HN.out]; exact hlt) HD.out h
      have HY : Hid ((l.getD k [] == s) = false → ∀ j, j < k + 1 → (l.getD j [] == s) = false) := fun h j hj => by
        by_cases e : j = k
        · rw [e]; exact h
        · exact HD.out j (by omega)
      generalize l.getD k [] = x at *
      by_cases hx : x = s
      · have F := Lib.hid (HX.out (by rw [beq_iff_eq]; exact hx))
        clear HX HY
        subst hx
        have q1 : (x == x) = true := by simp
        go_wp2_with fail
        go_ret
        exact ⟨by rw [F.out]; rfl, rfl⟩
      · have q1 : (x == s) = false := by rw [beq_eq_false_iff_ne]; exact hx
        have F := Lib.hid (HY.out q1)
        clear HX HY
        go_wp2_with fail
        go_round
        case rel => exact ⟨k + 1, by omega, by go_num, F.out⟩
        case measure => simp [intOf]; omega
    · have k1 : decide ((k : Int) < (n : Int)) = false := by rw [decide_eq_false_iff_not]; omega
      have k2 : decide (k < n) = false := by rw [decide_eq_false_iff_not]; omega
      have F : Hid (idxW l s = -1) := idxW_no (fun j hj => HD.out j (by have := HN.out; omega))
      go_wp2_with fail
      go_ret
      exact ⟨by rw [F.out]; rfl, rfl⟩
end Go.Proofs.YtfnlddloalineaaGreatDoor
