/-
  Queries: plain data, the words of a query, what Parse returns.
  The lists of names of both; index and has of the reference. (printed by wip/tools/gen_qry1.py)
  The program's reader in memory; more, next, at.
  The program's reader: take. (printed by a short program; the four ways: is the last word's capacity used up?)
  The program's reader: name, word.
  The pieces of a text between its separators; strings.Split.
  The program's reader: newReader.
-/
import Derived.Test.YtfnlddloalineaaGreatDoorDatA
import Derived.Test.YtfnlddloalineaaGreatDoorOwn2
import Derived.BigRegion
import Derived.Lib.SplitLaws
import Derived.OneCell
namespace Go.Proofs.YtfnlddloalineaaGreatDoor
set_option linter.unusedVariables false
structure SCond where
  f : Int
  o : Int
  v : Int
deriving DecidableEq
instance : Inhabited SCond := ⟨⟨0, 0, 0⟩⟩
structure SQry where
  verb : Int
  by_ : List Int
  wh : List SCond
instance : Inhabited SQry := ⟨⟨0, [], []⟩⟩
/-- the place of a word in a list, as a number; -1: nowhere -/
def idxW (l : List (List UInt8)) (s : List UInt8) : Int := match l.findIdx? (· == s) with
  | some k => (k : Int)
  | none => -1
end Go.Proofs.YtfnlddloalineaaGreatDoor
namespace Go.Proofs.YtfnlddloalineaaGreatDoor
open Go.RowKit
set_option linter.unusedVariables false
def strV (l : List UInt8) : Value := .string ⟨l.toArray⟩
theorem word_cell {w : World} {G : Nat} {T : TypeId} {ws : List (List UInt8)} {j : Nat} (h : Blk w G T (ws.map strV).toArray) (hj : j < ws.length) : w.cell? ⟨G, j, none⟩ = some (.string ⟨(ws.getD j []).toArray⟩) := by
  rw [h.cell j]
  simp [List.getD, hj, strV]
def vbL : List (List UInt8) := [[115, 117, 109], [99, 111, 117, 110, 116]]
set_option maxRecDepth 100000 in
theorem vb_any (w : World) : Calls Tryz.prog 43 #[] w fun e w' => e = .returned (.slice (some ⟨w.heap.size, 0, none⟩) 2 2) ∧ w' = w.alloc (.cells (vbL.map strV).toArray 9) := by
  go_enter Tryz.func43, Tryz.ntmps43
  go_wp2_with fail
  go_ret
  exact ⟨rfl, rfl⟩
set_option maxRecDepth 100000 in
theorem ref_vb_any (w : World) : Calls Tryz.prog 38 #[] w fun e w' => e = .returned (.slice (some ⟨w.heap.size, 0, none⟩) 2 2) ∧ w' = w.alloc (.cells (vbL.map strV).toArray 9) := by
  go_enter Tryz.func38, Tryz.ntmps38
  go_wp2_with fail
  go_ret
  exact ⟨rfl, rfl⟩
def fdL : List (List UInt8) := [[97, 99, 99, 111, 117, 110, 116], [101, 110, 116, 105, 116, 121], [112, 97, 114, 116, 110, 101, 114], [107, 105, 110, 100], [100, 97, 116, 101]]
set_option maxRecDepth 100000 in
theorem fd_any (w : World) : Calls Tryz.prog 44 #[] w fun e w' => e = .returned (.slice (some ⟨w.heap.size, 0, none⟩) 5 5) ∧ w' = w.alloc (.cells (fdL.map strV).toArray 9) := by
  go_enter Tryz.func44, Tryz.ntmps44
  go_wp2_with fail
  go_ret
  exact ⟨rfl, rfl⟩
set_option maxRecDepth 100000 in
theorem ref_fd_any (w : World) : Calls Tryz.prog 48 #[] w fun e w' => e = .returned (.slice (some ⟨w.heap.size, 0, none⟩) 5 5) ∧ w' = w.alloc (.cells (fdL.map strV).toArray 9) := by
  go_enter Tryz.func48, Tryz.ntmps48
  go_wp2_with fail
  go_ret
  exact ⟨rfl, rfl⟩
def opL : List (List UInt8) := [[61], [33, 61], [60], [60, 61], [62], [62, 61]]
set_option maxRecDepth 100000 in
theorem op_any (w : World) : Calls Tryz.prog 46 #[] w fun e w' => e = .returned (.slice (some ⟨w.heap.size, 0, none⟩) 6 6) ∧ w' = w.alloc (.cells (opL.map strV).toArray 9) := by
  go_enter Tryz.func46, Tryz.ntmps46
  go_wp2_with fail
  go_ret
  exact ⟨rfl, rfl⟩
set_option maxRecDepth 100000 in
theorem ref_op_any (w : World) : Calls Tryz.prog 49 #[] w fun e w' => e = .returned (.slice (some ⟨w.heap.size, 0, none⟩) 6 6) ∧ w' = w.alloc (.cells (opL.map strV).toArray 9) := by
  go_enter Tryz.func49, Tryz.ntmps49
  go_wp2_with fail
  go_ret
  exact ⟨rfl, rfl⟩
def kdL : List (List UInt8) := [[105, 116, 101, 109], [114, 101, 115, 101, 114, 118, 101], [100, 105, 115, 112, 111, 115, 97, 108], [109, 97, 116, 99, 104], [99, 97, 112, 105, 116, 97, 108], [115, 116, 101, 112], [109, 105, 110, 111, 114, 105, 116, 121], [97, 115, 115, 111, 99, 105, 97, 116, 101], [105, 110, 118, 101, 110, 116, 111, 114, 121], [100, 105, 118, 105, 100, 101, 110, 100], [114, 117, 108, 101]]
set_option maxRecDepth 100000 in
theorem kd_any (w : World) : Calls Tryz.prog 79 #[] w fun e w' => e = .returned (.slice (some ⟨w.heap.size, 0, none⟩) 11 11) ∧ w' = w.alloc (.cells (kdL.map strV).toArray 9) := by
  go_enter Tryz.func79, Tryz.ntmps79
  go_wp2_with fail
  go_ret
  exact ⟨rfl, rfl⟩
set_option maxRecDepth 100000 in
theorem ref_kd_any (w : World) : Calls Tryz.prog 82 #[] w fun e w' => e = .returned (.slice (some ⟨w.heap.size, 0, none⟩) 11 11) ∧ w' = w.alloc (.cells (kdL.map strV).toArray 9) := by
  go_enter Tryz.func82, Tryz.ntmps82
  go_wp2_with fail
  go_ret
  exact ⟨rfl, rfl⟩
theorem idxW_cons (x : List UInt8) (l : List (List UInt8)) (s : List UInt8) : idxW (x :: l) s = if (x == s) = true then 0 else if idxW l s < 0 then -1 else idxW l s + 1 := by
  unfold idxW
  rw [List.findIdx?_cons]
  cases h : (x == s)
  · simp only [Bool.false_eq_true, if_false]
    cases hf : List.findIdx? (fun y => y == s) l with
    | none => simp
    | some k => simp only [Option.map_some]; rw [if_neg (by omega)]; omega
  · simp
theorem idxW_bd (l : List (List UInt8)) (s : List UInt8) : -1 ≤ idxW l s ∧ idxW l s < l.length := by
  induction l with
  | nil => simp [idxW]
  | cons x l ih =>
    rw [idxW_cons]
    simp only [List.length_cons]
    split
    · omega
    · split <;> omega
/-- found at k: nothing ahead of it is the word -/
theorem idxW_at {l : List (List UInt8)} {s : List UInt8} {k : Nat} (hk : k < l.length) (hp : ∀ j, j < k → (l.getD j [] == s) = false) (h : (l.getD k [] == s) = true) : idxW l s = k := by
  induction l generalizing k with
  | nil => simp at hk
  | cons x l ih =>
    rw [idxW_cons]
    cases k with
    | zero =>
      rw [List.getD_cons_zero] at h
      rw [if_pos h]; rfl
    | succ k =>
      have h0 := hp 0 (by omega)
      rw [List.getD_cons_zero] at h0
      rw [if_neg (by rw [h0]; simp), ih (by simpa using hk) (fun j hj => by have := hp (j + 1) (by omega); rwa [List.getD_cons_succ] at this) (by rwa [List.getD_cons_succ] at h), if_neg (by omega)]
      omega
theorem idxW_no {l : List (List UInt8)} {s : List UInt8} (hp : ∀ j, j < l.length → (l.getD j [] == s) = false) : idxW l s = -1 := by
  induction l with
  | nil => rfl
  | cons x l ih =>
    have h0 := hp 0 (by simp)
    rw [List.getD_cons_zero] at h0
    rw [idxW_cons, if_neg (by rw [h0]; simp), ih (fun j hj => by have := hp (j + 1) (by simpa using hj); rwa [List.getD_cons_succ] at this), if_pos (by omega)]
set_option maxRecDepth 100000 in
set_option maxHeartbeats 1600000 in
theorem refIndex_any (l : List (List UInt8)) (s : List UInt8) (G n c : Nat) (w : World) (hk : ∀ j, j < n → w.cell? ⟨G, j, none⟩ = some (.string ⟨(l.getD j []).toArray⟩)) (hn : n = l.length) (hl : l.length ≤ 1000) :
    Calls Tryz.prog 37 #[.slice (some ⟨G, 0, none⟩) n c, .string ⟨s.toArray⟩] w fun e w' => e = .returned (.int .i64 (idxW l s)) ∧ w = w' := by
  have HK := Lib.hid hk
  have HN := Lib.hid hn
  have hn1 : n ≤ 1000 := by omega
  clear hk hn hl
  go_enter Tryz.func37, Tryz.ntmps37
  go_wp2_with fail
  go_loop [5] (fun i => ∃ k : Nat, k ≤ n ∧ i = .int .i64 (k : Int) ∧ ∀ j, j < k → (l.getD j [] == s) = false) (fun i => n - (intOf i).toNat)
  case atStart => exact ⟨0, Nat.zero_le _, rfl, fun j h => by omega⟩
  case round =>
    obtain ⟨k, hk, rfl, hd⟩ := hrel
    have HD := Lib.hid hd
    clear hd
    by_cases hlt : k < n
    · have k1 : decide ((k : Int) < (n : Int)) = true := by rw [decide_eq_true_eq]; omega
      have k2 : decide (k < n) = true := by rw [decide_eq_true_eq]; omega
      have b1 : (k : Int) < (n : Int) := by omega
      have hc := HK.out k hlt
      have HX : Hid ((l.getD k [] == s) = true → idxW l s = k) := fun h => idxW_at (by rw [← HN.out]; exact hlt) HD.out h
      have HY : Hid ((l.getD k [] == s) = false → ∀ j, j < k + 1 → (l.getD j [] == s) = false) := fun h j hj => by
        by_cases e : j = k
        · rw [e]; exact h
        · exact HD.out j (by omega)
      generalize l.getD k [] = x at *
      by_cases hx : x = s
      · have F := Lib.hid (HX.out (by rw [beq_iff_eq]; exact hx))
        clear HX HY
        subst hx
        have q1 : (x == x) = true := by simp
        go_wp2_with fail
        go_ret
        exact ⟨by rw [F.out]; rfl, rfl⟩
      · have q1 : (x == s) = false := by rw [beq_eq_false_iff_ne]; exact hx
        have F := Lib.hid (HY.out q1)
        clear HX HY
        go_wp2_with fail
        go_round
        case rel => exact ⟨k + 1, by omega, by go_num, F.out⟩
        case measure => simp [intOf]; omega
    · have k1 : decide ((k : Int) < (n : Int)) = false := by rw [decide_eq_false_iff_not]; omega
      have k2 : decide (k < n) = false := by rw [decide_eq_false_iff_not]; omega
      have F : Hid (idxW l s = -1) := idxW_no (fun j hj => HD.out j (by have := HN.out; omega))
      go_wp2_with fail
      go_ret
      exact ⟨by rw [F.out]; rfl, rfl⟩
end Go.Proofs.YtfnlddloalineaaGreatDoor
namespace Go.Proofs.YtfnlddloalineaaGreatDoor
open Go.RowKit
set_option linter.unusedVariables false
def intV (x : Int) : Value := .int .i64 x
/-- what a slice of the reader reads as -/
def RdS (w : World) (B R : Nat) (A : Option Addr) (xs : List Value) : Prop :=
  xs ≠ [] → ∃ g o, A = some ⟨g, o, none⟩ ∧ g ≠ R ∧ g < B ∧ ∀ j u, xs[j]? = some u → w.cell? ⟨g, o + j, none⟩ = some u
/-- the reader: the words that are left, their places, the length of the text -/
def Rdr (w : World) (B R : Nat) (ws : List (List UInt8)) (ps : List Int) (len : Int) : Prop :=
  ∃ A c A' c', Blk w R 132 #[.slice A ws.length c, .slice A' ws.length c', .int .i64 len] ∧ ws.length ≤ c ∧ ws.length ≤ c' ∧ ps.length = ws.length ∧ RdS w B R A (ws.map strV) ∧ RdS w B R A' (ps.map intV) ∧ R < B ∧ B ≤ w.heap.size
theorem RdS.grown {w w' : World} {B R : Nat} {A : Option Addr} {xs : List Value} (h : RdS w B R A xs) (hB : B ≤ w.heap.size) (hg : w.grownBy w' (some R)) : RdS w' B R A xs := fun hx => by
  obtain ⟨g, o, e, hne, hlt, hc⟩ := h hx
  exact ⟨g, o, e, hne, hlt, fun j u hu => (World.cell?_of_block (hg.block g (by omega) (fun e => hne (by injection e)))).trans (hc j u hu)⟩
theorem RdS.below {w w' : World} {B R : Nat} {A : Option Addr} {xs : List Value} (h : RdS w B R A xs) (hb : Below B w w') : RdS w' B R A xs := fun hx => by
  obtain ⟨g, o, e, hne, hlt, hc⟩ := h hx
  exact ⟨g, o, e, hne, hlt, fun j u hu => (hb.cell (p := ⟨g, o + j, none⟩) hlt).trans (hc j u hu)⟩
theorem Rdr.low {w w' : World} {B R : Nat} {ws : List (List UInt8)} {ps : List Int} {len : Int} (h : Rdr w B R ws ps len) (hb : Below B w w') : Rdr w' B R ws ps len := by
  obtain ⟨A, c, A', c', hk, h1, h2, h3, h4, h5, h6, h7⟩ := h
  exact ⟨A, c, A', c', hk.below hb h6, h1, h2, h3, h4.below hb, h5.below hb, h6, Nat.le_trans h7 hb.size⟩
theorem Rdr.below {w w' : World} {B R : Nat} {ws : List (List UInt8)} {ps : List Int} {len : Int} (h : Rdr w B R ws ps len) (hb : Below w.heap.size w w') : Rdr w' B R ws ps len := by
  have h7 : B ≤ w.heap.size := by obtain ⟨_, _, _, _, _, _, _, _, _, _, _, h7⟩ := h; exact h7
  exact h.low (hb.mono h7)
theorem rd_cells {w : World} {g : Nat} {T : TypeId} {a b c : Value} (h : Blk w g T #[a, b, c]) : w.cell? ⟨g, 0, none⟩ = some a ∧ w.cell? ⟨g, 1, none⟩ = some b ∧ w.cell? ⟨g, 2, none⟩ = some c := ⟨h.cell 0, h.cell 1, h.cell 2⟩
set_option maxRecDepth 100000 in
set_option maxHeartbeats 1000000 in
theorem more_any (ws : List (List UInt8)) (ps : List Int) (len : Int) (B R : Nat) (w : World) (h : Rdr w B R ws ps len) :
    Calls Tryz.prog 73 #[.pointer (some ⟨R, 0, none⟩)] w fun e w' => e = .returned (.bool (decide (0 < ws.length))) ∧ w = w' := by
  obtain ⟨A, c, A', c', hk, h1, h2, h3, h4, h5, h6, h7⟩ := h
  obtain ⟨x0, x1, x2⟩ := rd_cells hk
  clear hk h4 h5 h3
  generalize ws.length = n at *
  by_cases hn : 0 < n
  · have z1 : decide ((0 : Int) < (n : Int)) = true := by rw [decide_eq_true_eq]; omega
    have z2 : decide (0 < n) = true := by rw [decide_eq_true_eq]; exact hn
    rw [z2]
    go_enter Tryz.func73, Tryz.ntmps73
    go_wp2_with fail
    go_ret
    exact ⟨rfl, rfl⟩
  · have z1 : decide ((0 : Int) < (n : Int)) = false := by rw [decide_eq_false_iff_not]; omega
    have z2 : decide (0 < n) = false := by rw [decide_eq_false_iff_not]; exact hn
    rw [z2]
    go_enter Tryz.func73, Tryz.ntmps73
    go_wp2_with fail
    go_ret
    exact ⟨rfl, rfl⟩
theorem RdS.head {w : World} {B R : Nat} {A : Option Addr} {x : Value} {xs : List Value} (h : RdS w B R A (x :: xs)) : ∃ g o, A = some ⟨g, o, none⟩ ∧ g ≠ R ∧ g < B ∧ w.cell? ⟨g, o, none⟩ = some x ∧ ∀ j u, xs[j]? = some u → w.cell? ⟨g, o + 1 + j, none⟩ = some u := by
  obtain ⟨g, o, e, h1, h2, hc⟩ := h (by simp)
  refine ⟨g, o, e, h1, h2, ?_, fun j u hu => ?_⟩
  · have := hc 0 x rfl
    simpa using this
  · have := hc (j + 1) u (by simpa using hu)
    rwa [show o + (j + 1) = o + 1 + j by omega] at this
set_option maxRecDepth 100000 in
set_option maxHeartbeats 1000000 in
theorem next_any (x : List UInt8) (ws : List (List UInt8)) (ps : List Int) (len : Int) (B R : Nat) (w : World) (h : Rdr w B R (x :: ws) ps len) :
    Calls Tryz.prog 98 #[.pointer (some ⟨R, 0, none⟩)] w fun e w' => e = .returned (.string ⟨x.toArray⟩) ∧ w = w' := by
  obtain ⟨A, c, A', c', hk, h1, h2, h3, h4, h5, h6, h7⟩ := h
  obtain ⟨x0, x1, x2⟩ := rd_cells hk
  obtain ⟨g, o, rfl, _, hg, hc, _⟩ := RdS.head h4
  have hc' : w.cell? ⟨g, o, none⟩ = some (.string ⟨x.toArray⟩) := hc
  clear hk h4 h5 h3 hc
  have hn : 0 < (x :: ws).length := by simp
  generalize (x :: ws).length = n at *
  have z1 : (0 : Int) < (n : Int) := by omega
  go_enter Tryz.func98, Tryz.ntmps98
  go_wp2_with fail
  go_ret
  exact ⟨rfl, rfl⟩
set_option maxRecDepth 100000 in
set_option maxHeartbeats 1000000 in
theorem at_any (ws : List (List UInt8)) (ps : List Int) (len : Int) (B R : Nat) (w : World) (h : Rdr w B R ws ps len) :
    Calls Tryz.prog 34 #[.pointer (some ⟨R, 0, none⟩)] w fun e w' => e = .returned (.int .i64 (ps.headD len)) ∧ w = w' := by
  have HM := Lib.hid (more_any ws ps len B R w h)
  obtain ⟨A, c, A', c', hk, h1, h2, h3, h4, h5, h6, h7⟩ := h
  obtain ⟨x0, x1, x2⟩ := rd_cells hk
  cases ps with
  | nil =>
    have hn : decide (0 < ws.length) = false := by rw [decide_eq_false_iff_not, ← h3]; simp
    rw [hn] at HM
    clear hk h4 h5 h3 hn
    generalize ws.length = n at *
    go_enter Tryz.func34, Tryz.ntmps34
    go_wp2_with fail
    refine HM.out.mono ?_
    rintro e wx ⟨rfl, rfl⟩
    go_wp2_with fail
    go_ret
    exact ⟨rfl, rfl⟩
  | cons p ps =>
    have hl : 0 < ws.length := by rw [← h3]; simp
    have hn : decide (0 < ws.length) = true := by rw [decide_eq_true_eq]; exact hl
    rw [hn] at HM
    obtain ⟨g, o, rfl, _, hg, hc, _⟩ := RdS.head h5
    have hc' : w.cell? ⟨g, o, none⟩ = some (.int .i64 p) := hc
    clear hk h4 h5 h3 hc hn
    generalize ws.length = n at *
    have z1 : (0 : Int) < (n : Int) := by omega
    go_enter Tryz.func34, Tryz.ntmps34
    go_wp2_with fail
    refine HM.out.mono ?_
    rintro e wx ⟨rfl, rfl⟩
    go_wp2_with fail
    go_ret
    exact ⟨rfl, rfl⟩
end Go.Proofs.YtfnlddloalineaaGreatDoor
namespace Go.Proofs.YtfnlddloalineaaGreatDoor
open Go.RowKit
set_option linter.unusedVariables false
def TakeSays (B R : Nat) (ws : List (List UInt8)) (ps : List Int) (len : Int) (w : World) (e : Ending) (w' : World) : Prop := (∃ v, e = .returned v) ∧ Rdr w' B R ws ps len ∧ w.grownBy w' (some R)
theorem grown_set {w w1 : World} {R : Nat} (h : w.grownBy w1 (some R)) (j : Nat) (v : Value) : w.grownBy (w1.setCell ⟨R, j, none⟩ v) (some R) :=
  ⟨h.os, h.tape, h.output, by have := h.size; simpa using this, fun i hi hne => (Below.heap_setCell w1 ⟨R, j, none⟩ v i (fun e => hne (by rw [e]))).trans (h.block i hi hne)⟩
theorem grown_drew {w w1 : World} {R : Option Nat} (h : w.grownBy w1 R) : w.grownBy w1.drew R := ⟨h.os, h.tape, h.output, h.size, h.block⟩
set_option maxRecDepth 100000 in
set_option maxHeartbeats 2000000 in
theorem take_far_far (ws : List (List UInt8)) (ps : List Int) (len : Int) (B R : Nat) (w : World) (g o g' o' q q' n : Nat)
    (hk : Blk w R 132 #[.slice (some ⟨g, o, none⟩) (n + 1) (q + 2), .slice (some ⟨g', o', none⟩) (n + 1) (q' + 2), .int .i64 len]) (hn1 : n ≤ q + 1) (hn2 : n ≤ q' + 1)
    (HEND : ∀ w' : World, Blk w' R 132 #[.slice (some ⟨g, o + 1, none⟩) n (q + 1), .slice (some ⟨g', o' + 1, none⟩) n (q' + 1), .int .i64 len] → w.grownBy w' (some R) → ∀ v, TakeSays B R ws ps len w (.returned v) w') :
    Calls Tryz.prog 99 #[.pointer (some ⟨R, 0, none⟩)] w (TakeSays B R ws ps len w) := by
  obtain ⟨x0, x1, x2⟩ := rd_cells hk
  have f0 := hk.frozen
  have HK := Lib.hid hk
  have HE := Lib.hid HEND
  clear hk HEND
  have z1 : (1 : Int) ≤ (n : Int) + 1 := by omega
  go_enter Tryz.func99, Tryz.ntmps99
  go_wp2_with fail
  go_region
  have hb : Blk (((w.setCell ⟨R, 0, none⟩ (.slice (some ⟨g, o + 1, none⟩) n (q + 1))).setCell ⟨R, 1, none⟩ (.slice (some ⟨g', o' + 1, none⟩) n (q' + 1))).drew) R 132 #[.slice (some ⟨g, o + 1, none⟩) n (q + 1), .slice (some ⟨g', o' + 1, none⟩) n (q' + 1), .int .i64 len] := by
    have := ((HK.out.set_ 0 (.slice (some ⟨g, o + 1, none⟩) n (q + 1))).set_ 1 (.slice (some ⟨g', o' + 1, none⟩) n (q' + 1))).drew
    simpa using this
  have hg := grown_drew (grown_set (grown_set (World.grownBy.refl w (some R)) 0 (.slice (some ⟨g, o + 1, none⟩) n (q + 1))) 1 (.slice (some ⟨g', o' + 1, none⟩) n (q' + 1)))
  refine bodyPost_ret (results_none rfl _ _ _) rfl ?_
  exact HE.out _ hb hg _
set_option maxRecDepth 100000 in
set_option maxHeartbeats 2000000 in
theorem take_far_near (ws : List (List UInt8)) (ps : List Int) (len : Int) (B R : Nat) (w : World) (g o g' o' q : Nat)
    (hk : Blk w R 132 #[.slice (some ⟨g, o, none⟩) 1 (q + 2), .slice (some ⟨g', o', none⟩) 1 1, .int .i64 len])
    (HEND : ∀ w' : World, Blk w' R 132 #[.slice (some ⟨g, o + 1, none⟩) 0 (q + 1), .slice (some ⟨g', o', none⟩) 0 0, .int .i64 len] → w.grownBy w' (some R) → ∀ v, TakeSays B R ws ps len w (.returned v) w') :
    Calls Tryz.prog 99 #[.pointer (some ⟨R, 0, none⟩)] w (TakeSays B R ws ps len w) := by
  obtain ⟨x0, x1, x2⟩ := rd_cells hk
  have f0 := hk.frozen
  have HK := Lib.hid hk
  have HE := Lib.hid HEND
  clear hk HEND
  skip
  go_enter Tryz.func99, Tryz.ntmps99
  go_wp2_with fail
  go_region
  have hb : Blk (((w.setCell ⟨R, 0, none⟩ (.slice (some ⟨g, o + 1, none⟩) 0 (q + 1))).setCell ⟨R, 1, none⟩ (.slice (some ⟨g', o', none⟩) 0 0)).drew) R 132 #[.slice (some ⟨g, o + 1, none⟩) 0 (q + 1), .slice (some ⟨g', o', none⟩) 0 0, .int .i64 len] := by
    have := ((HK.out.set_ 0 (.slice (some ⟨g, o + 1, none⟩) 0 (q + 1))).set_ 1 (.slice (some ⟨g', o', none⟩) 0 0)).drew
    simpa using this
  have hg := grown_drew (grown_set (grown_set (World.grownBy.refl w (some R)) 0 (.slice (some ⟨g, o + 1, none⟩) 0 (q + 1))) 1 (.slice (some ⟨g', o', none⟩) 0 0))
  refine bodyPost_ret (results_none rfl _ _ _) rfl ?_
  exact HE.out _ hb hg _
set_option maxRecDepth 100000 in
set_option maxHeartbeats 2000000 in
theorem take_near_far (ws : List (List UInt8)) (ps : List Int) (len : Int) (B R : Nat) (w : World) (g o g' o' q' : Nat)
    (hk : Blk w R 132 #[.slice (some ⟨g, o, none⟩) 1 1, .slice (some ⟨g', o', none⟩) 1 (q' + 2), .int .i64 len])
    (HEND : ∀ w' : World, Blk w' R 132 #[.slice (some ⟨g, o, none⟩) 0 0, .slice (some ⟨g', o' + 1, none⟩) 0 (q' + 1), .int .i64 len] → w.grownBy w' (some R) → ∀ v, TakeSays B R ws ps len w (.returned v) w') :
    Calls Tryz.prog 99 #[.pointer (some ⟨R, 0, none⟩)] w (TakeSays B R ws ps len w) := by
  obtain ⟨x0, x1, x2⟩ := rd_cells hk
  have f0 := hk.frozen
  have HK := Lib.hid hk
  have HE := Lib.hid HEND
  clear hk HEND
  skip
  go_enter Tryz.func99, Tryz.ntmps99
  go_wp2_with fail
  go_region
  have hb : Blk (((w.setCell ⟨R, 0, none⟩ (.slice (some ⟨g, o, none⟩) 0 0)).setCell ⟨R, 1, none⟩ (.slice (some ⟨g', o' + 1, none⟩) 0 (q' + 1))).drew) R 132 #[.slice (some ⟨g, o, none⟩) 0 0, .slice (some ⟨g', o' + 1, none⟩) 0 (q' + 1), .int .i64 len] := by
    have := ((HK.out.set_ 0 (.slice (some ⟨g, o, none⟩) 0 0)).set_ 1 (.slice (some ⟨g', o' + 1, none⟩) 0 (q' + 1))).drew
    simpa using this
  have hg := grown_drew (grown_set (grown_set (World.grownBy.refl w (some R)) 0 (.slice (some ⟨g, o, none⟩) 0 0)) 1 (.slice (some ⟨g', o' + 1, none⟩) 0 (q' + 1)))
  refine bodyPost_ret (results_none rfl _ _ _) rfl ?_
  exact HE.out _ hb hg _
set_option maxRecDepth 100000 in
set_option maxHeartbeats 2000000 in
theorem take_near_near (ws : List (List UInt8)) (ps : List Int) (len : Int) (B R : Nat) (w : World) (g o g' o' : Nat)
    (hk : Blk w R 132 #[.slice (some ⟨g, o, none⟩) 1 1, .slice (some ⟨g', o', none⟩) 1 1, .int .i64 len])
    (HEND : ∀ w' : World, Blk w' R 132 #[.slice (some ⟨g, o, none⟩) 0 0, .slice (some ⟨g', o', none⟩) 0 0, .int .i64 len] → w.grownBy w' (some R) → ∀ v, TakeSays B R ws ps len w (.returned v) w') :
    Calls Tryz.prog 99 #[.pointer (some ⟨R, 0, none⟩)] w (TakeSays B R ws ps len w) := by
  obtain ⟨x0, x1, x2⟩ := rd_cells hk
  have f0 := hk.frozen
  have HK := Lib.hid hk
  have HE := Lib.hid HEND
  clear hk HEND
  skip
  go_enter Tryz.func99, Tryz.ntmps99
  go_wp2_with fail
  go_region
  have hb : Blk (((w.setCell ⟨R, 0, none⟩ (.slice (some ⟨g, o, none⟩) 0 0)).setCell ⟨R, 1, none⟩ (.slice (some ⟨g', o', none⟩) 0 0)).drew) R 132 #[.slice (some ⟨g, o, none⟩) 0 0, .slice (some ⟨g', o', none⟩) 0 0, .int .i64 len] := by
    have := ((HK.out.set_ 0 (.slice (some ⟨g, o, none⟩) 0 0)).set_ 1 (.slice (some ⟨g', o', none⟩) 0 0)).drew
    simpa using this
  have hg := grown_drew (grown_set (grown_set (World.grownBy.refl w (some R)) 0 (.slice (some ⟨g, o, none⟩) 0 0)) 1 (.slice (some ⟨g', o', none⟩) 0 0))
  refine bodyPost_ret (results_none rfl _ _ _) rfl ?_
  exact HE.out _ hb hg _
theorem RdS.nil {w : World} {B R : Nat} {A : Option Addr} : RdS w B R A [] := fun h => absurd rfl h
theorem take_any (x : List UInt8) (ws : List (List UInt8)) (p : Int) (ps : List Int) (len : Int) (B R : Nat) (w : World) (h : Rdr w B R (x :: ws) (p :: ps) len) :
    Calls Tryz.prog 99 #[.pointer (some ⟨R, 0, none⟩)] w (TakeSays B R ws ps len w) := by
  obtain ⟨A, c, A', c', hk, h1, h2, h3, h4, h5, h6, h7⟩ := h
  obtain ⟨g, o, rfl, hg, hlt, _, hc⟩ := RdS.head h4
  obtain ⟨g', o', rfl, hg', hlt', _, hc'⟩ := RdS.head h5
  rw [List.length_cons] at hk h1 h2
  have h3' : ps.length = ws.length := by simpa using h3
  have far1 : ∀ w' : World, w.grownBy w' (some R) → RdS w' B R (some ⟨g, o + 1, none⟩) (ws.map strV) := fun w' hgr _ =>
    ⟨g, o + 1, rfl, hg, hlt, fun j u hu => (World.cell?_of_block (hgr.block g (Nat.lt_of_lt_of_le hlt h7) (fun e => hg (by injection e)))).trans (hc j u hu)⟩
  have far2 : ∀ w' : World, w.grownBy w' (some R) → RdS w' B R (some ⟨g', o' + 1, none⟩) (ps.map intV) := fun w' hgr _ =>
    ⟨g', o' + 1, rfl, hg', hlt', fun j u hu => (World.cell?_of_block (hgr.block g' (Nat.lt_of_lt_of_le hlt' h7) (fun e => hg' (by injection e)))).trans (hc' j u hu)⟩
  by_cases e1 : c = 1
  · subst e1
    have hz : ws = [] := List.eq_nil_of_length_eq_zero (by omega)
    subst hz
    have hz' : ps = [] := List.eq_nil_of_length_eq_zero (by simpa using h3')
    subst hz'
    by_cases e2 : c' = 1
    · subst e2
      exact take_near_near [] [] len B R w g o g' o' hk (fun w' hb hgr v => ⟨⟨v, rfl⟩, ⟨_, _, _, _, hb, by simp, by simp, rfl, RdS.nil, RdS.nil, h6, Nat.le_trans h7 hgr.size⟩, hgr⟩)
    · obtain ⟨q', rfl⟩ : ∃ q', c' = q' + 2 := ⟨c' - 2, by omega⟩
      exact take_near_far [] [] len B R w g o g' o' q' hk (fun w' hb hgr v => ⟨⟨v, rfl⟩, ⟨_, _, _, _, hb, by simp, by simp, rfl, RdS.nil, RdS.nil, h6, Nat.le_trans h7 hgr.size⟩, hgr⟩)
  · obtain ⟨q, rfl⟩ : ∃ q, c = q + 2 := ⟨c - 2, by omega⟩
    by_cases e2 : c' = 1
    · subst e2
      have hz : ws = [] := List.eq_nil_of_length_eq_zero (by omega)
      subst hz
      have hz' : ps = [] := List.eq_nil_of_length_eq_zero (by simpa using h3')
      subst hz'
      exact take_far_near [] [] len B R w g o g' o' q hk (fun w' hb hgr v => ⟨⟨v, rfl⟩, ⟨_, _, _, _, hb, by simp, by simp, rfl, RdS.nil, RdS.nil, h6, Nat.le_trans h7 hgr.size⟩, hgr⟩)
    · obtain ⟨q', rfl⟩ : ∃ q', c' = q' + 2 := ⟨c' - 2, by omega⟩
      exact take_far_far ws ps len B R w g o g' o' q q' ws.length hk (by omega) (by omega) (fun w' hb hgr v => ⟨⟨v, rfl⟩, ⟨_, _, _, _, hb, by omega, by omega, h3', far1 w' hgr, far2 w' hgr, h6, Nat.le_trans h7 hgr.size⟩, hgr⟩)
end Go.Proofs.YtfnlddloalineaaGreatDoor
namespace Go.Proofs.YtfnlddloalineaaGreatDoor
open Go.RowKit
set_option linter.unusedVariables false
theorem mk_inj {a b : List UInt8} (h : (⟨a.toArray⟩ : ByteArray) = ⟨b.toArray⟩) : a = b := by
  injection h with h
  simpa using h
theorem idxS_from (L : List (List UInt8)) (x : List UInt8) : ∀ i : Nat, Lib.idxFromS (L.map fun l => (⟨l.toArray⟩ : ByteArray)) ⟨x.toArray⟩ i = if idxW L x < 0 then -1 else (i : Int) + idxW L x := by
  induction L with
  | nil => intro i; simp [Lib.idxFromS, idxW]
  | cons y L ih =>
    intro i
    rw [idxW_cons, List.map_cons, Lib.idxFromS]
    by_cases h : y = x
    · subst h
      simp
    · have h1 : ¬ (⟨y.toArray⟩ : ByteArray) = ⟨x.toArray⟩ := fun e => h (mk_inj e)
      have h2 : (y == x) = false := by rw [beq_eq_false_iff_ne]; exact h
      rw [ih, h2]
      have hb := idxW_bd L x
      simp only [h1, if_false, Bool.false_eq_true]
      by_cases h3 : idxW L x < 0
      · simp [h3]
      · rw [if_neg h3, if_neg h3, if_neg (by omega)]
        omega
theorem idxS_eq (L : List (List UInt8)) (x : List UInt8) : Lib.idxOfS (L.map fun l => (⟨l.toArray⟩ : ByteArray)) ⟨x.toArray⟩ = idxW L x := by
  unfold Lib.idxOfS
  rw [idxS_from]
  have hb := idxW_bd L x
  split
  · omega
  · omega
set_option maxRecDepth 100000 in
set_option maxHeartbeats 1000000 in
theorem name_none (ps : List Int) (len : Int) (B R : Nat) (w : World) (v : Value) (wrong : Int) (h : Rdr w B R [] ps len) :
    Calls Tryz.prog 70 #[.pointer (some ⟨R, 0, none⟩), v, .int .i64 wrong] w fun e w' => e = .returned (.tuple #[.int .i64 0, .int .i64 3]) ∧ w = w' := by
  have HM := Lib.hid (more_any [] ps len B R w h)
  rw [show decide (0 < ([] : List (List UInt8)).length) = false from rfl] at HM
  clear h
  go_enter Tryz.func70, Tryz.ntmps70
  go_wp2_with fail
  refine HM.out.mono ?_
  rintro e wx ⟨rfl, rfl⟩
  go_wp2_with fail
  go_ret2
  exact ⟨rfl, rfl⟩
theorem index_any (L : List (List UInt8)) (x : List UInt8) (G n c : Nat) (w : World) (hk : ∀ j, j < L.length → w.cell? ⟨G, j, none⟩ = some (.string ⟨(L.getD j []).toArray⟩)) (hn : n ≤ L.length) (hl : L.length ≤ 1000) :
    Calls Tryz.prog 97 #[.slice (some ⟨G, 0, none⟩) n c, .string ⟨x.toArray⟩] w fun e w' => e = .returned (.int .i64 (idxW (L.take n) x)) ∧ w' = w := by
  have h := Tryz.slices_Index_string G 0 n c (L.map fun l => (⟨l.toArray⟩ : ByteArray)) ⟨x.toArray⟩ w (by simpa using hn) (by omega) (fun j hj => by
    have hj' : j < L.length := by simpa using hj
    rw [Nat.zero_add, hk j hj']
    simp [List.getD, hj'])
  rw [← List.map_take, idxS_eq] at h
  exact h
set_option maxRecDepth 100000 in
set_option maxHeartbeats 1000000 in
theorem name_bad (x : List UInt8) (ws : List (List UInt8)) (ps : List Int) (len : Int) (B R : Nat) (w : World) (L : List (List UInt8)) (G n c : Nat) (wrong : Int) (h : Rdr w B R (x :: ws) ps len)
    (hk : ∀ j, j < L.length → w.cell? ⟨G, j, none⟩ = some (.string ⟨(L.getD j []).toArray⟩)) (hn : n ≤ L.length) (hl : L.length ≤ 1000) (hx : idxW (L.take n) x < 0) :
    Calls Tryz.prog 70 #[.pointer (some ⟨R, 0, none⟩), .slice (some ⟨G, 0, none⟩) n c, .int .i64 wrong] w fun e w' => e = .returned (.tuple #[.int .i64 0, .int .i64 wrong]) ∧ w = w' := by
  have HM := Lib.hid (more_any (x :: ws) ps len B R w h)
  rw [show decide (0 < (x :: ws).length) = true by simp] at HM
  have HN := Lib.hid (next_any x ws ps len B R w h)
  have HI := Lib.hid (index_any L x G n c w hk hn hl)
  have z1 : decide (idxW (L.take n) x < 0) = true := by rw [decide_eq_true_eq]; exact hx
  generalize idxW (L.take n) x = i at *
  clear h hk hx
  go_enter Tryz.func70, Tryz.ntmps70
  go_wp2_with fail
  refine HM.out.mono ?_
  rintro e wx ⟨rfl, rfl⟩
  go_wp2_with fail
  refine HN.out.mono ?_
  rintro e wx ⟨rfl, rfl⟩
  go_wp2_with fail
  refine HI.out.mono ?_
  rintro e wx ⟨rfl, rfl⟩
  go_wp2_with fail
  go_ret2
  exact ⟨rfl, rfl⟩
def NameSays (B R : Nat) (ws : List (List UInt8)) (ps : List Int) (len i : Int) (w : World) (e : Ending) (w' : World) : Prop := e = .returned (.tuple #[.int .i64 i, .int .i64 0]) ∧ Rdr w' B R ws ps len ∧ w.grownBy w' (some R)
set_option maxRecDepth 100000 in
set_option maxHeartbeats 1000000 in
theorem name_ok (x : List UInt8) (ws : List (List UInt8)) (p : Int) (ps : List Int) (len : Int) (B R : Nat) (w : World) (L : List (List UInt8)) (G n c : Nat) (wrong : Int) (h : Rdr w B R (x :: ws) (p :: ps) len)
    (hk : ∀ j, j < L.length → w.cell? ⟨G, j, none⟩ = some (.string ⟨(L.getD j []).toArray⟩)) (hn : n ≤ L.length) (hl : L.length ≤ 1000) (hx : ¬ idxW (L.take n) x < 0) :
    Calls Tryz.prog 70 #[.pointer (some ⟨R, 0, none⟩), .slice (some ⟨G, 0, none⟩) n c, .int .i64 wrong] w (NameSays B R ws ps len (idxW (L.take n) x) w) := by
  have HM := Lib.hid (more_any (x :: ws) (p :: ps) len B R w h)
  rw [show decide (0 < (x :: ws).length) = true by simp] at HM
  have HN := Lib.hid (next_any x ws (p :: ps) len B R w h)
  have HI := Lib.hid (index_any L x G n c w hk hn hl)
  have HT := Lib.hid (take_any x ws p ps len B R w h)
  have z1 : decide (idxW (L.take n) x < 0) = false := by rw [decide_eq_false_iff_not]; exact hx
  generalize idxW (L.take n) x = i at *
  clear h hk hx
  go_enter Tryz.func70, Tryz.ntmps70
  go_wp2_with fail
  refine HM.out.mono ?_
  rintro e wx ⟨rfl, rfl⟩
  go_wp2_with fail
  refine HN.out.mono ?_
  rintro e wx ⟨rfl, rfl⟩
  go_wp2_with fail
  refine HI.out.mono ?_
  rintro e wx ⟨rfl, rfl⟩
  go_wp2_with fail
  refine HT.out.mono ?_
  rintro e w2 ⟨⟨v, rfl⟩, hr, hg⟩
  have HR := Lib.hid hr
  have HG := Lib.hid hg
  clear hr hg
  go_wp2_with fail
  go_ret2
  exact ⟨rfl, HR.out, HG.out⟩
/-- word: the next word is the one that is asked for -/
theorem word_yes (x : List UInt8) (ws : List (List UInt8)) (p : Int) (ps : List Int) (len : Int) (B R : Nat) (w : World) (h : Rdr w B R (x :: ws) (p :: ps) len) :
    Calls Tryz.prog 71 #[.pointer (some ⟨R, 0, none⟩), .string ⟨x.toArray⟩] w fun e w' => e = .returned (.bool true) ∧ Rdr w' B R ws ps len ∧ w.grownBy w' (some R) := by
  have HM := Lib.hid (more_any (x :: ws) (p :: ps) len B R w h)
  rw [show decide (0 < (x :: ws).length) = true by simp] at HM
  have HN := Lib.hid (next_any x ws (p :: ps) len B R w h)
  have HT := Lib.hid (take_any x ws p ps len B R w h)
  have q1 : (x == x) = true := by simp
  have q2 : (x != x) = false := by simp
  clear h
  go_enter Tryz.func71, Tryz.ntmps71
  go_wp2_with fail
  refine HM.out.mono ?_
  rintro e wx ⟨rfl, rfl⟩
  go_wp2_with fail
  refine HN.out.mono ?_
  rintro e wx ⟨rfl, rfl⟩
  go_wp2_with fail
  refine HT.out.mono ?_
  rintro e w2 ⟨⟨v, rfl⟩, hr, hg⟩
  have HR := Lib.hid hr
  have HG := Lib.hid hg
  clear hr hg
  go_wp2_with fail
  go_ret
  exact ⟨rfl, HR.out, HG.out⟩
theorem word_no (x y : List UInt8) (ws : List (List UInt8)) (ps : List Int) (len : Int) (B R : Nat) (w : World) (h : Rdr w B R (x :: ws) ps len) (hxy : x ≠ y) :
    Calls Tryz.prog 71 #[.pointer (some ⟨R, 0, none⟩), .string ⟨y.toArray⟩] w fun e w' => e = .returned (.bool false) ∧ w = w' := by
  have HM := Lib.hid (more_any (x :: ws) ps len B R w h)
  rw [show decide (0 < (x :: ws).length) = true by simp] at HM
  have HN := Lib.hid (next_any x ws ps len B R w h)
  have q1 : (x == y) = false := by rw [beq_eq_false_iff_ne]; exact hxy
  have q2 : (x != y) = true := by rw [bne, q1]; rfl
  clear h hxy
  go_enter Tryz.func71, Tryz.ntmps71
  go_wp2_with fail
  refine HM.out.mono ?_
  rintro e wx ⟨rfl, rfl⟩
  go_wp2_with fail
  refine HN.out.mono ?_
  rintro e wx ⟨rfl, rfl⟩
  go_wp2_with fail
  go_ret
  exact ⟨rfl, rfl⟩
theorem word_none (y : List UInt8) (ps : List Int) (len : Int) (B R : Nat) (w : World) (h : Rdr w B R [] ps len) :
    Calls Tryz.prog 71 #[.pointer (some ⟨R, 0, none⟩), .string ⟨y.toArray⟩] w fun e w' => e = .returned (.bool false) ∧ w = w' := by
  have HM := Lib.hid (more_any [] ps len B R w h)
  rw [show decide (0 < ([] : List (List UInt8)).length) = false from rfl] at HM
  clear h
  go_enter Tryz.func71, Tryz.ntmps71
  go_wp2_with fail
  refine HM.out.mono ?_
  rintro e wx ⟨rfl, rfl⟩
  go_wp2_with fail
  go_ret
  exact ⟨rfl, rfl⟩
end Go.Proofs.YtfnlddloalineaaGreatDoor
namespace Go.Proofs.YtfnlddloalineaaGreatDoor
open Go.RowKit
set_option linter.unusedVariables false
/-- the pieces of a text between the bytes c -/
def piecesL (c : UInt8) : List UInt8 → List (List UInt8)
  | [] => [[]]
  | b :: r => if b = c then [] :: piecesL c r else match piecesL c r with
    | [] => [[b]]
    | w :: ws => (b :: w) :: ws
theorem piecesL_ne (c : UInt8) (l : List UInt8) : piecesL c l ≠ [] := by
  cases l with
  | nil => simp [piecesL]
  | cons b r =>
    simp only [piecesL]
    split
    · simp
    · split <;> simp
theorem piecesL_no {c : UInt8} {l : List UInt8} (h : c ∉ l) : piecesL c l = [l] := by
  induction l with
  | nil => rfl
  | cons b r ih =>
    simp only [piecesL]
    rw [if_neg (fun e => h (by rw [e]; simp)), ih (fun hm => h (by simp [hm]))]
theorem piecesL_at {c : UInt8} {a b : List UInt8} (h : c ∉ a) : piecesL c (a ++ c :: b) = a :: piecesL c b := by
  induction a with
  | nil => simp [piecesL]
  | cons x r ih =>
    rw [List.cons_append]
    simp only [piecesL]
    rw [if_neg (fun e => h (by rw [e]; simp)), ih (fun hm => h (by simp [hm]))]
def plSum : List (List UInt8) → Nat
  | [] => 0
  | x :: r => x.length + 1 + plSum r
theorem pieces_sum (c : UInt8) (l : List UInt8) : plSum (piecesL c l) = l.length + 1 := by
  induction l with
  | nil => rfl
  | cons b r ih =>
    simp only [piecesL]
    split
    · simp only [plSum, ih, List.length_nil, List.length_cons]; omega
    · split
      · rename_i h; exact absurd h (piecesL_ne c r)
      · rename_i y ys h
        rw [h] at ih
        simp only [plSum, List.length_cons] at ih ⊢
        omega
/-- the place of the k-th word -/
def plS (ws : List (List UInt8)) (k : Nat) : Nat := plSum (ws.take k)
theorem plS_succ {ws : List (List UInt8)} {k : Nat} (h : k < ws.length) : plS ws (k + 1) = plS ws k + ((ws.getD k []).length + 1) := by
  unfold plS
  induction ws generalizing k with
  | nil => simp at h
  | cons x r ih =>
    cases k with
    | zero => simp [plSum]
    | succ k =>
      have := ih (k := k) (by simpa using h)
      simp only [List.take_succ_cons, plSum, List.getD_cons_succ]
      omega
theorem plS_le (ws : List (List UInt8)) (k : Nat) : plS ws k ≤ plSum ws := by
  unfold plS
  induction ws generalizing k with
  | nil => simp [plSum]
  | cons x r ih =>
    cases k with
    | zero => simp [plSum]
    | succ k =>
      have := ih k
      simp only [List.take_succ_cons, plSum]
      omega
theorem plSum_len (ws : List (List UInt8)) : ws.length ≤ plSum ws := by
  induction ws with
  | nil => simp
  | cons x r ih => simp only [plSum, List.length_cons]; omega
theorem splitK_pieces : ∀ (k : Nat) (l : List UInt8), l.count 32 ≤ k → Lib.splitK [32] 0 k l = piecesL 32 l := by
  intro k
  induction k with
  | zero =>
    intro l h
    have : (32 : UInt8) ∉ l := by
      intro hm
      have := List.count_pos_iff.2 hm
      omega
    rw [piecesL_no this]; rfl
  | succ k ih =>
    intro l h
    by_cases hm : (32 : UInt8) ∈ l
    · obtain ⟨a, b, rfl, ha⟩ := split_at hm
      have e1 := index_one_at (a := a) (b := b) ha
      have hc : b.count 32 ≤ k := by
        rw [List.count_append, List.count_cons_self] at h
        omega
      unfold Lib.splitK
      rw [e1, if_neg (by rw [beq_iff_eq]; omega), piecesL_at ha, ← ih b hc]
      congr 1
      · simp
      · congr 1
        simp
    · have e1 := index_one_no hm
      unfold Lib.splitK
      rw [e1, piecesL_no hm]; rfl
theorem split_pieces (l : List UInt8) : Lib.splitB ⟨#[32]⟩ 0 (Lib.countB ⟨l.toArray⟩ ⟨#[32]⟩) ⟨l.toArray⟩ = (piecesL 32 l).map fun x => (⟨x.toArray⟩ : ByteArray) := by
  have h := Lib.splitB_data ⟨#[32]⟩ 0 (Lib.countB ⟨l.toArray⟩ ⟨#[32]⟩) ⟨l.toArray⟩
  have e : Lib.splitK [32] 0 (Lib.countB ⟨l.toArray⟩ ⟨#[32]⟩) l = piecesL 32 l := by
    apply splitK_pieces
    show l.count 32 ≤ Lib.count l [32]
    rw [Lib.count_one]
    exact Nat.le_refl _
  have h2 : (Lib.splitB ⟨#[32]⟩ 0 (Lib.countB ⟨l.toArray⟩ ⟨#[32]⟩) ⟨l.toArray⟩).map (·.data.toList) = piecesL 32 l := h.trans e
  rw [← h2, List.map_map]
  conv => lhs; rw [← List.map_id (Lib.splitB ⟨#[32]⟩ 0 (Lib.countB ⟨l.toArray⟩ ⟨#[32]⟩) ⟨l.toArray⟩)]
  apply List.map_congr_left
  intro b _
  rfl
theorem split_any (l : List UInt8) (w : World) (hE : Env w) (hl : l.length ≤ 4294967000) :
    Calls Tryz.prog 69 #[.string ⟨l.toArray⟩, .string ⟨#[32]⟩] w fun e w' => e = .returned (.slice (some ⟨w.heap.size, 0, none⟩) (piecesL 32 l).length (piecesL 32 l).length) ∧ Blk w' w.heap.size 9 ((piecesL 32 l).map strV).toArray ∧ Below w.heap.size w w' := by
  obtain ⟨m, hm⟩ := hE.maxlen
  refine (Tryz.strings_Split ⟨l.toArray⟩ ⟨#[32]⟩ m w (by rw [mk_size]; omega) hm (by decide)).mono ?_
  rintro e w1 ⟨rfl, rfl⟩
  have hn := Lib.splitB_all ⟨#[32]⟩ (by decide) 0 _ ⟨l.toArray⟩ rfl
  rw [split_pieces, List.length_map] at hn
  refine ⟨by rw [hn], ?_, (Below.refl w.heap.size w).alloc (Nat.le_refl _) _⟩
  rw [split_pieces, List.map_map]
  exact Blk.new w _ _
end Go.Proofs.YtfnlddloalineaaGreatDoor
namespace Go.Proofs.YtfnlddloalineaaGreatDoor
open Go.RowKit
set_option linter.unusedVariables false
/-- the places of the first k words -/
def plL (ws : List (List UInt8)) (k : Nat) : List Int := (List.range k).map fun i => (plS ws i : Int)
theorem plL_succ (ws : List (List UInt8)) (k : Nat) : plL ws (k + 1) = plL ws k ++ [(plS ws k : Int)] := by
  unfold plL
  rw [List.range_succ, List.map_append]
  rfl
theorem plL_len (ws : List (List UInt8)) (k : Nat) : (plL ws k).length = k := by simp [plL]
theorem info_int : (Tryz.prog.info? 3).map (fun i => (i.zero, i.size, i.bytes)) = some (some (.int .i64 0), 1, 8) := by kernel_rfl
theorem int_one (z : Int) : ∀ u ∈ ([.int .i64 z] : List Value), u.oneCell' = true := by
  intro u hu
  rw [List.mem_singleton] at hu
  subst hu; rfl
/-- what newReader hands back -/
def NewSays (l : List UInt8) (w : World) (e : Ending) (w' : World) : Prop :=
  ∃ B R, e = .returned (.pointer (some ⟨R, 0, none⟩)) ∧ w.heap.size ≤ R ∧ Rdr w' B R (piecesL 32 l) (plL (piecesL 32 l) (piecesL 32 l).length) l.length ∧ Below w.heap.size w w'
set_option maxRecDepth 100000 in
set_option maxHeartbeats 2000000 in
theorem newReader_any (l : List UInt8) (w : World) (hE : Env w) (hl : l.length ≤ 1000) : Calls Tryz.prog 32 #[.string ⟨l.toArray⟩] w (NewSays l w) := by
  obtain ⟨i0, hi0, hz0, hz1, hz2⟩ := info_parts info_int
  have HSP := Lib.hid (split_any l w hE (by omega))
  have hsum := pieces_sum 32 l
  have hlen := plSum_len (piecesL 32 l)
  obtain ⟨ws, hws⟩ : ∃ ws, piecesL 32 l = ws := ⟨_, rfl⟩
  rw [hws] at HSP hsum hlen
  have HWS := Lib.hid hws
  have HPL : Hid (∀ k, plS ws k ≤ 1001) := fun k => by have := plS_le ws k; omega
  have hwl : ws.length ≤ 1001 := by omega
  clear hws hsum hlen
  go_enter Tryz.func32, Tryz.ntmps32
  go_wp2_with fail
  refine HSP.out.mono ?_
  rintro e w1 ⟨rfl, hk, hb⟩
  have HG1 := Lib.hid hk
  have HB1 := Lib.hid hb
  have hg1 : w.heap.size < w1.heap.size := hk.lt
  clear hk hb HSP
  have HR2 := Lib.hid (Blk.new w1 132 #[.slice (some ⟨w.heap.size, 0, none⟩) ws.length ws.length, .slice none 0 0, .int .i64 (l.length : Int)])
  have HG2 := Lib.hid (HG1.out.alloc (.cells (#[.slice (some ⟨w.heap.size, 0, none⟩) ws.length ws.length, .slice none 0 0, .int .i64 (l.length : Int)] : Array Value) 132))
  have HB2 := Lib.hid (HB1.out.alloc HB1.out.size (.cells (#[.slice (some ⟨w.heap.size, 0, none⟩) ws.length ws.length, .slice none 0 0, .int .i64 (l.length : Int)] : Array Value) 132))
  obtain ⟨x0, x1, x2⟩ := rd_cells HR2.out
  clear HG1 HB1
  generalize hR : w1.heap.size = R at *
  have hRlt := HR2.out.lt
  go_wp2_with fail
  go_loopw [4, 18] (fun a i wr => ∃ (k : Nat) (v : Value), k ≤ ws.length ∧ i = .int .i64 (k : Int) ∧ a = .int .i64 (plS ws k : Int) ∧ Blk wr R 132 #[.slice (some ⟨w.heap.size, 0, none⟩) ws.length ws.length, v, .int .i64 (l.length : Int)] ∧ wr.ownsRow (R + 1) 3 1 v k ((plL ws k).map intV) ∧ Blk wr w.heap.size 9 (ws.map strV).toArray ∧ Below w.heap.size w wr) (fun _ i _ => ws.length - (intOf i).toNat)
  case atStart => exact ⟨0, _, Nat.zero_le _, rfl, rfl, HR2.out, World.ownsRow_nil _ _ _ _, HG2.out, HB2.out⟩
  case round =>
    clear HR2 HG2 HB2 x0 x1 x2 hRlt hR
    obtain ⟨k, v, hk, rfl, rfl, hr, hown, hgk, hbr⟩ := hrel
    obtain ⟨wo, rfl⟩ : ∃ wo : World, wo = wr := ⟨_, rfl⟩
    have HR := Lib.hid hr
    have HO := Lib.hid hown
    have HG := Lib.hid hgk
    have HB := Lib.hid hbr
    have hRlt : R < wo.heap.size := hr.lt
    clear hr hown hgk hbr
    by_cases hlt : k < ws.length
    · have k1 : decide ((k : Int) < (ws.length : Int)) = true := by rw [decide_eq_true_eq]; omega
      have k2 : decide (k < ws.length) = true := by rw [decide_eq_true_eq]; omega
      have b1 : (k : Int) < (ws.length : Int) := by omega
      have d0 := word_cell HG.out hlt
      have PS := Lib.hid (plS_succ hlt)
      have p1 := HPL.out k
      have p2 := HPL.out (k + 1)
      have p3 := PS.out
      generalize ws.getD k [] = x at *
      have hxl : x.length ≤ 1001 := by omega
      clear p3 p2
      have PL := Lib.hid (plL_succ ws k)
      obtain ⟨A, c, rfl⟩ := own_slice HO.out
      obtain ⟨x0, x1, x2⟩ := rd_cells HR.out
      generalize plS ws k = pk at *
      go_wp2_with (at_builtin; refine wpList_append_any _ rfl (.tmp 26) (.tmp 28) _ rfl (R + 1) 3 i0 _ 1 8 Tryz.underlying23 hi0 hz0 hz1 hz2 rfl (by omega) _ k ((plL ws k).map intV) rfl (HO.out.alloc _) (wo.heap.size + 1) (some ⟨wo.heap.size, 0, none⟩) 1 1 [.int .i64 (pk : Int)] rfl (reads_one wo #[.int .i64 (pk : Int)] 3 1 rfl) (int_one _) (by simp only [maxLen]; omega) (by omega) (by simp only [World.size_alloc]; omega) ?_; intro v4 w4 hown4 hg4 hat4; obtain ⟨A4, c4, rfl⟩ := own_slice hown4; have hr4 := (HR.out.alloc (.cells (#[.int .i64 (pk : Int)] : Array Value) 3)).grown hg4 (fun h => own_blk_ne HO.out HR.out (by decide) h.symm); obtain ⟨y0, y1, y2⟩ := rd_cells hr4; have f4 := hr4.frozen)
      have HG4 := Lib.hid ((HG.out.alloc (.cells (#[.int .i64 (pk : Int)] : Array Value) 3)).grown hg4 (fun h => own_blk_ne HO.out HG.out (by decide) h.symm))
      have HB4 := Lib.hid ((HB.out.alloc HB.out.size (.cells (#[.int .i64 (pk : Int)] : Array Value) 3)).grown hg4 (by simp only [World.size_alloc]; have := HB.out.size; omega) (fun k hk => by have := own_base HO.out k hk; omega))
      have hne := own_blk_ne hown4 hr4 (by decide)
      have HR5 : Hid (Blk (w4.setCell ⟨R, 1, none⟩ (.slice A4 (k + 1) c4)) R 132 #[.slice (some ⟨w.heap.size, 0, none⟩) ws.length ws.length, .slice A4 (k + 1) c4, .int .i64 (l.length : Int)]) := by
        show Blk _ _ _ _
        have := hr4.set_ 1 (.slice A4 (k + 1) c4)
        simpa using this
      have HO5 := Lib.hid (ownsRow_setCell_other hown4 (a := ⟨R, 1, none⟩) hne (.slice A4 (k + 1) c4))
      have HG5 := Lib.hid (HG4.out.far (p := ⟨R, 1, none⟩) (by simp only []; omega) (.slice A4 (k + 1) c4))
      have HB5 := Lib.hid (HB4.out.setCell (p := ⟨R, 1, none⟩) (by simp only []; omega) (.slice A4 (k + 1) c4))
      clear hr4 hown4 hg4 hat4 hne HG4 HB4
      go_wp2_with fail
      go_roundw
      case rel => exact ⟨k + 1, _, by omega, by go_num, by rw [PS.out]; go_num, HR5.out, by rw [PL.out, List.map_append]; exact HO5.out, HG5.out, HB5.out⟩
      case measure => simp [intOf]; omega
    · have k1 : decide ((k : Int) < (ws.length : Int)) = false := by rw [decide_eq_false_iff_not]; omega
      have k2 : decide (k < ws.length) = false := by rw [decide_eq_false_iff_not]; omega
      obtain rfl : k = ws.length := by omega
      go_wp2_with fail
      go_ret
      obtain ⟨A, c, rfl⟩ := own_slice HO.out
      refine ⟨wo.heap.size, R, rfl, by omega, ?_, HB.out⟩
      rw [HWS.out]
      refine ⟨some ⟨w.heap.size, 0, none⟩, ws.length, A, c, HR.out, Nat.le_refl _, ?_, plL_len ws _, fun _ => ⟨w.heap.size, 0, rfl, by omega, HG.out.lt, fun j u hu => ?_⟩, fun hx => ?_, hRlt, Nat.le_refl _⟩
      · have := HO.out.2
        rcases this with ⟨h1, h2⟩ | ⟨g, cap, cur, h1, _, _, h3, _⟩
        · injection h1 with _ h1; omega
        · injection h1 with _ _ h1; omega
      · rw [Nat.zero_add, HG.out.cell j]
        simpa using hu
      · have hpos : 0 < ws.length := by
          rcases Nat.eq_zero_or_pos ws.length with h | h
          · exact absurd (by rw [h]; rfl) hx
          · exact h
        obtain ⟨g, cap, hv, hgb, hglt⟩ := HO.out.form hpos
        injection hv with hv
        subst hv
        refine ⟨g, 0, rfl, by omega, hglt, fun j u hu => ?_⟩
        have e : (⟨g, 0, none⟩ : Addr).add j = ⟨g, 0 + j, none⟩ := by unfold Addr.add; split <;> simp_all
        have := HO.out.cells (g := g) rfl j u hu
        rwa [e] at this
end Go.Proofs.YtfnlddloalineaaGreatDoor
