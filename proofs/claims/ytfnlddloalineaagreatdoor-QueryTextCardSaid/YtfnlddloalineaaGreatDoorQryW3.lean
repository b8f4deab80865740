/-
  The program's reader: take. (printed by a short program; the four ways: is the last word's capacity used up?)
-/
import Derived.Test.YtfnlddloalineaaGreatDoorQryW2
namespace Go.Proofs.YtfnlddloalineaaGreatDoor
open Go.RowKit
set_option linter.unusedVariables false
def TakeSays (B R : Nat) (ws : List (List UInt8)) (ps : List Int) (len : Int) (w : World) (e : Ending) (w' : World) : Prop := (∃ v, e = .returned v) ∧ Rdr w' B R ws ps len ∧ w.grownBy w' (some R)
theorem grown_set {w w1 : World} {R : Nat} (h : w.grownBy w1 (some R)) (j : Nat) (v : Value) : w.grownBy (w1.setCell ⟨R, j, none⟩ v) (some R) :=
  ⟨h.os, h.tape, h.output, by have := h.size; simpa using this, fun i hi hne => (Below.heap_setCell w1 ⟨R, j, none⟩ v i (fun e => hne (by rw [e]))).trans (h.block i hi hne)⟩
theorem grown_drew {w w1 : World} {R : Option Nat} (h : w.grownBy w1 R) : w.grownBy w1.drew R := ⟨h.os, h.tape, h.output, h.size, h.block⟩
set_option maxRecDepth 100000 in
set_option maxHeartbeats 2000000 in
theorem take_far_far (ws : List (List UInt8)) (ps : List Int) (len : Int) (B R : Nat) (w : World) (g o g' o' q q' n : Nat)
    (hk : Blk w R 132 #[.slice (some ⟨g, o, none⟩) (n + 1) (q + 2), .slice (some ⟨g', o', none⟩) (n + 1) (q' + 2), .int .i64 len]) (hn1 : n ≤ q + 1) (hn2 : n ≤ q' + 1)
    (HEND : ∀ w' : World, Blk w' R 132 #[.slice (some ⟨g, o + 1, none⟩) n (q + 1), .slice (some ⟨g', o' + 1, none⟩) n (q' + 1), .int .i64 len] → w.grownBy w' (some R) → ∀ v, TakeSays B R ws ps len w (.returned v) w') :
    Calls Tryz.prog 99 #[.pointer (some ⟨R, 0, none⟩)] w (TakeSays B R ws ps len w) := by
  obtain ⟨x0, x1, x2⟩ := rd_cells hk
  have f0 := hk.frozen
  have HK := Lib.hid hk
  have HE := Lib.hid HEND
  clear hk HEND
  have z1 : (1 : Int) ≤ (n : Int) + 1 := by omega
  go_enter Tryz.func99, Tryz.ntmps99
  go_wp2_with fail
  go_region
  have hb : Blk (((w.setCell ⟨R, 0, none⟩ (.slice (some ⟨g, o + 1, none⟩) n (q + 1))).setCell ⟨R, 1, none⟩ (.slice (some ⟨g', o' + 1, none⟩) n (q' + 1))).drew) R 132 #[.slice (some ⟨g, o + 1, none⟩) n (q + 1), .slice (some ⟨g', o' + 1, none⟩) n (q' + 1), .int .i64 len] := by
    have := ((HK.out.set_ 0 (.slice (some ⟨g, o + 1, none⟩) n (q + 1))).set_ 1 (.slice (some ⟨g', o' + 1, none⟩) n (q' + 1))).drew
    simpa using this
  have hg := grown_drew (grown_set (grown_set (World.grownBy.refl w (some R)) 0 (.slice (some ⟨g, o + 1, none⟩) n (q + 1))) 1 (.slice (some ⟨g', o' + 1, none⟩) n (q' + 1)))
  refine bodyPost_ret (results_none rfl _ _ _) rfl ?_
  exact HE.out _ hb hg _
set_option maxRecDepth 100000 in
set_option maxHeartbeats 2000000 in
theorem take_far_near (ws : List (List UInt8)) (ps : List Int) (len : Int) (B R : Nat) (w : World) (g o g' o' q : Nat)
    (hk : Blk w R 132 #[.slice (some ⟨g, o, none⟩) 1 (q + 2), .slice (some ⟨g', o', none⟩) 1 1, .int .i64 len])
    (HEND : ∀ w' : World, Blk w' R 132 #[.slice (some ⟨g, o + 1, none⟩) 0 (q + 1), .slice (some ⟨g', o', none⟩) 0 0, .int .i64 len] → w.grownBy w' (some R) → ∀ v, TakeSays B R ws ps len w (.returned v) w') :
    Calls Tryz.prog 99 #[.pointer (some ⟨R, 0, none⟩)] w (TakeSays B R ws ps len w) := by
  obtain ⟨x0, x1, x2⟩ := rd_cells hk
  have f0 := hk.frozen
  have HK := Lib.hid hk
  have HE := Lib.hid HEND
  clear hk HEND
  skip
  go_enter Tryz.func99, Tryz.ntmps99
  go_wp2_with fail
  go_region
  have hb : Blk (((w.setCell ⟨R, 0, none⟩ (.slice (some ⟨g, o + 1, none⟩) 0 (q + 1))).setCell ⟨R, 1, none⟩ (.slice (some ⟨g', o', none⟩) 0 0)).drew) R 132 #[.slice (some ⟨g, o + 1, none⟩) 0 (q + 1), .slice (some ⟨g', o', none⟩) 0 0, .int .i64 len] := by
    have := ((HK.out.set_ 0 (.slice (some ⟨g, o + 1, none⟩) 0 (q + 1))).set_ 1 (.slice (some ⟨g', o', none⟩) 0 0)).drew
    simpa using this
  have hg := grown_drew (grown_set (grown_set (World.grownBy.refl w (some R)) 0 (.slice (some ⟨g, o + 1, none⟩) 0 (q + 1))) 1 (.slice (some ⟨g', o', none⟩) 0 0))
  refine bodyPost_ret (results_none rfl _ _ _) rfl ?_
  exact HE.out _ hb hg _
set_option maxRecDepth 100000 in
set_option maxHeartbeats 2000000 in
theorem take_near_far (ws : List (List UInt8)) (ps : List Int) (len : Int) (B R : Nat) (w : World) (g o g' o' q' : Nat)
    (hk : Blk w R 132 #[.slice (some ⟨g, o, none⟩) 1 1, .slice (some ⟨g', o', none⟩) 1 (q' + 2), .int .i64 len])
    (HEND : ∀ w' : World, Blk w' R 132 #[.slice (some ⟨g, o, none⟩) 0 0, .slice (some ⟨g', o' + 1, none⟩) 0 (q' + 1), .int .i64 len] → w.grownBy w' (some R) → ∀ v, TakeSays B R ws ps len w (.returned v) w') :
    Calls Tryz.prog 99 #[.pointer (some ⟨R, 0, none⟩)] w (TakeSays B R ws ps len w) := by
  obtain ⟨x0, x1, x2⟩ := rd_cells hk
  have f0 := hk.frozen
  have HK := Lib.hid hk
  have HE := Lib.hid HEND
  clear hk HEND
  skip
  go_enter Tryz.func99, Tryz.ntmps99
  go_wp2_with fail
  go_region
  have hb : Blk (((w.setCell ⟨R, 0, none⟩ (.slice (some ⟨g, o, none⟩) 0 0)).setCell ⟨R, 1, none⟩ (.slice (some ⟨g', o' + 1, none⟩) 0 (q' + 1))).drew) R 132 #[.slice (some ⟨g, o, none⟩) 0 0, .slice (some ⟨g', o' + 1, none⟩) 0 (q' + 1), .int .i64 len] := by
    have := ((HK.out.set_ 0 (.slice (some ⟨g, o, none⟩) 0 0)).set_ 1 (.slice (some ⟨g', o' + 1, none⟩) 0 (q' + 1))).drew
    simpa using this
  have hg := grown_drew (grown_set (grown_set (World.grownBy.refl w (some R)) 0 (.slice (some ⟨g, o, none⟩) 0 0)) 1 (.slice (some ⟨g', o' + 1, none⟩) 0 (q' + 1)))
  refine bodyPost_ret (results_none rfl _ _ _) rfl ?_
  exact HE.out _ hb hg _
set_option maxRecDepth 100000 in
set_option maxHeartbeats 2000000 in
theorem take_near_near (ws : List (List UInt8)) (ps : List Int) (len : Int) (B R : Nat) (w : World) (g o g' o' : Nat)
    (hk : Blk w R 132 #[.slice (some ⟨g, o, none⟩) 1 1, .slice (some ⟨g', o', none⟩) 1 1, .int .i64 len])
    (HEND : ∀ w' : World, Blk w' R 132 #[.slice (some ⟨g, o, none⟩) 0 0, .slice (some ⟨g', o', none⟩) 0 0, .int .i64 len] → w.grownBy w' (some R) → ∀ v, TakeSays B R ws ps len w (.returned v) w') :
    Calls Tryz.prog 99 #[.pointer (some ⟨R, 0, none⟩)] w (TakeSays B R ws ps len w) := by
  obtain ⟨x0, x1, x2⟩ := rd_cells hk
  have f0 := hk.frozen
  have HK := Lib.hid hk
  have HE := Lib.hid HEND
  clear hk HEND
  skip
  go_enter Tryz.func99, Tryz.ntmps99
  go_wp2_with fail
  go_region
  have hb : Blk (((w.setCell ⟨R, 0, none⟩ (.slice (some ⟨g, o, none⟩) 0 0)).setCell ⟨R, 1, none⟩ (.slice (some ⟨g', o', none⟩) 0 0)).drew) R 132 #[.slice (some ⟨g, o, none⟩) 0 0, .slice (some ⟨g', o', none⟩) 0 0, .int .i64 len] := by
    have := ((HK.out.set_ 0 (.slice (some ⟨g, o, none⟩) 0 0)).set_ 1 (.slice (some ⟨g', o', none⟩) 0 0)).drew
    simpa using this
  have hg := grown_drew (grown_set (grown_set (World.grownBy.refl w (some R)) 0 (.slice (some ⟨g, o, none⟩) 0 0)) 1 (.slice (some ⟨g', o', none⟩) 0 0))
  refine bodyPost_ret (results_none rfl _ _ _) rfl ?_
  exact HE.out _ hb hg _
theorem RdS.nil {w : World} {B R : Nat} {A : Option Addr} : RdS w B R A [] := fun h => absurd rfl h
theorem take_any (x : List UInt8) (ws : List (List UInt8)) (p : Int) (ps : List Int) (len : Int) (B R : Nat) (w : World) (h : Rdr w B R (x :: ws) (p :: ps) len) :
    Calls Tryz.prog 99 #[.pointer (some ⟨R, 0, none⟩)] w (TakeSays B R ws ps len w) := by
  obtain ⟨A, c, A', c', hk, h1, h2, h3, h4, h5, h6, h7⟩ := h
  obtain ⟨g, o, rfl, hg, hlt, _, hc⟩ := RdS.head h4
  obtain ⟨g', o', rfl, hg', hlt', _, hc'⟩ := RdS.head h5
  rw [List.length_cons] at hk h1 h2
  have h3' : ps.length = ws.length := by simpa using h3
  have far1 : ∀ w' : World, w.grownBy w' (some R) → RdS w' B R (some ⟨g, o + 1, none⟩) (ws.map strV) := fun w' hgr _ =>
    ⟨g, o + 1, rfl, hg, hlt, fun j u hu => (World.cell?_of_block (hgr.block g (Nat.lt_of_lt_of_le hlt h7) (fun e => hg (by injection e)))).trans (hc j u hu)⟩
  have far2 : ∀ w' : World, w.grownBy w' (some R) → RdS w' B R (some ⟨g', o' + 1, none⟩) (ps.map intV) := fun w' hgr _ =>
    ⟨g', o' + 1, rfl, hg', hlt', fun j u hu => (World.cell?_of_block (hgr.block g' (Nat.lt_of_lt_of_le hlt' h7) (fun e => hg' (by injection e)))).trans (hc' j u hu)⟩
  by_cases e1 : c = 1
  · subst e1
    have hz : ws = [] := List.eq_nil_of_length_eq_zero (by omega)
    subst hz
    have hz' : ps = [] := List.eq_nil_of_length_eq_zero (by simpa using h3')
    subst hz'
    by_cases e2 : c' = 1
    · subst e2
      exact take_near_near [] [] len B R w g o g' o' hk (fun w' hb hgr v => ⟨⟨v, rfl⟩, ⟨_, _, _, _, hb, by simp, by simp, rfl, RdS.nil, RdS.nil, h6, Nat.le_trans h7 hgr.size⟩, hgr⟩)
    · obtain ⟨q', rfl⟩ : ∃ q', c' = q' + 2 := ⟨c' - 2, by omega⟩
      exact take_near_far [] [] len B R w g o g' o' q' hk (fun w' hb hgr v => ⟨⟨v, rfl⟩, ⟨_, _, _, _, hb, by simp, by simp, rfl, RdS.nil, RdS.nil, h6, Nat.le_trans h7 hgr.size⟩, hgr⟩)
  · obtain ⟨q, rfl⟩ : ∃ q, c = q + 2 := ⟨c - 2, by omega⟩
    by_cases e2 : c' = 1
    · subst e2
      have hz : ws = [] := List.eq_nil_of_length_eq_zero (by omega)
      subst hz
      have hz' : ps = [] := List.eq_nil_of_length_eq_zero (by simpa using h3')
      subst hz'
      exact take_far_near [] [] len B R w g o g' o' q hk (fun w' hb hgr v => ⟨⟨v, rfl⟩, ⟨_, _, _, _, hb, by simp, by simp, rfl, RdS.nil, RdS.nil, h6, Nat.le_trans h7 hgr.size⟩, hgr⟩)
    · obtain ⟨q', rfl⟩ : ∃ q', c' = q' + 2 := ⟨c' - 2, by omega⟩
      exact take_far_far ws ps len B R w g o g' o' q q' ws.length hk (by omega) (by omega) (fun w' hb hgr v => ⟨⟨v, rfl⟩, ⟨_, _, _, _, hb, by omega, by omega, h3', far1 w' hgr, far2 w' hgr, h6, Nat.le_trans h7 hgr.size⟩, hgr⟩)
end Go.Proofs.YtfnlddloalineaaGreatDoor
