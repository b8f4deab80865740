/-
  The program's reader in memory; more, next, at.
-/
import Derived.Test.YtfnlddloalineaaGreatDoorQryW1
import Derived.BigRegion
namespace Go.Proofs.YtfnlddloalineaaGreatDoor
open Go.RowKit
set_option linter.unusedVariables false
def intV (x : Int) : Value := .int .i64 x
/-- what a slice of the reader reads as -/
def RdS (w : World) (B R : Nat) (A : Option Addr) (xs : List Value) : Prop :=
  xs ≠ [] → ∃ g o, A = some ⟨g, o, none⟩ ∧ g ≠ R ∧ g < B ∧ ∀ j u, xs[j]? = some u → w.cell? ⟨g, o + j, none⟩ = some u
/-- the reader: the words that are left, their places, the length of the text -/
def Rdr (w : World) (B R : Nat) (ws : List (List UInt8)) (ps : List Int) (len : Int) : Prop :=
  ∃ A c A' c', Blk w R 132 #[.slice A ws.length c, .slice A' ws.length c', .int .i64 len] ∧ ws.length ≤ c ∧ ws.length ≤ c' ∧ ps.length = ws.length ∧ RdS w B R A (ws.map strV) ∧ RdS w B R A' (ps.map intV) ∧ R < B ∧ B ≤ w.heap.size
theorem RdS.grown {w w' : World} {B R : Nat} {A : Option Addr} {xs : List Value} (h : RdS w B R A xs) (hB : B ≤ w.heap.size) (hg : w.grownBy w' (some R)) : RdS w' B R A xs := fun hx => by
  obtain ⟨g, o, e, hne, hlt, hc⟩ := h hx
  exact ⟨g, o, e, hne, hlt, fun j u hu => (World.cell?_of_block (hg.block g (by omega) (fun e => hne (by injection e)))).trans (hc j u hu)⟩
theorem RdS.below {w w' : World} {B R : Nat} {A : Option Addr} {xs : List Value} (h : RdS w B R A xs) (hb : Below B w w') : RdS w' B R A xs := fun hx => by
  obtain ⟨g, o, e, hne, hlt, hc⟩ := h hx
  exact ⟨g, o, e, hne, hlt, fun j u hu => (hb.cell (p := ⟨g, o + j, none⟩) hlt).trans (hc j u hu)⟩
theorem Rdr.low {w w' : World} {B R : Nat} {ws : List (List UInt8)} {ps : List Int} {len : Int} (h : Rdr w B R ws ps len) (hb : Below B w w') : Rdr w' B R ws ps len := by
  obtain ⟨A, c, A', c', hk, h1, h2, h3, h4, h5, h6, h7⟩ := h
  exact ⟨A, c, A', c', hk.below hb h6, h1, h2, h3, h4.below hb, h5.below hb, h6, Nat.le_trans h7 hb.size⟩
theorem Rdr.below {w w' : World} {B R : Nat} {ws : List (List UInt8)} {ps : List Int} {len : Int} (h : Rdr w B R ws ps len) (hb : Below w.heap.size w w') : Rdr w' B R ws ps len := by
  have h7 : B ≤ w.heap.size := by obtain ⟨_, _, _, _, _, _, _, _, _, _, _, h7⟩ := h; exact h7
  exact h.low (hb.mono h7)
theorem rd_cells {w : World} {g : Nat} {T : TypeId} {a b c : Value} (h : Blk w g T #[a, b, c]) : w.cell? ⟨g, 0, none⟩ = some a ∧ w.cell? ⟨g, 1, none⟩ = some b ∧ w.cell? ⟨g, 2, none⟩ = some c := ⟨h.cell 0, h.cell 1, h.cell 2⟩
set_option maxRecDepth 100000 in
set_option maxHeartbeats 1000000 in
theorem more_any (ws : List (List UInt8)) (ps : List Int) (len : Int) (B R : Nat) (w : World) (h : Rdr w B R ws ps len) :
    Calls Tryz.prog 73 #[.pointer (some ⟨R, 0, none⟩)] w fun e w' => e = .returned (.bool (decide (0 < ws.length))) ∧ w = w' := by
  obtain ⟨A, c, A', c', hk, h1, h2, h3, h4, h5, h6, h7⟩ := h
  obtain ⟨x0, x1, x2⟩ := rd_cells hk
  clear hk h4 h5 h3
  generalize ws.length = n at *
  by_cases hn : 0 < n
  · have z1 : decide ((0 : Int) < (n : Int)) = true := by rw [decide_eq_true_eq]; omega
    have z2 : decide (0 < n) = true := by rw [decide_eq_true_eq]; exact hn
    rw [z2]
    go_enter Tryz.func73, Tryz.ntmps73
    go_wp2_with fail
    go_ret
    exact ⟨rfl, rfl⟩
  · have z1 : decide ((0 : Int) < (n : Int)) = false := by rw [decide_eq_false_iff_not]; omega
    have z2 : decide (0 < n) = false := by rw [decide_eq_false_iff_not]; exact hn
    rw [z2]
    go_enter Tryz.func73, Tryz.ntmps73
    go_wp2_with fail
    go_ret
    exact ⟨rfl, rfl⟩
theorem RdS.head {w : World} {B R : Nat} {A : Option Addr} {x : Value} {xs : List Value} (h : RdS w B R A (x :: xs)) : ∃ g o, A = some ⟨g, o, none⟩ ∧ g ≠ R ∧ g < B ∧ w.cell? ⟨g, o, none⟩ = some x ∧ ∀ j u, xs[j]? = some u → w.cell? ⟨g, o + 1 + j, none⟩ = some u := by
  obtain ⟨g, o, e, h1, h2, hc⟩ := h (by simp)
  refine ⟨g, o, e, h1, h2, ?_, fun j u hu => ?_⟩
  · have := hc 0 x rfl
    simpa using this
  · have := hc (j + 1) u (by simpa using hu)
    rwa [show o + (j + 1) = o + 1 + j by omega] at this
set_option maxRecDepth 100000 in
set_option maxHeartbeats 1000000 in
theorem next_any (x : List UInt8) (ws : List (List UInt8)) (ps : List Int) (len : Int) (B R : Nat) (w : World) (h : Rdr w B R (x :: ws) ps len) :
    Calls Tryz.prog 98 #[.pointer (some ⟨R, 0, none⟩)] w fun e w' => e = .returned (.string ⟨x.toArray⟩) ∧ w = w' := by
  obtain ⟨A, c, A', c', hk, h1, h2, h3, h4, h5, h6, h7⟩ := h
  obtain ⟨x0, x1, x2⟩ := rd_cells hk
  obtain ⟨g, o, rfl, _, hg, hc, _⟩ := RdS.head h4
  have hc' : w.cell? ⟨g, o, none⟩ = some (.string ⟨x.toArray⟩) := hc
  clear hk h4 h5 h3 hc
  have hn : 0 < (x :: ws).length := by simp
  generalize (x :: ws).length = n at *
  have z1 : (0 : Int) < (n : Int) := by omega
  go_enter Tryz.func98, Tryz.ntmps98
  go_wp2_with fail
  go_ret
  exact ⟨rfl, rfl⟩
set_option maxRecDepth 100000 in
set_option maxHeartbeats 1000000 in
theorem at_any (ws : List (List UInt8)) (ps : List Int) (len : Int) (B R : Nat) (w : World) (h : Rdr w B R ws ps len) :
    Calls Tryz.prog 34 #[.pointer (some ⟨R, 0, none⟩)] w fun e w' => e = .returned (.int .i64 (ps.headD len)) ∧ w = w' := by
  have HM := Lib.hid (more_any ws ps len B R w h)
  obtain ⟨A, c, A', c', hk, h1, h2, h3, h4, h5, h6, h7⟩ := h
  obtain ⟨x0, x1, x2⟩ := rd_cells hk
  cases ps with
  | nil =>
    have hn : decide (0 < ws.length) = false := by rw [decide_eq_false_iff_not, ← h3]; simp
    rw [hn] at HM
    clear hk h4 h5 h3 hn
    generalize ws.length = n at *
    go_enter Tryz.func34, Tryz.ntmps34
    go_wp2_with fail
    refine HM.out.mono ?_
    rintro e wx ⟨rfl, rfl⟩
    go_wp2_with fail
    go_ret
    exact ⟨rfl, rfl⟩
  | cons p ps =>
    have hl : 0 < ws.length := by rw [← h3]; simp
    have hn : decide (0 < ws.length) = true := by rw [decide_eq_true_eq]; exact hl
    rw [hn] at HM
    obtain ⟨g, o, rfl, _, hg, hc, _⟩ := RdS.head h5
    have hc' : w.cell? ⟨g, o, none⟩ = some (.int .i64 p) := hc
    clear hk h4 h5 h3 hc hn
    generalize ws.length = n at *
    have z1 : (0 : Int) < (n : Int) := by omega
    go_enter Tryz.func34, Tryz.ntmps34
    go_wp2_with fail
    refine HM.out.mono ?_
    rintro e wx ⟨rfl, rfl⟩
    go_wp2_with fail
    go_ret
    exact ⟨rfl, rfl⟩
end Go.Proofs.YtfnlddloalineaaGreatDoor
