/-
  The reference's reader: its state; fail, next, more.   The reference's reader: next.   The reference's integer.   The reference's operand: plain laws on integers, and the walk.
  The reference's operand.   The reference's cond: the first half.
-/
import Derived.Test.YtfnlddloalineaaGreatDoorQryA3
import Derived.Test.YtfnlddloalineaaGreatDoorQryA5
import Derived.Deep.Cut
import Derived.Deep.RegionWith
import Derived.Deep.AppendLies
namespace Go.Proofs.YtfnlddloalineaaGreatDoor
open Go.RowKit
set_option linter.unusedVariables false
set_option maxRecDepth 100000
/-- the words that are left, each with its place, lie in a block of words -/
def RdW (x : World) (R : Nat) (A : Option Addr) (b : Nat) (ws : List Wd) : Prop :=
  ws ≠ [] → ∃ g o cs, A = some ⟨g, o, none⟩ ∧ g < R ∧ Blk x g 89 cs ∧ ∀ j u, (wcells b ws)[j]? = some u → cs[o + j]? = some u
/-- the place of the next word -/
def bOf (W ws : List Wd) : Nat := plS W (W.length - ws.length)
/-- the state of the reference's reader -/
structure RSt (n0 : Nat) (w0 : World) (R : Nat) (W ws : List Wd) (len : Nat) (verb : Int) (byl : List Int) (byv : Value) (whl : List SCond) (whv : Value) (p : Int × Int) (x : World) : Prop where
  blk : ∃ A c, ws.length ≤ c ∧ Blk x R 87 #[.slice A ws.length c, .int .i64 (len : Int), .int .i64 verb, byv, whv, .int .i64 p.1, .int .i64 p.2] ∧ RdW x R A (bOf W ws) ws
  suf : ∃ a, W = a ++ ws
  byo : x.ownsRow n0 3 1 byv byl.length (byl.map intV)
  who : x.ownsRow n0 72 3 whv whl.length (cndC whl)
  below : Below n0 w0 x
  low : n0 ≤ R
/-- the first error stays -/
def flR (p : Int × Int) (at_ e : Int) : Int × Int := if p.2 = 0 then (at_, e) else p
theorem RdW.grown {x y : World} {A : Option Addr} {b R : Nat} {ws : List Wd} {cs : Array Value} (h : RdW x R A b ws) (hR : Blk x R 87 cs) (hg : x.grownBy y (some R))   : RdW y R A b ws := fun hn => by
  obtain ⟨g, o, cs', e, hgR, hk, hc⟩ := h hn
  exact ⟨g, o, cs', e, hgR, hk.grown hg (by intro e; injection e with e; omega), hc⟩
theorem RSt.size {n0 : Nat} {w0 : World} {R : Nat} {W ws : List Wd} {len : Nat} {verb : Int} {byl : List Int} {byv : Value} {whl : List SCond} {whv : Value} {p : Int × Int} {x : World} (h : RSt n0 w0 R W ws len verb byl byv whl whv p x) : R < x.heap.size := by
  obtain ⟨A, c, _, hk, _⟩ := h.blk
  exact hk.lt
/-- only the reader's block has turned -/
theorem RSt.turn {n0 : Nat} {w0 : World} {R : Nat} {W ws ws' : List Wd} {len : Nat} {verb verb' : Int} {byl : List Int} {byv : Value} {whl : List SCond} {whv : Value} {p p' : Int × Int} {x y : World} (h : RSt n0 w0 R W ws len verb byl byv whl whv p x) (hg : x.grownBy y (some R))
    (hb : ∃ A c, ws'.length ≤ c ∧ Blk y R 87 #[.slice A ws'.length c, .int .i64 (len : Int), .int .i64 verb', byv, whv, .int .i64 p'.1, .int .i64 p'.2] ∧ RdW y R A (bOf W ws') ws') (hs : ∃ a, W = a ++ ws') : RSt n0 w0 R W ws' len verb' byl byv whl whv p' y := by
  obtain ⟨A, c, _, hk, _⟩ := h.blk
  have h1 := h.size
  have h2 := h.low
  exact ⟨hb, hs, h.byo.kept hg (.inr (fun e => own_blk_ne h.byo hk (by decide) e)), h.who.kept hg (.inr (fun e => own_blk_ne h.who hk (by decide) e)), h.below.grown hg (by omega) (fun r e => by injection e; omega), h.low⟩
theorem RSt.same {n0 : Nat} {w0 : World} {R : Nat} {W ws : List Wd} {len : Nat} {verb : Int} {byl : List Int} {byv : Value} {whl : List SCond} {whv : Value} {p : Int × Int} {x y : World} (h : RSt n0 w0 R W ws len verb byl byv whl whv p x) (hb : Below x.heap.size x y) : RSt n0 w0 R W ws len verb byl byv whl whv p y := by
  have hg := grown_of_below hb (some R)
  obtain ⟨A, c, hc, hk, hw⟩ := h.blk
  exact h.turn hg ⟨A, c, hc, hk.below hb hk.lt, hw.grown hk hg⟩ h.suf
theorem own_blk_lt {w : World} {b : Nat} {e : TypeId} {size n : Nat} {v : Value} {xs : List Value} (h : w.ownsRow b e size v n xs) : ∀ g, v.ownBlock = some g → g < w.heap.size := by
  intro g hg
  rcases h.2 with ⟨rfl, _⟩ | ⟨g', cap, cur, rfl, _, hh, _⟩
  · simp [Value.ownBlock] at hg
  · have : g' = g := by simpa [Value.ownBlock] using hg
    subst this
    exact (Array.getElem?_eq_some_iff.1 hh).1
/-- a store to a block that is younger than the reader's -/
theorem RSt.far {n0 : Nat} {w0 : World} {R : Nat} {W ws ws0 : List Wd} {len : Nat} {verb : Int} {byl : List Int} {byv : Value} {whl : List SCond} {whv : Value} {p p0 : Int × Int} {x0 x : World} (h0 : RSt n0 w0 R W ws0 len verb byl byv whl whv p0 x0) (h : RSt n0 w0 R W ws len verb byl byv whl whv p x) {k : Nat} (hk : x0.heap.size ≤ k) (j : Nat) (u : Value) : RSt n0 w0 R W ws len verb byl byv whl whv p (x.setCell ⟨k, j, none⟩ u) := by
  have hR := h0.size
  obtain ⟨A, c, hc, hb, hw⟩ := h.blk
  refine ⟨⟨A, c, hc, hb.far (p := ⟨k, j, none⟩) (by simp only []; omega) u, fun hn => ?_⟩, h.suf, ?_, ?_, ?_, h.low⟩
  · obtain ⟨g, o, cs, e, hgR, hg, hcs⟩ := hw hn
    exact ⟨g, o, cs, e, hgR, hg.far (p := ⟨k, j, none⟩) (by simp only []; omega) u, hcs⟩
  · exact ownsRow_setCell_other h.byo (a := ⟨k, j, none⟩) (by intro e; have := own_blk_lt h0.byo _ e; simp only [] at this; omega) u
  · exact ownsRow_setCell_other h.who (a := ⟨k, j, none⟩) (by intro e; have := own_blk_lt h0.who _ e; simp only [] at this; omega) u
  · exact h.below.setCell (p := ⟨k, j, none⟩) (by have := h.low; simp only []; omega) u
theorem rfail_any {n0 : Nat} {w0 : World} {R : Nat} {W ws : List Wd} {len : Nat} {verb : Int} {byl : List Int} {byv : Value} {whl : List SCond} {whv : Value} {p : Int × Int} (at_ E : Int) (tx : Wd) (x : World) (h : RSt n0 w0 R W ws len verb byl byv whl whv p x) :
    Calls Tryz.prog 39 #[.pointer (some ⟨R, 0, none⟩), .agg #[.int .i64 at_, .string ⟨tx.toArray⟩], .int .i64 E] x fun e y => (∃ v, e = .returned v) ∧ RSt n0 w0 R W ws len verb byl byv whl whv (flR p at_ E) y ∧ x.grownBy y (some R) := by
  obtain ⟨A, c, hc, hk, hw⟩ := h.blk
  by_cases hp : p.2 = 0
  · have e1 : flR p at_ E = (at_, E) := if_pos hp
    rw [hp] at hk
    refine (fail_first R _ _ _ _ _ p.1 at_ E tx x hk).mono ?_
    rintro e y ⟨h1, h2, h3⟩
    rw [e1]
    exact ⟨h1, h.turn h3 ⟨A, c, hc, h2, hw.grown hk h3⟩ h.suf, h3⟩
  · have e1 : flR p at_ E = p := if_neg hp
    refine (fail_again R _ _ _ _ _ _ p.2 at_ E tx x hk (by rw [beq_eq_false_iff_ne]; exact hp)).mono ?_
    rintro e y ⟨h1, h2, h3⟩
    rw [e1]
    exact ⟨h1, h.turn h3 ⟨A, c, hc, h2, hw.grown hk h3⟩ h.suf, h3⟩
set_option maxHeartbeats 1000000 in
theorem rmore_any {n0 : Nat} {w0 : World} {R : Nat} {W ws : List Wd} {len : Nat} {verb : Int} {byl : List Int} {byv : Value} {whl : List SCond} {whv : Value} {p : Int × Int} (x : World) (h : RSt n0 w0 R W ws len verb byl byv whl whv p x) :
    Calls Tryz.prog 40 #[.pointer (some ⟨R, 0, none⟩)] x fun e y => e = .returned (.bool (decide (p.2 = 0) && decide (0 < ws.length))) ∧ x = y := by
  obtain ⟨A, c, hc, hk, hw⟩ := h.blk
  obtain ⟨x0, x1, x2, x3, x4, x5, x6⟩ := rr_cells hk
  obtain ⟨p1, p2⟩ := p
  simp only [] at x5 x6 ⊢
  clear hw hc hk h
  generalize ws.length = n at *
  by_cases hp : p2 = 0
  · subst hp
    by_cases hn : 0 < n
    · have z1 : decide ((0 : Int) < (n : Int)) = true := by rw [decide_eq_true_eq]; omega
      have z2 : (0 : Int) < (n : Int) := by omega
      have z3 : decide (0 < n) = true := by rw [decide_eq_true_eq]; exact hn
      rw [z3]
      go_enter Tryz.func40, Tryz.ntmps40
      go_wp2_with fail
      go_ret
      exact ⟨rfl, rfl⟩
    · have z1 : decide ((0 : Int) < (n : Int)) = false := by rw [decide_eq_false_iff_not]; omega
      have z3 : decide (0 < n) = false := by rw [decide_eq_false_iff_not]; exact hn
      rw [z3]
      go_enter Tryz.func40, Tryz.ntmps40
      go_wp2_with fail
      go_ret
      exact ⟨rfl, rfl⟩
  · have q1 : (p2 == 0) = false := by rw [beq_eq_false_iff_ne]; exact hp
    have q2 : decide (p2 = 0) = false := by rw [decide_eq_false_iff_not]; exact hp
    rw [q2]
    clear hp q2
    go_enter Tryz.func40, Tryz.ntmps40
    go_wp2_with fail
    go_ret
    exact ⟨rfl, rfl⟩
end Go.Proofs.YtfnlddloalineaaGreatDoor
namespace Go.Proofs.YtfnlddloalineaaGreatDoor
open Go.RowKit
set_option linter.unusedVariables false
set_option maxRecDepth 100000
def NxtSays (n0 : Nat) (w0 : World) (R : Nat) (W : List Wd) (len : Nat) (verb : Int) (byl : List Int) (byv : Value) (whl : List SCond) (whv : Value) (at_ : Int) (tx : Wd) (ws' : List Wd) (p' : Int × Int) (x : World) (e : Ending) (y : World) : Prop :=
  e = .returned (.agg #[.int .i64 at_, .string ⟨tx.toArray⟩]) ∧ RSt n0 w0 R W ws' len verb byl byv whl whv p' y ∧ x.grownBy y (some R)
theorem wd_cells {w : World} {g : Nat} {T : TypeId} {a b : Value} (h : Blk w g T #[a, b]) : w.cell? ⟨g, 0, none⟩ = some a ∧ w.cell? ⟨g, 1, none⟩ = some b := ⟨h.cell 0, h.cell 1⟩
theorem bOf_step {W r : List Wd} {x : Wd} (h : ∃ a, W = a ++ (x :: r)) : bOf W r = bOf W (x :: r) + (x.length + 1) := by
  obtain ⟨a, rfl⟩ := h
  unfold bOf
  have e1 : (a ++ x :: r).length - r.length = a.length + 1 := by simp only [List.length_append, List.length_cons]; omega
  have e2 : (a ++ x :: r).length - (x :: r).length = a.length := by simp
  rw [e1, e2, plS_succ (by simp)]
  congr 2
  simp
theorem suf_step {W r : List Wd} {x : Wd} (h : ∃ a, W = a ++ (x :: r)) : ∃ a, W = a ++ r := by
  obtain ⟨a, rfl⟩ := h
  exact ⟨a ++ [x], by simp⟩
set_option maxHeartbeats 2000000 in
theorem rnext_far {n0 : Nat} {w0 : World} {R : Nat} {W r : List Wd} {tx : Wd} {len : Nat} {verb : Int} {byl : List Int} {byv : Value} {whl : List SCond} {whv : Value} {p : Int × Int} (x : World) (h : RSt n0 w0 R W (tx :: r) len verb byl byv whl whv p x)
    (g o c : Nat) (cs : Array Value) (hc : r.length + 1 ≤ c + 2) (hk : Blk x R 87 #[.slice (some ⟨g, o, none⟩) (r.length + 1) (c + 2), .int .i64 (len : Int), .int .i64 verb, byv, whv, .int .i64 p.1, .int .i64 p.2])
    (hgR : g < R) (hg : Blk x g 89 cs) (hw : ∀ j u, (wcells (bOf W (tx :: r)) (tx :: r))[j]? = some u → cs[o + j]? = some u) :
    Calls Tryz.prog 36 #[.pointer (some ⟨R, 0, none⟩)] x (NxtSays n0 w0 R W len verb byl byv whl whv (bOf W (tx :: r) : Int) tx r p x) := by
  have HH := Lib.hid h
  have HKX := Lib.hid hk
  have HGX := Lib.hid hg
  have HW := Lib.hid hw
  have hRx := h.size
  have HB := Lib.hid (bOf_step h.suf)
  have d0 : x.cell? ⟨g, o, none⟩ = some (.int .i64 (bOf W (tx :: r) : Int)) := by
    have := hw 0 _ rfl
    rw [Nat.add_zero] at this
    exact (hg.cell o).trans this
  have d1 : x.cell? ⟨g, o + 1, none⟩ = some (.string ⟨tx.toArray⟩) := (hg.cell (o + 1)).trans (hw 1 _ rfl)
  have hgx := hg.lt
  have hgR' : g ≠ R := by omega
  generalize bOf W (tx :: r) = b at *
  obtain ⟨x0, x1, x2, x3, x4, x5, x6⟩ := rr_cells hk
  have fx := hk.frozen
  clear h hk hg hw
  have z1 : (1 : Int) ≤ (r.length : Int) + 1 := by omega
  have z2 : (0 : Int) < (r.length : Int) + 1 := by omega
  have z3 : ((r.length : Int) + 1 == 0) = false := by rw [beq_eq_false_iff_ne]; omega
  go_enter Tryz.func36, Tryz.ntmps36
  go_wp2_with fail
  have hkF := (((HKX.out.set_ 0 (.slice (some ⟨g, o + 2, none⟩) r.length (c + 1))).alloc (.cells (#[.int .i64 (b : Int), .string ⟨tx.toArray⟩] : Array Value) 89)).alloc (.cells (#[.int .i64 (b : Int), .string ⟨tx.toArray⟩] : Array Value) 89))
  have hgF := World.grownBy.trans (World.grownBy.trans (grown_set (World.grownBy.refl x (some R)) 0 (.slice (some ⟨g, o + 2, none⟩) r.length (c + 1))) (World.grownBy_alloc _ (.cells (#[.int .i64 (b : Int), .string ⟨tx.toArray⟩] : Array Value) 89) (some R))) (World.grownBy_alloc _ (.cells (#[.int .i64 (b : Int), .string ⟨tx.toArray⟩] : Array Value) 89) (some R))
  have hzF := (Blk.new (x.setCell ⟨R, 0, none⟩ (.slice (some ⟨g, o + 2, none⟩) r.length (c + 1))) 89 #[.int .i64 (b : Int), .string ⟨tx.toArray⟩]).alloc (.cells (#[.int .i64 (b : Int), .string ⟨tx.toArray⟩] : Array Value) 89)
  rw [World.size_setCell] at hzF
  obtain ⟨z0, z1⟩ := wd_cells hzF
  have hRF := HH.out.turn (ws' := r) (verb' := verb) (p' := p) hgF ⟨_, c + 1, by omega, by simpa using hkF, fun hn => ⟨g, o + 2, cs, rfl, hgR, ((HGX.out.far (p := ⟨R, 0, none⟩) hgR' _).alloc _).alloc _, fun j u hu => by
    rw [HB.out] at hu
    have := HW.out (j + 2) u (by simpa [wcells] using hu)
    rwa [show o + (j + 2) = o + 2 + j by omega] at this⟩⟩ (suf_step HH.out.suf)
  refine bodyPost_ret (v := .agg #[.int .i64 (b : Int), .string ⟨tx.toArray⟩]) ?_ rfl ⟨rfl, hRF, hgF⟩
  simp [results, Tryz.results36, go_sem, z0, z1]
set_option maxHeartbeats 2000000 in
theorem rnext_near {n0 : Nat} {w0 : World} {R : Nat} {W : List Wd} {tx : Wd} {len : Nat} {verb : Int} {byl : List Int} {byv : Value} {whl : List SCond} {whv : Value} {p : Int × Int} (x : World) (h : RSt n0 w0 R W [tx] len verb byl byv whl whv p x)
    (g o : Nat) (cs : Array Value) (hk : Blk x R 87 #[.slice (some ⟨g, o, none⟩) 1 1, .int .i64 (len : Int), .int .i64 verb, byv, whv, .int .i64 p.1, .int .i64 p.2])
    (hgR : g < R) (hg : Blk x g 89 cs) (hw : ∀ j u, (wcells (bOf W [tx]) [tx])[j]? = some u → cs[o + j]? = some u) :
    Calls Tryz.prog 36 #[.pointer (some ⟨R, 0, none⟩)] x (NxtSays n0 w0 R W len verb byl byv whl whv (bOf W [tx] : Int) tx [] p x) := by
  have HH := Lib.hid h
  have HKX := Lib.hid hk
  have HGX := Lib.hid hg
  have HW := Lib.hid hw
  have hRx := h.size
  have HB := Lib.hid (bOf_step h.suf)
  have d0 : x.cell? ⟨g, o, none⟩ = some (.int .i64 (bOf W [tx] : Int)) := by
    have := hw 0 _ rfl
    rw [Nat.add_zero] at this
    exact (hg.cell o).trans this
  have d1 : x.cell? ⟨g, o + 1, none⟩ = some (.string ⟨tx.toArray⟩) := (hg.cell (o + 1)).trans (hw 1 _ rfl)
  have hgx := hg.lt
  have hgR' : g ≠ R := by omega
  generalize bOf W [tx] = b at *
  obtain ⟨x0, x1, x2, x3, x4, x5, x6⟩ := rr_cells hk
  have fx := hk.frozen
  clear h hk hg hw
  go_enter Tryz.func36, Tryz.ntmps36
  go_wp2_with fail
  have hkF := (((HKX.out.set_ 0 (.slice (some ⟨g, o, none⟩) 0 0)).alloc (.cells (#[.int .i64 (b : Int), .string ⟨tx.toArray⟩] : Array Value) 89)).alloc (.cells (#[.int .i64 (b : Int), .string ⟨tx.toArray⟩] : Array Value) 89))
  have hgF := World.grownBy.trans (World.grownBy.trans (grown_set (World.grownBy.refl x (some R)) 0 (.slice (some ⟨g, o, none⟩) 0 0)) (World.grownBy_alloc _ (.cells (#[.int .i64 (b : Int), .string ⟨tx.toArray⟩] : Array Value) 89) (some R))) (World.grownBy_alloc _ (.cells (#[.int .i64 (b : Int), .string ⟨tx.toArray⟩] : Array Value) 89) (some R))
  have hzF := (Blk.new (x.setCell ⟨R, 0, none⟩ (.slice (some ⟨g, o, none⟩) 0 0)) 89 #[.int .i64 (b : Int), .string ⟨tx.toArray⟩]).alloc (.cells (#[.int .i64 (b : Int), .string ⟨tx.toArray⟩] : Array Value) 89)
  rw [World.size_setCell] at hzF
  obtain ⟨z0, z1⟩ := wd_cells hzF
  have hRF := HH.out.turn (ws' := []) (verb' := verb) (p' := p) hgF ⟨_, 0, Nat.le_refl _, by simpa using hkF, fun hn => absurd rfl hn⟩ (suf_step HH.out.suf)
  refine bodyPost_ret (v := .agg #[.int .i64 (b : Int), .string ⟨tx.toArray⟩]) ?_ rfl ⟨rfl, hRF, hgF⟩
  simp [results, Tryz.results36, go_sem, z0, z1]
set_option maxHeartbeats 2000000 in
theorem rnext_none {n0 : Nat} {w0 : World} {R : Nat} {W : List Wd} {len : Nat} {verb : Int} {byl : List Int} {byv : Value} {whl : List SCond} {whv : Value} {p : Int × Int} (x : World) (h : RSt n0 w0 R W [] len verb byl byv whl whv p x) :
    Calls Tryz.prog 36 #[.pointer (some ⟨R, 0, none⟩)] x (NxtSays n0 w0 R W len verb byl byv whl whv (len : Int) [] [] (flR p (len : Int) 3) x) := by
  obtain ⟨A, c, hc, hk, hw⟩ := h.blk
  have hb1 := ((Below.refl x.heap.size x).alloc (Nat.le_refl _) (.cells (#[.int .i64 0, .string ⟨#[]⟩] : Array Value) 89))
  have hb2 := hb1.alloc hb1.size (.cells (#[.int .i64 (len : Int), .string ⟨#[]⟩] : Array Value) 89)
  have HF := Lib.hid (rfail_any (len : Int) 3 [] _ (h.same hb2))
  have HB2 := Lib.hid hb2
  have hq0 := (Blk.new x 89 #[.int .i64 0, .string ⟨#[]⟩]).alloc (.cells (#[.int .i64 (len : Int), .string ⟨#[]⟩] : Array Value) 89)
  have hq1 := Blk.new (x.alloc (.cells (#[.int .i64 0, .string ⟨#[]⟩] : Array Value) 89)) 89 #[.int .i64 (len : Int), .string ⟨#[]⟩]
  rw [World.size_alloc] at hq1
  have HQ0 := Lib.hid hq0
  have HQ1 := Lib.hid hq1
  have HH := Lib.hid h
  have hRx := h.size
  obtain ⟨x0, x1, x2, x3, x4, x5, x6⟩ := rr_cells hk
  clear h hk hw hb1 hb2 hq0 hq1
  go_enter Tryz.func36, Tryz.ntmps36
  go_wp2_with fail
  refine HF.out.mono ?_
  rintro e y ⟨⟨v, rfl⟩, hr, hg⟩
  have hq0 := HQ0.out.grown hg (by intro e; injection e; omega)
  have hq1 := HQ1.out.grown hg (by intro e; injection e; omega)
  obtain ⟨z0, z1⟩ := wd_cells hq0
  obtain ⟨y0, y1⟩ := wd_cells hq1
  have f0 := hq0.frozen
  have HQ0 := Lib.hid hq0
  have HR := Lib.hid hr
  have HG := Lib.hid (World.grownBy.trans (grown_of_below HB2.out (some R)) hg)
  clear HF HQ1 hr hg hq0 hq1
  go_wp2_with fail
  have hqF : Blk ((y.setCell ⟨x.heap.size, 0, none⟩ (.int .i64 (len : Int))).setCell ⟨x.heap.size, 1, none⟩ (.string ⟨#[]⟩)) x.heap.size 89 #[.int .i64 (len : Int), .string ⟨#[]⟩] := by
    have := (HQ0.out.set_ 0 (.int .i64 (len : Int))).set_ 1 (.string ⟨#[]⟩)
    simpa using this
  have hgF := grown_new (grown_new HG.out (g := x.heap.size) (Nat.le_refl _) 0 (.int .i64 (len : Int))) (g := x.heap.size) (Nat.le_refl _) 1 (.string ⟨#[]⟩)
  obtain ⟨A2, c2, hc2, hk2, hw2⟩ := HR.out.blk
  have hxR : x.heap.size ≠ R := by omega
  have hRF := HH.out.turn (ws' := []) (verb' := verb) (p' := flR p (len : Int) 3) hgF ⟨A2, c2, hc2, (hk2.far (p := ⟨x.heap.size, 0, none⟩) hxR.symm _).far (p := ⟨x.heap.size, 1, none⟩) hxR.symm _, fun hn => absurd rfl hn⟩ HH.out.suf
  clear z0 z1 y0 y1
  obtain ⟨z0, z1⟩ := wd_cells hqF
  refine bodyPost_ret (v := .agg #[.int .i64 (len : Int), .string ⟨#[]⟩]) ?_ rfl ⟨rfl, hRF, hgF⟩
  simp [results, Tryz.results36, go_sem, z0, z1]
theorem rnext_some {n0 : Nat} {w0 : World} {R : Nat} {W r : List Wd} {tx : Wd} {len : Nat} {verb : Int} {byl : List Int} {byv : Value} {whl : List SCond} {whv : Value} {p : Int × Int} (x : World) (h : RSt n0 w0 R W (tx :: r) len verb byl byv whl whv p x) :
    Calls Tryz.prog 36 #[.pointer (some ⟨R, 0, none⟩)] x (NxtSays n0 w0 R W len verb byl byv whl whv (bOf W (tx :: r) : Int) tx r p x) := by
  obtain ⟨A, c, hc, hk, hw⟩ := h.blk
  obtain ⟨g, o, cs, rfl, hgR, hg, hw⟩ := hw (by simp)
  rw [List.length_cons] at hc hk
  by_cases e1 : c = 1
  · subst e1
    obtain rfl : r = [] := List.eq_nil_of_length_eq_zero (by omega)
    exact rnext_near x h g o cs hk hgR hg hw
  · obtain ⟨q, rfl⟩ : ∃ q, c = q + 2 := ⟨c - 2, by omega⟩
    exact rnext_far x h g o q cs hc hk hgR hg hw
end Go.Proofs.YtfnlddloalineaaGreatDoor
namespace Go.Proofs.YtfnlddloalineaaGreatDoor
open Go.RowKit
set_option linter.unusedVariables false
set_option maxRecDepth 100000
theorem mval_any (n : Int) (w : World) : Calls Tryz.prog 68 #[.int .i64 n] w fun e w' => e = .returned (.bool (decide (-1000000000000 ≤ n) && decide (n ≤ 1000000000000))) ∧ w = w' := by
  by_cases h1 : -1000000000000 ≤ n
  · by_cases h2 : n ≤ 1000000000000
    · have k1 : decide (-1000000000000 ≤ n) = true := by rw [decide_eq_true_eq]; exact h1
      have k2 : decide (n ≤ 1000000000000) = true := by rw [decide_eq_true_eq]; exact h2
      rw [k1, k2]
      go_enter Tryz.func68, Tryz.ntmps68
      go_wp2_with fail
      go_ret
      exact ⟨rfl, rfl⟩
    · have k1 : decide (-1000000000000 ≤ n) = true := by rw [decide_eq_true_eq]; exact h1
      have k2 : decide (n ≤ 1000000000000) = false := by rw [decide_eq_false_iff_not]; exact h2
      rw [k1, k2]
      go_enter Tryz.func68, Tryz.ntmps68
      go_wp2_with fail
      go_ret
      exact ⟨rfl, rfl⟩
  · have k1 : decide (-1000000000000 ≤ n) = false := by rw [decide_eq_false_iff_not]; exact h1
    rw [k1]
    go_enter Tryz.func68, Tryz.ntmps68
    go_wp2_with fail
    go_ret
    exact ⟨rfl, rfl⟩
/-- the number that a word stands for -/
def rintN (s : Wd) : Int := if (sgnD s == s) = true then (decVal (sgnD s) : Int) else -(decVal (sgnD s) : Int)
/-- what the reference's integer hands back -/
def rintT (s : Wd) : Value :=
  if intF s = false then .tuple #[.int .i64 0, .bool false, .bool false]
  else if 13 < (sgnD s).length then .tuple #[.int .i64 0, .bool true, .bool false]
  else .tuple #[.int .i64 (rintN s), .bool true, .bool (decide (-1000000000000 ≤ rintN s) && decide (rintN s ≤ 1000000000000))]
theorem sgnD_minus (d : Wd) : sgnD (45 :: d) = d := trimPrefix_cons 45 d
theorem sgnD_no {s : Wd} (h : s.head? ≠ some 45) : sgnD s = s := trimPrefix_no h
theorem sgnD_len (s : Wd) : (sgnD s).length ≤ s.length := by
  unfold sgnD Lib.trimPrefix
  split
  · rw [List.length_drop]; omega
  · omega
set_option maxHeartbeats 4000000 in
theorem rinteger_any (s : Wd) (w : World) (hl : s.length ≤ 2000) : Calls Tryz.prog 103 #[.string ⟨s.toArray⟩] w fun e w' => e = .returned (rintT s) ∧ w = w' := by
  have hdl : (sgnD s).length ≤ 2000 := by have := sgnD_len s; omega
  go_enter Tryz.func103, Tryz.ntmps103
  go_upto_region 2 with fail
  go_cut [16] from 9 (fun s16 x => s16 = .bool (s.head? == some 45) ∧ x = w)
  case first =>
    cases s with
    | nil =>
      go_wp2_with fail
      go_meet
      case rel => exact ⟨rfl, rfl⟩
    | cons b d =>
      have hsz : 0 < (⟨(b :: d).toArray⟩ : ByteArray).size := by rw [mk_size]; simp
      have hg : (((⟨(b :: d).toArray⟩ : ByteArray)[0].toNat : Int) == 45) = (b == 45) := by
        rw [mk_getD]
        exact byteEqQ b 45
      have b1 : (0 : Int) < ((b :: d).length : Int) := by simp only [List.length_cons]; omega
      have HE : Hid (((b :: d).head? == some 45) = (b == 45)) := rfl
      generalize (b == 45) = q at *
      cases q with
      | false =>
        go_wp2_with fail
        go_meet
        case rel => exact ⟨by rw [HE.out], rfl⟩
      | true =>
        go_wp2_with fail
        go_meet
        case rel => exact ⟨by rw [HE.out], rfl⟩
  case rest =>
    obtain ⟨rfl, rfl⟩ := hcut
    go_upto_if 16 with fail
    go_cut [5] from 9 (fun s5 x => s5 = .string ⟨(sgnD s).toArray⟩ ∧ x = wc)
    case first =>
      cases hq : (s.head? == some 45) with
      | false =>
        have hs := sgnD_no (s := s) (by rw [beq_eq_false_iff_ne] at hq; exact hq)
        have HS := Lib.hid hs
        clear hs
        go_wp2_with fail
        go_meet
        case rel => exact ⟨by rw [HS.out], rfl⟩
      | true =>
        obtain ⟨d, rfl⟩ : ∃ d, s = 45 :: d := by
          cases s with
          | nil => cases hq
          | cons b d => exact ⟨d, by rw [beq_iff_eq] at hq; injection hq with hq; rw [hq]⟩
        have hex := ex_mk (45 :: d) 1 (d.length + 1)
        rw [show ((45 :: d : List UInt8).take (d.length + 1)).drop 1 = d by simp] at hex
        clear hq
        go_wp2_with fail
        go_meet
        case rel => exact ⟨by rw [sgnD_minus], rfl⟩
    case rest =>
      obtain ⟨rfl, rfl⟩ := hcut
      have HF : Hid (intF s = (!(sgnD s).isEmpty && ((sgnD s).all isDig && !(((sgnD s).getD 0 0 == 48) && !(s == [48]))))) := rfl
      have HT : Hid (rintT s = if intF s = false then .tuple #[.int .i64 0, .bool false, .bool false]
        else if 13 < (sgnD s).length then .tuple #[.int .i64 0, .bool true, .bool false]
        else .tuple #[.int .i64 (rintN s), .bool true, .bool (decide (-1000000000000 ≤ rintN s) && decide (rintN s ≤ 1000000000000))]) := rfl
      have HN : Hid (rintN s = if (sgnD s == s) = true then (decVal (sgnD s) : Int) else -(decVal (sgnD s) : Int)) := rfl
      generalize rintN s = NN at *
      generalize intF s = FF at *
      generalize sgnD s = L at *
      go_upto_region 4 with fail
      go_cut [29] from 9 (fun s29 x => s29 = .bool (L.isEmpty || ((L.getD 0 0 == 48) && !(s == [48]))) ∧ x = wc)
      case first =>
        cases L with
        | nil =>
          go_wp2_with fail
          go_meet
          case rel => exact ⟨rfl, rfl⟩
        | cons b d =>
          have hsz : 0 < (⟨(b :: d).toArray⟩ : ByteArray).size := by rw [mk_size]; simp
          have hg : (((⟨(b :: d).toArray⟩ : ByteArray)[0].toNat : Int) == 48) = (b == 48) := by
            rw [mk_getD]
            exact byteEqQ b 48
          have b1 : (0 : Int) < ((b :: d).length : Int) := by simp only [List.length_cons]; omega
          cases hb : (b == 48) with
          | false =>
            rw [hb] at hg
            have HB := Lib.hid hb
            clear hb HF HT HN
            go_wp2_with fail
            go_meet
            case rel => exact ⟨by show Value.bool false = .bool (false || ((b == 48) && !(s == [48]))); rw [HB.out]; rfl, rfl⟩
          | true =>
            rw [hb] at hg
            have HB := Lib.hid hb
            clear hb HF HT HN
            cases hs : (s == [48]) with
            | false =>
              have hs2 : (s != [48]) = true := by rw [bne, hs]; rfl
              have HSS := Lib.hid hs
              go_wp2_with fail
              go_meet
              case rel => exact ⟨by show Value.bool true = .bool (false || ((b == 48) && !(s == [48]))); rw [HB.out, HSS.out]; rfl, rfl⟩
            | true =>
              have hs2 : (s != [48]) = false := by rw [bne, hs]; rfl
              have HSS := Lib.hid hs
              go_wp2_with fail
              go_meet
              case rel => exact ⟨by show Value.bool false = .bool (false || ((b == 48) && !(s == [48]))); rw [HB.out, HSS.out]; rfl, rfl⟩
      case rest =>
        obtain ⟨rfl, rfl⟩ := hcut
        cases hz : (L.isEmpty || ((L.getD 0 0 == 48) && !(s == [48]))) with
        | true =>
          have F : Hid (rintT s = .tuple #[.int .i64 0, .bool false, .bool false]) := by
            show _ = _
            have h1 : FF = false := by
              rw [HF.out]
              cases h2 : L.isEmpty
              · rw [h2] at hz
                simp only [Bool.false_or] at hz
                rw [hz]; simp
              · rfl
            rw [HT.out, if_pos h1]
          clear hz HF HT HN
          go_wp2_with fail
          go_ret3
          exact ⟨by rw [F.out]; rfl, rfl⟩
        | false =>
          have HF2 : Hid (FF = L.all isDig) := by
            show _ = _
            rw [HF.out]
            cases h2 : L.isEmpty
            · rw [h2] at hz
              simp only [Bool.false_or] at hz
              rw [hz]; simp
            · rw [h2] at hz; cases hz
          clear hz HF
          go_wp2_with fail
          go_loop [2, 6] (fun n i => n = .int .i64 0 ∧ ∃ k : Nat, k ≤ L.length ∧ i = .int .i64 (k : Int) ∧ (L.take k).all isDig = true) (fun _ i => L.length - (intOf i).toNat)
          case atStart => exact ⟨rfl, 0, Nat.zero_le _, rfl, rfl⟩
          case round =>
            obtain ⟨rfl, k, hk, rfl, ha⟩ := hrel
            have HA := Lib.hid ha
            clear ha
            by_cases hlt : k < L.length
            · have k1 : decide ((k : Int) < (L.length : Int)) = true := by rw [decide_eq_true_eq]; omega
              have k2 : decide (k < L.length) = true := by rw [decide_eq_true_eq]; omega
              have b1 : (k : Int) < (L.length : Int) := by omega
              have b2 : (0 : Int) ≤ (k : Int) := by omega
              have hsz : k < (⟨L.toArray⟩ : ByteArray).size := by rw [mk_size]; exact hlt
              cases hd : isDig (L.getD k 0)
              · have F : Hid (rintT s = .tuple #[.int .i64 0, .bool false, .bool false]) := by
                  show _ = _
                  rw [HT.out, if_pos (by rw [HF2.out, all_not_at hlt hd])]
                have hno := isDig_no hd
                rw [← mk_getD L k hsz] at hno
                have hlb : ((⟨L.toArray⟩ : ByteArray)[k]).toNat < 256 := ((⟨L.toArray⟩ : ByteArray)[k]).toNat_lt
                clear hd HA
                rcases hno with h | h
                · have q1 : decide ((((⟨L.toArray⟩ : ByteArray)[k]).toNat : Int) < 48) = true := by rw [decide_eq_true_eq]; omega
                  go_wp2_with fail
                  go_ret3
                  exact ⟨by rw [F.out]; rfl, rfl⟩
                · have q1 : decide ((((⟨L.toArray⟩ : ByteArray)[k]).toNat : Int) < 48) = false := by rw [decide_eq_false_iff_not]; omega
                  have q2 : decide (57 < (((⟨L.toArray⟩ : ByteArray)[k]).toNat : Int)) = true := by rw [decide_eq_true_eq]; omega
                  go_wp2_with fail
                  go_ret3
                  exact ⟨by rw [F.out]; rfl, rfl⟩
              · have HA2 := Lib.hid (take_all_succ hlt HA.out hd)
                have hb := isDig_iff.1 hd
                rw [← mk_getD L k hsz] at hb
                have q1 : decide ((((⟨L.toArray⟩ : ByteArray)[k]).toNat : Int) < 48) = false := by rw [decide_eq_false_iff_not]; omega
                have q2 : decide (57 < (((⟨L.toArray⟩ : ByteArray)[k]).toNat : Int)) = false := by rw [decide_eq_false_iff_not]; omega
                clear hb hd HA
                go_wp2_with fail
                go_round
                case rel => exact ⟨rfl, k + 1, by omega, by go_num, HA2.out⟩
                case measure => simp [intOf]; omega
            · have k1 : decide ((k : Int) < (L.length : Int)) = false := by rw [decide_eq_false_iff_not]; omega
              have k2 : decide (k < L.length) = false := by rw [decide_eq_false_iff_not]; omega
              have HALL : Hid (L.all isDig = true) := by
                show _ = _
                have := HA.out
                rwa [List.take_of_length_le (by omega)] at this
              obtain rfl : k = L.length := by omega
              clear HA
              by_cases h13 : 13 < L.length
              · have F : Hid (rintT s = .tuple #[.int .i64 0, .bool true, .bool false]) := by
                  show _ = _
                  rw [HT.out, if_neg (by rw [HF2.out, HALL.out]; simp), if_pos h13]
                have q1 : decide ((13 : Int) < (L.length : Int)) = true := by rw [decide_eq_true_eq]; omega
                have q2 : (13 : Int) < (L.length : Int) := by omega
                go_wp2_with fail
                go_ret3
                exact ⟨by rw [F.out]; rfl, rfl⟩
              · have F : Hid (rintT s = .tuple #[.int .i64 NN, .bool true, .bool (decide (-1000000000000 ≤ NN) && decide (NN ≤ 1000000000000))]) := by
                  show _ = _
                  rw [HT.out, if_neg (by rw [HF2.out, HALL.out]; simp), if_neg h13]
                have q1 : decide ((13 : Int) < (L.length : Int)) = false := by rw [decide_eq_false_iff_not]; omega
                have q2 : (L.length : Int) ≤ 13 := by omega
                clear k1 k2
                go_wp2_with fail
                go_loop [2, 7] (fun n i => ∃ k : Nat, k ≤ L.length ∧ i = .int .i64 (k : Int) ∧ n = .int .i64 (decVal (L.take k) : Int)) (fun _ i => L.length - (intOf i).toNat)
                case atStart => exact ⟨0, Nat.zero_le _, rfl, rfl⟩
                case round =>
                  obtain ⟨k, hk, rfl, rfl⟩ := hrel
                  have hvb : decVal (L.take k) ≤ 10000000000000 := by
                    have h1 : (L.take k).all isDig = true := by
                      rw [List.all_eq_true]
                      intro z hz
                      exact List.all_eq_true.1 HALL.out z (List.mem_of_mem_take hz)
                    have h2 := decVal_lt h1
                    have h3 : (10 : Nat) ^ (L.take k).length ≤ 10 ^ 13 := Nat.pow_le_pow_right (by omega) (by rw [List.length_take]; omega)
                    omega
                  by_cases hlt : k < L.length
                  · have k1 : decide ((k : Int) < (L.length : Int)) = true := by rw [decide_eq_true_eq]; omega
                    have k2 : decide (k < L.length) = true := by rw [decide_eq_true_eq]; omega
                    have b1 : (k : Int) < (L.length : Int) := by omega
                    have b2 : (0 : Int) ≤ (k : Int) := by omega
                    have hsz : k < (⟨L.toArray⟩ : ByteArray).size := by rw [mk_size]; exact hlt
                    have hd : isDig (L.getD k 0) = true := by
                      rw [List.getD_eq_getElem?_getD, List.getElem?_eq_getElem hlt]
                      exact List.all_eq_true.1 HALL.out _ (List.getElem_mem hlt)
                    have HS := Lib.hid (decVal_step hlt hd)
                    have hb := isDig_iff.1 hd
                    rw [← mk_getD L k hsz] at HS hb
                    have r1 : (48 : Int) ≤ (((⟨L.toArray⟩ : ByteArray)[k]).toNat : Int) := by omega
                    have r2 : (((⟨L.toArray⟩ : ByteArray)[k]).toNat : Int) ≤ 57 := by omega
                    clear hb hd
                    generalize decVal (L.take k) = V at *
                    have v1 : (0 : Int) ≤ (V : Int) := by omega
                    have v2 : (V : Int) ≤ 10000000000000 := by omega
                    go_wp2_with fail
                    go_round
                    case rel => exact ⟨k + 1, by omega, by go_num, by rw [HS.out]⟩
                    case measure => simp [intOf]; omega
                  · have k1 : decide ((k : Int) < (L.length : Int)) = false := by rw [decide_eq_false_iff_not]; omega
                    have k2 : decide (k < L.length) = false := by rw [decide_eq_false_iff_not]; omega
                    have hv : decVal (L.take k) = decVal L := by rw [List.take_of_length_le (by omega)]
                    rw [hv] at hvb ⊢
                    clear hv
                    have HV : Hid (NN = if (L == s) = true then (decVal L : Int) else -(decVal L : Int)) := HN.out
                    generalize decVal L = V at *
                    have v1 : (0 : Int) ≤ (V : Int) := by omega
                    have v2 : (V : Int) ≤ 10000000000000 := by omega
                    cases hls : (L == s) with
                    | true =>
                      have hls2 : (L != s) = false := by rw [bne, hls]; rfl
                      obtain ⟨mb, hmb⟩ : ∃ mb, (decide (-1000000000000 ≤ (V : Int)) && decide ((V : Int) ≤ 1000000000000)) = mb := ⟨_, rfl⟩
                      have HM1 := Lib.hid (mval_any (V : Int) wc)
                      rw [hmb] at HM1
                      have HMB := Lib.hid hmb
                      clear hmb
                      have HNN : Hid (NN = (V : Int)) := by show _ = _; rw [HV.out, if_pos hls]
                      clear HV HN
                      go_wp2_with fail
                      refine HM1.out.mono ?_
                      rintro e wx ⟨rfl, rfl⟩
                      go_wp2_with fail
                      go_ret3
                      exact ⟨by rw [F.out, HNN.out, HMB.out]; rfl, rfl⟩
                    | false =>
                      have hls2 : (L != s) = true := by rw [bne, hls]; rfl
                      obtain ⟨mb, hmb⟩ : ∃ mb, (decide (-1000000000000 ≤ (-(V : Int))) && decide ((-(V : Int)) ≤ 1000000000000)) = mb := ⟨_, rfl⟩
                      have HM1 := Lib.hid (mval_any (-(V : Int)) wc)
                      rw [hmb] at HM1
                      have HMB := Lib.hid hmb
                      clear hmb
                      have HNN : Hid (NN = -(V : Int)) := by show _ = _; rw [HV.out, hls]; rfl
                      clear HV HN
                      go_wp2_with fail
                      refine HM1.out.mono ?_
                      rintro e wx ⟨rfl, rfl⟩
                      go_wp2_with fail
                      go_ret3
                      exact ⟨by rw [F.out, HNN.out, HMB.out]; rfl, rfl⟩
end Go.Proofs.YtfnlddloalineaaGreatDoor
namespace Go.Proofs.YtfnlddloalineaaGreatDoor
open Go.RowKit
set_option linter.unusedVariables false
set_option maxRecDepth 100000
def dvF (acc : Nat) (l : List UInt8) : Nat := l.foldl (fun n b => n * 10 + (b.toNat - 48)) acc
theorem dvF_cons (acc : Nat) (c : UInt8) (r : List UInt8) : dvF acc (c :: r) = dvF (acc * 10 + (c.toNat - 48)) r := by
  unfold dvF
  rw [List.foldl_cons]
set_option maxHeartbeats 400000 in
theorem dvF_ge : ∀ (l : List UInt8) (acc : Nat), acc ≤ dvF acc l := by
  intro l
  induction l with
  | nil => intro acc; exact Nat.le_refl _
  | cons c r ih => intro acc; have := ih (acc * 10 + (c.toNat - 48)); rw [dvF_cons]; omega
theorem pu_ok : ∀ (l : List UInt8) (acc : Nat), l.all isDig = true → dvF acc l < 18446744073709551616 → Lib.parseUint10 acc l = .ok (dvF acc l) := by
  intro l
  induction l with
  | nil => intro acc _ _; rfl
  | cons c r ih =>
    intro acc hd h
    rw [List.all_cons, Bool.and_eq_true] at hd
    have hc := isDig_iff.1 hd.1
    rw [dvF_cons] at h ⊢
    have hm := dvF_ge r (acc * 10 + (c.toNat - 48))
    unfold Lib.parseUint10
    rw [if_pos hc, if_neg (by omega), if_neg (by omega)]
    exact ih _ hd.2 h
theorem pu_no : ∀ (l : List UInt8) (acc : Nat), l.all isDig = true → acc < 18446744073709551616 → ¬ dvF acc l < 18446744073709551616 → Lib.parseUint10 acc l = .range := by
  intro l
  induction l with
  | nil => intro acc _ h h'; exact absurd h h'
  | cons c r ih =>
    intro acc hd h h'
    rw [List.all_cons, Bool.and_eq_true] at hd
    have hc := isDig_iff.1 hd.1
    rw [dvF_cons] at h'
    unfold Lib.parseUint10
    rw [if_pos hc]
    by_cases h1 : 1844674407370955162 ≤ acc
    · rw [if_pos h1]
    · rw [if_neg h1]
      by_cases h2 : 18446744073709551616 ≤ acc * 10 + (c.toNat - 48)
      · rw [if_pos h2]
      · rw [if_neg h2]
        exact ih _ hd.2 (by omega) h'
theorem pm_ok {l : List UInt8} (hd : l.all isDig = true) (hn : l ≠ []) (h : decVal l < 18446744073709551616) : Lib.parseMag l = .ok (decVal l) := by
  unfold Lib.parseMag
  rw [if_neg hn]
  exact pu_ok l 0 hd h
theorem pm_no {l : List UInt8} (hd : l.all isDig = true) (hn : l ≠ []) (h : ¬ decVal l < 18446744073709551616) : Lib.parseMag l = .range := by
  unfold Lib.parseMag
  rw [if_neg hn]
  exact pu_no l 0 hd (by decide) h
theorem intF_parts {s : Wd} (h : intF s = true) : sgnD s ≠ [] ∧ (sgnD s).all isDig = true ∧ (s = [48] ∨ (sgnD s).getD 0 0 ≠ 48) := by
  unfold intF at h
  simp only [Bool.and_eq_true, Bool.not_eq_true', Bool.and_eq_false_iff] at h
  obtain ⟨h1, h2, h3⟩ := h
  refine ⟨fun e => (by rw [e] at h1; cases h1), h2, ?_⟩
  rcases h3 with h3 | h3
  · exact .inr (by rw [beq_eq_false_iff_ne] at h3; exact h3)
  · exact .inl (by simpa using h3)
theorem intN_eq {s : Wd} (h : intF s = true) : intN s = if -1000000000000 ≤ rintN s ∧ rintN s ≤ 1000000000000 then some (rintN s) else none := by
  obtain ⟨h1, h2, h3⟩ := intF_parts h
  cases s with
  | nil => exact absurd rfl h1
  | cons c d =>
    by_cases hc : c = 45
    · subst hc
      rw [sgnD_minus] at h1 h2
      have hr : rintN (45 :: d) = -(decVal d : Int) := by
        unfold rintN
        rw [sgnD_minus, if_neg]
        rw [beq_iff_eq]
        intro e
        have := congrArg List.length e
        simp at this
      rw [hr]
      unfold intN
      rw [Lib.atoiAll_minus]
      by_cases hv : decVal d < 18446744073709551616
      · rw [pm_ok h2 h1 hv]
        unfold Lib.signed
        by_cases hw : 9223372036854775808 < decVal d
        · simp only [if_pos hw]
          rw [if_neg (by omega)]
        · simp only [if_neg hw]
      · rw [pm_no h2 h1 hv, if_neg (by omega)]
        rfl
    · have hs : sgnD (c :: d) = c :: d := sgnD_no (by intro e; injection e with e; exact hc e)
      rw [hs] at h1 h2
      have hr : rintN (c :: d) = (decVal (c :: d) : Int) := by
        unfold rintN
        rw [hs, if_pos (by simp)]
      have hcd : isDig c = true := by rw [List.all_cons, Bool.and_eq_true] at h2; exact h2.1
      have hcd2 := isDig_iff.1 hcd
      rw [hr]
      unfold intN
      rw [Lib.atoiAll_plain c d (by omega) (by omega)]
      by_cases hv : decVal (c :: d) < 18446744073709551616
      · rw [pm_ok h2 h1 hv]
        generalize decVal (c :: d) = v at *
        unfold Lib.signless
        by_cases hw : 9223372036854775808 ≤ v
        · simp only [if_pos hw]
          rw [if_neg (by omega)]
        · simp only [if_neg hw]
      · rw [pm_no h2 h1 hv]
        generalize decVal (c :: d) = v at *
        rw [if_neg (by omega)]
        rfl
theorem rint_cases (s : Wd) : (intR s = (0, 3) ∧ rintT s = .tuple #[.int .i64 0, .bool false, .bool false]) ∨ (∃ v, intR s = (v, 0) ∧ rintT s = .tuple #[.int .i64 v, .bool true, .bool true]) ∨ (∃ n, intR s = (0, 2) ∧ rintT s = .tuple #[.int .i64 n, .bool true, .bool false]) := by
  cases hf : intF s with
  | false =>
    refine .inl ⟨?_, ?_⟩
    · unfold intR; rw [hf]; rfl
    · unfold rintT; rw [if_pos hf]
  | true =>
    have hN := intN_eq hf
    by_cases h13 : 13 < (sgnD s).length
    · have hbig : ¬ (-1000000000000 ≤ rintN s ∧ rintN s ≤ 1000000000000) := by
        obtain ⟨h1, h2, h3⟩ := intF_parts hf
        have h4 : (sgnD s).getD 0 0 ≠ 48 := by
          rcases h3 with rfl | h3
          · exact absurd h13 (by decide)
          · exact h3
        have hge : 10000000000000 ≤ decVal (sgnD s) := by
          cases hs : sgnD s with
          | nil => exact absurd hs h1
          | cons c d =>
            rw [hs] at h2 h4 h13
            have hcd := isDig_iff.1 (by rw [List.all_cons, Bool.and_eq_true] at h2; exact h2.1 : isDig c = true)
            have hc48 : c.toNat ≠ 48 := fun e => h4 (UInt8.toNat_inj.1 (by rw [show (c :: d).getD 0 0 = c from rfl, e]; rfl))
            have := decVal_ge (b := c) (l := d) (by omega)
            have h5 : (10 : Nat) ^ 13 ≤ 10 ^ d.length := Nat.pow_le_pow_right (by omega) (by simp only [List.length_cons] at h13; omega)
            omega
        unfold rintN
        split <;> omega
      rw [if_neg hbig] at hN
      refine .inr (.inr ⟨0, ?_, ?_⟩)
      · unfold intR; rw [if_pos hf, hN]
      · unfold rintT; rw [if_neg (by rw [hf]; simp), if_pos h13]
    · by_cases hb : -1000000000000 ≤ rintN s ∧ rintN s ≤ 1000000000000
      · rw [if_pos hb] at hN
        refine .inr (.inl ⟨rintN s, ?_, ?_⟩)
        · unfold intR; rw [if_pos hf, hN]
        · unfold rintT; rw [if_neg (by rw [hf]; simp), if_neg h13]
          have e1 : decide (-1000000000000 ≤ rintN s) = true := by rw [decide_eq_true_eq]; exact hb.1
          have e2 : decide (rintN s ≤ 1000000000000) = true := by rw [decide_eq_true_eq]; exact hb.2
          rw [e1, e2]; rfl
      · rw [if_neg hb] at hN
        refine .inr (.inr ⟨rintN s, ?_, ?_⟩)
        · unfold intR; rw [if_pos hf, hN]
        · unfold rintT; rw [if_neg (by rw [hf]; simp), if_neg h13]
          have e : (decide (-1000000000000 ≤ rintN s) && decide (rintN s ≤ 1000000000000)) = false := by
            rw [Bool.and_eq_false_iff, decide_eq_false_iff_not, decide_eq_false_iff_not]
            by_cases h1 : -1000000000000 ≤ rintN s
            · exact .inr (fun h2 => hb ⟨h1, h2⟩)
            · exact .inl h1
          rw [e]
end Go.Proofs.YtfnlddloalineaaGreatDoor
namespace Go.Proofs.YtfnlddloalineaaGreatDoor
open Go.RowKit
set_option linter.unusedVariables false
set_option maxRecDepth 100000
/-- how operand ends -/
def OpSays (n0 : Nat) (w0 : World) (R : Nat) (W ws : List Wd) (len : Nat) (verb : Int) (byl : List Int) (byv : Value) (whl : List SCond) (whv : Value) (p : Int × Int) (f : Int) (x : World) (e : Ending) (y : World) : Prop := match ws with
  | [] => e = .returned (.int .i64 0) ∧ RSt n0 w0 R W [] len verb byl byv whl whv ((len : Int), 3) y ∧ x.grownBy y (some R)
  | v :: r => if (valO f v).2 = 0 then e = .returned (.int .i64 (valO f v).1) ∧ RSt n0 w0 R W r len verb byl byv whl whv p y ∧ x.grownBy y (some R)
    else (∃ n, e = .returned (.int .i64 n)) ∧ RSt n0 w0 R W r len verb byl byv whl whv ((bOf W (v :: r) : Int), (valO f v).2) y ∧ x.grownBy y (some R)
theorem rst_cell {n0 : Nat} {w0 : World} {R : Nat} {W ws : List Wd} {len : Nat} {verb : Int} {byl : List Int} {byv : Value} {whl : List SCond} {whv : Value} {p : Int × Int} {x : World} (h : RSt n0 w0 R W ws len verb byl byv whl whv p x) : x.cell? ⟨R, 6, none⟩ = some (.int .i64 p.2) ∧ x.cell? ⟨R, 4, none⟩ = some whv ∧ x.cell? ⟨R, 3, none⟩ = some byv ∧ ∀ i, x.frozen? ⟨R, i, none⟩ = false := by
  obtain ⟨A, c, _, hk, _⟩ := h.blk
  exact ⟨hk.cell 6, hk.cell 4, hk.cell 3, hk.frozen⟩
set_option maxHeartbeats 2000000 in
theorem rop_none {n0 : Nat} {w0 : World} {R : Nat} {W : List Wd} {len : Nat} {verb : Int} {byl : List Int} {byv : Value} {whl : List SCond} {whv : Value} {p : Int × Int} (f o cv : Int) (x : World) (h : RSt n0 w0 R W [] len verb byl byv whl whv p x) (hp : p.2 = 0) :
    Calls Tryz.prog 75 #[.pointer (some ⟨R, 0, none⟩), .agg #[.int .i64 f, .int .i64 o, .int .i64 cv]] x (OpSays n0 w0 R W [] len verb byl byv whl whv p f x) := by
  have hb1 := (Below.refl x.heap.size x).alloc (Nat.le_refl _) (.cells (#[.int .i64 f, .int .i64 o, .int .i64 cv] : Array Value) 72)
  have HN := Lib.hid (rnext_none _ (h.same hb1))
  rw [show flR p (len : Int) 3 = ((len : Int), 3) from if_pos hp] at HN
  have HB1 := Lib.hid hb1
  have HH := Lib.hid h
  clear h hb1
  go_enter Tryz.func75, Tryz.ntmps75
  go_wp2_with fail
  refine HN.out.mono ?_
  rintro e y ⟨rfl, hr, hg⟩
  have hr2 := hr.same ((Below.refl y.heap.size y).alloc (Nat.le_refl _) (.cells (#[.int .i64 (len : Int), .string ⟨#[]⟩] : Array Value) 89))
  have HG := Lib.hid (World.grownBy.trans (World.grownBy.trans (grown_of_below HB1.out (some R)) hg) (World.grownBy_alloc y (.cells (#[.int .i64 (len : Int), .string ⟨#[]⟩] : Array Value) 89) (some R)))
  obtain ⟨e6, _, _, _⟩ := rst_cell hr2
  simp only [] at e6
  have HR2 := Lib.hid hr2
  clear hr hg hr2
  go_wp2_with fail
  go_ret
  exact ⟨rfl, HR2.out, HG.out⟩
set_option maxHeartbeats 4000000 in
theorem rop_some {n0 : Nat} {w0 : World} {R : Nat} {W r : List Wd} {v : Wd} {len : Nat} {verb : Int} {byl : List Int} {byv : Value} {whl : List SCond} {whv : Value} {p : Int × Int} (f o cv : Int) (x : World) (h : RSt n0 w0 R W (v :: r) len verb byl byv whl whv p x) (hp : p.2 = 0) (hl : v.length ≤ 2000) :
    Calls Tryz.prog 75 #[.pointer (some ⟨R, 0, none⟩), .agg #[.int .i64 f, .int .i64 o, .int .i64 cv]] x (OpSays n0 w0 R W (v :: r) len verb byl byv whl whv p f x) := by
  have hb1 := (Below.refl x.heap.size x).alloc (Nat.le_refl _) (.cells (#[.int .i64 f, .int .i64 o, .int .i64 cv] : Array Value) 72)
  have hc1 := Blk.new x 72 #[.int .i64 f, .int .i64 o, .int .i64 cv]
  have hRx := h.size
  have HN := Lib.hid (rnext_some _ (h.same hb1))
  have HB1 := Lib.hid hb1
  have HC1 := Lib.hid hc1
  have HP := Lib.hid hp
  have HS : Hid (∀ (n : Int) (y : World), x.grownBy y (some R) → ((valO f v).2 = 0 → n = (valO f v).1 ∧ RSt n0 w0 R W r len verb byl byv whl whv p y) → ((valO f v).2 ≠ 0 → RSt n0 w0 R W r len verb byl byv whl whv ((bOf W (v :: r) : Int), (valO f v).2) y) → OpSays n0 w0 R W (v :: r) len verb byl byv whl whv p f x (.returned (.int .i64 n)) y) := by
    show ∀ _ _, _
    intro n y hg h1 h2
    unfold OpSays
    simp only []
    by_cases hv : (valO f v).2 = 0
    · rw [if_pos hv]
      obtain ⟨h3, h4⟩ := h1 hv
      exact ⟨by rw [h3], h4, hg⟩
    · rw [if_neg hv]
      exact ⟨⟨n, rfl⟩, h2 hv, hg⟩
  generalize bOf W (v :: r) = b at *
  clear h hb1 hc1 hp
  go_enter Tryz.func75, Tryz.ntmps75
  go_wp2_with fail
  refine HN.out.mono ?_
  rintro e y ⟨rfl, hr, hg⟩
  have hr2 := hr.same ((Below.refl y.heap.size y).alloc (Nat.le_refl _) (.cells (#[.int .i64 (b : Int), .string ⟨v.toArray⟩] : Array Value) 89))
  have HG := Lib.hid (World.grownBy.trans (World.grownBy.trans (grown_of_below HB1.out (some R)) hg) (World.grownBy_alloc y (.cells (#[.int .i64 (b : Int), .string ⟨v.toArray⟩] : Array Value) 89) (some R)))
  obtain ⟨e6, _, _, _⟩ := rst_cell hr2
  rw [HP.out] at e6
  have hw5 := Blk.new y 89 #[.int .i64 (b : Int), .string ⟨v.toArray⟩]
  have hc5 := (HC1.out.grown hg (by intro e; injection e; omega)).alloc (.cells (#[.int .i64 (b : Int), .string ⟨v.toArray⟩] : Array Value) 89)
  obtain ⟨wz, hwz⟩ : ∃ wz, y.alloc (.cells (#[.int .i64 (b : Int), .string ⟨v.toArray⟩] : Array Value) 89) = wz := ⟨_, rfl⟩
  have hsz : y.heap.size < wz.heap.size := by rw [← hwz]; simp
  rw [hwz] at hr2 HG e6 hw5 hc5
  obtain ⟨c0, c1, c2⟩ := rd_cells hc5
  obtain ⟨w50, w51⟩ := wd_cells hw5
  have HR2 := Lib.hid hr2
  have HW5 := Lib.hid hw5
  clear hr hg hr2 hw5 hc5 HN HC1 HB1
  by_cases h3 : f = 3
  · subst h3
    have HIX : Hid (∀ w' : World, (∀ j, j < kdL.length → w'.cell? ⟨wz.heap.size, j, none⟩ = some (.string ⟨(kdL.getD j []).toArray⟩)) → Calls Tryz.prog 37 #[.slice (some ⟨wz.heap.size, 0, none⟩) 11 11, .string ⟨v.toArray⟩] w' fun e w'' => e = .returned (.int .i64 (idxW kdL v)) ∧ w' = w'') := fun w' hc => refIndex_any kdL v wz.heap.size 11 11 w' hc rfl (by decide)
    have HVO : Hid (valO 3 v = if idxW kdL v < 0 then (0, 17) else (idxW kdL v, 0)) := rfl
    generalize idxW kdL v = ik at *
    by_cases hik : ik < 0
    · have k1 : decide (ik < 0) = true := by rw [decide_eq_true_eq]; exact hik
      have HV2 : Hid (valO 3 v = (0, 17)) := by show _ = _; rw [HVO.out, if_pos hik]
      clear hik
      go_wp2_with fail
      have w5k := (HW5.out.alloc (.cells (kdL.map strV).toArray 9)).cell 1
      simp only [List.getElem?_toArray, List.getElem?_cons_succ, List.getElem?_cons_zero] at w5k
      have hbk : Below wz.heap.size wz ((wz.alloc (.cells (kdL.map strV).toArray 9)).drew) := ((Below.refl wz.heap.size wz).alloc (Nat.le_refl _) _).drew
      have HRK := Lib.hid (HR2.out.same hbk)
      have HGK := Lib.hid (World.grownBy.trans HG.out (grown_of_below hbk (some R)))
      have hw5k : Blk ((wz.alloc (.cells (kdL.map strV).toArray 9)).drew) y.heap.size 89 #[.int .i64 (b : Int), .string ⟨v.toArray⟩] := HW5.out.below hbk hsz
      obtain ⟨k50, k51⟩ := wd_cells hw5k
      have HFL := Lib.hid (rfail_any (b : Int) 17 v _ HRK.out)
      clear hbk hw5k
      go_region_with (first
        | (go_at_call 82; refine (ref_kd_any _).mono ?_; rintro e wx ⟨rfl, rfl⟩)
        | (go_at_call 37; (with_reducible refine (HIX.out _ ?_).mono ?_); (exact fun j hj => kd_cells wz j hj); (rintro e wx ⟨rfl, rfl⟩)))
      all_goals
        clear w5k
        go_wp2_with fail
        refine HFL.out.mono ?_
        rintro e y2 ⟨⟨u, rfl⟩, hr3, hg3⟩
        have HR3 := Lib.hid hr3
        have HG3 := Lib.hid (World.grownBy.trans HGK.out hg3)
        clear hr3 hg3
        go_wp2_with fail
        go_ret
        refine HS.out ik y2 HG3.out (fun h => ?_) (fun _ => ?_)
        · rw [HV2.out] at h; exact absurd h (by decide)
        · rw [HV2.out]
          have := HR3.out
          rwa [show flR p (b : Int) 17 = ((b : Int), 17) from if_pos HP.out] at this
    · have k1 : decide (ik < 0) = false := by rw [decide_eq_false_iff_not]; exact hik
      have HV2 : Hid (valO 3 v = (ik, 0)) := by show _ = _; rw [HVO.out, if_neg hik]
      clear hik
      go_wp2_with fail
      have w5k := (HW5.out.alloc (.cells (kdL.map strV).toArray 9)).cell 1
      simp only [List.getElem?_toArray, List.getElem?_cons_succ, List.getElem?_cons_zero] at w5k
      have hbk : Below wz.heap.size wz ((wz.alloc (.cells (kdL.map strV).toArray 9)).drew) := ((Below.refl wz.heap.size wz).alloc (Nat.le_refl _) _).drew
      have HRK := Lib.hid (HR2.out.same hbk)
      have HGK := Lib.hid (World.grownBy.trans HG.out (grown_of_below hbk (some R)))
      have hw5k : Blk ((wz.alloc (.cells (kdL.map strV).toArray 9)).drew) y.heap.size 89 #[.int .i64 (b : Int), .string ⟨v.toArray⟩] := HW5.out.below hbk hsz
      obtain ⟨k50, k51⟩ := wd_cells hw5k
      have HFL := Lib.hid (rfail_any (b : Int) 17 v _ HRK.out)
      clear hbk hw5k
      go_region_with (first
        | (go_at_call 82; refine (ref_kd_any _).mono ?_; rintro e wx ⟨rfl, rfl⟩)
        | (go_at_call 37; (with_reducible refine (HIX.out _ ?_).mono ?_); (exact fun j hj => kd_cells wz j hj); (rintro e wx ⟨rfl, rfl⟩)))
      all_goals
        clear w5k
        go_wp2_with fail
        go_ret
        refine HS.out ik _ HGK.out (fun _ => ?_) (fun h => ?_)
        · rw [HV2.out]; exact ⟨rfl, HRK.out⟩
        · rw [HV2.out] at h; exact absurd rfl h
  · have q3 : (f == 3) = false := by rw [beq_eq_false_iff_ne]; exact h3
    by_cases h4 : f = 4
    · subst h4
      have HVO : Hid (valO 4 v = datP v) := rfl
      have HDP := Lib.hid (refDparse_any v wz)
      rw [← datP_eq] at HDP
      obtain ⟨on, oe, hoe⟩ : ∃ on oe, datP v = (on, oe) := ⟨_, _, rfl⟩
      rw [hoe] at HDP
      unfold twoV at HDP
      simp only [] at HDP
      have HV2 := Lib.hid (HVO.out.trans hoe)
      clear HVO hoe
      by_cases he : oe = 0
      · subst he
        go_wp2_with fail
        refine HDP.out.mono ?_
        rintro e y2 ⟨rfl, hb2⟩
        have HR3 := Lib.hid (HR2.out.same hb2)
        have HG3 := Lib.hid (World.grownBy.trans HG.out (grown_of_below hb2 (some R)))
        clear hb2
        go_wp2_with fail
        go_ret
        refine HS.out on _ HG3.out (fun _ => ?_) (fun h => ?_)
        · rw [HV2.out]; exact ⟨rfl, HR3.out⟩
        · rw [HV2.out] at h; exact absurd rfl h
      · have q5 : (oe != 0) = true := by rw [bne_iff_ne]; exact he
        have HNE := Lib.hid he
        clear he
        go_wp2_with fail
        refine HDP.out.mono ?_
        rintro e y2 ⟨rfl, hb2⟩
        have hw2 := HW5.out.below hb2 hsz
        obtain ⟨k50, k51⟩ := wd_cells hw2
        have HFL := Lib.hid (rfail_any (b : Int) oe v _ (HR2.out.same hb2))
        have HG3 := Lib.hid (World.grownBy.trans HG.out (grown_of_below hb2 (some R)))
        clear hb2 hw2
        go_wp2_with fail
        refine HFL.out.mono ?_
        rintro e y3 ⟨⟨u, rfl⟩, hr3, hg3⟩
        have HR3 := Lib.hid hr3
        have HG4 := Lib.hid (World.grownBy.trans HG3.out hg3)
        clear hr3 hg3
        go_wp2_with fail
        go_ret
        refine HS.out on _ HG4.out (fun h => ?_) (fun _ => ?_)
        · rw [HV2.out] at h; exact absurd h HNE.out
        · rw [HV2.out]
          have := HR3.out
          rwa [show flR p (b : Int) oe = ((b : Int), oe) from if_pos HP.out] at this
    · have q4 : (f == 4) = false := by rw [beq_eq_false_iff_ne]; exact h4
      have HVO : Hid (valO f v = intR v) := by show _ = _; unfold valO; rw [if_neg h3, if_neg h4]
      have HIN := Lib.hid (rinteger_any v wz hl)
      clear h3 h4
      rcases rint_cases v with ⟨hv, hi⟩ | ⟨n, hv, hi⟩ | ⟨n, hv, hi⟩
      · have HV2 := Lib.hid (HVO.out.trans hv)
        rw [hi] at HIN
        have HFL := Lib.hid (rfail_any (b : Int) 3 v _ HR2.out)
        clear hv hi HVO
        go_wp2_with fail
        refine HIN.out.mono ?_
        rintro e wx ⟨rfl, rfl⟩
        go_wp2_with fail
        refine HFL.out.mono ?_
        rintro e y3 ⟨⟨u, rfl⟩, hr3, hg3⟩
        have hw3 := HW5.out.grown hg3 (by intro e; injection e with e; obtain ⟨_, _, _, hk, _⟩ := HR2.out.blk; exact Blk.ne_ HW5.out hk (by decide) e)
        obtain ⟨m50, m51⟩ := wd_cells hw3
        have HFL2 := Lib.hid (rfail_any (b : Int) 2 v _ hr3)
        have HG4 := Lib.hid (World.grownBy.trans HG.out hg3)
        clear hr3 hg3 hw3 HFL
        go_wp2_with fail
        refine HFL2.out.mono ?_
        rintro e y4 ⟨⟨u4, rfl⟩, hr4, hg4⟩
        have HR4 := Lib.hid hr4
        have HG5 := Lib.hid (World.grownBy.trans HG4.out hg4)
        clear hr4 hg4
        go_wp2_with fail
        go_ret
        refine HS.out 0 _ HG5.out (fun h => ?_) (fun _ => ?_)
        · rw [HV2.out] at h; exact absurd h (by decide)
        · rw [HV2.out]
          have := HR4.out
          rwa [show flR (flR p (b : Int) 3) (b : Int) 2 = ((b : Int), 3) by rw [show flR p (b : Int) 3 = ((b : Int), 3) from if_pos HP.out]; exact if_neg (show ¬ (3 : Int) = 0 by decide)] at this
      · have HV2 := Lib.hid (HVO.out.trans hv)
        rw [hi] at HIN
        clear hv hi HVO
        go_wp2_with fail
        refine HIN.out.mono ?_
        rintro e wx ⟨rfl, rfl⟩
        go_wp2_with fail
        go_ret
        refine HS.out n _ HG.out (fun _ => ?_) (fun h => ?_)
        · rw [HV2.out]; exact ⟨rfl, HR2.out⟩
        · rw [HV2.out] at h; exact absurd rfl h
      · have HV2 := Lib.hid (HVO.out.trans hv)
        rw [hi] at HIN
        have HFL := Lib.hid (rfail_any (b : Int) 2 v _ HR2.out)
        clear hv hi HVO
        go_wp2_with fail
        refine HIN.out.mono ?_
        rintro e wx ⟨rfl, rfl⟩
        go_wp2_with fail
        refine HFL.out.mono ?_
        rintro e y3 ⟨⟨u, rfl⟩, hr3, hg3⟩
        have HR3 := Lib.hid hr3
        have HG4 := Lib.hid (World.grownBy.trans HG.out hg3)
        clear hr3 hg3 HFL
        go_wp2_with fail
        go_ret
        refine HS.out n _ HG4.out (fun h => ?_) (fun _ => ?_)
        · rw [HV2.out] at h; exact absurd h (by decide)
        · rw [HV2.out]
          have := HR3.out
          rwa [show flR p (b : Int) 2 = ((b : Int), 2) from if_pos HP.out] at this
end Go.Proofs.YtfnlddloalineaaGreatDoor
namespace Go.Proofs.YtfnlddloalineaaGreatDoor
open Go.RowKit
set_option linter.unusedVariables false
set_option maxRecDepth 100000
/-- the reader's block, one slice's own row, and new blocks may have turned -/
structure Gr2 (x y : World) (R : Nat) (v : Value) : Prop where
  os : y.os = x.os
  tape : y.tape = x.tape
  output : y.output = x.output
  size : x.heap.size ≤ y.heap.size
  block : ∀ k, k < x.heap.size → k ≠ R → some k ≠ v.ownBlock → y.heap[k]? = x.heap[k]?
theorem Gr2.of_grown {x y : World} {R : Nat} (v : Value) (h : x.grownBy y (some R)) : Gr2 x y R v :=
  ⟨h.os, h.tape, h.output, h.size, fun k hk hne _ => h.block k hk (fun e => hne (by injection e))⟩
/-- what cond must come to -/
def CndOut (W ws : List Wd) (len : Nat) (whl : List SCond) (p : Int × Int) (ws' : List Wd) (whl' : List SCond) (p' : Int × Int) : Prop :=
  (ws ≠ [] ∧ whl.length = 20 ∧ p' = ((bOf W ws : Int), 6)) ∨ (¬ (ws ≠ [] ∧ whl.length = 20) ∧ match cndR ws with
    | .error (r, E) => p' = ((plcR W r len : Int), E)
    | .ok (c, r) => ws' = r ∧ whl' = whl ++ [c] ∧ p' = p)
def RcSays (n0 : Nat) (w0 : World) (R : Nat) (W ws : List Wd) (len : Nat) (verb : Int) (byl : List Int) (byv : Value) (whl : List SCond) (whv : Value) (p : Int × Int) (x : World) (e : Ending) (y : World) : Prop :=
  (∃ v, e = .returned v) ∧ Gr2 x y R whv ∧ ∃ ws' whl' whv' p', RSt n0 w0 R W ws' len verb byl byv whl' whv' p' y ∧ CndOut W ws len whl p ws' whl' p'
theorem plcR_nil (W : List Wd) (len : Nat) : plcR W [] len = len := if_pos rfl
theorem plcR_cons (W : List Wd) (x : Wd) (r : List Wd) (len : Nat) : plcR W (x :: r) len = bOf W (x :: r) := if_neg (by simp)
set_option maxHeartbeats 2000000 in
theorem rc_none {n0 : Nat} {w0 : World} {R : Nat} {W : List Wd} {len : Nat} {verb : Int} {byl : List Int} {byv : Value} {whl : List SCond} {whv : Value} {p : Int × Int} (x : World) (h : RSt n0 w0 R W [] len verb byl byv whl whv p x) (hp : p.2 = 0) :
    Calls Tryz.prog 42 #[.pointer (some ⟨R, 0, none⟩)] x (RcSays n0 w0 R W [] len verb byl byv whl whv p x) := by
  have HN := Lib.hid (rnext_none x h)
  rw [show flR p (len : Int) 3 = ((len : Int), 3) from if_pos hp] at HN
  clear h
  go_enter Tryz.func42, Tryz.ntmps42
  go_wp2_with fail
  refine HN.out.mono ?_
  rintro e y ⟨rfl, hr, hg⟩
  have hr2 := hr.same ((Below.refl y.heap.size y).alloc (Nat.le_refl _) (.cells (#[.int .i64 (len : Int), .string ⟨#[]⟩] : Array Value) 89))
  have HG := Lib.hid (World.grownBy.trans hg (World.grownBy_alloc y (.cells (#[.int .i64 (len : Int), .string ⟨#[]⟩] : Array Value) 89) (some R)))
  obtain ⟨e6, _, _, _⟩ := rst_cell hr2
  simp only [] at e6
  have HR2 := Lib.hid hr2
  clear hr hg hr2
  go_wp2_with fail
  refine bodyPost_ret (results_none rfl _ _ _) rfl ?_
  exact ⟨⟨_, rfl⟩, Gr2.of_grown _ HG.out, [], whl, whv, _, HR2.out, .inr ⟨fun h => h.1 rfl, by rw [cndR_nil]; simp only []; rw [plcR_nil]⟩⟩
set_option maxHeartbeats 4000000 in
theorem rc_full {n0 : Nat} {w0 : World} {R : Nat} {W r : List Wd} {v : Wd} {len : Nat} {verb : Int} {byl : List Int} {byv : Value} {whl : List SCond} {whv : Value} {p : Int × Int} (x : World) (h : RSt n0 w0 R W (v :: r) len verb byl byv whl whv p x) (hp : p.2 = 0) (hf : whl.length = 20) :
    Calls Tryz.prog 42 #[.pointer (some ⟨R, 0, none⟩)] x (RcSays n0 w0 R W (v :: r) len verb byl byv whl whv p x) := by
  have HN := Lib.hid (rnext_some x h)
  have HP := Lib.hid hp
  have HF := Lib.hid hf
  obtain ⟨Aw, cw, rfl⟩ := own_slice h.who
  rw [hf] at HN ⊢
  have hlen : Value.slice Aw whl.length cw = .slice Aw 20 cw := by rw [hf]
  generalize hb : bOf W (v :: r) = b at *
  have HB := Lib.hid hb
  clear h hp hb hlen hf
  go_enter Tryz.func42, Tryz.ntmps42
  go_wp2_with fail
  refine HN.out.mono ?_
  rintro e y ⟨rfl, hr, hg⟩
  have hr2 := hr.same ((Below.refl y.heap.size y).alloc (Nat.le_refl _) (.cells (#[.int .i64 (b : Int), .string ⟨v.toArray⟩] : Array Value) 89))
  have HG := Lib.hid (World.grownBy.trans hg (World.grownBy_alloc y (.cells (#[.int .i64 (b : Int), .string ⟨v.toArray⟩] : Array Value) 89) (some R)))
  obtain ⟨e6, e4, _, _⟩ := rst_cell hr2
  rw [HP.out] at e6
  have HFL := Lib.hid (rfail_any (b : Int) 6 v _ hr2)
  clear hr hg hr2
  go_wp2_with fail
  refine HFL.out.mono ?_
  rintro e y3 ⟨⟨u, rfl⟩, hr3, hg3⟩
  have HR3 := Lib.hid hr3
  have HG4 := Lib.hid (World.grownBy.trans HG.out hg3)
  clear hr3 hg3
  go_wp2_with fail
  refine bodyPost_ret (results_none rfl _ _ _) rfl ?_
  refine ⟨⟨_, rfl⟩, Gr2.of_grown _ HG4.out, r, whl, _, _, HR3.out, .inl ⟨by simp, HF.out, ?_⟩⟩
  rw [HB.out]
  exact if_pos HP.out
theorem info_rcond : (Tryz.prog.info? 72).map (fun i => (i.zero, i.size, i.bytes)) = some (some (.agg #[.int .i64 0, .int .i64 0, .int .i64 0]), 3, 24) := by kernel_rfl
theorem grown_undrew {x y : World} {row : Option Nat} (h : x.drew.grownBy y row) : x.grownBy y row := ⟨h.os, h.tape, h.output, h.size, h.block⟩
/-- behind an append to the conditions -/
theorem rst_app {n0 : Nat} {w0 : World} {R : Nat} {W ws : List Wd} {len : Nat} {verb : Int} {byl : List Int} {byv : Value} {whl : List SCond} {whv : Value} {p : Int × Int} {x y : World} {o : Obj} (h : RSt n0 w0 R W ws len verb byl byv whl whv p x) (hg : (x.alloc o).grownBy y whv.ownBlock) :
    y.cell? ⟨R, 4, none⟩ = some whv ∧ y.frozen? ⟨R, 4, none⟩ = false := by
  have h1 := h.same ((Below.refl x.heap.size x).alloc (Nat.le_refl _) o)
  obtain ⟨A, c, _, hk, _⟩ := h1.blk
  have hk2 := hk.grown hg (fun e => own_blk_ne h1.who hk (by decide) e.symm)
  exact ⟨hk2.cell 4, hk2.frozen 4⟩
theorem RSt.push {n0 : Nat} {w0 : World} {R : Nat} {W ws : List Wd} {len : Nat} {verb : Int} {byl : List Int} {byv : Value} {whl : List SCond} {whv v' : Value} {p : Int × Int} {x y : World} {o : Obj} {f op c : Int} (h : RSt n0 w0 R W ws len verb byl byv whl whv p x) (hg : (x.alloc o).grownBy y whv.ownBlock)
    (hown : y.ownsRow n0 72 3 v' (whl.length + 1) (cndC whl ++ [.int .i64 f, .int .i64 op, .int .i64 c])) :
    RSt n0 w0 R W ws len verb byl byv (whl ++ [⟨f, op, c⟩]) v' p (y.setCell ⟨R, 4, none⟩ v') := by
  have h1 := h.same ((Below.refl x.heap.size x).alloc (Nat.le_refl _) o)
  obtain ⟨A, cp, hc, hk, hw⟩ := h1.blk
  have hk2 := hk.grown hg (fun e => own_blk_ne h1.who hk (by decide) e.symm)
  have hby : y.ownsRow n0 3 1 byv byl.length (byl.map intV) := h1.byo.kept hg (own_own_ne h1.byo h1.who (by decide))
  have hlow := h1.low
  have hsz := h1.size
  refine ⟨⟨A, cp, hc, by have := hk2.set_ 4 v'; simpa using this, fun hn => ?_⟩, h1.suf, ?_, ?_, ?_, h1.low⟩
  · obtain ⟨g, o', cs, e, hgR, hgk, hcs⟩ := hw hn
    exact ⟨g, o', cs, e, hgR, (hgk.grown hg (fun e => own_blk_ne h1.who hgk (by decide) e.symm)).far (p := ⟨R, 4, none⟩) (by simp only []; omega) _, hcs⟩
  · exact ownsRow_setCell_other hby (a := ⟨R, 4, none⟩) (own_blk_ne hby hk2 (by decide)) _
  · have := ownsRow_setCell_other hown (a := ⟨R, 4, none⟩) (own_blk_ne hown hk2 (by decide)) v'
    rw [List.length_append, cndC_app]
    exact this
  · exact (h1.below.grown hg (by omega) (fun r e => own_base h1.who r e)).setCell (p := ⟨R, 4, none⟩) (by simp only []; omega) _
theorem Gr2.app {x0 x y : World} {R : Nat} {v u : Value} {o : Obj} (h : x0.grownBy x (some R)) (hg : (x.alloc o).grownBy y v.ownBlock) (j : Nat) : Gr2 x0 (y.setCell ⟨R, j, none⟩ u) R v :=
  ⟨hg.os.trans h.os, hg.tape.trans h.tape, hg.output.trans h.output, by rw [World.size_setCell]; have := hg.size; have := h.size; simp only [World.size_alloc] at *; omega, fun k hk h1 h2 => by
    have hkx : k < x.heap.size := Nat.lt_of_lt_of_le hk h.size
    exact (Below.heap_setCell _ _ _ k (by simp only []; omega)).trans ((hg.block k (by rw [World.size_alloc]; omega) h2).trans ((Below.heap_alloc x o k hkx).trans (h.block k hk (fun e => h1 (by injection e)))))⟩
theorem idxW_take : ∀ (l : List Wd) (n : Nat) (x : Wd), idxW (l.take n) x = if 0 ≤ idxW l x ∧ idxW l x < n then idxW l x else -1 := by
  intro l
  induction l with
  | nil => intro n x; simp [idxW]
  | cons y l ih =>
    intro n x
    cases n with
    | zero =>
      have := idxW_bd (y :: l) x
      rw [List.take_zero, if_neg (by omega)]; rfl
    | succ n =>
      rw [List.take_succ_cons, idxW_cons, idxW_cons, ih]
      have hb := idxW_bd l x
      generalize idxW l x = i at *
      by_cases h : (y == x) = true
      · simp only [if_pos h]
        rw [if_pos (by omega)]
      · simp only [if_neg h]
        by_cases h1 : i < 0
        · have e1 : ¬ (0 ≤ i ∧ i < (n : Int)) := by omega
          simp only [if_neg e1, if_pos h1]
          simp
        · by_cases h2 : i < n
          · have e1 : 0 ≤ i ∧ i < (n : Int) := by omega
            have e2 : 0 ≤ i + 1 ∧ i + 1 < ((n + 1 : Nat) : Int) := by omega
            simp only [if_pos e1, if_neg h1, if_pos e2]
          · have e1 : ¬ (0 ≤ i ∧ i < (n : Int)) := by omega
            have e2 : ¬ (0 ≤ i + 1 ∧ i + 1 < ((n + 1 : Nat) : Int)) := by omega
            simp only [if_neg e1, if_neg h1, if_neg e2]
            simp
theorem rop_any {n0 : Nat} {w0 : World} {R : Nat} {W ws : List Wd} {len : Nat} {verb : Int} {byl : List Int} {byv : Value} {whl : List SCond} {whv : Value} {p : Int × Int} (f o cv : Int) (x : World) (h : RSt n0 w0 R W ws len verb byl byv whl whv p x) (hp : p.2 = 0) (hl : ∀ v, v ∈ ws → v.length ≤ 2000) :
    Calls Tryz.prog 75 #[.pointer (some ⟨R, 0, none⟩), .agg #[.int .i64 f, .int .i64 o, .int .i64 cv]] x (OpSays n0 w0 R W ws len verb byl byv whl whv p f x) := by
  cases ws with
  | nil => exact rop_none f o cv x h hp
  | cons v r => exact rop_some f o cv x h hp (hl v (by simp))
end Go.Proofs.YtfnlddloalineaaGreatDoor
