/-
  The program's reader: query, where the verb falls.
-/
import Derived.Test.YtfnlddloalineaaGreatDoorQryW14
namespace Go.Proofs.YtfnlddloalineaaGreatDoor
open Go.RowKit
set_option linter.unusedVariables false
set_option maxRecDepth 100000
def qZ : Array Value := #[.int .i64 0, .slice none 0 0, .slice none 0 0]
/-- the start: two blocks for the query, one for the verbs -/
theorem qst_start {w : World} {B R : Nat} {ws : List Wd} {ps : List Int} {len : Int} (h : Rdr w B R ws ps len) : QSt w B R ws ps len 0 [] (.slice none 0 0) [] (.slice none 0 0) ((w.alloc (.cells #[.int .i64 0, .slice none 0 0, .slice none 0 0] 26)).alloc (.cells #[.int .i64 0, .slice none 0 0, .slice none 0 0] 26)) := by
  have hRw : R < w.heap.size ∧ B ≤ w.heap.size := by obtain ⟨_, _, _, _, hk, _, _, _, _, _, _, h7⟩ := h; exact ⟨hk.lt, h7⟩
  have hb : Below w.heap.size w ((w.alloc (.cells #[.int .i64 0, .slice none 0 0, .slice none 0 0] 26)).alloc (.cells #[.int .i64 0, .slice none 0 0, .slice none 0 0] 26)) := ((Below.refl w.heap.size w).alloc (Nat.le_refl _) _).alloc (by simp) _
  have h2 := Blk.new (w.alloc (.cells #[.int .i64 0, .slice none 0 0, .slice none 0 0] 26)) 26 #[.int .i64 0, .slice none 0 0, .slice none 0 0]
  rw [World.size_alloc] at h2
  exact ⟨h.below hb, (Blk.new w _ _).alloc _, h2, World.ownsRow_nil _ _ _ _, World.ownsRow_nil _ _ _ _, grown_of_below hb _, hRw.1, hRw.2⟩
theorem QSt.setVerb {w x : World} {B R : Nat} {rs : List Wd} {ps : List Int} {len verb : Int} {byl : List Int} {byv : Value} {whl : List SCond} {whv : Value} (h : QSt w B R rs ps len verb byl byv whl whv x) (v' : Int) : QSt w B R rs ps len v' byl byv whl whv (x.setCell ⟨w.heap.size + 1, 0, none⟩ (.int .i64 v')) where
  rdr := h.rdr.low ((Below.refl B x).setCell (p := ⟨w.heap.size + 1, 0, none⟩) (by have := h.lowB; simp only []; omega) _)
  res := h.res.far (p := ⟨w.heap.size + 1, 0, none⟩) (by simp) _
  qry := by have := h.qry.set_ 0 (.int .i64 v'); simpa using this
  byo := ownsRow_setCell_other h.byo (a := ⟨w.heap.size + 1, 0, none⟩) (by intro e; have := own_base h.byo _ e; simp only [] at this; omega) _
  who := ownsRow_setCell_other h.who (a := ⟨w.heap.size + 1, 0, none⟩) (by intro e; have := own_base h.who _ e; simp only [] at this; omega) _
  grown := grown_new h.grown (by omega) _ _
  low := h.low
  lowB := h.lowB
theorem grown_row {w x y : World} {R : Nat} {row : Option Nat} (h : w.grownBy x (some R)) (hg : x.grownBy y row) (hr : ∀ r, row = some r → w.heap.size ≤ r) : w.grownBy y (some R) :=
  ⟨hg.os.trans h.os, hg.tape.trans h.tape, hg.output.trans h.output, Nat.le_trans h.size hg.size, fun i hi hne => (hg.block i (Nat.lt_of_lt_of_le hi h.size) (fun e => by have := hr i e.symm; omega)).trans (h.block i hi hne)⟩
theorem own_own_ne {w : World} {b b' : Nat} {e e' : TypeId} {s s' n n' : Nat} {v v' : Value} {xs xs' : List Value} (h : w.ownsRow b e s v n xs) (h' : w.ownsRow b' e' s' v' n' xs') (hne : e ≠ e') : v.ownBlock = none ∨ v.ownBlock ≠ v'.ownBlock := by
  rcases h.2 with ⟨rfl, _⟩ | ⟨g, cap, cur, rfl, _, hg, _⟩
  · exact .inl rfl
  · refine .inr fun he => ?_
    rcases h'.2 with ⟨rfl, _⟩ | ⟨g', cap', cur', rfl, _, hg', _⟩
    · simp [Value.ownBlock] at he
    · have : g = g' := by simpa [Value.ownBlock] using he
      subst this
      rw [hg] at hg'
      injection hg' with hg'
      injection hg' with _ ht
      exact hne ht
/-- a condition is appended, and the slice laid into the query's block -/
theorem QSt.push {w x y : World} {B R : Nat} {rs : List Wd} {ps : List Int} {len verb : Int} {byl : List Int} {byv : Value} {whl : List SCond} {whv v' : Value} {o : Obj} {f op c : Int} (h : QSt w B R rs ps len verb byl byv whl whv x)
    (hg : (x.alloc o).grownBy y whv.ownBlock) (hown : y.ownsRow (w.heap.size + 1 + 1) 95 3 v' (whl.length + 1) (cndC whl ++ [.int .i64 f, .int .i64 op, .int .i64 c])) :
    Blk y (w.heap.size + 1) 26 #[.int .i64 verb, byv, whv] ∧ QSt w B R rs ps len verb byl byv (whl ++ [⟨f, op, c⟩]) v' (y.setCell ⟨w.heap.size + 1, 2, none⟩ v') := by
  have hs1 := h.size
  have hrow : ∀ r, whv.ownBlock = some r → w.heap.size + 1 + 1 ≤ r := fun r e => own_base h.who r e
  have h1 := h.same ((Below.refl x.heap.size x).alloc (Nat.le_refl _) o)
  have hr : Rdr y B R rs ps len := h1.rdr.low ((Below.refl B (x.alloc o)).grown hg (by have := h.lowB; simp only [World.size_alloc]; omega) (fun r e => by have := hrow r e; have := h.lowB; omega))
  have hq : Blk y (w.heap.size + 1) 26 #[.int .i64 verb, byv, whv] := h1.qry.grown hg (fun e => by have := hrow _ e.symm; omega)
  have hres : Blk y w.heap.size 26 #[.int .i64 0, .slice none 0 0, .slice none 0 0] := h1.res.grown hg (fun e => by have := hrow _ e.symm; omega)
  have hby : y.ownsRow (w.heap.size + 1 + 1) 3 1 byv byl.length (byl.map intV) := h1.byo.kept hg (own_own_ne h1.byo h1.who (by decide))
  refine ⟨hq, ?_⟩
  exact {
    rdr := hr.low ((Below.refl B y).setCell (p := ⟨w.heap.size + 1, 2, none⟩) (by have := h.lowB; simp only []; omega) _)
    res := hres.far (p := ⟨w.heap.size + 1, 2, none⟩) (by simp) _
    qry := by have := hq.set_ 2 v'; simpa using this
    byo := ownsRow_setCell_other hby (a := ⟨w.heap.size + 1, 2, none⟩) (by intro e; have := own_base hby _ e; simp only [] at this; omega) _
    who := by
      have := ownsRow_setCell_other hown (a := ⟨w.heap.size + 1, 2, none⟩) (by intro e; have := own_base hown _ e; simp only [] at this; omega) v'
      rw [List.length_append, cndC_app]
      exact this
    grown := grown_new (grown_row h1.grown hg (fun r e => by have := hrow r e; omega)) (by omega) _ _
    low := h.low
    lowB := h.lowB }
set_option maxHeartbeats 2000000 in
theorem qry_fell (ws : List Wd) (ps : List Int) (len : Int) (B R : Nat) (E : Int) (w : World) (h : Rdr w B R ws ps len) (hE : (E != 0) = true)
    (hnm : ∀ (w1 : World) (G : Nat), Rdr w1 B R ws ps len → (∀ j, j < vbL.length → w1.cell? ⟨G, j, none⟩ = some (.string ⟨(vbL.getD j []).toArray⟩)) →
      Calls Tryz.prog 70 #[.pointer (some ⟨R, 0, none⟩), .slice (some ⟨G, 0, none⟩) 2 2, .int .i64 3] w1 fun e w' => e = .returned (.tuple #[.int .i64 0, .int .i64 E]) ∧ w1 = w') :
    Calls Tryz.prog 33 #[.pointer (some ⟨R, 0, none⟩)] w fun e w' => (∃ a A n c A' n' c', e = .returned (.tuple #[.agg #[.int .i64 a, .slice A n c, .slice A' n' c'], .int .i64 E])) ∧ Rdr w' B R ws ps len ∧ w.grownBy w' (some R) := by
  have hs := qst_start h
  obtain ⟨W, hW⟩ : ∃ W, (w.alloc (.cells #[.int .i64 0, .slice none 0 0, .slice none 0 0] 26)).alloc (.cells #[.int .i64 0, .slice none 0 0, .slice none 0 0] 26) = W := ⟨_, rfl⟩
  rw [hW] at hs
  have hs1 := hs.same ((Below.refl W.heap.size W).alloc (Nat.le_refl _) (.cells (vbL.map strV).toArray 9))
  have HN := Lib.hid (hnm _ W.heap.size hs1.rdr (fun j hj => word_cell (Blk.new W 9 (vbL.map strV).toArray) hj))
  have HV := Lib.hid (vb_any W)
  have HS1 := Lib.hid hs1
  clear hs hs1 hnm h
  go_enter Tryz.func33, Tryz.ntmps33
  go_wp2_with fail
  refine HV.out.mono ?_
  rintro e w1 ⟨rfl, hw1⟩
  rw [← hw1] at HS1 HN
  clear hw1 HV hW
  obtain ⟨x0, x1, x2⟩ := rd_cells HS1.out.qry
  have fx := HS1.out.qry.frozen
  have HS2 := Lib.hid (HS1.out.setVerb 0)
  go_wp2_with fail
  refine HN.out.mono ?_
  rintro e wx ⟨rfl, rfl⟩
  clear HN
  obtain ⟨r0, r1, r2⟩ := rd_cells HS2.out.res
  have fr := HS2.out.res.frozen
  obtain ⟨y0, y1, y2⟩ := rd_cells HS2.out.qry
  go_wp2_with fail
  obtain ⟨hr, hk, _, _, hg⟩ := HS2.out.fin _ rfl
  obtain ⟨z0, z1, z2⟩ := rd_cells hk
  refine bodyPost_ret (v := .tuple #[.agg #[.int .i64 0, .slice none 0 0, .slice none 0 0], .int .i64 E]) ?_ rfl ⟨⟨_, _, _, _, _, _, _, rfl⟩, hr, hg⟩
  simp [results, Tryz.results33, go_sem, z0, z1, z2]
end Go.Proofs.YtfnlddloalineaaGreatDoor
