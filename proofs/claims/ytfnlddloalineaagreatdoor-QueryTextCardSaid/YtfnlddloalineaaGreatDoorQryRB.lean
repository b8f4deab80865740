/-
  The reference's operand.
  The reference's cond: the first half.
-/
import Derived.Test.YtfnlddloalineaaGreatDoorQryRA
import Derived.Deep.Cut
import Derived.Deep.AppendLies
namespace Go.Proofs.YtfnlddloalineaaGreatDoor
open Go.RowKit
set_option linter.unusedVariables false
set_option maxRecDepth 100000
/-- how operand ends -/
def OpSays (n0 : Nat) (w0 : World) (R : Nat) (W ws : List Wd) (len : Nat) (verb : Int) (byl : List Int) (byv : Value) (whl : List SCond) (whv : Value) (p : Int × Int) (f : Int) (x : World) (e : Ending) (y : World) : Prop := match ws with
  | [] => e = .returned (.int .i64 0) ∧ RSt n0 w0 R W [] len verb byl byv whl whv ((len : Int), 3) y ∧ x.grownBy y (some R)
  | v :: r => if (valO f v).2 = 0 then e = .returned (.int .i64 (valO f v).1) ∧ RSt n0 w0 R W r len verb byl byv whl whv p y ∧ x.grownBy y (some R)
    else (∃ n, e = .returned (.int .i64 n)) ∧ RSt n0 w0 R W r len verb byl byv whl whv ((bOf W (v :: r) : Int), (valO f v).2) y ∧ x.grownBy y (some R)
theorem rst_cell {n0 : Nat} {w0 : World} {R : Nat} {W ws : List Wd} {len : Nat} {verb : Int} {byl : List Int} {byv : Value} {whl : List SCond} {whv : Value} {p : Int × Int} {x : World} (h : RSt n0 w0 R W ws len verb byl byv whl whv p x) : x.cell? ⟨R, 6, none⟩ = some (.int .i64 p.2) ∧ x.cell? ⟨R, 4, none⟩ = some whv ∧ x.cell? ⟨R, 3, none⟩ = some byv ∧ ∀ i, x.frozen? ⟨R, i, none⟩ = false := by
  obtain ⟨A, c, _, hk, _⟩ := h.blk
  exact ⟨hk.cell 6, hk.cell 4, hk.cell 3, hk.frozen⟩
set_option maxHeartbeats 2000000 in
theorem rop_none {n0 : Nat} {w0 : World} {R : Nat} {W : List Wd} {len : Nat} {verb : Int} {byl : List Int} {byv : Value} {whl : List SCond} {whv : Value} {p : Int × Int} (f o cv : Int) (x : World) (h : RSt n0 w0 R W [] len verb byl byv whl whv p x) (hp : p.2 = 0) :
    Calls Tryz.prog 75 #[.pointer (some ⟨R, 0, none⟩), .agg #[.int .i64 f, .int .i64 o, .int .i64 cv]] x (OpSays n0 w0 R W [] len verb byl byv whl whv p f x) := by
  have hb1 := (Below.refl x.heap.size x).alloc (Nat.le_refl _) (.cells (#[.int .i64 f, .int .i64 o, .int .i64 cv] : Array Value) 72)
  have HN := Lib.hid (rnext_none _ (h.same hb1))
  rw [show flR p (len : Int) 3 = ((len : Int), 3) from if_pos hp] at HN
  have HB1 := Lib.hid hb1
  have HH := Lib.hid h
  clear h hb1
  go_enter Tryz.func75, Tryz.ntmps75
  go_wp2_with fail
  refine HN.out.mono ?_
  rintro e y ⟨rfl, hr, hg⟩
  have hr2 := hr.same ((Below.refl y.heap.size y).alloc (Nat.le_refl _) (.cells (#[.int .i64 (len : Int), .string ⟨#[]⟩] : Array Value) 89))
  have HG := Lib.hid (World.grownBy.trans (World.grownBy.trans (grown_of_below HB1.out (some R)) hg) (World.grownBy_alloc y (.cells (#[.int .i64 (len : Int), .string ⟨#[]⟩] : Array Value) 89) (some R)))
  obtain ⟨e6, _, _, _⟩ := rst_cell hr2
  simp only [] at e6
  have HR2 := Lib.hid hr2
  clear hr hg hr2
  go_wp2_with fail
  go_ret
  exact ⟨rfl, HR2.out, HG.out⟩
set_option maxHeartbeats 4000000 in
theorem rop_some {n0 : Nat} {w0 : World} {R : Nat} {W r : List Wd} {v : Wd} {len : Nat} {verb : Int} {byl : List Int} {byv : Value} {whl : List SCond} {whv : Value} {p : Int × Int} (f o cv : Int) (x : World) (h : RSt n0 w0 R W (v :: r) len verb byl byv whl whv p x) (hp : p.2 = 0) (hl : v.length ≤ 2000) :
    Calls Tryz.prog 75 #[.pointer (some ⟨R, 0, none⟩), .agg #[.int .i64 f, .int .i64 o, .int .i64 cv]] x (OpSays n0 w0 R W (v :: r) len verb byl byv whl whv p f x) := by
  have hb1 := (Below.refl x.heap.size x).alloc (Nat.le_refl _) (.cells (#[.int .i64 f, .int .i64 o, .int .i64 cv] : Array Value) 72)
  have hc1 := Blk.new x 72 #[.int .i64 f, .int .i64 o, .int .i64 cv]
  have hRx := h.size
  have HN := Lib.hid (rnext_some _ (h.same hb1))
  have HB1 := Lib.hid hb1
  have HC1 := Lib.hid hc1
  have HP := Lib.hid hp
  have HS : Hid (∀ (n : Int) (y : World), x.grownBy y (some R) → ((valO f v).2 = 0 → n = (valO f v).1 ∧ RSt n0 w0 R W r len verb byl byv whl whv p y) → ((valO f v).2 ≠ 0 → RSt n0 w0 R W r len verb byl byv whl whv ((bOf W (v :: r) : Int), (valO f v).2) y) → OpSays n0 w0 R W (v :: r) len verb byl byv whl whv p f x (.returned (.int .i64 n)) y) := by
    show ∀ _ _, _
    intro n y hg h1 h2
    unfold OpSays
    simp only []
    by_cases hv : (valO f v).2 = 0
    · rw [if_pos hv]
      obtain ⟨h3, h4⟩ := h1 hv
      exact ⟨by rw [h3], h4, hg⟩
    · rw [if_neg hv]
      exact ⟨⟨n, rfl⟩, h2 hv, hg⟩
  generalize bOf W (v :: r) = b at *
  clear h hb1 hc1 hp
  go_enter Tryz.func75, Tryz.ntmps75
  go_wp2_with fail
  refine HN.out.mono ?_
  rintro e y ⟨rfl, hr, hg⟩
  have hr2 := hr.same ((Below.refl y.heap.size y).alloc (Nat.le_refl _) (.cells (#[.int .i64 (b : Int), .string ⟨v.toArray⟩] : Array Value) 89))
  have HG := Lib.hid (World.grownBy.trans (World.grownBy.trans (grown_of_below HB1.out (some R)) hg) (World.grownBy_alloc y (.cells (#[.int .i64 (b : Int), .string ⟨v.toArray⟩] : Array Value) 89) (some R)))
  obtain ⟨e6, _, _, _⟩ := rst_cell hr2
  rw [HP.out] at e6
  have hw5 := Blk.new y 89 #[.int .i64 (b : Int), .string ⟨v.toArray⟩]
  have hc5 := (HC1.out.grown hg (by intro e; injection e; omega)).alloc (.cells (#[.int .i64 (b : Int), .string ⟨v.toArray⟩] : Array Value) 89)
  obtain ⟨wz, hwz⟩ : ∃ wz, y.alloc (.cells (#[.int .i64 (b : Int), .string ⟨v.toArray⟩] : Array Value) 89) = wz := ⟨_, rfl⟩
  have hsz : y.heap.size < wz.heap.size := by rw [← hwz]; simp
  rw [hwz] at hr2 HG e6 hw5 hc5
  obtain ⟨c0, c1, c2⟩ := rd_cells hc5
  obtain ⟨w50, w51⟩ := wd_cells hw5
  have HR2 := Lib.hid hr2
  have HW5 := Lib.hid hw5
  clear hr hg hr2 hw5 hc5 HN HC1 HB1
  by_cases h3 : f = 3
  · subst h3
    have HIX : Hid (∀ w' : World, (∀ j, j < kdL.length → w'.cell? ⟨wz.heap.size, j, none⟩ = some (.string ⟨(kdL.getD j []).toArray⟩)) → Calls Tryz.prog 37 #[.slice (some ⟨wz.heap.size, 0, none⟩) 11 11, .string ⟨v.toArray⟩] w' fun e w'' => e = .returned (.int .i64 (idxW kdL v)) ∧ w' = w'') := fun w' hc => refIndex_any kdL v wz.heap.size 11 11 w' hc rfl (by decide)
    have HVO : Hid (valO 3 v = if idxW kdL v < 0 then (0, 17) else (idxW kdL v, 0)) := rfl
    generalize idxW kdL v = ik at *
    by_cases hik : ik < 0
    · have k1 : decide (ik < 0) = true := by rw [decide_eq_true_eq]; exact hik
      have HV2 : Hid (valO 3 v = (0, 17)) := by show _ = _; rw [HVO.out, if_pos hik]
      clear hik
      go_wp2_with fail
      have w5k := (HW5.out.alloc (.cells (kdL.map strV).toArray 9)).cell 1
      simp only [List.getElem?_toArray, List.getElem?_cons_succ, List.getElem?_cons_zero] at w5k
      have hbk : Below wz.heap.size wz ((wz.alloc (.cells (kdL.map strV).toArray 9)).drew) := ((Below.refl wz.heap.size wz).alloc (Nat.le_refl _) _).drew
      have HRK := Lib.hid (HR2.out.same hbk)
      have HGK := Lib.hid (World.grownBy.trans HG.out (grown_of_below hbk (some R)))
      have hw5k : Blk ((wz.alloc (.cells (kdL.map strV).toArray 9)).drew) y.heap.size 89 #[.int .i64 (b : Int), .string ⟨v.toArray⟩] := HW5.out.below hbk hsz
      obtain ⟨k50, k51⟩ := wd_cells hw5k
      have HFL := Lib.hid (rfail_any (b : Int) 17 v _ HRK.out)
      clear hbk hw5k
      go_region_with (first
        | (go_at_call 82; refine (ref_kd_any _).mono ?_; rintro e wx ⟨rfl, rfl⟩)
        | (go_at_call 37; (with_reducible refine (HIX.out _ ?_).mono ?_); (exact fun j hj => kd_cells wz j hj); (rintro e wx ⟨rfl, rfl⟩)))
      all_goals
        clear w5k
        go_wp2_with fail
        refine HFL.out.mono ?_
        rintro e y2 ⟨⟨u, rfl⟩, hr3, hg3⟩
        have HR3 := Lib.hid hr3
        have HG3 := Lib.hid (World.grownBy.trans HGK.out hg3)
        clear hr3 hg3
        go_wp2_with fail
        go_ret
        refine HS.out ik y2 HG3.out (fun h => ?_) (fun _ => ?_)
        · rw [HV2.out] at h; exact absurd h (by decide)
        · rw [HV2.out]
          have := HR3.out
          rwa [show flR p (b : Int) 17 = ((b : Int), 17) from if_pos HP.out] at this
    · have k1 : decide (ik < 0) = false := by rw [decide_eq_false_iff_not]; exact hik
      have HV2 : Hid (valO 3 v = (ik, 0)) := by show _ = _; rw [HVO.out, if_neg hik]
      clear hik
      go_wp2_with fail
      have w5k := (HW5.out.alloc (.cells (kdL.map strV).toArray 9)).cell 1
      simp only [List.getElem?_toArray, List.getElem?_cons_succ, List.getElem?_cons_zero] at w5k
      have hbk : Below wz.heap.size wz ((wz.alloc (.cells (kdL.map strV).toArray 9)).drew) := ((Below.refl wz.heap.size wz).alloc (Nat.le_refl _) _).drew
      have HRK := Lib.hid (HR2.out.same hbk)
      have HGK := Lib.hid (World.grownBy.trans HG.out (grown_of_below hbk (some R)))
      have hw5k : Blk ((wz.alloc (.cells (kdL.map strV).toArray 9)).drew) y.heap.size 89 #[.int .i64 (b : Int), .string ⟨v.toArray⟩] := HW5.out.below hbk hsz
      obtain ⟨k50, k51⟩ := wd_cells hw5k
      have HFL := Lib.hid (rfail_any (b : Int) 17 v _ HRK.out)
      clear hbk hw5k
      go_region_with (first
        | (go_at_call 82; refine (ref_kd_any _).mono ?_; rintro e wx ⟨rfl, rfl⟩)
        | (go_at_call 37; (with_reducible refine (HIX.out _ ?_).mono ?_); (exact fun j hj => kd_cells wz j hj); (rintro e wx ⟨rfl, rfl⟩)))
      all_goals
        clear w5k
        go_wp2_with fail
        go_ret
        refine HS.out ik _ HGK.out (fun _ => ?_) (fun h => ?_)
        · rw [HV2.out]; exact ⟨rfl, HRK.out⟩
        · rw [HV2.out] at h; exact absurd rfl h
  · have q3 : (f == 3) = false := by rw [beq_eq_false_iff_ne]; exact h3
    by_cases h4 : f = 4
    · subst h4
      have HVO : Hid (valO 4 v = datP v) := rfl
      have HDP := Lib.hid (refDparse_any v wz)
      rw [← datP_eq] at HDP
      obtain ⟨on, oe, hoe⟩ : ∃ on oe, datP v = (on, oe) := ⟨_, _, rfl⟩
      rw [hoe] at HDP
      unfold twoV at HDP
      simp only [] at HDP
      have HV2 := Lib.hid (HVO.out.trans hoe)
      clear HVO hoe
      by_cases he : oe = 0
      · subst he
        go_wp2_with fail
        refine HDP.out.mono ?_
        rintro e y2 ⟨rfl, hb2⟩
        have HR3 := Lib.hid (HR2.out.same hb2)
        have HG3 := Lib.hid (World.grownBy.trans HG.out (grown_of_below hb2 (some R)))
        clear hb2
        go_wp2_with fail
        go_ret
        refine HS.out on _ HG3.out (fun _ => ?_) (fun h => ?_)
        · rw [HV2.out]; exact ⟨rfl, HR3.out⟩
        · rw [HV2.out] at h; exact absurd rfl h
      · have q5 : (oe != 0) = true := by rw [bne_iff_ne]; exact he
        have HNE := Lib.hid he
        clear he
        go_wp2_with fail
        refine HDP.out.mono ?_
        rintro e y2 ⟨rfl, hb2⟩
        have hw2 := HW5.out.below hb2 hsz
        obtain ⟨k50, k51⟩ := wd_cells hw2
        have HFL := Lib.hid (rfail_any (b : Int) oe v _ (HR2.out.same hb2))
        have HG3 := Lib.hid (World.grownBy.trans HG.out (grown_of_below hb2 (some R)))
        clear hb2 hw2
        go_wp2_with fail
        refine HFL.out.mono ?_
        rintro e y3 ⟨⟨u, rfl⟩, hr3, hg3⟩
        have HR3 := Lib.hid hr3
        have HG4 := Lib.hid (World.grownBy.trans HG3.out hg3)
        clear hr3 hg3
        go_wp2_with fail
        go_ret
        refine HS.out on _ HG4.out (fun h => ?_) (fun _ => ?_)
        · rw [HV2.out] at h; exact absurd h HNE.out
        · rw [HV2.out]
          have := HR3.out
          rwa [show flR p (b : Int) oe = ((b : Int), oe) from if_pos HP.out] at this
    · have q4 : (f == 4) = false := by rw [beq_eq_false_iff_ne]; exact h4
      have HVO : Hid (valO f v = intR v) := by show _ = _; unfold valO; rw [if_neg h3, if_neg h4]
      have HIN := Lib.hid (rinteger_any v wz hl)
      clear h3 h4
      rcases rint_cases v with ⟨hv, hi⟩ | ⟨n, hv, hi⟩ | ⟨n, hv, hi⟩
      · have HV2 := Lib.hid (HVO.out.trans hv)
        rw [hi] at HIN
        have HFL := Lib.hid (rfail_any (b : Int) 3 v _ HR2.out)
        clear hv hi HVO
        go_wp2_with fail
        refine HIN.out.mono ?_
        rintro e wx ⟨rfl, rfl⟩
        go_wp2_with fail
        refine HFL.out.mono ?_
        rintro e y3 ⟨⟨u, rfl⟩, hr3, hg3⟩
        have hw3 := HW5.out.grown hg3 (by intro e; injection e with e; obtain ⟨_, _, _, hk, _⟩ := HR2.out.blk; exact Blk.ne_ HW5.out hk (by decide) e)
        obtain ⟨m50, m51⟩ := wd_cells hw3
        have HFL2 := Lib.hid (rfail_any (b : Int) 2 v _ hr3)
        have HG4 := Lib.hid (World.grownBy.trans HG.out hg3)
        clear hr3 hg3 hw3 HFL
        go_wp2_with fail
        refine HFL2.out.mono ?_
        rintro e y4 ⟨⟨u4, rfl⟩, hr4, hg4⟩
        have HR4 := Lib.hid hr4
        have HG5 := Lib.hid (World.grownBy.trans HG4.out hg4)
        clear hr4 hg4
        go_wp2_with fail
        go_ret
        refine HS.out 0 _ HG5.out (fun h => ?_) (fun _ => ?_)
        · rw [HV2.out] at h; exact absurd h (by decide)
        · rw [HV2.out]
          have := HR4.out
          rwa [show flR (flR p (b : Int) 3) (b : Int) 2 = ((b : Int), 3) by rw [show flR p (b : Int) 3 = ((b : Int), 3) from if_pos HP.out]; exact if_neg (show ¬ (3 : Int) = 0 by decide)] at this
      · have HV2 := Lib.hid (HVO.out.trans hv)
        rw [hi] at HIN
        clear hv hi HVO
        go_wp2_with fail
        refine HIN.out.mono ?_
        rintro e wx ⟨rfl, rfl⟩
        go_wp2_with fail
        go_ret
        refine HS.out n _ HG.out (fun _ => ?_) (fun h => ?_)
        · rw [HV2.out]; exact ⟨rfl, HR2.out⟩
        · rw [HV2.out] at h; exact absurd rfl h
      · have HV2 := Lib.hid (HVO.out.trans hv)
        rw [hi] at HIN
        have HFL := Lib.hid (rfail_any (b : Int) 2 v _ HR2.out)
        clear hv hi HVO
        go_wp2_with fail
        refine HIN.out.mono ?_
        rintro e wx ⟨rfl, rfl⟩
        go_wp2_with fail
        refine HFL.out.mono ?_
        rintro e y3 ⟨⟨u, rfl⟩, hr3, hg3⟩
        have HR3 := Lib.hid hr3
        have HG4 := Lib.hid (World.grownBy.trans HG.out hg3)
        clear hr3 hg3 HFL
        go_wp2_with fail
        go_ret
        refine HS.out n _ HG4.out (fun h => ?_) (fun _ => ?_)
        · rw [HV2.out] at h; exact absurd h (by decide)
        · rw [HV2.out]
          have := HR3.out
          rwa [show flR p (b : Int) 2 = ((b : Int), 2) from if_pos HP.out] at this
end Go.Proofs.YtfnlddloalineaaGreatDoor
namespace Go.Proofs.YtfnlddloalineaaGreatDoor
open Go.RowKit
set_option linter.unusedVariables false
set_option maxRecDepth 100000
/-- the reader's block, one slice's own row, and new blocks may have turned -/
structure Gr2 (x y : World) (R : Nat) (v : Value) : Prop where
  os : y.os = x.os
  tape : y.tape = x.tape
  output : y.output = x.output
  size : x.heap.size ≤ y.heap.size
  block : ∀ k, k < x.heap.size → k ≠ R → some k ≠ v.ownBlock → y.heap[k]? = x.heap[k]?
theorem Gr2.of_grown {x y : World} {R : Nat} (v : Value) (h : x.grownBy y (some R)) : Gr2 x y R v :=
  ⟨h.os, h.tape, h.output, h.size, fun k hk hne _ => h.block k hk (fun e => hne (by injection e))⟩
/-- what cond must come to -/
def CndOut (W ws : List Wd) (len : Nat) (whl : List SCond) (p : Int × Int) (ws' : List Wd) (whl' : List SCond) (p' : Int × Int) : Prop :=
  (ws ≠ [] ∧ whl.length = 20 ∧ p' = ((bOf W ws : Int), 6)) ∨ (¬ (ws ≠ [] ∧ whl.length = 20) ∧ match cndR ws with
    | .error (r, E) => p' = ((plcR W r len : Int), E)
    | .ok (c, r) => ws' = r ∧ whl' = whl ++ [c] ∧ p' = p)
def RcSays (n0 : Nat) (w0 : World) (R : Nat) (W ws : List Wd) (len : Nat) (verb : Int) (byl : List Int) (byv : Value) (whl : List SCond) (whv : Value) (p : Int × Int) (x : World) (e : Ending) (y : World) : Prop :=
  (∃ v, e = .returned v) ∧ Gr2 x y R whv ∧ ∃ ws' whl' whv' p', RSt n0 w0 R W ws' len verb byl byv whl' whv' p' y ∧ CndOut W ws len whl p ws' whl' p'
theorem plcR_nil (W : List Wd) (len : Nat) : plcR W [] len = len := if_pos rfl
theorem plcR_cons (W : List Wd) (x : Wd) (r : List Wd) (len : Nat) : plcR W (x :: r) len = bOf W (x :: r) := if_neg (by simp)
set_option maxHeartbeats 2000000 in
theorem rc_none {n0 : Nat} {w0 : World} {R : Nat} {W : List Wd} {len : Nat} {verb : Int} {byl : List Int} {byv : Value} {whl : List SCond} {whv : Value} {p : Int × Int} (x : World) (h : RSt n0 w0 R W [] len verb byl byv whl whv p x) (hp : p.2 = 0) :
    Calls Tryz.prog 42 #[.pointer (some ⟨R, 0, none⟩)] x (RcSays n0 w0 R W [] len verb byl byv whl whv p x) := by
  have HN := Lib.hid (rnext_none x h)
  rw [show flR p (len : Int) 3 = ((len : Int), 3) from if_pos hp] at HN
  clear h
  go_enter Tryz.func42, Tryz.ntmps42
  go_wp2_with fail
  refine HN.out.mono ?_
  rintro e y ⟨rfl, hr, hg⟩
  have hr2 := hr.same ((Below.refl y.heap.size y).alloc (Nat.le_refl _) (.cells (#[.int .i64 (len : Int), .string ⟨#[]⟩] : Array Value) 89))
  have HG := Lib.hid (World.grownBy.trans hg (World.grownBy_alloc y (.cells (#[.int .i64 (len : Int), .string ⟨#[]⟩] : Array Value) 89) (some R)))
  obtain ⟨e6, _, _, _⟩ := rst_cell hr2
  simp only [] at e6
  have HR2 := Lib.hid hr2
  clear hr hg hr2
  go_wp2_with fail
  refine bodyPost_ret (results_none rfl _ _ _) rfl ?_
  exact ⟨⟨_, rfl⟩, Gr2.of_grown _ HG.out, [], whl, whv, _, HR2.out, .inr ⟨fun h => h.1 rfl, by rw [cndR_nil]; simp only []; rw [plcR_nil]⟩⟩
set_option maxHeartbeats 4000000 in
theorem rc_full {n0 : Nat} {w0 : World} {R : Nat} {W r : List Wd} {v : Wd} {len : Nat} {verb : Int} {byl : List Int} {byv : Value} {whl : List SCond} {whv : Value} {p : Int × Int} (x : World) (h : RSt n0 w0 R W (v :: r) len verb byl byv whl whv p x) (hp : p.2 = 0) (hf : whl.length = 20) :
    Calls Tryz.prog 42 #[.pointer (some ⟨R, 0, none⟩)] x (RcSays n0 w0 R W (v :: r) len verb byl byv whl whv p x) := by
  have HN := Lib.hid (rnext_some x h)
  have HP := Lib.hid hp
  have HF := Lib.hid hf
  obtain ⟨Aw, cw, rfl⟩ := own_slice h.who
  rw [hf] at HN ⊢
  have hlen : Value.slice Aw whl.length cw = .slice Aw 20 cw := by rw [hf]
  generalize hb : bOf W (v :: r) = b at *
  have HB := Lib.hid hb
  clear h hp hb hlen hf
  go_enter Tryz.func42, Tryz.ntmps42
  go_wp2_with fail
  refine HN.out.mono ?_
  rintro e y ⟨rfl, hr, hg⟩
  have hr2 := hr.same ((Below.refl y.heap.size y).alloc (Nat.le_refl _) (.cells (#[.int .i64 (b : Int), .string ⟨v.toArray⟩] : Array Value) 89))
  have HG := Lib.hid (World.grownBy.trans hg (World.grownBy_alloc y (.cells (#[.int .i64 (b : Int), .string ⟨v.toArray⟩] : Array Value) 89) (some R)))
  obtain ⟨e6, e4, _, _⟩ := rst_cell hr2
  rw [HP.out] at e6
  have HFL := Lib.hid (rfail_any (b : Int) 6 v _ hr2)
  clear hr hg hr2
  go_wp2_with fail
  refine HFL.out.mono ?_
  rintro e y3 ⟨⟨u, rfl⟩, hr3, hg3⟩
  have HR3 := Lib.hid hr3
  have HG4 := Lib.hid (World.grownBy.trans HG.out hg3)
  clear hr3 hg3
  go_wp2_with fail
  refine bodyPost_ret (results_none rfl _ _ _) rfl ?_
  refine ⟨⟨_, rfl⟩, Gr2.of_grown _ HG4.out, r, whl, _, _, HR3.out, .inl ⟨by simp, HF.out, ?_⟩⟩
  rw [HB.out]
  exact if_pos HP.out
theorem info_rcond : (Tryz.prog.info? 72).map (fun i => (i.zero, i.size, i.bytes)) = some (some (.agg #[.int .i64 0, .int .i64 0, .int .i64 0]), 3, 24) := by kernel_rfl
theorem grown_undrew {x y : World} {row : Option Nat} (h : x.drew.grownBy y row) : x.grownBy y row := ⟨h.os, h.tape, h.output, h.size, h.block⟩
/-- behind an append to the conditions -/
theorem rst_app {n0 : Nat} {w0 : World} {R : Nat} {W ws : List Wd} {len : Nat} {verb : Int} {byl : List Int} {byv : Value} {whl : List SCond} {whv : Value} {p : Int × Int} {x y : World} {o : Obj} (h : RSt n0 w0 R W ws len verb byl byv whl whv p x) (hg : (x.alloc o).grownBy y whv.ownBlock) :
    y.cell? ⟨R, 4, none⟩ = some whv ∧ y.frozen? ⟨R, 4, none⟩ = false := by
  have h1 := h.same ((Below.refl x.heap.size x).alloc (Nat.le_refl _) o)
  obtain ⟨A, c, _, hk, _⟩ := h1.blk
  have hk2 := hk.grown hg (fun e => own_blk_ne h1.who hk (by decide) e.symm)
  exact ⟨hk2.cell 4, hk2.frozen 4⟩
theorem RSt.push {n0 : Nat} {w0 : World} {R : Nat} {W ws : List Wd} {len : Nat} {verb : Int} {byl : List Int} {byv : Value} {whl : List SCond} {whv v' : Value} {p : Int × Int} {x y : World} {o : Obj} {f op c : Int} (h : RSt n0 w0 R W ws len verb byl byv whl whv p x) (hg : (x.alloc o).grownBy y whv.ownBlock)
    (hown : y.ownsRow n0 72 3 v' (whl.length + 1) (cndC whl ++ [.int .i64 f, .int .i64 op, .int .i64 c])) :
    RSt n0 w0 R W ws len verb byl byv (whl ++ [⟨f, op, c⟩]) v' p (y.setCell ⟨R, 4, none⟩ v') := by
  have h1 := h.same ((Below.refl x.heap.size x).alloc (Nat.le_refl _) o)
  obtain ⟨A, cp, hc, hk, hw⟩ := h1.blk
  have hk2 := hk.grown hg (fun e => own_blk_ne h1.who hk (by decide) e.symm)
  have hby : y.ownsRow n0 3 1 byv byl.length (byl.map intV) := h1.byo.kept hg (own_own_ne h1.byo h1.who (by decide))
  have hlow := h1.low
  have hsz := h1.size
  refine ⟨⟨A, cp, hc, by have := hk2.set_ 4 v'; simpa using this, fun hn => ?_⟩, h1.suf, ?_, ?_, ?_, h1.low⟩
  · obtain ⟨g, o', cs, e, hgR, hgk, hcs⟩ := hw hn
    exact ⟨g, o', cs, e, hgR, (hgk.grown hg (fun e => own_blk_ne h1.who hgk (by decide) e.symm)).far (p := ⟨R, 4, none⟩) (by simp only []; omega) _, hcs⟩
  · exact ownsRow_setCell_other hby (a := ⟨R, 4, none⟩) (own_blk_ne hby hk2 (by decide)) _
  · have := ownsRow_setCell_other hown (a := ⟨R, 4, none⟩) (own_blk_ne hown hk2 (by decide)) v'
    rw [List.length_append, cndC_app]
    exact this
  · exact (h1.below.grown hg (by omega) (fun r e => own_base h1.who r e)).setCell (p := ⟨R, 4, none⟩) (by simp only []; omega) _
theorem Gr2.app {x0 x y : World} {R : Nat} {v u : Value} {o : Obj} (h : x0.grownBy x (some R)) (hg : (x.alloc o).grownBy y v.ownBlock) (j : Nat) : Gr2 x0 (y.setCell ⟨R, j, none⟩ u) R v :=
  ⟨hg.os.trans h.os, hg.tape.trans h.tape, hg.output.trans h.output, by rw [World.size_setCell]; have := hg.size; have := h.size; simp only [World.size_alloc] at *; omega, fun k hk h1 h2 => by
    have hkx : k < x.heap.size := Nat.lt_of_lt_of_le hk h.size
    exact (Below.heap_setCell _ _ _ k (by simp only []; omega)).trans ((hg.block k (by rw [World.size_alloc]; omega) h2).trans ((Below.heap_alloc x o k hkx).trans (h.block k hk (fun e => h1 (by injection e)))))⟩
theorem idxW_take : ∀ (l : List Wd) (n : Nat) (x : Wd), idxW (l.take n) x = if 0 ≤ idxW l x ∧ idxW l x < n then idxW l x else -1 := by
  intro l
  induction l with
  | nil => intro n x; simp [idxW]
  | cons y l ih =>
    intro n x
    cases n with
    | zero =>
      have := idxW_bd (y :: l) x
      rw [List.take_zero, if_neg (by omega)]; rfl
    | succ n =>
      rw [List.take_succ_cons, idxW_cons, idxW_cons, ih]
      have hb := idxW_bd l x
      generalize idxW l x = i at *
      by_cases h : (y == x) = true
      · simp only [if_pos h]
        rw [if_pos (by omega)]
      · simp only [if_neg h]
        by_cases h1 : i < 0
        · have e1 : ¬ (0 ≤ i ∧ i < (n : Int)) := by omega
          simp only [if_neg e1, if_pos h1]
          simp
        · by_cases h2 : i < n
          · have e1 : 0 ≤ i ∧ i < (n : Int) := by omega
            have e2 : 0 ≤ i + 1 ∧ i + 1 < ((n + 1 : Nat) : Int) := by omega
            simp only [if_pos e1, if_neg h1, if_pos e2]
          · have e1 : ¬ (0 ≤ i ∧ i < (n : Int)) := by omega
            have e2 : ¬ (0 ≤ i + 1 ∧ i + 1 < ((n + 1 : Nat) : Int)) := by omega
            simp only [if_neg e1, if_neg h1, if_neg e2]
            simp
theorem rop_any {n0 : Nat} {w0 : World} {R : Nat} {W ws : List Wd} {len : Nat} {verb : Int} {byl : List Int} {byv : Value} {whl : List SCond} {whv : Value} {p : Int × Int} (f o cv : Int) (x : World) (h : RSt n0 w0 R W ws len verb byl byv whl whv p x) (hp : p.2 = 0) (hl : ∀ v, v ∈ ws → v.length ≤ 2000) :
    Calls Tryz.prog 75 #[.pointer (some ⟨R, 0, none⟩), .agg #[.int .i64 f, .int .i64 o, .int .i64 cv]] x (OpSays n0 w0 R W ws len verb byl byv whl whv p f x) := by
  cases ws with
  | nil => exact rop_none f o cv x h hp
  | cons v r => exact rop_some f o cv x h hp (hl v (by simp))
end Go.Proofs.YtfnlddloalineaaGreatDoor
