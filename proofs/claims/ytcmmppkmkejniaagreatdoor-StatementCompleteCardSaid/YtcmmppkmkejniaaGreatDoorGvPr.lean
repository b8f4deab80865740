/-
  proper of both: an account may be in a chart.
-/
import Derived.Test.YtcmmppkmkejniaaGreatDoorGvCl
namespace Go.Proofs.YtcmmppkmkejniaaGreatDoor
open Go.RowKit
set_option linter.unusedVariables false
theorem accIn_iff {g : Bool} {a : SAcc} : accIn g a = true ↔ 1 ≤ a.code ∧ a.code ≤ 99999 ∧ 1 ≤ a.kind ∧ a.kind ≤ 5 ∧ (g = true → 1 ≤ a.basis ∧ a.basis ≤ 3) ∧ (g = false → a.basis = 0) := by
  unfold accIn
  cases g <;> simp [and_assoc]
theorem accIn_no {g : Bool} {a : SAcc} (h : ¬ (1 ≤ a.code ∧ a.code ≤ 99999 ∧ 1 ≤ a.kind ∧ a.kind ≤ 5 ∧ (g = true → 1 ≤ a.basis ∧ a.basis ≤ 3) ∧ (g = false → a.basis = 0))) : accIn g a = false := by
  cases e : accIn g a
  · rfl
  · exact absurd (accIn_iff.1 e) h
theorem properP_no {l : List SAcc} {g : Bool} {a : SAcc} (h : accIn g a = false) : properP l g a = false := by unfold properP; rw [h]; rfl
theorem properR_no {l : List SAcc} {g : Bool} {a : SAcc} (h : accIn g a = false) : properR l g a = false := by unfold properR; rw [h]; rfl
theorem properP_0 {l : List SAcc} {g : Bool} {a : SAcc} (h : accIn g a = true) (h0 : a.parent = 0) : properP l g a = true := by unfold properP; rw [h, h0]; rfl
theorem properR_0 {l : List SAcc} {g : Bool} {a : SAcc} (h : accIn g a = true) (h0 : a.parent = 0) : properR l g a = true := by unfold properR; rw [h, h0]; rfl
theorem properP_par {l : List SAcc} {g : Bool} {a : SAcc} (h : accIn g a = true) (h0 : (a.parent == 0) = false) : properP l g a = (parOk l a && (topA l a.code).parent == 0) := by unfold properP; rw [h, h0]; simp
theorem properR_par {l : List SAcc} {g : Bool} {a : SAcc} (h : accIn g a = true) (h0 : (a.parent == 0) = false) : properR l g a = parOk l a := by unfold properR; rw [h, h0]; simp
theorem parOk_none {l : List SAcc} {a : SAcc} (h : findA l a.parent = none) : parOk l a = false := by unfold parOk; rw [h]
theorem parOk_at {l : List SAcc} {a p : SAcc} (h : findA l a.parent = some p) : parOk l a = ((p.code != a.code) && p.kind == a.kind) := by unfold parOk; rw [h]
theorem getLast_at {xs : List Int} {m : Nat} (h : xs.length = m + 1) : xs.getD m 0 = xs.getLastD 0 := by
  have hm : xs ≠ [] := by rintro rfl; simp at h
  rw [List.getLastD_eq_getLast?, List.getLast?_eq_some_getLast hm, List.getLast_eq_getElem hm]
  have e : xs.length - 1 = m := by omega
  simp only [e, Option.getD_some, List.getD_eq_getElem?_getD]
  rw [List.getElem?_eq_getElem (by omega)]; rfl
set_option maxRecDepth 100000 in
set_option maxHeartbeats 8000000 in
theorem rproper_any (l : List SAcc) (A : Option Addr) (n c : Nat) (a : SAcc) (g : Bool) (B : Nat) (w : World) (hr : Reads w B 4 A n (accsC l)) (hB : B ≤ w.heap.size) (hn : n ≤ 1000) :
    Calls Tryz.prog 67 #[.slice A n c, accV a, .bool g] w fun e w' => e = .returned (.bool (properR l g a)) ∧ Below w.heap.size w w' := by
  obtain ⟨x0, x1, x2, x3⟩ := a
  unfold accV
  simp only []
  have HL := Lib.hid (accs_len hr)
  have HR := Lib.hid hr
  have hb0 := (Below.refl w.heap.size w).alloc (Nat.le_refl _) (.cells #[.int .i64 x0, .int .i64 x1, .int .i64 x2, .int .i64 x3] 42)
  have HB0 := Lib.hid hb0
  have HK := Lib.hid (Blk.new w 42 #[.int .i64 x0, .int .i64 x1, .int .i64 x2, .int .i64 x3])
  clear hr hb0
  generalize hgo : properR l g ⟨x0, x1, x2, x3⟩ = ok
  have HG := Lib.hid hgo.symm
  clear hgo
  by_cases t1 : x0 < 1
  · have d1 : (decide (x0 < 1)) = true := by rw [decide_eq_true_eq]; omega
    have F := Lib.hid (properR_no (l := l) (accIn_no (g := g) (a := ⟨x0, x1, x2, x3⟩) (by dsimp only; rintro ⟨h, _⟩; omega)))
    go_enter Tryz.func67, Tryz.ntmps67
    go_wp2_with fail
    go_ret
    exact ⟨ret_bool (HG.out.trans F.out).symm, HB0.out⟩
  have d1 : (decide (x0 < 1)) = false := by rw [decide_eq_false_iff_not]; omega
  by_cases t2 : 99999 < x0
  · have d2 : (decide (99999 < x0)) = true := by rw [decide_eq_true_eq]; omega
    have F := Lib.hid (properR_no (l := l) (accIn_no (g := g) (a := ⟨x0, x1, x2, x3⟩) (by dsimp only; rintro ⟨_, h, _⟩; omega)))
    go_enter Tryz.func67, Tryz.ntmps67
    go_wp2_with fail
    go_ret
    exact ⟨ret_bool (HG.out.trans F.out).symm, HB0.out⟩
  have d2 : (decide (99999 < x0)) = false := by rw [decide_eq_false_iff_not]; omega
  by_cases t3 : x1 < 1
  · have d3 : (decide (x1 < 1)) = true := by rw [decide_eq_true_eq]; omega
    have F := Lib.hid (properR_no (l := l) (accIn_no (g := g) (a := ⟨x0, x1, x2, x3⟩) (by dsimp only; rintro ⟨_, _, h, _⟩; omega)))
    go_enter Tryz.func67, Tryz.ntmps67
    go_wp2_with fail
    go_ret
    exact ⟨ret_bool (HG.out.trans F.out).symm, HB0.out⟩
  have d3 : (decide (x1 < 1)) = false := by rw [decide_eq_false_iff_not]; omega
  by_cases t4 : 5 < x1
  · have d4 : (decide (5 < x1)) = true := by rw [decide_eq_true_eq]; omega
    have F := Lib.hid (properR_no (l := l) (accIn_no (g := g) (a := ⟨x0, x1, x2, x3⟩) (by dsimp only; rintro ⟨_, _, _, h, _⟩; omega)))
    go_enter Tryz.func67, Tryz.ntmps67
    go_wp2_with fail
    go_ret
    exact ⟨ret_bool (HG.out.trans F.out).symm, HB0.out⟩
  have d4 : (decide (5 < x1)) = false := by rw [decide_eq_false_iff_not]; omega
  cases g
  case false =>
    by_cases t7 : x2 = 0
    case neg =>
      have d7 : (x2 != 0) = true := by rw [bne_iff_ne]; exact t7
      have F := Lib.hid (properR_no (l := l) (accIn_no (g := false) (a := ⟨x0, x1, x2, x3⟩) (by dsimp only; rintro ⟨_, _, _, _, _, h⟩; have := h rfl; omega)))
      go_enter Tryz.func67, Tryz.ntmps67
      go_wp2_with fail
      go_ret
      exact ⟨ret_bool (HG.out.trans F.out).symm, HB0.out⟩
    case pos =>
      have d7 : (x2 != 0) = false := by rw [bne_eq_false_iff_eq]; exact t7
      have t7a : 0 ≤ x2 := by omega
      have t7b : x2 ≤ 0 := by omega
      clear t7
      have HIN := Lib.hid ((accIn_iff (g := false) (a := ⟨x0, x1, x2, x3⟩)).2 (by dsimp only; exact ⟨by omega, by omega, by omega, by omega, (fun h => by cases h), (fun _ => by omega)⟩))
      by_cases t8 : x3 = 0
      · have d8 : (x3 == 0) = true := by rw [beq_iff_eq]; exact t8
        have F := Lib.hid (properR_0 (l := l) HIN.out t8)
        clear t8
        go_enter Tryz.func67, Tryz.ntmps67
        go_wp2_with fail
        go_ret
        exact ⟨ret_bool (HG.out.trans F.out).symm, HB0.out⟩
      have d8 : (x3 == 0) = false := by rw [beq_eq_false_iff_ne]; exact t8
      have HPP := Lib.hid (properR_par (l := l) HIN.out d8)
      clear t8
      cases hf : findA l x3 with
      | none =>
        have FV := Lib.hid (findV_no hf)
        have F : Hid (properR l false ⟨x0, x1, x2, x3⟩ = false) := by show _ = _; rw [HPP.out, parOk_none hf]
        clear hf
        go_enter Tryz.func67, Tryz.ntmps67
        go_wp2_with fail
        have HFC := Lib.hid (rfind_any l A n c x3 B _ (HR.out.lowg hB (Nat.le_refl _) HB0.out) (by simp only [World.size_alloc]; omega) (by omega))
        refine HFC.out.mono ?_
        rintro e w1 ⟨rfl, hb1⟩
        rw [FV.out]
        have HB1 := Lib.hid (below_two HB0.out hb1)
        have HK1 := Lib.hid (HK.out.below hb1 (by simp))
        obtain ⟨c0, c1, c2, c3⟩ := acc_blk HK1.out
        have hs1 : w.heap.size < w1.heap.size := by have := hb1.size; simp only [World.size_alloc] at this; omega
        clear hb1 HFC
        go_wp2_with fail
        go_ret
        exact ⟨ret_bool (HG.out.trans F.out).symm, HB1.out.alloc (by omega) _⟩
      | some p =>
        have FV := Lib.hid (findV_yes hf)
        have HPO : Hid (properR l false ⟨x0, x1, x2, x3⟩ = ((p.code != x0) && p.kind == x1)) := by show _ = _; rw [HPP.out, parOk_at hf]
        clear hf
        obtain ⟨p0, p1, p2, p3⟩ := p
        simp only [] at FV HPO
        cases e1 : p0 == x0
        · have e1' : (p0 != x0) = true := by rw [bne, e1]; rfl
          cases e2 : p1 == x1
          all_goals
            have F : Hid (properR l false ⟨x0, x1, x2, x3⟩ = (p1 == x1)) := by show _ = _; rw [HPO.out, e1']; rfl
            rw [e2] at F
            have HE1 := Lib.hid e1
            go_enter Tryz.func67, Tryz.ntmps67
            go_wp2_with fail
            have HFC := Lib.hid (rfind_any l A n c x3 B _ (HR.out.lowg hB (Nat.le_refl _) HB0.out) (by simp only [World.size_alloc]; omega) (by omega))
            refine HFC.out.mono ?_
            rintro e w1 ⟨rfl, hb1⟩
            rw [FV.out]
            have HB1 := Lib.hid (below_two HB0.out hb1)
            have HK1 := Lib.hid (HK.out.below hb1 (by simp))
            obtain ⟨c0, c1, c2, c3⟩ := acc_blk HK1.out
            have hs1 : w.heap.size < w1.heap.size := by have := hb1.size; simp only [World.size_alloc] at this; omega
            clear hb1 HFC
            go_wp2_with fail
            go_ret
            exact ⟨ret_bool (HG.out.trans F.out).symm, HB1.out.alloc (by omega) _⟩
        · have e1' : (p0 != x0) = false := by rw [bne, e1]; rfl
          have F : Hid (properR l false ⟨x0, x1, x2, x3⟩ = false) := by show _ = _; rw [HPO.out]; rw [e1']; rfl
          go_enter Tryz.func67, Tryz.ntmps67
          go_wp2_with fail
          have HFC := Lib.hid (rfind_any l A n c x3 B _ (HR.out.lowg hB (Nat.le_refl _) HB0.out) (by simp only [World.size_alloc]; omega) (by omega))
          refine HFC.out.mono ?_
          rintro e w1 ⟨rfl, hb1⟩
          rw [FV.out]
          have HB1 := Lib.hid (below_two HB0.out hb1)
          have HK1 := Lib.hid (HK.out.below hb1 (by simp))
          obtain ⟨c0, c1, c2, c3⟩ := acc_blk HK1.out
          have hs1 : w.heap.size < w1.heap.size := by have := hb1.size; simp only [World.size_alloc] at this; omega
          clear hb1 HFC
          go_wp2_with fail
          go_ret
          exact ⟨ret_bool (HG.out.trans F.out).symm, HB1.out.alloc (by omega) _⟩
  case true =>
    by_cases t5 : x2 < 1
    · have d5 : (decide (x2 < 1)) = true := by rw [decide_eq_true_eq]; omega
      have F := Lib.hid (properR_no (l := l) (accIn_no (g := true) (a := ⟨x0, x1, x2, x3⟩) (by dsimp only; rintro ⟨_, _, _, _, h, _⟩; have := h rfl; omega)))
      go_enter Tryz.func67, Tryz.ntmps67
      go_wp2_with fail
      go_ret
      exact ⟨ret_bool (HG.out.trans F.out).symm, HB0.out⟩
    have d5 : (decide (x2 < 1)) = false := by rw [decide_eq_false_iff_not]; omega
    by_cases t6 : 3 < x2
    · have d6 : (decide (3 < x2)) = true := by rw [decide_eq_true_eq]; omega
      have F := Lib.hid (properR_no (l := l) (accIn_no (g := true) (a := ⟨x0, x1, x2, x3⟩) (by dsimp only; rintro ⟨_, _, _, _, h, _⟩; have := h rfl; omega)))
      go_enter Tryz.func67, Tryz.ntmps67
      go_wp2_with fail
      go_ret
      exact ⟨ret_bool (HG.out.trans F.out).symm, HB0.out⟩
    have d6 : (decide (3 < x2)) = false := by rw [decide_eq_false_iff_not]; omega
    have HIN := Lib.hid ((accIn_iff (g := true) (a := ⟨x0, x1, x2, x3⟩)).2 (by dsimp only; exact ⟨by omega, by omega, by omega, by omega, (fun _ => ⟨by omega, by omega⟩), (fun h => by cases h)⟩))
    by_cases t8 : x3 = 0
    · have d8 : (x3 == 0) = true := by rw [beq_iff_eq]; exact t8
      have F := Lib.hid (properR_0 (l := l) HIN.out t8)
      clear t8
      go_enter Tryz.func67, Tryz.ntmps67
      go_wp2_with fail
      go_ret
      exact ⟨ret_bool (HG.out.trans F.out).symm, HB0.out⟩
    have d8 : (x3 == 0) = false := by rw [beq_eq_false_iff_ne]; exact t8
    have HPP := Lib.hid (properR_par (l := l) HIN.out d8)
    clear t8
    cases hf : findA l x3 with
    | none =>
      have FV := Lib.hid (findV_no hf)
      have F : Hid (properR l true ⟨x0, x1, x2, x3⟩ = false) := by show _ = _; rw [HPP.out, parOk_none hf]
      clear hf
      go_enter Tryz.func67, Tryz.ntmps67
      go_wp2_with fail
      have HFC := Lib.hid (rfind_any l A n c x3 B _ (HR.out.lowg hB (Nat.le_refl _) HB0.out) (by simp only [World.size_alloc]; omega) (by omega))
      refine HFC.out.mono ?_
      rintro e w1 ⟨rfl, hb1⟩
      rw [FV.out]
      have HB1 := Lib.hid (below_two HB0.out hb1)
      have HK1 := Lib.hid (HK.out.below hb1 (by simp))
      obtain ⟨c0, c1, c2, c3⟩ := acc_blk HK1.out
      have hs1 : w.heap.size < w1.heap.size := by have := hb1.size; simp only [World.size_alloc] at this; omega
      clear hb1 HFC
      go_wp2_with fail
      go_ret
      exact ⟨ret_bool (HG.out.trans F.out).symm, HB1.out.alloc (by omega) _⟩
    | some p =>
      have FV := Lib.hid (findV_yes hf)
      have HPO : Hid (properR l true ⟨x0, x1, x2, x3⟩ = ((p.code != x0) && p.kind == x1)) := by show _ = _; rw [HPP.out, parOk_at hf]
      clear hf
      obtain ⟨p0, p1, p2, p3⟩ := p
      simp only [] at FV HPO
      cases e1 : p0 == x0
      · have e1' : (p0 != x0) = true := by rw [bne, e1]; rfl
        cases e2 : p1 == x1
        all_goals
          have F : Hid (properR l true ⟨x0, x1, x2, x3⟩ = (p1 == x1)) := by show _ = _; rw [HPO.out, e1']; rfl
          rw [e2] at F
          have HE1 := Lib.hid e1
          go_enter Tryz.func67, Tryz.ntmps67
          go_wp2_with fail
          have HFC := Lib.hid (rfind_any l A n c x3 B _ (HR.out.lowg hB (Nat.le_refl _) HB0.out) (by simp only [World.size_alloc]; omega) (by omega))
          refine HFC.out.mono ?_
          rintro e w1 ⟨rfl, hb1⟩
          rw [FV.out]
          have HB1 := Lib.hid (below_two HB0.out hb1)
          have HK1 := Lib.hid (HK.out.below hb1 (by simp))
          obtain ⟨c0, c1, c2, c3⟩ := acc_blk HK1.out
          have hs1 : w.heap.size < w1.heap.size := by have := hb1.size; simp only [World.size_alloc] at this; omega
          clear hb1 HFC
          go_wp2_with fail
          go_ret
          exact ⟨ret_bool (HG.out.trans F.out).symm, HB1.out.alloc (by omega) _⟩
      · have e1' : (p0 != x0) = false := by rw [bne, e1]; rfl
        have F : Hid (properR l true ⟨x0, x1, x2, x3⟩ = false) := by show _ = _; rw [HPO.out]; rw [e1']; rfl
        go_enter Tryz.func67, Tryz.ntmps67
        go_wp2_with fail
        have HFC := Lib.hid (rfind_any l A n c x3 B _ (HR.out.lowg hB (Nat.le_refl _) HB0.out) (by simp only [World.size_alloc]; omega) (by omega))
        refine HFC.out.mono ?_
        rintro e w1 ⟨rfl, hb1⟩
        rw [FV.out]
        have HB1 := Lib.hid (below_two HB0.out hb1)
        have HK1 := Lib.hid (HK.out.below hb1 (by simp))
        obtain ⟨c0, c1, c2, c3⟩ := acc_blk HK1.out
        have hs1 : w.heap.size < w1.heap.size := by have := hb1.size; simp only [World.size_alloc] at this; omega
        clear hb1 HFC
        go_wp2_with fail
        go_ret
        exact ⟨ret_bool (HG.out.trans F.out).symm, HB1.out.alloc (by omega) _⟩
set_option maxRecDepth 100000 in
set_option maxHeartbeats 8000000 in
theorem proper_anyP (l : List SAcc) (A : Option Addr) (n c : Nat) (a : SAcc) (g : Bool) (B : Nat) (w : World) (hr : Reads w B 4 A n (accsC l)) (hB : B ≤ w.heap.size) (hn : n ≤ 1000) (hok : ∀ x ∈ l, AccOk x) (hil : ∃ b, findA l a.code = some b) (hx : okI a.code) :
    Calls Tryz.prog 107 #[.slice A n c, accV a, .bool g] w fun e w' => e = .returned (.bool (properP l g a)) ∧ Below w.heap.size w w' := by
  obtain ⟨x0, x1, x2, x3⟩ := a
  unfold accV
  simp only [] at hil hx ⊢
  have HL := Lib.hid (accs_len hr)
  have HR := Lib.hid hr
  have HOK := Lib.hid hok
  have HIL := Lib.hid hil
  have HX := Lib.hid hx
  clear hok hil hx
  have hb0 := (Below.refl w.heap.size w).alloc (Nat.le_refl _) (.cells #[.int .i64 x0, .int .i64 x1, .int .i64 x2, .int .i64 x3] 42)
  have HB0 := Lib.hid hb0
  have HK := Lib.hid (Blk.new w 42 #[.int .i64 x0, .int .i64 x1, .int .i64 x2, .int .i64 x3])
  clear hr hb0
  generalize hgo : properP l g ⟨x0, x1, x2, x3⟩ = ok
  have HG := Lib.hid hgo.symm
  clear hgo
  by_cases t1 : x0 < 1
  · have d1 : (decide (x0 < 1)) = true := by rw [decide_eq_true_eq]; omega
    have F := Lib.hid (properP_no (l := l) (accIn_no (g := g) (a := ⟨x0, x1, x2, x3⟩) (by dsimp only; rintro ⟨h, _⟩; omega)))
    go_enter Tryz.func107, Tryz.ntmps107
    go_wp2_with fail
    go_ret
    exact ⟨ret_bool (HG.out.trans F.out).symm, HB0.out⟩
  have d1 : (decide (x0 < 1)) = false := by rw [decide_eq_false_iff_not]; omega
  by_cases t2 : 99999 < x0
  · have d2 : (decide (99999 < x0)) = true := by rw [decide_eq_true_eq]; omega
    have F := Lib.hid (properP_no (l := l) (accIn_no (g := g) (a := ⟨x0, x1, x2, x3⟩) (by dsimp only; rintro ⟨_, h, _⟩; omega)))
    go_enter Tryz.func107, Tryz.ntmps107
    go_wp2_with fail
    go_ret
    exact ⟨ret_bool (HG.out.trans F.out).symm, HB0.out⟩
  have d2 : (decide (99999 < x0)) = false := by rw [decide_eq_false_iff_not]; omega
  by_cases t3 : x1 < 1
  · have d3 : (decide (x1 < 1)) = true := by rw [decide_eq_true_eq]; omega
    have F := Lib.hid (properP_no (l := l) (accIn_no (g := g) (a := ⟨x0, x1, x2, x3⟩) (by dsimp only; rintro ⟨_, _, h, _⟩; omega)))
    go_enter Tryz.func107, Tryz.ntmps107
    go_wp2_with fail
    go_ret
    exact ⟨ret_bool (HG.out.trans F.out).symm, HB0.out⟩
  have d3 : (decide (x1 < 1)) = false := by rw [decide_eq_false_iff_not]; omega
  by_cases t4 : 5 < x1
  · have d4 : (decide (5 < x1)) = true := by rw [decide_eq_true_eq]; omega
    have F := Lib.hid (properP_no (l := l) (accIn_no (g := g) (a := ⟨x0, x1, x2, x3⟩) (by dsimp only; rintro ⟨_, _, _, h, _⟩; omega)))
    go_enter Tryz.func107, Tryz.ntmps107
    go_wp2_with fail
    go_ret
    exact ⟨ret_bool (HG.out.trans F.out).symm, HB0.out⟩
  have d4 : (decide (5 < x1)) = false := by rw [decide_eq_false_iff_not]; omega
  cases g
  case false =>
    by_cases t7 : x2 = 0
    case neg =>
      have d7 : (x2 != 0) = true := by rw [bne_iff_ne]; exact t7
      have F := Lib.hid (properP_no (l := l) (accIn_no (g := false) (a := ⟨x0, x1, x2, x3⟩) (by dsimp only; rintro ⟨_, _, _, _, _, h⟩; have := h rfl; omega)))
      go_enter Tryz.func107, Tryz.ntmps107
      go_wp2_with fail
      go_ret
      exact ⟨ret_bool (HG.out.trans F.out).symm, HB0.out⟩
    case pos =>
      have d7 : (x2 != 0) = false := by rw [bne_eq_false_iff_eq]; exact t7
      have t7a : 0 ≤ x2 := by omega
      have t7b : x2 ≤ 0 := by omega
      clear t7
      have HIN := Lib.hid ((accIn_iff (g := false) (a := ⟨x0, x1, x2, x3⟩)).2 (by dsimp only; exact ⟨by omega, by omega, by omega, by omega, (fun h => by cases h), (fun _ => by omega)⟩))
      by_cases t8 : x3 = 0
      · have d8 : (x3 == 0) = true := by rw [beq_iff_eq]; exact t8
        have F := Lib.hid (properP_0 (l := l) HIN.out t8)
        clear t8
        go_enter Tryz.func107, Tryz.ntmps107
        go_wp2_with fail
        go_ret
        exact ⟨ret_bool (HG.out.trans F.out).symm, HB0.out⟩
      have d8 : (x3 == 0) = false := by rw [beq_eq_false_iff_ne]; exact t8
      have HPP := Lib.hid (properP_par (l := l) HIN.out d8)
      clear t8
      cases hf : findA l x3 with
      | none =>
        have FV := Lib.hid (findV_no hf)
        have F : Hid (properP l false ⟨x0, x1, x2, x3⟩ = false) := by show _ = _; rw [HPP.out, parOk_none hf]; rfl
        clear hf
        go_enter Tryz.func107, Tryz.ntmps107
        go_wp2_with fail
        have HFC := Lib.hid (find_any l A n c x3 B _ (HR.out.lowg hB (Nat.le_refl _) HB0.out) (by simp only [World.size_alloc]; omega) (by omega))
        refine HFC.out.mono ?_
        rintro e w1 ⟨rfl, hb1⟩
        rw [FV.out]
        have HB1 := Lib.hid (below_two HB0.out hb1)
        have HK1 := Lib.hid (HK.out.below hb1 (by simp))
        obtain ⟨c0, c1, c2, c3⟩ := acc_blk HK1.out
        have hs1 : w.heap.size < w1.heap.size := by have := hb1.size; simp only [World.size_alloc] at this; omega
        clear hb1 HFC
        go_wp2_with fail
        go_ret
        exact ⟨ret_bool (HG.out.trans F.out).symm, HB1.out.alloc (by omega) _⟩
      | some p =>
        have FV := Lib.hid (findV_yes hf)
        have HPO : Hid (properP l false ⟨x0, x1, x2, x3⟩ = (((p.code != x0) && p.kind == x1) && (topA l x0).parent == 0)) := by show _ = _; rw [HPP.out, parOk_at hf]
        clear hf
        obtain ⟨p0, p1, p2, p3⟩ := p
        simp only [] at FV HPO
        cases e1 : p0 == x0
        case true =>
          have e1' : (p0 != x0) = false := by rw [bne, e1]; rfl
          have F : Hid (properP l false ⟨x0, x1, x2, x3⟩ = false) := by show _ = _; rw [HPO.out]; rw [e1']; rfl
          go_enter Tryz.func107, Tryz.ntmps107
          go_wp2_with fail
          have HFC := Lib.hid (find_any l A n c x3 B _ (HR.out.lowg hB (Nat.le_refl _) HB0.out) (by simp only [World.size_alloc]; omega) (by omega))
          refine HFC.out.mono ?_
          rintro e w1 ⟨rfl, hb1⟩
          rw [FV.out]
          have HB1 := Lib.hid (below_two HB0.out hb1)
          have HK1 := Lib.hid (HK.out.below hb1 (by simp))
          obtain ⟨c0, c1, c2, c3⟩ := acc_blk HK1.out
          have hs1 : w.heap.size < w1.heap.size := by have := hb1.size; simp only [World.size_alloc] at this; omega
          clear hb1 HFC
          go_wp2_with fail
          go_ret
          exact ⟨ret_bool (HG.out.trans F.out).symm, HB1.out.alloc (by omega) _⟩
        case false =>
          have e1' : (p0 != x0) = true := by rw [bne, e1]; rfl
          cases e2 : p1 == x1
          case false =>
            have e2' : (p1 != x1) = true := by rw [bne, e2]; rfl
            have F : Hid (properP l false ⟨x0, x1, x2, x3⟩ = false) := by show _ = _; rw [HPO.out]; rw [e1', e2]; rfl
            go_enter Tryz.func107, Tryz.ntmps107
            go_wp2_with fail
            have HFC := Lib.hid (find_any l A n c x3 B _ (HR.out.lowg hB (Nat.le_refl _) HB0.out) (by simp only [World.size_alloc]; omega) (by omega))
            refine HFC.out.mono ?_
            rintro e w1 ⟨rfl, hb1⟩
            rw [FV.out]
            have HB1 := Lib.hid (below_two HB0.out hb1)
            have HK1 := Lib.hid (HK.out.below hb1 (by simp))
            obtain ⟨c0, c1, c2, c3⟩ := acc_blk HK1.out
            have hs1 : w.heap.size < w1.heap.size := by have := hb1.size; simp only [World.size_alloc] at this; omega
            clear hb1 HFC
            go_wp2_with fail
            go_ret
            exact ⟨ret_bool (HG.out.trans F.out).symm, HB1.out.alloc (by omega) _⟩
          case true =>
            have e2' : (p1 != x1) = false := by rw [bne, e2]; rfl
            have F : Hid (properP l false ⟨x0, x1, x2, x3⟩ = ((topA l x0).parent == 0)) := by show _ = _; rw [HPO.out, e1', e2]; simp
            have HE := Lib.hid (And.intro e1 (And.intro e2 (And.intro e1' e2')))
            go_enter Tryz.func107, Tryz.ntmps107
            go_wp2_with fail
            have HFC := Lib.hid (find_any l A n c x3 B _ (HR.out.lowg hB (Nat.le_refl _) HB0.out) (by simp only [World.size_alloc]; omega) (by omega))
            refine HFC.out.mono ?_
            rintro e w1 ⟨rfl, hb1⟩
            rw [FV.out]
            have HB1 := Lib.hid (below_two HB0.out hb1)
            have HK1 := Lib.hid (HK.out.below hb1 (by simp))
            obtain ⟨c0, c1, c2, c3⟩ := acc_blk HK1.out
            have hs1 : w.heap.size < w1.heap.size := by have := hb1.size; simp only [World.size_alloc] at this; omega
            clear hb1 HFC
            go_wp2_with fail
            have HB2 := Lib.hid (HB1.out.alloc (by omega) (.cells #[.int .i64 p0, .int .i64 p1, .int .i64 p2, .int .i64 p3] 42))
            have HCC := Lib.hid (climb_any l A n c x0 B _ (HR.out.lowg hB (Nat.le_refl _) HB2.out) (by simp only [World.size_alloc]; omega) hn HOK.out HX.out)
            generalize w1.alloc _ = w2 at *
            have hs2 := HB2.out.size
            refine HCC.out.mono ?_
            rintro e w3 ⟨v, rfl, hown, hb3⟩
            obtain ⟨tt, htt, htp⟩ := climbP_top l (l.length + 1) x0 [] (fun h => absurd rfl h) (by obtain ⟨b, hb⟩ := HIL.out; have := climbP_ne (findA_mem hb); rw [findA_code hb] at this; exact this)
            have HT : Hid (((topA l x0).parent == 0) = (tt.parent == 0)) := by show _ = _; unfold topA; rw [htt]; rfl
            have HNE := climbP_ne (findA_mem HIL.out.choose_spec)
            rw [findA_code HIL.out.choose_spec] at HNE
            have HPN := climbP_ok l (l.length + 1) x0 [] (by simp) (by simp)
            have hpn := nodup_len _ _ HPN.1 HPN.2
            rw [List.length_map] at hpn
            clear HPN
            rw [HL.out] at htt HNE hpn
            have HTT := Lib.hid (findV_yes htt)
            clear htt htp
            generalize (climbP l (n + 1) x0 []).1 = PP at *
            obtain ⟨m, hm⟩ : ∃ m, PP.length = m + 1 := ⟨PP.length - 1, by have := List.length_pos_iff.2 HNE; omega⟩
            have HGL := Lib.hid (getLast_at hm)
            rw [hm] at hown hpn
            obtain ⟨A3, c3', rfl⟩ := own_slice hown
            obtain ⟨ad, rfl, hba, hca⟩ := (Reads.of_own hown).int_at (k := m) (by omega)
            rw [HGL.out] at hca
            have HB3 := Lib.hid (below_two HB2.out hb3)
            generalize PP.getLastD 0 = topc at *
            clear hown hm HNE HGL hb3 hs2 HCC c0 c1 c2 c3
            have hs4 := HB3.out.size
            have HFD := Lib.hid (find_any l A n c topc B w3 (HR.out.lowg hB (Nat.le_refl _) HB3.out) (by omega) (by omega))
            go_wp2_with fail
            refine HFD.out.mono ?_
            rintro e w4 ⟨rfl, hb4⟩
            rw [HTT.out]
            have HB4 := Lib.hid (below_two HB3.out hb4)
            have hs5 := HB4.out.size
            clear hb4 HFD hca
            obtain ⟨q0, q1, q2, q3⟩ := tt
            simp only [] at HT
            go_wp2_with fail
            go_ret
            exact ⟨ret_bool (by rw [HG.out, F.out, HT.out]), HB4.out.alloc (by omega) _⟩
  case true =>
    by_cases t5 : x2 < 1
    · have d5 : (decide (x2 < 1)) = true := by rw [decide_eq_true_eq]; omega
      have F := Lib.hid (properP_no (l := l) (accIn_no (g := true) (a := ⟨x0, x1, x2, x3⟩) (by dsimp only; rintro ⟨_, _, _, _, h, _⟩; have := h rfl; omega)))
      go_enter Tryz.func107, Tryz.ntmps107
      go_wp2_with fail
      go_ret
      exact ⟨ret_bool (HG.out.trans F.out).symm, HB0.out⟩
    have d5 : (decide (x2 < 1)) = false := by rw [decide_eq_false_iff_not]; omega
    by_cases t6 : 3 < x2
    · have d6 : (decide (3 < x2)) = true := by rw [decide_eq_true_eq]; omega
      have F := Lib.hid (properP_no (l := l) (accIn_no (g := true) (a := ⟨x0, x1, x2, x3⟩) (by dsimp only; rintro ⟨_, _, _, _, h, _⟩; have := h rfl; omega)))
      go_enter Tryz.func107, Tryz.ntmps107
      go_wp2_with fail
      go_ret
      exact ⟨ret_bool (HG.out.trans F.out).symm, HB0.out⟩
    have d6 : (decide (3 < x2)) = false := by rw [decide_eq_false_iff_not]; omega
    have HIN := Lib.hid ((accIn_iff (g := true) (a := ⟨x0, x1, x2, x3⟩)).2 (by dsimp only; exact ⟨by omega, by omega, by omega, by omega, (fun _ => ⟨by omega, by omega⟩), (fun h => by cases h)⟩))
    by_cases t8 : x3 = 0
    · have d8 : (x3 == 0) = true := by rw [beq_iff_eq]; exact t8
      have F := Lib.hid (properP_0 (l := l) HIN.out t8)
      clear t8
      go_enter Tryz.func107, Tryz.ntmps107
      go_wp2_with fail
      go_ret
      exact ⟨ret_bool (HG.out.trans F.out).symm, HB0.out⟩
    have d8 : (x3 == 0) = false := by rw [beq_eq_false_iff_ne]; exact t8
    have HPP := Lib.hid (properP_par (l := l) HIN.out d8)
    clear t8
    cases hf : findA l x3 with
    | none =>
      have FV := Lib.hid (findV_no hf)
      have F : Hid (properP l true ⟨x0, x1, x2, x3⟩ = false) := by show _ = _; rw [HPP.out, parOk_none hf]; rfl
      clear hf
      go_enter Tryz.func107, Tryz.ntmps107
      go_wp2_with fail
      have HFC := Lib.hid (find_any l A n c x3 B _ (HR.out.lowg hB (Nat.le_refl _) HB0.out) (by simp only [World.size_alloc]; omega) (by omega))
      refine HFC.out.mono ?_
      rintro e w1 ⟨rfl, hb1⟩
      rw [FV.out]
      have HB1 := Lib.hid (below_two HB0.out hb1)
      have HK1 := Lib.hid (HK.out.below hb1 (by simp))
      obtain ⟨c0, c1, c2, c3⟩ := acc_blk HK1.out
      have hs1 : w.heap.size < w1.heap.size := by have := hb1.size; simp only [World.size_alloc] at this; omega
      clear hb1 HFC
      go_wp2_with fail
      go_ret
      exact ⟨ret_bool (HG.out.trans F.out).symm, HB1.out.alloc (by omega) _⟩
    | some p =>
      have FV := Lib.hid (findV_yes hf)
      have HPO : Hid (properP l true ⟨x0, x1, x2, x3⟩ = (((p.code != x0) && p.kind == x1) && (topA l x0).parent == 0)) := by show _ = _; rw [HPP.out, parOk_at hf]
      clear hf
      obtain ⟨p0, p1, p2, p3⟩ := p
      simp only [] at FV HPO
      cases e1 : p0 == x0
      case true =>
        have e1' : (p0 != x0) = false := by rw [bne, e1]; rfl
        have F : Hid (properP l true ⟨x0, x1, x2, x3⟩ = false) := by show _ = _; rw [HPO.out]; rw [e1']; rfl
        go_enter Tryz.func107, Tryz.ntmps107
        go_wp2_with fail
        have HFC := Lib.hid (find_any l A n c x3 B _ (HR.out.lowg hB (Nat.le_refl _) HB0.out) (by simp only [World.size_alloc]; omega) (by omega))
        refine HFC.out.mono ?_
        rintro e w1 ⟨rfl, hb1⟩
        rw [FV.out]
        have HB1 := Lib.hid (below_two HB0.out hb1)
        have HK1 := Lib.hid (HK.out.below hb1 (by simp))
        obtain ⟨c0, c1, c2, c3⟩ := acc_blk HK1.out
        have hs1 : w.heap.size < w1.heap.size := by have := hb1.size; simp only [World.size_alloc] at this; omega
        clear hb1 HFC
        go_wp2_with fail
        go_ret
        exact ⟨ret_bool (HG.out.trans F.out).symm, HB1.out.alloc (by omega) _⟩
      case false =>
        have e1' : (p0 != x0) = true := by rw [bne, e1]; rfl
        cases e2 : p1 == x1
        case false =>
          have e2' : (p1 != x1) = true := by rw [bne, e2]; rfl
          have F : Hid (properP l true ⟨x0, x1, x2, x3⟩ = false) := by show _ = _; rw [HPO.out]; rw [e1', e2]; rfl
          go_enter Tryz.func107, Tryz.ntmps107
          go_wp2_with fail
          have HFC := Lib.hid (find_any l A n c x3 B _ (HR.out.lowg hB (Nat.le_refl _) HB0.out) (by simp only [World.size_alloc]; omega) (by omega))
          refine HFC.out.mono ?_
          rintro e w1 ⟨rfl, hb1⟩
          rw [FV.out]
          have HB1 := Lib.hid (below_two HB0.out hb1)
          have HK1 := Lib.hid (HK.out.below hb1 (by simp))
          obtain ⟨c0, c1, c2, c3⟩ := acc_blk HK1.out
          have hs1 : w.heap.size < w1.heap.size := by have := hb1.size; simp only [World.size_alloc] at this; omega
          clear hb1 HFC
          go_wp2_with fail
          go_ret
          exact ⟨ret_bool (HG.out.trans F.out).symm, HB1.out.alloc (by omega) _⟩
        case true =>
          have e2' : (p1 != x1) = false := by rw [bne, e2]; rfl
          have F : Hid (properP l true ⟨x0, x1, x2, x3⟩ = ((topA l x0).parent == 0)) := by show _ = _; rw [HPO.out, e1', e2]; simp
          have HE := Lib.hid (And.intro e1 (And.intro e2 (And.intro e1' e2')))
          go_enter Tryz.func107, Tryz.ntmps107
          go_wp2_with fail
          have HFC := Lib.hid (find_any l A n c x3 B _ (HR.out.lowg hB (Nat.le_refl _) HB0.out) (by simp only [World.size_alloc]; omega) (by omega))
          refine HFC.out.mono ?_
          rintro e w1 ⟨rfl, hb1⟩
          rw [FV.out]
          have HB1 := Lib.hid (below_two HB0.out hb1)
          have HK1 := Lib.hid (HK.out.below hb1 (by simp))
          obtain ⟨c0, c1, c2, c3⟩ := acc_blk HK1.out
          have hs1 : w.heap.size < w1.heap.size := by have := hb1.size; simp only [World.size_alloc] at this; omega
          clear hb1 HFC
          go_wp2_with fail
          have HB2 := Lib.hid (HB1.out.alloc (by omega) (.cells #[.int .i64 p0, .int .i64 p1, .int .i64 p2, .int .i64 p3] 42))
          have HCC := Lib.hid (climb_any l A n c x0 B _ (HR.out.lowg hB (Nat.le_refl _) HB2.out) (by simp only [World.size_alloc]; omega) hn HOK.out HX.out)
          generalize w1.alloc _ = w2 at *
          have hs2 := HB2.out.size
          refine HCC.out.mono ?_
          rintro e w3 ⟨v, rfl, hown, hb3⟩
          obtain ⟨tt, htt, htp⟩ := climbP_top l (l.length + 1) x0 [] (fun h => absurd rfl h) (by obtain ⟨b, hb⟩ := HIL.out; have := climbP_ne (findA_mem hb); rw [findA_code hb] at this; exact this)
          have HT : Hid (((topA l x0).parent == 0) = (tt.parent == 0)) := by show _ = _; unfold topA; rw [htt]; rfl
          have HNE := climbP_ne (findA_mem HIL.out.choose_spec)
          rw [findA_code HIL.out.choose_spec] at HNE
          have HPN := climbP_ok l (l.length + 1) x0 [] (by simp) (by simp)
          have hpn := nodup_len _ _ HPN.1 HPN.2
          rw [List.length_map] at hpn
          clear HPN
          rw [HL.out] at htt HNE hpn
          have HTT := Lib.hid (findV_yes htt)
          clear htt htp
          generalize (climbP l (n + 1) x0 []).1 = PP at *
          obtain ⟨m, hm⟩ : ∃ m, PP.length = m + 1 := ⟨PP.length - 1, by have := List.length_pos_iff.2 HNE; omega⟩
          have HGL := Lib.hid (getLast_at hm)
          rw [hm] at hown hpn
          obtain ⟨A3, c3', rfl⟩ := own_slice hown
          obtain ⟨ad, rfl, hba, hca⟩ := (Reads.of_own hown).int_at (k := m) (by omega)
          rw [HGL.out] at hca
          have HB3 := Lib.hid (below_two HB2.out hb3)
          generalize PP.getLastD 0 = topc at *
          clear hown hm HNE HGL hb3 hs2 HCC c0 c1 c2 c3
          have hs4 := HB3.out.size
          have HFD := Lib.hid (find_any l A n c topc B w3 (HR.out.lowg hB (Nat.le_refl _) HB3.out) (by omega) (by omega))
          go_wp2_with fail
          refine HFD.out.mono ?_
          rintro e w4 ⟨rfl, hb4⟩
          rw [HTT.out]
          have HB4 := Lib.hid (below_two HB3.out hb4)
          have hs5 := HB4.out.size
          clear hb4 HFD hca
          obtain ⟨q0, q1, q2, q3⟩ := tt
          simp only [] at HT
          go_wp2_with fail
          go_ret
          exact ⟨ret_bool (by rw [HG.out, F.out, HT.out]), HB4.out.alloc (by omega) _⟩
end Go.Proofs.YtcmmppkmkejniaaGreatDoor
