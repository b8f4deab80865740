/-
  Rows in memory; statement.proper.
-/
import Derived.Test.YtcmmppkmkejniaaGreatDoorStW1
import Derived.Test.YtcmmppkmkejniaaGreatDoorSlS
namespace Go.Proofs.YtcmmppkmkejniaaGreatDoor
open Go.RowKit
set_option linter.unusedVariables false
theorem flat_at {T : Type} [Inhabited T] (row : T → List Value) {S : Nat} (hrow : ∀ t, (row t).length = S) : ∀ {ts : List T} {k j : Nat}, k < ts.length → j < S → (ts.flatMap row)[k * S + j]? = (row (ts.getD k default))[j]? := by
  intro ts
  induction ts with
  | nil => intro k j h; simp at h
  | cons t r ih =>
    intro k j h hj
    rw [List.flatMap_cons]
    cases k with
    | zero =>
      rw [List.getElem?_append_left (by rw [hrow]; omega)]
      simp
    | succ k =>
      have e : (k + 1) * S + j - (row t).length = k * S + j := by rw [hrow, Nat.add_mul]; omega
      rw [List.getElem?_append_right (by rw [hrow, Nat.add_mul]; omega), e]
      have := ih (k := k) (j := j) (by simpa using h) hj
      simpa using this
theorem flat_len {T : Type} (row : T → List Value) {S : Nat} (hrow : ∀ t, (row t).length = S) (ts : List T) : (ts.flatMap row).length = ts.length * S := by
  induction ts with
  | nil => simp
  | cons t r ih => rw [List.flatMap_cons, List.length_append, ih, hrow, List.length_cons, Nat.add_mul]; omega
theorem rowCells_len (r : SRow) : (rowCells r).length = 5 := rfl
theorem rows_len {w : World} {B n : Nat} {A : Option Addr} {rs : List SRow} (h : Reads w B 5 A n (rowsCells rs)) : rs.length = n := by
  have := h.1
  unfold rowsCells at this
  rw [flat_len rowCells rowCells_len] at this
  omega
theorem rowsCells_snoc (rs : List SRow) (r : SRow) : rowsCells (rs ++ [r]) = rowsCells rs ++ rowCells r := by simp [rowsCells]
theorem add_pos (a : Addr) (n : Nat) (h : n ≠ 0) : a.add n = ⟨a.block, a.off + n, none⟩ := by unfold Addr.add; rw [if_neg h]
theorem Reads.low {w w' : World} {B size n : Nat} {A : Option Addr} {xs : List Value} (h : Reads w B size A n xs) (hB : B ≤ w.heap.size) {C : Nat} (hC : w.heap.size ≤ C) (hb : Below C w w') : Reads w' B size A n xs :=
  h.keep fun _ hp => hb.cell (by omega)
theorem Reads.row_at {w : World} {B n k : Nat} {A : Option Addr} {rs : List SRow} (h : Reads w B 5 A n (rowsCells rs)) (hk : k < n) :
    ∃ ad, A = some ad ∧ ad.block < B ∧ w.cell? (ad.add (k * 5)) = some (.string ⟨(rs.getD k default).name.toArray⟩) ∧ w.cell? ⟨(ad.add (k * 5)).block, (ad.add (k * 5)).off + 1, none⟩ = some (.int .i64 (rs.getD k default).level) ∧
      w.cell? ⟨(ad.add (k * 5)).block, (ad.add (k * 5)).off + 2, none⟩ = some (.int .i64 (rs.getD k default).from_) ∧ w.cell? ⟨(ad.add (k * 5)).block, (ad.add (k * 5)).off + 3, none⟩ = some (.int .i64 (rs.getD k default).to_) ∧
      w.cell? ⟨(ad.add (k * 5)).block, (ad.add (k * 5)).off + 4, none⟩ = some (.bool (rs.getD k default).neg) := by
  have hl := rows_len h
  obtain ⟨ad, rfl, hb, hc⟩ := h.2 (by omega)
  have hx : ∀ j, j < 5 → ∀ u, (rowCells (rs.getD k default))[j]? = some u → w.cell? (ad.add (k * 5 + j)) = some u := by
    intro j hj u hu
    refine hc _ _ ?_
    unfold rowsCells
    rw [flat_at rowCells rowCells_len (by omega) hj, hu]
  have g0 := hx 0 (by omega) _ rfl
  have g1 := hx 1 (by omega) _ rfl
  have g2 := hx 2 (by omega) _ rfl
  have g3 := hx 3 (by omega) _ rfl
  have g4 := hx 4 (by omega) _ rfl
  rw [← add_of_add, add_pos _ 1 (by omega)] at g1
  rw [← add_of_add, add_pos _ 2 (by omega)] at g2
  rw [← add_of_add, add_pos _ 3 (by omega)] at g3
  rw [← add_of_add, add_pos _ 4 (by omega)] at g4
  exact ⟨ad, rfl, hb, g0, g1, g2, g3, g4⟩
def rowArr (r : SRow) : Array Value := #[.string ⟨r.name.toArray⟩, .int .i64 r.level, .int .i64 r.from_, .int .i64 r.to_, .bool r.neg]
theorem row_cells {w : World} {g : Nat} {T : TypeId} {nm : List UInt8} {lv fr to_ : Int} {ng : Bool} (h : Blk w g T #[.string ⟨nm.toArray⟩, .int .i64 lv, .int .i64 fr, .int .i64 to_, .bool ng]) :
    w.cell? ⟨g, 0, none⟩ = some (.string ⟨nm.toArray⟩) ∧ w.cell? ⟨g, 1, none⟩ = some (.int .i64 lv) ∧ w.cell? ⟨g, 2, none⟩ = some (.int .i64 fr) ∧ w.cell? ⟨g, 3, none⟩ = some (.int .i64 to_) ∧ w.cell? ⟨g, 4, none⟩ = some (.bool ng) :=
  ⟨h.cell 0, h.cell 1, h.cell 2, h.cell 3, h.cell 4⟩
theorem okRow_iff {b : Int} {r : SRow} : okRow b r = true ↔ nameOk r.name = true ∧ (0 ≤ r.level ∧ r.level ≤ 9 ∧ r.level ≤ b + 1) ∧ (r.to_ < r.from_ → r.from_ = 1 ∧ r.to_ = 0 ∧ r.neg = false) ∧ (r.from_ ≤ r.to_ → 0 ≤ r.from_ ∧ r.to_ ≤ 99999) := by
  unfold okRow rowIn isTitle
  by_cases h : r.to_ < r.from_
  · simp only [Bool.and_eq_true, decide_eq_true_eq, h, if_true, decide_true, Bool.not_eq_true', and_assoc, true_implies]
    constructor
    · rintro ⟨a, b, c, d, e, f, g⟩; exact ⟨a, b, c, d, e, f, g, fun x => by omega⟩
    · rintro ⟨a, b, c, d, e, f, g, _⟩; exact ⟨a, b, c, d, e, f, g⟩
  · simp only [Bool.and_eq_true, decide_eq_true_eq, h, decide_false, and_assoc, false_implies, true_and, show r.from_ ≤ r.to_ by omega, true_implies]
    simp
theorem okRow_no {b : Int} {r : SRow} (h : ¬ (nameOk r.name = true ∧ (0 ≤ r.level ∧ r.level ≤ 9 ∧ r.level ≤ b + 1) ∧ (r.to_ < r.from_ → r.from_ = 1 ∧ r.to_ = 0 ∧ r.neg = false) ∧ (r.from_ ≤ r.to_ → 0 ≤ r.from_ ∧ r.to_ ≤ 99999))) : okRow b r = false := by
  cases e : okRow b r
  · rfl
  · exact absurd (okRow_iff.1 e) h
theorem name_le {l : List UInt8} (h : nameOk l = true) : l.length ≤ 16 := by
  unfold nameOk at h
  simp only [Bool.and_eq_true, decide_eq_true_eq] at h
  exact h.1.2.2
set_option maxRecDepth 100000 in
set_option maxHeartbeats 8000000 in
theorem proper_any (rs : List SRow) (A : Option Addr) (n c : Nat) (r : SRow) (B : Nat) (w : World) (hr : Reads w B 5 A n (rowsCells rs)) (hB : B ≤ w.heap.size) (hn63 : n ≤ 9223372036854775807) (hlv : 0 < n → 0 ≤ lvl rs n ∧ lvl rs n ≤ 9) (hnl : r.name.length ≤ 140737488351232) :
    Calls Tryz.prog 26 #[.slice A n c, rowV r] w fun e w' => e = .returned (.bool (okRow (lvl rs n) r)) ∧ Below w.heap.size w w' := by
  obtain ⟨nm, lv, fr, to_, ng⟩ := r
  unfold rowV
  simp only [] at hnl ⊢
  have HR := Lib.hid hr
  clear hr
  generalize hgo : okRow (lvl rs n) ⟨nm, lv, fr, to_, ng⟩ = ok
  have HG := Lib.hid hgo.symm
  clear hgo
  by_cases hn0 : n = 0
  · skip
    have hb0 := (Below.refl w.heap.size w).alloc (Nat.le_refl _) (.cells #[.string ⟨nm.toArray⟩, .int .i64 lv, .int .i64 fr, .int .i64 to_, .bool ng] 39)
    have HB0 := Lib.hid hb0
    have HBLK := Lib.hid (Blk.new w 39 #[.string ⟨nm.toArray⟩, .int .i64 lv, .int .i64 fr, .int .i64 to_, .bool ng])
    clear hb0
    obtain rfl : n = 0 := hn0
    have hp : lvl rs 0 = -1 := rfl
    rw [hp] at HG
    clear hp hlv HR
    cases hnm : nameOk nm
    · skip
      have F := Lib.hid (okRow_no (b := -1) (r := ⟨nm, lv, fr, to_, ng⟩) (by simp only []; rintro ⟨a, _⟩; rw [hnm] at a; cases a))
      have HNM := Lib.hid hnm
      clear hnm
      go_enter Tryz.func26, Tryz.ntmps26
      go_wp2_with fail
      refine (named_any nm _ hnl).mono ?_
      rintro e w1 ⟨rfl, hb⟩
      obtain ⟨c0, c1, c2, c3, c4⟩ := row_cells (HBLK.out.below hb (by simp))
      rw [HNM.out]
      go_wp2_with fail
      go_ret
      exact ⟨ret_bool (HG.out.trans F.out).symm, below_two HB0.out hb⟩
    · have HNM := Lib.hid hnm
      clear hnm
      by_cases t2 : lv < 0
      · have d2 : (decide (lv < 0)) = true := by rw [decide_eq_true_eq]; omega
        have F := Lib.hid (okRow_no (b := -1) (r := ⟨nm, lv, fr, to_, ng⟩) (by simp only []; rintro ⟨_, a, b, c⟩; omega))
        go_enter Tryz.func26, Tryz.ntmps26
        go_wp2_with fail
        refine (named_any nm _ hnl).mono ?_
        rintro e w1 ⟨rfl, hb⟩
        obtain ⟨c0, c1, c2, c3, c4⟩ := row_cells (HBLK.out.below hb (by simp))
        rw [HNM.out]
        go_wp2_with fail
        go_ret
        exact ⟨ret_bool (HG.out.trans F.out).symm, below_two HB0.out hb⟩
      have d2 : (decide (lv < 0)) = false := by rw [decide_eq_false_iff_not]; omega
      by_cases t3 : (0 : Int) < lv
      · have d3 : (decide ((0 : Int) < lv)) = true := by rw [decide_eq_true_eq]; omega
        have F := Lib.hid (okRow_no (b := -1) (r := ⟨nm, lv, fr, to_, ng⟩) (by simp only []; rintro ⟨_, a, b, c⟩; omega))
        go_enter Tryz.func26, Tryz.ntmps26
        go_wp2_with fail
        refine (named_any nm _ hnl).mono ?_
        rintro e w1 ⟨rfl, hb⟩
        obtain ⟨c0, c1, c2, c3, c4⟩ := row_cells (HBLK.out.below hb (by simp))
        rw [HNM.out]
        go_wp2_with fail
        go_ret
        exact ⟨ret_bool (HG.out.trans F.out).symm, below_two HB0.out hb⟩
      have d3 : (decide ((0 : Int) < lv)) = false := by rw [decide_eq_false_iff_not]; omega
      by_cases t4 : fr < 0
      · have d4 : (decide (fr < 0)) = true := by rw [decide_eq_true_eq]; omega
        have F := Lib.hid (okRow_no (b := -1) (r := ⟨nm, lv, fr, to_, ng⟩) (by simp only []; rintro ⟨_, a, b, c⟩; omega))
        go_enter Tryz.func26, Tryz.ntmps26
        go_wp2_with fail
        refine (named_any nm _ hnl).mono ?_
        rintro e w1 ⟨rfl, hb⟩
        obtain ⟨c0, c1, c2, c3, c4⟩ := row_cells (HBLK.out.below hb (by simp))
        rw [HNM.out]
        go_wp2_with fail
        go_ret
        exact ⟨ret_bool (HG.out.trans F.out).symm, below_two HB0.out hb⟩
      have d4 : (decide (fr < 0)) = false := by rw [decide_eq_false_iff_not]; omega
      by_cases t5 : 99999 < fr
      · have d5 : (decide (99999 < fr)) = true := by rw [decide_eq_true_eq]; omega
        have F := Lib.hid (okRow_no (b := -1) (r := ⟨nm, lv, fr, to_, ng⟩) (by simp only []; rintro ⟨_, a, b, c⟩; omega))
        go_enter Tryz.func26, Tryz.ntmps26
        go_wp2_with fail
        refine (named_any nm _ hnl).mono ?_
        rintro e w1 ⟨rfl, hb⟩
        obtain ⟨c0, c1, c2, c3, c4⟩ := row_cells (HBLK.out.below hb (by simp))
        rw [HNM.out]
        go_wp2_with fail
        go_ret
        exact ⟨ret_bool (HG.out.trans F.out).symm, below_two HB0.out hb⟩
      have d5 : (decide (99999 < fr)) = false := by rw [decide_eq_false_iff_not]; omega
      by_cases t6 : to_ < 0
      · have d6 : (decide (to_ < 0)) = true := by rw [decide_eq_true_eq]; omega
        have F := Lib.hid (okRow_no (b := -1) (r := ⟨nm, lv, fr, to_, ng⟩) (by simp only []; rintro ⟨_, a, b, c⟩; omega))
        go_enter Tryz.func26, Tryz.ntmps26
        go_wp2_with fail
        refine (named_any nm _ hnl).mono ?_
        rintro e w1 ⟨rfl, hb⟩
        obtain ⟨c0, c1, c2, c3, c4⟩ := row_cells (HBLK.out.below hb (by simp))
        rw [HNM.out]
        go_wp2_with fail
        go_ret
        exact ⟨ret_bool (HG.out.trans F.out).symm, below_two HB0.out hb⟩
      have d6 : (decide (to_ < 0)) = false := by rw [decide_eq_false_iff_not]; omega
      by_cases t7 : 99999 < to_
      · have d7 : (decide (99999 < to_)) = true := by rw [decide_eq_true_eq]; omega
        have F := Lib.hid (okRow_no (b := -1) (r := ⟨nm, lv, fr, to_, ng⟩) (by simp only []; rintro ⟨_, a, b, c⟩; omega))
        go_enter Tryz.func26, Tryz.ntmps26
        go_wp2_with fail
        refine (named_any nm _ hnl).mono ?_
        rintro e w1 ⟨rfl, hb⟩
        obtain ⟨c0, c1, c2, c3, c4⟩ := row_cells (HBLK.out.below hb (by simp))
        rw [HNM.out]
        go_wp2_with fail
        go_ret
        exact ⟨ret_bool (HG.out.trans F.out).symm, below_two HB0.out hb⟩
      have d7 : (decide (99999 < to_)) = false := by rw [decide_eq_false_iff_not]; omega
      by_cases t8 : to_ < fr
      · by_cases t9 : fr = 1
        · have d9 : (fr == 1) = true := by rw [beq_iff_eq]; exact t9
          by_cases t10 : to_ = 0
          · have d10 : (to_ == 0) = true := by rw [beq_iff_eq]; exact t10
            cases ng
            · have F := Lib.hid ((okRow_iff (b := -1) (r := ⟨nm, lv, fr, to_, false⟩)).2 (by simp only []; exact ⟨HNM.out, by omega, fun _ => ⟨t9, t10, trivial⟩, fun _ => by omega⟩))
              have TT : Hid (isTitle ⟨nm, lv, fr, to_, false⟩ = true) := by show _ = _; unfold isTitle; rw [decide_eq_true_eq]; omega
              clear t9 t10
              go_enter Tryz.func26, Tryz.ntmps26
              go_wp2_with fail
              refine (named_any nm _ hnl).mono ?_
              rintro e w1 ⟨rfl, hb⟩
              obtain ⟨c0, c1, c2, c3, c4⟩ := row_cells (HBLK.out.below hb (by simp))
              rw [HNM.out]
              go_wp2_with fail
              refine (title_any ⟨nm, lv, fr, to_, false⟩ _).mono ?_
              rintro e w2 ⟨rfl, hb2⟩
              rw [TT.out]
              have hg2 := (HBLK.out.below hb (by simp)).below hb2 (by have := hb.size; simp at this; omega)
              obtain ⟨e0, e1, e2, e3, e4⟩ := row_cells hg2
              clear hg2 c0 c1 c2 c3 c4
              go_wp2_with fail
              go_ret
              exact ⟨ret_bool (HG.out.trans F.out).symm, below_two (below_two HB0.out hb) hb2⟩
            · have F := Lib.hid (okRow_no (b := -1) (r := ⟨nm, lv, fr, to_, true⟩) (by simp only []; rintro ⟨_, a, b, c⟩; cases (b t8).2.2))
              have TT : Hid (isTitle ⟨nm, lv, fr, to_, true⟩ = true) := by show _ = _; unfold isTitle; rw [decide_eq_true_eq]; omega
              clear t9 t10
              go_enter Tryz.func26, Tryz.ntmps26
              go_wp2_with fail
              refine (named_any nm _ hnl).mono ?_
              rintro e w1 ⟨rfl, hb⟩
              obtain ⟨c0, c1, c2, c3, c4⟩ := row_cells (HBLK.out.below hb (by simp))
              rw [HNM.out]
              go_wp2_with fail
              refine (title_any ⟨nm, lv, fr, to_, true⟩ _).mono ?_
              rintro e w2 ⟨rfl, hb2⟩
              rw [TT.out]
              have hg2 := (HBLK.out.below hb (by simp)).below hb2 (by have := hb.size; simp at this; omega)
              obtain ⟨e0, e1, e2, e3, e4⟩ := row_cells hg2
              clear hg2 c0 c1 c2 c3 c4
              go_wp2_with fail
              go_ret
              exact ⟨ret_bool (HG.out.trans F.out).symm, below_two (below_two HB0.out hb) hb2⟩
          · have d10 : (to_ == 0) = false := by rw [beq_eq_false_iff_ne]; exact t10
            have F := Lib.hid (okRow_no (b := -1) (r := ⟨nm, lv, fr, to_, ng⟩) (by simp only []; rintro ⟨_, a, b, c⟩; omega))
            have TT : Hid (isTitle ⟨nm, lv, fr, to_, ng⟩ = true) := by show _ = _; unfold isTitle; rw [decide_eq_true_eq]; omega
            clear t9 t10
            go_enter Tryz.func26, Tryz.ntmps26
            go_wp2_with fail
            refine (named_any nm _ hnl).mono ?_
            rintro e w1 ⟨rfl, hb⟩
            obtain ⟨c0, c1, c2, c3, c4⟩ := row_cells (HBLK.out.below hb (by simp))
            rw [HNM.out]
            go_wp2_with fail
            refine (title_any ⟨nm, lv, fr, to_, ng⟩ _).mono ?_
            rintro e w2 ⟨rfl, hb2⟩
            rw [TT.out]
            have hg2 := (HBLK.out.below hb (by simp)).below hb2 (by have := hb.size; simp at this; omega)
            obtain ⟨e0, e1, e2, e3, e4⟩ := row_cells hg2
            clear hg2 c0 c1 c2 c3 c4
            go_wp2_with fail
            go_ret
            exact ⟨ret_bool (HG.out.trans F.out).symm, below_two (below_two HB0.out hb) hb2⟩
        · have d9 : (fr == 1) = false := by rw [beq_eq_false_iff_ne]; exact t9
          have F := Lib.hid (okRow_no (b := -1) (r := ⟨nm, lv, fr, to_, ng⟩) (by simp only []; rintro ⟨_, a, b, c⟩; omega))
          have TT : Hid (isTitle ⟨nm, lv, fr, to_, ng⟩ = true) := by show _ = _; unfold isTitle; rw [decide_eq_true_eq]; omega
          go_enter Tryz.func26, Tryz.ntmps26
          go_wp2_with fail
          refine (named_any nm _ hnl).mono ?_
          rintro e w1 ⟨rfl, hb⟩
          obtain ⟨c0, c1, c2, c3, c4⟩ := row_cells (HBLK.out.below hb (by simp))
          rw [HNM.out]
          go_wp2_with fail
          refine (title_any ⟨nm, lv, fr, to_, ng⟩ _).mono ?_
          rintro e w2 ⟨rfl, hb2⟩
          rw [TT.out]
          have hg2 := (HBLK.out.below hb (by simp)).below hb2 (by have := hb.size; simp at this; omega)
          obtain ⟨e0, e1, e2, e3, e4⟩ := row_cells hg2
          clear hg2 c0 c1 c2 c3 c4
          go_wp2_with fail
          go_ret
          exact ⟨ret_bool (HG.out.trans F.out).symm, below_two (below_two HB0.out hb) hb2⟩
      · skip
        have F := Lib.hid ((okRow_iff (b := -1) (r := ⟨nm, lv, fr, to_, ng⟩)).2 (by simp only []; exact ⟨HNM.out, by omega, fun _ => by omega, fun _ => by omega⟩))
        have TT : Hid (isTitle ⟨nm, lv, fr, to_, ng⟩ = false) := by show _ = _; unfold isTitle; rw [decide_eq_false_iff_not]; simp only []; omega
        go_enter Tryz.func26, Tryz.ntmps26
        go_wp2_with fail
        refine (named_any nm _ hnl).mono ?_
        rintro e w1 ⟨rfl, hb⟩
        obtain ⟨c0, c1, c2, c3, c4⟩ := row_cells (HBLK.out.below hb (by simp))
        rw [HNM.out]
        go_wp2_with fail
        refine (title_any ⟨nm, lv, fr, to_, ng⟩ _).mono ?_
        rintro e w2 ⟨rfl, hb2⟩
        rw [TT.out]
        have hg2 := (HBLK.out.below hb (by simp)).below hb2 (by have := hb.size; simp at this; omega)
        obtain ⟨e0, e1, e2, e3, e4⟩ := row_cells hg2
        clear hg2 c0 c1 c2 c3 c4
        go_wp2_with fail
        go_ret
        exact ⟨ret_bool (HG.out.trans F.out).symm, below_two (below_two HB0.out hb) hb2⟩
  · skip
    have hb0 := (Below.refl w.heap.size w).alloc (Nat.le_refl _) (.cells #[.string ⟨nm.toArray⟩, .int .i64 lv, .int .i64 fr, .int .i64 to_, .bool ng] 39)
    have HB0 := Lib.hid hb0
    have HBLK := Lib.hid (Blk.new w 39 #[.string ⟨nm.toArray⟩, .int .i64 lv, .int .i64 fr, .int .i64 to_, .bool ng])
    clear hb0
    obtain ⟨m, rfl⟩ : ∃ m, n = m + 1 := ⟨n - 1, by omega⟩
    obtain ⟨l0, l9⟩ := hlv (by omega)
    obtain ⟨ad, rfl, hab, _, rc1, _, _, _⟩ := HR.out.row_at (k := m) (by omega)
    have hp : lvl rs (m + 1) = (rs.getD m default).level := rfl
    rw [← hp] at rc1
    generalize lvl rs (m + 1) = p at *
    have hpos : decide (0 < m + 1) = true := by rw [decide_eq_true_eq]; omega
    have rw1 : ((w.alloc (.cells #[.string ⟨nm.toArray⟩, .int .i64 lv, .int .i64 fr, .int .i64 to_, .bool ng] 39))).cell? ⟨(ad.add (m * 5)).block, (ad.add (m * 5)).off + 1, none⟩ = some (.int .i64 p) := (World.cell?_alloc_lt w _ _ (by show (ad.add (m * 5)).block < _; rw [block_of_add]; omega)).trans rc1
    clear hp hlv HR rc1 hn0
    cases hnm : nameOk nm
    · skip
      have F := Lib.hid (okRow_no (b := p) (r := ⟨nm, lv, fr, to_, ng⟩) (by simp only []; rintro ⟨a, _⟩; rw [hnm] at a; cases a))
      have HNM := Lib.hid hnm
      clear hnm
      go_enter Tryz.func26, Tryz.ntmps26
      go_wp2_with fail
      refine (named_any nm _ hnl).mono ?_
      rintro e w1 ⟨rfl, hb⟩
      obtain ⟨c0, c1, c2, c3, c4⟩ := row_cells (HBLK.out.below hb (by simp))
      rw [HNM.out]
      go_wp2_with fail
      go_ret
      exact ⟨ret_bool (HG.out.trans F.out).symm, below_two HB0.out hb⟩
    · have HNM := Lib.hid hnm
      clear hnm
      by_cases t2 : lv < 0
      · have d2 : (decide (lv < 0)) = true := by rw [decide_eq_true_eq]; omega
        have F := Lib.hid (okRow_no (b := p) (r := ⟨nm, lv, fr, to_, ng⟩) (by simp only []; rintro ⟨_, a, b, c⟩; omega))
        go_enter Tryz.func26, Tryz.ntmps26
        go_wp2_with fail
        refine (named_any nm _ hnl).mono ?_
        rintro e w1 ⟨rfl, hb⟩
        obtain ⟨c0, c1, c2, c3, c4⟩ := row_cells (HBLK.out.below hb (by simp))
        rw [HNM.out]
        go_wp2_with fail
        go_ret
        exact ⟨ret_bool (HG.out.trans F.out).symm, below_two HB0.out hb⟩
      have d2 : (decide (lv < 0)) = false := by rw [decide_eq_false_iff_not]; omega
      by_cases t3 : min 9 (p + 1) < lv
      · have d3 : (decide (min 9 (p + 1) < lv)) = true := by rw [decide_eq_true_eq]; omega
        have F := Lib.hid (okRow_no (b := p) (r := ⟨nm, lv, fr, to_, ng⟩) (by simp only []; rintro ⟨_, a, b, c⟩; omega))
        go_enter Tryz.func26, Tryz.ntmps26
        go_wp2_with fail
        refine (named_any nm _ hnl).mono ?_
        rintro e w1 ⟨rfl, hb⟩
        obtain ⟨c0, c1, c2, c3, c4⟩ := row_cells (HBLK.out.below hb (by simp))
        rw [HNM.out]
        go_wp2_with fail
        go_ret
        exact ⟨ret_bool (HG.out.trans F.out).symm, below_two HB0.out hb⟩
      have d3 : (decide (min 9 (p + 1) < lv)) = false := by rw [decide_eq_false_iff_not]; omega
      by_cases t4 : fr < 0
      · have d4 : (decide (fr < 0)) = true := by rw [decide_eq_true_eq]; omega
        have F := Lib.hid (okRow_no (b := p) (r := ⟨nm, lv, fr, to_, ng⟩) (by simp only []; rintro ⟨_, a, b, c⟩; omega))
        go_enter Tryz.func26, Tryz.ntmps26
        go_wp2_with fail
        refine (named_any nm _ hnl).mono ?_
        rintro e w1 ⟨rfl, hb⟩
        obtain ⟨c0, c1, c2, c3, c4⟩ := row_cells (HBLK.out.below hb (by simp))
        rw [HNM.out]
        go_wp2_with fail
        go_ret
        exact ⟨ret_bool (HG.out.trans F.out).symm, below_two HB0.out hb⟩
      have d4 : (decide (fr < 0)) = false := by rw [decide_eq_false_iff_not]; omega
      by_cases t5 : 99999 < fr
      · have d5 : (decide (99999 < fr)) = true := by rw [decide_eq_true_eq]; omega
        have F := Lib.hid (okRow_no (b := p) (r := ⟨nm, lv, fr, to_, ng⟩) (by simp only []; rintro ⟨_, a, b, c⟩; omega))
        go_enter Tryz.func26, Tryz.ntmps26
        go_wp2_with fail
        refine (named_any nm _ hnl).mono ?_
        rintro e w1 ⟨rfl, hb⟩
        obtain ⟨c0, c1, c2, c3, c4⟩ := row_cells (HBLK.out.below hb (by simp))
        rw [HNM.out]
        go_wp2_with fail
        go_ret
        exact ⟨ret_bool (HG.out.trans F.out).symm, below_two HB0.out hb⟩
      have d5 : (decide (99999 < fr)) = false := by rw [decide_eq_false_iff_not]; omega
      by_cases t6 : to_ < 0
      · have d6 : (decide (to_ < 0)) = true := by rw [decide_eq_true_eq]; omega
        have F := Lib.hid (okRow_no (b := p) (r := ⟨nm, lv, fr, to_, ng⟩) (by simp only []; rintro ⟨_, a, b, c⟩; omega))
        go_enter Tryz.func26, Tryz.ntmps26
        go_wp2_with fail
        refine (named_any nm _ hnl).mono ?_
        rintro e w1 ⟨rfl, hb⟩
        obtain ⟨c0, c1, c2, c3, c4⟩ := row_cells (HBLK.out.below hb (by simp))
        rw [HNM.out]
        go_wp2_with fail
        go_ret
        exact ⟨ret_bool (HG.out.trans F.out).symm, below_two HB0.out hb⟩
      have d6 : (decide (to_ < 0)) = false := by rw [decide_eq_false_iff_not]; omega
      by_cases t7 : 99999 < to_
      · have d7 : (decide (99999 < to_)) = true := by rw [decide_eq_true_eq]; omega
        have F := Lib.hid (okRow_no (b := p) (r := ⟨nm, lv, fr, to_, ng⟩) (by simp only []; rintro ⟨_, a, b, c⟩; omega))
        go_enter Tryz.func26, Tryz.ntmps26
        go_wp2_with fail
        refine (named_any nm _ hnl).mono ?_
        rintro e w1 ⟨rfl, hb⟩
        obtain ⟨c0, c1, c2, c3, c4⟩ := row_cells (HBLK.out.below hb (by simp))
        rw [HNM.out]
        go_wp2_with fail
        go_ret
        exact ⟨ret_bool (HG.out.trans F.out).symm, below_two HB0.out hb⟩
      have d7 : (decide (99999 < to_)) = false := by rw [decide_eq_false_iff_not]; omega
      by_cases t8 : to_ < fr
      · by_cases t9 : fr = 1
        · have d9 : (fr == 1) = true := by rw [beq_iff_eq]; exact t9
          by_cases t10 : to_ = 0
          · have d10 : (to_ == 0) = true := by rw [beq_iff_eq]; exact t10
            cases ng
            · have F := Lib.hid ((okRow_iff (b := p) (r := ⟨nm, lv, fr, to_, false⟩)).2 (by simp only []; exact ⟨HNM.out, by omega, fun _ => ⟨t9, t10, trivial⟩, fun _ => by omega⟩))
              have TT : Hid (isTitle ⟨nm, lv, fr, to_, false⟩ = true) := by show _ = _; unfold isTitle; rw [decide_eq_true_eq]; omega
              clear t9 t10
              go_enter Tryz.func26, Tryz.ntmps26
              go_wp2_with fail
              refine (named_any nm _ hnl).mono ?_
              rintro e w1 ⟨rfl, hb⟩
              obtain ⟨c0, c1, c2, c3, c4⟩ := row_cells (HBLK.out.below hb (by simp))
              rw [HNM.out]
              go_wp2_with fail
              refine (title_any ⟨nm, lv, fr, to_, false⟩ _).mono ?_
              rintro e w2 ⟨rfl, hb2⟩
              rw [TT.out]
              have hg2 := (HBLK.out.below hb (by simp)).below hb2 (by have := hb.size; simp at this; omega)
              obtain ⟨e0, e1, e2, e3, e4⟩ := row_cells hg2
              clear hg2 c0 c1 c2 c3 c4
              go_wp2_with fail
              go_ret
              exact ⟨ret_bool (HG.out.trans F.out).symm, below_two (below_two HB0.out hb) hb2⟩
            · have F := Lib.hid (okRow_no (b := p) (r := ⟨nm, lv, fr, to_, true⟩) (by simp only []; rintro ⟨_, a, b, c⟩; cases (b t8).2.2))
              have TT : Hid (isTitle ⟨nm, lv, fr, to_, true⟩ = true) := by show _ = _; unfold isTitle; rw [decide_eq_true_eq]; omega
              clear t9 t10
              go_enter Tryz.func26, Tryz.ntmps26
              go_wp2_with fail
              refine (named_any nm _ hnl).mono ?_
              rintro e w1 ⟨rfl, hb⟩
              obtain ⟨c0, c1, c2, c3, c4⟩ := row_cells (HBLK.out.below hb (by simp))
              rw [HNM.out]
              go_wp2_with fail
              refine (title_any ⟨nm, lv, fr, to_, true⟩ _).mono ?_
              rintro e w2 ⟨rfl, hb2⟩
              rw [TT.out]
              have hg2 := (HBLK.out.below hb (by simp)).below hb2 (by have := hb.size; simp at this; omega)
              obtain ⟨e0, e1, e2, e3, e4⟩ := row_cells hg2
              clear hg2 c0 c1 c2 c3 c4
              go_wp2_with fail
              go_ret
              exact ⟨ret_bool (HG.out.trans F.out).symm, below_two (below_two HB0.out hb) hb2⟩
          · have d10 : (to_ == 0) = false := by rw [beq_eq_false_iff_ne]; exact t10
            have F := Lib.hid (okRow_no (b := p) (r := ⟨nm, lv, fr, to_, ng⟩) (by simp only []; rintro ⟨_, a, b, c⟩; omega))
            have TT : Hid (isTitle ⟨nm, lv, fr, to_, ng⟩ = true) := by show _ = _; unfold isTitle; rw [decide_eq_true_eq]; omega
            clear t9 t10
            go_enter Tryz.func26, Tryz.ntmps26
            go_wp2_with fail
            refine (named_any nm _ hnl).mono ?_
            rintro e w1 ⟨rfl, hb⟩
            obtain ⟨c0, c1, c2, c3, c4⟩ := row_cells (HBLK.out.below hb (by simp))
            rw [HNM.out]
            go_wp2_with fail
            refine (title_any ⟨nm, lv, fr, to_, ng⟩ _).mono ?_
            rintro e w2 ⟨rfl, hb2⟩
            rw [TT.out]
            have hg2 := (HBLK.out.below hb (by simp)).below hb2 (by have := hb.size; simp at this; omega)
            obtain ⟨e0, e1, e2, e3, e4⟩ := row_cells hg2
            clear hg2 c0 c1 c2 c3 c4
            go_wp2_with fail
            go_ret
            exact ⟨ret_bool (HG.out.trans F.out).symm, below_two (below_two HB0.out hb) hb2⟩
        · have d9 : (fr == 1) = false := by rw [beq_eq_false_iff_ne]; exact t9
          have F := Lib.hid (okRow_no (b := p) (r := ⟨nm, lv, fr, to_, ng⟩) (by simp only []; rintro ⟨_, a, b, c⟩; omega))
          have TT : Hid (isTitle ⟨nm, lv, fr, to_, ng⟩ = true) := by show _ = _; unfold isTitle; rw [decide_eq_true_eq]; omega
          go_enter Tryz.func26, Tryz.ntmps26
          go_wp2_with fail
          refine (named_any nm _ hnl).mono ?_
          rintro e w1 ⟨rfl, hb⟩
          obtain ⟨c0, c1, c2, c3, c4⟩ := row_cells (HBLK.out.below hb (by simp))
          rw [HNM.out]
          go_wp2_with fail
          refine (title_any ⟨nm, lv, fr, to_, ng⟩ _).mono ?_
          rintro e w2 ⟨rfl, hb2⟩
          rw [TT.out]
          have hg2 := (HBLK.out.below hb (by simp)).below hb2 (by have := hb.size; simp at this; omega)
          obtain ⟨e0, e1, e2, e3, e4⟩ := row_cells hg2
          clear hg2 c0 c1 c2 c3 c4
          go_wp2_with fail
          go_ret
          exact ⟨ret_bool (HG.out.trans F.out).symm, below_two (below_two HB0.out hb) hb2⟩
      · skip
        have F := Lib.hid ((okRow_iff (b := p) (r := ⟨nm, lv, fr, to_, ng⟩)).2 (by simp only []; exact ⟨HNM.out, by omega, fun _ => by omega, fun _ => by omega⟩))
        have TT : Hid (isTitle ⟨nm, lv, fr, to_, ng⟩ = false) := by show _ = _; unfold isTitle; rw [decide_eq_false_iff_not]; simp only []; omega
        go_enter Tryz.func26, Tryz.ntmps26
        go_wp2_with fail
        refine (named_any nm _ hnl).mono ?_
        rintro e w1 ⟨rfl, hb⟩
        obtain ⟨c0, c1, c2, c3, c4⟩ := row_cells (HBLK.out.below hb (by simp))
        rw [HNM.out]
        go_wp2_with fail
        refine (title_any ⟨nm, lv, fr, to_, ng⟩ _).mono ?_
        rintro e w2 ⟨rfl, hb2⟩
        rw [TT.out]
        have hg2 := (HBLK.out.below hb (by simp)).below hb2 (by have := hb.size; simp at this; omega)
        obtain ⟨e0, e1, e2, e3, e4⟩ := row_cells hg2
        clear hg2 c0 c1 c2 c3 c4
        go_wp2_with fail
        go_ret
        exact ⟨ret_bool (HG.out.trans F.out).symm, below_two (below_two HB0.out hb) hb2⟩
end Go.Proofs.YtcmmppkmkejniaaGreatDoor
