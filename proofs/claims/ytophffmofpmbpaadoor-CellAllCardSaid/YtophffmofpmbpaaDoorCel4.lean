/-
  Valid and Of, both.
-/
import Derived.Test.YtophffmofpmbpaaDoorCel3
namespace Go.Proofs.YtophffmofpmbpaaDoor
open Go.RowKit
set_option linter.unusedVariables false
def cellV (c : SCell) : Value := .agg #[.int .i64 c.st, .int .i64 c.en, .int .i64 c.ot, .int .i64 c.pe]
def cellArr (c : SCell) : Array Value := #[.int .i64 c.st, .int .i64 c.en, .int .i64 c.ot, .int .i64 c.pe]
theorem v_kn {c : SCell} (h : known c.st = false) : validC c = false := by unfold validC; rw [h]; rfl
theorem v_en {c : SCell} (h : inB (uE c.st) c.en 12 = false) : validC c = false := by unfold validC; rw [h]; simp
theorem v_ot {c : SCell} (h : inB (uO c.st) c.ot 12 = false) : validC c = false := by unfold validC; rw [h]; simp
theorem v_pe {c : SCell} (h : inB (uP c.st) c.pe 120 = false) : validC c = false := by unfold validC; rw [h]; simp
theorem v_eq {c : SCell} (h : uO c.st = true) (h' : c.en = c.ot) : validC c = false := by unfold validC; rw [h, h']; simp
theorem v_ok {c : SCell} (h0 : known c.st = true) (h1 : inB (uE c.st) c.en 12 = true) (h2 : inB (uO c.st) c.ot 12 = true) (h3 : inB (uP c.st) c.pe 120 = true) (h4 : uO c.st = true → c.en ≠ c.ot) : validC c = true := validC_iff.2 ⟨h0, h1, h2, h3, h4⟩
theorem i_lt {n m : Int} (h : n < 0) : inB true n m = false := by unfold inB; rw [if_pos rfl, decide_eq_false (show ¬ 0 ≤ n by omega)]; rfl
theorem i_ge {n m : Int} (h : m ≤ n) : inB true n m = false := by unfold inB; rw [if_pos rfl, decide_eq_false (show ¬ n < m by omega), Bool.and_false]
theorem i_ok {n m : Int} (h : 0 ≤ n) (h' : n < m) : inB true n m = true := by unfold inB; rw [if_pos rfl, decide_eq_true h, decide_eq_true h']; rfl
theorem i_un {n m : Int} (h : n ≠ -1) : inB false n m = false := by unfold inB; simp [h]
theorem i_m1 {m : Int} : inB false (-1) m = true := rfl
set_option maxRecDepth 100000 in
set_option maxHeartbeats 8000000 in
theorem valid_any (c : SCell) (w : World) : Calls Tryd.prog 10 #[cellV c] w fun e w' => e = .returned (.bool (validC c)) ∧ Below w.heap.size w w' := by
  obtain ⟨st, en, ot, pe⟩ := c
  unfold cellV
  simp only []
  have HK := Lib.hid (Blk.new w 23 #[.int .i64 st, .int .i64 en, .int .i64 ot, .int .i64 pe])
  have HB0 := Lib.hid ((Below.refl w.heap.size w).alloc (Nat.le_refl _) (.cells (#[.int .i64 st, .int .i64 en, .int .i64 ot, .int .i64 pe] : Array Value) 23))
  cases g0 : known st
  · have F := Lib.hid (v_kn (c := ⟨st, en, ot, pe⟩) g0)
    have G0 := Lib.hid g0
    clear g0
    go_enter Tryd.func10, Tryd.ntmps10
    go_wp2_with fail
    refine (uses_any st _).mono ?_
    rintro e w1 ⟨rfl, hb⟩
    have HB1 := Lib.hid (below_two HB0.out hb)
    obtain ⟨y0, y1, y2, y3⟩ := st_blk (HK.out.below hb (by simp))
    clear hb
    go_wp2_with fail
    refine (known_any st _).mono ?_
    rintro e wx ⟨rfl, rfl⟩
    rw [G0.out]
    go_wp2_with fail
    go_ret
    exact ⟨ret_bool F.out.symm, HB1.out⟩
  have G0 := Lib.hid g0
  clear g0
  cases g1 : inB (uE st) en 12
  · have F := Lib.hid (v_en (c := ⟨st, en, ot, pe⟩) g1)
    have G1 := Lib.hid g1
    clear g1
    go_enter Tryd.func10, Tryd.ntmps10
    go_wp2_with fail
    refine (uses_any st _).mono ?_
    rintro e w1 ⟨rfl, hb⟩
    have HB1 := Lib.hid (below_two HB0.out hb)
    obtain ⟨y0, y1, y2, y3⟩ := st_blk (HK.out.below hb (by simp))
    clear hb
    go_wp2_with fail
    refine (known_any st _).mono ?_
    rintro e wx ⟨rfl, rfl⟩
    rw [G0.out]
    go_wp2_with fail
    refine (in_any (uE st) en 12 _).mono ?_
    rintro e wx ⟨rfl, rfl⟩
    rw [G1.out]
    go_wp2_with fail
    go_ret
    exact ⟨ret_bool F.out.symm, HB1.out⟩
  have G1 := Lib.hid g1
  clear g1
  cases g2 : inB (uO st) ot 12
  · have F := Lib.hid (v_ot (c := ⟨st, en, ot, pe⟩) g2)
    have G2 := Lib.hid g2
    clear g2
    go_enter Tryd.func10, Tryd.ntmps10
    go_wp2_with fail
    refine (uses_any st _).mono ?_
    rintro e w1 ⟨rfl, hb⟩
    have HB1 := Lib.hid (below_two HB0.out hb)
    obtain ⟨y0, y1, y2, y3⟩ := st_blk (HK.out.below hb (by simp))
    clear hb
    go_wp2_with fail
    refine (known_any st _).mono ?_
    rintro e wx ⟨rfl, rfl⟩
    rw [G0.out]
    go_wp2_with fail
    refine (in_any (uE st) en 12 _).mono ?_
    rintro e wx ⟨rfl, rfl⟩
    rw [G1.out]
    go_wp2_with fail
    refine (in_any (uO st) ot 12 _).mono ?_
    rintro e wx ⟨rfl, rfl⟩
    rw [G2.out]
    go_wp2_with fail
    go_ret
    exact ⟨ret_bool F.out.symm, HB1.out⟩
  have G2 := Lib.hid g2
  clear g2
  cases g3 : inB (uP st) pe 120
  · have F := Lib.hid (v_pe (c := ⟨st, en, ot, pe⟩) g3)
    have G3 := Lib.hid g3
    clear g3
    go_enter Tryd.func10, Tryd.ntmps10
    go_wp2_with fail
    refine (uses_any st _).mono ?_
    rintro e w1 ⟨rfl, hb⟩
    have HB1 := Lib.hid (below_two HB0.out hb)
    obtain ⟨y0, y1, y2, y3⟩ := st_blk (HK.out.below hb (by simp))
    clear hb
    go_wp2_with fail
    refine (known_any st _).mono ?_
    rintro e wx ⟨rfl, rfl⟩
    rw [G0.out]
    go_wp2_with fail
    refine (in_any (uE st) en 12 _).mono ?_
    rintro e wx ⟨rfl, rfl⟩
    rw [G1.out]
    go_wp2_with fail
    refine (in_any (uO st) ot 12 _).mono ?_
    rintro e wx ⟨rfl, rfl⟩
    rw [G2.out]
    go_wp2_with fail
    refine (in_any (uP st) pe 120 _).mono ?_
    rintro e wx ⟨rfl, rfl⟩
    rw [G3.out]
    go_wp2_with fail
    go_ret
    exact ⟨ret_bool F.out.symm, HB1.out⟩
  have G3 := Lib.hid g3
  clear g3
  cases g4 : uO st
  · have F := Lib.hid (v_ok (c := ⟨st, en, ot, pe⟩) G0.out G1.out G2.out G3.out (fun h => by rw [show uO st = false from g4] at h; cases h))
    have G4 := Lib.hid g4
    clear g4
    go_enter Tryd.func10, Tryd.ntmps10
    go_wp2_with fail
    refine (uses_any st _).mono ?_
    rintro e w1 ⟨rfl, hb⟩
    have HB1 := Lib.hid (below_two HB0.out hb)
    obtain ⟨y0, y1, y2, y3⟩ := st_blk (HK.out.below hb (by simp))
    clear hb
    rw [G4.out] at G2 ⊢
    go_wp2_with fail
    refine (known_any st _).mono ?_
    rintro e wx ⟨rfl, rfl⟩
    rw [G0.out]
    go_wp2_with fail
    refine (in_any (uE st) en 12 _).mono ?_
    rintro e wx ⟨rfl, rfl⟩
    rw [G1.out]
    go_wp2_with fail
    refine (in_any false ot 12 _).mono ?_
    rintro e wx ⟨rfl, rfl⟩
    rw [G2.out]
    go_wp2_with fail
    refine (in_any (uP st) pe 120 _).mono ?_
    rintro e wx ⟨rfl, rfl⟩
    rw [G3.out]
    go_wp2_with fail
    go_ret
    exact ⟨ret_bool F.out.symm, HB1.out⟩
  have G4 := Lib.hid g4
  clear g4
  by_cases g5 : en = ot
  · have F := Lib.hid (v_eq (c := ⟨st, en, ot, pe⟩) G4.out g5)
    have q1 : (en != ot) = false := by rw [g5]; simp
    clear g5
    go_enter Tryd.func10, Tryd.ntmps10
    go_wp2_with fail
    refine (uses_any st _).mono ?_
    rintro e w1 ⟨rfl, hb⟩
    have HB1 := Lib.hid (below_two HB0.out hb)
    obtain ⟨y0, y1, y2, y3⟩ := st_blk (HK.out.below hb (by simp))
    clear hb
    rw [G4.out] at G2 ⊢
    go_wp2_with fail
    refine (known_any st _).mono ?_
    rintro e wx ⟨rfl, rfl⟩
    rw [G0.out]
    go_wp2_with fail
    refine (in_any (uE st) en 12 _).mono ?_
    rintro e wx ⟨rfl, rfl⟩
    rw [G1.out]
    go_wp2_with fail
    refine (in_any true ot 12 _).mono ?_
    rintro e wx ⟨rfl, rfl⟩
    rw [G2.out]
    go_wp2_with fail
    refine (in_any (uP st) pe 120 _).mono ?_
    rintro e wx ⟨rfl, rfl⟩
    rw [G3.out]
    go_wp2_with fail
    go_ret
    exact ⟨ret_bool F.out.symm, HB1.out⟩
  · have F := Lib.hid (v_ok (c := ⟨st, en, ot, pe⟩) G0.out G1.out G2.out G3.out (fun _ => g5))
    have q1 : (en != ot) = true := by rw [bne_iff_ne]; exact g5
    have q2 : (en == ot) = false := by rw [beq_eq_false_iff_ne]; exact g5
    clear g5
    go_enter Tryd.func10, Tryd.ntmps10
    go_wp2_with fail
    refine (uses_any st _).mono ?_
    rintro e w1 ⟨rfl, hb⟩
    have HB1 := Lib.hid (below_two HB0.out hb)
    obtain ⟨y0, y1, y2, y3⟩ := st_blk (HK.out.below hb (by simp))
    clear hb
    rw [G4.out] at G2 ⊢
    go_wp2_with fail
    refine (known_any st _).mono ?_
    rintro e wx ⟨rfl, rfl⟩
    rw [G0.out]
    go_wp2_with fail
    refine (in_any (uE st) en 12 _).mono ?_
    rintro e wx ⟨rfl, rfl⟩
    rw [G1.out]
    go_wp2_with fail
    refine (in_any true ot 12 _).mono ?_
    rintro e wx ⟨rfl, rfl⟩
    rw [G2.out]
    go_wp2_with fail
    refine (in_any (uP st) pe 120 _).mono ?_
    rintro e wx ⟨rfl, rfl⟩
    rw [G3.out]
    go_wp2_with fail
    go_ret
    exact ⟨ret_bool F.out.symm, HB1.out⟩
set_option maxRecDepth 100000 in
set_option maxHeartbeats 16000000 in
theorem refValid_any (c : SCell) (w : World) : Calls Tryd.prog 11 #[cellV c] w fun e w' => e = .returned (.bool (validC c)) ∧ Below w.heap.size w w' := by
  obtain ⟨st, en, ot, pe⟩ := c
  unfold cellV
  simp only []
  have HB0 := Lib.hid ((Below.refl w.heap.size w).alloc (Nat.le_refl _) (.cells (#[.int .i64 st, .int .i64 en, .int .i64 ot, .int .i64 pe] : Array Value) 23))
  by_cases hk1 : st < 1
  · have d1 : decide (st < 1) = true := by rw [decide_eq_true_eq]; exact hk1
    have F : Hid (validC ⟨st, en, ot, pe⟩ = false) := by
      show _ = _
      exact v_kn (known_no.2 (.inl hk1))
    go_enter Tryd.func11, Tryd.ntmps11
    go_wp2_with fail
    refine (refUses_any st _).mono ?_
    rintro e wx ⟨rfl, rfl⟩
    go_wp2_with fail
    go_ret
    exact ⟨ret_bool F.out.symm, HB0.out⟩
  have d1 : decide (st < 1) = false := by rw [decide_eq_false_iff_not]; exact hk1
  by_cases hk2 : 22 < st
  · have d2 : decide (22 < st) = true := by rw [decide_eq_true_eq]; exact hk2
    have F : Hid (validC ⟨st, en, ot, pe⟩ = false) := by
      show _ = _
      exact v_kn (known_no.2 (.inr hk2))
    go_enter Tryd.func11, Tryd.ntmps11
    go_wp2_with fail
    refine (refUses_any st _).mono ?_
    rintro e wx ⟨rfl, rfl⟩
    go_wp2_with fail
    go_ret
    exact ⟨ret_bool F.out.symm, HB0.out⟩
  have d2 : decide (22 < st) = false := by rw [decide_eq_false_iff_not]; exact hk2
  have GK : Hid (known st = true) := known_iff.2 ⟨by omega, by omega⟩
  clear hk1 hk2
  cases gu1 : uE st
  · have GU1 := Lib.hid gu1
    by_cases hx1 : en = -1
    · have e1 : (en != -1) = false := by rw [hx1]; rfl
      have GI1 : Hid (inB (uE st) en 12 = true) := by show _ = _; rw [GU1.out, hx1]; rfl
      clear gu1 hx1
      cases gu2 : uO st
      · have GU2 := Lib.hid gu2
        by_cases hx2 : ot = -1
        · have e2 : (ot != -1) = false := by rw [hx2]; rfl
          have GI2 : Hid (inB (uO st) ot 12 = true) := by show _ = _; rw [GU2.out, hx2]; rfl
          have GI4 : Hid (uO st = true → en ≠ ot) := fun h => by rw [GU2.out] at h; cases h
          clear gu2 hx2
          cases gu3 : uP st
          · have GU3 := Lib.hid gu3
            by_cases hx3 : pe = -1
            · have e3 : (pe == -1) = true := by rw [hx3]; rfl
              have F : Hid (validC ⟨st, en, ot, pe⟩ = true) := by
                show _ = _
                exact v_ok GK.out GI1.out GI2.out (by show inB (uP st) pe 120 = true; rw [GU3.out, hx3]; rfl) GI4.out
              clear gu3 hx3
              go_enter Tryd.func11, Tryd.ntmps11
              go_wp2_with fail
              refine (refUses_any st _).mono ?_
              rintro e wx ⟨rfl, rfl⟩
              rw [GU1.out]
              rw [GU2.out]
              rw [GU3.out]
              go_wp2_with fail
              go_ret
              exact ⟨ret_bool F.out.symm, HB0.out⟩
            · have e3 : (pe == -1) = false := by rw [beq_eq_false_iff_ne]; exact hx3
              have F : Hid (validC ⟨st, en, ot, pe⟩ = false) := by
                show _ = _
                exact v_pe (by show inB (uP st) pe 120 = false; rw [GU3.out]; exact i_un hx3)
              clear gu3 hx3
              go_enter Tryd.func11, Tryd.ntmps11
              go_wp2_with fail
              refine (refUses_any st _).mono ?_
              rintro e wx ⟨rfl, rfl⟩
              rw [GU1.out]
              rw [GU2.out]
              rw [GU3.out]
              go_wp2_with fail
              go_ret
              exact ⟨ret_bool F.out.symm, HB0.out⟩
          · have GU3 := Lib.hid gu3
            by_cases ha3 : pe < 0
            · have a3 : decide (0 ≤ pe) = false := by rw [decide_eq_false_iff_not]; omega
              have F : Hid (validC ⟨st, en, ot, pe⟩ = false) := by
                show _ = _
                exact v_pe (by show inB (uP st) pe 120 = false; rw [GU3.out]; exact i_lt ha3)
              clear gu3
              go_enter Tryd.func11, Tryd.ntmps11
              go_wp2_with fail
              refine (refUses_any st _).mono ?_
              rintro e wx ⟨rfl, rfl⟩
              rw [GU1.out]
              rw [GU2.out]
              rw [GU3.out]
              go_wp2_with fail
              go_ret
              exact ⟨ret_bool F.out.symm, HB0.out⟩
            have a3 : decide (0 ≤ pe) = true := by rw [decide_eq_true_eq]; omega
            by_cases hb3 : 120 ≤ pe
            · have b3 : decide (pe < 120) = false := by rw [decide_eq_false_iff_not]; omega
              have F : Hid (validC ⟨st, en, ot, pe⟩ = false) := by
                show _ = _
                exact v_pe (by show inB (uP st) pe 120 = false; rw [GU3.out]; exact i_ge hb3)
              clear gu3
              go_enter Tryd.func11, Tryd.ntmps11
              go_wp2_with fail
              refine (refUses_any st _).mono ?_
              rintro e wx ⟨rfl, rfl⟩
              rw [GU1.out]
              rw [GU2.out]
              rw [GU3.out]
              go_wp2_with fail
              go_ret
              exact ⟨ret_bool F.out.symm, HB0.out⟩
            have b3 : decide (pe < 120) = true := by rw [decide_eq_true_eq]; omega
            have F : Hid (validC ⟨st, en, ot, pe⟩ = true) := by
              show _ = _
              exact v_ok GK.out GI1.out GI2.out (by show inB (uP st) pe 120 = true; rw [GU3.out]; exact i_ok (by omega) (by omega)) GI4.out
            clear gu3
            go_enter Tryd.func11, Tryd.ntmps11
            go_wp2_with fail
            refine (refUses_any st _).mono ?_
            rintro e wx ⟨rfl, rfl⟩
            rw [GU1.out]
            rw [GU2.out]
            rw [GU3.out]
            go_wp2_with fail
            go_ret
            exact ⟨ret_bool F.out.symm, HB0.out⟩
        · have e2 : (ot != -1) = true := by rw [bne_iff_ne]; exact hx2
          have F : Hid (validC ⟨st, en, ot, pe⟩ = false) := by
            show _ = _
            exact v_ot (by show inB (uO st) ot 12 = false; rw [GU2.out]; exact i_un hx2)
          clear gu2 hx2
          go_enter Tryd.func11, Tryd.ntmps11
          go_wp2_with fail
          refine (refUses_any st _).mono ?_
          rintro e wx ⟨rfl, rfl⟩
          rw [GU1.out]
          rw [GU2.out]
          go_wp2_with fail
          go_ret
          exact ⟨ret_bool F.out.symm, HB0.out⟩
      · have GU2 := Lib.hid gu2
        by_cases ha2 : ot < 0
        · have a2 : decide (ot < 0) = true := by rw [decide_eq_true_eq]; exact ha2
          have F : Hid (validC ⟨st, en, ot, pe⟩ = false) := by
            show _ = _
            exact v_ot (by show inB (uO st) ot 12 = false; rw [GU2.out]; exact i_lt ha2)
          clear gu2
          go_enter Tryd.func11, Tryd.ntmps11
          go_wp2_with fail
          refine (refUses_any st _).mono ?_
          rintro e wx ⟨rfl, rfl⟩
          rw [GU1.out]
          rw [GU2.out]
          go_wp2_with fail
          go_ret
          exact ⟨ret_bool F.out.symm, HB0.out⟩
        have a2 : decide (ot < 0) = false := by rw [decide_eq_false_iff_not]; exact ha2
        by_cases hb2 : 12 ≤ ot
        · have b2 : decide (12 ≤ ot) = true := by rw [decide_eq_true_eq]; exact hb2
          have F : Hid (validC ⟨st, en, ot, pe⟩ = false) := by
            show _ = _
            exact v_ot (by show inB (uO st) ot 12 = false; rw [GU2.out]; exact i_ge hb2)
          clear gu2
          go_enter Tryd.func11, Tryd.ntmps11
          go_wp2_with fail
          refine (refUses_any st _).mono ?_
          rintro e wx ⟨rfl, rfl⟩
          rw [GU1.out]
          rw [GU2.out]
          go_wp2_with fail
          go_ret
          exact ⟨ret_bool F.out.symm, HB0.out⟩
        have b2 : decide (12 ≤ ot) = false := by rw [decide_eq_false_iff_not]; exact hb2
        by_cases hc2 : ot = en
        · have c2 : (ot == en) = true := by rw [hc2]; simp
          have F : Hid (validC ⟨st, en, ot, pe⟩ = false) := by
            show _ = _
            exact v_eq (c := ⟨st, en, ot, pe⟩) GU2.out hc2.symm
          clear gu2 hc2
          go_enter Tryd.func11, Tryd.ntmps11
          go_wp2_with fail
          refine (refUses_any st _).mono ?_
          rintro e wx ⟨rfl, rfl⟩
          rw [GU1.out]
          rw [GU2.out]
          go_wp2_with fail
          go_ret
          exact ⟨ret_bool F.out.symm, HB0.out⟩
        have c2 : (ot == en) = false := by rw [beq_eq_false_iff_ne]; exact hc2
        have GI2 : Hid (inB (uO st) ot 12 = true) := by show _ = _; rw [GU2.out]; exact i_ok (by omega) (by omega)
        have GI4 : Hid (uO st = true → en ≠ ot) := fun _ h => hc2 h.symm
        clear gu2 ha2 hb2 hc2
        cases gu3 : uP st
        · have GU3 := Lib.hid gu3
          by_cases hx3 : pe = -1
          · have e3 : (pe == -1) = true := by rw [hx3]; rfl
            have F : Hid (validC ⟨st, en, ot, pe⟩ = true) := by
              show _ = _
              exact v_ok GK.out GI1.out GI2.out (by show inB (uP st) pe 120 = true; rw [GU3.out, hx3]; rfl) GI4.out
            clear gu3 hx3
            go_enter Tryd.func11, Tryd.ntmps11
            go_wp2_with fail
            refine (refUses_any st _).mono ?_
            rintro e wx ⟨rfl, rfl⟩
            rw [GU1.out]
            rw [GU2.out]
            rw [GU3.out]
            go_wp2_with fail
            go_ret
            exact ⟨ret_bool F.out.symm, HB0.out⟩
          · have e3 : (pe == -1) = false := by rw [beq_eq_false_iff_ne]; exact hx3
            have F : Hid (validC ⟨st, en, ot, pe⟩ = false) := by
              show _ = _
              exact v_pe (by show inB (uP st) pe 120 = false; rw [GU3.out]; exact i_un hx3)
            clear gu3 hx3
            go_enter Tryd.func11, Tryd.ntmps11
            go_wp2_with fail
            refine (refUses_any st _).mono ?_
            rintro e wx ⟨rfl, rfl⟩
            rw [GU1.out]
            rw [GU2.out]
            rw [GU3.out]
            go_wp2_with fail
            go_ret
            exact ⟨ret_bool F.out.symm, HB0.out⟩
        · have GU3 := Lib.hid gu3
          by_cases ha3 : pe < 0
          · have a3 : decide (0 ≤ pe) = false := by rw [decide_eq_false_iff_not]; omega
            have F : Hid (validC ⟨st, en, ot, pe⟩ = false) := by
              show _ = _
              exact v_pe (by show inB (uP st) pe 120 = false; rw [GU3.out]; exact i_lt ha3)
            clear gu3
            go_enter Tryd.func11, Tryd.ntmps11
            go_wp2_with fail
            refine (refUses_any st _).mono ?_
            rintro e wx ⟨rfl, rfl⟩
            rw [GU1.out]
            rw [GU2.out]
            rw [GU3.out]
            go_wp2_with fail
            go_ret
            exact ⟨ret_bool F.out.symm, HB0.out⟩
          have a3 : decide (0 ≤ pe) = true := by rw [decide_eq_true_eq]; omega
          by_cases hb3 : 120 ≤ pe
          · have b3 : decide (pe < 120) = false := by rw [decide_eq_false_iff_not]; omega
            have F : Hid (validC ⟨st, en, ot, pe⟩ = false) := by
              show _ = _
              exact v_pe (by show inB (uP st) pe 120 = false; rw [GU3.out]; exact i_ge hb3)
            clear gu3
            go_enter Tryd.func11, Tryd.ntmps11
            go_wp2_with fail
            refine (refUses_any st _).mono ?_
            rintro e wx ⟨rfl, rfl⟩
            rw [GU1.out]
            rw [GU2.out]
            rw [GU3.out]
            go_wp2_with fail
            go_ret
            exact ⟨ret_bool F.out.symm, HB0.out⟩
          have b3 : decide (pe < 120) = true := by rw [decide_eq_true_eq]; omega
          have F : Hid (validC ⟨st, en, ot, pe⟩ = true) := by
            show _ = _
            exact v_ok GK.out GI1.out GI2.out (by show inB (uP st) pe 120 = true; rw [GU3.out]; exact i_ok (by omega) (by omega)) GI4.out
          clear gu3
          go_enter Tryd.func11, Tryd.ntmps11
          go_wp2_with fail
          refine (refUses_any st _).mono ?_
          rintro e wx ⟨rfl, rfl⟩
          rw [GU1.out]
          rw [GU2.out]
          rw [GU3.out]
          go_wp2_with fail
          go_ret
          exact ⟨ret_bool F.out.symm, HB0.out⟩
    · have e1 : (en != -1) = true := by rw [bne_iff_ne]; exact hx1
      have F : Hid (validC ⟨st, en, ot, pe⟩ = false) := by
        show _ = _
        exact v_en (by show inB (uE st) en 12 = false; rw [GU1.out]; exact i_un hx1)
      clear gu1 hx1
      go_enter Tryd.func11, Tryd.ntmps11
      go_wp2_with fail
      refine (refUses_any st _).mono ?_
      rintro e wx ⟨rfl, rfl⟩
      rw [GU1.out]
      go_wp2_with fail
      go_ret
      exact ⟨ret_bool F.out.symm, HB0.out⟩
  · have GU1 := Lib.hid gu1
    by_cases ha1 : en < 0
    · have a1 : decide (en < 0) = true := by rw [decide_eq_true_eq]; exact ha1
      have F : Hid (validC ⟨st, en, ot, pe⟩ = false) := by
        show _ = _
        exact v_en (by show inB (uE st) en 12 = false; rw [GU1.out]; exact i_lt ha1)
      clear gu1
      go_enter Tryd.func11, Tryd.ntmps11
      go_wp2_with fail
      refine (refUses_any st _).mono ?_
      rintro e wx ⟨rfl, rfl⟩
      rw [GU1.out]
      go_wp2_with fail
      go_ret
      exact ⟨ret_bool F.out.symm, HB0.out⟩
    have a1 : decide (en < 0) = false := by rw [decide_eq_false_iff_not]; exact ha1
    by_cases hb1 : 12 ≤ en
    · have b1 : decide (12 ≤ en) = true := by rw [decide_eq_true_eq]; exact hb1
      have F : Hid (validC ⟨st, en, ot, pe⟩ = false) := by
        show _ = _
        exact v_en (by show inB (uE st) en 12 = false; rw [GU1.out]; exact i_ge hb1)
      clear gu1
      go_enter Tryd.func11, Tryd.ntmps11
      go_wp2_with fail
      refine (refUses_any st _).mono ?_
      rintro e wx ⟨rfl, rfl⟩
      rw [GU1.out]
      go_wp2_with fail
      go_ret
      exact ⟨ret_bool F.out.symm, HB0.out⟩
    have b1 : decide (12 ≤ en) = false := by rw [decide_eq_false_iff_not]; exact hb1
    have GI1 : Hid (inB (uE st) en 12 = true) := by show _ = _; rw [GU1.out]; exact i_ok (by omega) (by omega)
    clear gu1 ha1 hb1
    cases gu2 : uO st
    · have GU2 := Lib.hid gu2
      by_cases hx2 : ot = -1
      · have e2 : (ot != -1) = false := by rw [hx2]; rfl
        have GI2 : Hid (inB (uO st) ot 12 = true) := by show _ = _; rw [GU2.out, hx2]; rfl
        have GI4 : Hid (uO st = true → en ≠ ot) := fun h => by rw [GU2.out] at h; cases h
        clear gu2 hx2
        cases gu3 : uP st
        · have GU3 := Lib.hid gu3
          by_cases hx3 : pe = -1
          · have e3 : (pe == -1) = true := by rw [hx3]; rfl
            have F : Hid (validC ⟨st, en, ot, pe⟩ = true) := by
              show _ = _
              exact v_ok GK.out GI1.out GI2.out (by show inB (uP st) pe 120 = true; rw [GU3.out, hx3]; rfl) GI4.out
            clear gu3 hx3
            go_enter Tryd.func11, Tryd.ntmps11
            go_wp2_with fail
            refine (refUses_any st _).mono ?_
            rintro e wx ⟨rfl, rfl⟩
            rw [GU1.out]
            rw [GU2.out]
            rw [GU3.out]
            go_wp2_with fail
            go_ret
            exact ⟨ret_bool F.out.symm, HB0.out⟩
          · have e3 : (pe == -1) = false := by rw [beq_eq_false_iff_ne]; exact hx3
            have F : Hid (validC ⟨st, en, ot, pe⟩ = false) := by
              show _ = _
              exact v_pe (by show inB (uP st) pe 120 = false; rw [GU3.out]; exact i_un hx3)
            clear gu3 hx3
            go_enter Tryd.func11, Tryd.ntmps11
            go_wp2_with fail
            refine (refUses_any st _).mono ?_
            rintro e wx ⟨rfl, rfl⟩
            rw [GU1.out]
            rw [GU2.out]
            rw [GU3.out]
            go_wp2_with fail
            go_ret
            exact ⟨ret_bool F.out.symm, HB0.out⟩
        · have GU3 := Lib.hid gu3
          by_cases ha3 : pe < 0
          · have a3 : decide (0 ≤ pe) = false := by rw [decide_eq_false_iff_not]; omega
            have F : Hid (validC ⟨st, en, ot, pe⟩ = false) := by
              show _ = _
              exact v_pe (by show inB (uP st) pe 120 = false; rw [GU3.out]; exact i_lt ha3)
            clear gu3
            go_enter Tryd.func11, Tryd.ntmps11
            go_wp2_with fail
            refine (refUses_any st _).mono ?_
            rintro e wx ⟨rfl, rfl⟩
            rw [GU1.out]
            rw [GU2.out]
            rw [GU3.out]
            go_wp2_with fail
            go_ret
            exact ⟨ret_bool F.out.symm, HB0.out⟩
          have a3 : decide (0 ≤ pe) = true := by rw [decide_eq_true_eq]; omega
          by_cases hb3 : 120 ≤ pe
          · have b3 : decide (pe < 120) = false := by rw [decide_eq_false_iff_not]; omega
            have F : Hid (validC ⟨st, en, ot, pe⟩ = false) := by
              show _ = _
              exact v_pe (by show inB (uP st) pe 120 = false; rw [GU3.out]; exact i_ge hb3)
            clear gu3
            go_enter Tryd.func11, Tryd.ntmps11
            go_wp2_with fail
            refine (refUses_any st _).mono ?_
            rintro e wx ⟨rfl, rfl⟩
            rw [GU1.out]
            rw [GU2.out]
            rw [GU3.out]
            go_wp2_with fail
            go_ret
            exact ⟨ret_bool F.out.symm, HB0.out⟩
          have b3 : decide (pe < 120) = true := by rw [decide_eq_true_eq]; omega
          have F : Hid (validC ⟨st, en, ot, pe⟩ = true) := by
            show _ = _
            exact v_ok GK.out GI1.out GI2.out (by show inB (uP st) pe 120 = true; rw [GU3.out]; exact i_ok (by omega) (by omega)) GI4.out
          clear gu3
          go_enter Tryd.func11, Tryd.ntmps11
          go_wp2_with fail
          refine (refUses_any st _).mono ?_
          rintro e wx ⟨rfl, rfl⟩
          rw [GU1.out]
          rw [GU2.out]
          rw [GU3.out]
          go_wp2_with fail
          go_ret
          exact ⟨ret_bool F.out.symm, HB0.out⟩
      · have e2 : (ot != -1) = true := by rw [bne_iff_ne]; exact hx2
        have F : Hid (validC ⟨st, en, ot, pe⟩ = false) := by
          show _ = _
          exact v_ot (by show inB (uO st) ot 12 = false; rw [GU2.out]; exact i_un hx2)
        clear gu2 hx2
        go_enter Tryd.func11, Tryd.ntmps11
        go_wp2_with fail
        refine (refUses_any st _).mono ?_
        rintro e wx ⟨rfl, rfl⟩
        rw [GU1.out]
        rw [GU2.out]
        go_wp2_with fail
        go_ret
        exact ⟨ret_bool F.out.symm, HB0.out⟩
    · have GU2 := Lib.hid gu2
      by_cases ha2 : ot < 0
      · have a2 : decide (ot < 0) = true := by rw [decide_eq_true_eq]; exact ha2
        have F : Hid (validC ⟨st, en, ot, pe⟩ = false) := by
          show _ = _
          exact v_ot (by show inB (uO st) ot 12 = false; rw [GU2.out]; exact i_lt ha2)
        clear gu2
        go_enter Tryd.func11, Tryd.ntmps11
        go_wp2_with fail
        refine (refUses_any st _).mono ?_
        rintro e wx ⟨rfl, rfl⟩
        rw [GU1.out]
        rw [GU2.out]
        go_wp2_with fail
        go_ret
        exact ⟨ret_bool F.out.symm, HB0.out⟩
      have a2 : decide (ot < 0) = false := by rw [decide_eq_false_iff_not]; exact ha2
      by_cases hb2 : 12 ≤ ot
      · have b2 : decide (12 ≤ ot) = true := by rw [decide_eq_true_eq]; exact hb2
        have F : Hid (validC ⟨st, en, ot, pe⟩ = false) := by
          show _ = _
          exact v_ot (by show inB (uO st) ot 12 = false; rw [GU2.out]; exact i_ge hb2)
        clear gu2
        go_enter Tryd.func11, Tryd.ntmps11
        go_wp2_with fail
        refine (refUses_any st _).mono ?_
        rintro e wx ⟨rfl, rfl⟩
        rw [GU1.out]
        rw [GU2.out]
        go_wp2_with fail
        go_ret
        exact ⟨ret_bool F.out.symm, HB0.out⟩
      have b2 : decide (12 ≤ ot) = false := by rw [decide_eq_false_iff_not]; exact hb2
      by_cases hc2 : ot = en
      · have c2 : (ot == en) = true := by rw [hc2]; simp
        have F : Hid (validC ⟨st, en, ot, pe⟩ = false) := by
          show _ = _
          exact v_eq (c := ⟨st, en, ot, pe⟩) GU2.out hc2.symm
        clear gu2 hc2
        go_enter Tryd.func11, Tryd.ntmps11
        go_wp2_with fail
        refine (refUses_any st _).mono ?_
        rintro e wx ⟨rfl, rfl⟩
        rw [GU1.out]
        rw [GU2.out]
        go_wp2_with fail
        go_ret
        exact ⟨ret_bool F.out.symm, HB0.out⟩
      have c2 : (ot == en) = false := by rw [beq_eq_false_iff_ne]; exact hc2
      have GI2 : Hid (inB (uO st) ot 12 = true) := by show _ = _; rw [GU2.out]; exact i_ok (by omega) (by omega)
      have GI4 : Hid (uO st = true → en ≠ ot) := fun _ h => hc2 h.symm
      clear gu2 ha2 hb2 hc2
      cases gu3 : uP st
      · have GU3 := Lib.hid gu3
        by_cases hx3 : pe = -1
        · have e3 : (pe == -1) = true := by rw [hx3]; rfl
          have F : Hid (validC ⟨st, en, ot, pe⟩ = true) := by
            show _ = _
            exact v_ok GK.out GI1.out GI2.out (by show inB (uP st) pe 120 = true; rw [GU3.out, hx3]; rfl) GI4.out
          clear gu3 hx3
          go_enter Tryd.func11, Tryd.ntmps11
          go_wp2_with fail
          refine (refUses_any st _).mono ?_
          rintro e wx ⟨rfl, rfl⟩
          rw [GU1.out]
          rw [GU2.out]
          rw [GU3.out]
          go_wp2_with fail
          go_ret
          exact ⟨ret_bool F.out.symm, HB0.out⟩
        · have e3 : (pe == -1) = false := by rw [beq_eq_false_iff_ne]; exact hx3
          have F : Hid (validC ⟨st, en, ot, pe⟩ = false) := by
            show _ = _
            exact v_pe (by show inB (uP st) pe 120 = false; rw [GU3.out]; exact i_un hx3)
          clear gu3 hx3
          go_enter Tryd.func11, Tryd.ntmps11
          go_wp2_with fail
          refine (refUses_any st _).mono ?_
          rintro e wx ⟨rfl, rfl⟩
          rw [GU1.out]
          rw [GU2.out]
          rw [GU3.out]
          go_wp2_with fail
          go_ret
          exact ⟨ret_bool F.out.symm, HB0.out⟩
      · have GU3 := Lib.hid gu3
        by_cases ha3 : pe < 0
        · have a3 : decide (0 ≤ pe) = false := by rw [decide_eq_false_iff_not]; omega
          have F : Hid (validC ⟨st, en, ot, pe⟩ = false) := by
            show _ = _
            exact v_pe (by show inB (uP st) pe 120 = false; rw [GU3.out]; exact i_lt ha3)
          clear gu3
          go_enter Tryd.func11, Tryd.ntmps11
          go_wp2_with fail
          refine (refUses_any st _).mono ?_
          rintro e wx ⟨rfl, rfl⟩
          rw [GU1.out]
          rw [GU2.out]
          rw [GU3.out]
          go_wp2_with fail
          go_ret
          exact ⟨ret_bool F.out.symm, HB0.out⟩
        have a3 : decide (0 ≤ pe) = true := by rw [decide_eq_true_eq]; omega
        by_cases hb3 : 120 ≤ pe
        · have b3 : decide (pe < 120) = false := by rw [decide_eq_false_iff_not]; omega
          have F : Hid (validC ⟨st, en, ot, pe⟩ = false) := by
            show _ = _
            exact v_pe (by show inB (uP st) pe 120 = false; rw [GU3.out]; exact i_ge hb3)
          clear gu3
          go_enter Tryd.func11, Tryd.ntmps11
          go_wp2_with fail
          refine (refUses_any st _).mono ?_
          rintro e wx ⟨rfl, rfl⟩
          rw [GU1.out]
          rw [GU2.out]
          rw [GU3.out]
          go_wp2_with fail
          go_ret
          exact ⟨ret_bool F.out.symm, HB0.out⟩
        have b3 : decide (pe < 120) = true := by rw [decide_eq_true_eq]; omega
        have F : Hid (validC ⟨st, en, ot, pe⟩ = true) := by
          show _ = _
          exact v_ok GK.out GI1.out GI2.out (by show inB (uP st) pe 120 = true; rw [GU3.out]; exact i_ok (by omega) (by omega)) GI4.out
        clear gu3
        go_enter Tryd.func11, Tryd.ntmps11
        go_wp2_with fail
        refine (refUses_any st _).mono ?_
        rintro e wx ⟨rfl, rfl⟩
        rw [GU1.out]
        rw [GU2.out]
        rw [GU3.out]
        go_wp2_with fail
        go_ret
        exact ⟨ret_bool F.out.symm, HB0.out⟩
end Go.Proofs.YtophffmofpmbpaaDoor
