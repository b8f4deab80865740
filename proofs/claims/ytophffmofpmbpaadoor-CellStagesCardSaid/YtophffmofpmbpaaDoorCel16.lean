/-
  The law CellStages.
-/
import Derived.Test.YtophffmofpmbpaaDoorCel12
import Derived.Deep.RegionHeld3
import Derived.Deep.MidRow
namespace Go.Proofs.YtophffmofpmbpaaDoor
open Go.RowKit
set_option linter.unusedVariables false
theorem stOf_nmS {s : Int} (h : known s = true) : ((stOf (nmS s) : Nat) : Int) = s ∧ decide (1 ≤ stOf (nmS s)) = true := by
  obtain ⟨k, rfl, h1, h2, _, _, _, e⟩ := uses_flags h
  rw [e, stOf_at h1 h2 rfl]
  exact ⟨rfl, by rw [decide_eq_true_eq]; exact h1⟩
theorem stOf_nmS0 {s : Int} (h : known s = false) : stOf (nmS s) = 0 := by
  rw [(uses_no h).2.2.2]
  exact stOf_no fun k h1 h2 => nm_ne ⟨k, by omega⟩ h1
set_option maxRecDepth 100000 in
set_option maxHeartbeats 8000000 in
theorem stages_core (s : Int) (l : List UInt8) (K : Int) (H B b1 b6 b22 : Bool) (w : World) (hE : Env w) (hEE : EnvE w) (hl : l.length ≤ 100)
    (hc : (b1 = false ∧ B = false ∧ H = false) ∨ (b1 = true ∧ b6 = true ∧ b22 = true ∧ B = true ∧ H = true ∧ K = s) ∨ (b1 = true ∧ b6 = false ∧ b22 = true ∧ B = false ∧ H = true ∧ K = s) ∨ (b1 = true ∧ b6 = false ∧ b22 = false ∧ B = false ∧ H = false))
    (g1 : decide (1 ≤ s) = b1) (g6 : decide (s ≤ 6) = b6) (g22 : decide (s ≤ 22) = b22)
    (HIN : Hid (∀ w, Calls Tryd.prog 24 #[.int .i64 s] w fun e w' => e = .returned (.bool B) ∧ w = w'))
    (HKS : Hid (∀ w, Calls Tryd.prog 20 #[.string ⟨(nmS s).toArray⟩] w fun e w' => e = .returned (.tuple #[.int .i64 K, .bool H]) ∧ Below w.heap.size w w')) :
    Calls Tryd.prog 6 #[.int .i64 s, .string ⟨l.toArray⟩] w fun e w' => e = .returned (.bool true) ∧ Below w.heap.size w w' := by
  have HN1 : Hid (∀ w, Calls Tryd.prog 22 #[.int .i64 s] w fun e w' => e = .returned (.string ⟨(nmS s).toArray⟩) ∧ Below w.heap.size w w') := name_any s
  have HN2 : Hid (∀ w, Calls Tryd.prog 23 #[.int .i64 s] w fun e w' => e = .returned (.string ⟨(nmS s).toArray⟩) ∧ Below w.heap.size w w') := refName_any s
  have HU1 : Hid (∀ w, Calls Tryd.prog 18 #[.int .i64 s] w fun e w' => e = .returned (.tuple #[.bool (uE s), .bool (uO s), .bool (uP s)]) ∧ Below w.heap.size w w') := uses_any s
  have HU2 : Hid (∀ w, Calls Tryd.prog 19 #[.int .i64 s] w fun e w' => e = .returned (.tuple #[.bool (uE s), .bool (uO s), .bool (uP s)]) ∧ w = w') := refUses_any s
  have HS1 : Hid (∀ w, Calls Tryd.prog 20 #[.string ⟨l.toArray⟩] w fun e w' => e = .returned (.tuple #[.int .i64 (stOf l), .bool (decide (1 ≤ stOf l))]) ∧ Below w.heap.size w w') := stage_any l
  have HS2 : Hid (∀ w, Calls Tryd.prog 21 #[.string ⟨l.toArray⟩] w fun e w' => e = .returned (.tuple #[.int .i64 (stOf l), .bool (decide (1 ≤ stOf l))]) ∧ Below w.heap.size w w') := refStage_any l
  have hln : decide ((100 : Int) < (l.length : Int)) = false := by rw [decide_eq_false_iff_not]; omega
  generalize nmS s = N at *
  generalize uE s = A1 at *
  generalize uO s = A2 at *
  generalize uP s = A3 at *
  generalize decide (1 ≤ stOf l) = C at *
  generalize ((stOf l : Nat) : Int) = M at *
  have q1 : (N == N) = true := by simp
  have q2 : (N != N) = false := by simp
  have q3 : (A1 != A1) = false := by simp
  have q4 : (A2 != A2) = false := by simp
  have q5 : (A3 != A3) = false := by simp
  have q6 : (C != C) = false := by simp
  have q7 : (M != M) = false := by simp
  have q8 : (s == s) = true := by simp
  rcases hc with ⟨rfl, rfl, rfl⟩ | ⟨rfl, rfl, rfl, rfl, rfl, rfl⟩ | ⟨rfl, rfl, rfl, rfl, rfl, rfl⟩ | ⟨rfl, rfl, rfl, rfl, rfl⟩
  all_goals
    go_enter Tryd.func6, Tryd.ntmps6
    go_wp2_with fail
    refine (awake_true _ hE hEE).mono ?_
    rintro e w1 ⟨rfl, hb1⟩
    have HB1 := Lib.hid hb1
    clear hb1
    go_wp2_with fail
    refine (HU1.out _).mono ?_
    rintro e w2 ⟨rfl, hb2⟩
    have HB2 := Lib.hid (below_two HB1.out hb2)
    clear hb2
    go_wp2_with fail
    refine (HU2.out _).mono ?_
    rintro e w2' ⟨rfl, rfl⟩
    go_wp2_with fail
    refine (HS1.out _).mono ?_
    rintro e w3 ⟨rfl, hb3⟩
    have HB3 := Lib.hid (below_two HB2.out hb3)
    clear hb3
    go_wp2_with fail
    refine (HS2.out _).mono ?_
    rintro e w4 ⟨rfl, hb4⟩
    have HB4 := Lib.hid (below_two HB3.out hb4)
    clear hb4
    go_wp2_with fail
    refine (HN1.out _).mono ?_
    rintro e w5 ⟨rfl, hb5⟩
    have HB5 := Lib.hid (below_two HB4.out hb5)
    clear hb5
    go_wp2_with fail
    refine (HN2.out _).mono ?_
    rintro e w6 ⟨rfl, hb6⟩
    have HB6 := Lib.hid (below_two HB5.out hb6)
    clear hb6
    go_wp2_with fail
    refine (HIN.out _).mono ?_
    rintro e w6' ⟨rfl, rfl⟩
    go_wp2_with fail
    refine (HN1.out _).mono ?_
    rintro e w7 ⟨rfl, hb7⟩
    have HB7 := Lib.hid (below_two HB6.out hb7)
    clear hb7
    go_wp2_with fail
    refine (HKS.out _).mono ?_
    rintro e w8 ⟨rfl, hb8⟩
    have HB8 := Lib.hid (below_two HB7.out hb8)
    clear hb8
    go_wp2_with fail
    go_ret
    exact ⟨rfl, HB8.out⟩
set_option maxRecDepth 100000 in
set_option maxHeartbeats 2000000 in
theorem lawStages (s : Int) (n0 : ByteArray) (w : World) (hE : Env w) (hEE : EnvE w) (hn : n0.size ≤ 9223372036854775807) : Calls Tryd.prog 6 #[.int .i64 s, .string n0] w fun e w' => e = .returned (.bool true) ∧ Below w.heap.size w w' := by
  obtain ⟨l, rfl⟩ : ∃ l : List UInt8, n0 = ⟨l.toArray⟩ := ⟨n0.data.toList, rfl⟩
  by_cases hl : l.length ≤ 100
  · have hin : ∀ B, (decide (1 ≤ s) && decide (s ≤ 6)) = B → Hid (∀ w, Calls Tryd.prog 24 #[.int .i64 s] w fun e w' => e = .returned (.bool B) ∧ w = w') := by
      rintro B rfl
      exact input_any s
    cases hk : known s
    · have e0 := stOf_nmS0 hk
      have hks : Hid (∀ w, Calls Tryd.prog 20 #[.string ⟨(nmS s).toArray⟩] w fun e w' => e = .returned (.tuple #[.int .i64 0, .bool false]) ∧ Below w.heap.size w w') := fun w => by
        have := stage_any (nmS s) w
        unfold StSays at this
        rw [e0] at this
        exact this
      rcases known_no.1 hk with g | g
      · have g1 : decide (1 ≤ s) = false := by rw [decide_eq_false_iff_not]; omega
        exact stages_core s l 0 false false _ _ _ w hE hEE hl (.inl ⟨g1, rfl, rfl⟩) rfl rfl rfl (hin _ (by rw [g1]; rfl)) hks
      · have g1 : decide (1 ≤ s) = true := by rw [decide_eq_true_eq]; omega
        have g2 : decide (s ≤ 6) = false := by rw [decide_eq_false_iff_not]; omega
        have g3 : decide (s ≤ 22) = false := by rw [decide_eq_false_iff_not]; omega
        exact stages_core s l 0 false false _ _ _ w hE hEE hl (.inr (.inr (.inr ⟨g1, g2, g3, rfl, rfl⟩))) rfl rfl rfl (hin _ (by rw [g1, g2]; rfl)) hks
    · obtain ⟨e1, e2⟩ := stOf_nmS hk
      have hks : Hid (∀ w, Calls Tryd.prog 20 #[.string ⟨(nmS s).toArray⟩] w fun e w' => e = .returned (.tuple #[.int .i64 s, .bool true]) ∧ Below w.heap.size w w') := fun w => by
        have := stage_any (nmS s) w
        unfold StSays at this
        rw [e1, e2] at this
        exact this
      have := known_iff.1 hk
      have g1 : decide (1 ≤ s) = true := by rw [decide_eq_true_eq]; omega
      have g3 : decide (s ≤ 22) = true := by rw [decide_eq_true_eq]; omega
      by_cases h6 : s ≤ 6
      · have g2 : decide (s ≤ 6) = true := by rw [decide_eq_true_eq]; omega
        exact stages_core s l s true true _ _ _ w hE hEE hl (.inr (.inl ⟨g1, g2, g3, rfl, rfl, rfl⟩)) rfl rfl rfl (hin _ (by rw [g1, g2]; rfl)) hks
      · have g2 : decide (s ≤ 6) = false := by rw [decide_eq_false_iff_not]; omega
        exact stages_core s l s true false _ _ _ w hE hEE hl (.inr (.inr (.inl ⟨g1, g2, g3, rfl, rfl, rfl⟩))) rfl rfl rfl (hin _ (by rw [g1, g2]; rfl)) hks
  · have hln : decide ((100 : Int) < (l.length : Int)) = true := by rw [decide_eq_true_eq]; omega
    go_enter Tryd.func6, Tryd.ntmps6
    go_wp2_with fail
    refine (awake_true _ hE hEE).mono ?_
    rintro e w1 ⟨rfl, hb1⟩
    go_wp2_with fail
    go_ret
    exact ⟨rfl, hb1⟩
end Go.Proofs.YtophffmofpmbpaaDoor
