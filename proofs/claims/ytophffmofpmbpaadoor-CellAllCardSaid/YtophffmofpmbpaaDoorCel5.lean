/-
  Of of both.
-/
import Derived.Test.YtophffmofpmbpaaDoorCel4
namespace Go.Proofs.YtophffmofpmbpaaDoor
open Go.RowKit
set_option linter.unusedVariables false
theorem set_cell {w : World} {g : Nat} {T : TypeId} {a b c d a' b' c' d' : Value} (h : Blk w g T #[a, b, c, d]) : Blk ((((w.setCell ⟨g, 0, none⟩ a').setCell ⟨g, 1, none⟩ b').setCell ⟨g, 2, none⟩ c').setCell ⟨g, 3, none⟩ d') g T #[a', b', c', d'] := by
  have := (((h.set_ 0 a').set_ 1 b').set_ 2 c').set_ 3 d'
  simpa using this
theorem read_of {w : World} {g : Nat} {tmps : Array Value} {a b c d : Value} (h : Blk w g 23 #[a, b, c, d]) (h8 : tmps.getD 8 undef = .pointer (some ⟨g, 0, none⟩)) :
    (results Tryd.f14 tmps).run Tryd.prog w = .ok (.agg #[a, b, c, d]) w :=
  results_cell_row Tryd.results14 tmps w g 23 #[a, b, c, d] (0, 0) _ h8 h Tryd.underlying23 rfl (by kernel_rfl)
theorem read_rof {w : World} {g : Nat} {tmps : Array Value} {a b c d : Value} (h : Blk w g 23 #[a, b, c, d]) (h8 : tmps.getD 8 undef = .pointer (some ⟨g, 0, none⟩)) :
    (results Tryd.f15 tmps).run Tryd.prog w = .ok (.agg #[a, b, c, d]) w :=
  results_cell_row Tryd.results15 tmps w g 23 #[a, b, c, d] (0, 0) _ h8 h Tryd.underlying23 rfl (by kernel_rfl)
set_option maxRecDepth 100000 in
set_option maxHeartbeats 8000000 in
theorem of_any (s e o p : Int) (w : World) : Calls Tryd.prog 14 #[.int .i64 s, .int .i64 e, .int .i64 o, .int .i64 p] w fun e' w' => e' = .returned (cellV (ofC s e o p)) ∧ Below w.heap.size w w' := by
  have HF : Hid (∀ a b c : Bool, uE s = a → uO s = b → uP s = c → ofC s e o p = ⟨s, if a then e else -1, if b then o else -1, if c then p else -1⟩) := fun a b c h1 h2 h3 => by unfold ofC; rw [h1, h2, h3]
  have HZ0 := Lib.hid (Blk.new w 23 #[.int .i64 0, .int .i64 0, .int .i64 0, .int .i64 0])
  have HB0 := Lib.hid ((Below.refl w.heap.size w).alloc (Nat.le_refl _) (.cells (#[.int .i64 0, .int .i64 0, .int .i64 0, .int .i64 0] : Array Value) 23))
  have hkc := Blk.new (w.alloc (.cells (#[.int .i64 0, .int .i64 0, .int .i64 0, .int .i64 0] : Array Value) 23)) 23 #[.int .i64 s, .int .i64 (-1), .int .i64 (-1), .int .i64 (-1)]
  rw [World.size_alloc] at hkc
  have HKC := Lib.hid hkc
  have HZ1 := Lib.hid (HZ0.out.alloc (.cells (#[.int .i64 s, .int .i64 (-1), .int .i64 (-1), .int .i64 (-1)] : Array Value) 23))
  have HB1 := Lib.hid (HB0.out.alloc HB0.out.size (.cells (#[.int .i64 s, .int .i64 (-1), .int .i64 (-1), .int .i64 (-1)] : Array Value) 23))
  have hne : w.heap.size ≠ w.heap.size + 1 := by omega
  have HNE := Lib.hid hne
  have HLE : Hid (w.heap.size ≤ w.heap.size + 1) := Nat.le_succ _
  clear hkc hne
  cases ga : uE s <;> cases gb : uO s <;> cases gc : uP s
  · have F := Lib.hid (HF.out _ _ _ ga gb gc)
    have GA := Lib.hid ga
    have GB := Lib.hid gb
    have GC := Lib.hid gc
    clear ga gb gc HF
    have FV : Hid (cellV (ofC s e o p) = .agg #[.int .i64 s, .int .i64 (-1), .int .i64 (-1), .int .i64 (-1)]) := by show _ = _; rw [F.out]; rfl
    go_enter Tryd.func14, Tryd.ntmps14
    go_wp2_with fail
    refine (uses_any s _).mono ?_
    rintro e' w1 ⟨rfl, hb⟩
    rw [GA.out, GB.out, GC.out]
    have HB2 := Lib.hid (below_two HB1.out hb)
    have hz := HZ1.out.below hb (by simp only [World.size_alloc]; omega)
    have hk := HKC.out.below hb (by simp only [World.size_alloc]; omega)
    have HZ := Lib.hid hz
    obtain ⟨y0, y1, y2, y3⟩ := st_blk hk
    obtain ⟨z0, z1, z2, z3⟩ := st_blk hz
    have fz := hz.frozen
    have fk := hk.frozen
    have HRB := Lib.hid (set_cell (a' := .int .i64 s) (b' := .int .i64 (-1)) (c' := .int .i64 (-1)) (d' := .int .i64 (-1)) HZ.out)
    have HRW := Lib.hid ((((HB2.out.setCell (p := ⟨w.heap.size, 0, none⟩) (Nat.le_refl _) (.int .i64 s)).setCell (p := ⟨w.heap.size, 1, none⟩) (Nat.le_refl _) (.int .i64 (-1))).setCell (p := ⟨w.heap.size, 2, none⟩) (Nat.le_refl _) (.int .i64 (-1))).setCell (p := ⟨w.heap.size, 3, none⟩) (Nat.le_refl _) (.int .i64 (-1)))
    clear hb hz hk
    go_wp2_with fail
    refine bodyPost_ret (read_of (by exact HRB.out) rfl) rfl ⟨by rw [FV.out], by exact HRW.out⟩
  · have F := Lib.hid (HF.out _ _ _ ga gb gc)
    have GA := Lib.hid ga
    have GB := Lib.hid gb
    have GC := Lib.hid gc
    clear ga gb gc HF
    have FV : Hid (cellV (ofC s e o p) = .agg #[.int .i64 s, .int .i64 (-1), .int .i64 (-1), .int .i64 p]) := by show _ = _; rw [F.out]; rfl
    go_enter Tryd.func14, Tryd.ntmps14
    go_wp2_with fail
    refine (uses_any s _).mono ?_
    rintro e' w1 ⟨rfl, hb⟩
    rw [GA.out, GB.out, GC.out]
    have HB2 := Lib.hid (below_two HB1.out hb)
    have hz := HZ1.out.below hb (by simp only [World.size_alloc]; omega)
    have hk := HKC.out.below hb (by simp only [World.size_alloc]; omega)
    have HZ := Lib.hid hz
    obtain ⟨y0, y1, y2, y3⟩ := st_blk hk
    obtain ⟨z0, z1, z2, z3⟩ := st_blk hz
    have fz := hz.frozen
    have fk := hk.frozen
    have HRB := Lib.hid (set_cell (a' := .int .i64 s) (b' := .int .i64 (-1)) (c' := .int .i64 (-1)) (d' := .int .i64 p) (HZ.out.far (p := ⟨w.heap.size + 1, 3, none⟩) HNE.out (.int .i64 p)))
    have HRW := Lib.hid (((((HB2.out.setCell (p := ⟨w.heap.size + 1, 3, none⟩) HLE.out (.int .i64 p)).setCell (p := ⟨w.heap.size, 0, none⟩) (Nat.le_refl _) (.int .i64 s)).setCell (p := ⟨w.heap.size, 1, none⟩) (Nat.le_refl _) (.int .i64 (-1))).setCell (p := ⟨w.heap.size, 2, none⟩) (Nat.le_refl _) (.int .i64 (-1))).setCell (p := ⟨w.heap.size, 3, none⟩) (Nat.le_refl _) (.int .i64 p))
    clear hb hz hk
    go_wp2_with fail
    refine bodyPost_ret (read_of (by exact HRB.out) rfl) rfl ⟨by rw [FV.out], by exact HRW.out⟩
  · have F := Lib.hid (HF.out _ _ _ ga gb gc)
    have GA := Lib.hid ga
    have GB := Lib.hid gb
    have GC := Lib.hid gc
    clear ga gb gc HF
    have FV : Hid (cellV (ofC s e o p) = .agg #[.int .i64 s, .int .i64 (-1), .int .i64 o, .int .i64 (-1)]) := by show _ = _; rw [F.out]; rfl
    go_enter Tryd.func14, Tryd.ntmps14
    go_wp2_with fail
    refine (uses_any s _).mono ?_
    rintro e' w1 ⟨rfl, hb⟩
    rw [GA.out, GB.out, GC.out]
    have HB2 := Lib.hid (below_two HB1.out hb)
    have hz := HZ1.out.below hb (by simp only [World.size_alloc]; omega)
    have hk := HKC.out.below hb (by simp only [World.size_alloc]; omega)
    have HZ := Lib.hid hz
    obtain ⟨y0, y1, y2, y3⟩ := st_blk hk
    obtain ⟨z0, z1, z2, z3⟩ := st_blk hz
    have fz := hz.frozen
    have fk := hk.frozen
    have HRB := Lib.hid (set_cell (a' := .int .i64 s) (b' := .int .i64 (-1)) (c' := .int .i64 o) (d' := .int .i64 (-1)) (HZ.out.far (p := ⟨w.heap.size + 1, 2, none⟩) HNE.out (.int .i64 o)))
    have HRW := Lib.hid (((((HB2.out.setCell (p := ⟨w.heap.size + 1, 2, none⟩) HLE.out (.int .i64 o)).setCell (p := ⟨w.heap.size, 0, none⟩) (Nat.le_refl _) (.int .i64 s)).setCell (p := ⟨w.heap.size, 1, none⟩) (Nat.le_refl _) (.int .i64 (-1))).setCell (p := ⟨w.heap.size, 2, none⟩) (Nat.le_refl _) (.int .i64 o)).setCell (p := ⟨w.heap.size, 3, none⟩) (Nat.le_refl _) (.int .i64 (-1)))
    clear hb hz hk
    go_wp2_with fail
    refine bodyPost_ret (read_of (by exact HRB.out) rfl) rfl ⟨by rw [FV.out], by exact HRW.out⟩
  · have F := Lib.hid (HF.out _ _ _ ga gb gc)
    have GA := Lib.hid ga
    have GB := Lib.hid gb
    have GC := Lib.hid gc
    clear ga gb gc HF
    have FV : Hid (cellV (ofC s e o p) = .agg #[.int .i64 s, .int .i64 (-1), .int .i64 o, .int .i64 p]) := by show _ = _; rw [F.out]; rfl
    go_enter Tryd.func14, Tryd.ntmps14
    go_wp2_with fail
    refine (uses_any s _).mono ?_
    rintro e' w1 ⟨rfl, hb⟩
    rw [GA.out, GB.out, GC.out]
    have HB2 := Lib.hid (below_two HB1.out hb)
    have hz := HZ1.out.below hb (by simp only [World.size_alloc]; omega)
    have hk := HKC.out.below hb (by simp only [World.size_alloc]; omega)
    have HZ := Lib.hid hz
    obtain ⟨y0, y1, y2, y3⟩ := st_blk hk
    obtain ⟨z0, z1, z2, z3⟩ := st_blk hz
    have fz := hz.frozen
    have fk := hk.frozen
    have HRB := Lib.hid (set_cell (a' := .int .i64 s) (b' := .int .i64 (-1)) (c' := .int .i64 o) (d' := .int .i64 p) ((HZ.out.far (p := ⟨w.heap.size + 1, 2, none⟩) HNE.out (.int .i64 o)).far (p := ⟨w.heap.size + 1, 3, none⟩) HNE.out (.int .i64 p)))
    have HRW := Lib.hid ((((((HB2.out.setCell (p := ⟨w.heap.size + 1, 2, none⟩) HLE.out (.int .i64 o)).setCell (p := ⟨w.heap.size + 1, 3, none⟩) HLE.out (.int .i64 p)).setCell (p := ⟨w.heap.size, 0, none⟩) (Nat.le_refl _) (.int .i64 s)).setCell (p := ⟨w.heap.size, 1, none⟩) (Nat.le_refl _) (.int .i64 (-1))).setCell (p := ⟨w.heap.size, 2, none⟩) (Nat.le_refl _) (.int .i64 o)).setCell (p := ⟨w.heap.size, 3, none⟩) (Nat.le_refl _) (.int .i64 p))
    clear hb hz hk
    go_wp2_with fail
    refine bodyPost_ret (read_of (by exact HRB.out) rfl) rfl ⟨by rw [FV.out], by exact HRW.out⟩
  · have F := Lib.hid (HF.out _ _ _ ga gb gc)
    have GA := Lib.hid ga
    have GB := Lib.hid gb
    have GC := Lib.hid gc
    clear ga gb gc HF
    have FV : Hid (cellV (ofC s e o p) = .agg #[.int .i64 s, .int .i64 e, .int .i64 (-1), .int .i64 (-1)]) := by show _ = _; rw [F.out]; rfl
    go_enter Tryd.func14, Tryd.ntmps14
    go_wp2_with fail
    refine (uses_any s _).mono ?_
    rintro e' w1 ⟨rfl, hb⟩
    rw [GA.out, GB.out, GC.out]
    have HB2 := Lib.hid (below_two HB1.out hb)
    have hz := HZ1.out.below hb (by simp only [World.size_alloc]; omega)
    have hk := HKC.out.below hb (by simp only [World.size_alloc]; omega)
    have HZ := Lib.hid hz
    obtain ⟨y0, y1, y2, y3⟩ := st_blk hk
    obtain ⟨z0, z1, z2, z3⟩ := st_blk hz
    have fz := hz.frozen
    have fk := hk.frozen
    have HRB := Lib.hid (set_cell (a' := .int .i64 s) (b' := .int .i64 e) (c' := .int .i64 (-1)) (d' := .int .i64 (-1)) (HZ.out.far (p := ⟨w.heap.size + 1, 1, none⟩) HNE.out (.int .i64 e)))
    have HRW := Lib.hid (((((HB2.out.setCell (p := ⟨w.heap.size + 1, 1, none⟩) HLE.out (.int .i64 e)).setCell (p := ⟨w.heap.size, 0, none⟩) (Nat.le_refl _) (.int .i64 s)).setCell (p := ⟨w.heap.size, 1, none⟩) (Nat.le_refl _) (.int .i64 e)).setCell (p := ⟨w.heap.size, 2, none⟩) (Nat.le_refl _) (.int .i64 (-1))).setCell (p := ⟨w.heap.size, 3, none⟩) (Nat.le_refl _) (.int .i64 (-1)))
    clear hb hz hk
    go_wp2_with fail
    refine bodyPost_ret (read_of (by exact HRB.out) rfl) rfl ⟨by rw [FV.out], by exact HRW.out⟩
  · have F := Lib.hid (HF.out _ _ _ ga gb gc)
    have GA := Lib.hid ga
    have GB := Lib.hid gb
    have GC := Lib.hid gc
    clear ga gb gc HF
    have FV : Hid (cellV (ofC s e o p) = .agg #[.int .i64 s, .int .i64 e, .int .i64 (-1), .int .i64 p]) := by show _ = _; rw [F.out]; rfl
    go_enter Tryd.func14, Tryd.ntmps14
    go_wp2_with fail
    refine (uses_any s _).mono ?_
    rintro e' w1 ⟨rfl, hb⟩
    rw [GA.out, GB.out, GC.out]
    have HB2 := Lib.hid (below_two HB1.out hb)
    have hz := HZ1.out.below hb (by simp only [World.size_alloc]; omega)
    have hk := HKC.out.below hb (by simp only [World.size_alloc]; omega)
    have HZ := Lib.hid hz
    obtain ⟨y0, y1, y2, y3⟩ := st_blk hk
    obtain ⟨z0, z1, z2, z3⟩ := st_blk hz
    have fz := hz.frozen
    have fk := hk.frozen
    have HRB := Lib.hid (set_cell (a' := .int .i64 s) (b' := .int .i64 e) (c' := .int .i64 (-1)) (d' := .int .i64 p) ((HZ.out.far (p := ⟨w.heap.size + 1, 1, none⟩) HNE.out (.int .i64 e)).far (p := ⟨w.heap.size + 1, 3, none⟩) HNE.out (.int .i64 p)))
    have HRW := Lib.hid ((((((HB2.out.setCell (p := ⟨w.heap.size + 1, 1, none⟩) HLE.out (.int .i64 e)).setCell (p := ⟨w.heap.size + 1, 3, none⟩) HLE.out (.int .i64 p)).setCell (p := ⟨w.heap.size, 0, none⟩) (Nat.le_refl _) (.int .i64 s)).setCell (p := ⟨w.heap.size, 1, none⟩) (Nat.le_refl _) (.int .i64 e)).setCell (p := ⟨w.heap.size, 2, none⟩) (Nat.le_refl _) (.int .i64 (-1))).setCell (p := ⟨w.heap.size, 3, none⟩) (Nat.le_refl _) (.int .i64 p))
    clear hb hz hk
    go_wp2_with fail
    refine bodyPost_ret (read_of (by exact HRB.out) rfl) rfl ⟨by rw [FV.out], by exact HRW.out⟩
  · have F := Lib.hid (HF.out _ _ _ ga gb gc)
    have GA := Lib.hid ga
    have GB := Lib.hid gb
    have GC := Lib.hid gc
    clear ga gb gc HF
    have FV : Hid (cellV (ofC s e o p) = .agg #[.int .i64 s, .int .i64 e, .int .i64 o, .int .i64 (-1)]) := by show _ = _; rw [F.out]; rfl
    go_enter Tryd.func14, Tryd.ntmps14
    go_wp2_with fail
    refine (uses_any s _).mono ?_
    rintro e' w1 ⟨rfl, hb⟩
    rw [GA.out, GB.out, GC.out]
    have HB2 := Lib.hid (below_two HB1.out hb)
    have hz := HZ1.out.below hb (by simp only [World.size_alloc]; omega)
    have hk := HKC.out.below hb (by simp only [World.size_alloc]; omega)
    have HZ := Lib.hid hz
    obtain ⟨y0, y1, y2, y3⟩ := st_blk hk
    obtain ⟨z0, z1, z2, z3⟩ := st_blk hz
    have fz := hz.frozen
    have fk := hk.frozen
    have HRB := Lib.hid (set_cell (a' := .int .i64 s) (b' := .int .i64 e) (c' := .int .i64 o) (d' := .int .i64 (-1)) ((HZ.out.far (p := ⟨w.heap.size + 1, 1, none⟩) HNE.out (.int .i64 e)).far (p := ⟨w.heap.size + 1, 2, none⟩) HNE.out (.int .i64 o)))
    have HRW := Lib.hid ((((((HB2.out.setCell (p := ⟨w.heap.size + 1, 1, none⟩) HLE.out (.int .i64 e)).setCell (p := ⟨w.heap.size + 1, 2, none⟩) HLE.out (.int .i64 o)).setCell (p := ⟨w.heap.size, 0, none⟩) (Nat.le_refl _) (.int .i64 s)).setCell (p := ⟨w.heap.size, 1, none⟩) (Nat.le_refl _) (.int .i64 e)).setCell (p := ⟨w.heap.size, 2, none⟩) (Nat.le_refl _) (.int .i64 o)).setCell (p := ⟨w.heap.size, 3, none⟩) (Nat.le_refl _) (.int .i64 (-1)))
    clear hb hz hk
    go_wp2_with fail
    refine bodyPost_ret (read_of (by exact HRB.out) rfl) rfl ⟨by rw [FV.out], by exact HRW.out⟩
  · have F := Lib.hid (HF.out _ _ _ ga gb gc)
    have GA := Lib.hid ga
    have GB := Lib.hid gb
    have GC := Lib.hid gc
    clear ga gb gc HF
    have FV : Hid (cellV (ofC s e o p) = .agg #[.int .i64 s, .int .i64 e, .int .i64 o, .int .i64 p]) := by show _ = _; rw [F.out]; rfl
    go_enter Tryd.func14, Tryd.ntmps14
    go_wp2_with fail
    refine (uses_any s _).mono ?_
    rintro e' w1 ⟨rfl, hb⟩
    rw [GA.out, GB.out, GC.out]
    have HB2 := Lib.hid (below_two HB1.out hb)
    have hz := HZ1.out.below hb (by simp only [World.size_alloc]; omega)
    have hk := HKC.out.below hb (by simp only [World.size_alloc]; omega)
    have HZ := Lib.hid hz
    obtain ⟨y0, y1, y2, y3⟩ := st_blk hk
    obtain ⟨z0, z1, z2, z3⟩ := st_blk hz
    have fz := hz.frozen
    have fk := hk.frozen
    have HRB := Lib.hid (set_cell (a' := .int .i64 s) (b' := .int .i64 e) (c' := .int .i64 o) (d' := .int .i64 p) (((HZ.out.far (p := ⟨w.heap.size + 1, 1, none⟩) HNE.out (.int .i64 e)).far (p := ⟨w.heap.size + 1, 2, none⟩) HNE.out (.int .i64 o)).far (p := ⟨w.heap.size + 1, 3, none⟩) HNE.out (.int .i64 p)))
    have HRW := Lib.hid (((((((HB2.out.setCell (p := ⟨w.heap.size + 1, 1, none⟩) HLE.out (.int .i64 e)).setCell (p := ⟨w.heap.size + 1, 2, none⟩) HLE.out (.int .i64 o)).setCell (p := ⟨w.heap.size + 1, 3, none⟩) HLE.out (.int .i64 p)).setCell (p := ⟨w.heap.size, 0, none⟩) (Nat.le_refl _) (.int .i64 s)).setCell (p := ⟨w.heap.size, 1, none⟩) (Nat.le_refl _) (.int .i64 e)).setCell (p := ⟨w.heap.size, 2, none⟩) (Nat.le_refl _) (.int .i64 o)).setCell (p := ⟨w.heap.size, 3, none⟩) (Nat.le_refl _) (.int .i64 p))
    clear hb hz hk
    go_wp2_with fail
    refine bodyPost_ret (read_of (by exact HRB.out) rfl) rfl ⟨by rw [FV.out], by exact HRW.out⟩
set_option maxRecDepth 100000 in
set_option maxHeartbeats 8000000 in
theorem refOf_any (s e o p : Int) (w : World) : Calls Tryd.prog 15 #[.int .i64 s, .int .i64 e, .int .i64 o, .int .i64 p] w fun e' w' => e' = .returned (cellV (ofC s e o p)) ∧ Below w.heap.size w w' := by
  have HF : Hid (∀ a b c : Bool, uE s = a → uO s = b → uP s = c → ofC s e o p = ⟨s, if a then e else -1, if b then o else -1, if c then p else -1⟩) := fun a b c h1 h2 h3 => by unfold ofC; rw [h1, h2, h3]
  cases ga : uE s <;> cases gb : uO s <;> cases gc : uP s
  · have F := Lib.hid (HF.out _ _ _ ga gb gc)
    have GA := Lib.hid ga
    have GB := Lib.hid gb
    have GC := Lib.hid gc
    clear ga gb gc HF
    have FV : Hid (cellV (ofC s e o p) = .agg #[.int .i64 s, .int .i64 (-1), .int .i64 (-1), .int .i64 (-1)]) := by show _ = _; rw [F.out]; rfl
    go_enter Tryd.func15, Tryd.ntmps15
    go_wp2_with fail
    refine (refUses_any s _).mono ?_
    rintro e' wx ⟨rfl, rfl⟩
    rw [GA.out, GB.out, GC.out]
    go_wp2_with fail
    refine bodyPost_ret (read_rof (by exact (Blk.new w 23 #[.int .i64 s, .int .i64 (-1), .int .i64 (-1), .int .i64 (-1)]).alloc (.cells (#[.int .i64 s, .int .i64 (-1), .int .i64 (-1), .int .i64 (-1)] : Array Value) 23)) rfl) rfl ⟨by rw [FV.out], by exact ((Below.refl w.heap.size w).alloc (Nat.le_refl _) (.cells (#[.int .i64 s, .int .i64 (-1), .int .i64 (-1), .int .i64 (-1)] : Array Value) 23)).alloc (by simp) (.cells (#[.int .i64 s, .int .i64 (-1), .int .i64 (-1), .int .i64 (-1)] : Array Value) 23)⟩
  · have F := Lib.hid (HF.out _ _ _ ga gb gc)
    have GA := Lib.hid ga
    have GB := Lib.hid gb
    have GC := Lib.hid gc
    clear ga gb gc HF
    have FV : Hid (cellV (ofC s e o p) = .agg #[.int .i64 s, .int .i64 (-1), .int .i64 (-1), .int .i64 p]) := by show _ = _; rw [F.out]; rfl
    go_enter Tryd.func15, Tryd.ntmps15
    go_wp2_with fail
    refine (refUses_any s _).mono ?_
    rintro e' wx ⟨rfl, rfl⟩
    rw [GA.out, GB.out, GC.out]
    go_wp2_with fail
    refine bodyPost_ret (read_rof (by exact (Blk.new w 23 #[.int .i64 s, .int .i64 (-1), .int .i64 (-1), .int .i64 p]).alloc (.cells (#[.int .i64 s, .int .i64 (-1), .int .i64 (-1), .int .i64 p] : Array Value) 23)) rfl) rfl ⟨by rw [FV.out], by exact ((Below.refl w.heap.size w).alloc (Nat.le_refl _) (.cells (#[.int .i64 s, .int .i64 (-1), .int .i64 (-1), .int .i64 p] : Array Value) 23)).alloc (by simp) (.cells (#[.int .i64 s, .int .i64 (-1), .int .i64 (-1), .int .i64 p] : Array Value) 23)⟩
  · have F := Lib.hid (HF.out _ _ _ ga gb gc)
    have GA := Lib.hid ga
    have GB := Lib.hid gb
    have GC := Lib.hid gc
    clear ga gb gc HF
    have FV : Hid (cellV (ofC s e o p) = .agg #[.int .i64 s, .int .i64 (-1), .int .i64 o, .int .i64 (-1)]) := by show _ = _; rw [F.out]; rfl
    go_enter Tryd.func15, Tryd.ntmps15
    go_wp2_with fail
    refine (refUses_any s _).mono ?_
    rintro e' wx ⟨rfl, rfl⟩
    rw [GA.out, GB.out, GC.out]
    go_wp2_with fail
    refine bodyPost_ret (read_rof (by exact (Blk.new w 23 #[.int .i64 s, .int .i64 (-1), .int .i64 o, .int .i64 (-1)]).alloc (.cells (#[.int .i64 s, .int .i64 (-1), .int .i64 o, .int .i64 (-1)] : Array Value) 23)) rfl) rfl ⟨by rw [FV.out], by exact ((Below.refl w.heap.size w).alloc (Nat.le_refl _) (.cells (#[.int .i64 s, .int .i64 (-1), .int .i64 o, .int .i64 (-1)] : Array Value) 23)).alloc (by simp) (.cells (#[.int .i64 s, .int .i64 (-1), .int .i64 o, .int .i64 (-1)] : Array Value) 23)⟩
  · have F := Lib.hid (HF.out _ _ _ ga gb gc)
    have GA := Lib.hid ga
    have GB := Lib.hid gb
    have GC := Lib.hid gc
    clear ga gb gc HF
    have FV : Hid (cellV (ofC s e o p) = .agg #[.int .i64 s, .int .i64 (-1), .int .i64 o, .int .i64 p]) := by show _ = _; rw [F.out]; rfl
    go_enter Tryd.func15, Tryd.ntmps15
    go_wp2_with fail
    refine (refUses_any s _).mono ?_
    rintro e' wx ⟨rfl, rfl⟩
    rw [GA.out, GB.out, GC.out]
    go_wp2_with fail
    refine bodyPost_ret (read_rof (by exact (Blk.new w 23 #[.int .i64 s, .int .i64 (-1), .int .i64 o, .int .i64 p]).alloc (.cells (#[.int .i64 s, .int .i64 (-1), .int .i64 o, .int .i64 p] : Array Value) 23)) rfl) rfl ⟨by rw [FV.out], by exact ((Below.refl w.heap.size w).alloc (Nat.le_refl _) (.cells (#[.int .i64 s, .int .i64 (-1), .int .i64 o, .int .i64 p] : Array Value) 23)).alloc (by simp) (.cells (#[.int .i64 s, .int .i64 (-1), .int .i64 o, .int .i64 p] : Array Value) 23)⟩
  · have F := Lib.hid (HF.out _ _ _ ga gb gc)
    have GA := Lib.hid ga
    have GB := Lib.hid gb
    have GC := Lib.hid gc
    clear ga gb gc HF
    have FV : Hid (cellV (ofC s e o p) = .agg #[.int .i64 s, .int .i64 e, .int .i64 (-1), .int .i64 (-1)]) := by show _ = _; rw [F.out]; rfl
    go_enter Tryd.func15, Tryd.ntmps15
    go_wp2_with fail
    refine (refUses_any s _).mono ?_
    rintro e' wx ⟨rfl, rfl⟩
    rw [GA.out, GB.out, GC.out]
    go_wp2_with fail
    refine bodyPost_ret (read_rof (by exact (Blk.new w 23 #[.int .i64 s, .int .i64 e, .int .i64 (-1), .int .i64 (-1)]).alloc (.cells (#[.int .i64 s, .int .i64 e, .int .i64 (-1), .int .i64 (-1)] : Array Value) 23)) rfl) rfl ⟨by rw [FV.out], by exact ((Below.refl w.heap.size w).alloc (Nat.le_refl _) (.cells (#[.int .i64 s, .int .i64 e, .int .i64 (-1), .int .i64 (-1)] : Array Value) 23)).alloc (by simp) (.cells (#[.int .i64 s, .int .i64 e, .int .i64 (-1), .int .i64 (-1)] : Array Value) 23)⟩
  · have F := Lib.hid (HF.out _ _ _ ga gb gc)
    have GA := Lib.hid ga
    have GB := Lib.hid gb
    have GC := Lib.hid gc
    clear ga gb gc HF
    have FV : Hid (cellV (ofC s e o p) = .agg #[.int .i64 s, .int .i64 e, .int .i64 (-1), .int .i64 p]) := by show _ = _; rw [F.out]; rfl
    go_enter Tryd.func15, Tryd.ntmps15
    go_wp2_with fail
    refine (refUses_any s _).mono ?_
    rintro e' wx ⟨rfl, rfl⟩
    rw [GA.out, GB.out, GC.out]
    go_wp2_with fail
    refine bodyPost_ret (read_rof (by exact (Blk.new w 23 #[.int .i64 s, .int .i64 e, .int .i64 (-1), .int .i64 p]).alloc (.cells (#[.int .i64 s, .int .i64 e, .int .i64 (-1), .int .i64 p] : Array Value) 23)) rfl) rfl ⟨by rw [FV.out], by exact ((Below.refl w.heap.size w).alloc (Nat.le_refl _) (.cells (#[.int .i64 s, .int .i64 e, .int .i64 (-1), .int .i64 p] : Array Value) 23)).alloc (by simp) (.cells (#[.int .i64 s, .int .i64 e, .int .i64 (-1), .int .i64 p] : Array Value) 23)⟩
  · have F := Lib.hid (HF.out _ _ _ ga gb gc)
    have GA := Lib.hid ga
    have GB := Lib.hid gb
    have GC := Lib.hid gc
    clear ga gb gc HF
    have FV : Hid (cellV (ofC s e o p) = .agg #[.int .i64 s, .int .i64 e, .int .i64 o, .int .i64 (-1)]) := by show _ = _; rw [F.out]; rfl
    go_enter Tryd.func15, Tryd.ntmps15
    go_wp2_with fail
    refine (refUses_any s _).mono ?_
    rintro e' wx ⟨rfl, rfl⟩
    rw [GA.out, GB.out, GC.out]
    go_wp2_with fail
    refine bodyPost_ret (read_rof (by exact (Blk.new w 23 #[.int .i64 s, .int .i64 e, .int .i64 o, .int .i64 (-1)]).alloc (.cells (#[.int .i64 s, .int .i64 e, .int .i64 o, .int .i64 (-1)] : Array Value) 23)) rfl) rfl ⟨by rw [FV.out], by exact ((Below.refl w.heap.size w).alloc (Nat.le_refl _) (.cells (#[.int .i64 s, .int .i64 e, .int .i64 o, .int .i64 (-1)] : Array Value) 23)).alloc (by simp) (.cells (#[.int .i64 s, .int .i64 e, .int .i64 o, .int .i64 (-1)] : Array Value) 23)⟩
  · have F := Lib.hid (HF.out _ _ _ ga gb gc)
    have GA := Lib.hid ga
    have GB := Lib.hid gb
    have GC := Lib.hid gc
    clear ga gb gc HF
    have FV : Hid (cellV (ofC s e o p) = .agg #[.int .i64 s, .int .i64 e, .int .i64 o, .int .i64 p]) := by show _ = _; rw [F.out]; rfl
    go_enter Tryd.func15, Tryd.ntmps15
    go_wp2_with fail
    refine (refUses_any s _).mono ?_
    rintro e' wx ⟨rfl, rfl⟩
    rw [GA.out, GB.out, GC.out]
    go_wp2_with fail
    refine bodyPost_ret (read_rof (by exact (Blk.new w 23 #[.int .i64 s, .int .i64 e, .int .i64 o, .int .i64 p]).alloc (.cells (#[.int .i64 s, .int .i64 e, .int .i64 o, .int .i64 p] : Array Value) 23)) rfl) rfl ⟨by rw [FV.out], by exact ((Below.refl w.heap.size w).alloc (Nat.le_refl _) (.cells (#[.int .i64 s, .int .i64 e, .int .i64 o, .int .i64 p] : Array Value) 23)).alloc (by simp) (.cells (#[.int .i64 s, .int .i64 e, .int .i64 o, .int .i64 p] : Array Value) 23)⟩
end Go.Proofs.YtophffmofpmbpaaDoor
