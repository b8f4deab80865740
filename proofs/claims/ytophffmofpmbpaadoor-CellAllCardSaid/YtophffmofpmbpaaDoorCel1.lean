/-
  The stages: the program's table.
-/
import Derived.Test.YtophffmofpmbpaaDoorCelPl
import Derived.Test.YtophffmofpmbpaaDoorKit
import Derived.Test.YtophffmofpmbpaaDoorOwn2
import Derived.LoopTactic
import Derived.WalkSpells
import Derived.WalkLawsBesides
import Derived.Deep.QuietTactic
import Derived.BigQuiet
import Derived.Deep.WholeRow
import Derived.Laws.Rows
import Derived.Outline
namespace Go.Proofs.YtophffmofpmbpaaDoor
open Go.RowKit
set_option linter.unusedVariables false
theorem ret_bool' {a b : Bool} (h : a = b) : Ending.returned (.bool a) = .returned (.bool b) := by rw [h]
theorem known_any (s : Int) (w : World) : Calls Tryd.prog 30 #[.int .i64 s] w fun e w' => e = .returned (.bool (known s)) ∧ w = w' := by
  cases h : known s
  · rcases known_no.1 h with g | g
    · clear h
      have g1 : decide (1 ≤ s) = false := by rw [decide_eq_false_iff_not]; omega
      go_enter Tryd.func30, Tryd.ntmps30
      go_wp2_with fail
      go_ret
      exact ⟨rfl, rfl⟩
    · clear h
      have g1 : decide (1 ≤ s) = true := by rw [decide_eq_true_eq]; omega
      have g2 : decide (s ≤ 22) = false := by rw [decide_eq_false_iff_not]; omega
      go_enter Tryd.func30, Tryd.ntmps30
      go_wp2_with fail
      go_ret
      exact ⟨rfl, rfl⟩
  · obtain ⟨a, b⟩ := known_iff.1 h
    have g1 : decide (1 ≤ s) = true := by rw [decide_eq_true_eq]; omega
    have g2 : decide (s ≤ 22) = true := by rw [decide_eq_true_eq]; omega
    clear h
    go_enter Tryd.func30, Tryd.ntmps30
    go_wp2_with fail
    go_ret
    exact ⟨rfl, rfl⟩
def stArr : Array Value := #[.string ⟨#[]⟩, .bool false, .bool false, .bool false, .string ⟨#[101, 110, 116, 114, 105, 101, 115]⟩, .bool true, .bool false, .bool false, .string ⟨#[114, 97, 116, 101, 115]⟩, .bool false, .bool false, .bool false, .string ⟨#[104, 111, 108, 100, 105, 110, 103, 115]⟩, .bool false, .bool false, .bool false, .string ⟨#[109, 97, 116, 99, 104, 101, 115]⟩, .bool false, .bool false, .bool false, .string ⟨#[115, 116, 111, 99, 107, 115]⟩, .bool false, .bool false, .bool true, .string ⟨#[114, 117, 108, 101, 115]⟩, .bool false, .bool false, .bool false, .string ⟨#[105, 116, 101, 109, 115]⟩, .bool true, .bool false, .bool true, .string ⟨#[115, 99, 111, 112, 101]⟩, .bool true, .bool false, .bool false, .string ⟨#[115, 104, 97, 114, 101, 115]⟩, .bool false, .bool false, .bool true, .string ⟨#[99, 111, 110, 116, 114, 105, 98, 117, 116, 105, 111, 110]⟩, .bool true, .bool false, .bool true, .string ⟨#[114, 101, 115, 101, 114, 118, 101]⟩, .bool true, .bool false, .bool true, .string ⟨#[100, 105, 115, 112, 111, 115, 97, 108]⟩, .bool true, .bool false, .bool true, .string ⟨#[105, 110, 116, 101, 114, 99, 111]⟩, .bool false, .bool false, .bool true, .string ⟨#[99, 97, 112, 105, 116, 97, 108]⟩, .bool true, .bool false, .bool true, .string ⟨#[115, 116, 101, 112]⟩, .bool true, .bool false, .bool true, .string ⟨#[109, 105, 110, 111, 114, 105, 116, 121]⟩, .bool true, .bool false, .bool true, .string ⟨#[97, 115, 115, 111, 99, 105, 97, 116, 101]⟩, .bool true, .bool false, .bool true, .string ⟨#[105, 110, 118, 101, 110, 116, 111, 114, 121]⟩, .bool true, .bool true, .bool true, .string ⟨#[100, 105, 118, 105, 100, 101, 110, 100]⟩, .bool true, .bool true, .bool true, .string ⟨#[101, 120, 101, 99, 117, 116, 101]⟩, .bool false, .bool false, .bool true, .string ⟨#[116, 111, 116, 97, 108, 115]⟩, .bool false, .bool false, .bool true, .string ⟨#[114, 101, 115, 117, 108, 116]⟩, .bool false, .bool false, .bool true]
def stRow (k : Nat) : Array Value := #[.string ⟨(nmL.getD k []).toArray⟩, .bool (eL.getD k false), .bool (oL.getD k false), .bool (pL.getD k false)]
theorem info_st : (Tryd.prog.info? 56).map (fun i => (i.zero, i.size)) = some (some (.agg #[.string ⟨#[]⟩, .bool false, .bool false, .bool false]), 4) := by kernel_rfl
theorem info_sts : (Tryd.prog.info? 57).map (fun i => (i.zero, i.size)) = some (some (.agg (Array.replicate 23 #[Value.string ⟨#[]⟩, .bool false, .bool false, .bool false]).flatten), 92) := by kernel_rfl
set_option maxRecDepth 100000 in
theorem run_build_st (w : World) : (Instr.build 57 #[(1, .agg #[.string ⟨#[101, 110, 116, 114, 105, 101, 115]⟩, .bool true, .bool false, .bool false]), (2, .agg #[.string ⟨#[114, 97, 116, 101, 115]⟩, .bool false, .bool false, .bool false]), (3, .agg #[.string ⟨#[104, 111, 108, 100, 105, 110, 103, 115]⟩, .bool false, .bool false, .bool false]), (4, .agg #[.string ⟨#[109, 97, 116, 99, 104, 101, 115]⟩, .bool false, .bool false, .bool false]), (5, .agg #[.string ⟨#[115, 116, 111, 99, 107, 115]⟩, .bool false, .bool false, .bool true]), (6, .agg #[.string ⟨#[114, 117, 108, 101, 115]⟩, .bool false, .bool false, .bool false]), (7, .agg #[.string ⟨#[105, 116, 101, 109, 115]⟩, .bool true, .bool false, .bool true]), (8, .agg #[.string ⟨#[115, 99, 111, 112, 101]⟩, .bool true, .bool false, .bool false]), (9, .agg #[.string ⟨#[115, 104, 97, 114, 101, 115]⟩, .bool false, .bool false, .bool true]), (10, .agg #[.string ⟨#[99, 111, 110, 116, 114, 105, 98, 117, 116, 105, 111, 110]⟩, .bool true, .bool false, .bool true]), (11, .agg #[.string ⟨#[114, 101, 115, 101, 114, 118, 101]⟩, .bool true, .bool false, .bool true]), (12, .agg #[.string ⟨#[100, 105, 115, 112, 111, 115, 97, 108]⟩, .bool true, .bool false, .bool true]), (13, .agg #[.string ⟨#[105, 110, 116, 101, 114, 99, 111]⟩, .bool false, .bool false, .bool true]), (14, .agg #[.string ⟨#[99, 97, 112, 105, 116, 97, 108]⟩, .bool true, .bool false, .bool true]), (15, .agg #[.string ⟨#[115, 116, 101, 112]⟩, .bool true, .bool false, .bool true]), (16, .agg #[.string ⟨#[109, 105, 110, 111, 114, 105, 116, 121]⟩, .bool true, .bool false, .bool true]), (17, .agg #[.string ⟨#[97, 115, 115, 111, 99, 105, 97, 116, 101]⟩, .bool true, .bool false, .bool true]), (18, .agg #[.string ⟨#[105, 110, 118, 101, 110, 116, 111, 114, 121]⟩, .bool true, .bool true, .bool true]), (19, .agg #[.string ⟨#[100, 105, 118, 105, 100, 101, 110, 100]⟩, .bool true, .bool true, .bool true]), (20, .agg #[.string ⟨#[101, 120, 101, 99, 117, 116, 101]⟩, .bool false, .bool false, .bool true]), (21, .agg #[.string ⟨#[116, 111, 116, 97, 108, 115]⟩, .bool false, .bool false, .bool true]), (22, .agg #[.string ⟨#[114, 101, 115, 117, 108, 116]⟩, .bool false, .bool false, .bool true])]).run Tryd.prog w = .ok (.agg stArr) w := by kernel_rfl
theorem sts_size : (Tryd.prog.info? 57).map (·.size) = some stArr.size := by kernel_rfl
theorem sts_zero : Tryd.zeroCells57.size = stArr.size := by kernel_rfl
theorem sts_one : stArr.all (·.oneCell') = true := by kernel_rfl
theorem wp_build_ {P : Program} {o : Oper} {a : Act} {w : World} {K : Act → World → Prop} {Q : Exit → Act → World → Prop} (t : TypeId) (parts : Array (Nat × Operand)) (ho : o.op = .build t parts) (vals : Array (Nat × Value)) (hp : (parts.map fun x => (x.1, a.eval x.2)) = vals) (v : Value) (hrun : (Instr.build t vals).run P w = .ok v w) (h : K (a.put o.dst v) w) : o.wp P a w K Q := by
  unfold Oper.wp execOp
  simp only [ho, hp, Sem.run_bind, Sem.run_pure, Result.andThen_ok, hrun]
  exact h
theorem wpList_build_ {P : Program} {ops : Array Oper} {rest : List Oper} {o : Oper} {a : Act} {w : World} {Q : Exit → Act → World → Prop} (hgd : o.guard = none) (t : TypeId) (parts : Array (Nat × Operand)) (ho : o.op = .build t parts) (vals : Array (Nat × Value)) (hp : (parts.map fun x => (x.1, a.eval x.2)) = vals) (v : Value) (hrun : (Instr.build t vals).run P w = .ok v w) (h : wpList P ops Q rest (a.put o.dst v) w) : wpList P ops Q (o :: rest) a w :=
  wpList_plain hgd fun _ hK => wp_build_ t parts ho vals hp v hrun (hK _ _ h)
theorem read_stages {w : World} {g : Nat} {tmps : Array Value} (h : Blk w g 57 stArr) (h0 : tmps.getD 0 undef = .pointer (some ⟨g, 0, none⟩)) : (results Tryd.f37 tmps).run Tryd.prog w = .ok (.agg stArr) w :=
  results_cell_row Tryd.results37 tmps w g 57 stArr (0, 0) _ h0 h Tryd.underlying57 rfl sts_size
set_option maxRecDepth 100000 in
set_option maxHeartbeats 4000000 in
theorem stages_any (w : World) : Calls Tryd.prog 37 #[] w fun e w' => e = .returned (.agg stArr) ∧ Below w.heap.size w w' := by
  have hs := run_storeCells_new (P := Tryd.prog) w 57 Tryd.zeroCells57 stArr sts_size sts_zero sts_one
  have hs2 := run_storeAt_new (P := Tryd.prog) w 57 Tryd.zeroCells57 stArr sts_size sts_zero sts_one
  go_enter Tryd.func37, Tryd.ntmps37
  go_wp2_with ((with_reducible refine wpList_build_ rfl 57 _ rfl _ ?_ (.agg stArr) (run_build_st _) ?_); go_loud (simp only [List.map_toArray, List.map_cons, List.map_nil]; rfl))
  refine bodyPost_ret (read_stages (g := w.heap.size) (Blk.new w _ _) rfl) rfl ⟨rfl, (Below.refl _ _).alloc (Nat.le_refl _) _⟩
theorem run_index_st : ∀ k : Nat, 1 ≤ k → k ≤ 22 → ∀ w : World, (Instr.index 57 (.agg stArr) (.int .i64 (k : Int))).run Tryd.prog w = .ok (.agg (stRow k)) w :=
  cases22 ⟨fun w => by kernel_rfl, fun w => by kernel_rfl, fun w => by kernel_rfl, fun w => by kernel_rfl, fun w => by kernel_rfl, fun w => by kernel_rfl, fun w => by kernel_rfl, fun w => by kernel_rfl, fun w => by kernel_rfl, fun w => by kernel_rfl, fun w => by kernel_rfl, fun w => by kernel_rfl, fun w => by kernel_rfl, fun w => by kernel_rfl, fun w => by kernel_rfl, fun w => by kernel_rfl, fun w => by kernel_rfl, fun w => by kernel_rfl, fun w => by kernel_rfl, fun w => by kernel_rfl, fun w => by kernel_rfl, fun w => by kernel_rfl⟩
theorem run_index_st0 (w : World) : (Instr.index 57 (.agg stArr) (.int .i64 0)).run Tryd.prog w = .ok (.agg (stRow 0)) w := by kernel_rfl
end Go.Proofs.YtophffmofpmbpaaDoor
