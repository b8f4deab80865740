/-
  The reference's Print, Few, awake; the laws StatementPrint and StatementBegins.
-/
import Derived.Test.YtcmmppkmkejniaaGreatDoorSgW6
namespace Go.Proofs.YtcmmppkmkejniaaGreatDoor
open Go.RowKit
set_option linter.unusedVariables false
theorem reads_many (w : World) (cs : Array Value) (T : TypeId) (size n : Nat) (h : cs.size = n * size) : Reads (w.alloc (.cells cs T)) (w.heap.size + 1) size (some ⟨w.heap.size, 0, none⟩) n cs.toList := by
  refine ⟨by simpa using h, fun _ => ⟨_, rfl, Nat.lt_succ_self _, fun j u hj => ?_⟩⟩
  have hb := Blk.new w T cs
  have e : (⟨w.heap.size, 0, none⟩ : Addr).add j = ⟨w.heap.size, j, none⟩ := by unfold Addr.add; split <;> simp_all
  rw [e, hb.cell j, ← hj]
  simp
def awRows : List SRow := [⟨[65, 115, 115, 101, 116, 115], 0, 1, 0, false⟩, ⟨[67, 97, 115, 104], 1, 1000, 1099, false⟩]
theorem aw_text : prS awRows = [48, 32, 34, 65, 115, 115, 101, 116, 115, 34, 10, 49, 32, 34, 67, 97, 115, 104, 34, 32, 49, 48, 48, 48, 46, 46, 49, 48, 57, 57, 10] := by kernel_rfl
theorem aw_err : prE awRows = 0 := by kernel_rfl
set_option maxRecDepth 100000 in
set_option maxHeartbeats 4000000 in
theorem awake_true (w : World) (hE : Env w) : Calls Tryz.prog 6 #[] w fun e w' => e = .returned (.bool true) ∧ Below w.heap.size w w' := by
  have ha := (Below.refl w.heap.size w).alloc (Nat.le_refl _) (.cells #[.string ⟨#[65, 115, 115, 101, 116, 115]⟩, .int .i64 0, .int .i64 1, .int .i64 0, .bool false, .string ⟨#[67, 97, 115, 104]⟩, .int .i64 1, .int .i64 1000, .int .i64 1099, .bool false] 39)
  have HP := Lib.hid (print_any awRows (some ⟨w.heap.size, 0, none⟩) 2 2 (w.heap.size + 1) (w.alloc (.cells #[.string ⟨#[65, 115, 115, 101, 116, 115]⟩, .int .i64 0, .int .i64 1, .int .i64 0, .bool false, .string ⟨#[67, 97, 115, 104]⟩, .int .i64 1, .int .i64 1000, .int .i64 1099, .bool false] 39)) (hE.after ha) (reads_many w _ 39 5 2 rfl) (by simp) (by omega) (by omega) (by
    intro r hr
    unfold awRows at hr
    simp only [List.mem_cons, List.not_mem_nil, or_false] at hr
    rcases hr with rfl | rfl <;> simp))
  have HA := Lib.hid ha
  clear ha
  rw [aw_text, aw_err] at HP
  go_enter Tryz.func6, Tryz.ntmps6
  go_wp2_with fail
  refine HP.out.mono ?_
  rintro e w1 ⟨rfl, hb⟩
  go_wp2_with fail
  go_ret
  exact ⟨rfl, below_two HA.out hb⟩
end Go.Proofs.YtcmmppkmkejniaaGreatDoor
