/-
  awake.
-/
import Derived.Test.YtophffmofpmbpaaDoorCel11
namespace Go.Proofs.YtophffmofpmbpaaDoor
open Go.RowKit
set_option linter.unusedVariables false
def awT : List UInt8 := [100, 105, 118, 105, 100, 101, 110, 100, 32, 49, 32, 48, 32, 55]
theorem aw_valid : validC ⟨19, 1, 0, 7⟩ = true := by kernel_rfl
theorem aw_text : textC ⟨19, 1, 0, 7⟩ = awT := by kernel_rfl
theorem aw_pc : pcR awT = .tuple #[.agg #[.int .i64 19, .int .i64 1, .int .i64 0, .int .i64 7], .int .i64 0] := pcR_yes (pcD_iff.2 ⟨aw_valid, aw_text⟩)
theorem aw_all : (allC 18 3 5).length = 6 := by kernel_rfl
set_option maxRecDepth 100000 in
set_option maxHeartbeats 4000000 in
theorem awake_true (w : World) (hE : Env w) (hEE : EnvE w) : Calls Tryd.prog 9 #[] w fun e w' => e = .returned (.bool true) ∧ Below w.heap.size w w' := by
  have HP : Hid (Calls Tryd.prog 16 #[.string ⟨#[100, 105, 118, 105, 100, 101, 110, 100, 32, 49, 32, 48, 32, 55]⟩] w fun e w' => e = .returned (.tuple #[.agg #[.int .i64 19, .int .i64 1, .int .i64 0, .int .i64 7], .int .i64 0]) ∧ Below w.heap.size w w') := by
    have := parse_any awT w hE hEE hE.size (by decide)
    rw [aw_pc] at this
    exact this
  have HT : Hid (∀ w, Env w → Calls Tryd.prog 12 #[.agg #[.int .i64 19, .int .i64 1, .int .i64 0, .int .i64 7]] w fun e w' => e = .returned (.string ⟨#[100, 105, 118, 105, 100, 101, 110, 100, 32, 49, 32, 48, 32, 55]⟩) ∧ Below w.heap.size w w') := by
    show ∀ _, _
    intro w h
    have := text_any ⟨19, 1, 0, 7⟩ w h
    rw [aw_text] at this
    exact this
  go_enter Tryd.func9, Tryd.ntmps9
  go_wp2_with fail
  refine HP.out.mono ?_
  rintro e w1 ⟨rfl, hb1⟩
  have hk := Blk.new w1 23 #[.int .i64 19, .int .i64 1, .int .i64 0, .int .i64 7]
  have HB1 := Lib.hid (hb1.alloc hb1.size (.cells (#[.int .i64 19, .int .i64 1, .int .i64 0, .int .i64 7] : Array Value) 23))
  clear hb1
  obtain ⟨y0, y1, y2, y3⟩ := st_blk hk
  clear hk
  go_wp2_with fail
  refine (HT.out _ (hE.after HB1.out)).mono ?_
  rintro e w2 ⟨rfl, hb2⟩
  have HB2 := Lib.hid (below_two HB1.out hb2)
  clear hb2
  go_wp2_with fail
  refine (all_any 18 3 5 _).mono ?_
  rintro e w3 ⟨v, rfl, hown, hb3⟩
  rw [aw_all] at hown
  obtain ⟨A1, c1, rfl⟩ := own_slice hown
  clear hown
  have HB3 := Lib.hid (below_two HB2.out hb3)
  go_wp2_with fail
  go_ret
  exact ⟨rfl, HB3.out⟩
end Go.Proofs.YtophffmofpmbpaaDoor
