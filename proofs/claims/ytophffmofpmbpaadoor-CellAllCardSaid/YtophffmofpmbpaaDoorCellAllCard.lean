/-
  tallystone/tallystonelaw46.CellAll returns true for every input; each argument reads behind the call as it read before. Conditions: the package-level variables that the row lists hold what the program's text lays (the card ties them).
-/
import Derived.Test.YtophffmofpmbpaaDoorCards
import Derived.Test.YtophffmofpmbpaaDoorTie
import Derived.Test.YtophffmofpmbpaaDoorLaid
import Derived.Test.YtophffmofpmbpaaDoorCel26
import Derived.Test.YtophffmofpmbpaaDoorArr
import Derived.Test.YtophffmofpmbpaaDoorArgCell
import Derived.Test.YtophffmofpmbpaaDoorLaidE
import Derived.Deep.DeepHandedRow
import Derived.Deep.DeepWitnessRowRef
import Derived.Lib.LaidTab
import Derived.Stop.LaidErr
import Derived.LaidMore
import Derived.MakeChecks
import Derived.Lay
namespace Go.Proofs.YtophffmofpmbpaaDoor.lawCellAll
open Go.ChangeShapes Go.WideShapes Go.ChangeAt Go.RowKit
open Go.ChangeMaps (open_string shut_string)
set_option linter.unusedVariables false
set_option maxRecDepth 100000

theorem own : ownKnob Tryd.prog.godebug = none := by kernel_rfl
theorem door_met (os : Os) (args : Array Value) : laidMetH Tryd.prog Rows.cellAllRow.laid ((World.laidAll Tryd.prog os Rows.cellAllRow.laid).forCall (fun _ _ => 0) ⟨#[], args, []⟩).memory :=
  by rw [MakeChecks.laidMetH_plain _ _ _ (by kernel_rfl)]; exact laidMet_laidAll _ (by kernel_rfl) (by kernel_rfl)
theorem env_of {W : World} (hL : laidMetH Tryd.prog Rows.cellAllRow.laid W) (hsh : W.ShapedOpen Tryd.prog) : Env W := by
  rw [MakeChecks.laidMetH_plain _ _ _ (by kernel_rfl)] at hL
  exact ⟨shaped_size hsh, tabPow hL.tail.tail, maxLen_of hsh⟩
theorem enve_of {W : World} (hL : laidMetH Tryd.prog Rows.cellAllRow.laid W) : EnvE W := by
  rw [MakeChecks.laidMetH_plain _ _ _ (by kernel_rfl)] at hL
  exact ⟨sentSyn hL.tail.tail.tail.tail.tail, sentRange hL.tail.tail.tail.tail⟩
/-- WHAT THE WALK GIVES, FOR EVERY ARGUMENT AND EVERY WORLD THAT HOLDS WHAT IS LISTED. -/
theorem contract (H : Type) (enc : TypeId × Value → H) (W : World) (base : Nat) (args : Array Value) (ds gs : List (DataW H)) (before : List MemPlace)
    (hval : ∀ (j : Nat) t v, Tryd.f8.params[j]? = some t → args[j]? = some v → Value.okWide Tryd.prog W .any base t v)
    (hW : DataW.Whole enc Tryd.prog Tryd.f8.params.toList Rows.cellAllSpec.vars false W args.toList ds gs before) (hL : laidMetH Tryd.prog Rows.cellAllRow.laid W) (hsh : W.ShapedOpen Tryd.prog)
    (hsz : (DataW.weightsEach Tryd.prog (Tryd.f8.params.toList ++ (OpenSpec.ofChange Rows.cellAllSpec).bare.plain.varTypes Tryd.prog) (ds ++ gs)).all (· ≤ reachBytes) = true) :
    Calls Tryd.prog 8 args W fun e W' => ∃ v, e = .returned v ∧ Rows.cellAllSpec.post enc Tryd.prog Tryd.f8 false true false false W args v W' := by
  have hE := env_of hL hsh
  have hEE := enve_of hL
  have hW' := hW
  obtain ⟨p, q, hA0, hV, hbe, hfz, hnd⟩ := hW
  have hA : DataW.TrodAll enc Tryd.prog W 0 (fun _ => true) true Tryd.f8.params.toList args.toList ds p := hA0
  rw [Tryd.params8] at hA hval
  have hAk := hA
  obtain ⟨v0, vs0, d0, ds0, p0, q0, hargs, rfl, rfl, h0, r0⟩ := trodAll_cons hA
  obtain ⟨v1, vs1, d1, ds1, p1, q1, rfl, rfl, rfl, h1, r1⟩ := trodAll_cons r0
  obtain ⟨v2, vs2, d2, ds2, p2, q2, rfl, rfl, rfl, h2, r2⟩ := trodAll_cons r1
  obtain ⟨rfl, rfl, rfl⟩ := trodAll_nil r2
  obtain rfl : args = #[v0, v1, v2] := by cases args; simp_all
  obtain ⟨rfl, rfl⟩ := trodVars_none hV
  obtain ⟨a0, rfl, rfl, rfl, w0⟩ := open_int Tryd.underlying3 (hval 0 3 v0 rfl rfl) h0
  have b0 := bounds_i64 w0
  obtain ⟨x1, y1, rfl, wx1, wy1⟩ := open_pair (q := .i64) Tryd.underlying42 Tryd.underlying3 (by kernel_rfl) (by kernel_rfl) (hval 1 42 v1 rfl rfl) h1
  have bx1 := bounds_i64 wx1
  have by1 := bounds_i64 wy1
  obtain ⟨q2, rfl⟩ := open_cell (hval 2 23 v2 rfl rfl) h2
  have hlt : ∀ x ∈ before, x.block < W.heap.size := fun x hx => hW'.lt x hx
  rw [List.append_nil] at hbe
  subst hbe
  clear hA0
  refine (lawAll a0 x1 y1 q2 W hE hEE).mono fun e W' ⟨he, hb⟩ => ?_
  subst he
  refine ⟨_, rfl, post_of_below (pv := []) hW' (fun _ _ _ => trodAll_cons_mk (shut_bool Tryd.underlying4 _) trodAll_mk0)
    (fun sp hsp => trodAll_stays laidOut (fun t ht => ?_) hAk (fun x hx => hb.same (hlt x hx)) (fun x hx => hsp x hx)) (fun _ _ => rfl) (List.append_nil _).symm hb (ok_one (by kernel_rfl) rfl (okWide_bool_mk Tryd.underlying4 _))⟩
  have hall : ([3, 42, 23].all fun u => Tryd.prog.readableRec u && decide (u < Tryd.prog.types.size)) = true := by kernel_rfl
  have := List.all_eq_true.1 hall t (by simpa using ht)
  simpa using this
theorem reads (os : Os) {H : Type} (enc : TypeId × Value → H) : (DataW.whole enc Tryd.prog ((World.laidAll Tryd.prog os Rows.cellAllRow.laid).forCall (fun _ _ => 0) ⟨#[], #[Value.int .i64 0, Value.agg #[.int .i64 0, .int .i64 0], Value.agg #[.int .i64 0, .int .i64 0, .int .i64 0, .int .i64 0]], []⟩).memory Tryd.f8.params.toList Rows.cellAllSpec.vars false #[Value.int .i64 0, Value.agg #[.int .i64 0, .int .i64 0], Value.agg #[.int .i64 0, .int .i64 0, .int .i64 0, .int .i64 0]].toList 8).isSome = true := by kernel_rfl
/-- THE ROW's STEP. -/
theorem lifted (os : Os) (started : os.Started) (H : Type) (enc : TypeId × Value → H) (F : Stop.Interp) :
    ReturnsInHanded {} Tryd.checked os 8 .any ((OpenSpec.ofChange Rows.cellAllSpec).preRow enc Tryd.prog Tryd.f8 Rows.cellAllRow.domain false Rows.cellAllRow.laid) (((OpenSpec.ofChange Rows.cellAllSpec).at F).post enc Tryd.prog Tryd.f8 false true false false) := by
  obtain ⟨x, hx⟩ := Option.isSome_iff_exists.1 (reads os enc)
  refine returnsInHanded_of_row (C := Tryd.checked) (s := OpenSpec.ofChange Rows.cellAllSpec) own started (by kernel_rfl) Tryd.func8
    (witness_row_atRef (enc := enc) (C := Tryd.checked) false (World.laidAll Tryd.prog os Rows.cellAllRow.laid) #[Value.int .i64 0, Value.agg #[.int .i64 0, .int .i64 0], Value.agg #[.int .i64 0, .int .i64 0, .int .i64 0, .int .i64 0]] (World.laidAll_os _ _ _) (by kernel_rfl) (by kernel_rfl) (by kernel_rfl)
      (OpenSpec.preRow_of_cond 8 hx rfl (fun k hk => by cases hk) (by kernel_rfl) (door_met os _))) ?_
  intro W base args ds gs before hval hW _ _ hsz hL hsh _
  exact contract H enc W base args ds gs before hval hW hL hsh hsz
theorem said : Rows.CellAllSaid :=
  OpenClaim.holds_of_cond 8 Tryd.f8 rfl rfl rfl rfl rfl rfl rfl ⟨rfl, rfl, rfl, rfl, rfl⟩ rfl rfl rfl rfl rfl (by kernel_rfl) Tryd.func8 (by kernel_rfl)
    (of_decide_eq_true (by kernel_rfl)) (by unfold Func.isWrapper; first | (rw [if_pos (by decide +kernel)]; kernel_rfl) | (rw [if_neg (by decide +kernel)]; exact ⟨rfl, rfl⟩))
    (fun os started H enc _ F => by rw [OpenClaim.pre_eq_preRow]; exact lifted os started H enc F)
theorem plain (f : FuncId) (fn : Func) (hf : Tryd.pinned.checked.prog.funcNamed "tallystone/tallystonelaw46.CellAll" = some f) (hfn : Tryd.pinned.checked.prog.funcs[f]? = some fn) :
    true = Tryd.pinned.checked.prog.looks [] ∧ ∀ (j : Nat) t, fn.params[j]? = some t → Tryd.pinned.checked.prog.wantsStandIn t = false := by
  obtain rfl : f = 8 := Option.some.inj ((show Tryd.prog.funcNamed "tallystone/tallystonelaw46.CellAll" = some 8 by kernel_rfl).symm.trans hf) |>.symm
  obtain rfl : fn = Tryd.f8 := (Option.some.inj (Tryd.func8.symm.trans hfn)).symm
  refine ⟨by kernel_rfl, fun j t ht => ?_⟩
  rw [Tryd.params8] at ht
  have hm : t ∈ [3, 42, 23] := by simpa using Array.mem_of_getElem? ht
  have hall : ([3, 42, 23].all fun u => !Tryd.prog.wantsStandIn u) = true := by kernel_rfl
  exact (show Tryd.prog.wantsStandIn t = false by simpa using List.all_eq_true.1 hall t hm)
/-- THE CARD -/
theorem card : Rows.CellAllCardSaid :=
  Claim7.holds_tied_plain_at .later [] _ _ _ _ said (fun _ h => by cases h) (by kernel_rfl) (fun _ h => by cases h) cellAll_row_tie rfl ⟨rfl, rfl⟩ (by kernel_rfl) rfl plain (by kernel_rfl)
end Go.Proofs.YtophffmofpmbpaaDoor.lawCellAll
