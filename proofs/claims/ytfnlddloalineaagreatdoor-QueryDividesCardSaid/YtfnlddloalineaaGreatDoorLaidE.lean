/-
  What the two errors of strconv hold, out of the row's list.
-/
import Derived.Test.YtfnlddloalineaaGreatDoorLaid
import Derived.WideKeyArgs
import Derived.WideKeyElems4
import Derived.Stop.JoinedAt
import Derived.Stop.ErrReads
import Derived.Stop.LaidErr
namespace Go.Proofs.YtfnlddloalineaaGreatDoor
open Go.RowKit Go.ChangeShapes Go.WideShapes Go.ChangeAt Go.Kit
open Go.Extern.Stop Go.Stop Go.Extern
set_option maxRecDepth 100000
theorem starName : "*" ++ "errors.errorString" = "*errors.errorString" := by decide
theorem rowErr (u : TypeId) (h : Tryz.prog.typeName? 3 u = some "*errors.errorString") : u = 251 :=
  typeName_ptr_named (nm := "errors.errorString") (by rw [starName]; kernel_rfl) (by kernel_rfl) (by decide) u (by rw [starName]; exact h)
theorem tSyn : (Tryz.prog.globals[4]?).map (·.type) = some 145 := by kernel_rfl
theorem tRange : (Tryz.prog.globals[5]?).map (·.type) = some 145 := by kernel_rfl
theorem cErrS : Tryz.prog.cellsOf 253 = 1 := by kernel_rfl
theorem cString : Tryz.prog.cellsOf 9 = 1 := by kernel_rfl
theorem sentSyn {W : World} {rest : List (String × DataW Unit)} (h : laidMet Tryz.prog (("strconv.ErrSyntax", Rows.laid_strconv_ErrSyntax) :: rest) W) : ∃ tp p, W.var? Tryz.prog "strconv.ErrSyntax" = some #[.iface tp p] := by
  obtain ⟨a1, s1, hv1, _, _, _⟩ := laid_sentinel h gSyn tSyn Tryz.underlying145 rowErr Tryz.underlying251 Tryz.underlying253 rfl rfl Tryz.underlying9 cErrS cString
  exact ⟨_, _, hv1⟩
theorem sentRange {W : World} {rest : List (String × DataW Unit)} (h : laidMet Tryz.prog (("strconv.ErrRange", Rows.laid_strconv_ErrRange) :: rest) W) : ∃ tp p, W.var? Tryz.prog "strconv.ErrRange" = some #[.iface tp p] := by
  obtain ⟨a1, s1, hv1, _, _, _⟩ := laid_sentinel h gRange tRange Tryz.underlying145 rowErr Tryz.underlying251 Tryz.underlying253 rfl rfl Tryz.underlying9 cErrS cString
  exact ⟨_, _, hv1⟩
end Go.Proofs.YtfnlddloalineaaGreatDoor
