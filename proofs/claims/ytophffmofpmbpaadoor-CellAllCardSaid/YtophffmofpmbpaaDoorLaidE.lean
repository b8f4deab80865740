/-
  What the two errors of strconv hold, out of the row's list.
-/
import Derived.Test.YtophffmofpmbpaaDoorLaid
import Derived.WideKeyArgs
import Derived.WideKeyElems4
import Derived.Stop.JoinedAt
import Derived.Stop.ErrReads
import Derived.Stop.LaidErr
namespace Go.Proofs.YtophffmofpmbpaaDoor
open Go.RowKit Go.ChangeShapes Go.WideShapes Go.ChangeAt Go.Kit
open Go.Extern.Stop Go.Stop Go.Extern
set_option maxRecDepth 100000
theorem starName : "*" ++ "errors.errorString" = "*errors.errorString" := by decide
theorem rowErr (u : TypeId) (h : Tryd.prog.typeName? 3 u = some "*errors.errorString") : u = 111 :=
  typeName_ptr_named (nm := "errors.errorString") (by rw [starName]; kernel_rfl) (by kernel_rfl) (by decide) u (by rw [starName]; exact h)
theorem tSyn : (Tryd.prog.globals[2]?).map (·.type) = some 66 := by kernel_rfl
theorem tRange : (Tryd.prog.globals[3]?).map (·.type) = some 66 := by kernel_rfl
theorem cErrS : Tryd.prog.cellsOf 113 = 1 := by kernel_rfl
theorem cString : Tryd.prog.cellsOf 9 = 1 := by kernel_rfl
theorem sentSyn {W : World} {rest : List (String × DataW Unit)} (h : laidMet Tryd.prog (("strconv.ErrSyntax", Rows.laid_strconv_ErrSyntax) :: rest) W) : ∃ tp p, W.var? Tryd.prog "strconv.ErrSyntax" = some #[.iface tp p] := by
  obtain ⟨a1, s1, hv1, _, _, _⟩ := laid_sentinel h gSyn tSyn Tryd.underlying66 rowErr Tryd.underlying111 Tryd.underlying113 rfl rfl Tryd.underlying9 cErrS cString
  exact ⟨_, _, hv1⟩
theorem sentRange {W : World} {rest : List (String × DataW Unit)} (h : laidMet Tryd.prog (("strconv.ErrRange", Rows.laid_strconv_ErrRange) :: rest) W) : ∃ tp p, W.var? Tryd.prog "strconv.ErrRange" = some #[.iface tp p] := by
  obtain ⟨a1, s1, hv1, _, _, _⟩ := laid_sentinel h gRange tRange Tryd.underlying66 rowErr Tryd.underlying111 Tryd.underlying113 rfl rfl Tryd.underlying9 cErrS cString
  exact ⟨_, _, hv1⟩
end Go.Proofs.YtophffmofpmbpaaDoor
