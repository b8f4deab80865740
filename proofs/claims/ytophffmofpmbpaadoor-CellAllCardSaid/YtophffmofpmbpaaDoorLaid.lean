/-
  From the row's list to what the walks ask of the package-level variables.
-/
import Derived.Test.YtophffmofpmbpaaDoorKit
import Derived.Test.YtophffmofpmbpaaDoorRows
namespace Go.Proofs.YtophffmofpmbpaaDoor
open Go.RowKit
set_option maxRecDepth 100000
theorem tPow : (Tryd.prog.globals[0]?).map (·.type) = some 91 := by kernel_rfl
theorem cPow : Tryd.prog.cellsOf 91 = 20 := by kernel_rfl
theorem cPow1 : Tryd.prog.cellsOf 75 = 1 := by kernel_rfl
theorem tabPow {W : World} {rest : List (String × DataW Unit)} (h : laidMet Tryd.prog (("internal/strconv.uint64pow10", Rows.laid_internal_strconv_uint64pow10) :: rest) W) : Lib.TabIs Tryd.prog W "internal/strconv.uint64pow10" .u64 Lib.pow10Tab :=
  Lib.tabIs_of_head (rest := rest) gPow tPow Tryd.underlying91 Tryd.underlying75 cPow1 cPow (by
    have e : (Rows.laid_internal_strconv_uint64pow10 : DataW Unit) = Lib.tabData .u64 Lib.pow10Tab := by kernel_rfl
    rw [← e]; exact h)
end Go.Proofs.YtophffmofpmbpaaDoor
