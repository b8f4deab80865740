/-
  From the row's list to what the walks ask of the package-level variables.
-/
import Derived.Test.YtenlbjobjnpghaaDoorKit
import Derived.Test.YtenlbjobjnpghaaDoorRows
namespace Go.Proofs.YtenlbjobjnpghaaDoor
open Go.RowKit
set_option maxRecDepth 100000
theorem tPow : (Tryd.prog.globals[1]?).map (·.type) = some 128 := by kernel_rfl
theorem cPow : Tryd.prog.cellsOf 128 = 20 := by kernel_rfl
theorem cPow1 : Tryd.prog.cellsOf 104 = 1 := by kernel_rfl
theorem tabPow {W : World} {rest : List (String × DataW Unit)} (h : laidMet Tryd.prog (("internal/strconv.uint64pow10", Rows.laid_internal_strconv_uint64pow10) :: rest) W) : Lib.TabIs Tryd.prog W "internal/strconv.uint64pow10" .u64 Lib.pow10Tab :=
  Lib.tabIs_of_head (rest := rest) gPow tPow Tryd.underlying128 Tryd.underlying104 cPow1 cPow (by
    have e : (Rows.laid_internal_strconv_uint64pow10 : DataW Unit) = Lib.tabData .u64 Lib.pow10Tab := by kernel_rfl
    rw [← e]; exact h)
end Go.Proofs.YtenlbjobjnpghaaDoor
