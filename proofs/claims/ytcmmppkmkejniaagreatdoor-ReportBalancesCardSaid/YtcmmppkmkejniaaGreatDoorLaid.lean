/-
  From the row's list to what the walks ask of the package-level variables.
-/
import Derived.Test.YtcmmppkmkejniaaGreatDoorKit
import Derived.Test.YtcmmppkmkejniaaGreatDoorRows
namespace Go.Proofs.YtcmmppkmkejniaaGreatDoor
open Go.RowKit
set_option maxRecDepth 100000
theorem tPow : (Tryz.prog.globals[0]?).map (·.type) = some 174 := by kernel_rfl
theorem cPow : Tryz.prog.cellsOf 174 = 20 := by kernel_rfl
theorem cPow1 : Tryz.prog.cellsOf 153 = 1 := by kernel_rfl
theorem tabPow {W : World} {rest : List (String × DataW Unit)} (h : laidMet Tryz.prog (("internal/strconv.uint64pow10", Rows.laid_internal_strconv_uint64pow10) :: rest) W) : Lib.TabIs Tryz.prog W "internal/strconv.uint64pow10" .u64 Lib.pow10Tab :=
  Lib.tabIs_of_head (rest := rest) gPow tPow Tryz.underlying174 Tryz.underlying153 cPow1 cPow (by
    have e : (Rows.laid_internal_strconv_uint64pow10 : DataW Unit) = Lib.tabData .u64 Lib.pow10Tab := by kernel_rfl
    rw [← e]; exact h)
end Go.Proofs.YtcmmppkmkejniaaGreatDoor
