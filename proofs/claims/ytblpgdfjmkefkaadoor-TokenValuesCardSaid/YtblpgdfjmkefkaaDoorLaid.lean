/-
  From the row's list to what the walks ask of the package-level variables.
-/
import Derived.Test.YtblpgdfjmkefkaaDoorKit
import Derived.Test.YtblpgdfjmkefkaaDoorRows
namespace Go.Proofs.YtblpgdfjmkefkaaDoor
open Go.RowKit
set_option maxRecDepth 100000
theorem tSpc : (Tryd.prog.globals[0]?).map (·.type) = some 66 := by kernel_rfl
theorem cSpc : Tryd.prog.cellsOf 66 = 256 := by kernel_rfl
theorem cSpc1 : Tryd.prog.cellsOf 5 = 1 := by kernel_rfl
theorem tabSpc {W : World} {rest : List (String × DataW Unit)} (h : laidMet Tryd.prog (("strings.asciiSpace", Rows.laid_strings_asciiSpace) :: rest) W) : Lib.TabIs Tryd.prog W "strings.asciiSpace" .u8 Lib.asciiSpaceTab :=
  Lib.tabIs_of_head (rest := rest) gSpc tSpc Tryd.underlying66 Tryd.underlying5 cSpc1 cSpc (by
    have e : (Rows.laid_strings_asciiSpace : DataW Unit) = Lib.tabData .u8 Lib.asciiSpaceTab := by kernel_rfl
    rw [← e]; exact h)
end Go.Proofs.YtblpgdfjmkefkaaDoor
