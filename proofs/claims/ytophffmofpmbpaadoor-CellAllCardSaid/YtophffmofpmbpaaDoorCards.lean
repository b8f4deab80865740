/-
  DERIVED. GIVEN WITH THE SEED: THE CARDS: each row of YtophffmofpmbpaaDoorRows.lean that lists a variable, with what it lists TIED to the program's text (the seventh form; the later family's looks); each row that meets fmt, with fmt's text TOLD by the authors' own Lean function (tested against real Go, not proved from fmt's source: count such statements apart). THE CARD IS WHAT COUNTS. Prove the row's statement (the work); the ties are given (YtophffmofpmbpaaDoorTie.lean); close each card by the builder's one call (the guide's Derived/Test/ToyasCard.lean, 'card_holds'). Laid BY PROGRAM, IN A SANDBOX (cutbox-door.mjs). By AI agents, Wed Nov 11 2026. No macro, syntax, notation, axiom, sorry.
-/
import Derived.Test.YtophffmofpmbpaaDoorRows
import GoSem.ClaimSeven
namespace Go.Proofs.YtophffmofpmbpaaDoor
namespace Rows

/-- THE TIED CARD OF 'tallystonelaw46.CellValid'. -/
def cellValidCard : Claim7 := { stood := { row := cellValidRow, standIns := [], harness := (true, "623942a95ef51803a02e7431e1f2412327e37cd44c8e127d5801800d371fe3ca"), looks := true }, kinds := [], alts := [], laidByText := true, laidKinds := [.data, .data, .data, .data, .sentinel, .sentinel, .pinned], laidTests := true, laidLooks := .later }
def CellValidCardSaid : Prop := Claim7.holds Tryd.pinned (.plain (OpenSpec.ofChange cellValidSpec)) cellValidCard

/-- THE TIED CARD OF 'tallystonelaw46.CellParse'. -/
def cellParseCard : Claim7 := { stood := { row := cellParseRow, standIns := [], harness := (true, "623942a95ef51803a02e7431e1f2412327e37cd44c8e127d5801800d371fe3ca"), looks := true }, kinds := [], alts := [], laidByText := true, laidKinds := [.data, .data, .data, .data, .sentinel, .sentinel, .pinned], laidTests := true, laidLooks := .later }
def CellParseCardSaid : Prop := Claim7.holds Tryd.pinned (.plain (OpenSpec.ofChange cellParseSpec)) cellParseCard

/-- THE TIED CARD OF 'tallystonelaw46.CellTexts'. -/
def cellTextsCard : Claim7 := { stood := { row := cellTextsRow, standIns := [], harness := (true, "623942a95ef51803a02e7431e1f2412327e37cd44c8e127d5801800d371fe3ca"), looks := true }, kinds := [], alts := [], laidByText := true, laidKinds := [.data, .data, .data, .data, .sentinel, .sentinel, .pinned], laidTests := true, laidLooks := .later }
def CellTextsCardSaid : Prop := Claim7.holds Tryd.pinned (.plain (OpenSpec.ofChange cellTextsSpec)) cellTextsCard

/-- THE TIED CARD OF 'tallystonelaw46.CellStages'. -/
def cellStagesCard : Claim7 := { stood := { row := cellStagesRow, standIns := [], harness := (true, "623942a95ef51803a02e7431e1f2412327e37cd44c8e127d5801800d371fe3ca"), looks := true }, kinds := [], alts := [], laidByText := true, laidKinds := [.data, .data, .data, .data, .sentinel, .sentinel, .pinned], laidTests := true, laidLooks := .later }
def CellStagesCardSaid : Prop := Claim7.holds Tryd.pinned (.plain (OpenSpec.ofChange cellStagesSpec)) cellStagesCard

/-- THE TIED CARD OF 'tallystonelaw46.CellOrder'. -/
def cellOrderCard : Claim7 := { stood := { row := cellOrderRow, standIns := [], harness := (true, "623942a95ef51803a02e7431e1f2412327e37cd44c8e127d5801800d371fe3ca"), looks := true }, kinds := [], alts := [], laidByText := true, laidKinds := [.data, .data, .data, .data, .sentinel, .sentinel, .pinned], laidTests := true, laidLooks := .later }
def CellOrderCardSaid : Prop := Claim7.holds Tryd.pinned (.plain (OpenSpec.ofChange cellOrderSpec)) cellOrderCard

/-- THE TIED CARD OF 'tallystonelaw46.CellAll'. -/
def cellAllCard : Claim7 := { stood := { row := cellAllRow, standIns := [], harness := (true, "623942a95ef51803a02e7431e1f2412327e37cd44c8e127d5801800d371fe3ca"), looks := true }, kinds := [], alts := [], laidByText := true, laidKinds := [.data, .data, .data, .data, .sentinel, .sentinel, .pinned], laidTests := true, laidLooks := .later }
def CellAllCardSaid : Prop := Claim7.holds Tryd.pinned (.plain (OpenSpec.ofChange cellAllSpec)) cellAllCard

/-- THE SECOND FORM's CARD OF 'tallystonelaw46.CellValid'. -/
def cellValidUptoCard : Claim7 := { stood := { row := cellValidUptoRow, standIns := [], harness := (true, "623942a95ef51803a02e7431e1f2412327e37cd44c8e127d5801800d371fe3ca"), looks := true }, kinds := [], alts := [], laidByText := true, laidKinds := [.data, .data, .data, .data, .sentinel, .sentinel, .pinned], laidTests := true, laidLooks := .later }
def CellValidUptoCardSaid : Prop := Claim7.holds Tryd.pinned (.plain (OpenSpec.upto cellValidSpec)) cellValidUptoCard

/-- THE SECOND FORM's CARD OF 'tallystonelaw46.CellParse'. -/
def cellParseUptoCard : Claim7 := { stood := { row := cellParseUptoRow, standIns := [], harness := (true, "623942a95ef51803a02e7431e1f2412327e37cd44c8e127d5801800d371fe3ca"), looks := true }, kinds := [], alts := [], laidByText := true, laidKinds := [.data, .data, .data, .data, .sentinel, .sentinel, .pinned], laidTests := true, laidLooks := .later }
def CellParseUptoCardSaid : Prop := Claim7.holds Tryd.pinned (.plain (OpenSpec.upto cellParseSpec)) cellParseUptoCard

/-- THE SECOND FORM's CARD OF 'tallystonelaw46.CellTexts'. -/
def cellTextsUptoCard : Claim7 := { stood := { row := cellTextsUptoRow, standIns := [], harness := (true, "623942a95ef51803a02e7431e1f2412327e37cd44c8e127d5801800d371fe3ca"), looks := true }, kinds := [], alts := [], laidByText := true, laidKinds := [.data, .data, .data, .data, .sentinel, .sentinel, .pinned], laidTests := true, laidLooks := .later }
def CellTextsUptoCardSaid : Prop := Claim7.holds Tryd.pinned (.plain (OpenSpec.upto cellTextsSpec)) cellTextsUptoCard

/-- THE SECOND FORM's CARD OF 'tallystonelaw46.CellStages'. -/
def cellStagesUptoCard : Claim7 := { stood := { row := cellStagesUptoRow, standIns := [], harness := (true, "623942a95ef51803a02e7431e1f2412327e37cd44c8e127d5801800d371fe3ca"), looks := true }, kinds := [], alts := [], laidByText := true, laidKinds := [.data, .data, .data, .data, .sentinel, .sentinel, .pinned], laidTests := true, laidLooks := .later }
def CellStagesUptoCardSaid : Prop := Claim7.holds Tryd.pinned (.plain (OpenSpec.upto cellStagesSpec)) cellStagesUptoCard

/-- THE SECOND FORM's CARD OF 'tallystonelaw46.CellOrder'. -/
def cellOrderUptoCard : Claim7 := { stood := { row := cellOrderUptoRow, standIns := [], harness := (true, "623942a95ef51803a02e7431e1f2412327e37cd44c8e127d5801800d371fe3ca"), looks := true }, kinds := [], alts := [], laidByText := true, laidKinds := [.data, .data, .data, .data, .sentinel, .sentinel, .pinned], laidTests := true, laidLooks := .later }
def CellOrderUptoCardSaid : Prop := Claim7.holds Tryd.pinned (.plain (OpenSpec.upto cellOrderSpec)) cellOrderUptoCard

/-- THE SECOND FORM's CARD OF 'tallystonelaw46.CellAll'. -/
def cellAllUptoCard : Claim7 := { stood := { row := cellAllUptoRow, standIns := [], harness := (true, "623942a95ef51803a02e7431e1f2412327e37cd44c8e127d5801800d371fe3ca"), looks := true }, kinds := [], alts := [], laidByText := true, laidKinds := [.data, .data, .data, .data, .sentinel, .sentinel, .pinned], laidTests := true, laidLooks := .later }
def CellAllUptoCardSaid : Prop := Claim7.holds Tryd.pinned (.plain (OpenSpec.upto cellAllSpec)) cellAllUptoCard
end Rows
end Go.Proofs.YtophffmofpmbpaaDoor
