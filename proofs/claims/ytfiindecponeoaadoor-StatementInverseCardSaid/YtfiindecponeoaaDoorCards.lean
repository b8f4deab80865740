/-
  DERIVED. GIVEN WITH THE SEED: THE CARDS: each row of YtfiindecponeoaaDoorRows.lean that lists a variable, with what it lists TIED to the program's text (the seventh form; the later family's looks); each row that meets fmt, with fmt's text TOLD by the authors' own Lean function (tested against real Go, not proved from fmt's source: count such statements apart). THE CARD IS WHAT COUNTS. Prove the row's statement (the work); the ties are given (YtfiindecponeoaaDoorTie.lean); close each card by the builder's one call (the guide's Derived/Test/ToyasCard.lean, 'card_holds'). Laid BY PROGRAM, IN A SANDBOX (cutbox-door.mjs). By AI agents, Wed Nov 11 2026. No macro, syntax, notation, axiom, sorry.
-/
import Derived.Test.YtfiindecponeoaaDoorRows
import GoSem.ClaimSeven
namespace Go.Proofs.YtfiindecponeoaaDoor
namespace Rows

/-- THE TIED CARD OF 'tallystonelaw50.StatementPrint'. -/
def statementPrintCard : Claim7 := { stood := { row := statementPrintRow, standIns := [], harness := (true, "8204b0f0418de4599ebe1a1eae8a9316f7d831661bc1e9b5386df9a56d0f9877"), looks := true }, kinds := [], alts := [], laidByText := true, laidKinds := [.data, .data, .data, .data, .pinned], laidTests := true, laidLooks := .later }
def StatementPrintCardSaid : Prop := Claim7.holds Tryd.pinned (.plain (OpenSpec.ofChange statementPrintSpec)) statementPrintCard

/-- THE TIED CARD OF 'tallystonelaw50.StatementBegins'. -/
def statementBeginsCard : Claim7 := { stood := { row := statementBeginsRow, standIns := [], harness := (true, "8204b0f0418de4599ebe1a1eae8a9316f7d831661bc1e9b5386df9a56d0f9877"), looks := true }, kinds := [], alts := [], laidByText := true, laidKinds := [.data, .data, .data, .data, .pinned], laidTests := true, laidLooks := .later }
def StatementBeginsCardSaid : Prop := Claim7.holds Tryd.pinned (.plain (OpenSpec.ofChange statementBeginsSpec)) statementBeginsCard

/-- THE TIED CARD OF 'tallystonelaw50.StatementUnder'. -/
def statementUnderCard : Claim7 := { stood := { row := statementUnderRow, standIns := [], harness := (true, "8204b0f0418de4599ebe1a1eae8a9316f7d831661bc1e9b5386df9a56d0f9877"), looks := true }, kinds := [], alts := [], laidByText := true, laidKinds := [.data, .data, .data, .data, .pinned], laidTests := true, laidLooks := .later }
def StatementUnderCardSaid : Prop := Claim7.holds Tryd.pinned (.plain (OpenSpec.ofChange statementUnderSpec)) statementUnderCard

/-- THE TIED CARD OF 'tallystonelaw50.StatementParse'. -/
def statementParseCard : Claim7 := { stood := { row := statementParseRow, standIns := [], harness := (true, "8204b0f0418de4599ebe1a1eae8a9316f7d831661bc1e9b5386df9a56d0f9877"), looks := true }, kinds := [], alts := [], laidByText := true, laidKinds := [.data, .data, .data, .data, .sentinel, .sentinel, .pinned], laidTests := true, laidLooks := .later }
def StatementParseCardSaid : Prop := Claim7.holds Tryd.pinned (.plain (OpenSpec.ofChange statementParseSpec)) statementParseCard

/-- THE TIED CARD OF 'tallystonelaw50.StatementInverse'. -/
def statementInverseCard : Claim7 := { stood := { row := statementInverseRow, standIns := [], harness := (true, "8204b0f0418de4599ebe1a1eae8a9316f7d831661bc1e9b5386df9a56d0f9877"), looks := true }, kinds := [], alts := [], laidByText := true, laidKinds := [.data, .data, .data, .data, .sentinel, .sentinel, .pinned], laidTests := true, laidLooks := .later }
def StatementInverseCardSaid : Prop := Claim7.holds Tryd.pinned (.plain (OpenSpec.ofChange statementInverseSpec)) statementInverseCard

/-- THE SECOND FORM's CARD OF 'tallystonelaw50.StatementPrint'. -/
def statementPrintUptoCard : Claim7 := { stood := { row := statementPrintUptoRow, standIns := [], harness := (true, "8204b0f0418de4599ebe1a1eae8a9316f7d831661bc1e9b5386df9a56d0f9877"), looks := true }, kinds := [], alts := [], laidByText := true, laidKinds := [.data, .data, .data, .data, .pinned], laidTests := true, laidLooks := .later }
def StatementPrintUptoCardSaid : Prop := Claim7.holds Tryd.pinned (.plain (OpenSpec.upto statementPrintSpec)) statementPrintUptoCard

/-- THE SECOND FORM's CARD OF 'tallystonelaw50.StatementBegins'. -/
def statementBeginsUptoCard : Claim7 := { stood := { row := statementBeginsUptoRow, standIns := [], harness := (true, "8204b0f0418de4599ebe1a1eae8a9316f7d831661bc1e9b5386df9a56d0f9877"), looks := true }, kinds := [], alts := [], laidByText := true, laidKinds := [.data, .data, .data, .data, .pinned], laidTests := true, laidLooks := .later }
def StatementBeginsUptoCardSaid : Prop := Claim7.holds Tryd.pinned (.plain (OpenSpec.upto statementBeginsSpec)) statementBeginsUptoCard

/-- THE SECOND FORM's CARD OF 'tallystonelaw50.StatementUnder'. -/
def statementUnderUptoCard : Claim7 := { stood := { row := statementUnderUptoRow, standIns := [], harness := (true, "8204b0f0418de4599ebe1a1eae8a9316f7d831661bc1e9b5386df9a56d0f9877"), looks := true }, kinds := [], alts := [], laidByText := true, laidKinds := [.data, .data, .data, .data, .pinned], laidTests := true, laidLooks := .later }
def StatementUnderUptoCardSaid : Prop := Claim7.holds Tryd.pinned (.plain (OpenSpec.upto statementUnderSpec)) statementUnderUptoCard

/-- THE SECOND FORM's CARD OF 'tallystonelaw50.StatementParse'. -/
def statementParseUptoCard : Claim7 := { stood := { row := statementParseUptoRow, standIns := [], harness := (true, "8204b0f0418de4599ebe1a1eae8a9316f7d831661bc1e9b5386df9a56d0f9877"), looks := true }, kinds := [], alts := [], laidByText := true, laidKinds := [.data, .data, .data, .data, .sentinel, .sentinel, .pinned], laidTests := true, laidLooks := .later }
def StatementParseUptoCardSaid : Prop := Claim7.holds Tryd.pinned (.plain (OpenSpec.upto statementParseSpec)) statementParseUptoCard

/-- THE SECOND FORM's CARD OF 'tallystonelaw50.StatementInverse'. -/
def statementInverseUptoCard : Claim7 := { stood := { row := statementInverseUptoRow, standIns := [], harness := (true, "8204b0f0418de4599ebe1a1eae8a9316f7d831661bc1e9b5386df9a56d0f9877"), looks := true }, kinds := [], alts := [], laidByText := true, laidKinds := [.data, .data, .data, .data, .sentinel, .sentinel, .pinned], laidTests := true, laidLooks := .later }
def StatementInverseUptoCardSaid : Prop := Claim7.holds Tryd.pinned (.plain (OpenSpec.upto statementInverseSpec)) statementInverseUptoCard
end Rows
end Go.Proofs.YtfiindecponeoaaDoor
