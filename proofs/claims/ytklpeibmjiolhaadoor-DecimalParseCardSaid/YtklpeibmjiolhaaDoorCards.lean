/-
  DERIVED. GIVEN WITH THE SEED: THE CARDS: each row of YtklpeibmjiolhaaDoorRows.lean that lists a variable, with what it lists TIED to the program's text (the seventh form; the later family's looks); each row that meets fmt, with fmt's text TOLD by the authors' own Lean function (tested against real Go, not proved from fmt's source: count such statements apart). THE CARD IS WHAT COUNTS. Prove the row's statement (the work); the ties are given (YtklpeibmjiolhaaDoorTie.lean); close each card by the builder's one call (the guide's Derived/Test/ToyasCard.lean, 'card_holds'). Laid BY PROGRAM, IN A SANDBOX (cutbox-door.mjs). By AI agents, Wed Nov 11 2026. No macro, syntax, notation, axiom, sorry.
-/
import Derived.Test.YtklpeibmjiolhaaDoorRows
import GoSem.ClaimSeven
namespace Go.Proofs.YtklpeibmjiolhaaDoor
namespace Rows

/-- THE TIED CARD OF 'tallystonelaw03.DecimalRound'. -/
def decimalRoundCard : Claim7 := { stood := { row := decimalRoundRow, standIns := [], harness := (true, "f27dd4cee5d9b7d9948f9b89bdede784598d056e09312ba087e587c46918e67f"), looks := false }, kinds := [], alts := [], laidByText := true, laidKinds := [.data, .data, .data], laidTests := true, laidLooks := .later }
def DecimalRoundCardSaid : Prop := Claim7.holds Tryd.pinned (.plain (OpenSpec.ofChange decimalRoundSpec)) decimalRoundCard

/-- THE TIED CARD OF 'tallystonelaw03.DecimalModes'. -/
def decimalModesCard : Claim7 := { stood := { row := decimalModesRow, standIns := [], harness := (true, "f27dd4cee5d9b7d9948f9b89bdede784598d056e09312ba087e587c46918e67f"), looks := false }, kinds := [], alts := [], laidByText := true, laidKinds := [.data, .data, .data], laidTests := true, laidLooks := .later }
def DecimalModesCardSaid : Prop := Claim7.holds Tryd.pinned (.plain (OpenSpec.ofChange decimalModesSpec)) decimalModesCard

/-- THE TIED CARD OF 'tallystonelaw03.DecimalOrder'. -/
def decimalOrderCard : Claim7 := { stood := { row := decimalOrderRow, standIns := [], harness := (true, "f27dd4cee5d9b7d9948f9b89bdede784598d056e09312ba087e587c46918e67f"), looks := false }, kinds := [], alts := [], laidByText := true, laidKinds := [.data, .data, .data], laidTests := true, laidLooks := .later }
def DecimalOrderCardSaid : Prop := Claim7.holds Tryd.pinned (.plain (OpenSpec.ofChange decimalOrderSpec)) decimalOrderCard

/-- THE TIED CARD OF 'tallystonelaw03.DecimalQuantize'. -/
def decimalQuantizeCard : Claim7 := { stood := { row := decimalQuantizeRow, standIns := [], harness := (true, "f27dd4cee5d9b7d9948f9b89bdede784598d056e09312ba087e587c46918e67f"), looks := false }, kinds := [], alts := [], laidByText := true, laidKinds := [.data, .data, .data], laidTests := true, laidLooks := .later }
def DecimalQuantizeCardSaid : Prop := Claim7.holds Tryd.pinned (.plain (OpenSpec.ofChange decimalQuantizeSpec)) decimalQuantizeCard

/-- THE TIED CARD OF 'tallystonelaw03.DecimalSums'. -/
def decimalSumsCard : Claim7 := { stood := { row := decimalSumsRow, standIns := [], harness := (true, "f27dd4cee5d9b7d9948f9b89bdede784598d056e09312ba087e587c46918e67f"), looks := false }, kinds := [], alts := [], laidByText := true, laidKinds := [.data, .data, .data], laidTests := true, laidLooks := .later }
def DecimalSumsCardSaid : Prop := Claim7.holds Tryd.pinned (.plain (OpenSpec.ofChange decimalSumsSpec)) decimalSumsCard

/-- THE TIED CARD OF 'tallystonelaw03.DecimalCompare'. -/
def decimalCompareCard : Claim7 := { stood := { row := decimalCompareRow, standIns := [], harness := (true, "f27dd4cee5d9b7d9948f9b89bdede784598d056e09312ba087e587c46918e67f"), looks := false }, kinds := [], alts := [], laidByText := true, laidKinds := [.data, .data, .data], laidTests := true, laidLooks := .later }
def DecimalCompareCardSaid : Prop := Claim7.holds Tryd.pinned (.plain (OpenSpec.ofChange decimalCompareSpec)) decimalCompareCard

/-- THE TIED CARD OF 'tallystonelaw03.DecimalRescale'. -/
def decimalRescaleCard : Claim7 := { stood := { row := decimalRescaleRow, standIns := [], harness := (true, "f27dd4cee5d9b7d9948f9b89bdede784598d056e09312ba087e587c46918e67f"), looks := false }, kinds := [], alts := [], laidByText := true, laidKinds := [.data, .data, .data], laidTests := true, laidLooks := .later }
def DecimalRescaleCardSaid : Prop := Claim7.holds Tryd.pinned (.plain (OpenSpec.ofChange decimalRescaleSpec)) decimalRescaleCard

/-- THE TIED CARD OF 'tallystonelaw03.DecimalText'. -/
def decimalTextCard : Claim7 := { stood := { row := decimalTextRow, standIns := [], harness := (true, "f27dd4cee5d9b7d9948f9b89bdede784598d056e09312ba087e587c46918e67f"), looks := false }, kinds := [], alts := [], laidByText := true, laidKinds := [.data, .data, .data, .data, .pinned], laidTests := true, laidLooks := .later }
def DecimalTextCardSaid : Prop := Claim7.holds Tryd.pinned (.plain (OpenSpec.ofChange decimalTextSpec)) decimalTextCard

/-- THE TIED CARD OF 'tallystonelaw03.DecimalParse'. -/
def decimalParseCard : Claim7 := { stood := { row := decimalParseRow, standIns := [], harness := (true, "f27dd4cee5d9b7d9948f9b89bdede784598d056e09312ba087e587c46918e67f"), looks := false }, kinds := [], alts := [], laidByText := true, laidKinds := [.data, .data, .data, .data, .pinned], laidTests := true, laidLooks := .later }
def DecimalParseCardSaid : Prop := Claim7.holds Tryd.pinned (.plain (OpenSpec.ofChange decimalParseSpec)) decimalParseCard

/-- THE SECOND FORM's CARD OF 'tallystonelaw03.DecimalRound'. -/
def decimalRoundUptoCard : Claim7 := { stood := { row := decimalRoundUptoRow, standIns := [], harness := (true, "f27dd4cee5d9b7d9948f9b89bdede784598d056e09312ba087e587c46918e67f"), looks := false }, kinds := [], alts := [], laidByText := true, laidKinds := [.data, .data, .data], laidTests := true, laidLooks := .later }
def DecimalRoundUptoCardSaid : Prop := Claim7.holds Tryd.pinned (.plain (OpenSpec.upto decimalRoundSpec)) decimalRoundUptoCard

/-- THE SECOND FORM's CARD OF 'tallystonelaw03.DecimalModes'. -/
def decimalModesUptoCard : Claim7 := { stood := { row := decimalModesUptoRow, standIns := [], harness := (true, "f27dd4cee5d9b7d9948f9b89bdede784598d056e09312ba087e587c46918e67f"), looks := false }, kinds := [], alts := [], laidByText := true, laidKinds := [.data, .data, .data], laidTests := true, laidLooks := .later }
def DecimalModesUptoCardSaid : Prop := Claim7.holds Tryd.pinned (.plain (OpenSpec.upto decimalModesSpec)) decimalModesUptoCard

/-- THE SECOND FORM's CARD OF 'tallystonelaw03.DecimalOrder'. -/
def decimalOrderUptoCard : Claim7 := { stood := { row := decimalOrderUptoRow, standIns := [], harness := (true, "f27dd4cee5d9b7d9948f9b89bdede784598d056e09312ba087e587c46918e67f"), looks := false }, kinds := [], alts := [], laidByText := true, laidKinds := [.data, .data, .data], laidTests := true, laidLooks := .later }
def DecimalOrderUptoCardSaid : Prop := Claim7.holds Tryd.pinned (.plain (OpenSpec.upto decimalOrderSpec)) decimalOrderUptoCard

/-- THE SECOND FORM's CARD OF 'tallystonelaw03.DecimalQuantize'. -/
def decimalQuantizeUptoCard : Claim7 := { stood := { row := decimalQuantizeUptoRow, standIns := [], harness := (true, "f27dd4cee5d9b7d9948f9b89bdede784598d056e09312ba087e587c46918e67f"), looks := false }, kinds := [], alts := [], laidByText := true, laidKinds := [.data, .data, .data], laidTests := true, laidLooks := .later }
def DecimalQuantizeUptoCardSaid : Prop := Claim7.holds Tryd.pinned (.plain (OpenSpec.upto decimalQuantizeSpec)) decimalQuantizeUptoCard

/-- THE SECOND FORM's CARD OF 'tallystonelaw03.DecimalSums'. -/
def decimalSumsUptoCard : Claim7 := { stood := { row := decimalSumsUptoRow, standIns := [], harness := (true, "f27dd4cee5d9b7d9948f9b89bdede784598d056e09312ba087e587c46918e67f"), looks := false }, kinds := [], alts := [], laidByText := true, laidKinds := [.data, .data, .data], laidTests := true, laidLooks := .later }
def DecimalSumsUptoCardSaid : Prop := Claim7.holds Tryd.pinned (.plain (OpenSpec.upto decimalSumsSpec)) decimalSumsUptoCard

/-- THE SECOND FORM's CARD OF 'tallystonelaw03.DecimalCompare'. -/
def decimalCompareUptoCard : Claim7 := { stood := { row := decimalCompareUptoRow, standIns := [], harness := (true, "f27dd4cee5d9b7d9948f9b89bdede784598d056e09312ba087e587c46918e67f"), looks := false }, kinds := [], alts := [], laidByText := true, laidKinds := [.data, .data, .data], laidTests := true, laidLooks := .later }
def DecimalCompareUptoCardSaid : Prop := Claim7.holds Tryd.pinned (.plain (OpenSpec.upto decimalCompareSpec)) decimalCompareUptoCard

/-- THE SECOND FORM's CARD OF 'tallystonelaw03.DecimalRescale'. -/
def decimalRescaleUptoCard : Claim7 := { stood := { row := decimalRescaleUptoRow, standIns := [], harness := (true, "f27dd4cee5d9b7d9948f9b89bdede784598d056e09312ba087e587c46918e67f"), looks := false }, kinds := [], alts := [], laidByText := true, laidKinds := [.data, .data, .data], laidTests := true, laidLooks := .later }
def DecimalRescaleUptoCardSaid : Prop := Claim7.holds Tryd.pinned (.plain (OpenSpec.upto decimalRescaleSpec)) decimalRescaleUptoCard

/-- THE SECOND FORM's CARD OF 'tallystonelaw03.DecimalText'. -/
def decimalTextUptoCard : Claim7 := { stood := { row := decimalTextUptoRow, standIns := [], harness := (true, "f27dd4cee5d9b7d9948f9b89bdede784598d056e09312ba087e587c46918e67f"), looks := false }, kinds := [], alts := [], laidByText := true, laidKinds := [.data, .data, .data, .data, .pinned], laidTests := true, laidLooks := .later }
def DecimalTextUptoCardSaid : Prop := Claim7.holds Tryd.pinned (.plain (OpenSpec.upto decimalTextSpec)) decimalTextUptoCard

/-- THE SECOND FORM's CARD OF 'tallystonelaw03.DecimalParse'. -/
def decimalParseUptoCard : Claim7 := { stood := { row := decimalParseUptoRow, standIns := [], harness := (true, "f27dd4cee5d9b7d9948f9b89bdede784598d056e09312ba087e587c46918e67f"), looks := false }, kinds := [], alts := [], laidByText := true, laidKinds := [.data, .data, .data, .data, .pinned], laidTests := true, laidLooks := .later }
def DecimalParseUptoCardSaid : Prop := Claim7.holds Tryd.pinned (.plain (OpenSpec.upto decimalParseSpec)) decimalParseUptoCard
end Rows
end Go.Proofs.YtklpeibmjiolhaaDoor
