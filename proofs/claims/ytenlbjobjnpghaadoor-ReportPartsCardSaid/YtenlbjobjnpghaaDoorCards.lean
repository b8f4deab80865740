/-
  DERIVED. GIVEN WITH THE SEED: THE CARDS: each row of YtenlbjobjnpghaaDoorRows.lean that lists a variable, with what it lists TIED to the program's text (the seventh form; the later family's looks); each row that meets fmt, with fmt's text TOLD by the authors' own Lean function (tested against real Go, not proved from fmt's source: count such statements apart). THE CARD IS WHAT COUNTS. Prove the row's statement (the work); the ties are given (YtenlbjobjnpghaaDoorTie.lean); close each card by the builder's one call (the guide's Derived/Test/ToyasCard.lean, 'card_holds'). Laid BY PROGRAM, IN A SANDBOX (cutbox-door.mjs). By AI agents, Wed Nov 11 2026. No macro, syntax, notation, axiom, sorry.
-/
import Derived.Test.YtenlbjobjnpghaaDoorRows
import GoSem.ClaimSeven
namespace Go.Proofs.YtenlbjobjnpghaaDoor
namespace Rows

/-- THE TIED CARD OF 'tallystonelaw51.ReportMake'. -/
def reportMakeCard : Claim7 := { stood := { row := reportMakeRow, standIns := [], harness := (true, "0c9b395248378d0a7a8da3ab5e9ee2a7d8a0ae5ca2f286589072bb0459e3974a"), looks := false }, kinds := [], alts := [], laidByText := true, laidKinds := [.data, .data, .data, .data, .pinned], laidTests := true, laidLooks := .later }
def ReportMakeCardSaid : Prop := Claim7.holds Tryd.pinned (.plain (OpenSpec.ofChange reportMakeSpec)) reportMakeCard

/-- THE TIED CARD OF 'tallystonelaw51.ReportText'. -/
def reportTextCard : Claim7 := { stood := { row := reportTextRow, standIns := [], harness := (true, "0c9b395248378d0a7a8da3ab5e9ee2a7d8a0ae5ca2f286589072bb0459e3974a"), looks := false }, kinds := [], alts := [], laidByText := true, laidKinds := [.data, .data, .data, .data, .pinned], laidTests := true, laidLooks := .later }
def ReportTextCardSaid : Prop := Claim7.holds Tryd.pinned (.plain (OpenSpec.ofChange reportTextSpec)) reportTextCard

/-- THE TIED CARD OF 'tallystonelaw51.ReportParts'. -/
def reportPartsCard : Claim7 := { stood := { row := reportPartsRow, standIns := [], harness := (true, "0c9b395248378d0a7a8da3ab5e9ee2a7d8a0ae5ca2f286589072bb0459e3974a"), looks := false }, kinds := [], alts := [], laidByText := true, laidKinds := [.data, .data, .data, .data, .pinned], laidTests := true, laidLooks := .later }
def ReportPartsCardSaid : Prop := Claim7.holds Tryd.pinned (.plain (OpenSpec.ofChange reportPartsSpec)) reportPartsCard

/-- THE TIED CARD OF 'tallystonelaw51.ReportLines'. -/
def reportLinesCard : Claim7 := { stood := { row := reportLinesRow, standIns := [], harness := (true, "0c9b395248378d0a7a8da3ab5e9ee2a7d8a0ae5ca2f286589072bb0459e3974a"), looks := false }, kinds := [], alts := [], laidByText := true, laidKinds := [.data, .data, .data, .data, .pinned], laidTests := true, laidLooks := .later }
def ReportLinesCardSaid : Prop := Claim7.holds Tryd.pinned (.plain (OpenSpec.ofChange reportLinesSpec)) reportLinesCard

/-- THE TIED CARD OF 'tallystonelaw51.ReportChanged'. -/
def reportChangedCard : Claim7 := { stood := { row := reportChangedRow, standIns := [], harness := (true, "0c9b395248378d0a7a8da3ab5e9ee2a7d8a0ae5ca2f286589072bb0459e3974a"), looks := false }, kinds := [], alts := [], laidByText := true, laidKinds := [.data, .data, .data, .data, .pinned], laidTests := true, laidLooks := .later }
def ReportChangedCardSaid : Prop := Claim7.holds Tryd.pinned (.plain (OpenSpec.ofChange reportChangedSpec)) reportChangedCard

/-- THE TIED CARD OF 'tallystonelaw51.ReportSum'. -/
def reportSumCard : Claim7 := { stood := { row := reportSumRow, standIns := [], harness := (true, "0c9b395248378d0a7a8da3ab5e9ee2a7d8a0ae5ca2f286589072bb0459e3974a"), looks := false }, kinds := [], alts := [], laidByText := true, laidKinds := [.data, .data, .data, .data, .pinned], laidTests := true, laidLooks := .later }
def ReportSumCardSaid : Prop := Claim7.holds Tryd.pinned (.plain (OpenSpec.ofChange reportSumSpec)) reportSumCard

/-- THE SECOND FORM's CARD OF 'tallystonelaw51.ReportMake'. -/
def reportMakeUptoCard : Claim7 := { stood := { row := reportMakeUptoRow, standIns := [], harness := (true, "0c9b395248378d0a7a8da3ab5e9ee2a7d8a0ae5ca2f286589072bb0459e3974a"), looks := false }, kinds := [], alts := [], laidByText := true, laidKinds := [.data, .data, .data, .data, .pinned], laidTests := true, laidLooks := .later }
def ReportMakeUptoCardSaid : Prop := Claim7.holds Tryd.pinned (.plain (OpenSpec.upto reportMakeSpec)) reportMakeUptoCard

/-- THE SECOND FORM's CARD OF 'tallystonelaw51.ReportText'. -/
def reportTextUptoCard : Claim7 := { stood := { row := reportTextUptoRow, standIns := [], harness := (true, "0c9b395248378d0a7a8da3ab5e9ee2a7d8a0ae5ca2f286589072bb0459e3974a"), looks := false }, kinds := [], alts := [], laidByText := true, laidKinds := [.data, .data, .data, .data, .pinned], laidTests := true, laidLooks := .later }
def ReportTextUptoCardSaid : Prop := Claim7.holds Tryd.pinned (.plain (OpenSpec.upto reportTextSpec)) reportTextUptoCard

/-- THE SECOND FORM's CARD OF 'tallystonelaw51.ReportParts'. -/
def reportPartsUptoCard : Claim7 := { stood := { row := reportPartsUptoRow, standIns := [], harness := (true, "0c9b395248378d0a7a8da3ab5e9ee2a7d8a0ae5ca2f286589072bb0459e3974a"), looks := false }, kinds := [], alts := [], laidByText := true, laidKinds := [.data, .data, .data, .data, .pinned], laidTests := true, laidLooks := .later }
def ReportPartsUptoCardSaid : Prop := Claim7.holds Tryd.pinned (.plain (OpenSpec.upto reportPartsSpec)) reportPartsUptoCard

/-- THE SECOND FORM's CARD OF 'tallystonelaw51.ReportLines'. -/
def reportLinesUptoCard : Claim7 := { stood := { row := reportLinesUptoRow, standIns := [], harness := (true, "0c9b395248378d0a7a8da3ab5e9ee2a7d8a0ae5ca2f286589072bb0459e3974a"), looks := false }, kinds := [], alts := [], laidByText := true, laidKinds := [.data, .data, .data, .data, .pinned], laidTests := true, laidLooks := .later }
def ReportLinesUptoCardSaid : Prop := Claim7.holds Tryd.pinned (.plain (OpenSpec.upto reportLinesSpec)) reportLinesUptoCard

/-- THE SECOND FORM's CARD OF 'tallystonelaw51.ReportChanged'. -/
def reportChangedUptoCard : Claim7 := { stood := { row := reportChangedUptoRow, standIns := [], harness := (true, "0c9b395248378d0a7a8da3ab5e9ee2a7d8a0ae5ca2f286589072bb0459e3974a"), looks := false }, kinds := [], alts := [], laidByText := true, laidKinds := [.data, .data, .data, .data, .pinned], laidTests := true, laidLooks := .later }
def ReportChangedUptoCardSaid : Prop := Claim7.holds Tryd.pinned (.plain (OpenSpec.upto reportChangedSpec)) reportChangedUptoCard

/-- THE SECOND FORM's CARD OF 'tallystonelaw51.ReportSum'. -/
def reportSumUptoCard : Claim7 := { stood := { row := reportSumUptoRow, standIns := [], harness := (true, "0c9b395248378d0a7a8da3ab5e9ee2a7d8a0ae5ca2f286589072bb0459e3974a"), looks := false }, kinds := [], alts := [], laidByText := true, laidKinds := [.data, .data, .data, .data, .pinned], laidTests := true, laidLooks := .later }
def ReportSumUptoCardSaid : Prop := Claim7.holds Tryd.pinned (.plain (OpenSpec.upto reportSumSpec)) reportSumUptoCard
end Rows
end Go.Proofs.YtenlbjobjnpghaaDoor
