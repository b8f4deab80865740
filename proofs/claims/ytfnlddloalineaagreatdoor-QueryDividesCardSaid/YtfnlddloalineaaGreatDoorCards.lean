/-
  DERIVED. GIVEN WITH THE SEED: THE CARDS: each row of YtfnlddloalineaaGreatDoorRows.lean that lists a variable, with what it lists TIED to the program's text (the seventh form; the later family's looks); each row that meets fmt, with fmt's text TOLD by the authors' own Lean function (tested against real Go, not proved from fmt's source: count such statements apart). THE CARD IS WHAT COUNTS. Prove the row's statement (the work); the ties are given (YtfnlddloalineaaGreatDoorTie.lean); close each card by the builder's one call (the guide's Derived/Test/ToyasCard.lean, 'card_holds'). Laid BY PROGRAM, IN A SANDBOX (cutbox-door.mjs). By AI agents, Wed Nov 11 2026. No macro, syntax, notation, axiom, sorry.
-/
import Derived.Test.YtfnlddloalineaaGreatDoorRows
import GoSem.ClaimSeven
namespace Go.Proofs.YtfnlddloalineaaGreatDoor
namespace Rows

/-- THE TIED CARD OF 'tallystonelaw57.QueryParse'. -/
def queryParseCard : Claim7 := { stood := { row := queryParseRow, standIns := [], harness := (true, "0db0306e43ec21563f1ade9bcd325901e5f42f742668902abd65131caaf7b5e8"), looks := true }, kinds := [], alts := [], laidByText := true, laidKinds := [.data, .data, .data, .data, .sentinel, .sentinel, .pinned], laidTests := true, laidLooks := .later }
def QueryParseCardSaid : Prop := Claim7.holds Tryz.pinned (.plain (OpenSpec.ofChange queryParseSpec)) queryParseCard

/-- THE TIED CARD OF 'tallystonelaw57.QueryPrint'. -/
def queryPrintCard : Claim7 := { stood := { row := queryPrintRow, standIns := [], harness := (true, "0db0306e43ec21563f1ade9bcd325901e5f42f742668902abd65131caaf7b5e8"), looks := true }, kinds := [], alts := [], laidByText := true, laidKinds := [.data, .data, .data, .data, .sentinel, .sentinel, .pinned], laidTests := true, laidLooks := .later }
def QueryPrintCardSaid : Prop := Claim7.holds Tryz.pinned (.plain (OpenSpec.ofChange queryPrintSpec)) queryPrintCard

/-- THE TIED CARD OF 'tallystonelaw57.QueryText'. -/
def queryTextCard : Claim7 := { stood := { row := queryTextRow, standIns := [], harness := (true, "0db0306e43ec21563f1ade9bcd325901e5f42f742668902abd65131caaf7b5e8"), looks := true }, kinds := [], alts := [], laidByText := true, laidKinds := [.data, .data, .data, .data, .sentinel, .sentinel, .pinned], laidTests := true, laidLooks := .later }
def QueryTextCardSaid : Prop := Claim7.holds Tryz.pinned (.plain (OpenSpec.ofChange queryTextSpec)) queryTextCard

/-- THE TIED CARD OF 'tallystonelaw57.QueryFacts'. -/
def queryFactsCard : Claim7 := { stood := { row := queryFactsRow, standIns := [], harness := (true, "0db0306e43ec21563f1ade9bcd325901e5f42f742668902abd65131caaf7b5e8"), looks := true }, kinds := [], alts := [], laidByText := true, laidKinds := [.data, .data, .data, .data, .sentinel, .sentinel, .pinned], laidTests := true, laidLooks := .later }
def QueryFactsCardSaid : Prop := Claim7.holds Tryz.pinned (.plain (OpenSpec.ofChange queryFactsSpec)) queryFactsCard

/-- THE TIED CARD OF 'tallystonelaw57.QueryRun'. -/
def queryRunCard : Claim7 := { stood := { row := queryRunRow, standIns := [], harness := (true, "0db0306e43ec21563f1ade9bcd325901e5f42f742668902abd65131caaf7b5e8"), looks := true }, kinds := [], alts := [], laidByText := true, laidKinds := [.data, .data, .data, .data, .sentinel, .sentinel, .pinned], laidTests := true, laidLooks := .later }
def QueryRunCardSaid : Prop := Claim7.holds Tryz.pinned (.plain (OpenSpec.ofChange queryRunSpec)) queryRunCard

/-- THE TIED CARD OF 'tallystonelaw57.QueryGroups'. -/
def queryGroupsCard : Claim7 := { stood := { row := queryGroupsRow, standIns := [], harness := (true, "0db0306e43ec21563f1ade9bcd325901e5f42f742668902abd65131caaf7b5e8"), looks := true }, kinds := [], alts := [], laidByText := true, laidKinds := [.data, .data, .data, .data, .sentinel, .sentinel, .pinned], laidTests := true, laidLooks := .later }
def QueryGroupsCardSaid : Prop := Claim7.holds Tryz.pinned (.plain (OpenSpec.ofChange queryGroupsSpec)) queryGroupsCard

/-- THE TIED CARD OF 'tallystonelaw57.QueryDivides'. -/
def queryDividesCard : Claim7 := { stood := { row := queryDividesRow, standIns := [], harness := (true, "0db0306e43ec21563f1ade9bcd325901e5f42f742668902abd65131caaf7b5e8"), looks := true }, kinds := [], alts := [], laidByText := true, laidKinds := [.data, .data, .data, .data, .sentinel, .sentinel, .pinned], laidTests := true, laidLooks := .later }
def QueryDividesCardSaid : Prop := Claim7.holds Tryz.pinned (.plain (OpenSpec.ofChange queryDividesSpec)) queryDividesCard

/-- THE TIED CARD OF 'tallystonelaw57.QueryBalance'. -/
def queryBalanceCard : Claim7 := { stood := { row := queryBalanceRow, standIns := [], harness := (true, "0db0306e43ec21563f1ade9bcd325901e5f42f742668902abd65131caaf7b5e8"), looks := true }, kinds := [], alts := [], laidByText := true, laidKinds := [.data, .data, .data, .data, .sentinel, .sentinel, .pinned], laidTests := true, laidLooks := .later }
def QueryBalanceCardSaid : Prop := Claim7.holds Tryz.pinned (.plain (OpenSpec.ofChange queryBalanceSpec)) queryBalanceCard

/-- THE SECOND FORM's CARD OF 'tallystonelaw57.QueryParse'. -/
def queryParseUptoCard : Claim7 := { stood := { row := queryParseUptoRow, standIns := [], harness := (true, "0db0306e43ec21563f1ade9bcd325901e5f42f742668902abd65131caaf7b5e8"), looks := true }, kinds := [], alts := [], laidByText := true, laidKinds := [.data, .data, .data, .data, .sentinel, .sentinel, .pinned], laidTests := true, laidLooks := .later }
def QueryParseUptoCardSaid : Prop := Claim7.holds Tryz.pinned (.plain (OpenSpec.upto queryParseSpec)) queryParseUptoCard

/-- THE SECOND FORM's CARD OF 'tallystonelaw57.QueryPrint'. -/
def queryPrintUptoCard : Claim7 := { stood := { row := queryPrintUptoRow, standIns := [], harness := (true, "0db0306e43ec21563f1ade9bcd325901e5f42f742668902abd65131caaf7b5e8"), looks := true }, kinds := [], alts := [], laidByText := true, laidKinds := [.data, .data, .data, .data, .sentinel, .sentinel, .pinned], laidTests := true, laidLooks := .later }
def QueryPrintUptoCardSaid : Prop := Claim7.holds Tryz.pinned (.plain (OpenSpec.upto queryPrintSpec)) queryPrintUptoCard

/-- THE SECOND FORM's CARD OF 'tallystonelaw57.QueryText'. -/
def queryTextUptoCard : Claim7 := { stood := { row := queryTextUptoRow, standIns := [], harness := (true, "0db0306e43ec21563f1ade9bcd325901e5f42f742668902abd65131caaf7b5e8"), looks := true }, kinds := [], alts := [], laidByText := true, laidKinds := [.data, .data, .data, .data, .sentinel, .sentinel, .pinned], laidTests := true, laidLooks := .later }
def QueryTextUptoCardSaid : Prop := Claim7.holds Tryz.pinned (.plain (OpenSpec.upto queryTextSpec)) queryTextUptoCard

/-- THE SECOND FORM's CARD OF 'tallystonelaw57.QueryFacts'. -/
def queryFactsUptoCard : Claim7 := { stood := { row := queryFactsUptoRow, standIns := [], harness := (true, "0db0306e43ec21563f1ade9bcd325901e5f42f742668902abd65131caaf7b5e8"), looks := true }, kinds := [], alts := [], laidByText := true, laidKinds := [.data, .data, .data, .data, .sentinel, .sentinel, .pinned], laidTests := true, laidLooks := .later }
def QueryFactsUptoCardSaid : Prop := Claim7.holds Tryz.pinned (.plain (OpenSpec.upto queryFactsSpec)) queryFactsUptoCard

/-- THE SECOND FORM's CARD OF 'tallystonelaw57.QueryRun'. -/
def queryRunUptoCard : Claim7 := { stood := { row := queryRunUptoRow, standIns := [], harness := (true, "0db0306e43ec21563f1ade9bcd325901e5f42f742668902abd65131caaf7b5e8"), looks := true }, kinds := [], alts := [], laidByText := true, laidKinds := [.data, .data, .data, .data, .sentinel, .sentinel, .pinned], laidTests := true, laidLooks := .later }
def QueryRunUptoCardSaid : Prop := Claim7.holds Tryz.pinned (.plain (OpenSpec.upto queryRunSpec)) queryRunUptoCard

/-- THE SECOND FORM's CARD OF 'tallystonelaw57.QueryGroups'. -/
def queryGroupsUptoCard : Claim7 := { stood := { row := queryGroupsUptoRow, standIns := [], harness := (true, "0db0306e43ec21563f1ade9bcd325901e5f42f742668902abd65131caaf7b5e8"), looks := true }, kinds := [], alts := [], laidByText := true, laidKinds := [.data, .data, .data, .data, .sentinel, .sentinel, .pinned], laidTests := true, laidLooks := .later }
def QueryGroupsUptoCardSaid : Prop := Claim7.holds Tryz.pinned (.plain (OpenSpec.upto queryGroupsSpec)) queryGroupsUptoCard

/-- THE SECOND FORM's CARD OF 'tallystonelaw57.QueryDivides'. -/
def queryDividesUptoCard : Claim7 := { stood := { row := queryDividesUptoRow, standIns := [], harness := (true, "0db0306e43ec21563f1ade9bcd325901e5f42f742668902abd65131caaf7b5e8"), looks := true }, kinds := [], alts := [], laidByText := true, laidKinds := [.data, .data, .data, .data, .sentinel, .sentinel, .pinned], laidTests := true, laidLooks := .later }
def QueryDividesUptoCardSaid : Prop := Claim7.holds Tryz.pinned (.plain (OpenSpec.upto queryDividesSpec)) queryDividesUptoCard

/-- THE SECOND FORM's CARD OF 'tallystonelaw57.QueryBalance'. -/
def queryBalanceUptoCard : Claim7 := { stood := { row := queryBalanceUptoRow, standIns := [], harness := (true, "0db0306e43ec21563f1ade9bcd325901e5f42f742668902abd65131caaf7b5e8"), looks := true }, kinds := [], alts := [], laidByText := true, laidKinds := [.data, .data, .data, .data, .sentinel, .sentinel, .pinned], laidTests := true, laidLooks := .later }
def QueryBalanceUptoCardSaid : Prop := Claim7.holds Tryz.pinned (.plain (OpenSpec.upto queryBalanceSpec)) queryBalanceUptoCard
end Rows
end Go.Proofs.YtfnlddloalineaaGreatDoor
