/-
  DERIVED. GIVEN WITH THE SEED: THE CARDS: each row of YtcmmppkmkejniaaGreatDoorRows.lean that lists a variable, with what it lists TIED to the program's text (the seventh form; the later family's looks); each row that meets fmt, with fmt's text TOLD by the authors' own Lean function (tested against real Go, not proved from fmt's source: count such statements apart). THE CARD IS WHAT COUNTS. Prove the row's statement (the work); the ties are given (YtcmmppkmkejniaaGreatDoorTie.lean); close each card by the builder's one call (the guide's Derived/Test/ToyasCard.lean, 'card_holds'). Laid BY PROGRAM, IN A SANDBOX (cutbox-door.mjs). By AI agents, Wed Nov 11 2026. No macro, syntax, notation, axiom, sorry.
-/
import Derived.Test.YtcmmppkmkejniaaGreatDoorRows
import GoSem.ClaimSeven
namespace Go.Proofs.YtcmmppkmkejniaaGreatDoor
namespace Rows

/-- THE TIED CARD OF 'tallystonelaw50.StatementGroup'. -/
def statementGroupCard : Claim7 := { stood := { row := statementGroupRow, standIns := [], harness := (true, "c1e34535da01cd6b567aa68b5401f70d4d1410ab9aedfd109efad1d9cbade65c"), looks := false }, kinds := [], alts := [], laidByText := true, laidKinds := [.data, .data, .data, .data, .pinned], laidTests := true, laidLooks := .later }
def StatementGroupCardSaid : Prop := Claim7.holds Tryz.pinned (.plain (OpenSpec.ofChange statementGroupSpec)) statementGroupCard

/-- THE TIED CARD OF 'tallystonelaw50.StatementComplete'. -/
def statementCompleteCard : Claim7 := { stood := { row := statementCompleteRow, standIns := [], harness := (true, "c1e34535da01cd6b567aa68b5401f70d4d1410ab9aedfd109efad1d9cbade65c"), looks := false }, kinds := [], alts := [], laidByText := true, laidKinds := [.data, .data, .data, .data, .pinned], laidTests := true, laidLooks := .later }
def StatementCompleteCardSaid : Prop := Claim7.holds Tryz.pinned (.plain (OpenSpec.ofChange statementCompleteSpec)) statementCompleteCard

/-- THE TIED CARD OF 'tallystonelaw51.ReportBalances'. -/
def reportBalancesCard : Claim7 := { stood := { row := reportBalancesRow, standIns := [], harness := (true, "c1e34535da01cd6b567aa68b5401f70d4d1410ab9aedfd109efad1d9cbade65c"), looks := false }, kinds := [], alts := [], laidByText := true, laidKinds := [.data, .data, .data, .data, .pinned], laidTests := true, laidLooks := .later }
def ReportBalancesCardSaid : Prop := Claim7.holds Tryz.pinned (.plain (OpenSpec.ofChange reportBalancesSpec)) reportBalancesCard

/-- THE SECOND FORM's CARD OF 'tallystonelaw50.StatementGroup'. -/
def statementGroupUptoCard : Claim7 := { stood := { row := statementGroupUptoRow, standIns := [], harness := (true, "c1e34535da01cd6b567aa68b5401f70d4d1410ab9aedfd109efad1d9cbade65c"), looks := false }, kinds := [], alts := [], laidByText := true, laidKinds := [.data, .data, .data, .data, .pinned], laidTests := true, laidLooks := .later }
def StatementGroupUptoCardSaid : Prop := Claim7.holds Tryz.pinned (.plain (OpenSpec.upto statementGroupSpec)) statementGroupUptoCard

/-- THE SECOND FORM's CARD OF 'tallystonelaw50.StatementComplete'. -/
def statementCompleteUptoCard : Claim7 := { stood := { row := statementCompleteUptoRow, standIns := [], harness := (true, "c1e34535da01cd6b567aa68b5401f70d4d1410ab9aedfd109efad1d9cbade65c"), looks := false }, kinds := [], alts := [], laidByText := true, laidKinds := [.data, .data, .data, .data, .pinned], laidTests := true, laidLooks := .later }
def StatementCompleteUptoCardSaid : Prop := Claim7.holds Tryz.pinned (.plain (OpenSpec.upto statementCompleteSpec)) statementCompleteUptoCard

/-- THE SECOND FORM's CARD OF 'tallystonelaw51.ReportBalances'. -/
def reportBalancesUptoCard : Claim7 := { stood := { row := reportBalancesUptoRow, standIns := [], harness := (true, "c1e34535da01cd6b567aa68b5401f70d4d1410ab9aedfd109efad1d9cbade65c"), looks := false }, kinds := [], alts := [], laidByText := true, laidKinds := [.data, .data, .data, .data, .pinned], laidTests := true, laidLooks := .later }
def ReportBalancesUptoCardSaid : Prop := Claim7.holds Tryz.pinned (.plain (OpenSpec.upto reportBalancesSpec)) reportBalancesUptoCard
end Rows
end Go.Proofs.YtcmmppkmkejniaaGreatDoor
