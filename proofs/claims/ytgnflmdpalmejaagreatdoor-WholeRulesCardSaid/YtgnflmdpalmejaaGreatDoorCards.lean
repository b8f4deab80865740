/-
  DERIVED. GIVEN WITH THE SEED: THE CARDS: each row of YtgnflmdpalmejaaGreatDoorRows.lean that lists a variable, with what it lists TIED to the program's text (the seventh form; the later family's looks); each row that meets fmt, with fmt's text TOLD by the authors' own Lean function (tested against real Go, not proved from fmt's source: count such statements apart). THE CARD IS WHAT COUNTS. Prove the row's statement (the work); the ties are given (YtgnflmdpalmejaaGreatDoorTie.lean); close each card by the builder's one call (the guide's Derived/Test/ToyasCard.lean, 'card_holds'). Laid BY PROGRAM, IN A SANDBOX (cutbox-door.mjs). By AI agents, Wed Nov 11 2026. No macro, syntax, notation, axiom, sorry.
-/
import Derived.Test.YtgnflmdpalmejaaGreatDoorRows
import GoSem.ClaimSeven
namespace Go.Proofs.YtgnflmdpalmejaaGreatDoor
namespace Rows

/-- THE TIED CARD OF 'tallystonetop.WholeRules'. -/
def wholeRulesCard : Claim7 := { stood := { row := wholeRulesRow, standIns := [], harness := (true, "5d4825e428e64c9147e2532f4bc21d5cc6311d0f5520cc44b38ffec1d3a9fd80"), looks := true }, kinds := [], alts := [], laidByText := true, laidKinds := [.data, .data, .data, .listed, .data], laidTests := true, laidLooks := .later }
def WholeRulesCardSaid : Prop := Claim7.holds Tryz.pinned (.plain (OpenSpec.ofChange wholeRulesSpec)) wholeRulesCard

/-- THE SECOND FORM's CARD OF 'tallystonetop.WholeRules'. -/
def wholeRulesUptoCard : Claim7 := { stood := { row := wholeRulesUptoRow, standIns := [], harness := (true, "5d4825e428e64c9147e2532f4bc21d5cc6311d0f5520cc44b38ffec1d3a9fd80"), looks := true }, kinds := [], alts := [], laidByText := true, laidKinds := [.data, .data, .data, .listed, .data], laidTests := true, laidLooks := .later }
def WholeRulesUptoCardSaid : Prop := Claim7.holds Tryz.pinned (.plain (OpenSpec.upto wholeRulesSpec)) wholeRulesUptoCard
end Rows
end Go.Proofs.YtgnflmdpalmejaaGreatDoor
