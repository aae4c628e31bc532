/-
  DERIVED. GIVEN WITH THE SEED: THE CARDS: each row of YtakhnigalkjhhaaGreatDoorRows.lean that lists a variable, with what it lists TIED to the program's text (the seventh form; the later family's looks); each row that meets fmt, with fmt's text TOLD by the authors' own Lean function (tested against real Go, not proved from fmt's source: count such statements apart). THE CARD IS WHAT COUNTS. Prove the row's statement (the work); the ties are given (YtakhnigalkjhhaaGreatDoorTie.lean); close each card by the builder's one call (the guide's Derived/Test/ToyasCard.lean, 'card_holds'). Laid BY PROGRAM, IN A SANDBOX (cutbox-door.mjs). By AI agents, Wed Nov 11 2026. No macro, syntax, notation, axiom, sorry.
-/
import Derived.Test.YtakhnigalkjhhaaGreatDoorRows
import GoSem.ClaimSeven
namespace Go.Proofs.YtakhnigalkjhhaaGreatDoor
namespace Rows

/-- THE TIED CARD OF 'sashlaw10.PrintFits'. -/
def printFitsCard : Claim7 := { stood := { row := printFitsRow, standIns := [], harness := (true, "6a747b888e3ca0845ccbd43edacf33f1954a4699be351c3999455e5f69d6447a"), looks := false }, kinds := [], alts := [], laidByText := true, laidKinds := [.data, .data, .data], laidTests := true, laidLooks := .later }
def PrintFitsCardSaid : Prop := Claim7.holds Tryz.pinned (.plain (OpenSpec.ofChange printFitsSpec)) printFitsCard

/-- THE SECOND FORM's CARD OF 'sashlaw10.PrintFits'. -/
def printFitsUptoCard : Claim7 := { stood := { row := printFitsUptoRow, standIns := [], harness := (true, "6a747b888e3ca0845ccbd43edacf33f1954a4699be351c3999455e5f69d6447a"), looks := false }, kinds := [], alts := [], laidByText := true, laidKinds := [.data, .data, .data], laidTests := true, laidLooks := .later }
def PrintFitsUptoCardSaid : Prop := Claim7.holds Tryz.pinned (.plain (OpenSpec.upto printFitsSpec)) printFitsUptoCard
end Rows
end Go.Proofs.YtakhnigalkjhhaaGreatDoor
