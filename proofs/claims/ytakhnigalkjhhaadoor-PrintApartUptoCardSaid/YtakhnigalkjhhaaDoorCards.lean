/-
  DERIVED. GIVEN WITH THE SEED: THE CARDS: each row of YtakhnigalkjhhaaDoorRows.lean that lists a variable, with what it lists TIED to the program's text (the seventh form; the later family's looks); each row that meets fmt, with fmt's text TOLD by the authors' own Lean function (tested against real Go, not proved from fmt's source: count such statements apart). THE CARD IS WHAT COUNTS. Prove the row's statement (the work); the ties are given (YtakhnigalkjhhaaDoorTie.lean); close each card by the builder's one call (the guide's Derived/Test/ToyasCard.lean, 'card_holds'). Laid BY PROGRAM, IN A SANDBOX (cutbox-door.mjs). By AI agents, Wed Nov 11 2026. No macro, syntax, notation, axiom, sorry.
-/
import Derived.Test.YtakhnigalkjhhaaDoorRows
import GoSem.ClaimSeven
namespace Go.Proofs.YtakhnigalkjhhaaDoor
namespace Rows

/-- THE TIED CARD OF 'sashlaw06.TileChecks'. -/
def tileChecksCard : Claim7 := { stood := { row := tileChecksRow, standIns := [], harness := (true, "c56d812353ff1dc7ad76aa80314f2279dbce17ac3e7b1c6b2ea98ada01dc85bb"), looks := true }, kinds := [], alts := [], laidByText := true, laidKinds := [.handle], laidTests := true, laidLooks := .later }
def TileChecksCardSaid : Prop := Claim7.holds Tryd.pinned (.plain (OpenSpec.ofChange tileChecksSpec)) tileChecksCard

/-- THE TIED CARD OF 'sashlaw10.PrintIs'. -/
def printIsCard : Claim7 := { stood := { row := printIsRow, standIns := [], harness := (true, "c56d812353ff1dc7ad76aa80314f2279dbce17ac3e7b1c6b2ea98ada01dc85bb"), looks := true }, kinds := [], alts := [], laidByText := true, laidKinds := [.data, .data, .data], laidTests := true, laidLooks := .later }
def PrintIsCardSaid : Prop := Claim7.holds Tryd.pinned (.plain (OpenSpec.ofChange printIsSpec)) printIsCard

/-- THE TIED CARD OF 'sashlaw10.PrintHeads'. -/
def printHeadsCard : Claim7 := { stood := { row := printHeadsRow, standIns := [], harness := (true, "c56d812353ff1dc7ad76aa80314f2279dbce17ac3e7b1c6b2ea98ada01dc85bb"), looks := true }, kinds := [], alts := [], laidByText := true, laidKinds := [.data, .data, .data], laidTests := true, laidLooks := .later }
def PrintHeadsCardSaid : Prop := Claim7.holds Tryd.pinned (.plain (OpenSpec.ofChange printHeadsSpec)) printHeadsCard

/-- THE TIED CARD OF 'sashlaw10.PrintApart'. -/
def printApartCard : Claim7 := { stood := { row := printApartRow, standIns := [], harness := (true, "c56d812353ff1dc7ad76aa80314f2279dbce17ac3e7b1c6b2ea98ada01dc85bb"), looks := true }, kinds := [], alts := [], laidByText := true, laidKinds := [.data, .data, .data], laidTests := true, laidLooks := .later }
def PrintApartCardSaid : Prop := Claim7.holds Tryd.pinned (.plain (OpenSpec.ofChange printApartSpec)) printApartCard

/-- THE SECOND FORM's CARD OF 'sashlaw06.TileChecks'. -/
def tileChecksUptoCard : Claim7 := { stood := { row := tileChecksUptoRow, standIns := [], harness := (true, "c56d812353ff1dc7ad76aa80314f2279dbce17ac3e7b1c6b2ea98ada01dc85bb"), looks := true }, kinds := [], alts := [], laidByText := true, laidKinds := [.handle], laidTests := true, laidLooks := .later }
def TileChecksUptoCardSaid : Prop := Claim7.holds Tryd.pinned (.plain (OpenSpec.upto tileChecksSpec)) tileChecksUptoCard

/-- THE SECOND FORM's CARD OF 'sashlaw10.PrintIs'. -/
def printIsUptoCard : Claim7 := { stood := { row := printIsUptoRow, standIns := [], harness := (true, "c56d812353ff1dc7ad76aa80314f2279dbce17ac3e7b1c6b2ea98ada01dc85bb"), looks := true }, kinds := [], alts := [], laidByText := true, laidKinds := [.data, .data, .data], laidTests := true, laidLooks := .later }
def PrintIsUptoCardSaid : Prop := Claim7.holds Tryd.pinned (.plain (OpenSpec.upto printIsSpec)) printIsUptoCard

/-- THE SECOND FORM's CARD OF 'sashlaw10.PrintHeads'. -/
def printHeadsUptoCard : Claim7 := { stood := { row := printHeadsUptoRow, standIns := [], harness := (true, "c56d812353ff1dc7ad76aa80314f2279dbce17ac3e7b1c6b2ea98ada01dc85bb"), looks := true }, kinds := [], alts := [], laidByText := true, laidKinds := [.data, .data, .data], laidTests := true, laidLooks := .later }
def PrintHeadsUptoCardSaid : Prop := Claim7.holds Tryd.pinned (.plain (OpenSpec.upto printHeadsSpec)) printHeadsUptoCard

/-- THE SECOND FORM's CARD OF 'sashlaw10.PrintApart'. -/
def printApartUptoCard : Claim7 := { stood := { row := printApartUptoRow, standIns := [], harness := (true, "c56d812353ff1dc7ad76aa80314f2279dbce17ac3e7b1c6b2ea98ada01dc85bb"), looks := true }, kinds := [], alts := [], laidByText := true, laidKinds := [.data, .data, .data], laidTests := true, laidLooks := .later }
def PrintApartUptoCardSaid : Prop := Claim7.holds Tryd.pinned (.plain (OpenSpec.upto printApartSpec)) printApartUptoCard
end Rows
end Go.Proofs.YtakhnigalkjhhaaDoor
