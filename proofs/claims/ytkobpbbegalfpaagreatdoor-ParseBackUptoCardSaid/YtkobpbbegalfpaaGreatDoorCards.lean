/-
  DERIVED. GIVEN WITH THE SEED: THE CARDS: each row of YtkobpbbegalfpaaGreatDoorRows.lean that lists a variable, with what it lists TIED to the program's text (the seventh form; the later family's looks); each row that meets fmt, with fmt's text TOLD by the authors' own Lean function (tested against real Go, not proved from fmt's source: count such statements apart). THE CARD IS WHAT COUNTS. Prove the row's statement (the work); the ties are given (YtkobpbbegalfpaaGreatDoorTie.lean); close each card by the builder's one call (the guide's Derived/Test/ToyasCard.lean, 'card_holds'). Laid BY PROGRAM, IN A SANDBOX (cutbox-door.mjs). By AI agents, Wed Nov 11 2026. No macro, syntax, notation, axiom, sorry.
-/
import Derived.Test.YtkobpbbegalfpaaGreatDoorRows
import GoSem.ClaimSeven
namespace Go.Proofs.YtkobpbbegalfpaaGreatDoor
namespace Rows

/-- THE TIED CARD OF 'sashlaw11.ParseBodies'. -/
def parseBodiesCard : Claim7 := { stood := { row := parseBodiesRow, standIns := [], harness := (true, "abbe7653a886d44d81128622b52efe390e7394fd90eebe0809349c50cc64ee83"), looks := true }, kinds := [], alts := [], laidByText := true, laidKinds := [.data, .data, .data, .handle, .sentinel, .sentinel], laidTests := true, laidLooks := .later }
def ParseBodiesCardSaid : Prop := Claim7.holds Tryz.pinned (.plain (OpenSpec.ofChange parseBodiesSpec)) parseBodiesCard

/-- THE TIED CARD OF 'sashlaw11.ParseDeep'. -/
def parseDeepCard : Claim7 := { stood := { row := parseDeepRow, standIns := [], harness := (true, "abbe7653a886d44d81128622b52efe390e7394fd90eebe0809349c50cc64ee83"), looks := true }, kinds := [], alts := [], laidByText := true, laidKinds := [.data, .data, .data, .handle, .sentinel, .sentinel], laidTests := true, laidLooks := .later }
def ParseDeepCardSaid : Prop := Claim7.holds Tryz.pinned (.plain (OpenSpec.ofChange parseDeepSpec)) parseDeepCard

/-- THE TIED CARD OF 'sashlaw11.ParsePanes'. -/
def parsePanesCard : Claim7 := { stood := { row := parsePanesRow, standIns := [], harness := (true, "abbe7653a886d44d81128622b52efe390e7394fd90eebe0809349c50cc64ee83"), looks := true }, kinds := [], alts := [], laidByText := true, laidKinds := [.data, .data, .data, .handle, .sentinel, .sentinel], laidTests := true, laidLooks := .later }
def ParsePanesCardSaid : Prop := Claim7.holds Tryz.pinned (.plain (OpenSpec.ofChange parsePanesSpec)) parsePanesCard

/-- THE TIED CARD OF 'sashlaw11.ParseTexts'. -/
def parseTextsCard : Claim7 := { stood := { row := parseTextsRow, standIns := [], harness := (true, "abbe7653a886d44d81128622b52efe390e7394fd90eebe0809349c50cc64ee83"), looks := true }, kinds := [], alts := [], laidByText := true, laidKinds := [.data, .data, .data, .handle, .sentinel, .sentinel], laidTests := true, laidLooks := .later }
def ParseTextsCardSaid : Prop := Claim7.holds Tryz.pinned (.plain (OpenSpec.ofChange parseTextsSpec)) parseTextsCard

/-- THE TIED CARD OF 'sashlaw11.ParseBack'. -/
def parseBackCard : Claim7 := { stood := { row := parseBackRow, standIns := [], harness := (true, "abbe7653a886d44d81128622b52efe390e7394fd90eebe0809349c50cc64ee83"), looks := true }, kinds := [], alts := [], laidByText := true, laidKinds := [.data, .data, .data, .handle, .sentinel, .sentinel], laidTests := true, laidLooks := .later }
def ParseBackCardSaid : Prop := Claim7.holds Tryz.pinned (.plain (OpenSpec.ofChange parseBackSpec)) parseBackCard

/-- THE SECOND FORM's CARD OF 'sashlaw11.ParseBodies'. -/
def parseBodiesUptoCard : Claim7 := { stood := { row := parseBodiesUptoRow, standIns := [], harness := (true, "abbe7653a886d44d81128622b52efe390e7394fd90eebe0809349c50cc64ee83"), looks := true }, kinds := [], alts := [], laidByText := true, laidKinds := [.data, .data, .data, .handle, .sentinel, .sentinel], laidTests := true, laidLooks := .later }
def ParseBodiesUptoCardSaid : Prop := Claim7.holds Tryz.pinned (.plain (OpenSpec.upto parseBodiesSpec)) parseBodiesUptoCard

/-- THE SECOND FORM's CARD OF 'sashlaw11.ParseDeep'. -/
def parseDeepUptoCard : Claim7 := { stood := { row := parseDeepUptoRow, standIns := [], harness := (true, "abbe7653a886d44d81128622b52efe390e7394fd90eebe0809349c50cc64ee83"), looks := true }, kinds := [], alts := [], laidByText := true, laidKinds := [.data, .data, .data, .handle, .sentinel, .sentinel], laidTests := true, laidLooks := .later }
def ParseDeepUptoCardSaid : Prop := Claim7.holds Tryz.pinned (.plain (OpenSpec.upto parseDeepSpec)) parseDeepUptoCard

/-- THE SECOND FORM's CARD OF 'sashlaw11.ParsePanes'. -/
def parsePanesUptoCard : Claim7 := { stood := { row := parsePanesUptoRow, standIns := [], harness := (true, "abbe7653a886d44d81128622b52efe390e7394fd90eebe0809349c50cc64ee83"), looks := true }, kinds := [], alts := [], laidByText := true, laidKinds := [.data, .data, .data, .handle, .sentinel, .sentinel], laidTests := true, laidLooks := .later }
def ParsePanesUptoCardSaid : Prop := Claim7.holds Tryz.pinned (.plain (OpenSpec.upto parsePanesSpec)) parsePanesUptoCard

/-- THE SECOND FORM's CARD OF 'sashlaw11.ParseTexts'. -/
def parseTextsUptoCard : Claim7 := { stood := { row := parseTextsUptoRow, standIns := [], harness := (true, "abbe7653a886d44d81128622b52efe390e7394fd90eebe0809349c50cc64ee83"), looks := true }, kinds := [], alts := [], laidByText := true, laidKinds := [.data, .data, .data, .handle, .sentinel, .sentinel], laidTests := true, laidLooks := .later }
def ParseTextsUptoCardSaid : Prop := Claim7.holds Tryz.pinned (.plain (OpenSpec.upto parseTextsSpec)) parseTextsUptoCard

/-- THE SECOND FORM's CARD OF 'sashlaw11.ParseBack'. -/
def parseBackUptoCard : Claim7 := { stood := { row := parseBackUptoRow, standIns := [], harness := (true, "abbe7653a886d44d81128622b52efe390e7394fd90eebe0809349c50cc64ee83"), looks := true }, kinds := [], alts := [], laidByText := true, laidKinds := [.data, .data, .data, .handle, .sentinel, .sentinel], laidTests := true, laidLooks := .later }
def ParseBackUptoCardSaid : Prop := Claim7.holds Tryz.pinned (.plain (OpenSpec.upto parseBackSpec)) parseBackUptoCard
end Rows
end Go.Proofs.YtkobpbbegalfpaaGreatDoor
