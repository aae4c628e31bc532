/-
  DERIVED. GIVEN WITH THE SEED: THE CARDS: each row of YtlnipkhdaikdkaaDoorRows.lean that lists a variable, with what it lists TIED to the program's text (the seventh form; the later family's looks); each row that meets fmt, with fmt's text TOLD by the authors' own Lean function (tested against real Go, not proved from fmt's source: count such statements apart). THE CARD IS WHAT COUNTS. Prove the row's statement (the work); the ties are given (YtlnipkhdaikdkaaDoorTie.lean); close each card by the builder's one call (the guide's Derived/Test/ToyasCard.lean, 'card_holds'). Laid BY PROGRAM, IN A SANDBOX (cutbox-door.mjs). By AI agents, Wed Nov 11 2026. No macro, syntax, notation, axiom, sorry.
-/
import Derived.Test.YtlnipkhdaikdkaaDoorRows
import GoSem.ClaimSeven
namespace Go.Proofs.YtlnipkhdaikdkaaDoor
namespace Rows

/-- THE TIED CARD OF 'sashlaw02.SumIs'. -/
def sumIsCard : Claim7 := { stood := { row := sumIsRow, standIns := [], harness := (true, "37df3e5c7bc3d9377e3a63a82ecbfe12d6f8fd5f1652f8474950bf78207a8e29"), looks := true }, kinds := [], alts := [], laidByText := true, laidKinds := [.data, .data, .data], laidTests := true, laidLooks := .later }
def SumIsCardSaid : Prop := Claim7.holds Tryd.pinned (.plain (OpenSpec.ofChange sumIsSpec)) sumIsCard

/-- THE TIED CARD OF 'sashlaw02.SumJoins'. -/
def sumJoinsCard : Claim7 := { stood := { row := sumJoinsRow, standIns := [], harness := (true, "37df3e5c7bc3d9377e3a63a82ecbfe12d6f8fd5f1652f8474950bf78207a8e29"), looks := true }, kinds := [], alts := [], laidByText := true, laidKinds := [.data, .data, .data], laidTests := true, laidLooks := .later }
def SumJoinsCardSaid : Prop := Claim7.holds Tryd.pinned (.plain (OpenSpec.ofChange sumJoinsSpec)) sumJoinsCard

/-- THE TIED CARD OF 'sashlaw01.NumDigits'. -/
def numDigitsCard : Claim7 := { stood := { row := numDigitsRow, standIns := [], harness := (true, "37df3e5c7bc3d9377e3a63a82ecbfe12d6f8fd5f1652f8474950bf78207a8e29"), looks := true }, kinds := [], alts := [], laidByText := true, laidKinds := [.data, .data, .data, .sentinel, .sentinel], laidTests := true, laidLooks := .later }
def NumDigitsCardSaid : Prop := Claim7.holds Tryd.pinned (.plain (OpenSpec.ofChange numDigitsSpec)) numDigitsCard

/-- THE TIED CARD OF 'sashlaw01.NumHeads'. -/
def numHeadsCard : Claim7 := { stood := { row := numHeadsRow, standIns := [], harness := (true, "37df3e5c7bc3d9377e3a63a82ecbfe12d6f8fd5f1652f8474950bf78207a8e29"), looks := true }, kinds := [], alts := [], laidByText := true, laidKinds := [.data, .data, .data, .sentinel, .sentinel], laidTests := true, laidLooks := .later }
def NumHeadsCardSaid : Prop := Claim7.holds Tryd.pinned (.plain (OpenSpec.ofChange numHeadsSpec)) numHeadsCard

/-- THE TIED CARD OF 'sashlaw01.NumReads'. -/
def numReadsCard : Claim7 := { stood := { row := numReadsRow, standIns := [], harness := (true, "37df3e5c7bc3d9377e3a63a82ecbfe12d6f8fd5f1652f8474950bf78207a8e29"), looks := true }, kinds := [], alts := [], laidByText := true, laidKinds := [.data, .data, .data, .sentinel, .sentinel], laidTests := true, laidLooks := .later }
def NumReadsCardSaid : Prop := Claim7.holds Tryd.pinned (.plain (OpenSpec.ofChange numReadsSpec)) numReadsCard

/-- THE TIED CARD OF 'sashlaw01.NumBack'. -/
def numBackCard : Claim7 := { stood := { row := numBackRow, standIns := [], harness := (true, "37df3e5c7bc3d9377e3a63a82ecbfe12d6f8fd5f1652f8474950bf78207a8e29"), looks := true }, kinds := [], alts := [], laidByText := true, laidKinds := [.data, .data, .data, .sentinel, .sentinel], laidTests := true, laidLooks := .later }
def NumBackCardSaid : Prop := Claim7.holds Tryd.pinned (.plain (OpenSpec.ofChange numBackSpec)) numBackCard

/-- THE TIED CARD OF 'sashlaw02.SumCuts'. -/
def sumCutsCard : Claim7 := { stood := { row := sumCutsRow, standIns := [], harness := (true, "37df3e5c7bc3d9377e3a63a82ecbfe12d6f8fd5f1652f8474950bf78207a8e29"), looks := true }, kinds := [], alts := [], laidByText := true, laidKinds := [.data, .data, .data, .sentinel, .sentinel], laidTests := true, laidLooks := .later }
def SumCutsCardSaid : Prop := Claim7.holds Tryd.pinned (.plain (OpenSpec.ofChange sumCutsSpec)) sumCutsCard

/-- THE TIED CARD OF 'sashlaw02.SumTells'. -/
def sumTellsCard : Claim7 := { stood := { row := sumTellsRow, standIns := [], harness := (true, "37df3e5c7bc3d9377e3a63a82ecbfe12d6f8fd5f1652f8474950bf78207a8e29"), looks := true }, kinds := [], alts := [], laidByText := true, laidKinds := [.data, .data, .data, .sentinel, .sentinel], laidTests := true, laidLooks := .later }
def SumTellsCardSaid : Prop := Claim7.holds Tryd.pinned (.plain (OpenSpec.ofChange sumTellsSpec)) sumTellsCard

/-- THE TIED CARD OF 'sashlaw02.SumLong'. -/
def sumLongCard : Claim7 := { stood := { row := sumLongRow, standIns := [], harness := (true, "37df3e5c7bc3d9377e3a63a82ecbfe12d6f8fd5f1652f8474950bf78207a8e29"), looks := true }, kinds := [], alts := [], laidByText := true, laidKinds := [.data, .data, .data, .sentinel, .sentinel], laidTests := true, laidLooks := .later }
def SumLongCardSaid : Prop := Claim7.holds Tryd.pinned (.plain (OpenSpec.ofChange sumLongSpec)) sumLongCard

/-- THE TIED CARD OF 'sashlaw01.NumHex'. -/
def numHexCard : Claim7 := { stood := { row := numHexRow, standIns := [], harness := (true, "37df3e5c7bc3d9377e3a63a82ecbfe12d6f8fd5f1652f8474950bf78207a8e29"), looks := true }, kinds := [], alts := [], laidByText := true, laidKinds := [.data, .data, .data, .sentinel, .sentinel], laidTests := true, laidLooks := .later }
def NumHexCardSaid : Prop := Claim7.holds Tryd.pinned (.plain (OpenSpec.ofChange numHexSpec)) numHexCard

/-- THE SECOND FORM's CARD OF 'sashlaw02.SumIs'. -/
def sumIsUptoCard : Claim7 := { stood := { row := sumIsUptoRow, standIns := [], harness := (true, "37df3e5c7bc3d9377e3a63a82ecbfe12d6f8fd5f1652f8474950bf78207a8e29"), looks := true }, kinds := [], alts := [], laidByText := true, laidKinds := [.data, .data, .data], laidTests := true, laidLooks := .later }
def SumIsUptoCardSaid : Prop := Claim7.holds Tryd.pinned (.plain (OpenSpec.upto sumIsSpec)) sumIsUptoCard

/-- THE SECOND FORM's CARD OF 'sashlaw02.SumJoins'. -/
def sumJoinsUptoCard : Claim7 := { stood := { row := sumJoinsUptoRow, standIns := [], harness := (true, "37df3e5c7bc3d9377e3a63a82ecbfe12d6f8fd5f1652f8474950bf78207a8e29"), looks := true }, kinds := [], alts := [], laidByText := true, laidKinds := [.data, .data, .data], laidTests := true, laidLooks := .later }
def SumJoinsUptoCardSaid : Prop := Claim7.holds Tryd.pinned (.plain (OpenSpec.upto sumJoinsSpec)) sumJoinsUptoCard

/-- THE SECOND FORM's CARD OF 'sashlaw01.NumDigits'. -/
def numDigitsUptoCard : Claim7 := { stood := { row := numDigitsUptoRow, standIns := [], harness := (true, "37df3e5c7bc3d9377e3a63a82ecbfe12d6f8fd5f1652f8474950bf78207a8e29"), looks := true }, kinds := [], alts := [], laidByText := true, laidKinds := [.data, .data, .data, .sentinel, .sentinel], laidTests := true, laidLooks := .later }
def NumDigitsUptoCardSaid : Prop := Claim7.holds Tryd.pinned (.plain (OpenSpec.upto numDigitsSpec)) numDigitsUptoCard

/-- THE SECOND FORM's CARD OF 'sashlaw01.NumHeads'. -/
def numHeadsUptoCard : Claim7 := { stood := { row := numHeadsUptoRow, standIns := [], harness := (true, "37df3e5c7bc3d9377e3a63a82ecbfe12d6f8fd5f1652f8474950bf78207a8e29"), looks := true }, kinds := [], alts := [], laidByText := true, laidKinds := [.data, .data, .data, .sentinel, .sentinel], laidTests := true, laidLooks := .later }
def NumHeadsUptoCardSaid : Prop := Claim7.holds Tryd.pinned (.plain (OpenSpec.upto numHeadsSpec)) numHeadsUptoCard

/-- THE SECOND FORM's CARD OF 'sashlaw01.NumReads'. -/
def numReadsUptoCard : Claim7 := { stood := { row := numReadsUptoRow, standIns := [], harness := (true, "37df3e5c7bc3d9377e3a63a82ecbfe12d6f8fd5f1652f8474950bf78207a8e29"), looks := true }, kinds := [], alts := [], laidByText := true, laidKinds := [.data, .data, .data, .sentinel, .sentinel], laidTests := true, laidLooks := .later }
def NumReadsUptoCardSaid : Prop := Claim7.holds Tryd.pinned (.plain (OpenSpec.upto numReadsSpec)) numReadsUptoCard

/-- THE SECOND FORM's CARD OF 'sashlaw01.NumBack'. -/
def numBackUptoCard : Claim7 := { stood := { row := numBackUptoRow, standIns := [], harness := (true, "37df3e5c7bc3d9377e3a63a82ecbfe12d6f8fd5f1652f8474950bf78207a8e29"), looks := true }, kinds := [], alts := [], laidByText := true, laidKinds := [.data, .data, .data, .sentinel, .sentinel], laidTests := true, laidLooks := .later }
def NumBackUptoCardSaid : Prop := Claim7.holds Tryd.pinned (.plain (OpenSpec.upto numBackSpec)) numBackUptoCard

/-- THE SECOND FORM's CARD OF 'sashlaw02.SumCuts'. -/
def sumCutsUptoCard : Claim7 := { stood := { row := sumCutsUptoRow, standIns := [], harness := (true, "37df3e5c7bc3d9377e3a63a82ecbfe12d6f8fd5f1652f8474950bf78207a8e29"), looks := true }, kinds := [], alts := [], laidByText := true, laidKinds := [.data, .data, .data, .sentinel, .sentinel], laidTests := true, laidLooks := .later }
def SumCutsUptoCardSaid : Prop := Claim7.holds Tryd.pinned (.plain (OpenSpec.upto sumCutsSpec)) sumCutsUptoCard

/-- THE SECOND FORM's CARD OF 'sashlaw02.SumTells'. -/
def sumTellsUptoCard : Claim7 := { stood := { row := sumTellsUptoRow, standIns := [], harness := (true, "37df3e5c7bc3d9377e3a63a82ecbfe12d6f8fd5f1652f8474950bf78207a8e29"), looks := true }, kinds := [], alts := [], laidByText := true, laidKinds := [.data, .data, .data, .sentinel, .sentinel], laidTests := true, laidLooks := .later }
def SumTellsUptoCardSaid : Prop := Claim7.holds Tryd.pinned (.plain (OpenSpec.upto sumTellsSpec)) sumTellsUptoCard

/-- THE SECOND FORM's CARD OF 'sashlaw02.SumLong'. -/
def sumLongUptoCard : Claim7 := { stood := { row := sumLongUptoRow, standIns := [], harness := (true, "37df3e5c7bc3d9377e3a63a82ecbfe12d6f8fd5f1652f8474950bf78207a8e29"), looks := true }, kinds := [], alts := [], laidByText := true, laidKinds := [.data, .data, .data, .sentinel, .sentinel], laidTests := true, laidLooks := .later }
def SumLongUptoCardSaid : Prop := Claim7.holds Tryd.pinned (.plain (OpenSpec.upto sumLongSpec)) sumLongUptoCard

/-- THE SECOND FORM's CARD OF 'sashlaw01.NumHex'. -/
def numHexUptoCard : Claim7 := { stood := { row := numHexUptoRow, standIns := [], harness := (true, "37df3e5c7bc3d9377e3a63a82ecbfe12d6f8fd5f1652f8474950bf78207a8e29"), looks := true }, kinds := [], alts := [], laidByText := true, laidKinds := [.data, .data, .data, .sentinel, .sentinel], laidTests := true, laidLooks := .later }
def NumHexUptoCardSaid : Prop := Claim7.holds Tryd.pinned (.plain (OpenSpec.upto numHexSpec)) numHexUptoCard
end Rows
end Go.Proofs.YtlnipkhdaikdkaaDoor
