/-
  DERIVED. GIVEN WITH THE SEED: THE CARDS: each row of YtelmmcjlhjahcaaDoorRows.lean that lists a variable, with what it lists TIED to the program's text (the seventh form; the later family's looks); each row that meets fmt, with fmt's text TOLD by the authors' own Lean function (tested against real Go, not proved from fmt's source: count such statements apart). THE CARD IS WHAT COUNTS. Prove the row's statement (the work); the ties are given (YtelmmcjlhjahcaaDoorTie.lean); close each card by the builder's one call (the guide's Derived/Test/ToyasCard.lean, 'card_holds'). Laid BY PROGRAM, IN A SANDBOX (cutbox-door.mjs). By AI agents, Wed Nov 11 2026. No macro, syntax, notation, axiom, sorry.
-/
import Derived.Test.YtelmmcjlhjahcaaDoorRows
import GoSem.ClaimSeven
namespace Go.Proofs.YtelmmcjlhjahcaaDoor
namespace Rows

/-- THE TIED CARD OF 'sashlaw03.FaultTells'. -/
def faultTellsCard : Claim7 := { stood := { row := faultTellsRow, standIns := [], harness := (true, "96709975f16c778ecc04528469208c5f59a13cd5641b449851dabf797a2af3ac"), looks := true }, kinds := [], alts := [], laidByText := true, laidKinds := [.handle], laidTests := true, laidLooks := .later }
def FaultTellsCardSaid : Prop := Claim7.holds Tryd.pinned (.plain (OpenSpec.ofChange faultTellsSpec)) faultTellsCard

/-- THE TIED CARD OF 'sashlaw03.FaultAlone'. -/
def faultAloneCard : Claim7 := { stood := { row := faultAloneRow, standIns := [], harness := (true, "96709975f16c778ecc04528469208c5f59a13cd5641b449851dabf797a2af3ac"), looks := true }, kinds := [], alts := [], laidByText := true, laidKinds := [.handle], laidTests := true, laidLooks := .later }
def FaultAloneCardSaid : Prop := Claim7.holds Tryd.pinned (.plain (OpenSpec.ofChange faultAloneSpec)) faultAloneCard

/-- THE TIED CARD OF 'sashlaw20.WordsLong'. -/
def wordsLongCard : Claim7 := { stood := { row := wordsLongRow, standIns := [], harness := (true, "96709975f16c778ecc04528469208c5f59a13cd5641b449851dabf797a2af3ac"), looks := true }, kinds := [], alts := [], laidByText := true, laidKinds := [.handle], laidTests := true, laidLooks := .later }
def WordsLongCardSaid : Prop := Claim7.holds Tryd.pinned (.plain (OpenSpec.ofChange wordsLongSpec)) wordsLongCard

/-- THE TIED CARD OF 'sashlaw20.WordsCut'. -/
def wordsCutCard : Claim7 := { stood := { row := wordsCutRow, standIns := [], harness := (true, "96709975f16c778ecc04528469208c5f59a13cd5641b449851dabf797a2af3ac"), looks := true }, kinds := [], alts := [], laidByText := true, laidKinds := [.handle], laidTests := true, laidLooks := .later }
def WordsCutCardSaid : Prop := Claim7.holds Tryd.pinned (.plain (OpenSpec.ofChange wordsCutSpec)) wordsCutCard

/-- THE TIED CARD OF 'sashlaw03.FaultIs'. -/
def faultIsCard : Claim7 := { stood := { row := faultIsRow, standIns := [], harness := (true, "96709975f16c778ecc04528469208c5f59a13cd5641b449851dabf797a2af3ac"), looks := true }, kinds := [], alts := [], laidByText := true, laidKinds := [.handle], laidTests := true, laidLooks := .later }
def FaultIsCardSaid : Prop := Claim7.holds Tryd.pinned (.plain (OpenSpec.ofChange faultIsSpec)) faultIsCard

/-- THE TIED CARD OF 'sashlaw03.FaultJoins'. -/
def faultJoinsCard : Claim7 := { stood := { row := faultJoinsRow, standIns := [], harness := (true, "96709975f16c778ecc04528469208c5f59a13cd5641b449851dabf797a2af3ac"), looks := true }, kinds := [], alts := [], laidByText := true, laidKinds := [.handle], laidTests := true, laidLooks := .later }
def FaultJoinsCardSaid : Prop := Claim7.holds Tryd.pinned (.plain (OpenSpec.ofChange faultJoinsSpec)) faultJoinsCard

/-- THE TIED CARD OF 'sashlaw20.WordsOptions'. -/
def wordsOptionsCard : Claim7 := { stood := { row := wordsOptionsRow, standIns := [], harness := (true, "96709975f16c778ecc04528469208c5f59a13cd5641b449851dabf797a2af3ac"), looks := true }, kinds := [], alts := [], laidByText := true, laidKinds := [.handle], laidTests := true, laidLooks := .later }
def WordsOptionsCardSaid : Prop := Claim7.holds Tryd.pinned (.plain (OpenSpec.ofChange wordsOptionsSpec)) wordsOptionsCard

/-- THE TIED CARD OF 'sashlaw20.WordsQuote'. -/
def wordsQuoteCard : Claim7 := { stood := { row := wordsQuoteRow, standIns := [], harness := (true, "96709975f16c778ecc04528469208c5f59a13cd5641b449851dabf797a2af3ac"), looks := true }, kinds := [], alts := [], laidByText := true, laidKinds := [.data, .pinned], laidTests := true, laidLooks := .later }
def WordsQuoteCardSaid : Prop := Claim7.holds Tryd.pinned (.plain (OpenSpec.ofChange wordsQuoteSpec)) wordsQuoteCard

/-- THE TIED CARD OF 'sashlaw20.WordsNum'. -/
def wordsNumCard : Claim7 := { stood := { row := wordsNumRow, standIns := [], harness := (true, "96709975f16c778ecc04528469208c5f59a13cd5641b449851dabf797a2af3ac"), looks := true }, kinds := [], alts := [], laidByText := true, laidKinds := [.data, .data, .data, .sentinel, .sentinel], laidTests := true, laidLooks := .later }
def WordsNumCardSaid : Prop := Claim7.holds Tryd.pinned (.plain (OpenSpec.ofChange wordsNumSpec)) wordsNumCard

/-- THE SECOND FORM's CARD OF 'sashlaw03.FaultTells'. -/
def faultTellsUptoCard : Claim7 := { stood := { row := faultTellsUptoRow, standIns := [], harness := (true, "96709975f16c778ecc04528469208c5f59a13cd5641b449851dabf797a2af3ac"), looks := true }, kinds := [], alts := [], laidByText := true, laidKinds := [.handle], laidTests := true, laidLooks := .later }
def FaultTellsUptoCardSaid : Prop := Claim7.holds Tryd.pinned (.plain (OpenSpec.upto faultTellsSpec)) faultTellsUptoCard

/-- THE SECOND FORM's CARD OF 'sashlaw03.FaultAlone'. -/
def faultAloneUptoCard : Claim7 := { stood := { row := faultAloneUptoRow, standIns := [], harness := (true, "96709975f16c778ecc04528469208c5f59a13cd5641b449851dabf797a2af3ac"), looks := true }, kinds := [], alts := [], laidByText := true, laidKinds := [.handle], laidTests := true, laidLooks := .later }
def FaultAloneUptoCardSaid : Prop := Claim7.holds Tryd.pinned (.plain (OpenSpec.upto faultAloneSpec)) faultAloneUptoCard

/-- THE SECOND FORM's CARD OF 'sashlaw20.WordsLong'. -/
def wordsLongUptoCard : Claim7 := { stood := { row := wordsLongUptoRow, standIns := [], harness := (true, "96709975f16c778ecc04528469208c5f59a13cd5641b449851dabf797a2af3ac"), looks := true }, kinds := [], alts := [], laidByText := true, laidKinds := [.handle], laidTests := true, laidLooks := .later }
def WordsLongUptoCardSaid : Prop := Claim7.holds Tryd.pinned (.plain (OpenSpec.upto wordsLongSpec)) wordsLongUptoCard

/-- THE SECOND FORM's CARD OF 'sashlaw20.WordsCut'. -/
def wordsCutUptoCard : Claim7 := { stood := { row := wordsCutUptoRow, standIns := [], harness := (true, "96709975f16c778ecc04528469208c5f59a13cd5641b449851dabf797a2af3ac"), looks := true }, kinds := [], alts := [], laidByText := true, laidKinds := [.handle], laidTests := true, laidLooks := .later }
def WordsCutUptoCardSaid : Prop := Claim7.holds Tryd.pinned (.plain (OpenSpec.upto wordsCutSpec)) wordsCutUptoCard

/-- THE SECOND FORM's CARD OF 'sashlaw03.FaultIs'. -/
def faultIsUptoCard : Claim7 := { stood := { row := faultIsUptoRow, standIns := [], harness := (true, "96709975f16c778ecc04528469208c5f59a13cd5641b449851dabf797a2af3ac"), looks := true }, kinds := [], alts := [], laidByText := true, laidKinds := [.handle], laidTests := true, laidLooks := .later }
def FaultIsUptoCardSaid : Prop := Claim7.holds Tryd.pinned (.plain (OpenSpec.upto faultIsSpec)) faultIsUptoCard

/-- THE SECOND FORM's CARD OF 'sashlaw03.FaultJoins'. -/
def faultJoinsUptoCard : Claim7 := { stood := { row := faultJoinsUptoRow, standIns := [], harness := (true, "96709975f16c778ecc04528469208c5f59a13cd5641b449851dabf797a2af3ac"), looks := true }, kinds := [], alts := [], laidByText := true, laidKinds := [.handle], laidTests := true, laidLooks := .later }
def FaultJoinsUptoCardSaid : Prop := Claim7.holds Tryd.pinned (.plain (OpenSpec.upto faultJoinsSpec)) faultJoinsUptoCard

/-- THE SECOND FORM's CARD OF 'sashlaw20.WordsOptions'. -/
def wordsOptionsUptoCard : Claim7 := { stood := { row := wordsOptionsUptoRow, standIns := [], harness := (true, "96709975f16c778ecc04528469208c5f59a13cd5641b449851dabf797a2af3ac"), looks := true }, kinds := [], alts := [], laidByText := true, laidKinds := [.handle], laidTests := true, laidLooks := .later }
def WordsOptionsUptoCardSaid : Prop := Claim7.holds Tryd.pinned (.plain (OpenSpec.upto wordsOptionsSpec)) wordsOptionsUptoCard

/-- THE SECOND FORM's CARD OF 'sashlaw20.WordsQuote'. -/
def wordsQuoteUptoCard : Claim7 := { stood := { row := wordsQuoteUptoRow, standIns := [], harness := (true, "96709975f16c778ecc04528469208c5f59a13cd5641b449851dabf797a2af3ac"), looks := true }, kinds := [], alts := [], laidByText := true, laidKinds := [.data, .pinned], laidTests := true, laidLooks := .later }
def WordsQuoteUptoCardSaid : Prop := Claim7.holds Tryd.pinned (.plain (OpenSpec.upto wordsQuoteSpec)) wordsQuoteUptoCard

/-- THE SECOND FORM's CARD OF 'sashlaw20.WordsNum'. -/
def wordsNumUptoCard : Claim7 := { stood := { row := wordsNumUptoRow, standIns := [], harness := (true, "96709975f16c778ecc04528469208c5f59a13cd5641b449851dabf797a2af3ac"), looks := true }, kinds := [], alts := [], laidByText := true, laidKinds := [.data, .data, .data, .sentinel, .sentinel], laidTests := true, laidLooks := .later }
def WordsNumUptoCardSaid : Prop := Claim7.holds Tryd.pinned (.plain (OpenSpec.upto wordsNumSpec)) wordsNumUptoCard
end Rows
end Go.Proofs.YtelmmcjlhjahcaaDoor
