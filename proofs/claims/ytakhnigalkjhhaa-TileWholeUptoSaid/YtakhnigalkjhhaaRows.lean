/-
  NARROWER THAN 'FOR EVERY INPUT', by the rows' own cells (each row's printed sentence says how): TileAll: loops · TileWhole: loops · TileHits: loops · TileKids: loops.
  DERIVED. THE GIVEN ROWS OF THIS SEAT. 4 by the template 'for every input the law returns true; each argument reads behind the call as it read before'; 0 by the template 'total and deterministic' (their statements: YtakhnigalkjhhaaTotals.lean).
  GIVEN WITH THE SEED: the statements are not yours to turn. If you find one false, say at which input.
  Laid BY PROGRAM, IN A SANDBOX (cutbox-rows.mjs): the forced cells as the released guide's own fill.sh prints them over the translation f38c1dcee0436dc5… (all of the seat's roots in one cut). By AI agents, Wed Nov 11 2026. No macro, syntax, notation, axiom, sorry.
-/
import Derived.Test.YtakhnigalkjhhaaChecked
import GoSem.Claim
import GoSem.ClaimJoined
import GoSem.ClaimMapViews
import Derived.JoinedTies
import Derived.KernelRfl
namespace Go.Proofs.Ytakhnigalkjhhaa
/- THE CELL 'sum', in the pinned program and in every row, IS THE sha256 OF THE DUMP (.gsa) THAT YtakhnigalkjhhaaProg.lean LOADS. Nothing in Lean hashes anything: it is a label: what it is worth is what the hold of that sum in a sandbox is worth. -/
noncomputable def Try.pinned : Pinned := { name := "ytakhnigalkjhhaa", sum := "f38c1dcee0436dc575d9dcb351356fa876b58bb9510759d3b0f3bfbec7491028", checked := Try.checked }
namespace Rows
def none {H : Type} : Left H := { results := [], args := [] }

/-- 'sashlaw06.TileAll': WHATEVER THE INPUT: true; the input reads as it did. -/
def tileAllSpec : ChangeSpec := { name := "tileAll", fn := fun _ => fun
  | [d] => { results := [.lit (.bool true)], args := [d] }
  | _ => none }
def tileAllRow : OpenClaim := { program := "ytakhnigalkjhhaa", sum := "f38c1dcee0436dc575d9dcb351356fa876b58bb9510759d3b0f3bfbec7491028", func := "sash/sashlaw06.TileAll", spec := "tileAll", unfollowed := true, recurses := true, loops := true, apart := false }
def TileAllSaid : Prop := tileAllRow.holds Try.pinned (OpenSpec.ofChange tileAllSpec)

/-- ITS FALSE NEIGHBOUR: 'it returns false'. Refute it at one input. -/
def tileAllWrong : ChangeSpec := { name := "tileAll", fn := fun _ => fun
  | [d] => { results := [.lit (.bool false)], args := [d] }
  | _ => none }
def TileAllWrongFalsely : Prop := tileAllRow.holds Try.pinned (OpenSpec.ofChange tileAllWrong)

/-- 'sashlaw06.TileWhole': WHATEVER THE INPUT: true; the input reads as it did. -/
def tileWholeSpec : ChangeSpec := { name := "tileWhole", fn := fun _ => fun
  | [d] => { results := [.lit (.bool true)], args := [d] }
  | _ => none }
def tileWholeRow : OpenClaim := { program := "ytakhnigalkjhhaa", sum := "f38c1dcee0436dc575d9dcb351356fa876b58bb9510759d3b0f3bfbec7491028", func := "sash/sashlaw06.TileWhole", spec := "tileWhole", unfollowed := true, recurses := true, loops := true, apart := false }
def TileWholeSaid : Prop := tileWholeRow.holds Try.pinned (OpenSpec.ofChange tileWholeSpec)

/-- ITS FALSE NEIGHBOUR: 'it returns false'. Refute it at one input. -/
def tileWholeWrong : ChangeSpec := { name := "tileWhole", fn := fun _ => fun
  | [d] => { results := [.lit (.bool false)], args := [d] }
  | _ => none }
def TileWholeWrongFalsely : Prop := tileWholeRow.holds Try.pinned (OpenSpec.ofChange tileWholeWrong)

/-- 'sashlaw06.TileHits': WHATEVER THE INPUT: true; the input reads as it did. -/
def tileHitsSpec : ChangeSpec := { name := "tileHits", fn := fun _ => fun
  | [d1, d2, d3] => { results := [.lit (.bool true)], args := [d1, d2, d3] }
  | _ => none }
def tileHitsRow : OpenClaim := { program := "ytakhnigalkjhhaa", sum := "f38c1dcee0436dc575d9dcb351356fa876b58bb9510759d3b0f3bfbec7491028", func := "sash/sashlaw06.TileHits", spec := "tileHits", unfollowed := true, recurses := true, loops := true, apart := false }
def TileHitsSaid : Prop := tileHitsRow.holds Try.pinned (OpenSpec.ofChange tileHitsSpec)

/-- ITS FALSE NEIGHBOUR: 'it returns false'. Refute it at one input. -/
def tileHitsWrong : ChangeSpec := { name := "tileHits", fn := fun _ => fun
  | [d1, d2, d3] => { results := [.lit (.bool false)], args := [d1, d2, d3] }
  | _ => none }
def TileHitsWrongFalsely : Prop := tileHitsRow.holds Try.pinned (OpenSpec.ofChange tileHitsWrong)

/-- 'sashlaw06.TileKids': WHATEVER THE INPUT: true; the input reads as it did. -/
def tileKidsSpec : ChangeSpec := { name := "tileKids", fn := fun _ => fun
  | [d] => { results := [.lit (.bool true)], args := [d] }
  | _ => none }
def tileKidsRow : OpenClaim := { program := "ytakhnigalkjhhaa", sum := "f38c1dcee0436dc575d9dcb351356fa876b58bb9510759d3b0f3bfbec7491028", func := "sash/sashlaw06.TileKids", spec := "tileKids", unfollowed := true, recurses := true, loops := true, apart := false }
def TileKidsSaid : Prop := tileKidsRow.holds Try.pinned (OpenSpec.ofChange tileKidsSpec)

/-- ITS FALSE NEIGHBOUR: 'it returns false'. Refute it at one input. -/
def tileKidsWrong : ChangeSpec := { name := "tileKids", fn := fun _ => fun
  | [d] => { results := [.lit (.bool false)], args := [d] }
  | _ => none }
def TileKidsWrongFalsely : Prop := tileKidsRow.holds Try.pinned (OpenSpec.ofChange tileKidsWrong)

/- THE SECOND FORM. 'bulk': how many values and letters a reading holds, each counted each time it is reached (what is shared counts as often as it is met; a slice's spare places count too). A statement '..UptoSaid' is the law's where the arguments, and the package variables that the reading takes, are together of bulk at most 1048576: NARROWER than '..Said'. Prove '..Said' where nothing that the law and all that it calls make is longer than what came in: it says more and counts as full. Else prove '..UptoSaid'. A law counts once. -/
mutual
def uptoBulk {H : Type} : DataW H → Nat
  | .lit (.string bytes) => bytes.length + 1
  | .lit _ => 1
  | .nil => 1
  | .ptr d => uptoBulk d + 1
  | .slice elems spare => uptoBulkAll elems + uptoBulkAll spare + 1
  | .agg parts => uptoBulkAll parts + 1
  | .iface _ d => uptoBulk d + 1
  | .map entries => uptoBulkEntries entries + 1
  | .held _ => 1
def uptoBulkAll {H : Type} : List (DataW H) → Nat
  | [] => 0
  | d :: r => uptoBulk d + uptoBulkAll r
def uptoBulkEntries {H : Type} : List (Lit × DataW H) → Nat
  | [] => 0
  | x :: r => uptoBulkEntry x + uptoBulkEntries r
def uptoBulkEntry {H : Type} : Lit × DataW H → Nat
  | (.string bytes, d) => bytes.length + uptoBulk d + 1
  | (_, d) => uptoBulk d + 1
 end
def uptoSmall : (H : Type) → List (DataW H) → Bool := fun _ ds => decide (uptoBulkAll ds ≤ 1048576)
def OpenSpec.upto (s : _root_.Go.ChangeSpec) : _root_.Go.OpenSpec := { _root_.Go.OpenSpec.ofChange s with cond := some uptoSmall }

/-- 'sashlaw06.TileAll', WHERE WHAT IT READS IS OF BULK AT MOST 1048576: true; the input reads as it did. -/
def tileAllUptoRow : OpenClaim := { program := "ytakhnigalkjhhaa", sum := "f38c1dcee0436dc575d9dcb351356fa876b58bb9510759d3b0f3bfbec7491028", func := "sash/sashlaw06.TileAll", spec := "tileAll", unfollowed := true, recurses := true, loops := true, apart := false, narrowed := true }
def TileAllUptoSaid : Prop := tileAllUptoRow.holds Try.pinned (OpenSpec.upto tileAllSpec)

/-- 'sashlaw06.TileWhole', WHERE WHAT IT READS IS OF BULK AT MOST 1048576: true; the input reads as it did. -/
def tileWholeUptoRow : OpenClaim := { program := "ytakhnigalkjhhaa", sum := "f38c1dcee0436dc575d9dcb351356fa876b58bb9510759d3b0f3bfbec7491028", func := "sash/sashlaw06.TileWhole", spec := "tileWhole", unfollowed := true, recurses := true, loops := true, apart := false, narrowed := true }
def TileWholeUptoSaid : Prop := tileWholeUptoRow.holds Try.pinned (OpenSpec.upto tileWholeSpec)

/-- 'sashlaw06.TileHits', WHERE WHAT IT READS IS OF BULK AT MOST 1048576: true; the input reads as it did. -/
def tileHitsUptoRow : OpenClaim := { program := "ytakhnigalkjhhaa", sum := "f38c1dcee0436dc575d9dcb351356fa876b58bb9510759d3b0f3bfbec7491028", func := "sash/sashlaw06.TileHits", spec := "tileHits", unfollowed := true, recurses := true, loops := true, apart := false, narrowed := true }
def TileHitsUptoSaid : Prop := tileHitsUptoRow.holds Try.pinned (OpenSpec.upto tileHitsSpec)

/-- 'sashlaw06.TileKids', WHERE WHAT IT READS IS OF BULK AT MOST 1048576: true; the input reads as it did. -/
def tileKidsUptoRow : OpenClaim := { program := "ytakhnigalkjhhaa", sum := "f38c1dcee0436dc575d9dcb351356fa876b58bb9510759d3b0f3bfbec7491028", func := "sash/sashlaw06.TileKids", spec := "tileKids", unfollowed := true, recurses := true, loops := true, apart := false, narrowed := true }
def TileKidsUptoSaid : Prop := tileKidsUptoRow.holds Try.pinned (OpenSpec.upto tileKidsSpec)

end Rows
end Go.Proofs.Ytakhnigalkjhhaa
