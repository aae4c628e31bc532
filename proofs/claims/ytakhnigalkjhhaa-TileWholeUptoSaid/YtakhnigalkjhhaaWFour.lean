/- Printed texts of this seat, cut to what is used. -/
import Derived.Test.YtakhnigalkjhhaaWTab
namespace Go.Proofs.YtakhnigalkjhhaaW.PrintLast
section
variable {P : Program} {ops : Array Oper} {Q : Exit → Act → World → Prop} {md : Region.Mode} {S : World → Prop} {ds : List Nat} {T : Bool × List (List Nat × List Nat)}
end
end Go.Proofs.YtakhnigalkjhhaaW.PrintLast
