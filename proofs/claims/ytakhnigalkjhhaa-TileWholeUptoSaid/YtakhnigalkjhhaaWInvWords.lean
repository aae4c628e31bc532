/- Printed texts of this seat, cut to what is used. -/
import Derived.Test.YtakhnigalkjhhaaWInv
import Derived.Test.YtakhnigalkjhhaaWFootNe
namespace Go.Proofs.YtakhnigalkjhhaaW.PrintWords
open Go.RowKit
end Go.Proofs.YtakhnigalkjhhaaW.PrintWords
namespace Go.Proofs.YtakhnigalkjhhaaW.PrintLast
section
variable {ops : Array Oper} {a : Act} {o og : Oper} {g : Nat} {t : Tmp} {u : Bool}
end
end Go.Proofs.YtakhnigalkjhhaaW.PrintLast
