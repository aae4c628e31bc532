/- Printed texts of this seat, cut to what is used. -/
import Derived.Test.YtakhnigalkjhhaaDoorPrPrint
import Derived.Test.YtakhnigalkjhhaaDoorSuPutP
import Derived.Test.YtakhnigalkjhhaaDoorNumPureP
import Derived.Test.YtakhnigalkjhhaaDoorPrInj
import Derived.Test.YtakhnigalkjhhaaDoorTiRef2
namespace Go.Proofs.YtakhnigalkjhhaaDoor
open Go.RowKit Go.Proofs.YtakhnigalkjhhaaDoorW.PrintWords Go.Proofs.YtakhnigalkjhhaaDoorW.PrintLast Go.Proofs.YtakhnigalkjhhaaDoorW.PrintMore Go.Proofs.YtakhnigalkjhhaaDoor.PTileChecks
open Go.Lib (decDigits)
set_option linter.unusedVariables false
set_option linter.unusedSimpArgs false
set_option maxRecDepth 100000

theorem data_ext' {a b : ByteArray} (h : a.data.toList = b.data.toList) : a = b := by
  apply ByteArray.ext
  exact Array.ext' h


def bsOf (l : List UInt8) : ByteArray := ⟨l.toArray⟩
theorem bs_size (l : List UInt8) : (bsOf l).size = l.length := by simp [bsOf, ByteArray.size]
def IR (n : Int) : Prop := -9223372036854775808 ≤ n ∧ n ≤ 9223372036854775807
def RIR (r : SR) : Prop := IR r.f0 ∧ IR r.f1 ∧ IR r.f2 ∧ IR r.f3
def CIR (c : SC) : Prop := ∀ x ∈ cells c, RIR x.f1 ∧ IR x.f2
theorem CIR.kid {c k : SC} (h : CIR c) (hk : k ∈ c.f3) : CIR k := fun x hx => h x (cells_kid hk x hx)

end Go.Proofs.YtakhnigalkjhhaaDoor
