/- Printed texts of this seat, cut to what is used. -/
import Derived.Test.YtakhnigalkjhhaaPTileHitsx0
import Derived.Test.YtakhnigalkjhhaaPTileHitsx1
import Derived.Test.YtakhnigalkjhhaaPTileHitsx5
import Derived.Test.YtakhnigalkjhhaaPTileHitsx6
namespace Go.Proofs.Ytakhnigalkjhhaa.PTileHits
open Go.RowKit Go.Proofs.YtakhnigalkjhhaaW.PrintWords Go.Proofs.YtakhnigalkjhhaaW.PrintLast Go.Proofs.YtakhnigalkjhhaaW.PrintMore
attribute [local go_sem] max2_int min2_int max_two min_two max_three min_three max_four min_four   -- for this text's walks alone
set_option linter.unusedVariables false
set_option linter.unusedSimpArgs false

attribute [local go_sem high] eqA27
def sashref06_one.l0 : Nat → List (S27) → List (S27) → Int → Int → Int → Int → Int → Int → Int → Int → List (S29) → Option ((List (S27)) × Bool)
  | 0, _, _, _, _, _, _, _, _, _, _, _ => none
  | k + 1, x4, x5, x28, x29, x277000, x277001, x277002, x277003, x277004, x277005, x277006 => if x29 < x28 then (if 0 ≤ x29 then (if x29 < (x4.length : Int) then (if x29 < (x277006.length : Int) then (if (!(((rd_T27 x4 x29).f0) == ((rd_T29 x277006 x29).f1.f0)) || (!(((rd_T27 x4 x29).f1) == ((rd_T29 x277006 x29).f1.f1)) || (!(((rd_T27 x4 x29).f2) == ((rd_T29 x277006 x29).f1.f2)) || (!(((rd_T27 x4 x29).f3) == ((rd_T29 x277006 x29).f1.f3)))))) = true then (some ((([] : List (S27))), false)) else (sashref06_one.l0 k x4 x5 x28 (wrap64 (x29 + 1)) x277000 x277001 x277002 x277003 x277004 x277005 x277006)) else (none)) else (none)) else (none)) else (some (x5, true))
def sashref06_one.f (k : Nat) (a0_0 : Int) (a0_1 : Int) (a0_2 : Int) (a0_3 : Int) (a0_4 : Int) (a0_5 : Int) (l0_6 : List (S29)) : Option ((List (S27)) × Bool) := if a0_0 = 1 then (some ((([] : List (S27))), true)) else ((sashref06_Sizes.f k a0_0 a0_1 a0_2 a0_3 a0_4 a0_5 l0_6).bind fun t280 => ((sashref04_Cut.f k a0_1 a0_2 a0_3 a0_4 ((a0_0 - 1) % 256) t280).bind fun bt283 => (if bt283.2.2 = true then (sashref06_one.l0 k bt283.1 bt283.2.1 (bt283.1.length : Int) 0 a0_0 a0_1 a0_2 a0_3 a0_4 a0_5 l0_6) else (some (bt283.2.1, false)))))

end Go.Proofs.Ytakhnigalkjhhaa.PTileHits
