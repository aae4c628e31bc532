/- Printed texts of this seat, cut to what is used. -/
import Derived.Test.YtakhnigalkjhhaaPTileHitsx0
import Derived.Test.YtakhnigalkjhhaaPTileHitsx3
namespace Go.Proofs.Ytakhnigalkjhhaa.PTileHits
open Go.RowKit Go.Proofs.YtakhnigalkjhhaaW.PrintWords Go.Proofs.YtakhnigalkjhhaaW.PrintLast Go.Proofs.YtakhnigalkjhhaaW.PrintMore
attribute [local go_sem] max2_int min2_int max_two min_two max_three min_three max_four min_four   -- for this text's walks alone
set_option linter.unusedVariables false
set_option linter.unusedSimpArgs false

mutual
def sashref05_May.l0 : Nat → List (S29) → Int → Int → Int → Int → Int → Int → Int → Int → List (S29) → Option (Bool)
  | 0, _, _, _, _, _, _, _, _, _, _ => none
  | k + 1, x3, x14, x15, x212000, x212001, x212002, x212003, x212004, x212005, x212006 => if x15 < x14 then (if 0 ≤ x15 then (if x15 < (x3.length : Int) then ((sashref04_May.f ((rd_T29 x3 x15).f1.f0) ((rd_T29 x3 x15).f1.f1) ((rd_T29 x3 x15).f1.f2) ((rd_T29 x3 x15).f1.f3)).bind fun t216 => (if t216 = true then (if ((rd_T29 x3 x15).f0) < 1 then (sashref05_May.j1 k x3 x15 x14 x15 true x212000 x212001 x212002 x212003 x212004 x212005 x212006) else (sashref05_May.j1 k x3 x15 x14 x15 (decide (((rd_T29 x3 x15).f0) > 3)) x212000 x212001 x212002 x212003 x212004 x212005 x212006)) else (sashref05_May.j1 k x3 x15 x14 x15 true x212000 x212001 x212002 x212003 x212004 x212005 x212006))) else (none)) else (none)) else ((sashref05_Leaves.f k x212000 x212001 x212002 x212003 x212004 x212005 x212006).bind fun t229 => (sashref05_May.l1 k t229 (t229.length : Int) 0))
def sashref05_May.j1 : Nat → List (S29) → Int → Int → Int → Bool → Int → Int → Int → Int → Int → Int → List (S29) → Option (Bool)
  | 0, _, _, _, _, _, _, _, _, _, _, _, _ => none
  | k + 1, x3, x4, x14, x15, x40, x212000, x212001, x212002, x212003, x212004, x212005, x212006 => if x40 = true then (some false) else (if 0 ≤ x4 then (if x4 < (x3.length : Int) then (if ((rd_T29 x3 x4).f0) = 1 then (if (((rd_T29 x3 x4).f3).length : Int) > 0 then (some false) else (if ((rd_T29 x3 x4).f2) < 0 then (some false) else (if ((rd_T29 x3 x4).f2) > 2147483647 then (some false) else (if ((rd_T29 x3 x4).f0) > 1 then (if (((rd_T29 x3 x4).f3).length : Int) < 2 then (some false) else (if ((rd_T29 x3 x4).f2) = 0 then (sashref05_May.l0 k x3 x14 (wrap64 (x15 + 1)) x212000 x212001 x212002 x212003 x212004 x212005 x212006) else (some false))) else (sashref05_May.l0 k x3 x14 (wrap64 (x15 + 1)) x212000 x212001 x212002 x212003 x212004 x212005 x212006))))) else (if ((rd_T29 x3 x4).f0) > 1 then (if (((rd_T29 x3 x4).f3).length : Int) < 2 then (some false) else (if ((rd_T29 x3 x4).f2) = 0 then (sashref05_May.l0 k x3 x14 (wrap64 (x15 + 1)) x212000 x212001 x212002 x212003 x212004 x212005 x212006) else (some false))) else (sashref05_May.l0 k x3 x14 (wrap64 (x15 + 1)) x212000 x212001 x212002 x212003 x212004 x212005 x212006))) else (none)) else (none))
def sashref05_May.l1 : Nat → List (S29) → Int → Int → Option (Bool)
  | 0, _, _, _ => none
  | k + 1, x5, x101, x102 => if x102 < x101 then (sashref05_May.l2 k x5 x102 0 x101 x102) else (some true)
def sashref05_May.l2 : Nat → List (S29) → Int → Int → Int → Int → Option (Bool)
  | 0, _, _, _, _, _ => none
  | k + 1, x5, x6, x7, x101, x102 => if x7 < x6 then (if 0 ≤ x6 then (if x6 < (x5.length : Int) then (if 0 ≤ x7 then (if x7 < (x5.length : Int) then (if ((rd_T29 x5 x6).f2) = ((rd_T29 x5 x7).f2) then (some false) else (sashref05_May.l2 k x5 x6 (wrap64 (x7 + 1)) x101 x102)) else (none)) else (none)) else (none)) else (none)) else (sashref05_May.l1 k x5 x101 (wrap64 (x102 + 1)))
end
def sashref05_May.f (k : Nat) (a0_0 : Int) (a0_1 : Int) (a0_2 : Int) (a0_3 : Int) (a0_4 : Int) (a0_5 : Int) (l0_6 : List (S29)) : Option (Bool) := (sashref05_All.f k a0_0 a0_1 a0_2 a0_3 a0_4 a0_5 l0_6).bind fun t212 => (if (t212.length : Int) > 20000 then (some false) else (sashref05_May.l0 k t212 (t212.length : Int) 0 a0_0 a0_1 a0_2 a0_3 a0_4 a0_5 l0_6))

end Go.Proofs.Ytakhnigalkjhhaa.PTileHits
