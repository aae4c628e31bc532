/- Printed texts of this seat, cut to what is used. -/
import Derived.Test.YtakhnigalkjhhaaPTileHitsx0
import Derived.Test.YtakhnigalkjhhaaPTileHitsx3
namespace Go.Proofs.Ytakhnigalkjhhaa.PTileHits
open Go.RowKit Go.Proofs.YtakhnigalkjhhaaW.PrintWords Go.Proofs.YtakhnigalkjhhaaW.PrintLast Go.Proofs.YtakhnigalkjhhaaW.PrintMore
attribute [local go_sem] max2_int min2_int max_two min_two max_three min_three max_four min_four   -- for this text's walks alone
set_option linter.unusedVariables false
set_option linter.unusedSimpArgs false

mutual
def sashref04_Cut.j0 : Nat → Int → List Int → List (S27) → Bool → Int → Int → Int → Int → Option ((List (S27)) × (List (S27)) × Bool)
  | 0, _, _, _, _, _, _, _, _ => none
  | k + 1, x1, x2, x9, x31, x235000, x235001, x235002, x235003 => if x31 = true then (some (x9, x9, false)) else (if x1 = 2 then (sashref04_Cut.j1 k x1 x2 x9 x235003 x235000 x235001 x235002 x235003) else (sashref04_Cut.j1 k x1 x2 x9 x235002 x235000 x235001 x235002 x235003))
def sashref04_Cut.j1 : Nat → Int → List Int → List (S27) → Int → Int → Int → Int → Int → Option ((List (S27)) × (List (S27)) × Bool)
  | 0, _, _, _, _, _, _, _, _ => none
  | k + 1, x1, x2, x9, x10, x235000, x235001, x235002, x235003 => sashref04_Cut.l0 k x1 x2 x9 x10 (([] : List (S27))) (([] : List (S27))) 0 (x2.length : Int) 0 x235000 x235001 x235002 x235003
def sashref04_Cut.l0 : Nat → Int → List Int → List (S27) → Int → List (S27) → List (S27) → Int → Int → Int → Int → Int → Int → Int → Option ((List (S27)) × (List (S27)) × Bool)
  | 0, _, _, _, _, _, _, _, _, _, _, _, _, _ => none
  | k + 1, x1, x2, x9, x10, x11, x12, x13, x43, x44, x235000, x235001, x235002, x235003 => if x44 < x43 then (if x44 > 0 then (if x1 = 1 then (if x12.length < 4398046511104 then (sashref04_Cut.j3 k x1 x2 x9 x10 x11 (x12 ++ [(⟨wrap64 (x235000 + x13), x235001, 1, x235003⟩ : S27)]) (wrap64 (x13 + 1)) x44 x43 x44 x235000 x235001 x235002 x235003) else (none)) else (if x12.length < 4398046511104 then (sashref04_Cut.j3 k x1 x2 x9 x10 x11 (x12 ++ [(⟨x235000, wrap64 (x235001 + x13), x235002, 1⟩ : S27)]) (wrap64 (x13 + 1)) x44 x43 x44 x235000 x235001 x235002 x235003) else (none))) else (sashref04_Cut.j3 k x1 x2 x9 x10 x11 x12 x13 x44 x43 x44 x235000 x235001 x235002 x235003)) else (if x13 = x10 then (some (x11, x12, true)) else (some (x9, x9, false)))
def sashref04_Cut.j3 : Nat → Int → List Int → List (S27) → Int → List (S27) → List (S27) → Int → Int → Int → Int → Int → Int → Int → Int → Option ((List (S27)) × (List (S27)) × Bool)
  | 0, _, _, _, _, _, _, _, _, _, _, _, _, _, _ => none
  | k + 1, x1, x2, x9, x10, x11, x12, x13, x14, x43, x44, x235000, x235001, x235002, x235003 => if 0 ≤ x14 then (if x14 < (x2.length : Int) then (if (rd x2 x14) < 1 then (sashref04_Cut.j4 k x1 x2 x9 x10 x11 x12 x13 x14 x43 x44 true x235000 x235001 x235002 x235003) else (if (rd x2 x14) > x10 then (sashref04_Cut.j4 k x1 x2 x9 x10 x11 x12 x13 x14 x43 x44 true x235000 x235001 x235002 x235003) else (sashref04_Cut.j4 k x1 x2 x9 x10 x11 x12 x13 x14 x43 x44 (decide ((wrap64 (x13 + (rd x2 x14))) > x10)) x235000 x235001 x235002 x235003))) else (none)) else (none)
def sashref04_Cut.j4 : Nat → Int → List Int → List (S27) → Int → List (S27) → List (S27) → Int → Int → Int → Int → Bool → Int → Int → Int → Int → Option ((List (S27)) × (List (S27)) × Bool)
  | 0, _, _, _, _, _, _, _, _, _, _, _, _, _, _, _ => none
  | k + 1, x1, x2, x9, x10, x11, x12, x13, x14, x43, x44, x99, x235000, x235001, x235002, x235003 => if x99 = true then (some (x9, x9, false)) else (if x1 = 1 then (if 0 ≤ x14 then (if x14 < (x2.length : Int) then (if x11.length < 4398046511104 then (sashref04_Cut.l0 k x1 x2 x9 x10 (x11 ++ [(⟨wrap64 (x235000 + x13), x235001, rd x2 x14, x235003⟩ : S27)]) x12 (wrap64 (x13 + (rd x2 x14))) x43 (wrap64 (x44 + 1)) x235000 x235001 x235002 x235003) else (none)) else (none)) else (none)) else (if 0 ≤ x14 then (if x14 < (x2.length : Int) then (if x11.length < 4398046511104 then (sashref04_Cut.l0 k x1 x2 x9 x10 (x11 ++ [(⟨x235000, wrap64 (x235001 + x13), x235002, rd x2 x14⟩ : S27)]) x12 (wrap64 (x13 + (rd x2 x14))) x43 (wrap64 (x44 + 1)) x235000 x235001 x235002 x235003) else (none)) else (none)) else (none)))
end
def sashref04_Cut.f (k : Nat) (a0_0 : Int) (a0_1 : Int) (a0_2 : Int) (a0_3 : Int) (a1 : Int) (l2 : List Int) : Option ((List (S27)) × (List (S27)) × Bool) := (some (([] : List (S27)) : List (S27))).bind fun y235 => ((sashref04_May.f a0_0 a0_1 a0_2 a0_3).bind fun t238 => (if t238 = true then (if a1 < 1 then (sashref04_Cut.j0 k a1 l2 y235 true a0_0 a0_1 a0_2 a0_3) else (if a1 > 2 then (sashref04_Cut.j0 k a1 l2 y235 true a0_0 a0_1 a0_2 a0_3) else (sashref04_Cut.j0 k a1 l2 y235 ((l2.length : Int) == 0) a0_0 a0_1 a0_2 a0_3))) else (sashref04_Cut.j0 k a1 l2 y235 true a0_0 a0_1 a0_2 a0_3)))

end Go.Proofs.Ytakhnigalkjhhaa.PTileHits
