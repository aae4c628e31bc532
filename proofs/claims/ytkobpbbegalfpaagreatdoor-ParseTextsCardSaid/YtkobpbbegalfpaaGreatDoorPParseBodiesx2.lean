/-
  Joined texts: PxPanes, RHexPureP, HexReadP, SuCutP, TiMem, TiAll, PParseBodiesx2.
-/
import Derived.Test.YtkobpbbegalfpaaGreatDoorPsBase
import Derived.Test.YtkobpbbegalfpaaGreatDoorTiGeo
import Derived.Test.YtkobpbbegalfpaaGreatDoorPParseBodiesx13
import Derived.Test.YtkobpbbegalfpaaGreatDoorSuPutP
import Derived.Test.YtkobpbbegalfpaaGreatDoorPsCell
import Derived.BigCall
import Derived.Lib.Walk
import Derived.WalkKit
import Derived.Deep.LoopGhost
import Derived.Shelf.Abstract
namespace Go.Proofs.YtkobpbbegalfpaaGreatDoor.PParseBodies
open Go.RowKit YtkobpbbegalfpaaGreatDoorW.PrintWords YtkobpbbegalfpaaGreatDoorW.PrintLast YtkobpbbegalfpaaGreatDoorW.PrintMore
attribute [local go_sem] max2_int min2_int max_two min_two max_three min_three max_four min_four
set_option linter.unusedVariables false
set_option linter.unusedSimpArgs false
mutual
def cell_Leaves.l0 : Nat → List Int → List (S27) → Int → Int → Option (List Int)
 | 0, _, _, _, _ => none
 | k + 1, x3, x6, x7, x8 => if x8 < x7 then (if 0 ≤ x8 then (if x8 < (x6.length : Int) then (if ((rd_T27 x6 x8).f0) = 1 then (if x3.length < 17592186044416 then ((some (x3 ++ [(rd_T27 x6 x8).f2] : List Int)).bind fun y154 => ((cell_Leaves.f k ((rd_T27 x6 x8).f3)).bind fun t157 => (if y154.length + t157.length < 17592186044416 then (cell_Leaves.l0 k (y154 ++ t157) x6 x7 (wrap64 (x8 + 1))) else (none)))) else (none)) else ((cell_Leaves.f k ((rd_T27 x6 x8).f3)).bind fun t163 => (if x3.length + t163.length < 17592186044416 then (cell_Leaves.l0 k (x3 ++ t163) x6 x7 (wrap64 (x8 + 1))) else (none)))) else (none)) else (none)) else (some x3)
def cell_Leaves.f : Nat → List (S27) → Option (List Int)
 | 0, _ => none
 | k + 1, l0 => cell_Leaves.l0 k ([] : List Int) l0 (l0.length : Int) 0
end
theorem cell_Leaves.mono_l : ∀ k, (∀ y0, LeO (cell_Leaves.f k y0) (cell_Leaves.f (k + 1) y0)) ∧ (∀ y0 y1 y2 y3, LeO (cell_Leaves.l0 k y0 y1 y2 y3) (cell_Leaves.l0 (k + 1) y0 y1 y2 y3))
 | 0 => ⟨fun _ r h => by simp [cell_Leaves.f] at h, fun _ _ _ _ r h => by simp [cell_Leaves.l0] at h⟩
 | k + 1 => by
  obtain ⟨ih0, ih1⟩ := cell_Leaves.mono_l k
  refine ⟨?_, ?_⟩
  ·intro y0
   unfold cell_Leaves.f
   repeat' first
   | (with_reducible exact ih0 _)
   | (with_reducible exact ih1 _ _ _ _)
   | (with_reducible exact LeO.refl _)
   | (with_reducible exact LeO.none _)
   | (with_reducible refine LeO.ite ?_ ?_)
   | (with_reducible refine LeO.bind ?_ (fun _ => ?_))
  ·intro y0 y1 y2 y3
   unfold cell_Leaves.l0
   repeat' first
   | (with_reducible exact ih0 _)
   | (with_reducible exact ih1 _ _ _ _)
   | (with_reducible exact LeO.refl _)
   | (with_reducible exact LeO.none _)
   | (with_reducible refine LeO.ite ?_ ?_)
   | (with_reducible refine LeO.bind ?_ (fun _ => ?_))
mutual
def sashref01_ReadHex.l0 : Nat → ByteArray → Int → Int → Option (Int × Bool)
 | 0, _, _, _ => none
 | k + 1, x0, x4, x5 => if x5 < 4 then (sashref01_ReadHex.l1 k x0 x4 x5 (-1) 0) else (some (IntKind.u16.wrap (x4), true))
def sashref01_ReadHex.l1 : Nat → ByteArray → Int → Int → Int → Int → Option (Int × Bool)
 | 0, _, _, _, _, _ => none
 | k + 1, x0, x4, x5, x6, x7 => if x7 < 16 then ((sashref01_Digit.f x7).bind fun t444 => (if 0 ≤ x5 then (if x5 ≤ (wrap64 (x5 + 1)) then (if (wrap64 (x5 + 1)) ≤ (x0.size : Int) then (if t444.toList = (x0.extract (x5 : Int).toNat ((wrap64 (x5 + 1)) : Int).toNat).toList then (sashref01_ReadHex.l1 k x0 x4 x5 x7 (wrap64 (x7 + 1))) else (sashref01_ReadHex.l1 k x0 x4 x5 x6 (wrap64 (x7 + 1)))) else (none)) else (none)) else (none))) else (if x6 < 0 then (some (0, false)) else (sashref01_ReadHex.l0 k x0 (wrap64 ((wrap64 (16 * x4)) + x6)) (wrap64 (x5 + 1))))
end
def sashref01_ReadHex.f (k : Nat) (a0 : ByteArray) : Option (Int × Bool) := if (a0.size : Int) = 4 then (sashref01_ReadHex.l0 k a0 0 0) else (some (0, false))
theorem sashref01_ReadHex.mono_l : ∀ k, (∀ y0 y1 y2, LeO (sashref01_ReadHex.l0 k y0 y1 y2) (sashref01_ReadHex.l0 (k + 1) y0 y1 y2)) ∧ (∀ y0 y1 y2 y3 y4, LeO (sashref01_ReadHex.l1 k y0 y1 y2 y3 y4) (sashref01_ReadHex.l1 (k + 1) y0 y1 y2 y3 y4))
 | 0 => ⟨fun _ _ _ r h => by simp [sashref01_ReadHex.l0] at h, fun _ _ _ _ _ r h => by simp [sashref01_ReadHex.l1] at h⟩
 | k + 1 => by
  obtain ⟨ih0, ih1⟩ := sashref01_ReadHex.mono_l k
  refine ⟨?_, ?_⟩
  ·intro y0 y1 y2
   unfold sashref01_ReadHex.l0
   repeat' first
   | (with_reducible exact ih0 _ _ _)
   | (with_reducible exact ih1 _ _ _ _ _)
   | (with_reducible exact LeO.refl _)
   | (with_reducible exact LeO.none _)
   | (with_reducible refine LeO.ite ?_ ?_)
   | (with_reducible refine LeO.bind ?_ (fun _ => ?_))
  ·intro y0 y1 y2 y3 y4
   unfold sashref01_ReadHex.l1
   repeat' first
   | (with_reducible exact ih0 _ _ _)
   | (with_reducible exact ih1 _ _ _ _ _)
   | (with_reducible exact LeO.refl _)
   | (with_reducible exact LeO.none _)
   | (with_reducible refine LeO.ite ?_ ?_)
   | (with_reducible refine LeO.bind ?_ (fun _ => ?_))
theorem sashref01_ReadHex.mono : ∀ a0 k, LeO (sashref01_ReadHex.f k a0) (sashref01_ReadHex.f (k + 1) a0) := by
 intro a0 k
 obtain ⟨ih0, ih1⟩ := sashref01_ReadHex.mono_l k
 unfold sashref01_ReadHex.f
 repeat' first
   | (with_reducible exact ih0 _ _ _)
   | (with_reducible exact ih1 _ _ _ _ _)
   | (with_reducible exact LeO.refl _)
   | (with_reducible exact LeO.none _)
   | (with_reducible refine LeO.ite ?_ ?_)
   | (with_reducible refine LeO.bind ?_ (fun _ => ?_))
set_option maxHeartbeats 8000000 in
set_option maxRecDepth 100000 in
theorem sashref01_ReadHex.calls (k : Nat) (a0 : ByteArray) (r1 : Int) (r2 : Bool) (w : World) (h : sashref01_ReadHex.f k a0 = some (r1, r2)) :
  Calls Tryz.prog 56 #[.string a0] w fun e w' => e = .returned (.tuple #[.int .u16 r1, .bool r2]) ∧ Drawn0 w w' := by
 have H : (if (a0.size : Int) = 4 then (sashref01_ReadHex.l0 k a0 0 0) else (some (0, false))) = some (r1, r2) := h
 clear h
 by_cases c2 : (a0.size : Int) = 4
 ·rw [if_pos c2] at H
  have c2b0 : ((a0.size : Int) == 4) = true := beq_iff_eq.mpr c2
  have c2b1 : ((a0.size : Int) != 4) = false := bne_eq_false_iff_eq.mpr c2
  clear c2
  have H' := ak H
  clear H
  go_enter Tryz.func56, Tryz.ntmps56
  go_wp2
  repeat (go_quiet (fail); try go_wp2)
  go_loopg [4, 5] k (fun kq v4 v5 w' => ∃ (x4_1 : Int) (x5_1 : Int), v4 = .int .i64 x4_1 ∧ v5 = .int .i64 x5_1 ∧ Aside0 (sashref01_ReadHex.l0 kq a0 x4_1 x5_1 = some (r1, r2)) ∧ Aside0 (kq ≤ k) ∧ Drawn0 w w')
  case atStart => exact ⟨(0), (0), mq39, mq39, H', ⟨Nat.le_refl _⟩, mq52⟩
  case round =>
   clear H'
   clear c2b0 c2b1
   obtain ⟨x4_1, x5_1, rfl, rfl, HA, HK1, ⟨m1, rfl⟩⟩ := hrel
   cases gk with
   | zero => exact absurd HA.out (by simp [sashref01_ReadHex.l0])
   | succ k1 =>
    have H := HA.out
    clear HA
    simp only [sashref01_ReadHex.l0] at H
    by_cases c3 : x5_1 < 4
    ·rw [if_pos c3] at H
     have c3b0 : decide (x5_1 < 4) = true := decide_eq_true c3
     clear c3
     have H' := ak H
     clear H
     go_wp2
     repeat (go_quiet (fail); try go_wp2)
     go_loopg [6, 7] k1 (fun kq v6 v7 w' => ∃ (x6_2 : Int) (x7_2 : Int), v6 = .int .i64 x6_2 ∧ v7 = .int .i64 x7_2 ∧ Aside0 (sashref01_ReadHex.l1 kq a0 x4_1 x5_1 x6_2 x7_2 = some (r1, r2)) ∧ Aside0 (kq ≤ k1) ∧ Drawn0 w w')
     case atStart => exact ⟨((-1)), (0), mq39, mq39, H', ⟨Nat.le_refl _⟩, mq52⟩
     case round =>
      clear H'
      clear c3b0
      obtain ⟨x6_2, x7_2, rfl, rfl, HA, HK2, ⟨m2, rfl⟩⟩ := hrel
      cases gk with
      | zero => exact absurd HA.out (by simp [sashref01_ReadHex.l1])
      | succ k2 =>
       have H := HA.out
       clear HA
       simp only [sashref01_ReadHex.l1] at H
       by_cases c4 : x7_2 < 16
       ·rw [if_pos c4] at H
        have c4b0 : decide (x7_2 < 16) = true := decide_eq_true c4
        clear c4
        replace H := Option.bind_eq_some_iff.mp H
        obtain ⟨t444, A50, H⟩ := H
        replace H : (if 0 ≤ x5_1 then (if x5_1 ≤ (wrap64 (x5_1 + 1)) then (if (wrap64 (x5_1 + 1)) ≤ (a0.size : Int) then (if t444.toList = (a0.extract (x5_1 : Int).toNat ((wrap64 (x5_1 + 1)) : Int).toNat).toList then (sashref01_ReadHex.l1 k2 a0 x4_1 x5_1 x7_2 (wrap64 (x7_2 + 1))) else (sashref01_ReadHex.l1 k2 a0 x4_1 x5_1 x6_2 (wrap64 (x7_2 + 1)))) else (none)) else (none)) else (none)) = some (r1, r2) := H
        have A5 := ak A50
        clear A50
        by_cases c6 : 0 ≤ x5_1
        ·rw [if_pos c6] at H
         have c6b0 := eq_true c6
         have c6b1 : decide (0 ≤ x5_1) = true := decide_eq_true c6
         clear c6
         by_cases c7 : x5_1 ≤ (wrap64 (x5_1 + 1))
         ·rw [if_pos c7] at H
          have c7b0 := eq_true c7
          have c7b1 : decide (x5_1 ≤ (wrap64 (x5_1 + 1))) = true := decide_eq_true c7
          by_cases c8 : (wrap64 (x5_1 + 1)) ≤ (a0.size : Int)
          ·rw [if_pos c8] at H
           have c8b0 := eq_true c8
           have c8b1 : decide ((wrap64 (x5_1 + 1)) ≤ (a0.size : Int)) = true := decide_eq_true c8
           by_cases c9 : t444.toList = (a0.extract (x5_1 : Int).toNat ((wrap64 (x5_1 + 1)) : Int).toNat).toList
           ·rw [if_pos c9] at H
            have c9b0 : (t444.toList == (a0.extract (x5_1 : Int).toNat ((wrap64 (x5_1 + 1)) : Int).toNat).toList) = true := beq_iff_eq.mpr c9
            have c9b1 : (t444.toList != (a0.extract (x5_1 : Int).toNat ((wrap64 (x5_1 + 1)) : Int).toNat).toList) = false := bne_eq_false_iff_eq.mpr c9
            clear c9
            have H' := ak H
            clear H
            go_wp2_with (first | (go_at_call 55; (with_reducible refine (sashref01_Digit.calls x7_2 t444 _ A5.out).mono ?_); rintro e w' ⟨rfl, ⟨nd, rfl⟩⟩; (try first | exact ⟨rfl, _, World.drewN_drewN _ _ _⟩ | exact ⟨rfl, _, Eq.trans (World.drewN_drewN _ _ _) (congrArg (World.drewN _) (Nat.add_assoc _ _ _))⟩)))
            repeat (go_quiet (first | (go_at_call 55; (with_reducible refine (sashref01_Digit.calls x7_2 t444 _ A5.out).mono ?_); rintro e w' ⟨rfl, ⟨nd, rfl⟩⟩; (try first | exact ⟨rfl, _, World.drewN_drewN _ _ _⟩ | exact ⟨rfl, _, Eq.trans (World.drewN_drewN _ _ _) (congrArg (World.drewN _) (Nat.add_assoc _ _ _))⟩))); try go_wp2_with (first | (go_at_call 55; (with_reducible refine (sashref01_Digit.calls x7_2 t444 _ A5.out).mono ?_); rintro e w' ⟨rfl, ⟨nd, rfl⟩⟩; (try first | exact ⟨rfl, _, World.drewN_drewN _ _ _⟩ | exact ⟨rfl, _, Eq.trans (World.drewN_drewN _ _ _) (congrArg (World.drewN _) (Nat.add_assoc _ _ _))⟩))))
            go_roundg k2
            case measure => have := HK1.out; have := HK2.out; omega
            case rel => exact ⟨(x7_2), (wrap64 (x7_2 + 1)), mq39, mq39, H', ⟨mq46 HK1 HK2⟩, mq52⟩
           ·rw [if_neg c9] at H
            have c9b0 : (t444.toList == (a0.extract (x5_1 : Int).toNat ((wrap64 (x5_1 + 1)) : Int).toNat).toList) = false := beq_eq_false_iff_ne.mpr c9
            have c9b1 : (t444.toList != (a0.extract (x5_1 : Int).toNat ((wrap64 (x5_1 + 1)) : Int).toNat).toList) = true := bne_iff_ne.mpr c9
            have H' := ak H
            clear H
            go_wp2_with (first | (go_at_call 55; (with_reducible refine (sashref01_Digit.calls x7_2 t444 _ A5.out).mono ?_); rintro e w' ⟨rfl, ⟨nd, rfl⟩⟩; (try first | exact ⟨rfl, _, World.drewN_drewN _ _ _⟩ | exact ⟨rfl, _, Eq.trans (World.drewN_drewN _ _ _) (congrArg (World.drewN _) (Nat.add_assoc _ _ _))⟩)))
            repeat (go_quiet (first | (go_at_call 55; (with_reducible refine (sashref01_Digit.calls x7_2 t444 _ A5.out).mono ?_); rintro e w' ⟨rfl, ⟨nd, rfl⟩⟩; (try first | exact ⟨rfl, _, World.drewN_drewN _ _ _⟩ | exact ⟨rfl, _, Eq.trans (World.drewN_drewN _ _ _) (congrArg (World.drewN _) (Nat.add_assoc _ _ _))⟩))); try go_wp2_with (first | (go_at_call 55; (with_reducible refine (sashref01_Digit.calls x7_2 t444 _ A5.out).mono ?_); rintro e w' ⟨rfl, ⟨nd, rfl⟩⟩; (try first | exact ⟨rfl, _, World.drewN_drewN _ _ _⟩ | exact ⟨rfl, _, Eq.trans (World.drewN_drewN _ _ _) (congrArg (World.drewN _) (Nat.add_assoc _ _ _))⟩))))
            go_roundg k2
            case measure => have := HK1.out; have := HK2.out; omega
            case rel => exact ⟨(x6_2), (wrap64 (x7_2 + 1)), mq39, mq39, H', ⟨mq46 HK1 HK2⟩, mq52⟩
          ·rw [if_neg c8] at H
           exact absurd H (by simp)
         ·rw [if_neg c7] at H
          exact absurd H (by simp)
        ·rw [if_neg c6] at H
         exact absurd H (by simp)
       ·rw [if_neg c4] at H
        have c4b0 : decide (x7_2 < 16) = false := decide_eq_false c4
        clear c4
        by_cases c10 : x6_2 < 0
        ·rw [if_pos c10] at H
         have c10b0 : decide (x6_2 < 0) = true := decide_eq_true c10
         clear c10
         simp only [Option.some.injEq, Prod.mk.injEq] at H
         obtain ⟨rfl, rfl⟩ := H
         go_wp2
         repeat (go_quiet (fail); try go_wp2)
         go_ret2
         exact ⟨mq39, mq52⟩
        ·rw [if_neg c10] at H
         have c10b0 : decide (x6_2 < 0) = false := decide_eq_false c10
         clear c10
         have H' := ak H
         clear H
         go_wp2
         repeat (go_quiet (fail); try go_wp2)
         go_roundg k2
         case measure => have := HK1.out; have := HK2.out; omega
         case rel => exact ⟨(wrap64 ((wrap64 (16 * x4_1)) + x6_2)), (wrap64 (x5_1 + 1)), mq39, mq39, H', ⟨mq46 HK1 HK2⟩, mq52⟩
    ·rw [if_neg c3] at H
     have c3b0 : decide (x5_1 < 4) = false := decide_eq_false c3
     clear c3
     simp only [Option.some.injEq, Prod.mk.injEq] at H
     obtain ⟨rfl, rfl⟩ := H
     go_wp2
     repeat (go_quiet (fail); try go_wp2)
     go_ret2
     exact ⟨mq39, mq52⟩
 ·rw [if_neg c2] at H
  have c2b0 : ((a0.size : Int) == 4) = false := beq_eq_false_iff_ne.mpr c2
  have c2b1 : ((a0.size : Int) != 4) = true := bne_iff_ne.mpr c2
  simp only [Option.some.injEq, Prod.mk.injEq] at H
  obtain ⟨rfl, rfl⟩ := H
  go_enter Tryz.func56, Tryz.ntmps56
  go_wp2
  repeat (go_quiet (fail); try go_wp2)
  go_ret2
  exact ⟨mq39, mq52⟩
def sashref02_Cut.j0 : Nat → ByteArray → Bool → Option (ByteArray × Int)
 | 0, _, _ => none
 | k + 1, x0, x16 => if x16 = true then (some ((⟨#[]⟩ : ByteArray), 2)) else (if 0 ≤ 4 then (if 4 ≤ (x0.size : Int) then ((sashref01_ReadHex.f k (x0.extract 0 4)).bind fun bt445 => (if bt445.2 = true then (if 5 ≤ (x0.size : Int) then ((sashref02_From.f k 0 (x0.extract 5 x0.size)).bind fun t447 => (if t447 = bt445.1 then (some (x0.extract 5 x0.size, 0)) else (some ((⟨#[]⟩ : ByteArray), 4)))) else (none)) else (some ((⟨#[]⟩ : ByteArray), 2)))) else (none)) else (none))
def sashref02_Cut.f (k : Nat) (a0 : ByteArray) : Option (ByteArray × Int) := if (a0.size : Int) > 65535 then (some ((⟨#[]⟩ : ByteArray), 3)) else (if (a0.size : Int) < 5 then (sashref02_Cut.j0 k a0 true) else (if 4 ≤ 5 then (if 5 ≤ (a0.size : Int) then (sashref02_Cut.j0 k a0 ((a0.extract 4 5).toList != ([44] : List UInt8))) else (none)) else (none)))
set_option maxHeartbeats 8000000 in
set_option maxRecDepth 100000 in
theorem sashref02_Cut.calls (k : Nat) (a0 : ByteArray) (r1 : ByteArray) (r2 : Int) (w : World) (h : sashref02_Cut.f k a0 = some (r1, r2)) :
  Calls Tryz.prog 35 #[.string a0] w fun e w' => e = .returned (.tuple #[.string r1, .int .i64 r2]) ∧ Drawn0 w w' := by
 have H : (if (a0.size : Int) > 65535 then (some ((⟨#[]⟩ : ByteArray), 3)) else (if (a0.size : Int) < 5 then (sashref02_Cut.j0 k a0 true) else (if 4 ≤ 5 then (if 5 ≤ (a0.size : Int) then (sashref02_Cut.j0 k a0 ((a0.extract 4 5).toList != ([44] : List UInt8))) else (none)) else (none)))) = some (r1, r2) := h
 clear h
 by_cases c2 : (a0.size : Int) > 65535
 ·rw [if_pos c2] at H
  have c2b0 : decide (65535 < (a0.size : Int)) = true := decide_eq_true c2
  have c2b1 : decide (65535 < a0.size) = true := decide_eq_true (by omega)
  clear c2
  simp only [Option.some.injEq, Prod.mk.injEq] at H
  obtain ⟨rfl, rfl⟩ := H
  go_enter Tryz.func35, Tryz.ntmps35
  go_wp2
  go_ret2
  exact ⟨mq39, mq52⟩
 ·rw [if_neg c2] at H
  have c2b0 : decide (65535 < (a0.size : Int)) = false := decide_eq_false c2
  have c2b1 : decide (65535 < a0.size) = false := decide_eq_false (by omega)
  clear c2
  have HC3 := ak H
  clear H
  go_enter Tryz.func35, Tryz.ntmps35
  go_upto_region 3 with (fail)
  go_cut [16] (fun v16 wc => ∃ (kq : Nat) (x16_2 : Bool), v16 = .bool x16_2 ∧ Aside0 (sashref02_Cut.j0 kq a0 x16_2 = some (r1, r2)) ∧ Aside0 (kq ≤ k) ∧ Drawn0 w wc)
  case first =>
   have H := HC3.out
   clear HC3
   by_cases c4 : (a0.size : Int) < 5
   ·rw [if_pos c4] at H
    have c4b0 : decide ((a0.size : Int) < 5) = true := decide_eq_true c4
    have c4b1 : decide (a0.size < 5) = true := decide_eq_true (by omega)
    clear c4
    (first | rw [c4b0] | (simp only [i64_w, i32_w]; rw [c4b0]) | skip)
    have H' := ak H
    clear H
    go_wp2
    go_meet
    case rel => exact ⟨_, (true), mq39, H', ⟨mq36⟩, mq52⟩
   ·rw [if_neg c4] at H
    have c4b0 : decide ((a0.size : Int) < 5) = false := decide_eq_false c4
    have c4b1 : decide (a0.size < 5) = false := decide_eq_false (by omega)
    clear c4
    (first | rw [c4b0] | (simp only [i64_w, i32_w]; rw [c4b0]) | skip)
    by_cases c5 : 4 ≤ 5
    ·rw [if_pos c5] at H
     have c5b0 := eq_true c5
     have c5b1 : decide (4 ≤ 5) = true := decide_eq_true c5
     clear c5
     by_cases c6 : 5 ≤ (a0.size : Int)
     ·rw [if_pos c6] at H
      have c6b0 := eq_true c6
      have c6b1 : decide (5 ≤ (a0.size : Int)) = true := decide_eq_true c6
      clear c6
      have H' := ak H
      clear H
      go_wp2
      go_meet
      case rel => exact ⟨_, (((a0.extract 4 5).toList != ([44] : List UInt8))), mq39, H', ⟨mq36⟩, mq52⟩
     ·rw [if_neg c6] at H
      exact absurd H (by simp)
    ·rw [if_neg c5] at H
     exact absurd H (by simp)
  case rest =>
   clear HC3
   clear c2b0 c2b1
   obtain ⟨kq, x16_2, rfl, HA, HJ2, ⟨mc2, rfl⟩⟩ := hcut
   cases kq with
   | zero => exact absurd HA.out (by simp [sashref02_Cut.j0])
   | succ kj2 =>
    have H := HA.out
    clear HA
    simp only [sashref02_Cut.j0] at H
    by_cases c7 : x16_2 = true
    ·subst c7
     have H1 : (some ((⟨#[]⟩ : ByteArray), 2)) = some (r1, r2) := mq55
     clear H
     have H := H1
     clear H1
     simp only [Option.some.injEq, Prod.mk.injEq] at H
     obtain ⟨rfl, rfl⟩ := H
     go_wp2
     go_ret2
     exact ⟨mq39, mq52⟩
    ·replace c7 := Bool.eq_false_iff.mpr c7
     subst c7
     have H1 : (if 0 ≤ 4 then (if 4 ≤ (a0.size : Int) then ((sashref01_ReadHex.f kj2 (a0.extract 0 4)).bind fun bt445 => (if bt445.2 = true then (if 5 ≤ (a0.size : Int) then ((sashref02_From.f kj2 0 (a0.extract 5 a0.size)).bind fun t447 => (if t447 = bt445.1 then (some (a0.extract 5 a0.size, 0)) else (some ((⟨#[]⟩ : ByteArray), 4)))) else (none)) else (some ((⟨#[]⟩ : ByteArray), 2)))) else (none)) else (none)) = some (r1, r2) := mq54
     clear H
     have H := H1
     clear H1
     by_cases c8 : 0 ≤ 4
     ·rw [if_pos c8] at H
      have c8b0 := eq_true c8
      have c8b1 : decide (0 ≤ 4) = true := decide_eq_true c8
      clear c8
      by_cases c9 : 4 ≤ (a0.size : Int)
      ·rw [if_pos c9] at H
       have c9b0 := eq_true c9
       have c9b1 : decide (4 ≤ (a0.size : Int)) = true := decide_eq_true c9
       clear c9
       replace H := Option.bind_eq_some_iff.mp H
       obtain ⟨⟨t445, t446⟩, A100, H⟩ := H
       replace H : (if t446 = true then (if 5 ≤ (a0.size : Int) then ((sashref02_From.f kj2 0 (a0.extract 5 a0.size)).bind fun t447 => (if t447 = t445 then (some (a0.extract 5 a0.size, 0)) else (some ((⟨#[]⟩ : ByteArray), 4)))) else (none)) else (some ((⟨#[]⟩ : ByteArray), 2))) = some (r1, r2) := H
       have A10 := ak A100
       clear A100
       by_cases c11 : t446 = true
       ·subst c11
        have H1 : (if 5 ≤ (a0.size : Int) then ((sashref02_From.f kj2 0 (a0.extract 5 a0.size)).bind fun t447 => (if t447 = t445 then (some (a0.extract 5 a0.size, 0)) else (some ((⟨#[]⟩ : ByteArray), 4)))) else (none)) = some (r1, r2) := mq55
        clear H
        have H := H1
        clear H1
        by_cases c12 : 5 ≤ (a0.size : Int)
        ·rw [if_pos c12] at H
         have c12b0 := eq_true c12
         have c12b1 : decide (5 ≤ (a0.size : Int)) = true := decide_eq_true c12
         clear c12
         replace H := Option.bind_eq_some_iff.mp H
         obtain ⟨t447, A130, H⟩ := H
         replace H : (if t447 = t445 then (some (a0.extract 5 a0.size, 0)) else (some ((⟨#[]⟩ : ByteArray), 4))) = some (r1, r2) := H
         have A13 := ak A130
         clear A130
         by_cases c14 : t447 = t445
         ·rw [if_pos c14] at H
          have c14b0 : (t447 == t445) = true := beq_iff_eq.mpr c14
          have c14b1 : (t447 != t445) = false := bne_eq_false_iff_eq.mpr c14
          clear c14
          have c15b0 := eq_true (of_decide_eq_true mq34 : 5 ≤ (a0.size : Int))
          simp only [Option.some.injEq, Prod.mk.injEq] at H
          obtain ⟨rfl, rfl⟩ := H
          go_wp2_with (first | ((with_reducible refine gate_callee (f := 56) rfl ?_); refine gol (some 20) Tryz.func56 #[.string (a0.extract 0 4)] (h := ?_); (with_reducible refine (sashref01_ReadHex.calls kj2 (a0.extract 0 4) t445 true _ A10.out).mono ?_); rintro e w' ⟨rfl, ⟨nd, rfl⟩⟩; refine ⟨_, rfl, ?_⟩) | ((with_reducible refine gate_callee (f := 31) rfl ?_); refine gol (some 27) Tryz.func31 #[.int .u16 0, .string (a0.extract 5 a0.size)] (h := ?_); (with_reducible refine (sashref02_From.calls kj2 0 (a0.extract 5 a0.size) t447 _ A13.out).mono ?_); rintro e w' ⟨rfl, ⟨nd, rfl⟩⟩; refine ⟨_, rfl, ?_⟩))
          go_ret2
          exact ⟨mq39, mq52⟩
         ·rw [if_neg c14] at H
          have c14b0 : (t447 == t445) = false := beq_eq_false_iff_ne.mpr c14
          have c14b1 : (t447 != t445) = true := bne_iff_ne.mpr c14
          simp only [Option.some.injEq, Prod.mk.injEq] at H
          obtain ⟨rfl, rfl⟩ := H
          go_wp2_with (first | ((with_reducible refine gate_callee (f := 56) rfl ?_); refine gol (some 20) Tryz.func56 #[.string (a0.extract 0 4)] (h := ?_); (with_reducible refine (sashref01_ReadHex.calls kj2 (a0.extract 0 4) t445 true _ A10.out).mono ?_); rintro e w' ⟨rfl, ⟨nd, rfl⟩⟩; refine ⟨_, rfl, ?_⟩) | ((with_reducible refine gate_callee (f := 31) rfl ?_); refine gol (some 27) Tryz.func31 #[.int .u16 0, .string (a0.extract 5 a0.size)] (h := ?_); (with_reducible refine (sashref02_From.calls kj2 0 (a0.extract 5 a0.size) t447 _ A13.out).mono ?_); rintro e w' ⟨rfl, ⟨nd, rfl⟩⟩; refine ⟨_, rfl, ?_⟩))
          go_ret2
          exact ⟨mq39, mq52⟩
        ·rw [if_neg c12] at H
         exact absurd H (by simp)
       ·replace c11 := Bool.eq_false_iff.mpr c11
        subst c11
        have H1 : (some ((⟨#[]⟩ : ByteArray), 2)) = some (r1, r2) := mq54
        clear H
        have H := H1
        clear H1
        simp only [Option.some.injEq, Prod.mk.injEq] at H
        obtain ⟨rfl, rfl⟩ := H
        go_wp2_with (first | ((with_reducible refine gate_callee (f := 56) rfl ?_); refine gol (some 20) Tryz.func56 #[.string (a0.extract 0 4)] (h := ?_); (with_reducible refine (sashref01_ReadHex.calls kj2 (a0.extract 0 4) t445 false _ A10.out).mono ?_); rintro e w' ⟨rfl, ⟨nd, rfl⟩⟩; refine ⟨_, rfl, ?_⟩))
        go_ret2
        exact ⟨mq39, mq52⟩
      ·rw [if_neg c9] at H
       exact absurd H (by simp)
     ·rw [if_neg c8] at H
      exact absurd H (by simp)
end Go.Proofs.YtkobpbbegalfpaaGreatDoor.PParseBodies
namespace Go.Proofs.YtkobpbbegalfpaaGreatDoor
open Go.RowKit YtkobpbbegalfpaaGreatDoorW.PrintWords YtkobpbbegalfpaaGreatDoorW.PrintLast YtkobpbbegalfpaaGreatDoorW.PrintMore PParseBodies
set_option linter.unusedVariables false
theorem refDigit2_pure (x : Int) (h0 : 0 ≤ x) (h1 : x < 16) : sashref01_Digit.f x = some (⟨#[dgt x]⟩ : ByteArray) := by
 exact refDigit_pure x h0 h1
theorem dgt_iff (c : UInt8) (j : Int) (h0 : 0 ≤ j) (h1 : j < 16) : dgt j = c ↔ lowV (c.toNat : Int) = j := by
 constructor
 ·rintro rfl; exact low_dgt j h0 h1
 ·rintro rfl; exact dgt_low c h0
theorem ext_one (s : ByteArray) (i : Nat) (h : i < s.size) : (s.extract i (i + 1)).toList = [s[i]] := by
 rw [ByteArray.toList_eq, ByteArray.data_extract, Array.toList_extract]
 have hl : i < s.data.toList.length := by simpa using h
 simp only [List.extract, Nat.add_sub_cancel_left]
 rw [List.drop_eq_getElem_cons hl]
 rfl
theorem sing_list (b : UInt8) : (⟨#[b]⟩ : ByteArray).toList = [b] := by rw [ByteArray.toList_eq]
theorem wr64 (x : Int) (h0 : -1000000 ≤ x) (h1 : x ≤ 10000000) : wrap64 x = x := by unfold wrap64; omega
def metV (v j : Int) : Int := if 0 ≤ v ∧ v < j then v else -1
theorem metV16 (v : Int) (h : -1 ≤ v ∧ v < 16) : metV v 16 = v := by unfold metV; split <;> omega
theorem rh_l1 (s : ByteArray) (x : Int) (i : Nat) (hi : i < s.size) (hi4 : i < 100) (d : Nat) : ∀ (k : Nat) (j : Int), 16 - j = d → 0 ≤ j → j ≤ 16 → d < k →
  sashref01_ReadHex.l1 k s x (i : Int) (metV (lowV (s[i].toNat : Int)) j) j = (if lowV (s[i].toNat : Int) < 0 then some (0, false) else sashref01_ReadHex.l0 (k - d - 1) s (wrap64 ((wrap64 (16 * x)) + lowV (s[i].toNat : Int))) ((i + 1 : Nat) : Int)) := by
 induction d with
 | zero =>
  intro k j hd h0 h1 hk
  obtain ⟨k, rfl⟩ : ∃ m, k = m + 1 := ⟨k - 1, by omega⟩
  have hj : j = 16 := by omega
  subst hj
  have hm : metV (lowV (s[i].toNat : Int)) 16 = lowV (s[i].toNat : Int) := metV16 _ (lowV_range (s[i].toNat : Int))
  rw [hm]
  clear hm
  generalize lowV (s[i].toNat : Int) = v
  simp only [sashref01_ReadHex.l1]
  rw [if_neg (by decide), wr1 i (by omega), show k + 1 - 0 - 1 = k from by omega]
 | succ d ih =>
  intro k j hd h0 h1 hk
  obtain ⟨k, rfl⟩ : ∃ m, k = m + 1 := ⟨k - 1, by omega⟩
  have hr := lowV_range (s[i].toNat : Int)
  have hT : ((i : Int)).toNat = i := Int.toNat_natCast i
  have hT1 : ((i + 1 : Nat) : Int).toNat = i + 1 := Int.toNat_natCast (i + 1)
  have hdg := dgt_iff s[i] j h0 (by omega)
  simp only [sashref01_ReadHex.l1]
  rw [if_pos (by omega), refDigit2_pure j h0 (by omega), Option.bind_some]
  rw [wr1 i (by omega), if_pos (by omega), if_pos (by omega), if_pos (by omega), hT, hT1, ext_one s i hi, sing_list, wr64 (j + 1) (by omega) (by omega)]
  have e := ih k (j + 1) (by omega) (by omega) (by omega) (by omega)
  rw [show k + 1 - (d + 1) - 1 = k - d - 1 from by omega]
  by_cases hv : lowV (s[i].toNat : Int) = j
  ·have hm : metV (lowV (s[i].toNat : Int)) (j + 1) = j := by unfold metV; rw [if_pos (by omega), hv]
   rw [if_pos (by rw [hdg.2 hv]), ← e, hm]
  ·have hm : metV (lowV (s[i].toNat : Int)) (j + 1) = metV (lowV (s[i].toNat : Int)) j := by
    unfold metV
    by_cases h : 0 ≤ lowV (s[i].toNat : Int) ∧ lowV (s[i].toNat : Int) < j
    ·rw [if_pos h, if_pos (by omega)]
    ·rw [if_neg h, if_neg (by omega)]
   rw [if_neg (by intro h; injection h with h _; exact hv (hdg.1 h)), ← e, hm]
theorem rh_l0 (s : ByteArray) (x : Int) (h0 : 0 ≤ x) (h1 : x ≤ 65535) (i : Nat) (hi : i < s.size) (hi4 : i < 4) (k : Nat) :
  sashref01_ReadHex.l0 (k + 18) s x (i : Int) = (if lowV (s[i].toNat : Int) < 0 then some (0, false) else sashref01_ReadHex.l0 k s (16 * x + lowV (s[i].toNat : Int)) ((i + 1 : Nat) : Int)) := by
 have hr := lowV_range (s[i].toNat : Int)
 have e : sashref01_ReadHex.l0 (k + 18) s x (i : Int) = sashref01_ReadHex.l1 (k + 17) s x (i : Int) (-1) 0 := by
  rw [show k + 18 = (k + 17) + 1 from rfl]
  simp only [sashref01_ReadHex.l0]
  rw [if_pos (by omega)]
 have h := rh_l1 s x i hi (by omega) 16 (k + 17) 0 (by omega) (by omega) (by omega) (by omega)
 have hm : metV (lowV (s[i].toNat : Int)) 0 = -1 := by unfold metV; rw [if_neg (by omega)]
 rw [hm] at h
 rw [e, h, show k + 17 - 16 - 1 = k from by omega, wr64 (16 * x) (by omega) (by omega), wr64 (16 * x + lowV (s[i].toNat : Int)) (by omega) (by omega)]
theorem rh_end (s : ByteArray) (x : Int) (h0 : 0 ≤ x) (h1 : x ≤ 65535) (k : Nat) : sashref01_ReadHex.l0 (k + 1) s x ((3 + 1 : Nat) : Int) = some (x, true) := by
 simp only [sashref01_ReadHex.l0]
 rw [if_neg (by decide), wrap_u16]
 congr 2
 omega
theorem rh_end1 (s : ByteArray) (x : Int) (h0 : 0 ≤ x) (h1 : x ≤ 65535) : sashref01_ReadHex.l0 1 s x ((3 + 1 : Nat) : Int) = some (x, true) := rh_end s x h0 h1 0
def unhexP (s : ByteArray) : Int × Bool := match unhexS s with
 | some u => (u, true)
 | none => (0, false)
theorem list4 (s : ByteArray) (h : s.size = 4) : s.data.toList = [s[0], s[1], s[2], s[3]] := by
 have hl : s.data.toList.length = 4 := by simpa using h
 apply List.ext_getElem
 ·rw [hl]; rfl
 ·intro i h1 h2
  have hi : i < 4 := by omega
  match i, hi with
  | 0, _ => rfl
  | 1, _ => rfl
  | 2, _ => rfl
  | 3, _ => rfl
theorem refRH_pure (s : ByteArray) : sashref01_ReadHex.f 73 s = some (unhexP s) := by
 unfold sashref01_ReadHex.f
 by_cases h4 : s.size = 4
 ·rw [if_pos (by omega)]
  have r0 := lowV_range (s[0].toNat : Int); have r1 := lowV_range (s[1].toNat : Int); have r2 := lowV_range (s[2].toNat : Int); have r3 := lowV_range (s[3].toNat : Int)
  have hu : unhexP s = match unhexL [s[0], s[1], s[2], s[3]] with
   | some u => (u, true)
   | none => (0, false) := by unfold unhexP unhexS; rw [list4 s h4]
  rw [hu]
  simp only [unhexL]
  have e0 := rh_l0 s 0 (by omega) (by omega) 0 (by omega) (by omega) 55
  rw [show ((0 : Nat) : Int) = 0 from rfl] at e0
  rw [show (73 : Nat) = 55 + 18 from rfl, e0]
  by_cases h0 : lowV (s[0].toNat : Int) < 0
  ·rw [if_pos h0, if_neg (by omega)]
  ·rw [if_neg h0, show (55 : Nat) = 37 + 18 from rfl, rh_l0 s _ (by omega) (by omega) 1 (by omega) (by omega) 37]
   by_cases h1 : lowV (s[1].toNat : Int) < 0
   ·rw [if_pos h1, if_neg (by omega)]
   ·rw [if_neg h1, show (37 : Nat) = 19 + 18 from rfl, rh_l0 s _ (by omega) (by omega) 2 (by omega) (by omega) 19]
    by_cases h2 : lowV (s[2].toNat : Int) < 0
    ·rw [if_pos h2, if_neg (by omega)]
    ·rw [if_neg h2, show (19 : Nat) = 1 + 18 from rfl, rh_l0 s _ (by omega) (by omega) 3 (by omega) (by omega) 1]
     by_cases h3 : lowV (s[3].toNat : Int) < 0
     ·rw [if_pos h3, if_neg (by omega)]
     ·rw [if_neg h3, if_pos (by omega)]
      rw [rh_end1 s _ (by omega) (by omega)]
      simp only [Int.mul_zero, Int.zero_add]
 ·rw [if_neg (by omega)]
  have hu : unhexS s = none := by
   rcases h : unhexS s with _ | u
   ·rfl
   ·obtain ⟨a, b, c, d, hl, _, _⟩ := unhexL_some h
    have := congrArg List.length hl
    have e : s.data.toList.length = s.size := by simp
    simp at this
    omega
  unfold unhexP
  rw [hu]
end Go.Proofs.YtkobpbbegalfpaaGreatDoor
namespace Go.Proofs.YtkobpbbegalfpaaGreatDoor
open Go.RowKit YtkobpbbegalfpaaGreatDoorW.PrintWords YtkobpbbegalfpaaGreatDoorW.PrintLast YtkobpbbegalfpaaGreatDoorW.PrintMore
set_option linter.unusedVariables false
def OutH (w : World) (r : Int × Int) (e : Ending) (w' : World) : Prop := e = .returned (.tuple #[.int .u16 r.1, .int .i64 r.2]) ∧ Below w.heap.size w w'
set_option maxHeartbeats 1000000 in
theorem rhex_calls (s : ByteArray) (hs : s.size ≤ 140737488355328) (w : World) (hT : NumT w) (hE : NumE w) : Calls Tryz.prog 53 #[.string s] w (OutH w (rhR s)) := by
 rw [rhR_of]
 have HT := ak hT
 have HE := ak hE
 clear hT hE
 rcases hr : hexRead s with _ | u
 ·have HP := ak (puint16_err s (by omega) hr w HE.out)
  clear hr
  go_enter Tryz.func53, Tryz.ntmps53
  go_wp2_with (go_at_call 82; refine HP.out.mono ?_; rintro e w1 ⟨x, N, rfl, hb⟩)
  go_ret2
  exact ⟨rfl, hb⟩
 ·have hr2 := hexRead_range hr
  have HP := ak (puint16_ok s (by omega) u hr w)
  have HH := ak (fun w1 (hb : Below w.heap.size w w1) => hex_calls u hr2.1 (by omega) w1 (HT.out.below hb))
  have hw : IntKind.u16.wrap u = u := by rw [show IntKind.u16.wrap u = u % 65536 by simp [IntKind.wrap, IntKind.bits, IntKind.signed]]; omega
  obtain ⟨h0, h1⟩ := hr2
  clear hr
  by_cases he : hex4 u = s
  ·have hte : ((hex4 u).toList == s.toList) = true := by rw [he]; simp
   have hte2 : ((hex4 u).toList = s.toList) := by rw [he]
   simp only [if_pos he]
   have HQ := ak he
   clear he
   generalize hex4 u = x at *
   go_enter Tryz.func53, Tryz.ntmps53
   go_wp2_with (first | (go_at_call 82; refine HP.out.mono ?_; rintro e w1 ⟨rfl, hb⟩; replace hb := ak hb) | (go_at_call 61; refine (HH.out _ hb.out).mono ?_; rintro e w2 ⟨rfl, hb2⟩))
   go_ret2
   exact ⟨rfl, hb.out.trans (hb2.mono hb.out.size)⟩
  ·have hte2 : ¬ (hex4 u).toList = s.toList := fun h => he (bytes_ext h)
   have hte : ((hex4 u).toList == s.toList) = false := by simpa using hte2
   simp only [if_neg he]
   clear he
   generalize hex4 u = x at *
   go_enter Tryz.func53, Tryz.ntmps53
   go_wp2_with (first | (go_at_call 82; refine HP.out.mono ?_; rintro e w1 ⟨rfl, hb⟩; replace hb := ak hb) | (go_at_call 61; refine (HH.out _ hb.out).mono ?_; rintro e w2 ⟨rfl, hb2⟩))
   go_ret2
   exact ⟨rfl, hb.out.trans (hb2.mono hb.out.size)⟩
end Go.Proofs.YtkobpbbegalfpaaGreatDoor
namespace Go.Proofs.YtkobpbbegalfpaaGreatDoor
open Go.RowKit YtkobpbbegalfpaaGreatDoorW.PrintWords YtkobpbbegalfpaaGreatDoorW.PrintLast YtkobpbbegalfpaaGreatDoorW.PrintMore PParseBodies
set_option linter.unusedVariables false
def cutR (s : ByteArray) : ByteArray × Int :=
 if 65535 < s.size then (⟨#[]⟩, 3) else if s.size < 5 then (⟨#[]⟩, 2) else if ¬ bt s 4 = 44 then (⟨#[]⟩, 2)
 else match unhexS (s.extract 0 4) with
  | none => (⟨#[]⟩, 2)
  | some c => if c = sumL 0 (s.extract 5 s.size).data.toList then (s.extract 5 s.size, 0) else (⟨#[]⟩, 4)
def OutC (w : World) (r : ByteArray × Int) (e : Ending) (w' : World) : Prop := e = .returned (.tuple #[.string r.1, .int .i64 r.2]) ∧ Below w.heap.size w w'
theorem bt4 (s : ByteArray) (h : 4 < s.size) : bt s 4 = ((s[4]'h).toNat : Int) := bt_nat s 4 h
set_option maxRecDepth 100000 in
set_option maxHeartbeats 2000000 in
theorem cut_calls (s : ByteArray) (hs : s.size ≤ 1000000) (w : World) (hT : NumT w) (hE : NumE w) : Calls Tryz.prog 29 #[.string s] w (OutC w (cutR s)) := by
 unfold cutR
 have HT := ak hT
 have HE := ak hE
 clear hT hE
 by_cases h1 : 65535 < s.size
 ·rw [if_pos h1]
  go_enter Tryz.func29, Tryz.ntmps29
  go_wp2
  go_ret2
  exact ⟨rfl, Below.refl _ _⟩
 ·rw [if_neg h1]
  by_cases h2 : s.size < 5
  ·rw [if_pos h2]
   go_enter Tryz.func29, Tryz.ntmps29
   go_wp2
   go_ret2
   exact ⟨rfl, Below.refl _ _⟩
  ·rw [if_neg h2]
   have h4 : 4 < s.size := by omega
   rw [bt4 s h4]
   by_cases h3 : ¬ ((s[4]'h4).toNat : Int) = 44
   ·rw [if_pos h3]
    have q3 : (((s[4]'h4).toNat : Int) == 44) = false := by simpa using h3
    have q4 : (((s[4]'h4).toNat : Int) != 44) = true := by simpa using h3
    go_enter Tryz.func29, Tryz.ntmps29
    go_wp2
    go_ret2
    exact ⟨rfl, Below.refl _ _⟩
   ·rw [if_neg h3]
    have h3' : ((s[4]'h4).toNat : Int) = 44 := by omega
    clear h3
    have HH := ak (rhex_calls (s.extract 0 4) (by simp; omega) w HT.out HE.out)
    unfold rhR at HH
    have hxs : (s.extract 5 s.size).size ≤ 1000000 := by simp; omega
    have HO := ak (of1_calls (s.extract 5 s.size) (by omega))
    have hn := sumL_range (s.extract 5 s.size).data.toList 0 (by omega) (by omega)
    clear hxs
    rcases hu : unhexS (s.extract 0 4) with _ | c
    ·rw [hu] at HH
     clear hu hn HO
     go_enter Tryz.func29, Tryz.ntmps29
     go_wp2_with (go_at_call 53; refine HH.out.mono ?_; rintro e w1 ⟨rfl, hb⟩)
     go_ret2
     exact ⟨rfl, hb⟩
    ·rw [hu] at HH
     have hc := unhexS_range hu
     clear hu
     generalize sumL 0 (s.extract 5 s.size).data.toList = n at *
     simp only
     by_cases he : c = n
     ·rw [if_pos he]
      subst he
      go_enter Tryz.func29, Tryz.ntmps29
      go_wp2_with (first | (go_at_call 53; refine HH.out.mono ?_; rintro e w1 ⟨rfl, hb⟩; replace hb := ak hb) | (go_at_call 54; refine (HO.out _).mono ?_; rintro e w2 ⟨rfl, hb2⟩))
      go_ret2
      exact ⟨rfl, hb.out.trans (hb2.mono hb.out.size)⟩
     ·rw [if_neg he]
      have qe : (c == n) = false := by simpa using he
      go_enter Tryz.func29, Tryz.ntmps29
      go_wp2_with (first | (go_at_call 53; refine HH.out.mono ?_; rintro e w1 ⟨rfl, hb⟩; replace hb := ak hb) | (go_at_call 54; refine (HO.out _).mono ?_; rintro e w2 ⟨rfl, hb2⟩))
      go_ret2
      exact ⟨rfl, hb.out.trans (hb2.mono hb.out.size)⟩
set_option linter.unusedSimpArgs false
set_option maxRecDepth 100000
def Tr (B : Nat) (w : World) (A : Option Addr) (n : Nat) (xs : List SC) : Prop := Kd.F k27 w (fun k => k < B) A n xs
theorem Tr.now {B : Nat} {w : World} {A : Option Addr} {n : Nat} {xs : List SC} (h : Tr B w A n xs) : (k27).C w A n xs := Kd.F_now h
theorem Tr.of {w : World} {A : Option Addr} {n : Nat} {xs : List SC} (h : (k27).C w A n xs) : Tr w.heap.size w A n xs := fun W' hW => k27_heap.C (fun k hk => hW k hk hk) h
theorem Tr.mono {B B' : Nat} {w : World} {A : Option Addr} {n : Nat} {xs : List SC} (h : Tr B w A n xs) (hB : B ≤ B') : Tr B' w A n xs := Kd.F_mono h (fun k hk => Nat.lt_of_lt_of_le hk hB)
theorem Tr.below {B : Nat} {w w' : World} {A : Option Addr} {n : Nat} {xs : List SC} (h : Tr B w A n xs) (hb : Below B w w') : Tr B w' A n xs := Kd.F_step h (fun k hk _ => hb.block k hk)
theorem Tr.len {B : Nat} {w : World} {A : Option Addr} {n : Nat} {xs : List SC} (h : Tr B w A n xs) : xs.length = n := Kd.F_len h
theorem Tr.max {B : Nat} {w : World} {A : Option Addr} {n : Nat} {xs : List SC} (h : Tr B w A n xs) : n ≤ 9223372036854775807 := Kd.F_max h
theorem Tr.get {B : Nat} {w : World} {A : Option Addr} {n : Nat} {xs : List SC} (h : Tr B w A n xs) (k : Nat) (hk : k < n) : ∃ ad A6 c6, A = some ad ∧
  w.cell? (ad.add (k * 7)) = some (.int .u8 (xs.getD k z27).f0) ∧
  w.cell? ⟨(ad.add (k * 7)).block, (ad.add (k * 7)).off + 1, none⟩ = some (.int .i64 (xs.getD k z27).f1.f0) ∧
  w.cell? ⟨(ad.add (k * 7)).block, (ad.add (k * 7)).off + 2, none⟩ = some (.int .i64 (xs.getD k z27).f1.f1) ∧
  w.cell? ⟨(ad.add (k * 7)).block, (ad.add (k * 7)).off + 3, none⟩ = some (.int .i64 (xs.getD k z27).f1.f2) ∧
  w.cell? ⟨(ad.add (k * 7)).block, (ad.add (k * 7)).off + 4, none⟩ = some (.int .i64 (xs.getD k z27).f1.f3) ∧
  w.cell? ⟨(ad.add (k * 7)).block, (ad.add (k * 7)).off + 5, none⟩ = some (.int .i64 (xs.getD k z27).f2) ∧
  w.cell? ⟨(ad.add (k * 7)).block, (ad.add (k * 7)).off + 6, none⟩ = some (.slice A6 (xs.getD k z27).f3.length c6) ∧
  (xs.getD k z27).f3.length ≤ c6 ∧ Tr B w A6 (xs.getD k z27).f3.length (xs.getD k z27).f3 := by
 obtain ⟨ad, c, e, _, hK, hc0, _⟩ := Kd.F_get h z27 (k : Int) (by omega) (by omega)
 rw [Int.toNat_natCast] at hK hc0
 have hc : ∀ j u, c[j]? = some u → w.cell? (ad.add (k * 7 + j)) = some u := hc0
 obtain ⟨A6, c6, rfl, l6, g6⟩ := k27_openF hK
 exact ⟨ad, A6, c6, e, hc 0 _ rfl, by rw [← add_field _ _ 1 (by omega)]; exact hc 1 _ rfl, by rw [← add_field _ _ 2 (by omega)]; exact hc 2 _ rfl, by rw [← add_field _ _ 3 (by omega)]; exact hc 3 _ rfl, by rw [← add_field _ _ 4 (by omega)]; exact hc 4 _ rfl, by rw [← add_field _ _ 5 (by omega)]; exact hc 5 _ rfl, by rw [← add_field _ _ 6 (by omega)]; exact hc 6 _ rfl, l6, g6⟩
def Loose (B N : Nat) (w : World) (k : Nat) : Prop := B ≤ k ∧ (k < N ∨ ∃ cs, w.heap[k]? = some (.cells cs 24 (0, 0)))
structure Mid (B N : Nat) (w w' : World) : Prop where mk :: (out : Keeps (Loose B N w) w w')
theorem Mid.refl (B N : Nat) (w : World) : Mid B N w w := ⟨Keeps.refl _ _⟩
theorem Mid.size {B N : Nat} {w w' : World} (h : Mid B N w w') : w.heap.size ≤ w'.heap.size := h.out.size
theorem Mid.trans {B N : Nat} {a b c : World} (h : Mid B N a b) (k : Mid B N b c) : Mid B N a c :=
 ⟨⟨k.out.os.trans h.out.os, k.out.tape.trans h.out.tape, k.out.output.trans h.out.output, Nat.le_trans h.out.size k.out.size, fun i hi hn => by
  have e := h.out.block i hi hn
  refine (k.out.block i (Nat.lt_of_lt_of_le hi h.out.size) (fun hl => hn ⟨hl.1, hl.2.imp id (fun ⟨cs, hc⟩ => ⟨cs, ?_⟩)⟩)).trans e
  rw [← e]; exact hc⟩⟩
theorem Mid.below {B N : Nat} {a b c : World} (h : Mid B N a b) (k : Below b.heap.size b c) : Mid B N a c := ⟨h.out.below k⟩
theorem Mid.ofBelow {B N : Nat} {w w' : World} (h : Below w.heap.size w w') : Mid B N w w' := (Mid.refl B N w).below h
theorem Mid.setCell {B N : Nat} {a b : World} (h : Mid B N a b) {p : Addr} (hp : B ≤ p.block ∧ p.block < N) (u : Value) : Mid B N a (b.setCell p u) := ⟨h.out.setCell ⟨hp.1, .inl hp.2⟩ u⟩
theorem Mid.grown {B N : Nat} {a b c : World} {row : Option Nat} (h : Mid B N a b) (hg : b.grownBy c row) (hr : ∀ k, row = some k → B ≤ k ∧ k < N) : Mid B N a c := ⟨h.out.grown hg (fun k hk => ⟨(hr k hk).1, .inl (hr k hk).2⟩)⟩
theorem Mid.grownR {B N : Nat} {b c : World} {row : Option Nat} (hg : b.grownBy c row) (hr : ∀ k, row = some k → B ≤ k ∧ ∃ cs, b.heap[k]? = some (.cells cs 24 (0, 0))) : Mid B N b c :=
 ⟨(Keeps.refl _ _).grown hg (fun k hk => ⟨(hr k hk).1, .inr (hr k hk).2⟩)⟩
theorem Mid.toB {B N : Nat} {w w' : World} (h : Mid B N w w') (hB : B ≤ w.heap.size) : Below B w w' := h.out.toBelow hB (fun _ hk => hk.1)
theorem Mid.blk {B N : Nat} {w w' : World} (h : Mid B N w w') {p t : Nat} {cs : Array Value} (hc : w.heap[p]? = some (.cells cs t (0, 0))) (hN : N ≤ p) (ht : t ≠ 24) : w'.heap[p]? = some (.cells cs t (0, 0)) :=
 (h.out.block p (blk_lt hc) (fun hk => by
  rcases hk.2 with h1 | ⟨cs', h1⟩
  ·omega
  ·rw [hc] at h1
   injection h1 with h1
   injection h1 with _ h1
   exact ht h1)).trans hc
structure Stable {σ : Type} (Inv : World → σ → Nat → Prop) : Prop where
 below : ∀ w w' st u, Inv w st u → Below w.heap.size w w' → Inv w' st u
 mono : ∀ w st u u', Inv w st u → u ≤ u' → Inv w st u'
def PredF {σ : Type} (B N M g : Nat) (lb : Array Value) (Inv : World → σ → Nat → Prop) (wt : SC → Nat) (F : σ → SC → Bool × σ) (xs : List SC) : Prop :=
 ∀ x ∈ xs, ∀ (w : World) (st : σ) (u : Nat) (A : Option Addr) (cap : Nat), Inv w st u → u + wt x ≤ M → N ≤ w.heap.size → x.f3.length ≤ cap → Tr B w A x.f3.length x.f3 →
  Calls Tryz.prog g (#[.agg #[.int .u8 x.f0, .int .i64 x.f1.f0, .int .i64 x.f1.f1, .int .i64 x.f1.f2, .int .i64 x.f1.f3, .int .i64 x.f2, .slice A x.f3.length cap]] ++ lb) w
   fun e w' => e = .returned (.bool (F st x).1) ∧ Inv w' (F st x).2 (u + wt x) ∧ Mid B N w w'
theorem PredF.sub {σ : Type} {B N M g : Nat} {lb : Array Value} {Inv : World → σ → Nat → Prop} {wt : SC → Nat} {F : σ → SC → Bool × σ} {xs ys : List SC} (h : PredF B N M g lb Inv wt F xs) (hs : ∀ x ∈ ys, x ∈ xs) : PredF B N M g lb Inv wt F ys := fun x hx => h x (hs x hx)
theorem anyL_drop {σ : Type} (F : σ → SC → Bool × σ) (st : σ) (xs : List SC) (k : Nat) (hk : k < xs.length) :
  anyL F st (xs.drop k) = if (F st (xs.getD k z27)).1 = true then (true, (F st (xs.getD k z27)).2) else anyL F (F st (xs.getD k z27)).2 (xs.drop (k + 1)) := by
 rw [List.drop_eq_getElem_cons hk, List.getD_eq_getElem?_getD, List.getElem?_eq_getElem hk]
 rfl
def wts (wt : SC → Nat) (xs : List SC) : Nat := (xs.map wt).sum
theorem wts_drop (wt : SC → Nat) (xs : List SC) (k : Nat) (hk : k < xs.length) : wts wt (xs.drop k) = wt (xs.getD k z27) + wts wt (xs.drop (k + 1)) := by
 rw [List.drop_eq_getElem_cons hk, List.getD_eq_getElem?_getD, List.getElem?_eq_getElem hk]
 simp only [wts, List.map_cons, List.sum_cons]
 rfl
theorem wts_cells (l : List SC) : wts (fun k => (cells k).length) l = (cellsL l).length := by
 induction l with
 | nil => simp [wts, cellsL_nil]
 | cons c l ih =>
  rw [cellsL_cons, List.length_append, ← ih]
  simp [wts]
set_option maxHeartbeats 4000000 in
theorem ifn_calls {σ : Type} (B N M g : Nat) (lb : Array Value) (eg : ∀ args w, (callFunc g args).run Tryz.prog w = .ok (.enter g args) w) (Inv : World → σ → Nat → Prop) (hI : Stable Inv) (wt : SC → Nat) (F : σ → SC → Bool × σ)
  (A : Option Addr) (n c : Nat) (xs : List SC) (w : World) (st : σ) (u : Nat) (hBN : B ≤ N) (hN : N ≤ w.heap.size) (hP : PredF B N M g lb Inv wt F xs) (hr : Tr B w A n xs) (hi : Inv w st u) (hu : u + wts wt xs ≤ M) :
  Calls Tryz.prog 100 #[.slice A n c, .func (.func g) #[] lb] w fun e w' => ∃ r : Int, e = .returned (.int .i64 r) ∧ decide (0 ≤ r) = (anyL F st xs).1 ∧ Inv w' (anyL F st xs).2 (u + wts wt xs) ∧ Mid B N w w' := by
 have HP := ak hP
 have HR := ak hr
 have HI := ak hi
 have HII := ak hI
 have hmax := hr.max
 have hlen := ak hr.len
 obtain ⟨T, hT⟩ : ∃ T, T = u + wts wt xs := ⟨_, rfl⟩
 rw [← hT] at hu ⊢
 have HT := ak hT
 clear hP hr hi hI hT
 go_enter Tryz.func100, Tryz.ntmps100
 go_wp2
 go_loopw [5, 8] (fun _ i wr => ∃ (k : Nat) (s : σ) (v : Nat), k ≤ n ∧ i = .int .i64 k ∧ Aside0 (Inv wr s v ∧ Mid B N w wr ∧ anyL F s (xs.drop k) = anyL F st xs ∧ v + wts wt (xs.drop k) = T)) (fun _ i _ => n - (intOf i).toNat)
 case atStart => exact ⟨0, st, u, by omega, rfl, ⟨HI.out, Mid.refl _ _ _, rfl, HT.out.symm⟩⟩
 case round =>
  obtain ⟨k, s, v, hk, rfl, HA⟩ := hrel
  have hsz := HA.out.2.1.size
  by_cases hlt : k < n
  ·obtain ⟨ad, A6, c6, rfl, g0, g1, g2, g3, g4, g5, g6, hl6, hT6⟩ := (HR.out.below (HA.out.2.1.toB (by omega))).get k hlt
   have hd := anyL_drop F s xs k (by have := hlen.out; omega)
   have hw := wts_drop wt xs k (by have := hlen.out; omega)
   rw [HA.out.2.2.1] at hd
   obtain ⟨x, hx⟩ : ∃ x, x = xs.getD k z27 := ⟨_, rfl⟩
   have hmem : x ∈ xs := by
    rw [hx, List.getD_eq_getElem?_getD, List.getElem?_eq_getElem (by have := hlen.out; omega)]
    exact List.getElem_mem _
   rw [← hx] at g0 g1 g2 g3 g4 g5 g6 hl6 hT6 hd hw
   have hq := HA.out.2.2.2
   rw [hw] at hq
   have HW : Aside0 (v + wt x + wts wt (xs.drop (k + 1)) = T) := ⟨by omega⟩
   clear hx hw
   have HC := ak (HP.out x hmem wr s v A6 c6 HA.out.1 (by omega) (by omega) hl6 hT6)
   have HM := ak HA.out.2.1
   clear hmem hl6 hT6 HA hq
   cases hp : (F s x).1 with
   | true =>
    rw [hp, if_pos rfl] at hd
    have HD := ak hd
    rw [hp] at HC
    clear hd hp
    go_wp2_with fail
    refine HC.out.mono ?_
    rintro e w1 ⟨rfl, h1⟩
    have H1 := ak h1
    clear h1
    go_wp2
    go_ret
    exact ⟨_, rfl, by rw [HD.out]; simp, by rw [HD.out]; exact HII.out.mono _ _ _ _ H1.out.1 (by have := HW.out; omega), HM.out.trans H1.out.2⟩
   | false =>
    rw [hp, if_neg (by decide)] at hd
    have HD := ak hd
    rw [hp] at HC
    clear hd hp
    go_wp2_with fail
    refine HC.out.mono ?_
    rintro e w1 ⟨rfl, h1⟩
    have H1 := ak h1
    clear h1
    go_wp2
    go_roundw
    case rel => exact ⟨k + 1, _, _, by omega, by go_num, ⟨H1.out.1, HM.out.trans H1.out.2, HD.out.symm, HW.out⟩⟩
    case measure => simp [intOf]; omega
  ·have hdn : xs.drop k = [] := List.drop_eq_nil_of_le (by have := hlen.out; omega)
   have HD : Aside0 (anyL F st xs = (false, s)) := ⟨by rw [← HA.out.2.2.1, hdn]; rfl⟩
   have HV : Aside0 (v = T) := ⟨by have := HA.out.2.2.2; rw [hdn] at this; simpa [wts] using this⟩
   clear hdn
   go_wp2
   go_ret
   exact ⟨_, rfl, by rw [HD.out]; rfl, by rw [HD.out, ← HV.out]; exact HA.out.1, HA.out.2.1⟩
theorem cfn_calls {σ : Type} (B N M g : Nat) (lb : Array Value) (eg : ∀ args w, (callFunc g args).run Tryz.prog w = .ok (.enter g args) w) (Inv : World → σ → Nat → Prop) (hI : Stable Inv) (wt : SC → Nat) (F : σ → SC → Bool × σ)
  (A : Option Addr) (n c : Nat) (xs : List SC) (w : World) (st : σ) (u : Nat) (hBN : B ≤ N) (hN : N ≤ w.heap.size) (hP : PredF B N M g lb Inv wt F xs) (hr : Tr B w A n xs) (hi : Inv w st u) (hu : u + wts wt xs ≤ M) :
  Calls Tryz.prog 75 #[.slice A n c, .func (.func g) #[] lb] w fun e w' => e = .returned (.bool (anyL F st xs).1) ∧ Inv w' (anyL F st xs).2 (u + wts wt xs) ∧ Mid B N w w' := by
 have HC := ak (ifn_calls B N M g lb eg Inv hI wt F A n c xs w st u hBN hN hP hr hi hu)
 clear hP hr hi hI hu
 go_enter Tryz.func75, Tryz.ntmps75
 go_wp2_with fail
 refine HC.out.mono ?_
 rintro e w1 ⟨r, rfl, h1, h2⟩
 have H1 := ak h1
 have H2 := ak h2
 clear h1 h2
 go_wp2
 go_ret
 exact ⟨by rw [← H1.out]; rfl, H2.out.1, H2.out.2⟩
theorem none_calls {σ : Type} (B N M g : Nat) (lb : Array Value) (eg : ∀ args w, (callFunc g args).run Tryz.prog w = .ok (.enter g args) w) (Inv : World → σ → Nat → Prop) (hI : Stable Inv) (wt : SC → Nat) (F : σ → SC → Bool × σ)
  (A : Option Addr) (n c : Nat) (xs : List SC) (w : World) (st : σ) (u : Nat) (hBN : B ≤ N) (hN : N ≤ w.heap.size) (hP : PredF B N M g lb Inv wt F xs) (hr : Tr B w A n xs) (hi : Inv w st u) (hu : u + wts wt xs ≤ M) :
  Calls Tryz.prog 72 #[.slice A n c, .func (.func g) #[] lb] w fun e w' => e = .returned (.bool (!(anyL F st xs).1)) ∧ Inv w' (anyL F st xs).2 (u + wts wt xs) ∧ Mid B N w w' := by
 have HC := ak (cfn_calls B N M g lb eg Inv hI wt F A n c xs w st u hBN hN hP hr hi hu)
 clear hP hr hi hI hu
 go_enter Tryz.func72, Tryz.ntmps72
 go_wp2_with fail
 refine HC.out.mono ?_
 rintro e w1 ⟨rfl, h2⟩
 have H2 := ak h2
 clear h2
 go_wp2
 go_ret
 exact ⟨rfl, H2.out.1, H2.out.2⟩
theorem enters114 : ∀ args w, (callFunc 114 args).run Tryz.prog w = .ok (.enter 114 args) w := enters_of Tryz.func114 (by kernel_rfl) rfl
def WithFn {σ : Type} (Inv : World → σ → Nat → Prop) (p : Nat) (fv : Value) (w : World) (st : σ) (u : Nat) : Prop := Inv w st u ∧ w.heap[p]? = some (.cells #[fv] 50 (0, 0))
theorem WithFn.stable {σ : Type} {Inv : World → σ → Nat → Prop} (h : Stable Inv) (p : Nat) (fv : Value) : Stable (WithFn Inv p fv) :=
 ⟨fun w w' st u hi hb => ⟨h.below _ _ _ _ hi.1 hb, (hb.block p (blk_lt hi.2)).trans hi.2⟩, fun w st u u' hi hu => ⟨h.mono _ _ _ _ hi.1 hu, hi.2⟩⟩
theorem boxTr {B : Nat} {w : World} {A : Option Addr} {n : Nat} {xs : List SC} (h : Tr B w A n xs) (o : Obj) (hB : B ≤ w.heap.size) : Tr B (w.alloc o) A n xs := h.below ((Below.refl _ _).alloc hB _)
def AllOk (B N M g : Nat) (lb : Array Value) {σ : Type} (Inv : World → σ → Nat → Prop) (f : σ → SC → Bool × σ) (c : SC) : Prop :=
 ∀ (w : World) (st : σ) (u : Nat) (A : Option Addr) (cap : Nat), Inv w st u → u + (cells c).length ≤ M → N ≤ w.heap.size → c.f3.length ≤ cap → Tr B w A c.f3.length c.f3 →
  Calls Tryz.prog 96 #[.agg #[.int .u8 c.f0, .int .i64 c.f1.f0, .int .i64 c.f1.f1, .int .i64 c.f1.f2, .int .i64 c.f1.f3, .int .i64 c.f2, .slice A c.f3.length cap], .func (.func g) #[] lb] w
   fun e w' => e = .returned (.bool (visitL f st (cells c)).1) ∧ Inv w' (visitL f st (cells c)).2 (u + (cells c).length) ∧ Mid B N w w'
theorem all1_calls {σ : Type} (B N M g p : Nat) (lb : Array Value) (Inv : World → σ → Nat → Prop) (hI : Stable Inv) (f : σ → SC → Bool × σ) (k : SC) (hBN : B ≤ N) (hp : N ≤ p) (hA : AllOk B N M g lb Inv f k)
  (w : World) (st : σ) (u : Nat) (A : Option Addr) (cap : Nat) (hi : WithFn Inv p (.func (.func g) #[] lb) w st u) (hu : u + (cells k).length ≤ M) (hN : N ≤ w.heap.size) (hc : k.f3.length ≤ cap) (hT : Tr B w A k.f3.length k.f3) :
  Calls Tryz.prog 114 #[.agg #[.int .u8 k.f0, .int .i64 k.f1.f0, .int .i64 k.f1.f1, .int .i64 k.f1.f2, .int .i64 k.f1.f3, .int .i64 k.f2, .slice A k.f3.length cap], .pointer (some ⟨p, 0, none⟩)] w
   fun e w' => e = .returned (.bool (notV f st k).1) ∧ WithFn Inv p (.func (.func g) #[] lb) w' (notV f st k).2 (u + (cells k).length) ∧ Mid B N w w' := by
 obtain ⟨h1, hheap⟩ := hi
 have hcell : w.cell? ⟨p, 0, none⟩ = some (.func (.func g) #[] lb) := by rw [blk_cell hheap]; rfl
 have HH := ak hheap
 clear hheap
 obtain ⟨w1, hw1⟩ : ∃ w1, w1 = w.alloc (.cells #[.int .u8 k.f0, .int .i64 k.f1.f0, .int .i64 k.f1.f1, .int .i64 k.f1.f2, .int .i64 k.f1.f3, .int .i64 k.f2, .slice A k.f3.length cap] 27) := ⟨_, rfl⟩
 have hb : Below w.heap.size w w1 := by rw [hw1]; exact below_alloc (Below.refl _ _) _
 have hbB : Below B w w1 := by rw [hw1]; exact (Below.refl _ _).alloc (by omega) _
 have HC := ak (hA w1 st u A cap (hI.below _ _ _ _ h1 hb) hu (by have := hb.size; omega) hc (hT.below hbB))
 have HK := ak hcell
 have HB := ak hb
 have HL := ak (pw_cell_below hb hcell)
 have HP := ak hp
 rw [hw1] at HC
 have hlt := World.block_lt_of_cell? w _ hcell
 have HW := ak hw1
 generalize hv : visitL f st (cells k) = r at HC
 have HV := ak hv
 clear hw1 h1 hI hA hu hT hb hbB hv hp
 go_enter Tryz.func114, Tryz.ntmps114
 go_wp2_with fail
 with_reducible refine HC.out.mono ?_
 rintro e w2 ⟨rfl, h2⟩
 have H2 := ak h2
 clear h2
 go_wp2
 go_ret
 refine ⟨by simp [notV, HV.out], ⟨by simp only [notV, HV.out]; exact H2.out.1, ?_⟩, ?_⟩
 ·have hm := H2.out.2
  rw [← HW.out] at hm
  exact hm.blk ((HB.out.block p (blk_lt HH.out)).trans HH.out) HP.out (by decide)
 ·have hm := H2.out.2
  rw [← HW.out] at hm
  exact (Mid.ofBelow HB.out).trans hm
set_option maxHeartbeats 4000000 in
theorem all_calls {σ : Type} (B N M g : Nat) (lb : Array Value) (eg : ∀ args w, (callFunc g args).run Tryz.prog w = .ok (.enter g args) w) (Inv : World → σ → Nat → Prop) (hI : Stable Inv) (f : σ → SC → Bool × σ) (hBN : B ≤ N)
  (c : SC) (hP : PredF B N M g lb Inv (fun _ => 1) f (cells c)) : AllOk B N M g lb Inv f c := by
 revert hP
 refine cell_ind (P := fun c => PredF B N M g lb Inv (fun _ => 1) f (cells c) → AllOk B N M g lb Inv f c) (fun c ih hP => ?_) c
 have hkids : ∀ k ∈ c.f3, AllOk B N M g lb Inv f k := fun k hk => ih k hk (hP.sub (cells_kid hk))
 clear ih
 intro w st u A cap hi hu hN hc hT
 obtain ⟨w1, hw1⟩ : ∃ w1, w1 = (w.alloc (.cells #[.int .u8 c.f0, .int .i64 c.f1.f0, .int .i64 c.f1.f1, .int .i64 c.f1.f2, .int .i64 c.f1.f3, .int .i64 c.f2, .slice A c.f3.length cap] 27)).alloc (.cells #[.func (.func g) #[] lb] 50) := ⟨_, rfl⟩
 have hb : Below w.heap.size w w1 := by rw [hw1]; exact below_alloc (below_alloc (Below.refl _ _) _) _
 have hsz : w1.heap.size = w.heap.size + 2 := by rw [hw1]; simp
 have hcl : (cells c).length = 1 + (cellsL c.f3).length := by rw [cells_eq]; simp; omega
 have hT1 : Tr B w1 A c.f3.length c.f3 := hT.below (((Mid.ofBelow hb : Mid B N w w1)).toB (by omega))
 have HC := ak (hP c (cells_self c) w1 st u A cap (hI.below _ _ _ _ hi hb) (by show u + 1 ≤ M; omega) (by omega) hc hT1)
 have k6 : w1.heap[w.heap.size]? = some (.cells #[.int .u8 c.f0, .int .i64 c.f1.f0, .int .i64 c.f1.f1, .int .i64 c.f1.f2, .int .i64 c.f1.f3, .int .i64 c.f2, .slice A c.f3.length cap] 27 (0, 0)) := by
  rw [hw1, Below.heap_alloc _ _ _ (by simp)]; exact heap_alloc_new w _
 have kf : w1.heap[w.heap.size + 1]? = some (.cells #[.func (.func g) #[] lb] 50 (0, 0)) := by
  rw [hw1]
  have h := heap_alloc_new (w.alloc (.cells #[.int .u8 c.f0, .int .i64 c.f1.f0, .int .i64 c.f1.f1, .int .i64 c.f1.f2, .int .i64 c.f1.f3, .int .i64 c.f2, .slice A c.f3.length cap] 27)) (.cells #[.func (.func g) #[] lb] 50)
  simpa using h
 have hvis := visit_self f st c
 rw [hw1] at HC
 have HW := ak hw1
 have HB := ak hb
 have K6 := ak k6
 have KF := ak kf
 have HT := ak hT1
 have HK := ak hkids
 have HII := ak hI
 have HCL := ak hcl
 have HSZ := ak hsz
 have HU := ak hu
 clear hw1 hb k6 kf hT1 hkids hI hT hi hP hcl hsz hu
 generalize hv : visitL f st (cells c) = r at *
 have hr1 : ∀ b, (f st c).1 = b → Aside0 (r = if b = true then visitL f (f st c).2 (cellsL c.f3) else (false, (f st c).2)) := fun b hb => ⟨by rw [hvis, hb]⟩
 clear hv hvis
 cases hp : (f st c).1 with
 | false =>
  rw [hp] at HC
  have HR := hr1 false hp
  clear hr1 hp
  go_enter Tryz.func96, Tryz.ntmps96
  go_wp2_with fail
  refine HC.out.mono ?_
  rintro e w2 ⟨rfl, h2⟩
  have H2 := ak h2
  clear h2
  go_wp2
  go_ret
  have e : r = (false, (f st c).2) := HR.out
  refine ⟨by rw [e]; rfl, by rw [e]; exact HII.out.mono _ _ _ _ H2.out.1 (by rw [HCL.out]; omega), ?_⟩
  have hm := H2.out.2
  rw [← HW.out] at hm
  exact (Mid.ofBelow HB.out).trans hm
 | true =>
  rw [hp] at HC
  have HR := hr1 true hp
  clear hr1 hp
  go_enter Tryz.func96, Tryz.ntmps96
  go_wp2_with fail
  refine HC.out.mono ?_
  rintro e w2 ⟨rfl, h2⟩
  have hm := h2.2
  rw [← HW.out] at hm
  have hsz2 : w.heap.size + 2 ≤ w2.heap.size := by have := hm.size; rw [HSZ.out] at this; exact this
  have g6 : w2.cell? ⟨w.heap.size, 6, none⟩ = some (.slice A c.f3.length cap) := by rw [blk_cell (hm.blk K6.out hN (by decide))]; rfl
  have gf := hm.blk KF.out (by omega) (by decide)
  have hT2 : Tr B w2 A c.f3.length c.f3 := HT.out.below (hm.toB (by rw [HSZ.out]; omega))
  have hpred : PredF B N M 114 #[.pointer (some ⟨w.heap.size + 1, 0, none⟩)] (WithFn Inv (w.heap.size + 1) (.func (.func g) #[] lb)) (fun k => (cells k).length) (notV f) c.f3 :=
   fun k hk w st u A cap h1 h2 h3 h4 h5 => all1_calls B N M g _ lb Inv HII.out f k hBN (by omega) (HK.out k hk) w st u A cap h1 h2 h3 h4 h5
  have HN := none_calls B N M 114 #[.pointer (some ⟨w.heap.size + 1, 0, none⟩)] enters114 (WithFn Inv (w.heap.size + 1) (.func (.func g) #[] lb)) (HII.out |> fun h => WithFn.stable h _ _) (fun k => (cells k).length) (notV f) A c.f3.length cap c.f3 w2 (f st c).2 (u + 1) hBN (by omega) hpred hT2 ⟨h2.1, gf⟩ (by rw [wts_cells]; have := HU.out; have := HCL.out; omega)
  rw [any_visit, wts_cells] at HN
  have HN := ak HN
  have HM := ak hm
  clear h2 hm gf hT2 hpred HC
  go_wp2_with fail
  refine HN.out.mono ?_
  rintro e w3 ⟨rfl, h3⟩
  have H3 := ak h3
  clear h3
  go_wp2
  go_ret
  have e : r = visitL f (f st c).2 (cellsL c.f3) := HR.out
  refine ⟨by rw [e]; simp, by rw [e, HCL.out]; have := H3.out.1.1; rwa [Nat.add_assoc] at this, ((Mid.ofBelow HB.out).trans HM.out).trans H3.out.2⟩
end Go.Proofs.YtkobpbbegalfpaaGreatDoor
namespace Go.Proofs.YtkobpbbegalfpaaGreatDoor.PParseBodies
open Go.RowKit YtkobpbbegalfpaaGreatDoorW.PrintWords YtkobpbbegalfpaaGreatDoorW.PrintLast YtkobpbbegalfpaaGreatDoorW.PrintMore
attribute [local go_sem] max2_int min2_int max_two min_two max_three min_three max_four min_four
set_option linter.unusedVariables false
set_option linter.unusedSimpArgs false
end Go.Proofs.YtkobpbbegalfpaaGreatDoor.PParseBodies
