/- Printed texts of this seat, cut to what is used. -/
import Derived.Test.YtkobpbbegalfpaaGreatDoorMac
import Derived.Test.YtkobpbbegalfpaaGreatDoorPParseBodiesx0
namespace Go.Proofs.YtkobpbbegalfpaaGreatDoor.PParseBodies
open Go.RowKit Go.Proofs.YtkobpbbegalfpaaGreatDoorW.PrintWords Go.Proofs.YtkobpbbegalfpaaGreatDoorW.PrintLast Go.Proofs.YtkobpbbegalfpaaGreatDoorW.PrintMore
attribute [local go_sem] max2_int min2_int max_two min_two max_three min_three max_four min_four   -- for this text's walks alone
set_option linter.unusedVariables false
set_option linter.unusedSimpArgs false





def bits_RotateLeft16.f (a0 : Int) (a1 : Int) : Option (Int) := if 0 ≤ (Go.bits .and .u64 (IntKind.u64.wrap (a1)) 15) then (if 0 ≤ (IntKind.u64.wrap (16 - (Go.bits .and .u64 (IntKind.u64.wrap (a1)) 15))) then (some (Go.bits .or .u16 (shl .u16 a0 (Go.bits .and .u64 (IntKind.u64.wrap (a1)) 15)) (shr .u16 a0 (IntKind.u64.wrap (16 - (Go.bits .and .u64 (IntKind.u64.wrap (a1)) 15)))))) else (none)) else (none)
set_option maxHeartbeats 8000000 in
set_option maxRecDepth 100000 in
theorem bits_RotateLeft16.calls (a0 : Int) (a1 : Int) (r : Int) (w : World) (h : bits_RotateLeft16.f a0 a1 = some r) :
  Calls Tryz.prog 104 #[.int .u16 a0, .int .i64 a1] w fun e w' => e = .returned (.int .u16 r) ∧ Drawn0 w w' := by
 have H : (if 0 ≤ (Go.bits .and .u64 (IntKind.u64.wrap (a1)) 15) then (if 0 ≤ (IntKind.u64.wrap (16 - (Go.bits .and .u64 (IntKind.u64.wrap (a1)) 15))) then (some (Go.bits .or .u16 (shl .u16 a0 (Go.bits .and .u64 (IntKind.u64.wrap (a1)) 15)) (shr .u16 a0 (IntKind.u64.wrap (16 - (Go.bits .and .u64 (IntKind.u64.wrap (a1)) 15)))))) else (none)) else (none)) = some r := h
 clear h
 obtain ⟨ji3, hji3⟩ : ∃ j_ : Int, (Go.bits .and .u64 (IntKind.u64.wrap (a1)) 15) = j_ := ⟨_, rfl⟩
 replace H : (if 0 ≤ (ji3) then (if 0 ≤ (IntKind.u64.wrap (16 - (ji3))) then (some (Go.bits .or .u16 (shl .u16 a0 (ji3)) (shr .u16 a0 (IntKind.u64.wrap (16 - (ji3)))))) else (none)) else (none)) = some r := mq32 hji3
 by_cases c4 : 0 ≤ (ji3)
 ·rw [if_pos c4] at H
  have c4b0 := eq_true c4
  have c4b1 : decide (0 ≤ (ji3)) = true := decide_eq_true c4
  clear c4
  obtain ⟨ji5, hji5⟩ : ∃ j_ : Int, (shl .u16 a0 (ji3)) = j_ := ⟨_, rfl⟩
  replace H : (if 0 ≤ (IntKind.u64.wrap (16 - (ji3))) then (some (Go.bits .or .u16 (ji5) (shr .u16 a0 (IntKind.u64.wrap (16 - (ji3)))))) else (none)) = some r := mq32 hji5
  have hji5_ : (IntKind.u16.wrap (a0 * 2 ^ min (ji3).toNat 16)) = ji5 := hji5
  have hji5z : (ji3) ≤ 16 → (IntKind.u16.wrap (a0 * 2 ^ (ji3).toNat)) = ji5 := shl_small hji5
  obtain ⟨ji6, hji6⟩ : ∃ j_ : Int, (IntKind.u64.wrap (16 - (ji3))) = j_ := ⟨_, rfl⟩
  replace H : (if 0 ≤ (ji6) then (some (Go.bits .or .u16 (ji5) (shr .u16 a0 (ji6)))) else (none)) = some r := mq32 hji6
  by_cases c7 : 0 ≤ (ji6)
  ·rw [if_pos c7] at H
   have c7b0 := eq_true c7
   have c7b1 : decide (0 ≤ (ji6)) = true := decide_eq_true c7
   clear c7
   obtain ⟨ji8, hji8⟩ : ∃ j_ : Int, (shr .u16 a0 (ji6)) = j_ := ⟨_, rfl⟩
   replace H : (some (Go.bits .or .u16 (ji5) (ji8))) = some r := mq32 hji8
   have hji8_ : (a0 / 2 ^ min (ji6).toNat 16) = ji8 := hji8
   have hji8z : (ji6) ≤ 16 → (a0 / 2 ^ (ji6).toNat) = ji8 := shr_small hji8
   obtain rfl := Option.some.inj H
   go_enter Tryz.func104, Tryz.ntmps104
   go_wp2
   go_ret
   exact ⟨by first | rfl | (simp; done) | (simp only [← hji3, ← hji5, ← hji6, ← hji8] <;> (first | rfl | simp)) | (simp [*]; done), mq52⟩
  ·rw [if_neg c7] at H
   exact absurd H (by simp)
 ·rw [if_neg c4] at H
  exact absurd H (by simp)

mutual
def sum_From.l0 : Nat → Int → List ByteArray → Int → Int → Option (Int)
 | 0, _, _, _, _ => none
 | k + 1, x0, x8, x9, x10 => if x10 < x9 then (if 0 ≤ x10 then (if x10 < (x8.length : Int) then (sum_From.l1 k x0 (rdOf ByteArray.empty x8 x10) x8 x9 x10 ((rdOf ByteArray.empty x8 x10).size : Int) 0) else (none)) else (none)) else (some x0)
def sum_From.l1 : Nat → Int → ByteArray → List ByteArray → Int → Int → Int → Int → Option (Int)
 | 0, _, _, _, _, _, _, _ => none
 | k + 1, x0, x6, x8, x9, x10, x15, x16 => if x16 < x15 then ((bits_RotateLeft16.f x0 (-1)).bind fun t149 => (if 0 ≤ x16 then (if x16 < (x6.size : Int) then (sum_From.l1 k (IntKind.u16.wrap (t149 + (IntKind.u16.wrap (bt x6 x16)))) x6 x8 x9 x10 x15 (wrap64 (x16 + 1))) else (none)) else (none))) else (sum_From.l0 k x0 x8 x9 (wrap64 (x10 + 1)))
end
def sum_From.f (k : Nat) (a0 : Int) (l1 : List ByteArray) : Option (Int) := sum_From.l0 k a0 l1 (l1.length : Int) 0
set_option maxHeartbeats 8000000 in
set_option maxRecDepth 100000 in
theorem sum_From.calls (k : Nat) (a0 : Int) (A1 : Option Addr) (c1 : Nat) (l1 : List ByteArray) (r : Int) (w : World) (hr1 : Kd.C Kd.string w A1 l1.length l1) (hc1 : l1.length ≤ c1) (h : sum_From.f k a0 l1 = some r) :
  Calls Tryz.prog 83 #[.int .u16 a0, .slice A1 l1.length c1] w fun e w' => e = .returned (.int .u16 r) ∧ Drawn0 w w' := by
 have HR1 := Aside0.mk hr1
 have HC1 := Aside0.mk hc1
 clear hr1 hc1
 have H : (sum_From.l0 k a0 l1 (l1.length : Int) 0) = some r := h
 clear h
 have H' := Aside0.mk H
 clear H
 go_enter Tryz.func83, Tryz.ntmps83
 go_wp2
 repeat (go_quiet (fail); try go_wp2)
 go_loopg [0, 10] k (fun kq v0 v10 w' => ∃ (x0_1 : Int) (x10_1 : Int), v0 = .int .u16 x0_1 ∧ v10 = .int .i64 x10_1 ∧ Aside0 (sum_From.l0 kq x0_1 l1 (l1.length : Int) x10_1 = some r) ∧ Aside0 (kq ≤ k) ∧ Drawn0 w w')
 case atStart => exact ⟨(a0), (0), mq39, mq39, H', ⟨Nat.le_refl _⟩, mq52⟩
 case round =>
  clear H'
  obtain ⟨x0_1, x10_1, rfl, rfl, HA, HK1, ⟨m1, rfl⟩⟩ := hrel
  cases gk with
  | zero => exact absurd HA.out (by simp [sum_From.l0])
  | succ k1 =>
   have H := HA.out
   clear HA
   simp only [sum_From.l0] at H
   by_cases c3 : x10_1 < (l1.length : Int)
   ·rw [if_pos c3] at H
    have c3b0 : decide (x10_1 < (l1.length : Int)) = true := decide_eq_true c3
    clear c3
    by_cases c4 : 0 ≤ x10_1
    ·rw [if_pos c4] at H
     have c4b0 : decide (0 ≤ x10_1) = true := decide_eq_true c4
     clear c4
     by_cases c5 : x10_1 < (l1.length : Int)
     ·rw [if_pos c5] at H
      have c5b0 : decide (x10_1 < (l1.length : Int)) = true := decide_eq_true c5
      clear c5
      have H' := Aside0.mk H
      clear H
      have p148 : 0 ≤ (x10_1 : Int) := of_decide_eq_true mq34
      have q148 : x10_1 < (l1.length : Int) := of_decide_eq_true mq34
      obtain ⟨ad148, e148, hx148_0⟩ := Kd.at_string HR1.out x10_1 p148 q148
      cases e148
      replace p148 := eq_true p148
      replace q148 := eq_true q148
      go_wp2
      repeat (go_quiet (fail); try go_wp2)
      go_loopg [0, 16] k1 (fun kq v0 v16 w' => ∃ (x0_2 : Int) (x16_2 : Int), v0 = .int .u16 x0_2 ∧ v16 = .int .i64 x16_2 ∧ Aside0 (sum_From.l1 kq x0_2 (rdOf ByteArray.empty l1 x10_1) l1 (l1.length : Int) x10_1 ((rdOf ByteArray.empty l1 x10_1).size : Int) x16_2 = some r) ∧ Aside0 (kq ≤ k1) ∧ Drawn0 w w')
      case atStart => exact ⟨(x0_1), (0), mq39, mq39, H', ⟨Nat.le_refl _⟩, mq52⟩
      case round =>
       clear H'
       clear c3b0 c4b0 c5b0 hx148_0 p148 q148
       obtain ⟨x0_2, x16_2, rfl, rfl, HA, HK2, ⟨m2, rfl⟩⟩ := hrel
       cases gk with
       | zero => exact absurd HA.out (by simp [sum_From.l1])
       | succ k2 =>
        have H := HA.out
        clear HA
        simp only [sum_From.l1] at H
        by_cases c6 : x16_2 < ((rdOf ByteArray.empty l1 x10_1).size : Int)
        ·rw [if_pos c6] at H
         have c6b0 : decide (x16_2 < ((rdOf ByteArray.empty l1 x10_1).size : Int)) = true := decide_eq_true c6
         clear c6
         replace H := Option.bind_eq_some_iff.mp H
         obtain ⟨t149, A70, H⟩ := H
         replace H : (if 0 ≤ x16_2 then (if x16_2 < ((rdOf ByteArray.empty l1 x10_1).size : Int) then (sum_From.l1 k2 (IntKind.u16.wrap (t149 + (IntKind.u16.wrap (bt (rdOf ByteArray.empty l1 x10_1) x16_2)))) (rdOf ByteArray.empty l1 x10_1) l1 (l1.length : Int) x10_1 ((rdOf ByteArray.empty l1 x10_1).size : Int) (wrap64 (x16_2 + 1))) else (none)) else (none)) = some r := H
         have A7 := Aside0.mk A70
         clear A70
         by_cases c8 : 0 ≤ x16_2
         ·rw [if_pos c8] at H
          have c8b0 : decide (0 ≤ x16_2) = true := decide_eq_true c8
          clear c8
          by_cases c9 : x16_2 < ((rdOf ByteArray.empty l1 x10_1).size : Int)
          ·rw [if_pos c9] at H
           have c9b0 : decide (x16_2 < ((rdOf ByteArray.empty l1 x10_1).size : Int)) = true := decide_eq_true c9
           clear c9
           have H' := Aside0.mk H
           clear H
           go_wp2_with (first | (go_at_call 104; (with_reducible refine (bits_RotateLeft16.calls x0_2 (-1) t149 _ A7.out).mono ?_); rintro e w' ⟨rfl, ⟨nd, rfl⟩⟩; (try first | exact ⟨rfl, _, World.drewN_drewN _ _ _⟩ | exact ⟨rfl, _, Eq.trans (World.drewN_drewN _ _ _) (congrArg (World.drewN _) (Nat.add_assoc _ _ _))⟩); have p10 : 0 ≤ (x16_2 : Int) := of_decide_eq_true mq34; have q10 : x16_2 < ((rdOf ByteArray.empty l1 x10_1).size : Int) := of_decide_eq_true mq34; have hx10 := bt_at (rdOf ByteArray.empty l1 x10_1) x16_2; replace p10 := eq_true p10; replace q10 := eq_true q10))
           repeat (go_quiet (first | (go_at_call 104; (with_reducible refine (bits_RotateLeft16.calls x0_2 (-1) t149 _ A7.out).mono ?_); rintro e w' ⟨rfl, ⟨nd, rfl⟩⟩; (try first | exact ⟨rfl, _, World.drewN_drewN _ _ _⟩ | exact ⟨rfl, _, Eq.trans (World.drewN_drewN _ _ _) (congrArg (World.drewN _) (Nat.add_assoc _ _ _))⟩); have p10 : 0 ≤ (x16_2 : Int) := of_decide_eq_true mq34; have q10 : x16_2 < ((rdOf ByteArray.empty l1 x10_1).size : Int) := of_decide_eq_true mq34; have hx10 := bt_at (rdOf ByteArray.empty l1 x10_1) x16_2; replace p10 := eq_true p10; replace q10 := eq_true q10)); try go_wp2_with (first | (go_at_call 104; (with_reducible refine (bits_RotateLeft16.calls x0_2 (-1) t149 _ A7.out).mono ?_); rintro e w' ⟨rfl, ⟨nd, rfl⟩⟩; (try first | exact ⟨rfl, _, World.drewN_drewN _ _ _⟩ | exact ⟨rfl, _, Eq.trans (World.drewN_drewN _ _ _) (congrArg (World.drewN _) (Nat.add_assoc _ _ _))⟩); have p10 : 0 ≤ (x16_2 : Int) := of_decide_eq_true mq34; have q10 : x16_2 < ((rdOf ByteArray.empty l1 x10_1).size : Int) := of_decide_eq_true mq34; have hx10 := bt_at (rdOf ByteArray.empty l1 x10_1) x16_2; replace p10 := eq_true p10; replace q10 := eq_true q10)))
           go_roundg k2
           case measure => have := HK1.out; have := HK2.out; omega
           case rel => exact ⟨(IntKind.u16.wrap (t149 + (IntKind.u16.wrap (bt (rdOf ByteArray.empty l1 x10_1) x16_2)))), (wrap64 (x16_2 + 1)), mq39, mq39, H', ⟨mq46 HK1 HK2⟩, mq52⟩
          ·rw [if_neg c9] at H
           exact absurd H (by simp)
         ·rw [if_neg c8] at H
          exact absurd H (by simp)
        ·rw [if_neg c6] at H
         have c6b0 : decide (x16_2 < ((rdOf ByteArray.empty l1 x10_1).size : Int)) = false := decide_eq_false c6
         clear c6
         have H' := Aside0.mk H
         clear H
         go_wp2
         repeat (go_quiet (fail); try go_wp2)
         go_roundg k2
         case measure => have := HK1.out; have := HK2.out; omega
         case rel => exact ⟨(x0_2), (wrap64 (x10_1 + 1)), mq39, mq39, H', ⟨mq46 HK1 HK2⟩, mq52⟩
     ·rw [if_neg c5] at H
      exact absurd H (by simp)
    ·rw [if_neg c4] at H
     exact absurd H (by simp)
   ·rw [if_neg c3] at H
    have c3b0 : decide (x10_1 < (l1.length : Int)) = false := decide_eq_false c3
    clear c3
    obtain rfl := Option.some.inj H
    go_wp2
    repeat (go_quiet (fail); try go_wp2)
    go_ret
    exact ⟨mq39, mq52⟩

def sum_Of.f (k : Nat) (l0 : List ByteArray) : Option (Int) := (sum_From.f k 0 l0).bind fun t150 => (some t150)
set_option maxHeartbeats 8000000 in
set_option maxRecDepth 100000 in
theorem sum_Of.calls (k : Nat) (A0 : Option Addr) (c0 : Nat) (l0 : List ByteArray) (r : Int) (w : World) (hr0 : Kd.C Kd.string w A0 l0.length l0) (hc0 : l0.length ≤ c0) (h : sum_Of.f k l0 = some r) :
  Calls Tryz.prog 54 #[.slice A0 l0.length c0] w fun e w' => e = .returned (.int .u16 r) ∧ Drawn0 w w' := by
 have HR0 := Aside0.mk hr0
 have HC0 := Aside0.mk hc0
 clear hr0 hc0
 have H : ((sum_From.f k 0 l0).bind fun t150 => (some t150)) = some r := h
 clear h
 replace H := Option.bind_eq_some_iff.mp H
 obtain ⟨t150, A20, H⟩ := H
 replace H : (some t150) = some r := H
 have A2 := Aside0.mk A20
 clear A20
 obtain rfl := Option.some.inj H
 go_enter Tryz.func54, Tryz.ntmps54
 go_wp2_with (first | ((with_reducible refine gate_callee (f := 83) rfl ?_); refine gol (some 4) Tryz.func83 #[.int .u16 0, .slice A0 l0.length c0] (h := ?_); (with_reducible refine (sum_From.calls k 0 _ _ l0 t150 _ ?side1 ?side2 A2.out).mono ?_); (case side1 => repeat (first | exact HR0.out | (with_reducible refine Kd.C_alloc ?_ _) | (with_reducible refine Kd.C_drewN ?_ _) | (with_reducible refine Kd.C_drew ?_))); (case side2 => exact HC0.out); rintro e w' ⟨rfl, ⟨nd, rfl⟩⟩; refine ⟨_, rfl, ?_⟩))
 go_ret
 exact ⟨mq39, mq52⟩














end Go.Proofs.YtkobpbbegalfpaaGreatDoor.PParseBodies
