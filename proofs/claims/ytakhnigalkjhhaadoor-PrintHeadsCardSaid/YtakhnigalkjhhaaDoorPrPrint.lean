/- Printed texts of this seat, cut to what is used. -/
import Derived.Test.YtakhnigalkjhhaaDoorPTileChecksx0
import Derived.Test.YtakhnigalkjhhaaDoorPTileChecksx9
namespace Go.Proofs.YtakhnigalkjhhaaDoor.PTileChecks
open Go.RowKit Go.Proofs.YtakhnigalkjhhaaDoorW.PrintWords Go.Proofs.YtakhnigalkjhhaaDoorW.PrintLast Go.Proofs.YtakhnigalkjhhaaDoorW.PrintMore
attribute [local go_sem] max2_int min2_int max_two min_two max_three min_three max_four min_four   -- for this text's walks alone
set_option linter.unusedVariables false
set_option linter.unusedSimpArgs false

def bits_RotateLeft16.f (a0 : Int) (a1 : Int) : Option (Int) := if 0 ≤ (Go.bits .and .u64 (IntKind.u64.wrap (a1)) 15) then (if 0 ≤ (IntKind.u64.wrap (16 - (Go.bits .and .u64 (IntKind.u64.wrap (a1)) 15))) then (some (Go.bits .or .u16 (shl .u16 a0 (Go.bits .and .u64 (IntKind.u64.wrap (a1)) 15)) (shr .u16 a0 (IntKind.u64.wrap (16 - (Go.bits .and .u64 (IntKind.u64.wrap (a1)) 15)))))) else (none)) else (none)
set_option maxHeartbeats 8000000 in
set_option maxRecDepth 100000 in
theorem bits_RotateLeft16.calls (a0 : Int) (a1 : Int) (r : Int) (w : World) (h : bits_RotateLeft16.f a0 a1 = some r) :
  Calls Tryd.prog 96 #[.int .u16 a0, .int .i64 a1] w fun e w' => e = .returned (.int .u16 r) ∧ Drawn0 w w' := by
 have H : (if 0 ≤ (Go.bits .and .u64 (IntKind.u64.wrap (a1)) 15) then (if 0 ≤ (IntKind.u64.wrap (16 - (Go.bits .and .u64 (IntKind.u64.wrap (a1)) 15))) then (some (Go.bits .or .u16 (shl .u16 a0 (Go.bits .and .u64 (IntKind.u64.wrap (a1)) 15)) (shr .u16 a0 (IntKind.u64.wrap (16 - (Go.bits .and .u64 (IntKind.u64.wrap (a1)) 15)))))) else (none)) else (none)) = some r := h
 clear h
 obtain ⟨ji3, hji3⟩ : ∃ j_ : Int, (Go.bits .and .u64 (IntKind.u64.wrap (a1)) 15) = j_ := ⟨_, rfl⟩
 replace H : (if 0 ≤ (ji3) then (if 0 ≤ (IntKind.u64.wrap (16 - (ji3))) then (some (Go.bits .or .u16 (shl .u16 a0 (ji3)) (shr .u16 a0 (IntKind.u64.wrap (16 - (ji3)))))) else (none)) else (none)) = some r := by first | (rw [hji3] at H; exact H) | (simp only [hji3] at H ⊢; exact H)
 by_cases c4 : 0 ≤ (ji3)
 ·rw [if_pos c4] at H
  have c4b0 := eq_true c4
  have c4b1 : decide (0 ≤ (ji3)) = true := decide_eq_true c4
  clear c4
  obtain ⟨ji5, hji5⟩ : ∃ j_ : Int, (shl .u16 a0 (ji3)) = j_ := ⟨_, rfl⟩
  replace H : (if 0 ≤ (IntKind.u64.wrap (16 - (ji3))) then (some (Go.bits .or .u16 (ji5) (shr .u16 a0 (IntKind.u64.wrap (16 - (ji3)))))) else (none)) = some r := by first | (rw [hji5] at H; exact H) | (simp only [hji5] at H ⊢; exact H)
  have hji5_ : (IntKind.u16.wrap (a0 * 2 ^ min (ji3).toNat 16)) = ji5 := hji5
  have hji5z : (ji3) ≤ 16 → (IntKind.u16.wrap (a0 * 2 ^ (ji3).toNat)) = ji5 := shl_small hji5
  obtain ⟨ji6, hji6⟩ : ∃ j_ : Int, (IntKind.u64.wrap (16 - (ji3))) = j_ := ⟨_, rfl⟩
  replace H : (if 0 ≤ (ji6) then (some (Go.bits .or .u16 (ji5) (shr .u16 a0 (ji6)))) else (none)) = some r := by first | (rw [hji6] at H; exact H) | (simp only [hji6] at H ⊢; exact H)
  by_cases c7 : 0 ≤ (ji6)
  ·rw [if_pos c7] at H
   have c7b0 := eq_true c7
   have c7b1 : decide (0 ≤ (ji6)) = true := decide_eq_true c7
   clear c7
   obtain ⟨ji8, hji8⟩ : ∃ j_ : Int, (shr .u16 a0 (ji6)) = j_ := ⟨_, rfl⟩
   replace H : (some (Go.bits .or .u16 (ji5) (ji8))) = some r := by first | (rw [hji8] at H; exact H) | (simp only [hji8] at H ⊢; exact H)
   have hji8_ : (a0 / 2 ^ min (ji6).toNat 16) = ji8 := hji8
   have hji8z : (ji6) ≤ 16 → (a0 / 2 ^ (ji6).toNat) = ji8 := shr_small hji8
   obtain rfl := Option.some.inj H
   go_enter Tryd.func96, Tryd.ntmps96
   go_wp2
   go_ret
   exact ⟨by first | rfl | (simp; done) | (simp only [← hji3, ← hji5, ← hji6, ← hji8] <;> (first | rfl | simp)) | (simp [*]; done), by repeat (first | exact Drawn0.refl _ | apply Drawn0.step)⟩
  ·rw [if_neg c7] at H
   exact absurd H (by simp)
 ·rw [if_neg c4] at H
  exact absurd H (by simp)

mutual
def sum_From.l0 : Nat → Int → List ByteArray → Int → Int → Option (Int)
 | 0, _, _, _, _ => none
 | k + 1, x0, x8, x9, x10 => if x10 < x9 then (if 0 ≤ x10 then (if x10 < (x8.length : Int) then (sum_From.l1 k x0 (rdOf ByteArray.empty x8 x10) x8 x9 x10 ((rdOf ByteArray.empty x8 x10).size : Int) 0) else (none)) else (none)) else (some x0)
def sum_From.l1 : Nat → Int → ByteArray → List ByteArray → Int → Int → Int → Int → Option (Int)
 | 0, _, _, _, _, _, _, _ => none
 | k + 1, x0, x6, x8, x9, x10, x15, x16 => if x16 < x15 then ((bits_RotateLeft16.f x0 (-1)).bind fun t140 => (if 0 ≤ x16 then (if x16 < (x6.size : Int) then (sum_From.l1 k (IntKind.u16.wrap (t140 + (IntKind.u16.wrap (bt x6 x16)))) x6 x8 x9 x10 x15 (wrap64 (x16 + 1))) else (none)) else (none))) else (sum_From.l0 k x0 x8 x9 (wrap64 (x10 + 1)))
end
def sum_From.f (k : Nat) (a0 : Int) (l1 : List ByteArray) : Option (Int) := sum_From.l0 k a0 l1 (l1.length : Int) 0
set_option maxHeartbeats 8000000 in
set_option maxRecDepth 100000 in
theorem sum_From.calls (k : Nat) (a0 : Int) (A1 : Option Addr) (c1 : Nat) (l1 : List ByteArray) (r : Int) (w : World) (hr1 : Kd.C Kd.string w A1 l1.length l1) (hc1 : l1.length ≤ c1) (h : sum_From.f k a0 l1 = some r) :
  Calls Tryd.prog 84 #[.int .u16 a0, .slice A1 l1.length c1] w fun e w' => e = .returned (.int .u16 r) ∧ Drawn0 w w' := by
 have HR1 := Aside0.mk hr1
 have HC1 := Aside0.mk hc1
 clear hr1 hc1
 have H : (sum_From.l0 k a0 l1 (l1.length : Int) 0) = some r := h
 clear h
 have H' := Aside0.mk H
 clear H
 go_enter Tryd.func84, Tryd.ntmps84
 go_wp2
 repeat (go_quiet (fail); try go_wp2)
 go_loopg [0, 10] k (fun kq v0 v10 w' => ∃ (x0_1 : Int) (x10_1 : Int), v0 = .int .u16 x0_1 ∧ v10 = .int .i64 x10_1 ∧ Aside0 (sum_From.l0 kq x0_1 l1 (l1.length : Int) x10_1 = some r) ∧ Aside0 (kq ≤ k) ∧ Drawn0 w w')
 case atStart => exact ⟨(a0), (0), (by first | rfl | (simp; done) | (simp [*]; done)), (by first | rfl | (simp; done) | (simp [*]; done)), H', ⟨Nat.le_refl _⟩, by repeat (first | exact Drawn0.refl _ | apply Drawn0.step)⟩
 case round =>
  clear H'
  try clear c1
  try clear p2
  obtain ⟨x0_1, x10_1, rfl, rfl, HA, HK1, ⟨m1, rfl⟩⟩ := hrel
  cases gk with
  | zero => exact absurd HA.out (by simp [sum_From.l0])
  | succ k1 =>
   have H := HA.out
   clear HA
   simp only [sum_From.l0] at H
   by_cases c3 : x10_1 < (l1.length : Int)
   ·rw [if_pos c3] at H
    have c3b0 : decide (x10_1 < (l1.length : Int)) = true := decide_eq_true c3
    clear c3
    by_cases c4 : 0 ≤ x10_1
    ·rw [if_pos c4] at H
     have c4b0 : decide (0 ≤ x10_1) = true := decide_eq_true c4
     clear c4
     by_cases c5 : x10_1 < (l1.length : Int)
     ·rw [if_pos c5] at H
      have c5b0 : decide (x10_1 < (l1.length : Int)) = true := decide_eq_true c5
      clear c5
      have H' := Aside0.mk H
      clear H
      have p139 : 0 ≤ (x10_1 : Int) := of_decide_eq_true (by first | (with_reducible assumption) | assumption)
      have q139 : x10_1 < (l1.length : Int) := of_decide_eq_true (by first | (with_reducible assumption) | assumption)
      obtain ⟨ad139, e139, hx139_0⟩ := Kd.at_string HR1.out x10_1 p139 q139
      cases e139
      replace p139 := eq_true p139
      replace q139 := eq_true q139
      go_wp2
      repeat (go_quiet (fail); try go_wp2)
      go_loopg [0, 16] k1 (fun kq v0 v16 w' => ∃ (x0_2 : Int) (x16_2 : Int), v0 = .int .u16 x0_2 ∧ v16 = .int .i64 x16_2 ∧ Aside0 (sum_From.l1 kq x0_2 (rdOf ByteArray.empty l1 x10_1) l1 (l1.length : Int) x10_1 ((rdOf ByteArray.empty l1 x10_1).size : Int) x16_2 = some r) ∧ Aside0 (kq ≤ k1) ∧ Drawn0 w w')
      case atStart => exact ⟨(x0_1), (0), (by first | rfl | (simp; done) | (simp [*]; done)), (by first | rfl | (simp; done) | (simp [*]; done)), H', ⟨Nat.le_refl _⟩, by repeat (first | exact Drawn0.refl _ | apply Drawn0.step)⟩
      case round =>
       clear H'
       try clear c1
       try clear p1
       try clear q1
       try clear hx1
       try clear p2
       try clear c3
       try clear c3b0
       try clear c4
       try clear c4b0
       try clear c5
       try clear c5b0
       try clear hx139_0
       try clear p139
       try clear p2
       try clear q139
       obtain ⟨x0_2, x16_2, rfl, rfl, HA, HK2, ⟨m2, rfl⟩⟩ := hrel
       cases gk with
       | zero => exact absurd HA.out (by simp [sum_From.l1])
       | succ k2 =>
        have H := HA.out
        clear HA
        simp only [sum_From.l1] at H
        by_cases c6 : x16_2 < ((rdOf ByteArray.empty l1 x10_1).size : Int)
        ·rw [if_pos c6] at H
         have c6b0 : decide (x16_2 < ((rdOf ByteArray.empty l1 x10_1).size : Int)) = true := decide_eq_true c6
         clear c6
         replace H := Option.bind_eq_some_iff.mp H
         obtain ⟨t140, A70, H⟩ := H
         replace H : (if 0 ≤ x16_2 then (if x16_2 < ((rdOf ByteArray.empty l1 x10_1).size : Int) then (sum_From.l1 k2 (IntKind.u16.wrap (t140 + (IntKind.u16.wrap (bt (rdOf ByteArray.empty l1 x10_1) x16_2)))) (rdOf ByteArray.empty l1 x10_1) l1 (l1.length : Int) x10_1 ((rdOf ByteArray.empty l1 x10_1).size : Int) (wrap64 (x16_2 + 1))) else (none)) else (none)) = some r := H
         have A7 := Aside0.mk A70
         clear A70
         by_cases c8 : 0 ≤ x16_2
         ·rw [if_pos c8] at H
          have c8b0 : decide (0 ≤ x16_2) = true := decide_eq_true c8
          clear c8
          by_cases c9 : x16_2 < ((rdOf ByteArray.empty l1 x10_1).size : Int)
          ·rw [if_pos c9] at H
           have c9b0 : decide (x16_2 < ((rdOf ByteArray.empty l1 x10_1).size : Int)) = true := decide_eq_true c9
           clear c9
           have H' := Aside0.mk H
           clear H
           go_wp2_with (first | (go_at_call 96; (with_reducible refine (bits_RotateLeft16.calls x0_2 (-1) t140 _ A7.out).mono ?_); rintro e w' ⟨rfl, ⟨nd, rfl⟩⟩; (try first | exact ⟨rfl, _, World.drewN_drewN _ _ _⟩ | exact ⟨rfl, _, Eq.trans (World.drewN_drewN _ _ _) (congrArg (World.drewN _) (Nat.add_assoc _ _ _))⟩); have p10 : 0 ≤ (x16_2 : Int) := of_decide_eq_true (by first | (with_reducible assumption) | assumption); have q10 : x16_2 < ((rdOf ByteArray.empty l1 x10_1).size : Int) := of_decide_eq_true (by first | (with_reducible assumption) | assumption); have hx10 := bt_at (rdOf ByteArray.empty l1 x10_1) x16_2; replace p10 := eq_true p10; replace q10 := eq_true q10))
           repeat (go_quiet (first | (go_at_call 96; (with_reducible refine (bits_RotateLeft16.calls x0_2 (-1) t140 _ A7.out).mono ?_); rintro e w' ⟨rfl, ⟨nd, rfl⟩⟩; (try first | exact ⟨rfl, _, World.drewN_drewN _ _ _⟩ | exact ⟨rfl, _, Eq.trans (World.drewN_drewN _ _ _) (congrArg (World.drewN _) (Nat.add_assoc _ _ _))⟩); have p10 : 0 ≤ (x16_2 : Int) := of_decide_eq_true (by first | (with_reducible assumption) | assumption); have q10 : x16_2 < ((rdOf ByteArray.empty l1 x10_1).size : Int) := of_decide_eq_true (by first | (with_reducible assumption) | assumption); have hx10 := bt_at (rdOf ByteArray.empty l1 x10_1) x16_2; replace p10 := eq_true p10; replace q10 := eq_true q10)); try go_wp2_with (first | (go_at_call 96; (with_reducible refine (bits_RotateLeft16.calls x0_2 (-1) t140 _ A7.out).mono ?_); rintro e w' ⟨rfl, ⟨nd, rfl⟩⟩; (try first | exact ⟨rfl, _, World.drewN_drewN _ _ _⟩ | exact ⟨rfl, _, Eq.trans (World.drewN_drewN _ _ _) (congrArg (World.drewN _) (Nat.add_assoc _ _ _))⟩); have p10 : 0 ≤ (x16_2 : Int) := of_decide_eq_true (by first | (with_reducible assumption) | assumption); have q10 : x16_2 < ((rdOf ByteArray.empty l1 x10_1).size : Int) := of_decide_eq_true (by first | (with_reducible assumption) | assumption); have hx10 := bt_at (rdOf ByteArray.empty l1 x10_1) x16_2; replace p10 := eq_true p10; replace q10 := eq_true q10)))
           go_roundg k2
           case measure => have := HK1.out; have := HK2.out; omega
           case rel => exact ⟨(IntKind.u16.wrap (t140 + (IntKind.u16.wrap (bt (rdOf ByteArray.empty l1 x10_1) x16_2)))), (wrap64 (x16_2 + 1)), (by first | rfl | (simp; done) | (simp [*]; done)), (by first | rfl | (simp; done) | (simp [*]; done)), H', ⟨by have := HK1.out; have := HK2.out; omega⟩, by repeat (first | exact Drawn0.refl _ | apply Drawn0.step)⟩
          ·rw [if_neg c9] at H
           exact absurd H (by simp)
         ·rw [if_neg c8] at H
          exact absurd H (by simp)
        ·rw [if_neg c6] at H
         have c6b0 : decide (x16_2 < ((rdOf ByteArray.empty l1 x10_1).size : Int)) = false := decide_eq_false c6
         clear c6
         have H' := Aside0.mk H
         clear H
         go_wp2
         repeat (go_quiet (fail); try go_wp2)
         go_roundg k2
         case measure => have := HK1.out; have := HK2.out; omega
         case rel => exact ⟨(x0_2), (wrap64 (x10_1 + 1)), (by first | rfl | (simp; done) | (simp [*]; done)), (by first | rfl | (simp; done) | (simp [*]; done)), H', ⟨by have := HK1.out; have := HK2.out; omega⟩, by repeat (first | exact Drawn0.refl _ | apply Drawn0.step)⟩
     ·rw [if_neg c5] at H
      exact absurd H (by simp)
    ·rw [if_neg c4] at H
     exact absurd H (by simp)
   ·rw [if_neg c3] at H
    have c3b0 : decide (x10_1 < (l1.length : Int)) = false := decide_eq_false c3
    clear c3
    obtain rfl := Option.some.inj H
    go_wp2
    repeat (go_quiet (fail); try go_wp2)
    go_ret
    exact ⟨by first | rfl | (simp; done) | (simp [*]; done), by repeat (first | exact Drawn0.refl _ | apply Drawn0.step)⟩

def sum_Of.f (k : Nat) (l0 : List ByteArray) : Option (Int) := (sum_From.f k 0 l0).bind fun t141 => (some t141)
set_option maxHeartbeats 8000000 in
set_option maxRecDepth 100000 in
theorem sum_Of.calls (k : Nat) (A0 : Option Addr) (c0 : Nat) (l0 : List ByteArray) (r : Int) (w : World) (hr0 : Kd.C Kd.string w A0 l0.length l0) (hc0 : l0.length ≤ c0) (h : sum_Of.f k l0 = some r) :
  Calls Tryd.prog 63 #[.slice A0 l0.length c0] w fun e w' => e = .returned (.int .u16 r) ∧ Drawn0 w w' := by
 have HR0 := Aside0.mk hr0
 have HC0 := Aside0.mk hc0
 clear hr0 hc0
 have H : ((sum_From.f k 0 l0).bind fun t141 => (some t141)) = some r := h
 clear h
 replace H := Option.bind_eq_some_iff.mp H
 obtain ⟨t141, A20, H⟩ := H
 replace H : (some t141) = some r := H
 have A2 := Aside0.mk A20
 clear A20
 obtain rfl := Option.some.inj H
 go_enter Tryd.func63, Tryd.ntmps63
 go_wp2_with (first | ((with_reducible refine gate_callee (f := 84) rfl ?_); refine goesL_ (some 4) rfl rfl Tryd.func84 (by kernel_rfl) rfl #[.int .u16 0, .slice A0 l0.length c0] rfl (by (try simp only [List.map_toArray, List.map_cons, List.map_nil]); first | done | rfl | (simp only [List.length_drop, List.length_take]; rfl)) ?_; (with_reducible refine (sum_From.calls k 0 _ _ l0 t141 _ ?side1 ?side2 A2.out).mono ?_); (case side1 => repeat (first | exact HR0.out | (with_reducible refine Kd.C_alloc ?_ _) | (with_reducible refine Kd.C_drewN ?_ _) | (with_reducible refine Kd.C_drew ?_))); (case side2 => exact HC0.out); rintro e w' ⟨rfl, ⟨nd, rfl⟩⟩; refine ⟨_, rfl, ?_⟩))
 go_ret
 exact ⟨by first | rfl | (simp; done) | (simp [*]; done), by repeat (first | exact Drawn0.refl _ | apply Drawn0.step)⟩


mutual
def cell_Depth.l0 : Nat → Int → List (S26) → Int → Int → Option (Int)
 | 0, _, _, _, _ => none
 | k + 1, x3, x7, x8, x9 => if x9 < x8 then (if 0 ≤ x9 then (if x9 < (x7.length : Int) then ((cell_Depth.f k ((rd_T26 x7 x9).f0) ((rd_T26 x7 x9).f1.f0) ((rd_T26 x7 x9).f1.f1) ((rd_T26 x7 x9).f1.f2) ((rd_T26 x7 x9).f1.f3) ((rd_T26 x7 x9).f2) ((rd_T26 x7 x9).f3)).bind fun t149 => (cell_Depth.l0 k (mx x3 t149) x7 x8 (wrap64 (x9 + 1)))) else (none)) else (none)) else (some (wrap64 (x3 + 1)))
def cell_Depth.f : Nat → Int → Int → Int → Int → Int → Int → List (S26) → Option (Int)
 | 0, _, _, _, _, _, _, _ => none
 | k + 1, a0_0, a0_1, a0_2, a0_3, a0_4, a0_5, l0_6 => cell_Depth.l0 k 0 l0_6 (l0_6.length : Int) 0
end
set_option maxHeartbeats 8000000 in
set_option maxRecDepth 100000 in
theorem cell_Depth.calls (k : Nat) : ∀ (a0_0 : Int) (a0_1 : Int) (a0_2 : Int) (a0_3 : Int) (a0_4 : Int) (a0_5 : Int) (A0_6 : Option Addr) (c0_6 : Nat) (l0_6 : List (S26)) (r : Int) (w : World) (hr0_6 : Kd.C k26 w A0_6 l0_6.length l0_6) (hc0_6 : l0_6.length ≤ c0_6) (h : cell_Depth.f k a0_0 a0_1 a0_2 a0_3 a0_4 a0_5 l0_6 = some r),
  Calls Tryd.prog 38 #[.agg #[.int .u8 a0_0, .int .i64 a0_1, .int .i64 a0_2, .int .i64 a0_3, .int .i64 a0_4, .int .i64 a0_5, .slice A0_6 l0_6.length c0_6]] w fun e w' => e = .returned (.int .i64 r) ∧ Below w.heap.size w w' := by
 induction k using Nat.strongRecOn with
 | _ k ih =>
 intro a0_0 a0_1 a0_2 a0_3 a0_4 a0_5 A0_6 c0_6 l0_6 r w hr0_6 hc0_6 h
 cases k with
 | zero => exact absurd h (by simp [cell_Depth.f])
 | succ k =>
 simp only [cell_Depth.f] at h
 have hu26 := Tryd.underlying26
 have HR0_6 := Aside0.mk hr0_6
 have HC0_6 := Aside0.mk hc0_6
 clear hr0_6 hc0_6
 have HB := Aside0.mk (Below.refl w.heap.size w)
 have H : (cell_Depth.l0 k 0 l0_6 (l0_6.length : Int) 0) = some r := h
 clear h
 have H' := Aside0.mk H
 clear H
 go_enter Tryd.func38, Tryd.ntmps38
 go_wp2_with (first | ((with_reducible refine gate_dst (N := 1) rfl ?_); refine box_event ?hg (N := 1) ?hd (cs := #[.int .u8 a0_0, .int .i64 a0_1, .int .i64 a0_2, .int .i64 a0_3, .int .i64 a0_4, .int .i64 a0_5, .slice A0_6 l0_6.length c0_6]) (t := 26) ?hr ?_; (case hd => rfl); (case hg => rfl); (case hr => first | (go_simp; done) | (go_simp; rfl)); intro gb146 hg w2 hbox hb; have n0_ := Aside0.mk (below_step (by repeat (first | (with_reducible first | exact HB.out | apply below_alloc | apply pw_below_drewN | apply below_drew1) | exact HB.out)) hb); have n1_ := Aside0.mk (hbox); have n2_ := Aside0.mk ((by rw [hg]; exact (below_size (by repeat (first | (with_reducible first | exact HB.out | apply below_alloc | apply pw_below_drewN | apply below_drew1) | exact HB.out))) : w.heap.size ≤ gb146)); have n3_ := Aside0.mk ((by rw [hg]; exact (below_size (by repeat (first | (with_reducible first | exact HB.out | apply below_alloc | apply pw_below_drewN | apply below_drew1) | exact HB.out))) : w.heap.size ≤ gb146)); clear HB; have HB := n0_; have BK146 := n1_; have GW146 := n2_; have GE146 := n3_; clear n0_ n1_ n2_ n3_; clear hb hbox hg; have hcz3_0 : w2.cell? ⟨gb146, 0, none⟩ = some (.int .u8 a0_0) := (blk_cell BK146.out 0).trans rfl; have hcz3_1 : w2.cell? ⟨gb146, 1, none⟩ = some (.int .i64 a0_1) := (blk_cell BK146.out 1).trans rfl; have hcz3_2 : w2.cell? ⟨gb146, 2, none⟩ = some (.int .i64 a0_2) := (blk_cell BK146.out 2).trans rfl; have hcz3_3 : w2.cell? ⟨gb146, 3, none⟩ = some (.int .i64 a0_3) := (blk_cell BK146.out 3).trans rfl; have hcz3_4 : w2.cell? ⟨gb146, 4, none⟩ = some (.int .i64 a0_4) := (blk_cell BK146.out 4).trans rfl; have hcz3_5 : w2.cell? ⟨gb146, 5, none⟩ = some (.int .i64 a0_5) := (blk_cell BK146.out 5).trans rfl; have hcz3_6 : w2.cell? ⟨gb146, 6, none⟩ = some (.slice A0_6 l0_6.length c0_6) := (blk_cell BK146.out 6).trans rfl; have hfz3_0 := blk_frozen BK146.out 0; have hfz3_1 := blk_frozen BK146.out 1; have hfz3_2 := blk_frozen BK146.out 2; have hfz3_3 := blk_frozen BK146.out 3; have hfz3_4 := blk_frozen BK146.out 4; have hfz3_5 := blk_frozen BK146.out 5; have hfz3_6 := blk_frozen BK146.out 6))
 go_loopg [3, 9] k (fun kq v3 v9 w' => ∃ (x3_1 : Int) (x9_1 : Int), v3 = .int .i64 x3_1 ∧ v9 = .int .i64 x9_1 ∧ Aside0 (cell_Depth.l0 kq x3_1 l0_6 (l0_6.length : Int) x9_1 = some r) ∧ Aside0 (kq ≤ k) ∧ Aside0 (w'.heap[gb146]? = some (.cells #[.int .u8 a0_0, .int .i64 a0_1, .int .i64 a0_2, .int .i64 a0_3, .int .i64 a0_4, .int .i64 a0_5, (.slice A0_6 l0_6.length c0_6)] 26 (0, 0))) ∧ Aside0 (Below w.heap.size w w'))
 case atStart => exact ⟨(0), (0), (by first | rfl | (simp; done) | (simp [*]; done)), (by first | rfl | (simp; done) | (simp [*]; done)), H', ⟨Nat.le_refl _⟩, ⟨by (with_reducible repeat (first | refine blk_drewN ?_ _ | refine blk_drew ?_ | refine blk_alloc ?_ _)); exact BK146.out⟩, ⟨by repeat (first | (with_reducible first | exact HB.out | apply below_alloc | apply pw_below_drewN | apply below_drew1 | refine below_set ?_ GE146.out) | exact HB.out)⟩⟩
 case round =>
  clear H'
  try clear p2
  try clear c3
  try clear hcz3_0
  try clear hcz3_1
  try clear hcz3_2
  try clear hcz3_3
  try clear hcz3_4
  try clear hcz3_5
  try clear hcz3_6
  try clear hfz3_0
  try clear hfz3_1
  try clear hfz3_2
  try clear hfz3_3
  try clear hfz3_4
  try clear hfz3_5
  try clear hfz3_6
  obtain ⟨x3_1, x9_1, rfl, rfl, HA, HK1, BK146, HB⟩ := hrel
  cases gk with
  | zero => exact absurd HA.out (by simp [cell_Depth.l0])
  | succ k1 =>
   have H := HA.out
   clear HA
   simp only [cell_Depth.l0] at H
   by_cases c4 : x9_1 < (l0_6.length : Int)
   ·rw [if_pos c4] at H
    have c4b0 : decide (x9_1 < (l0_6.length : Int)) = true := decide_eq_true c4
    clear c4
    by_cases c5 : 0 ≤ x9_1
    ·rw [if_pos c5] at H
     have c5b0 : decide (0 ≤ x9_1) = true := decide_eq_true c5
     clear c5
     by_cases c6 : x9_1 < (l0_6.length : Int)
     ·rw [if_pos c6] at H
      have c6b0 : decide (x9_1 < (l0_6.length : Int)) = true := decide_eq_true c6
      clear c6
      replace H := Option.bind_eq_some_iff.mp H
      obtain ⟨t149, A70, H⟩ := H
      replace H : (cell_Depth.l0 k1 (mx x3_1 t149) l0_6 (l0_6.length : Int) (wrap64 (x9_1 + 1))) = some r := H
      have A7 := Aside0.mk A70
      clear A70
      obtain ⟨ji8, hji8⟩ : ∃ j_ : Int, (mx x3_1 t149) = j_ := ⟨_, rfl⟩
      replace H : (cell_Depth.l0 k1 ji8 l0_6 (l0_6.length : Int) (wrap64 (x9_1 + 1))) = some r := by first | (rw [hji8] at H; exact H) | (simp only [hji8] at H ⊢; exact H)
      (try rw [hji8] at A7)
      have hji8_ : (if x3_1 < t149 then t149 else x3_1) = ji8 := hji8
      have H' := Aside0.mk H
      clear H
      have p147 : 0 ≤ (x9_1 : Int) := of_decide_eq_true (by first | (with_reducible assumption) | assumption)
      have q147 : x9_1 < (l0_6.length : Int) := of_decide_eq_true (by first | (with_reducible assumption) | assumption)
      obtain ⟨ad147, A147_6, c147_6, e147, hx147_0, hx147_1, hx147_2, hx147_3, hx147_4, hx147_5, hx147_6, hl147_6, hi147_6⟩ := at_T26 HR0_6.out x9_1 p147 q147
      cases e147
      replace hx147_0 := (HB.out.cell (World.block_lt_of_cell? w _ hx147_0)).trans hx147_0
      replace hx147_1 := (HB.out.cell (World.block_lt_of_cell? w _ hx147_1)).trans hx147_1
      replace hx147_2 := (HB.out.cell (World.block_lt_of_cell? w _ hx147_2)).trans hx147_2
      replace hx147_3 := (HB.out.cell (World.block_lt_of_cell? w _ hx147_3)).trans hx147_3
      replace hx147_4 := (HB.out.cell (World.block_lt_of_cell? w _ hx147_4)).trans hx147_4
      replace hx147_5 := (HB.out.cell (World.block_lt_of_cell? w _ hx147_5)).trans hx147_5
      replace hx147_6 := (HB.out.cell (World.block_lt_of_cell? w _ hx147_6)).trans hx147_6
      have HR147_6 := Aside0.mk hi147_6
      have HC147_6 := Aside0.mk hl147_6
      clear hi147_6 hl147_6
      replace p147 := eq_true p147
      replace q147 := eq_true q147
      go_wp2_with (first | ((with_reducible refine gate_dst (N := 5) rfl ?_); refine box_event ?hg (N := 5) ?hd (cs := #[.int .u8 0, .int .i64 0, .int .i64 0, .int .i64 0, .int .i64 0, .int .i64 0, .slice none 0 0]) (t := 26) ?hr ?_; (case hd => rfl); (case hg => rfl); (case hr => first | (go_simp; done) | (go_simp; rfl)); intro gb148 hg w9 hbox hb; have n0_ := Aside0.mk (blk_below (g := gb146) (o := .cells #[.int .u8 a0_0, .int .i64 a0_1, .int .i64 a0_2, .int .i64 a0_3, .int .i64 a0_4, .int .i64 a0_5, .slice (some ad147) l0_6.length c0_6] 26 (0, 0)) (by (with_reducible repeat (first | refine blk_drewN ?_ _ | refine blk_drew ?_ | refine blk_alloc ?_ _)); exact BK146.out) hb); have n1_ := Aside0.mk (below_step (by repeat (first | (with_reducible first | exact HB.out | apply below_alloc | apply pw_below_drewN | apply below_drew1 | refine below_set ?_ GE146.out) | exact HB.out)) hb); have n2_ := Aside0.mk (hbox); have n3_ := Aside0.mk ((by rw [hg]; exact (below_size (by repeat (first | (with_reducible first | exact HB.out | apply below_alloc | apply pw_below_drewN | apply below_drew1 | refine below_set ?_ GE146.out) | exact HB.out))) : w.heap.size ≤ gb148)); have n4_ := Aside0.mk ((by rw [hg]; exact (below_size (by repeat (first | (with_reducible first | exact HB.out | apply below_alloc | apply pw_below_drewN | apply below_drew1 | refine below_set ?_ GE146.out) | exact HB.out))) : w.heap.size ≤ gb148)); have n5_ := Aside0.mk ((by rw [hg]; exact Nat.ne_of_lt (blk_lt (g := gb146) (o := .cells #[.int .u8 a0_0, .int .i64 a0_1, .int .i64 a0_2, .int .i64 a0_3, .int .i64 a0_4, .int .i64 a0_5, .slice (some ad147) l0_6.length c0_6] 26 (0, 0)) (by (with_reducible repeat (first | refine blk_drewN ?_ _ | refine blk_drew ?_ | refine blk_alloc ?_ _)); exact BK146.out)) : gb146 ≠ gb148)); have n6_ := Aside0.mk ((by rw [hg]; exact Nat.ne_of_gt (blk_lt (g := gb146) (o := .cells #[.int .u8 a0_0, .int .i64 a0_1, .int .i64 a0_2, .int .i64 a0_3, .int .i64 a0_4, .int .i64 a0_5, .slice (some ad147) l0_6.length c0_6] 26 (0, 0)) (by (with_reducible repeat (first | refine blk_drewN ?_ _ | refine blk_drew ?_ | refine blk_alloc ?_ _)); exact BK146.out)) : gb148 ≠ gb146)); clear BK146; clear HB; have BK146 := n0_; have HB := n1_; have BK148 := n2_; have GW148 := n3_; have GE148 := n4_; have NB146_148 := n5_; have NB148_146 := n6_; clear n0_ n1_ n2_ n3_ n4_ n5_ n6_; clear hb hbox hg; have hnb10 := NB148_146.out; have hnc10 := NB146_148.out; have hcz11_0 : w9.cell? ⟨gb148, 0, none⟩ = some (.int .u8 0) := (blk_cell BK148.out 0).trans rfl; have hcz11_1 : w9.cell? ⟨gb148, 1, none⟩ = some (.int .i64 0) := (blk_cell BK148.out 1).trans rfl; have hcz11_2 : w9.cell? ⟨gb148, 2, none⟩ = some (.int .i64 0) := (blk_cell BK148.out 2).trans rfl; have hcz11_3 : w9.cell? ⟨gb148, 3, none⟩ = some (.int .i64 0) := (blk_cell BK148.out 3).trans rfl; have hcz11_4 : w9.cell? ⟨gb148, 4, none⟩ = some (.int .i64 0) := (blk_cell BK148.out 4).trans rfl; have hcz11_5 : w9.cell? ⟨gb148, 5, none⟩ = some (.int .i64 0) := (blk_cell BK148.out 5).trans rfl; have hcz11_6 : w9.cell? ⟨gb148, 6, none⟩ = some (.slice none 0 0) := (blk_cell BK148.out 6).trans rfl; have hfz11_0 := blk_frozen BK148.out 0; have hfz11_1 := blk_frozen BK148.out 1; have hfz11_2 := blk_frozen BK148.out 2; have hfz11_3 := blk_frozen BK148.out 3; have hfz11_4 := blk_frozen BK148.out 4; have hfz11_5 := blk_frozen BK148.out 5; have hfz11_6 := blk_frozen BK148.out 6) | ((with_reducible refine gate_callee (f := 38) rfl ?_); refine goesL_ (some 15) rfl rfl Tryd.func38 (by kernel_rfl) rfl #[.agg #[.int .u8 ((rd_T26 l0_6 x9_1).f0), .int .i64 ((rd_T26 l0_6 x9_1).f1.f0), .int .i64 ((rd_T26 l0_6 x9_1).f1.f1), .int .i64 ((rd_T26 l0_6 x9_1).f1.f2), .int .i64 ((rd_T26 l0_6 x9_1).f1.f3), .int .i64 ((rd_T26 l0_6 x9_1).f2), .slice A147_6 ((rd_T26 l0_6 x9_1).f3).length c147_6]] rfl (by (try simp only [List.map_toArray, List.map_cons, List.map_nil]); first | done | rfl | (simp only [List.length_drop, List.length_take]; rfl)) ?_; (with_reducible refine (ih k1 (by have := HK1.out; omega) ((rd_T26 l0_6 x9_1).f0) ((rd_T26 l0_6 x9_1).f1.f0) ((rd_T26 l0_6 x9_1).f1.f1) ((rd_T26 l0_6 x9_1).f1.f2) ((rd_T26 l0_6 x9_1).f1.f3) ((rd_T26 l0_6 x9_1).f2) _ _ ((rd_T26 l0_6 x9_1).f3) t149 _ ?side1 ?side2 A7.out).mono ?_); (case side1 => exact Kd.C_below HR147_6.out (by repeat (first | (with_reducible first | exact HB.out | apply below_alloc | apply pw_below_drewN | apply below_drew1 | refine below_set ?_ GE146.out | refine below_set ?_ GE148.out) | exact HB.out))); (case side2 => exact HC147_6.out); rintro e w12 ⟨rfl, hb⟩; refine ⟨_, rfl, ?_⟩; have n0_ := Aside0.mk (blk_below (g := gb146) (o := .cells #[.int .u8 a0_0, .int .i64 a0_1, .int .i64 a0_2, .int .i64 a0_3, .int .i64 a0_4, .int .i64 a0_5, .slice (some ad147) l0_6.length c0_6] 26 (0, 0)) (by (with_reducible repeat (first | refine blk_drewN ?_ _ | refine blk_drew ?_ | refine blk_alloc ?_ _)); refine blk_far ?_ NB146_148.out _; (with_reducible repeat (first | refine blk_drewN ?_ _ | refine blk_drew ?_ | refine blk_alloc ?_ _)); refine blk_far ?_ NB146_148.out _; (with_reducible repeat (first | refine blk_drewN ?_ _ | refine blk_drew ?_ | refine blk_alloc ?_ _)); refine blk_far ?_ NB146_148.out _; (with_reducible repeat (first | refine blk_drewN ?_ _ | refine blk_drew ?_ | refine blk_alloc ?_ _)); refine blk_far ?_ NB146_148.out _; (with_reducible repeat (first | refine blk_drewN ?_ _ | refine blk_drew ?_ | refine blk_alloc ?_ _)); refine blk_far ?_ NB146_148.out _; (with_reducible repeat (first | refine blk_drewN ?_ _ | refine blk_drew ?_ | refine blk_alloc ?_ _)); refine blk_far ?_ NB146_148.out _; (with_reducible repeat (first | refine blk_drewN ?_ _ | refine blk_drew ?_ | refine blk_alloc ?_ _)); refine blk_far ?_ NB146_148.out _; (with_reducible repeat (first | refine blk_drewN ?_ _ | refine blk_drew ?_ | refine blk_alloc ?_ _)); exact BK146.out) hb); have n1_ := Aside0.mk (blk_below (g := gb148) (o := .cells #[.int .u8 ((rd_T26 l0_6 x9_1).f0), .int .i64 ((rd_T26 l0_6 x9_1).f1.f0), .int .i64 ((rd_T26 l0_6 x9_1).f1.f1), .int .i64 ((rd_T26 l0_6 x9_1).f1.f2), .int .i64 ((rd_T26 l0_6 x9_1).f1.f3), .int .i64 ((rd_T26 l0_6 x9_1).f2), .slice A147_6 ((rd_T26 l0_6 x9_1).f3).length c147_6] 26 (0, 0)) (by (with_reducible repeat (first | refine blk_drewN ?_ _ | refine blk_drew ?_ | refine blk_alloc ?_ _)); refine blk_put (cs := #[.int .u8 ((rd_T26 l0_6 x9_1).f0), .int .i64 ((rd_T26 l0_6 x9_1).f1.f0), .int .i64 ((rd_T26 l0_6 x9_1).f1.f1), .int .i64 ((rd_T26 l0_6 x9_1).f1.f2), .int .i64 ((rd_T26 l0_6 x9_1).f1.f3), .int .i64 ((rd_T26 l0_6 x9_1).f2), .slice none 0 0]) ?_ 6 _ rfl; (with_reducible repeat (first | refine blk_drewN ?_ _ | refine blk_drew ?_ | refine blk_alloc ?_ _)); refine blk_put (cs := #[.int .u8 ((rd_T26 l0_6 x9_1).f0), .int .i64 ((rd_T26 l0_6 x9_1).f1.f0), .int .i64 ((rd_T26 l0_6 x9_1).f1.f1), .int .i64 ((rd_T26 l0_6 x9_1).f1.f2), .int .i64 ((rd_T26 l0_6 x9_1).f1.f3), .int .i64 0, .slice none 0 0]) ?_ 5 _ rfl; (with_reducible repeat (first | refine blk_drewN ?_ _ | refine blk_drew ?_ | refine blk_alloc ?_ _)); refine blk_put (cs := #[.int .u8 ((rd_T26 l0_6 x9_1).f0), .int .i64 ((rd_T26 l0_6 x9_1).f1.f0), .int .i64 ((rd_T26 l0_6 x9_1).f1.f1), .int .i64 ((rd_T26 l0_6 x9_1).f1.f2), .int .i64 0, .int .i64 0, .slice none 0 0]) ?_ 4 _ rfl; (with_reducible repeat (first | refine blk_drewN ?_ _ | refine blk_drew ?_ | refine blk_alloc ?_ _)); refine blk_put (cs := #[.int .u8 ((rd_T26 l0_6 x9_1).f0), .int .i64 ((rd_T26 l0_6 x9_1).f1.f0), .int .i64 ((rd_T26 l0_6 x9_1).f1.f1), .int .i64 0, .int .i64 0, .int .i64 0, .slice none 0 0]) ?_ 3 _ rfl; (with_reducible repeat (first | refine blk_drewN ?_ _ | refine blk_drew ?_ | refine blk_alloc ?_ _)); refine blk_put (cs := #[.int .u8 ((rd_T26 l0_6 x9_1).f0), .int .i64 ((rd_T26 l0_6 x9_1).f1.f0), .int .i64 0, .int .i64 0, .int .i64 0, .int .i64 0, .slice none 0 0]) ?_ 2 _ rfl; (with_reducible repeat (first | refine blk_drewN ?_ _ | refine blk_drew ?_ | refine blk_alloc ?_ _)); refine blk_put (cs := #[.int .u8 ((rd_T26 l0_6 x9_1).f0), .int .i64 0, .int .i64 0, .int .i64 0, .int .i64 0, .int .i64 0, .slice none 0 0]) ?_ 1 _ rfl; (with_reducible repeat (first | refine blk_drewN ?_ _ | refine blk_drew ?_ | refine blk_alloc ?_ _)); refine blk_put (cs := #[.int .u8 0, .int .i64 0, .int .i64 0, .int .i64 0, .int .i64 0, .int .i64 0, .slice none 0 0]) ?_ 0 _ rfl; (with_reducible repeat (first | refine blk_drewN ?_ _ | refine blk_drew ?_ | refine blk_alloc ?_ _)); exact BK148.out) hb); have n2_ := Aside0.mk (below_step (by repeat (first | (with_reducible first | exact HB.out | apply below_alloc | apply pw_below_drewN | apply below_drew1 | refine below_set ?_ GE146.out | refine below_set ?_ GE148.out) | exact HB.out)) hb); clear BK146; clear BK148; clear HB; have BK146 := n0_; have BK148 := n1_; have HB := n2_; clear n0_ n1_ n2_; (try clear hb); (try clear hb2); (try clear hk); (try clear hi)))
      go_roundg k1
      case measure => have := HK1.out; omega
      case rel => exact ⟨(ji8), (wrap64 (x9_1 + 1)), (by first | rfl | (simp; done) | (simp only [← hji8] <;> (first | rfl | simp)) | (simp [*]; done)), (by first | rfl | (simp; done) | (simp [*]; done)), H', ⟨by have := HK1.out; omega⟩, ⟨by (with_reducible repeat (first | refine blk_drewN ?_ _ | refine blk_drew ?_ | refine blk_alloc ?_ _)); exact BK146.out⟩, ⟨by repeat (first | (with_reducible first | exact HB.out | apply below_alloc | apply pw_below_drewN | apply below_drew1 | refine below_set ?_ GE146.out | refine below_set ?_ GE148.out) | exact HB.out)⟩⟩
     ·rw [if_neg c6] at H
      exact absurd H (by simp)
    ·rw [if_neg c5] at H
     exact absurd H (by simp)
   ·rw [if_neg c4] at H
    have c4b0 : decide (x9_1 < (l0_6.length : Int)) = false := decide_eq_false c4
    clear c4
    obtain rfl := Option.some.inj H
    go_wp2
    go_ret
    exact ⟨by first | rfl | (simp [errW_none, errW_some] <;> rfl) | (simp [*, errW_none, errW_some] <;> rfl), by repeat (first | (with_reducible first | exact HB.out | apply below_alloc | apply pw_below_drewN | apply below_drew1 | refine below_set ?_ GE146.out) | exact HB.out)⟩



def sashref06_Tiles.f (k : Nat) (a0_0 : Int) (a0_1 : Int) (a0_2 : Int) (a0_3 : Int) (a0_4 : Int) (a0_5 : Int) (l0_6 : List (S26)) : Option (Bool) := (sashref06_Check.f k a0_0 a0_1 a0_2 a0_3 a0_4 a0_5 l0_6).bind fun bt279 => (some (bt279.2.1 == 0))
set_option maxHeartbeats 8000000 in
set_option maxRecDepth 100000 in
theorem sashref06_Tiles.calls (k : Nat) (a0_0 : Int) (a0_1 : Int) (a0_2 : Int) (a0_3 : Int) (a0_4 : Int) (a0_5 : Int) (A0_6 : Option Addr) (c0_6 : Nat) (l0_6 : List (S26)) (r : Bool) (w : World) (hr0_6 : Kd.C k26 w A0_6 l0_6.length l0_6) (hc0_6 : l0_6.length ≤ c0_6) (h : sashref06_Tiles.f k a0_0 a0_1 a0_2 a0_3 a0_4 a0_5 l0_6 = some r) :
  Calls Tryd.prog 20 #[.agg #[.int .u8 a0_0, .int .i64 a0_1, .int .i64 a0_2, .int .i64 a0_3, .int .i64 a0_4, .int .i64 a0_5, .slice A0_6 l0_6.length c0_6]] w fun e w' => e = .returned (.bool r) ∧ Below w.heap.size w w' := by
 have hu26 := Tryd.underlying26
 have HR0_6 := Aside0.mk hr0_6
 have HC0_6 := Aside0.mk hc0_6
 clear hr0_6 hc0_6
 have HB := Aside0.mk (Below.refl w.heap.size w)
 have H : ((sashref06_Check.f k a0_0 a0_1 a0_2 a0_3 a0_4 a0_5 l0_6).bind fun bt279 => (some (bt279.2.1 == 0))) = some r := h
 clear h
 replace H := Option.bind_eq_some_iff.mp H
 obtain ⟨⟨t279, t282, t283⟩, A20, H⟩ := H
 replace H : (some (t282 == 0)) = some r := H
 have A2 := Aside0.mk A20
 clear A20
 obtain rfl := Option.some.inj H
 go_enter Tryd.func20, Tryd.ntmps20
 go_wp2_with (first | ((with_reducible refine gate_dst (N := 1) rfl ?_); refine box_event ?hg (N := 1) ?hd (cs := #[.int .u8 a0_0, .int .i64 a0_1, .int .i64 a0_2, .int .i64 a0_3, .int .i64 a0_4, .int .i64 a0_5, .slice A0_6 l0_6.length c0_6]) (t := 26) ?hr ?_; (case hd => rfl); (case hg => rfl); (case hr => first | (go_simp; done) | (go_simp; rfl)); intro gb278 hg w3 hbox hb; have n0_ := Aside0.mk (below_step (by repeat (first | (with_reducible first | exact HB.out | apply below_alloc | apply pw_below_drewN | apply below_drew1) | exact HB.out)) hb); have n1_ := Aside0.mk (hbox); have n2_ := Aside0.mk ((by rw [hg]; exact (below_size (by repeat (first | (with_reducible first | exact HB.out | apply below_alloc | apply pw_below_drewN | apply below_drew1) | exact HB.out))) : w.heap.size ≤ gb278)); have n3_ := Aside0.mk ((by rw [hg]; exact (below_size (by repeat (first | (with_reducible first | exact HB.out | apply below_alloc | apply pw_below_drewN | apply below_drew1) | exact HB.out))) : w.heap.size ≤ gb278)); clear HB; have HB := n0_; have BK278 := n1_; have GW278 := n2_; have GE278 := n3_; clear n0_ n1_ n2_ n3_; clear hb hbox hg; have hcz4_0 : w3.cell? ⟨gb278, 0, none⟩ = some (.int .u8 a0_0) := (blk_cell BK278.out 0).trans rfl; have hcz4_1 : w3.cell? ⟨gb278, 1, none⟩ = some (.int .i64 a0_1) := (blk_cell BK278.out 1).trans rfl; have hcz4_2 : w3.cell? ⟨gb278, 2, none⟩ = some (.int .i64 a0_2) := (blk_cell BK278.out 2).trans rfl; have hcz4_3 : w3.cell? ⟨gb278, 3, none⟩ = some (.int .i64 a0_3) := (blk_cell BK278.out 3).trans rfl; have hcz4_4 : w3.cell? ⟨gb278, 4, none⟩ = some (.int .i64 a0_4) := (blk_cell BK278.out 4).trans rfl; have hcz4_5 : w3.cell? ⟨gb278, 5, none⟩ = some (.int .i64 a0_5) := (blk_cell BK278.out 5).trans rfl; have hcz4_6 : w3.cell? ⟨gb278, 6, none⟩ = some (.slice A0_6 l0_6.length c0_6) := (blk_cell BK278.out 6).trans rfl; have hfz4_0 := blk_frozen BK278.out 0; have hfz4_1 := blk_frozen BK278.out 1; have hfz4_2 := blk_frozen BK278.out 2; have hfz4_3 := blk_frozen BK278.out 3; have hfz4_4 := blk_frozen BK278.out 4; have hfz4_5 := blk_frozen BK278.out 5; have hfz4_6 := blk_frozen BK278.out 6) | ((with_reducible refine gate_callee (f := 10) rfl ?_); refine goesL_ (some 8) rfl rfl Tryd.func10 (by kernel_rfl) rfl #[.agg #[.int .u8 a0_0, .int .i64 a0_1, .int .i64 a0_2, .int .i64 a0_3, .int .i64 a0_4, .int .i64 a0_5, .slice A0_6 l0_6.length c0_6]] rfl (by (try simp only [List.map_toArray, List.map_cons, List.map_nil]); first | done | rfl | (simp only [List.length_drop, List.length_take]; rfl)) ?_; (with_reducible refine (sashref06_Check.calls k a0_0 a0_1 a0_2 a0_3 a0_4 a0_5 _ _ l0_6 t279 t282 t283 _ ?side1 ?side2 A2.out).mono ?_); (case side1 => repeat (first | exact (Kd.C_below HR0_6.out HB.out) | (with_reducible refine Kd.C_alloc ?_ _) | (with_reducible refine Kd.C_drewN ?_ _) | (with_reducible refine Kd.C_drew ?_))); (case side2 => exact HC0_6.out); rintro e w5 ⟨v280, rfl, ho0, hb⟩; refine ⟨_, rfl, ?_⟩; have n0_ := Aside0.mk (Kd.R_lower ho0 (below_size (by repeat (first | (with_reducible first | exact HB.out | apply below_alloc | apply pw_below_drewN | apply below_drew1 | refine below_set ?_ GE278.out) | exact HB.out)))); have n1_ := Aside0.mk (blk_below (g := gb278) (o := .cells #[.int .u8 a0_0, .int .i64 a0_1, .int .i64 a0_2, .int .i64 a0_3, .int .i64 a0_4, .int .i64 a0_5, .slice A0_6 l0_6.length c0_6] 26 (0, 0)) (by (with_reducible repeat (first | refine blk_drewN ?_ _ | refine blk_drew ?_ | refine blk_alloc ?_ _)); exact BK278.out) hb); have n2_ := Aside0.mk (below_step (by repeat (first | (with_reducible first | exact HB.out | apply below_alloc | apply pw_below_drewN | apply below_drew1 | refine below_set ?_ GE278.out) | exact HB.out)) hb); clear BK278; clear HB; have HO281 := n0_; have BK278 := n1_; have HB := n2_; clear n0_ n1_ n2_; (try clear hb); (try clear hb2); (try clear hk); (try clear hi); (try clear ho0)))
 go_ret
 exact ⟨by first | rfl | (simp [errW_none, errW_some] <;> rfl) | (simp [*, errW_none, errW_some] <;> rfl), by repeat (first | (with_reducible first | exact HB.out | apply below_alloc | apply pw_below_drewN | apply below_drew1 | refine below_set ?_ GE278.out) | exact HB.out)⟩

def sashref01_Digit.f (a0 : Int) : Option (ByteArray) := if 0 ≤ a0 then (if a0 ≤ (wrap64 (a0 + 1)) then (if (wrap64 (a0 + 1)) ≤ 16 then (some ((⟨#[48, 49, 50, 51, 52, 53, 54, 55, 56, 57, 97, 98, 99, 100, 101, 102]⟩ : ByteArray).extract (a0 : Int).toNat ((wrap64 (a0 + 1)) : Int).toNat)) else (none)) else (none)) else (none)
set_option maxHeartbeats 8000000 in
set_option maxRecDepth 100000 in
theorem sashref01_Digit.calls (a0 : Int) (r : ByteArray) (w : World) (h : sashref01_Digit.f a0 = some r) :
  Calls Tryd.prog 68 #[.int .i64 a0] w fun e w' => e = .returned (.string r) ∧ Drawn0 w w' := by
 have H : (if 0 ≤ a0 then (if a0 ≤ (wrap64 (a0 + 1)) then (if (wrap64 (a0 + 1)) ≤ 16 then (some ((⟨#[48, 49, 50, 51, 52, 53, 54, 55, 56, 57, 97, 98, 99, 100, 101, 102]⟩ : ByteArray).extract (a0 : Int).toNat ((wrap64 (a0 + 1)) : Int).toNat)) else (none)) else (none)) else (none)) = some r := h
 clear h
 by_cases c2 : 0 ≤ a0
 ·rw [if_pos c2] at H
  have c2b0 := eq_true c2
  have c2b1 : decide (0 ≤ a0) = true := decide_eq_true c2
  clear c2
  by_cases c3 : a0 ≤ (wrap64 (a0 + 1))
  ·rw [if_pos c3] at H
   have c3b0 := eq_true c3
   have c3b1 : decide (a0 ≤ (wrap64 (a0 + 1))) = true := decide_eq_true c3
   by_cases c4 : (wrap64 (a0 + 1)) ≤ 16
   ·rw [if_pos c4] at H
    have c4b0 := eq_true c4
    have c4b1 : decide ((wrap64 (a0 + 1)) ≤ 16) = true := decide_eq_true c4
    obtain rfl := Option.some.inj H
    go_enter Tryd.func68, Tryd.ntmps68
    go_wp2
    go_ret
    exact ⟨by first | rfl | (simp; done) | (simp [*]; done), by repeat (first | exact Drawn0.refl _ | apply Drawn0.step)⟩
   ·rw [if_neg c4] at H
    exact absurd H (by simp)
  ·rw [if_neg c3] at H
   exact absurd H (by simp)
 ·rw [if_neg c2] at H
  exact absurd H (by simp)

mutual
def sashref01_Digits.j0 : Nat → Int → Bool → Option (ByteArray)
 | 0, _, _ => none
 | k + 1, x0, x9 => if x9 = true then (some (⟨#[]⟩ : ByteArray)) else ((sashref01_Digit.f (Int.tmod x0 10)).bind fun t284 => (sashref01_Digits.l0 k x0 t284))
def sashref01_Digits.l0 : Nat → Int → ByteArray → Option (ByteArray)
 | 0, _, _ => none
 | k + 1, x0, x3 => if x0 > 9 then ((sashref01_Digit.f (Int.tmod (wrap64 (Int.tdiv x0 10)) 10)).bind fun t285 => (if t285.size + x3.size ≤ 9223372036854775807 then (sashref01_Digits.l0 k (wrap64 (Int.tdiv x0 10)) (t285 ++ x3)) else (none))) else (some x3)
end
def sashref01_Digits.f (k : Nat) (a0 : Int) : Option (ByteArray) := if a0 < 0 then (sashref01_Digits.j0 k a0 true) else (sashref01_Digits.j0 k a0 (decide (a0 > 2147483647)))
theorem sashref01_Digits.mono_l : ∀ k, (∀ y0 y1, LeO (sashref01_Digits.j0 k y0 y1) (sashref01_Digits.j0 (k + 1) y0 y1)) ∧ (∀ y0 y1, LeO (sashref01_Digits.l0 k y0 y1) (sashref01_Digits.l0 (k + 1) y0 y1))
 | 0 => ⟨fun _ _ r h => by simp [sashref01_Digits.j0] at h, fun _ _ r h => by simp [sashref01_Digits.l0] at h⟩
 | k + 1 => by
  obtain ⟨ih0, ih1⟩ := sashref01_Digits.mono_l k
  refine ⟨?_, ?_⟩
  ·intro y0 y1
   unfold sashref01_Digits.j0
   repeat' first
   | (with_reducible exact ih0 _ _)
   | (with_reducible exact ih1 _ _)
   | (with_reducible exact LeO.refl _)
   | (with_reducible exact LeO.none _)
   | (with_reducible refine LeO.ite ?_ ?_)
   | (with_reducible refine LeO.bind ?_ (fun _ => ?_))
   | exact ih0 _ _
   | exact ih1 _ _
   | exact LeO.none _
   | refine LeO.ite ?_ ?_
   | refine LeO.bind ?_ (fun _ => ?_)
  ·intro y0 y1
   unfold sashref01_Digits.l0
   repeat' first
   | (with_reducible exact ih0 _ _)
   | (with_reducible exact ih1 _ _)
   | (with_reducible exact LeO.refl _)
   | (with_reducible exact LeO.none _)
   | (with_reducible refine LeO.ite ?_ ?_)
   | (with_reducible refine LeO.bind ?_ (fun _ => ?_))
   | exact ih0 _ _
   | exact ih1 _ _
   | exact LeO.none _
   | refine LeO.ite ?_ ?_
   | refine LeO.bind ?_ (fun _ => ?_)
theorem sashref01_Digits.mono : ∀ a0 k, LeO (sashref01_Digits.f k a0) (sashref01_Digits.f (k + 1) a0) := by
 intro a0 k
 obtain ⟨ih0, ih1⟩ := sashref01_Digits.mono_l k
 unfold sashref01_Digits.f
 repeat' first
   | (with_reducible exact ih0 _ _)
   | (with_reducible exact ih1 _ _)
   | (with_reducible exact LeO.refl _)
   | (with_reducible exact LeO.none _)
   | (with_reducible refine LeO.ite ?_ ?_)
   | (with_reducible refine LeO.bind ?_ (fun _ => ?_))
   | exact ih0 _ _
   | exact ih1 _ _
   | exact LeO.none _
   | refine LeO.ite ?_ ?_
   | refine LeO.bind ?_ (fun _ => ?_)
set_option maxHeartbeats 8000000 in
set_option maxRecDepth 100000 in
theorem sashref01_Digits.calls (k : Nat) (a0 : Int) (r : ByteArray) (w : World) (h : sashref01_Digits.f k a0 = some r) :
  Calls Tryd.prog 43 #[.int .i64 a0] w fun e w' => e = .returned (.string r) ∧ Drawn0 w w' := by
 have H : (if a0 < 0 then (sashref01_Digits.j0 k a0 true) else (sashref01_Digits.j0 k a0 (decide (a0 > 2147483647)))) = some r := h
 clear h
 have HC2 := Aside0.mk H
 clear H
 go_enter Tryd.func43, Tryd.ntmps43
 go_upto_region 1 with (fail)
 go_cut [9] (fun v9 wc => ∃ (kq : Nat) (x9_1 : Bool), v9 = .bool x9_1 ∧ Aside0 (sashref01_Digits.j0 kq a0 x9_1 = some r) ∧ Aside0 (kq ≤ k) ∧ Drawn0 w wc)
 case first =>
  have H := HC2.out
  clear HC2
  by_cases c3 : a0 < 0
  ·rw [if_pos c3] at H
   have c3b0 : decide (a0 < 0) = true := decide_eq_true c3
   clear c3
   (first | rw [c3b0] | (simp only [i64_w, i32_w]; rw [c3b0]) | skip)
   have H' := Aside0.mk H
   clear H
   go_wp2
   go_meet
   case rel => exact ⟨_, (true), (by first | rfl | (simp; done) | (simp [*]; done)), H', ⟨by first | omega | exact Nat.le_refl _⟩, by repeat (first | exact Drawn0.refl _ | apply Drawn0.step)⟩
  ·rw [if_neg c3] at H
   have c3b0 : decide (a0 < 0) = false := decide_eq_false c3
   clear c3
   (first | rw [c3b0] | (simp only [i64_w, i32_w]; rw [c3b0]) | skip)
   have H' := Aside0.mk H
   clear H
   go_wp2
   go_meet
   case rel => exact ⟨_, (decide (a0 > 2147483647)), (by first | rfl | (simp; done) | (simp [*]; done)), H', ⟨by first | omega | exact Nat.le_refl _⟩, by repeat (first | exact Drawn0.refl _ | apply Drawn0.step)⟩
 case rest =>
  clear HC2
  try clear p2
  try clear c3
  try clear c3b0
  obtain ⟨kq, x9_1, rfl, HA, HJ1, ⟨mc1, rfl⟩⟩ := hcut
  cases kq with
  | zero => exact absurd HA.out (by simp [sashref01_Digits.j0])
  | succ kj1 =>
   have H := HA.out
   clear HA
   simp only [sashref01_Digits.j0] at H
   by_cases c4 : x9_1 = true
   ·subst c4
    have H1 : (some (⟨#[]⟩ : ByteArray)) = some r := by rw [if_pos rfl] at H; exact H
    clear H
    have H := H1
    clear H1
    obtain rfl := Option.some.inj H
    go_wp2
    go_ret
    exact ⟨by first | rfl | (simp; done) | (simp [*]; done), by repeat (first | exact Drawn0.refl _ | apply Drawn0.step)⟩
   ·replace c4 := Bool.eq_false_iff.mpr c4
    subst c4
    have H1 : ((sashref01_Digit.f (Int.tmod a0 10)).bind fun t284 => (sashref01_Digits.l0 kj1 a0 t284)) = some r := by rw [if_neg (show ¬ (false = true) by decide)] at H; exact H
    clear H
    have H := H1
    clear H1
    replace H := Option.bind_eq_some_iff.mp H
    obtain ⟨t284, A50, H⟩ := H
    replace H : (sashref01_Digits.l0 kj1 a0 t284) = some r := H
    have A5 := Aside0.mk A50
    clear A50
    have H' := Aside0.mk H
    clear H
    go_wp2_with (first | ((with_reducible refine gate_callee (f := 68) rfl ?_); refine goesL_ (some 12) rfl rfl Tryd.func68 (by kernel_rfl) rfl #[.int .i64 (Int.tmod a0 10)] rfl (by (try simp only [List.map_toArray, List.map_cons, List.map_nil]); first | done | rfl | (simp only [List.length_drop, List.length_take]; rfl)) ?_; (with_reducible refine (sashref01_Digit.calls (Int.tmod a0 10) t284 _ A5.out).mono ?_); rintro e w' ⟨rfl, ⟨nd, rfl⟩⟩; refine ⟨_, rfl, ?_⟩))
    go_loopg [0, 3] kj1 (fun kq v0 v3 w' => ∃ (x0_2 : Int) (x3_2 : ByteArray), v0 = .int .i64 x0_2 ∧ v3 = .string x3_2 ∧ Aside0 (sashref01_Digits.l0 kq x0_2 x3_2 = some r) ∧ Aside0 (kq ≤ kj1) ∧ Drawn0 w w')
    case atStart => exact ⟨(a0), (t284), (by first | rfl | (simp; done) | (simp [*]; done)), (by first | rfl | (simp; done) | (simp [*]; done)), H', ⟨Nat.le_refl _⟩, by repeat (first | exact Drawn0.refl _ | apply Drawn0.step)⟩
    case round =>
     clear H'
     try clear c1
     try clear p2
     try clear c3
     try clear c3b0
     try clear c4
     try clear p2
     obtain ⟨x0_2, x3_2, rfl, rfl, HA, HK2, ⟨m2, rfl⟩⟩ := hrel
     cases gk with
     | zero => exact absurd HA.out (by simp [sashref01_Digits.l0])
     | succ k2 =>
      have H := HA.out
      clear HA
      simp only [sashref01_Digits.l0] at H
      by_cases c6 : x0_2 > 9
      ·rw [if_pos c6] at H
       have c6b0 : decide (9 < x0_2) = true := decide_eq_true c6
       clear c6
       replace H := Option.bind_eq_some_iff.mp H
       obtain ⟨t285, A70, H⟩ := H
       replace H : (if t285.size + x3_2.size ≤ 9223372036854775807 then (sashref01_Digits.l0 k2 (wrap64 (Int.tdiv x0_2 10)) (t285 ++ x3_2)) else (none)) = some r := H
       have A7 := Aside0.mk A70
       clear A70
       by_cases c8 : t285.size + x3_2.size ≤ 9223372036854775807
       ·rw [if_pos c8] at H
        have c8b0 := eq_true c8
        have c8b1 : decide (t285.size + x3_2.size ≤ 9223372036854775807) = true := decide_eq_true c8
        try have c8b2 : (9223372036854775807 < t285.size + x3_2.size) = False := eq_false (Nat.not_lt.2 c8)
        try (have c8s := c8; simp only [ByteArray.size_append, (show (⟨#[120]⟩ : ByteArray).size = 1 from rfl), (show (⟨#[44]⟩ : ByteArray).size = 1 from rfl)] at c8s; have c8s1 := decide_eq_true c8s; have c8s2 := eq_false (Nat.not_lt.2 c8s); have c8s3 := eq_true c8s)
        have H' := Aside0.mk H
        clear H
        go_wp2_with (first | ((with_reducible refine gate_callee (f := 68) rfl ?_); refine goesL_ (some 19) rfl rfl Tryd.func68 (by kernel_rfl) rfl #[.int .i64 (Int.tmod (wrap64 (Int.tdiv x0_2 10)) 10)] rfl (by (try simp only [List.map_toArray, List.map_cons, List.map_nil]); first | done | rfl | (simp only [List.length_drop, List.length_take]; rfl)) ?_; (with_reducible refine (sashref01_Digit.calls (Int.tmod (wrap64 (Int.tdiv x0_2 10)) 10) t285 _ A7.out).mono ?_); rintro e w' ⟨rfl, ⟨nd, rfl⟩⟩; refine ⟨_, rfl, ?_⟩))
        go_roundg k2
        case measure => have := HJ1.out; have := HK2.out; omega
        case rel => exact ⟨(wrap64 (Int.tdiv x0_2 10)), (t285 ++ x3_2), (by first | rfl | (simp; done) | (simp [*]; done)), (by first | rfl | (simp; done) | (simp [*]; done)), H', ⟨by have := HJ1.out; have := HK2.out; omega⟩, by repeat (first | exact Drawn0.refl _ | apply Drawn0.step)⟩
       ·rw [if_neg c8] at H
        exact absurd H (by simp)
      ·rw [if_neg c6] at H
       have c6b0 : decide (9 < x0_2) = false := decide_eq_false c6
       clear c6
       obtain rfl := Option.some.inj H
       go_wp2
       go_ret
       exact ⟨by first | rfl | (simp; done) | (simp [*]; done), by repeat (first | exact Drawn0.refl _ | apply Drawn0.step)⟩

def sashref10_Head.f (k : Nat) (a0_0 : Int) (a0_1 : Int) (a0_2 : Int) (a0_3 : Int) : Option (ByteArray) := (sashref01_Digits.f k a0_2).bind fun t287 => (if t287.size + 1 ≤ 9223372036854775807 then ((sashref01_Digits.f k a0_3).bind fun t288 => (if (t287 ++ (⟨#[120]⟩ : ByteArray)).size + t288.size ≤ 9223372036854775807 then (if ((t287 ++ (⟨#[120]⟩ : ByteArray)) ++ t288).size + 1 ≤ 9223372036854775807 then ((sashref01_Digits.f k a0_0).bind fun t289 => (if (((t287 ++ (⟨#[120]⟩ : ByteArray)) ++ t288) ++ (⟨#[44]⟩ : ByteArray)).size + t289.size ≤ 9223372036854775807 then (if ((((t287 ++ (⟨#[120]⟩ : ByteArray)) ++ t288) ++ (⟨#[44]⟩ : ByteArray)) ++ t289).size + 1 ≤ 9223372036854775807 then ((sashref01_Digits.f k a0_1).bind fun t290 => (if (((((t287 ++ (⟨#[120]⟩ : ByteArray)) ++ t288) ++ (⟨#[44]⟩ : ByteArray)) ++ t289) ++ (⟨#[44]⟩ : ByteArray)).size + t290.size ≤ 9223372036854775807 then (some ((((((t287 ++ (⟨#[120]⟩ : ByteArray)) ++ t288) ++ (⟨#[44]⟩ : ByteArray)) ++ t289) ++ (⟨#[44]⟩ : ByteArray)) ++ t290)) else (none))) else (none)) else (none))) else (none)) else (none))) else (none))
set_option maxHeartbeats 8000000 in
set_option maxRecDepth 100000 in
theorem sashref10_Head.calls (k : Nat) (a0_0 : Int) (a0_1 : Int) (a0_2 : Int) (a0_3 : Int) (r : ByteArray) (w : World) (h : sashref10_Head.f k a0_0 a0_1 a0_2 a0_3 = some r) :
  Calls Tryd.prog 23 #[.agg #[.int .i64 a0_0, .int .i64 a0_1, .int .i64 a0_2, .int .i64 a0_3]] w fun e w' => e = .returned (.string r) ∧ Below w.heap.size w w' := by
 have hu23 := Tryd.underlying23
 have HB := Aside0.mk (Below.refl w.heap.size w)
 have H : ((sashref01_Digits.f k a0_2).bind fun t287 => (if t287.size + 1 ≤ 9223372036854775807 then ((sashref01_Digits.f k a0_3).bind fun t288 => (if (t287 ++ (⟨#[120]⟩ : ByteArray)).size + t288.size ≤ 9223372036854775807 then (if ((t287 ++ (⟨#[120]⟩ : ByteArray)) ++ t288).size + 1 ≤ 9223372036854775807 then ((sashref01_Digits.f k a0_0).bind fun t289 => (if (((t287 ++ (⟨#[120]⟩ : ByteArray)) ++ t288) ++ (⟨#[44]⟩ : ByteArray)).size + t289.size ≤ 9223372036854775807 then (if ((((t287 ++ (⟨#[120]⟩ : ByteArray)) ++ t288) ++ (⟨#[44]⟩ : ByteArray)) ++ t289).size + 1 ≤ 9223372036854775807 then ((sashref01_Digits.f k a0_1).bind fun t290 => (if (((((t287 ++ (⟨#[120]⟩ : ByteArray)) ++ t288) ++ (⟨#[44]⟩ : ByteArray)) ++ t289) ++ (⟨#[44]⟩ : ByteArray)).size + t290.size ≤ 9223372036854775807 then (some ((((((t287 ++ (⟨#[120]⟩ : ByteArray)) ++ t288) ++ (⟨#[44]⟩ : ByteArray)) ++ t289) ++ (⟨#[44]⟩ : ByteArray)) ++ t290)) else (none))) else (none)) else (none))) else (none)) else (none))) else (none))) = some r := h
 clear h
 replace H := Option.bind_eq_some_iff.mp H
 obtain ⟨t287, A20, H⟩ := H
 replace H : (if t287.size + 1 ≤ 9223372036854775807 then ((sashref01_Digits.f k a0_3).bind fun t288 => (if (t287 ++ (⟨#[120]⟩ : ByteArray)).size + t288.size ≤ 9223372036854775807 then (if ((t287 ++ (⟨#[120]⟩ : ByteArray)) ++ t288).size + 1 ≤ 9223372036854775807 then ((sashref01_Digits.f k a0_0).bind fun t289 => (if (((t287 ++ (⟨#[120]⟩ : ByteArray)) ++ t288) ++ (⟨#[44]⟩ : ByteArray)).size + t289.size ≤ 9223372036854775807 then (if ((((t287 ++ (⟨#[120]⟩ : ByteArray)) ++ t288) ++ (⟨#[44]⟩ : ByteArray)) ++ t289).size + 1 ≤ 9223372036854775807 then ((sashref01_Digits.f k a0_1).bind fun t290 => (if (((((t287 ++ (⟨#[120]⟩ : ByteArray)) ++ t288) ++ (⟨#[44]⟩ : ByteArray)) ++ t289) ++ (⟨#[44]⟩ : ByteArray)).size + t290.size ≤ 9223372036854775807 then (some ((((((t287 ++ (⟨#[120]⟩ : ByteArray)) ++ t288) ++ (⟨#[44]⟩ : ByteArray)) ++ t289) ++ (⟨#[44]⟩ : ByteArray)) ++ t290)) else (none))) else (none)) else (none))) else (none)) else (none))) else (none)) = some r := H
 have A2 := Aside0.mk A20
 clear A20
 by_cases c3 : t287.size + 1 ≤ 9223372036854775807
 ·rw [if_pos c3] at H
  have c3b0 := eq_true c3
  have c3b1 : decide (t287.size + 1 ≤ 9223372036854775807) = true := decide_eq_true c3
  try have c3b2 : (9223372036854775807 < t287.size + 1) = False := eq_false (Nat.not_lt.2 c3)
  try (have c3s := c3; simp only [ByteArray.size_append, (show (⟨#[120]⟩ : ByteArray).size = 1 from rfl), (show (⟨#[44]⟩ : ByteArray).size = 1 from rfl)] at c3s; have c3s1 := decide_eq_true c3s; have c3s2 := eq_false (Nat.not_lt.2 c3s); have c3s3 := eq_true c3s)
  replace H := Option.bind_eq_some_iff.mp H
  obtain ⟨t288, A40, H⟩ := H
  replace H : (if (t287 ++ (⟨#[120]⟩ : ByteArray)).size + t288.size ≤ 9223372036854775807 then (if ((t287 ++ (⟨#[120]⟩ : ByteArray)) ++ t288).size + 1 ≤ 9223372036854775807 then ((sashref01_Digits.f k a0_0).bind fun t289 => (if (((t287 ++ (⟨#[120]⟩ : ByteArray)) ++ t288) ++ (⟨#[44]⟩ : ByteArray)).size + t289.size ≤ 9223372036854775807 then (if ((((t287 ++ (⟨#[120]⟩ : ByteArray)) ++ t288) ++ (⟨#[44]⟩ : ByteArray)) ++ t289).size + 1 ≤ 9223372036854775807 then ((sashref01_Digits.f k a0_1).bind fun t290 => (if (((((t287 ++ (⟨#[120]⟩ : ByteArray)) ++ t288) ++ (⟨#[44]⟩ : ByteArray)) ++ t289) ++ (⟨#[44]⟩ : ByteArray)).size + t290.size ≤ 9223372036854775807 then (some ((((((t287 ++ (⟨#[120]⟩ : ByteArray)) ++ t288) ++ (⟨#[44]⟩ : ByteArray)) ++ t289) ++ (⟨#[44]⟩ : ByteArray)) ++ t290)) else (none))) else (none)) else (none))) else (none)) else (none)) = some r := H
  have A4 := Aside0.mk A40
  clear A40
  by_cases c5 : (t287 ++ (⟨#[120]⟩ : ByteArray)).size + t288.size ≤ 9223372036854775807
  ·rw [if_pos c5] at H
   have c5b0 := eq_true c5
   have c5b1 : decide ((t287 ++ (⟨#[120]⟩ : ByteArray)).size + t288.size ≤ 9223372036854775807) = true := decide_eq_true c5
   try have c5b2 : (9223372036854775807 < (t287 ++ (⟨#[120]⟩ : ByteArray)).size + t288.size) = False := eq_false (Nat.not_lt.2 c5)
   try (have c5s := c5; simp only [ByteArray.size_append, (show (⟨#[120]⟩ : ByteArray).size = 1 from rfl), (show (⟨#[44]⟩ : ByteArray).size = 1 from rfl)] at c5s; have c5s1 := decide_eq_true c5s; have c5s2 := eq_false (Nat.not_lt.2 c5s); have c5s3 := eq_true c5s)
   by_cases c6 : ((t287 ++ (⟨#[120]⟩ : ByteArray)) ++ t288).size + 1 ≤ 9223372036854775807
   ·rw [if_pos c6] at H
    have c6b0 := eq_true c6
    have c6b1 : decide (((t287 ++ (⟨#[120]⟩ : ByteArray)) ++ t288).size + 1 ≤ 9223372036854775807) = true := decide_eq_true c6
    try have c6b2 : (9223372036854775807 < ((t287 ++ (⟨#[120]⟩ : ByteArray)) ++ t288).size + 1) = False := eq_false (Nat.not_lt.2 c6)
    try (have c6s := c6; simp only [ByteArray.size_append, (show (⟨#[120]⟩ : ByteArray).size = 1 from rfl), (show (⟨#[44]⟩ : ByteArray).size = 1 from rfl)] at c6s; have c6s1 := decide_eq_true c6s; have c6s2 := eq_false (Nat.not_lt.2 c6s); have c6s3 := eq_true c6s)
    replace H := Option.bind_eq_some_iff.mp H
    obtain ⟨t289, A70, H⟩ := H
    replace H : (if (((t287 ++ (⟨#[120]⟩ : ByteArray)) ++ t288) ++ (⟨#[44]⟩ : ByteArray)).size + t289.size ≤ 9223372036854775807 then (if ((((t287 ++ (⟨#[120]⟩ : ByteArray)) ++ t288) ++ (⟨#[44]⟩ : ByteArray)) ++ t289).size + 1 ≤ 9223372036854775807 then ((sashref01_Digits.f k a0_1).bind fun t290 => (if (((((t287 ++ (⟨#[120]⟩ : ByteArray)) ++ t288) ++ (⟨#[44]⟩ : ByteArray)) ++ t289) ++ (⟨#[44]⟩ : ByteArray)).size + t290.size ≤ 9223372036854775807 then (some ((((((t287 ++ (⟨#[120]⟩ : ByteArray)) ++ t288) ++ (⟨#[44]⟩ : ByteArray)) ++ t289) ++ (⟨#[44]⟩ : ByteArray)) ++ t290)) else (none))) else (none)) else (none)) = some r := H
    have A7 := Aside0.mk A70
    clear A70
    by_cases c8 : (((t287 ++ (⟨#[120]⟩ : ByteArray)) ++ t288) ++ (⟨#[44]⟩ : ByteArray)).size + t289.size ≤ 9223372036854775807
    ·rw [if_pos c8] at H
     have c8b0 := eq_true c8
     have c8b1 : decide ((((t287 ++ (⟨#[120]⟩ : ByteArray)) ++ t288) ++ (⟨#[44]⟩ : ByteArray)).size + t289.size ≤ 9223372036854775807) = true := decide_eq_true c8
     try have c8b2 : (9223372036854775807 < (((t287 ++ (⟨#[120]⟩ : ByteArray)) ++ t288) ++ (⟨#[44]⟩ : ByteArray)).size + t289.size) = False := eq_false (Nat.not_lt.2 c8)
     try (have c8s := c8; simp only [ByteArray.size_append, (show (⟨#[120]⟩ : ByteArray).size = 1 from rfl), (show (⟨#[44]⟩ : ByteArray).size = 1 from rfl)] at c8s; have c8s1 := decide_eq_true c8s; have c8s2 := eq_false (Nat.not_lt.2 c8s); have c8s3 := eq_true c8s)
     by_cases c9 : ((((t287 ++ (⟨#[120]⟩ : ByteArray)) ++ t288) ++ (⟨#[44]⟩ : ByteArray)) ++ t289).size + 1 ≤ 9223372036854775807
     ·rw [if_pos c9] at H
      have c9b0 := eq_true c9
      have c9b1 : decide (((((t287 ++ (⟨#[120]⟩ : ByteArray)) ++ t288) ++ (⟨#[44]⟩ : ByteArray)) ++ t289).size + 1 ≤ 9223372036854775807) = true := decide_eq_true c9
      try have c9b2 : (9223372036854775807 < ((((t287 ++ (⟨#[120]⟩ : ByteArray)) ++ t288) ++ (⟨#[44]⟩ : ByteArray)) ++ t289).size + 1) = False := eq_false (Nat.not_lt.2 c9)
      try (have c9s := c9; simp only [ByteArray.size_append, (show (⟨#[120]⟩ : ByteArray).size = 1 from rfl), (show (⟨#[44]⟩ : ByteArray).size = 1 from rfl)] at c9s; have c9s1 := decide_eq_true c9s; have c9s2 := eq_false (Nat.not_lt.2 c9s); have c9s3 := eq_true c9s)
      replace H := Option.bind_eq_some_iff.mp H
      obtain ⟨t290, A100, H⟩ := H
      replace H : (if (((((t287 ++ (⟨#[120]⟩ : ByteArray)) ++ t288) ++ (⟨#[44]⟩ : ByteArray)) ++ t289) ++ (⟨#[44]⟩ : ByteArray)).size + t290.size ≤ 9223372036854775807 then (some ((((((t287 ++ (⟨#[120]⟩ : ByteArray)) ++ t288) ++ (⟨#[44]⟩ : ByteArray)) ++ t289) ++ (⟨#[44]⟩ : ByteArray)) ++ t290)) else (none)) = some r := H
      have A10 := Aside0.mk A100
      clear A100
      by_cases c11 : (((((t287 ++ (⟨#[120]⟩ : ByteArray)) ++ t288) ++ (⟨#[44]⟩ : ByteArray)) ++ t289) ++ (⟨#[44]⟩ : ByteArray)).size + t290.size ≤ 9223372036854775807
      ·rw [if_pos c11] at H
       have c11b0 := eq_true c11
       have c11b1 : decide ((((((t287 ++ (⟨#[120]⟩ : ByteArray)) ++ t288) ++ (⟨#[44]⟩ : ByteArray)) ++ t289) ++ (⟨#[44]⟩ : ByteArray)).size + t290.size ≤ 9223372036854775807) = true := decide_eq_true c11
       try have c11b2 : (9223372036854775807 < (((((t287 ++ (⟨#[120]⟩ : ByteArray)) ++ t288) ++ (⟨#[44]⟩ : ByteArray)) ++ t289) ++ (⟨#[44]⟩ : ByteArray)).size + t290.size) = False := eq_false (Nat.not_lt.2 c11)
       try (have c11s := c11; simp only [ByteArray.size_append, (show (⟨#[120]⟩ : ByteArray).size = 1 from rfl), (show (⟨#[44]⟩ : ByteArray).size = 1 from rfl)] at c11s; have c11s1 := decide_eq_true c11s; have c11s2 := eq_false (Nat.not_lt.2 c11s); have c11s3 := eq_true c11s)
       obtain rfl := Option.some.inj H
       go_enter Tryd.func23, Tryd.ntmps23
       go_wp2_with (first | ((with_reducible refine gate_dst (N := 1) rfl ?_); refine box_event ?hg (N := 1) ?hd (cs := #[.int .i64 a0_0, .int .i64 a0_1, .int .i64 a0_2, .int .i64 a0_3]) (t := 23) ?hr ?_; (case hd => rfl); (case hg => rfl); (case hr => first | (go_simp; done) | (go_simp; rfl)); intro gb286 hg w12 hbox hb; have n0_ := Aside0.mk (below_step (by repeat (first | (with_reducible first | exact HB.out | apply below_alloc | apply pw_below_drewN | apply below_drew1) | exact HB.out)) hb); have n1_ := Aside0.mk (hbox); have n2_ := Aside0.mk ((by rw [hg]; exact (below_size (by repeat (first | (with_reducible first | exact HB.out | apply below_alloc | apply pw_below_drewN | apply below_drew1) | exact HB.out))) : w.heap.size ≤ gb286)); have n3_ := Aside0.mk ((by rw [hg]; exact (below_size (by repeat (first | (with_reducible first | exact HB.out | apply below_alloc | apply pw_below_drewN | apply below_drew1) | exact HB.out))) : w.heap.size ≤ gb286)); clear HB; have HB := n0_; have BK286 := n1_; have GW286 := n2_; have GE286 := n3_; clear n0_ n1_ n2_ n3_; clear hb hbox hg; have hcz13_0 : w12.cell? ⟨gb286, 0, none⟩ = some (.int .i64 a0_0) := (blk_cell BK286.out 0).trans rfl; have hcz13_1 : w12.cell? ⟨gb286, 1, none⟩ = some (.int .i64 a0_1) := (blk_cell BK286.out 1).trans rfl; have hcz13_2 : w12.cell? ⟨gb286, 2, none⟩ = some (.int .i64 a0_2) := (blk_cell BK286.out 2).trans rfl; have hcz13_3 : w12.cell? ⟨gb286, 3, none⟩ = some (.int .i64 a0_3) := (blk_cell BK286.out 3).trans rfl; have hfz13_0 := blk_frozen BK286.out 0; have hfz13_1 := blk_frozen BK286.out 1; have hfz13_2 := blk_frozen BK286.out 2; have hfz13_3 := blk_frozen BK286.out 3) | (go_at_call 43; (with_reducible refine (sashref01_Digits.calls k a0_2 t287 _ A2.out).mono ?_); rintro e w' ⟨rfl, ⟨nd, rfl⟩⟩; (try first | exact ⟨rfl, _, World.drewN_drewN _ _ _⟩ | exact ⟨rfl, _, Eq.trans (World.drewN_drewN _ _ _) (congrArg (World.drewN _) (Nat.add_assoc _ _ _))⟩)) | (go_at_call 43; (with_reducible refine (sashref01_Digits.calls k a0_3 t288 _ A4.out).mono ?_); rintro e w' ⟨rfl, ⟨nd, rfl⟩⟩; (try first | exact ⟨rfl, _, World.drewN_drewN _ _ _⟩ | exact ⟨rfl, _, Eq.trans (World.drewN_drewN _ _ _) (congrArg (World.drewN _) (Nat.add_assoc _ _ _))⟩)) | (go_at_call 43; (with_reducible refine (sashref01_Digits.calls k a0_0 t289 _ A7.out).mono ?_); rintro e w' ⟨rfl, ⟨nd, rfl⟩⟩; (try first | exact ⟨rfl, _, World.drewN_drewN _ _ _⟩ | exact ⟨rfl, _, Eq.trans (World.drewN_drewN _ _ _) (congrArg (World.drewN _) (Nat.add_assoc _ _ _))⟩)) | (go_at_call 43; (with_reducible refine (sashref01_Digits.calls k a0_1 t290 _ A10.out).mono ?_); rintro e w' ⟨rfl, ⟨nd, rfl⟩⟩; (try first | exact ⟨rfl, _, World.drewN_drewN _ _ _⟩ | exact ⟨rfl, _, Eq.trans (World.drewN_drewN _ _ _) (congrArg (World.drewN _) (Nat.add_assoc _ _ _))⟩)))
       repeat (go_quiet (first | ((with_reducible refine gate_dst (N := 1) rfl ?_); refine box_event ?hg (N := 1) ?hd (cs := #[.int .i64 a0_0, .int .i64 a0_1, .int .i64 a0_2, .int .i64 a0_3]) (t := 23) ?hr ?_; (case hd => rfl); (case hg => rfl); (case hr => first | (go_simp; done) | (go_simp; rfl)); intro gb286 hg w12 hbox hb; have n0_ := Aside0.mk (below_step (by repeat (first | (with_reducible first | exact HB.out | apply below_alloc | apply pw_below_drewN | apply below_drew1) | exact HB.out)) hb); have n1_ := Aside0.mk (hbox); have n2_ := Aside0.mk ((by rw [hg]; exact (below_size (by repeat (first | (with_reducible first | exact HB.out | apply below_alloc | apply pw_below_drewN | apply below_drew1) | exact HB.out))) : w.heap.size ≤ gb286)); have n3_ := Aside0.mk ((by rw [hg]; exact (below_size (by repeat (first | (with_reducible first | exact HB.out | apply below_alloc | apply pw_below_drewN | apply below_drew1) | exact HB.out))) : w.heap.size ≤ gb286)); clear HB; have HB := n0_; have BK286 := n1_; have GW286 := n2_; have GE286 := n3_; clear n0_ n1_ n2_ n3_; clear hb hbox hg; have hcz13_0 : w12.cell? ⟨gb286, 0, none⟩ = some (.int .i64 a0_0) := (blk_cell BK286.out 0).trans rfl; have hcz13_1 : w12.cell? ⟨gb286, 1, none⟩ = some (.int .i64 a0_1) := (blk_cell BK286.out 1).trans rfl; have hcz13_2 : w12.cell? ⟨gb286, 2, none⟩ = some (.int .i64 a0_2) := (blk_cell BK286.out 2).trans rfl; have hcz13_3 : w12.cell? ⟨gb286, 3, none⟩ = some (.int .i64 a0_3) := (blk_cell BK286.out 3).trans rfl; have hfz13_0 := blk_frozen BK286.out 0; have hfz13_1 := blk_frozen BK286.out 1; have hfz13_2 := blk_frozen BK286.out 2; have hfz13_3 := blk_frozen BK286.out 3) | (go_at_call 43; (with_reducible refine (sashref01_Digits.calls k a0_2 t287 _ A2.out).mono ?_); rintro e w' ⟨rfl, ⟨nd, rfl⟩⟩; (try first | exact ⟨rfl, _, World.drewN_drewN _ _ _⟩ | exact ⟨rfl, _, Eq.trans (World.drewN_drewN _ _ _) (congrArg (World.drewN _) (Nat.add_assoc _ _ _))⟩)) | (go_at_call 43; (with_reducible refine (sashref01_Digits.calls k a0_3 t288 _ A4.out).mono ?_); rintro e w' ⟨rfl, ⟨nd, rfl⟩⟩; (try first | exact ⟨rfl, _, World.drewN_drewN _ _ _⟩ | exact ⟨rfl, _, Eq.trans (World.drewN_drewN _ _ _) (congrArg (World.drewN _) (Nat.add_assoc _ _ _))⟩)) | (go_at_call 43; (with_reducible refine (sashref01_Digits.calls k a0_0 t289 _ A7.out).mono ?_); rintro e w' ⟨rfl, ⟨nd, rfl⟩⟩; (try first | exact ⟨rfl, _, World.drewN_drewN _ _ _⟩ | exact ⟨rfl, _, Eq.trans (World.drewN_drewN _ _ _) (congrArg (World.drewN _) (Nat.add_assoc _ _ _))⟩)) | (go_at_call 43; (with_reducible refine (sashref01_Digits.calls k a0_1 t290 _ A10.out).mono ?_); rintro e w' ⟨rfl, ⟨nd, rfl⟩⟩; (try first | exact ⟨rfl, _, World.drewN_drewN _ _ _⟩ | exact ⟨rfl, _, Eq.trans (World.drewN_drewN _ _ _) (congrArg (World.drewN _) (Nat.add_assoc _ _ _))⟩))); try go_wp2_with (first | ((with_reducible refine gate_dst (N := 1) rfl ?_); refine box_event ?hg (N := 1) ?hd (cs := #[.int .i64 a0_0, .int .i64 a0_1, .int .i64 a0_2, .int .i64 a0_3]) (t := 23) ?hr ?_; (case hd => rfl); (case hg => rfl); (case hr => first | (go_simp; done) | (go_simp; rfl)); intro gb286 hg w12 hbox hb; have n0_ := Aside0.mk (below_step (by repeat (first | (with_reducible first | exact HB.out | apply below_alloc | apply pw_below_drewN | apply below_drew1) | exact HB.out)) hb); have n1_ := Aside0.mk (hbox); have n2_ := Aside0.mk ((by rw [hg]; exact (below_size (by repeat (first | (with_reducible first | exact HB.out | apply below_alloc | apply pw_below_drewN | apply below_drew1) | exact HB.out))) : w.heap.size ≤ gb286)); have n3_ := Aside0.mk ((by rw [hg]; exact (below_size (by repeat (first | (with_reducible first | exact HB.out | apply below_alloc | apply pw_below_drewN | apply below_drew1) | exact HB.out))) : w.heap.size ≤ gb286)); clear HB; have HB := n0_; have BK286 := n1_; have GW286 := n2_; have GE286 := n3_; clear n0_ n1_ n2_ n3_; clear hb hbox hg; have hcz13_0 : w12.cell? ⟨gb286, 0, none⟩ = some (.int .i64 a0_0) := (blk_cell BK286.out 0).trans rfl; have hcz13_1 : w12.cell? ⟨gb286, 1, none⟩ = some (.int .i64 a0_1) := (blk_cell BK286.out 1).trans rfl; have hcz13_2 : w12.cell? ⟨gb286, 2, none⟩ = some (.int .i64 a0_2) := (blk_cell BK286.out 2).trans rfl; have hcz13_3 : w12.cell? ⟨gb286, 3, none⟩ = some (.int .i64 a0_3) := (blk_cell BK286.out 3).trans rfl; have hfz13_0 := blk_frozen BK286.out 0; have hfz13_1 := blk_frozen BK286.out 1; have hfz13_2 := blk_frozen BK286.out 2; have hfz13_3 := blk_frozen BK286.out 3) | (go_at_call 43; (with_reducible refine (sashref01_Digits.calls k a0_2 t287 _ A2.out).mono ?_); rintro e w' ⟨rfl, ⟨nd, rfl⟩⟩; (try first | exact ⟨rfl, _, World.drewN_drewN _ _ _⟩ | exact ⟨rfl, _, Eq.trans (World.drewN_drewN _ _ _) (congrArg (World.drewN _) (Nat.add_assoc _ _ _))⟩)) | (go_at_call 43; (with_reducible refine (sashref01_Digits.calls k a0_3 t288 _ A4.out).mono ?_); rintro e w' ⟨rfl, ⟨nd, rfl⟩⟩; (try first | exact ⟨rfl, _, World.drewN_drewN _ _ _⟩ | exact ⟨rfl, _, Eq.trans (World.drewN_drewN _ _ _) (congrArg (World.drewN _) (Nat.add_assoc _ _ _))⟩)) | (go_at_call 43; (with_reducible refine (sashref01_Digits.calls k a0_0 t289 _ A7.out).mono ?_); rintro e w' ⟨rfl, ⟨nd, rfl⟩⟩; (try first | exact ⟨rfl, _, World.drewN_drewN _ _ _⟩ | exact ⟨rfl, _, Eq.trans (World.drewN_drewN _ _ _) (congrArg (World.drewN _) (Nat.add_assoc _ _ _))⟩)) | (go_at_call 43; (with_reducible refine (sashref01_Digits.calls k a0_1 t290 _ A10.out).mono ?_); rintro e w' ⟨rfl, ⟨nd, rfl⟩⟩; (try first | exact ⟨rfl, _, World.drewN_drewN _ _ _⟩ | exact ⟨rfl, _, Eq.trans (World.drewN_drewN _ _ _) (congrArg (World.drewN _) (Nat.add_assoc _ _ _))⟩))))
       go_ret
       exact ⟨by first | rfl | (simp [errW_none, errW_some] <;> rfl) | (simp [*, errW_none, errW_some] <;> rfl), by repeat (first | (with_reducible first | exact HB.out | apply below_alloc | apply pw_below_drewN | apply below_drew1 | refine below_set ?_ GE286.out) | exact HB.out)⟩
      ·rw [if_neg c11] at H
       exact absurd H (by simp)
     ·rw [if_neg c9] at H
      exact absurd H (by simp)
    ·rw [if_neg c8] at H
     exact absurd H (by simp)
   ·rw [if_neg c6] at H
    exact absurd H (by simp)
  ·rw [if_neg c5] at H
   exact absurd H (by simp)
 ·rw [if_neg c3] at H
  exact absurd H (by simp)

mutual
def sashref10_Body.l0 : Nat → ByteArray → ByteArray → Int → Int → Int → Int → Int → Int → Int → Int → List (S26) → Option (ByteArray)
 | 0, _, _, _, _, _, _, _, _, _, _, _ => none
 | k + 1, x3, x4, x20, x21, x292000, x292001, x292002, x292003, x292004, x292005, x292006 => if x21 < x20 then (if x21 > 0 then (if x4.size + 1 ≤ 9223372036854775807 then (if 0 ≤ x21 then (if x21 < (x292006.length : Int) then ((sashref10_Body.f k ((rd_T26 x292006 x21).f0) ((rd_T26 x292006 x21).f1.f0) ((rd_T26 x292006 x21).f1.f1) ((rd_T26 x292006 x21).f1.f2) ((rd_T26 x292006 x21).f1.f3) ((rd_T26 x292006 x21).f2) ((rd_T26 x292006 x21).f3)).bind fun t295 => (if (x4 ++ (⟨#[44]⟩ : ByteArray)).size + t295.size ≤ 9223372036854775807 then (sashref10_Body.l0 k x3 ((x4 ++ (⟨#[44]⟩ : ByteArray)) ++ t295) x20 (wrap64 (x21 + 1)) x292000 x292001 x292002 x292003 x292004 x292005 x292006) else (none))) else (none)) else (none)) else (none)) else (if 0 ≤ x21 then (if x21 < (x292006.length : Int) then ((sashref10_Body.f k ((rd_T26 x292006 x21).f0) ((rd_T26 x292006 x21).f1.f0) ((rd_T26 x292006 x21).f1.f1) ((rd_T26 x292006 x21).f1.f2) ((rd_T26 x292006 x21).f1.f3) ((rd_T26 x292006 x21).f2) ((rd_T26 x292006 x21).f3)).bind fun t297 => (if x4.size + t297.size ≤ 9223372036854775807 then (sashref10_Body.l0 k x3 (x4 ++ t297) x20 (wrap64 (x21 + 1)) x292000 x292001 x292002 x292003 x292004 x292005 x292006) else (none))) else (none)) else (none))) else (if x292000 = 2 then (if x3.size + 1 ≤ 9223372036854775807 then (if (x3 ++ (⟨#[123]⟩ : ByteArray)).size + x4.size ≤ 9223372036854775807 then (if ((x3 ++ (⟨#[123]⟩ : ByteArray)) ++ x4).size + 1 ≤ 9223372036854775807 then (some (((x3 ++ (⟨#[123]⟩ : ByteArray)) ++ x4) ++ (⟨#[125]⟩ : ByteArray))) else (none)) else (none)) else (none)) else (if x3.size + 1 ≤ 9223372036854775807 then (if (x3 ++ (⟨#[91]⟩ : ByteArray)).size + x4.size ≤ 9223372036854775807 then (if ((x3 ++ (⟨#[91]⟩ : ByteArray)) ++ x4).size + 1 ≤ 9223372036854775807 then (some (((x3 ++ (⟨#[91]⟩ : ByteArray)) ++ x4) ++ (⟨#[93]⟩ : ByteArray))) else (none)) else (none)) else (none)))
def sashref10_Body.f : Nat → Int → Int → Int → Int → Int → Int → List (S26) → Option (ByteArray)
 | 0, _, _, _, _, _, _, _ => none
 | k + 1, a0_0, a0_1, a0_2, a0_3, a0_4, a0_5, l0_6 => (sashref10_Head.f k a0_1 a0_2 a0_3 a0_4).bind fun t292 => (if a0_0 = 1 then (if t292.size + 1 ≤ 9223372036854775807 then ((sashref01_Digits.f k a0_5).bind fun t293 => (if (t292 ++ (⟨#[44]⟩ : ByteArray)).size + t293.size ≤ 9223372036854775807 then (some ((t292 ++ (⟨#[44]⟩ : ByteArray)) ++ t293)) else (none))) else (none)) else (sashref10_Body.l0 k t292 (⟨#[]⟩ : ByteArray) (l0_6.length : Int) 0 a0_0 a0_1 a0_2 a0_3 a0_4 a0_5 l0_6))
end
set_option maxHeartbeats 8000000 in
set_option maxRecDepth 100000 in
theorem sashref10_Body.calls (k : Nat) : ∀ (a0_0 : Int) (a0_1 : Int) (a0_2 : Int) (a0_3 : Int) (a0_4 : Int) (a0_5 : Int) (A0_6 : Option Addr) (c0_6 : Nat) (l0_6 : List (S26)) (r : ByteArray) (w : World) (hr0_6 : Kd.C k26 w A0_6 l0_6.length l0_6) (hc0_6 : l0_6.length ≤ c0_6) (h : sashref10_Body.f k a0_0 a0_1 a0_2 a0_3 a0_4 a0_5 l0_6 = some r),
  Calls Tryd.prog 21 #[.agg #[.int .u8 a0_0, .int .i64 a0_1, .int .i64 a0_2, .int .i64 a0_3, .int .i64 a0_4, .int .i64 a0_5, .slice A0_6 l0_6.length c0_6]] w fun e w' => e = .returned (.string r) ∧ Below w.heap.size w w' := by
 induction k using Nat.strongRecOn with
 | _ k ih =>
 intro a0_0 a0_1 a0_2 a0_3 a0_4 a0_5 A0_6 c0_6 l0_6 r w hr0_6 hc0_6 h
 cases k with
 | zero => exact absurd h (by simp [sashref10_Body.f])
 | succ k =>
 simp only [sashref10_Body.f] at h
 have hu26 := Tryd.underlying26
 have hu23 := Tryd.underlying23
 have HR0_6 := Aside0.mk hr0_6
 have HC0_6 := Aside0.mk hc0_6
 clear hr0_6 hc0_6
 have HB := Aside0.mk (Below.refl w.heap.size w)
 have H : ((sashref10_Head.f k a0_1 a0_2 a0_3 a0_4).bind fun t292 => (if a0_0 = 1 then (if t292.size + 1 ≤ 9223372036854775807 then ((sashref01_Digits.f k a0_5).bind fun t293 => (if (t292 ++ (⟨#[44]⟩ : ByteArray)).size + t293.size ≤ 9223372036854775807 then (some ((t292 ++ (⟨#[44]⟩ : ByteArray)) ++ t293)) else (none))) else (none)) else (sashref10_Body.l0 k t292 (⟨#[]⟩ : ByteArray) (l0_6.length : Int) 0 a0_0 a0_1 a0_2 a0_3 a0_4 a0_5 l0_6))) = some r := h
 clear h
 replace H := Option.bind_eq_some_iff.mp H
 obtain ⟨t292, A20, H⟩ := H
 replace H : (if a0_0 = 1 then (if t292.size + 1 ≤ 9223372036854775807 then ((sashref01_Digits.f k a0_5).bind fun t293 => (if (t292 ++ (⟨#[44]⟩ : ByteArray)).size + t293.size ≤ 9223372036854775807 then (some ((t292 ++ (⟨#[44]⟩ : ByteArray)) ++ t293)) else (none))) else (none)) else (sashref10_Body.l0 k t292 (⟨#[]⟩ : ByteArray) (l0_6.length : Int) 0 a0_0 a0_1 a0_2 a0_3 a0_4 a0_5 l0_6)) = some r := H
 have A2 := Aside0.mk A20
 clear A20
 by_cases c3 : a0_0 = 1
 ·rw [if_pos c3] at H
  have c3b0 : (a0_0 == 1) = true := beq_iff_eq.mpr c3
  have c3b1 : (a0_0 != 1) = false := bne_eq_false_iff_eq.mpr c3
  clear c3
  by_cases c4 : t292.size + 1 ≤ 9223372036854775807
  ·rw [if_pos c4] at H
   have c4b0 := eq_true c4
   have c4b1 : decide (t292.size + 1 ≤ 9223372036854775807) = true := decide_eq_true c4
   try have c4b2 : (9223372036854775807 < t292.size + 1) = False := eq_false (Nat.not_lt.2 c4)
   try (have c4s := c4; simp only [ByteArray.size_append, (show (⟨#[123]⟩ : ByteArray).size = 1 from rfl), (show (⟨#[125]⟩ : ByteArray).size = 1 from rfl), (show (⟨#[44]⟩ : ByteArray).size = 1 from rfl), (show (⟨#[91]⟩ : ByteArray).size = 1 from rfl), (show (⟨#[93]⟩ : ByteArray).size = 1 from rfl)] at c4s; have c4s1 := decide_eq_true c4s; have c4s2 := eq_false (Nat.not_lt.2 c4s); have c4s3 := eq_true c4s)
   replace H := Option.bind_eq_some_iff.mp H
   obtain ⟨t293, A50, H⟩ := H
   replace H : (if (t292 ++ (⟨#[44]⟩ : ByteArray)).size + t293.size ≤ 9223372036854775807 then (some ((t292 ++ (⟨#[44]⟩ : ByteArray)) ++ t293)) else (none)) = some r := H
   have A5 := Aside0.mk A50
   clear A50
   by_cases c6 : (t292 ++ (⟨#[44]⟩ : ByteArray)).size + t293.size ≤ 9223372036854775807
   ·rw [if_pos c6] at H
    have c6b0 := eq_true c6
    have c6b1 : decide ((t292 ++ (⟨#[44]⟩ : ByteArray)).size + t293.size ≤ 9223372036854775807) = true := decide_eq_true c6
    try have c6b2 : (9223372036854775807 < (t292 ++ (⟨#[44]⟩ : ByteArray)).size + t293.size) = False := eq_false (Nat.not_lt.2 c6)
    try (have c6s := c6; simp only [ByteArray.size_append, (show (⟨#[123]⟩ : ByteArray).size = 1 from rfl), (show (⟨#[125]⟩ : ByteArray).size = 1 from rfl), (show (⟨#[44]⟩ : ByteArray).size = 1 from rfl), (show (⟨#[91]⟩ : ByteArray).size = 1 from rfl), (show (⟨#[93]⟩ : ByteArray).size = 1 from rfl)] at c6s; have c6s1 := decide_eq_true c6s; have c6s2 := eq_false (Nat.not_lt.2 c6s); have c6s3 := eq_true c6s)
    obtain rfl := Option.some.inj H
    go_enter Tryd.func21, Tryd.ntmps21
    go_wp2_with (first | ((with_reducible refine gate_dst (N := 1) rfl ?_); refine box_event ?hg (N := 1) ?hd (cs := #[.int .u8 a0_0, .int .i64 a0_1, .int .i64 a0_2, .int .i64 a0_3, .int .i64 a0_4, .int .i64 a0_5, .slice A0_6 l0_6.length c0_6]) (t := 26) ?hr ?_; (case hd => rfl); (case hg => rfl); (case hr => first | (go_simp; done) | (go_simp; rfl)); intro gb291 hg w7 hbox hb; have n0_ := Aside0.mk (below_step (by repeat (first | (with_reducible first | exact HB.out | apply below_alloc | apply pw_below_drewN | apply below_drew1) | exact HB.out)) hb); have n1_ := Aside0.mk (hbox); have n2_ := Aside0.mk ((by rw [hg]; exact (below_size (by repeat (first | (with_reducible first | exact HB.out | apply below_alloc | apply pw_below_drewN | apply below_drew1) | exact HB.out))) : w.heap.size ≤ gb291)); have n3_ := Aside0.mk ((by rw [hg]; exact (below_size (by repeat (first | (with_reducible first | exact HB.out | apply below_alloc | apply pw_below_drewN | apply below_drew1) | exact HB.out))) : w.heap.size ≤ gb291)); clear HB; have HB := n0_; have BK291 := n1_; have GW291 := n2_; have GE291 := n3_; clear n0_ n1_ n2_ n3_; clear hb hbox hg; have hcz8_0 : w7.cell? ⟨gb291, 0, none⟩ = some (.int .u8 a0_0) := (blk_cell BK291.out 0).trans rfl; have hcz8_1 : w7.cell? ⟨gb291, 1, none⟩ = some (.int .i64 a0_1) := (blk_cell BK291.out 1).trans rfl; have hcz8_2 : w7.cell? ⟨gb291, 2, none⟩ = some (.int .i64 a0_2) := (blk_cell BK291.out 2).trans rfl; have hcz8_3 : w7.cell? ⟨gb291, 3, none⟩ = some (.int .i64 a0_3) := (blk_cell BK291.out 3).trans rfl; have hcz8_4 : w7.cell? ⟨gb291, 4, none⟩ = some (.int .i64 a0_4) := (blk_cell BK291.out 4).trans rfl; have hcz8_5 : w7.cell? ⟨gb291, 5, none⟩ = some (.int .i64 a0_5) := (blk_cell BK291.out 5).trans rfl; have hcz8_6 : w7.cell? ⟨gb291, 6, none⟩ = some (.slice A0_6 l0_6.length c0_6) := (blk_cell BK291.out 6).trans rfl; have hfz8_0 := blk_frozen BK291.out 0; have hfz8_1 := blk_frozen BK291.out 1; have hfz8_2 := blk_frozen BK291.out 2; have hfz8_3 := blk_frozen BK291.out 3; have hfz8_4 := blk_frozen BK291.out 4; have hfz8_5 := blk_frozen BK291.out 5; have hfz8_6 := blk_frozen BK291.out 6) | ((with_reducible refine gate_callee (f := 23) rfl ?_); refine goesL_ (some 8) rfl rfl Tryd.func23 (by kernel_rfl) rfl #[.agg #[.int .i64 a0_1, .int .i64 a0_2, .int .i64 a0_3, .int .i64 a0_4]] rfl (by (try simp only [List.map_toArray, List.map_cons, List.map_nil]); first | done | rfl | (simp only [List.length_drop, List.length_take]; rfl)) ?_; (with_reducible refine (sashref10_Head.calls k a0_1 a0_2 a0_3 a0_4 t292 _ A2.out).mono ?_); rintro e w9 ⟨rfl, hb⟩; refine ⟨_, rfl, ?_⟩; have n0_ := Aside0.mk (blk_below (g := gb291) (o := .cells #[.int .u8 a0_0, .int .i64 a0_1, .int .i64 a0_2, .int .i64 a0_3, .int .i64 a0_4, .int .i64 a0_5, .slice A0_6 l0_6.length c0_6] 26 (0, 0)) (by (with_reducible repeat (first | refine blk_drewN ?_ _ | refine blk_drew ?_ | refine blk_alloc ?_ _)); exact BK291.out) hb); have n1_ := Aside0.mk (below_step (by repeat (first | (with_reducible first | exact HB.out | apply below_alloc | apply pw_below_drewN | apply below_drew1 | refine below_set ?_ GE291.out) | exact HB.out)) hb); clear BK291; clear HB; have BK291 := n0_; have HB := n1_; clear n0_ n1_; (try clear hb); (try clear hb2); (try clear hk); (try clear hi); have hcz10_0 : w9.cell? ⟨gb291, 0, none⟩ = some (.int .u8 a0_0) := (blk_cell BK291.out 0).trans rfl; have hcz10_1 : w9.cell? ⟨gb291, 1, none⟩ = some (.int .i64 a0_1) := (blk_cell BK291.out 1).trans rfl; have hcz10_2 : w9.cell? ⟨gb291, 2, none⟩ = some (.int .i64 a0_2) := (blk_cell BK291.out 2).trans rfl; have hcz10_3 : w9.cell? ⟨gb291, 3, none⟩ = some (.int .i64 a0_3) := (blk_cell BK291.out 3).trans rfl; have hcz10_4 : w9.cell? ⟨gb291, 4, none⟩ = some (.int .i64 a0_4) := (blk_cell BK291.out 4).trans rfl; have hcz10_5 : w9.cell? ⟨gb291, 5, none⟩ = some (.int .i64 a0_5) := (blk_cell BK291.out 5).trans rfl; have hcz10_6 : w9.cell? ⟨gb291, 6, none⟩ = some (.slice A0_6 l0_6.length c0_6) := (blk_cell BK291.out 6).trans rfl; have hfz10_0 := blk_frozen BK291.out 0; have hfz10_1 := blk_frozen BK291.out 1; have hfz10_2 := blk_frozen BK291.out 2; have hfz10_3 := blk_frozen BK291.out 3; have hfz10_4 := blk_frozen BK291.out 4; have hfz10_5 := blk_frozen BK291.out 5; have hfz10_6 := blk_frozen BK291.out 6) | ((with_reducible refine gate_callee (f := 43) rfl ?_); refine goesL_ (some 16) rfl rfl Tryd.func43 (by kernel_rfl) rfl #[.int .i64 a0_5] rfl (by (try simp only [List.map_toArray, List.map_cons, List.map_nil]); first | done | rfl | (simp only [List.length_drop, List.length_take]; rfl)) ?_; (with_reducible refine (sashref01_Digits.calls k a0_5 t293 _ A5.out).mono ?_); rintro e w' ⟨rfl, ⟨nd, rfl⟩⟩; refine ⟨_, rfl, ?_⟩))
    go_ret
    exact ⟨by first | rfl | (simp [errW_none, errW_some] <;> rfl) | (simp [*, errW_none, errW_some] <;> rfl), by repeat (first | (with_reducible first | exact HB.out | apply below_alloc | apply pw_below_drewN | apply below_drew1 | refine below_set ?_ GE291.out) | exact HB.out)⟩
   ·rw [if_neg c6] at H
    exact absurd H (by simp)
  ·rw [if_neg c4] at H
   exact absurd H (by simp)
 ·rw [if_neg c3] at H
  have c3b0 : (a0_0 == 1) = false := beq_eq_false_iff_ne.mpr c3
  have c3b1 : (a0_0 != 1) = true := bne_iff_ne.mpr c3
  have H' := Aside0.mk H
  clear H
  go_enter Tryd.func21, Tryd.ntmps21
  go_wp2_with (first | ((with_reducible refine gate_dst (N := 1) rfl ?_); refine box_event ?hg (N := 1) ?hd (cs := #[.int .u8 a0_0, .int .i64 a0_1, .int .i64 a0_2, .int .i64 a0_3, .int .i64 a0_4, .int .i64 a0_5, .slice A0_6 l0_6.length c0_6]) (t := 26) ?hr ?_; (case hd => rfl); (case hg => rfl); (case hr => first | (go_simp; done) | (go_simp; rfl)); intro gb291 hg w11 hbox hb; have n0_ := Aside0.mk (below_step (by repeat (first | (with_reducible first | exact HB.out | apply below_alloc | apply pw_below_drewN | apply below_drew1) | exact HB.out)) hb); have n1_ := Aside0.mk (hbox); have n2_ := Aside0.mk ((by rw [hg]; exact (below_size (by repeat (first | (with_reducible first | exact HB.out | apply below_alloc | apply pw_below_drewN | apply below_drew1) | exact HB.out))) : w.heap.size ≤ gb291)); have n3_ := Aside0.mk ((by rw [hg]; exact (below_size (by repeat (first | (with_reducible first | exact HB.out | apply below_alloc | apply pw_below_drewN | apply below_drew1) | exact HB.out))) : w.heap.size ≤ gb291)); clear HB; have HB := n0_; have BK291 := n1_; have GW291 := n2_; have GE291 := n3_; clear n0_ n1_ n2_ n3_; clear hb hbox hg; have hcz12_0 : w11.cell? ⟨gb291, 0, none⟩ = some (.int .u8 a0_0) := (blk_cell BK291.out 0).trans rfl; have hcz12_1 : w11.cell? ⟨gb291, 1, none⟩ = some (.int .i64 a0_1) := (blk_cell BK291.out 1).trans rfl; have hcz12_2 : w11.cell? ⟨gb291, 2, none⟩ = some (.int .i64 a0_2) := (blk_cell BK291.out 2).trans rfl; have hcz12_3 : w11.cell? ⟨gb291, 3, none⟩ = some (.int .i64 a0_3) := (blk_cell BK291.out 3).trans rfl; have hcz12_4 : w11.cell? ⟨gb291, 4, none⟩ = some (.int .i64 a0_4) := (blk_cell BK291.out 4).trans rfl; have hcz12_5 : w11.cell? ⟨gb291, 5, none⟩ = some (.int .i64 a0_5) := (blk_cell BK291.out 5).trans rfl; have hcz12_6 : w11.cell? ⟨gb291, 6, none⟩ = some (.slice A0_6 l0_6.length c0_6) := (blk_cell BK291.out 6).trans rfl; have hfz12_0 := blk_frozen BK291.out 0; have hfz12_1 := blk_frozen BK291.out 1; have hfz12_2 := blk_frozen BK291.out 2; have hfz12_3 := blk_frozen BK291.out 3; have hfz12_4 := blk_frozen BK291.out 4; have hfz12_5 := blk_frozen BK291.out 5; have hfz12_6 := blk_frozen BK291.out 6) | ((with_reducible refine gate_callee (f := 23) rfl ?_); refine goesL_ (some 8) rfl rfl Tryd.func23 (by kernel_rfl) rfl #[.agg #[.int .i64 a0_1, .int .i64 a0_2, .int .i64 a0_3, .int .i64 a0_4]] rfl (by (try simp only [List.map_toArray, List.map_cons, List.map_nil]); first | done | rfl | (simp only [List.length_drop, List.length_take]; rfl)) ?_; (with_reducible refine (sashref10_Head.calls k a0_1 a0_2 a0_3 a0_4 t292 _ A2.out).mono ?_); rintro e w13 ⟨rfl, hb⟩; refine ⟨_, rfl, ?_⟩; have n0_ := Aside0.mk (blk_below (g := gb291) (o := .cells #[.int .u8 a0_0, .int .i64 a0_1, .int .i64 a0_2, .int .i64 a0_3, .int .i64 a0_4, .int .i64 a0_5, .slice A0_6 l0_6.length c0_6] 26 (0, 0)) (by (with_reducible repeat (first | refine blk_drewN ?_ _ | refine blk_drew ?_ | refine blk_alloc ?_ _)); exact BK291.out) hb); have n1_ := Aside0.mk (below_step (by repeat (first | (with_reducible first | exact HB.out | apply below_alloc | apply pw_below_drewN | apply below_drew1 | refine below_set ?_ GE291.out) | exact HB.out)) hb); clear BK291; clear HB; have BK291 := n0_; have HB := n1_; clear n0_ n1_; (try clear hb); (try clear hb2); (try clear hk); (try clear hi); have hcz14_0 : w13.cell? ⟨gb291, 0, none⟩ = some (.int .u8 a0_0) := (blk_cell BK291.out 0).trans rfl; have hcz14_1 : w13.cell? ⟨gb291, 1, none⟩ = some (.int .i64 a0_1) := (blk_cell BK291.out 1).trans rfl; have hcz14_2 : w13.cell? ⟨gb291, 2, none⟩ = some (.int .i64 a0_2) := (blk_cell BK291.out 2).trans rfl; have hcz14_3 : w13.cell? ⟨gb291, 3, none⟩ = some (.int .i64 a0_3) := (blk_cell BK291.out 3).trans rfl; have hcz14_4 : w13.cell? ⟨gb291, 4, none⟩ = some (.int .i64 a0_4) := (blk_cell BK291.out 4).trans rfl; have hcz14_5 : w13.cell? ⟨gb291, 5, none⟩ = some (.int .i64 a0_5) := (blk_cell BK291.out 5).trans rfl; have hcz14_6 : w13.cell? ⟨gb291, 6, none⟩ = some (.slice A0_6 l0_6.length c0_6) := (blk_cell BK291.out 6).trans rfl; have hfz14_0 := blk_frozen BK291.out 0; have hfz14_1 := blk_frozen BK291.out 1; have hfz14_2 := blk_frozen BK291.out 2; have hfz14_3 := blk_frozen BK291.out 3; have hfz14_4 := blk_frozen BK291.out 4; have hfz14_5 := blk_frozen BK291.out 5; have hfz14_6 := blk_frozen BK291.out 6))
  go_loopg [4, 21] k (fun kq v4 v21 w' => ∃ (x4_1 : ByteArray) (x21_1 : Int), v4 = .string x4_1 ∧ v21 = .int .i64 x21_1 ∧ Aside0 (sashref10_Body.l0 kq t292 x4_1 (l0_6.length : Int) x21_1 a0_0 a0_1 a0_2 a0_3 a0_4 a0_5 l0_6 = some r) ∧ Aside0 (kq ≤ k) ∧ Aside0 (w'.heap[gb291]? = some (.cells #[.int .u8 a0_0, .int .i64 a0_1, .int .i64 a0_2, .int .i64 a0_3, .int .i64 a0_4, .int .i64 a0_5, (.slice A0_6 l0_6.length c0_6)] 26 (0, 0))) ∧ Aside0 (Below w.heap.size w w'))
  case atStart => exact ⟨((⟨#[]⟩ : ByteArray)), (0), (by first | rfl | (simp; done) | (simp [*]; done)), (by first | rfl | (simp; done) | (simp [*]; done)), H', ⟨Nat.le_refl _⟩, ⟨by (with_reducible repeat (first | refine blk_drewN ?_ _ | refine blk_drew ?_ | refine blk_alloc ?_ _)); exact BK291.out⟩, ⟨by repeat (first | (with_reducible first | exact HB.out | apply below_alloc | apply pw_below_drewN | apply below_drew1 | refine below_set ?_ GE291.out) | exact HB.out)⟩⟩
  case round =>
   clear H'
   try clear c2
   try clear p2
   try clear c3
   try clear c3b0
   try clear c3b1
   try clear c4
   try clear c4b0
   try clear c4b1
   try clear c4b2
   try clear c6
   try clear c6b0
   try clear c6b1
   try clear c6b2
   try clear hcz10_0
   try clear hcz10_1
   try clear hcz10_2
   try clear hcz10_3
   try clear hcz10_4
   try clear hcz10_5
   try clear hcz10_6
   try clear hcz12_0
   try clear hcz12_1
   try clear hcz12_2
   try clear hcz12_3
   try clear hcz12_4
   try clear hcz12_5
   try clear hcz12_6
   try clear hcz14_0
   try clear hcz14_1
   try clear hcz14_2
   try clear hcz14_3
   try clear hcz14_4
   try clear hcz14_5
   try clear hcz14_6
   try clear hcz8_0
   try clear hcz8_1
   try clear hcz8_2
   try clear hcz8_3
   try clear hcz8_4
   try clear hcz8_5
   try clear hcz8_6
   try clear hfz10_0
   try clear hfz10_1
   try clear hfz10_2
   try clear hfz10_3
   try clear hfz10_4
   try clear hfz10_5
   try clear hfz10_6
   try clear hfz12_0
   try clear hfz12_1
   try clear hfz12_2
   try clear hfz12_3
   try clear hfz12_4
   try clear hfz12_5
   try clear hfz12_6
   try clear hfz14_0
   try clear hfz14_1
   try clear hfz14_2
   try clear hfz14_3
   try clear hfz14_4
   try clear hfz14_5
   try clear hfz14_6
   try clear hfz8_0
   try clear hfz8_1
   try clear hfz8_2
   try clear hfz8_3
   try clear hfz8_4
   try clear hfz8_5
   try clear hfz8_6
   obtain ⟨x4_1, x21_1, rfl, rfl, HA, HK1, BK291, HB⟩ := hrel
   cases gk with
   | zero => exact absurd HA.out (by simp [sashref10_Body.l0])
   | succ k1 =>
    have H := HA.out
    clear HA
    simp only [sashref10_Body.l0] at H
    by_cases c15 : x21_1 < (l0_6.length : Int)
    ·rw [if_pos c15] at H
     have c15b0 : decide (x21_1 < (l0_6.length : Int)) = true := decide_eq_true c15
     clear c15
     by_cases c16 : x21_1 > 0
     ·rw [if_pos c16] at H
      have c16b0 : decide (0 < x21_1) = true := decide_eq_true c16
      clear c16
      by_cases c17 : x4_1.size + 1 ≤ 9223372036854775807
      ·rw [if_pos c17] at H
       have c17b0 := eq_true c17
       have c17b1 : decide (x4_1.size + 1 ≤ 9223372036854775807) = true := decide_eq_true c17
       try have c17b2 : (9223372036854775807 < x4_1.size + 1) = False := eq_false (Nat.not_lt.2 c17)
       try (have c17s := c17; simp only [ByteArray.size_append, (show (⟨#[123]⟩ : ByteArray).size = 1 from rfl), (show (⟨#[125]⟩ : ByteArray).size = 1 from rfl), (show (⟨#[44]⟩ : ByteArray).size = 1 from rfl), (show (⟨#[91]⟩ : ByteArray).size = 1 from rfl), (show (⟨#[93]⟩ : ByteArray).size = 1 from rfl)] at c17s; have c17s1 := decide_eq_true c17s; have c17s2 := eq_false (Nat.not_lt.2 c17s); have c17s3 := eq_true c17s)
       by_cases c18 : 0 ≤ x21_1
       ·rw [if_pos c18] at H
        have c18b0 : decide (0 ≤ x21_1) = true := decide_eq_true c18
        clear c18
        by_cases c19 : x21_1 < (l0_6.length : Int)
        ·rw [if_pos c19] at H
         have c19b0 : decide (x21_1 < (l0_6.length : Int)) = true := decide_eq_true c19
         clear c19
         replace H := Option.bind_eq_some_iff.mp H
         obtain ⟨t295, A200, H⟩ := H
         replace H : (if (x4_1 ++ (⟨#[44]⟩ : ByteArray)).size + t295.size ≤ 9223372036854775807 then (sashref10_Body.l0 k1 t292 ((x4_1 ++ (⟨#[44]⟩ : ByteArray)) ++ t295) (l0_6.length : Int) (wrap64 (x21_1 + 1)) a0_0 a0_1 a0_2 a0_3 a0_4 a0_5 l0_6) else (none)) = some r := H
         have A20 := Aside0.mk A200
         clear A200
         by_cases c21 : (x4_1 ++ (⟨#[44]⟩ : ByteArray)).size + t295.size ≤ 9223372036854775807
         ·rw [if_pos c21] at H
          have c21b0 := eq_true c21
          have c21b1 : decide ((x4_1 ++ (⟨#[44]⟩ : ByteArray)).size + t295.size ≤ 9223372036854775807) = true := decide_eq_true c21
          try have c21b2 : (9223372036854775807 < (x4_1 ++ (⟨#[44]⟩ : ByteArray)).size + t295.size) = False := eq_false (Nat.not_lt.2 c21)
          try (have c21s := c21; simp only [ByteArray.size_append, (show (⟨#[123]⟩ : ByteArray).size = 1 from rfl), (show (⟨#[125]⟩ : ByteArray).size = 1 from rfl), (show (⟨#[44]⟩ : ByteArray).size = 1 from rfl), (show (⟨#[91]⟩ : ByteArray).size = 1 from rfl), (show (⟨#[93]⟩ : ByteArray).size = 1 from rfl)] at c21s; have c21s1 := decide_eq_true c21s; have c21s2 := eq_false (Nat.not_lt.2 c21s); have c21s3 := eq_true c21s)
          have H' := Aside0.mk H
          clear H
          have hcz22_0 : wr.cell? ⟨gb291, 0, none⟩ = some (.int .u8 a0_0) := (blk_cell BK291.out 0).trans rfl
          have hcz22_1 : wr.cell? ⟨gb291, 1, none⟩ = some (.int .i64 a0_1) := (blk_cell BK291.out 1).trans rfl
          have hcz22_2 : wr.cell? ⟨gb291, 2, none⟩ = some (.int .i64 a0_2) := (blk_cell BK291.out 2).trans rfl
          have hcz22_3 : wr.cell? ⟨gb291, 3, none⟩ = some (.int .i64 a0_3) := (blk_cell BK291.out 3).trans rfl
          have hcz22_4 : wr.cell? ⟨gb291, 4, none⟩ = some (.int .i64 a0_4) := (blk_cell BK291.out 4).trans rfl
          have hcz22_5 : wr.cell? ⟨gb291, 5, none⟩ = some (.int .i64 a0_5) := (blk_cell BK291.out 5).trans rfl
          have hcz22_6 : wr.cell? ⟨gb291, 6, none⟩ = some (.slice A0_6 l0_6.length c0_6) := (blk_cell BK291.out 6).trans rfl
          have hfz22_0 := blk_frozen BK291.out 0
          have hfz22_1 := blk_frozen BK291.out 1
          have hfz22_2 := blk_frozen BK291.out 2
          have hfz22_3 := blk_frozen BK291.out 3
          have hfz22_4 := blk_frozen BK291.out 4
          have hfz22_5 := blk_frozen BK291.out 5
          have hfz22_6 := blk_frozen BK291.out 6
          have p294 : 0 ≤ (x21_1 : Int) := of_decide_eq_true (by first | (with_reducible assumption) | assumption)
          have q294 : x21_1 < (l0_6.length : Int) := of_decide_eq_true (by first | (with_reducible assumption) | assumption)
          obtain ⟨ad294, A294_6, c294_6, e294, hx294_0, hx294_1, hx294_2, hx294_3, hx294_4, hx294_5, hx294_6, hl294_6, hi294_6⟩ := at_T26 HR0_6.out x21_1 p294 q294
          cases e294
          replace hx294_0 := (HB.out.cell (World.block_lt_of_cell? w _ hx294_0)).trans hx294_0
          replace hx294_1 := (HB.out.cell (World.block_lt_of_cell? w _ hx294_1)).trans hx294_1
          replace hx294_2 := (HB.out.cell (World.block_lt_of_cell? w _ hx294_2)).trans hx294_2
          replace hx294_3 := (HB.out.cell (World.block_lt_of_cell? w _ hx294_3)).trans hx294_3
          replace hx294_4 := (HB.out.cell (World.block_lt_of_cell? w _ hx294_4)).trans hx294_4
          replace hx294_5 := (HB.out.cell (World.block_lt_of_cell? w _ hx294_5)).trans hx294_5
          replace hx294_6 := (HB.out.cell (World.block_lt_of_cell? w _ hx294_6)).trans hx294_6
          have HR294_6 := Aside0.mk hi294_6
          have HC294_6 := Aside0.mk hl294_6
          clear hi294_6 hl294_6
          replace p294 := eq_true p294
          replace q294 := eq_true q294
          go_wp2_with (first | ((with_reducible refine gate_callee (f := 21) rfl ?_); refine goesL_ (some 34) rfl rfl Tryd.func21 (by kernel_rfl) rfl #[.agg #[.int .u8 ((rd_T26 l0_6 x21_1).f0), .int .i64 ((rd_T26 l0_6 x21_1).f1.f0), .int .i64 ((rd_T26 l0_6 x21_1).f1.f1), .int .i64 ((rd_T26 l0_6 x21_1).f1.f2), .int .i64 ((rd_T26 l0_6 x21_1).f1.f3), .int .i64 ((rd_T26 l0_6 x21_1).f2), .slice A294_6 ((rd_T26 l0_6 x21_1).f3).length c294_6]] rfl (by (try simp only [List.map_toArray, List.map_cons, List.map_nil]); first | done | rfl | (simp only [List.length_drop, List.length_take]; rfl)) ?_; (with_reducible refine (ih k1 (by have := HK1.out; omega) ((rd_T26 l0_6 x21_1).f0) ((rd_T26 l0_6 x21_1).f1.f0) ((rd_T26 l0_6 x21_1).f1.f1) ((rd_T26 l0_6 x21_1).f1.f2) ((rd_T26 l0_6 x21_1).f1.f3) ((rd_T26 l0_6 x21_1).f2) _ _ ((rd_T26 l0_6 x21_1).f3) t295 _ ?side1 ?side2 A20.out).mono ?_); (case side1 => repeat (first | exact (Kd.C_below HR294_6.out HB.out) | (with_reducible refine Kd.C_alloc ?_ _) | (with_reducible refine Kd.C_drewN ?_ _) | (with_reducible refine Kd.C_drew ?_))); (case side2 => exact HC294_6.out); rintro e w23 ⟨rfl, hb⟩; refine ⟨_, rfl, ?_⟩; have n0_ := Aside0.mk (blk_below (g := gb291) (o := .cells #[.int .u8 a0_0, .int .i64 a0_1, .int .i64 a0_2, .int .i64 a0_3, .int .i64 a0_4, .int .i64 a0_5, .slice (some ad294) l0_6.length c0_6] 26 (0, 0)) (by (with_reducible repeat (first | refine blk_drewN ?_ _ | refine blk_drew ?_ | refine blk_alloc ?_ _)); exact BK291.out) hb); have n1_ := Aside0.mk (below_step (by repeat (first | (with_reducible first | exact HB.out | apply below_alloc | apply pw_below_drewN | apply below_drew1 | refine below_set ?_ GE291.out) | exact HB.out)) hb); clear BK291; clear HB; have BK291 := n0_; have HB := n1_; clear n0_ n1_; (try clear hb); (try clear hb2); (try clear hk); (try clear hi)))
          go_roundg k1
          case measure => have := HK1.out; omega
          case rel => exact ⟨((x4_1 ++ (⟨#[44]⟩ : ByteArray)) ++ t295), (wrap64 (x21_1 + 1)), (by first | rfl | (simp; done) | (simp [*]; done)), (by first | rfl | (simp; done) | (simp [*]; done)), H', ⟨by have := HK1.out; omega⟩, ⟨by (with_reducible repeat (first | refine blk_drewN ?_ _ | refine blk_drew ?_ | refine blk_alloc ?_ _)); exact BK291.out⟩, ⟨by repeat (first | (with_reducible first | exact HB.out | apply below_alloc | apply pw_below_drewN | apply below_drew1 | refine below_set ?_ GE291.out) | exact HB.out)⟩⟩
         ·rw [if_neg c21] at H
          exact absurd H (by simp)
        ·rw [if_neg c19] at H
         exact absurd H (by simp)
       ·rw [if_neg c18] at H
        exact absurd H (by simp)
      ·rw [if_neg c17] at H
       exact absurd H (by simp)
     ·rw [if_neg c16] at H
      have c16b0 : decide (0 < x21_1) = false := decide_eq_false c16
      clear c16
      by_cases c24 : 0 ≤ x21_1
      ·rw [if_pos c24] at H
       have c24b0 : decide (0 ≤ x21_1) = true := decide_eq_true c24
       clear c24
       by_cases c25 : x21_1 < (l0_6.length : Int)
       ·rw [if_pos c25] at H
        have c25b0 : decide (x21_1 < (l0_6.length : Int)) = true := decide_eq_true c25
        clear c25
        replace H := Option.bind_eq_some_iff.mp H
        obtain ⟨t297, A260, H⟩ := H
        replace H : (if x4_1.size + t297.size ≤ 9223372036854775807 then (sashref10_Body.l0 k1 t292 (x4_1 ++ t297) (l0_6.length : Int) (wrap64 (x21_1 + 1)) a0_0 a0_1 a0_2 a0_3 a0_4 a0_5 l0_6) else (none)) = some r := H
        have A26 := Aside0.mk A260
        clear A260
        by_cases c27 : x4_1.size + t297.size ≤ 9223372036854775807
        ·rw [if_pos c27] at H
         have c27b0 := eq_true c27
         have c27b1 : decide (x4_1.size + t297.size ≤ 9223372036854775807) = true := decide_eq_true c27
         try have c27b2 : (9223372036854775807 < x4_1.size + t297.size) = False := eq_false (Nat.not_lt.2 c27)
         try (have c27s := c27; simp only [ByteArray.size_append, (show (⟨#[123]⟩ : ByteArray).size = 1 from rfl), (show (⟨#[125]⟩ : ByteArray).size = 1 from rfl), (show (⟨#[44]⟩ : ByteArray).size = 1 from rfl), (show (⟨#[91]⟩ : ByteArray).size = 1 from rfl), (show (⟨#[93]⟩ : ByteArray).size = 1 from rfl)] at c27s; have c27s1 := decide_eq_true c27s; have c27s2 := eq_false (Nat.not_lt.2 c27s); have c27s3 := eq_true c27s)
         have H' := Aside0.mk H
         clear H
         have hcz28_0 : wr.cell? ⟨gb291, 0, none⟩ = some (.int .u8 a0_0) := (blk_cell BK291.out 0).trans rfl
         have hcz28_1 : wr.cell? ⟨gb291, 1, none⟩ = some (.int .i64 a0_1) := (blk_cell BK291.out 1).trans rfl
         have hcz28_2 : wr.cell? ⟨gb291, 2, none⟩ = some (.int .i64 a0_2) := (blk_cell BK291.out 2).trans rfl
         have hcz28_3 : wr.cell? ⟨gb291, 3, none⟩ = some (.int .i64 a0_3) := (blk_cell BK291.out 3).trans rfl
         have hcz28_4 : wr.cell? ⟨gb291, 4, none⟩ = some (.int .i64 a0_4) := (blk_cell BK291.out 4).trans rfl
         have hcz28_5 : wr.cell? ⟨gb291, 5, none⟩ = some (.int .i64 a0_5) := (blk_cell BK291.out 5).trans rfl
         have hcz28_6 : wr.cell? ⟨gb291, 6, none⟩ = some (.slice A0_6 l0_6.length c0_6) := (blk_cell BK291.out 6).trans rfl
         have hfz28_0 := blk_frozen BK291.out 0
         have hfz28_1 := blk_frozen BK291.out 1
         have hfz28_2 := blk_frozen BK291.out 2
         have hfz28_3 := blk_frozen BK291.out 3
         have hfz28_4 := blk_frozen BK291.out 4
         have hfz28_5 := blk_frozen BK291.out 5
         have hfz28_6 := blk_frozen BK291.out 6
         have p296 : 0 ≤ (x21_1 : Int) := of_decide_eq_true (by first | (with_reducible assumption) | assumption)
         have q296 : x21_1 < (l0_6.length : Int) := of_decide_eq_true (by first | (with_reducible assumption) | assumption)
         obtain ⟨ad296, A296_6, c296_6, e296, hx296_0, hx296_1, hx296_2, hx296_3, hx296_4, hx296_5, hx296_6, hl296_6, hi296_6⟩ := at_T26 HR0_6.out x21_1 p296 q296
         cases e296
         replace hx296_0 := (HB.out.cell (World.block_lt_of_cell? w _ hx296_0)).trans hx296_0
         replace hx296_1 := (HB.out.cell (World.block_lt_of_cell? w _ hx296_1)).trans hx296_1
         replace hx296_2 := (HB.out.cell (World.block_lt_of_cell? w _ hx296_2)).trans hx296_2
         replace hx296_3 := (HB.out.cell (World.block_lt_of_cell? w _ hx296_3)).trans hx296_3
         replace hx296_4 := (HB.out.cell (World.block_lt_of_cell? w _ hx296_4)).trans hx296_4
         replace hx296_5 := (HB.out.cell (World.block_lt_of_cell? w _ hx296_5)).trans hx296_5
         replace hx296_6 := (HB.out.cell (World.block_lt_of_cell? w _ hx296_6)).trans hx296_6
         have HR296_6 := Aside0.mk hi296_6
         have HC296_6 := Aside0.mk hl296_6
         clear hi296_6 hl296_6
         replace p296 := eq_true p296
         replace q296 := eq_true q296
         go_wp2_with (first | ((with_reducible refine gate_callee (f := 21) rfl ?_); refine goesL_ (some 34) rfl rfl Tryd.func21 (by kernel_rfl) rfl #[.agg #[.int .u8 ((rd_T26 l0_6 x21_1).f0), .int .i64 ((rd_T26 l0_6 x21_1).f1.f0), .int .i64 ((rd_T26 l0_6 x21_1).f1.f1), .int .i64 ((rd_T26 l0_6 x21_1).f1.f2), .int .i64 ((rd_T26 l0_6 x21_1).f1.f3), .int .i64 ((rd_T26 l0_6 x21_1).f2), .slice A296_6 ((rd_T26 l0_6 x21_1).f3).length c296_6]] rfl (by (try simp only [List.map_toArray, List.map_cons, List.map_nil]); first | done | rfl | (simp only [List.length_drop, List.length_take]; rfl)) ?_; (with_reducible refine (ih k1 (by have := HK1.out; omega) ((rd_T26 l0_6 x21_1).f0) ((rd_T26 l0_6 x21_1).f1.f0) ((rd_T26 l0_6 x21_1).f1.f1) ((rd_T26 l0_6 x21_1).f1.f2) ((rd_T26 l0_6 x21_1).f1.f3) ((rd_T26 l0_6 x21_1).f2) _ _ ((rd_T26 l0_6 x21_1).f3) t297 _ ?side1 ?side2 A26.out).mono ?_); (case side1 => repeat (first | exact (Kd.C_below HR296_6.out HB.out) | (with_reducible refine Kd.C_alloc ?_ _) | (with_reducible refine Kd.C_drewN ?_ _) | (with_reducible refine Kd.C_drew ?_))); (case side2 => exact HC296_6.out); rintro e w29 ⟨rfl, hb⟩; refine ⟨_, rfl, ?_⟩; have n0_ := Aside0.mk (blk_below (g := gb291) (o := .cells #[.int .u8 a0_0, .int .i64 a0_1, .int .i64 a0_2, .int .i64 a0_3, .int .i64 a0_4, .int .i64 a0_5, .slice (some ad296) l0_6.length c0_6] 26 (0, 0)) (by (with_reducible repeat (first | refine blk_drewN ?_ _ | refine blk_drew ?_ | refine blk_alloc ?_ _)); exact BK291.out) hb); have n1_ := Aside0.mk (below_step (by repeat (first | (with_reducible first | exact HB.out | apply below_alloc | apply pw_below_drewN | apply below_drew1 | refine below_set ?_ GE291.out) | exact HB.out)) hb); clear BK291; clear HB; have BK291 := n0_; have HB := n1_; clear n0_ n1_; (try clear hb); (try clear hb2); (try clear hk); (try clear hi)))
         go_roundg k1
         case measure => have := HK1.out; omega
         case rel => exact ⟨(x4_1 ++ t297), (wrap64 (x21_1 + 1)), (by first | rfl | (simp; done) | (simp [*]; done)), (by first | rfl | (simp; done) | (simp [*]; done)), H', ⟨by have := HK1.out; omega⟩, ⟨by (with_reducible repeat (first | refine blk_drewN ?_ _ | refine blk_drew ?_ | refine blk_alloc ?_ _)); exact BK291.out⟩, ⟨by repeat (first | (with_reducible first | exact HB.out | apply below_alloc | apply pw_below_drewN | apply below_drew1 | refine below_set ?_ GE291.out) | exact HB.out)⟩⟩
        ·rw [if_neg c27] at H
         exact absurd H (by simp)
       ·rw [if_neg c25] at H
        exact absurd H (by simp)
      ·rw [if_neg c24] at H
       exact absurd H (by simp)
    ·rw [if_neg c15] at H
     have c15b0 : decide (x21_1 < (l0_6.length : Int)) = false := decide_eq_false c15
     clear c15
     by_cases c30 : a0_0 = 2
     ·rw [if_pos c30] at H
      have c30b0 : (a0_0 == 2) = true := beq_iff_eq.mpr c30
      have c30b1 : (a0_0 != 2) = false := bne_eq_false_iff_eq.mpr c30
      clear c30
      by_cases c31 : t292.size + 1 ≤ 9223372036854775807
      ·rw [if_pos c31] at H
       have c31b0 := eq_true c31
       have c31b1 : decide (t292.size + 1 ≤ 9223372036854775807) = true := decide_eq_true c31
       try have c31b2 : (9223372036854775807 < t292.size + 1) = False := eq_false (Nat.not_lt.2 c31)
       try (have c31s := c31; simp only [ByteArray.size_append, (show (⟨#[123]⟩ : ByteArray).size = 1 from rfl), (show (⟨#[125]⟩ : ByteArray).size = 1 from rfl), (show (⟨#[44]⟩ : ByteArray).size = 1 from rfl), (show (⟨#[91]⟩ : ByteArray).size = 1 from rfl), (show (⟨#[93]⟩ : ByteArray).size = 1 from rfl)] at c31s; have c31s1 := decide_eq_true c31s; have c31s2 := eq_false (Nat.not_lt.2 c31s); have c31s3 := eq_true c31s)
       by_cases c32 : (t292 ++ (⟨#[123]⟩ : ByteArray)).size + x4_1.size ≤ 9223372036854775807
       ·rw [if_pos c32] at H
        have c32b0 := eq_true c32
        have c32b1 : decide ((t292 ++ (⟨#[123]⟩ : ByteArray)).size + x4_1.size ≤ 9223372036854775807) = true := decide_eq_true c32
        try have c32b2 : (9223372036854775807 < (t292 ++ (⟨#[123]⟩ : ByteArray)).size + x4_1.size) = False := eq_false (Nat.not_lt.2 c32)
        try (have c32s := c32; simp only [ByteArray.size_append, (show (⟨#[123]⟩ : ByteArray).size = 1 from rfl), (show (⟨#[125]⟩ : ByteArray).size = 1 from rfl), (show (⟨#[44]⟩ : ByteArray).size = 1 from rfl), (show (⟨#[91]⟩ : ByteArray).size = 1 from rfl), (show (⟨#[93]⟩ : ByteArray).size = 1 from rfl)] at c32s; have c32s1 := decide_eq_true c32s; have c32s2 := eq_false (Nat.not_lt.2 c32s); have c32s3 := eq_true c32s)
        by_cases c33 : ((t292 ++ (⟨#[123]⟩ : ByteArray)) ++ x4_1).size + 1 ≤ 9223372036854775807
        ·rw [if_pos c33] at H
         have c33b0 := eq_true c33
         have c33b1 : decide (((t292 ++ (⟨#[123]⟩ : ByteArray)) ++ x4_1).size + 1 ≤ 9223372036854775807) = true := decide_eq_true c33
         try have c33b2 : (9223372036854775807 < ((t292 ++ (⟨#[123]⟩ : ByteArray)) ++ x4_1).size + 1) = False := eq_false (Nat.not_lt.2 c33)
         try (have c33s := c33; simp only [ByteArray.size_append, (show (⟨#[123]⟩ : ByteArray).size = 1 from rfl), (show (⟨#[125]⟩ : ByteArray).size = 1 from rfl), (show (⟨#[44]⟩ : ByteArray).size = 1 from rfl), (show (⟨#[91]⟩ : ByteArray).size = 1 from rfl), (show (⟨#[93]⟩ : ByteArray).size = 1 from rfl)] at c33s; have c33s1 := decide_eq_true c33s; have c33s2 := eq_false (Nat.not_lt.2 c33s); have c33s3 := eq_true c33s)
         obtain rfl := Option.some.inj H
         have hcz34_0 : wr.cell? ⟨gb291, 0, none⟩ = some (.int .u8 a0_0) := (blk_cell BK291.out 0).trans rfl
         have hcz34_1 : wr.cell? ⟨gb291, 1, none⟩ = some (.int .i64 a0_1) := (blk_cell BK291.out 1).trans rfl
         have hcz34_2 : wr.cell? ⟨gb291, 2, none⟩ = some (.int .i64 a0_2) := (blk_cell BK291.out 2).trans rfl
         have hcz34_3 : wr.cell? ⟨gb291, 3, none⟩ = some (.int .i64 a0_3) := (blk_cell BK291.out 3).trans rfl
         have hcz34_4 : wr.cell? ⟨gb291, 4, none⟩ = some (.int .i64 a0_4) := (blk_cell BK291.out 4).trans rfl
         have hcz34_5 : wr.cell? ⟨gb291, 5, none⟩ = some (.int .i64 a0_5) := (blk_cell BK291.out 5).trans rfl
         have hcz34_6 : wr.cell? ⟨gb291, 6, none⟩ = some (.slice A0_6 l0_6.length c0_6) := (blk_cell BK291.out 6).trans rfl
         have hfz34_0 := blk_frozen BK291.out 0
         have hfz34_1 := blk_frozen BK291.out 1
         have hfz34_2 := blk_frozen BK291.out 2
         have hfz34_3 := blk_frozen BK291.out 3
         have hfz34_4 := blk_frozen BK291.out 4
         have hfz34_5 := blk_frozen BK291.out 5
         have hfz34_6 := blk_frozen BK291.out 6
         go_wp2
         go_ret
         exact ⟨by first | rfl | (simp [errW_none, errW_some] <;> rfl) | (simp [*, errW_none, errW_some] <;> rfl), by repeat (first | (with_reducible first | exact HB.out | apply below_alloc | apply pw_below_drewN | apply below_drew1 | refine below_set ?_ GE291.out) | exact HB.out)⟩
        ·rw [if_neg c33] at H
         exact absurd H (by simp)
       ·rw [if_neg c32] at H
        exact absurd H (by simp)
      ·rw [if_neg c31] at H
       exact absurd H (by simp)
     ·rw [if_neg c30] at H
      have c30b0 : (a0_0 == 2) = false := beq_eq_false_iff_ne.mpr c30
      have c30b1 : (a0_0 != 2) = true := bne_iff_ne.mpr c30
      by_cases c35 : t292.size + 1 ≤ 9223372036854775807
      ·rw [if_pos c35] at H
       have c35b0 := eq_true c35
       have c35b1 : decide (t292.size + 1 ≤ 9223372036854775807) = true := decide_eq_true c35
       try have c35b2 : (9223372036854775807 < t292.size + 1) = False := eq_false (Nat.not_lt.2 c35)
       try (have c35s := c35; simp only [ByteArray.size_append, (show (⟨#[123]⟩ : ByteArray).size = 1 from rfl), (show (⟨#[125]⟩ : ByteArray).size = 1 from rfl), (show (⟨#[44]⟩ : ByteArray).size = 1 from rfl), (show (⟨#[91]⟩ : ByteArray).size = 1 from rfl), (show (⟨#[93]⟩ : ByteArray).size = 1 from rfl)] at c35s; have c35s1 := decide_eq_true c35s; have c35s2 := eq_false (Nat.not_lt.2 c35s); have c35s3 := eq_true c35s)
       by_cases c36 : (t292 ++ (⟨#[91]⟩ : ByteArray)).size + x4_1.size ≤ 9223372036854775807
       ·rw [if_pos c36] at H
        have c36b0 := eq_true c36
        have c36b1 : decide ((t292 ++ (⟨#[91]⟩ : ByteArray)).size + x4_1.size ≤ 9223372036854775807) = true := decide_eq_true c36
        try have c36b2 : (9223372036854775807 < (t292 ++ (⟨#[91]⟩ : ByteArray)).size + x4_1.size) = False := eq_false (Nat.not_lt.2 c36)
        try (have c36s := c36; simp only [ByteArray.size_append, (show (⟨#[123]⟩ : ByteArray).size = 1 from rfl), (show (⟨#[125]⟩ : ByteArray).size = 1 from rfl), (show (⟨#[44]⟩ : ByteArray).size = 1 from rfl), (show (⟨#[91]⟩ : ByteArray).size = 1 from rfl), (show (⟨#[93]⟩ : ByteArray).size = 1 from rfl)] at c36s; have c36s1 := decide_eq_true c36s; have c36s2 := eq_false (Nat.not_lt.2 c36s); have c36s3 := eq_true c36s)
        by_cases c37 : ((t292 ++ (⟨#[91]⟩ : ByteArray)) ++ x4_1).size + 1 ≤ 9223372036854775807
        ·rw [if_pos c37] at H
         have c37b0 := eq_true c37
         have c37b1 : decide (((t292 ++ (⟨#[91]⟩ : ByteArray)) ++ x4_1).size + 1 ≤ 9223372036854775807) = true := decide_eq_true c37
         try have c37b2 : (9223372036854775807 < ((t292 ++ (⟨#[91]⟩ : ByteArray)) ++ x4_1).size + 1) = False := eq_false (Nat.not_lt.2 c37)
         try (have c37s := c37; simp only [ByteArray.size_append, (show (⟨#[123]⟩ : ByteArray).size = 1 from rfl), (show (⟨#[125]⟩ : ByteArray).size = 1 from rfl), (show (⟨#[44]⟩ : ByteArray).size = 1 from rfl), (show (⟨#[91]⟩ : ByteArray).size = 1 from rfl), (show (⟨#[93]⟩ : ByteArray).size = 1 from rfl)] at c37s; have c37s1 := decide_eq_true c37s; have c37s2 := eq_false (Nat.not_lt.2 c37s); have c37s3 := eq_true c37s)
         obtain rfl := Option.some.inj H
         have hcz38_0 : wr.cell? ⟨gb291, 0, none⟩ = some (.int .u8 a0_0) := (blk_cell BK291.out 0).trans rfl
         have hcz38_1 : wr.cell? ⟨gb291, 1, none⟩ = some (.int .i64 a0_1) := (blk_cell BK291.out 1).trans rfl
         have hcz38_2 : wr.cell? ⟨gb291, 2, none⟩ = some (.int .i64 a0_2) := (blk_cell BK291.out 2).trans rfl
         have hcz38_3 : wr.cell? ⟨gb291, 3, none⟩ = some (.int .i64 a0_3) := (blk_cell BK291.out 3).trans rfl
         have hcz38_4 : wr.cell? ⟨gb291, 4, none⟩ = some (.int .i64 a0_4) := (blk_cell BK291.out 4).trans rfl
         have hcz38_5 : wr.cell? ⟨gb291, 5, none⟩ = some (.int .i64 a0_5) := (blk_cell BK291.out 5).trans rfl
         have hcz38_6 : wr.cell? ⟨gb291, 6, none⟩ = some (.slice A0_6 l0_6.length c0_6) := (blk_cell BK291.out 6).trans rfl
         have hfz38_0 := blk_frozen BK291.out 0
         have hfz38_1 := blk_frozen BK291.out 1
         have hfz38_2 := blk_frozen BK291.out 2
         have hfz38_3 := blk_frozen BK291.out 3
         have hfz38_4 := blk_frozen BK291.out 4
         have hfz38_5 := blk_frozen BK291.out 5
         have hfz38_6 := blk_frozen BK291.out 6
         go_wp2
         go_ret
         exact ⟨by first | rfl | (simp [errW_none, errW_some] <;> rfl) | (simp [*, errW_none, errW_some] <;> rfl), by repeat (first | (with_reducible first | exact HB.out | apply below_alloc | apply pw_below_drewN | apply below_drew1 | refine below_set ?_ GE291.out) | exact HB.out)⟩
        ·rw [if_neg c37] at H
         exact absurd H (by simp)
       ·rw [if_neg c36] at H
        exact absurd H (by simp)
      ·rw [if_neg c35] at H
       exact absurd H (by simp)

def sashref01_Hex.f (a0 : Int) : Option (ByteArray) := (sashref01_Digit.f (wrap64 (Int.tdiv (wrap64 (a0)) 4096))).bind fun t298 => ((sashref01_Digit.f (Int.tmod (wrap64 (Int.tdiv (wrap64 (a0)) 256)) 16)).bind fun t299 => (if t298.size + t299.size ≤ 9223372036854775807 then ((sashref01_Digit.f (Int.tmod (wrap64 (Int.tdiv (wrap64 (a0)) 16)) 16)).bind fun t300 => (if (t298 ++ t299).size + t300.size ≤ 9223372036854775807 then ((sashref01_Digit.f (Int.tmod (wrap64 (a0)) 16)).bind fun t301 => (if ((t298 ++ t299) ++ t300).size + t301.size ≤ 9223372036854775807 then (some (((t298 ++ t299) ++ t300) ++ t301)) else (none))) else (none))) else (none)))
set_option maxHeartbeats 8000000 in
set_option maxRecDepth 100000 in
theorem sashref01_Hex.calls (a0 : Int) (r : ByteArray) (w : World) (h : sashref01_Hex.f a0 = some r) :
  Calls Tryd.prog 64 #[.int .u16 a0] w fun e w' => e = .returned (.string r) ∧ Drawn0 w w' := by
 have H : ((sashref01_Digit.f (wrap64 (Int.tdiv (wrap64 (a0)) 4096))).bind fun t298 => ((sashref01_Digit.f (Int.tmod (wrap64 (Int.tdiv (wrap64 (a0)) 256)) 16)).bind fun t299 => (if t298.size + t299.size ≤ 9223372036854775807 then ((sashref01_Digit.f (Int.tmod (wrap64 (Int.tdiv (wrap64 (a0)) 16)) 16)).bind fun t300 => (if (t298 ++ t299).size + t300.size ≤ 9223372036854775807 then ((sashref01_Digit.f (Int.tmod (wrap64 (a0)) 16)).bind fun t301 => (if ((t298 ++ t299) ++ t300).size + t301.size ≤ 9223372036854775807 then (some (((t298 ++ t299) ++ t300) ++ t301)) else (none))) else (none))) else (none)))) = some r := h
 clear h
 replace H := Option.bind_eq_some_iff.mp H
 obtain ⟨t298, A20, H⟩ := H
 replace H : ((sashref01_Digit.f (Int.tmod (wrap64 (Int.tdiv (wrap64 (a0)) 256)) 16)).bind fun t299 => (if t298.size + t299.size ≤ 9223372036854775807 then ((sashref01_Digit.f (Int.tmod (wrap64 (Int.tdiv (wrap64 (a0)) 16)) 16)).bind fun t300 => (if (t298 ++ t299).size + t300.size ≤ 9223372036854775807 then ((sashref01_Digit.f (Int.tmod (wrap64 (a0)) 16)).bind fun t301 => (if ((t298 ++ t299) ++ t300).size + t301.size ≤ 9223372036854775807 then (some (((t298 ++ t299) ++ t300) ++ t301)) else (none))) else (none))) else (none))) = some r := H
 have A2 := Aside0.mk A20
 clear A20
 replace H := Option.bind_eq_some_iff.mp H
 obtain ⟨t299, A30, H⟩ := H
 replace H : (if t298.size + t299.size ≤ 9223372036854775807 then ((sashref01_Digit.f (Int.tmod (wrap64 (Int.tdiv (wrap64 (a0)) 16)) 16)).bind fun t300 => (if (t298 ++ t299).size + t300.size ≤ 9223372036854775807 then ((sashref01_Digit.f (Int.tmod (wrap64 (a0)) 16)).bind fun t301 => (if ((t298 ++ t299) ++ t300).size + t301.size ≤ 9223372036854775807 then (some (((t298 ++ t299) ++ t300) ++ t301)) else (none))) else (none))) else (none)) = some r := H
 have A3 := Aside0.mk A30
 clear A30
 by_cases c4 : t298.size + t299.size ≤ 9223372036854775807
 ·rw [if_pos c4] at H
  have c4b0 := eq_true c4
  have c4b1 : decide (t298.size + t299.size ≤ 9223372036854775807) = true := decide_eq_true c4
  try have c4b2 : (9223372036854775807 < t298.size + t299.size) = False := eq_false (Nat.not_lt.2 c4)
  try (have c4s := c4; simp only [ByteArray.size_append, (show (⟨#[123]⟩ : ByteArray).size = 1 from rfl), (show (⟨#[125]⟩ : ByteArray).size = 1 from rfl), (show (⟨#[44]⟩ : ByteArray).size = 1 from rfl), (show (⟨#[91]⟩ : ByteArray).size = 1 from rfl), (show (⟨#[93]⟩ : ByteArray).size = 1 from rfl)] at c4s; have c4s1 := decide_eq_true c4s; have c4s2 := eq_false (Nat.not_lt.2 c4s); have c4s3 := eq_true c4s)
  replace H := Option.bind_eq_some_iff.mp H
  obtain ⟨t300, A50, H⟩ := H
  replace H : (if (t298 ++ t299).size + t300.size ≤ 9223372036854775807 then ((sashref01_Digit.f (Int.tmod (wrap64 (a0)) 16)).bind fun t301 => (if ((t298 ++ t299) ++ t300).size + t301.size ≤ 9223372036854775807 then (some (((t298 ++ t299) ++ t300) ++ t301)) else (none))) else (none)) = some r := H
  have A5 := Aside0.mk A50
  clear A50
  by_cases c6 : (t298 ++ t299).size + t300.size ≤ 9223372036854775807
  ·rw [if_pos c6] at H
   have c6b0 := eq_true c6
   have c6b1 : decide ((t298 ++ t299).size + t300.size ≤ 9223372036854775807) = true := decide_eq_true c6
   try have c6b2 : (9223372036854775807 < (t298 ++ t299).size + t300.size) = False := eq_false (Nat.not_lt.2 c6)
   try (have c6s := c6; simp only [ByteArray.size_append, (show (⟨#[123]⟩ : ByteArray).size = 1 from rfl), (show (⟨#[125]⟩ : ByteArray).size = 1 from rfl), (show (⟨#[44]⟩ : ByteArray).size = 1 from rfl), (show (⟨#[91]⟩ : ByteArray).size = 1 from rfl), (show (⟨#[93]⟩ : ByteArray).size = 1 from rfl)] at c6s; have c6s1 := decide_eq_true c6s; have c6s2 := eq_false (Nat.not_lt.2 c6s); have c6s3 := eq_true c6s)
   replace H := Option.bind_eq_some_iff.mp H
   obtain ⟨t301, A70, H⟩ := H
   replace H : (if ((t298 ++ t299) ++ t300).size + t301.size ≤ 9223372036854775807 then (some (((t298 ++ t299) ++ t300) ++ t301)) else (none)) = some r := H
   have A7 := Aside0.mk A70
   clear A70
   by_cases c8 : ((t298 ++ t299) ++ t300).size + t301.size ≤ 9223372036854775807
   ·rw [if_pos c8] at H
    have c8b0 := eq_true c8
    have c8b1 : decide (((t298 ++ t299) ++ t300).size + t301.size ≤ 9223372036854775807) = true := decide_eq_true c8
    try have c8b2 : (9223372036854775807 < ((t298 ++ t299) ++ t300).size + t301.size) = False := eq_false (Nat.not_lt.2 c8)
    try (have c8s := c8; simp only [ByteArray.size_append, (show (⟨#[123]⟩ : ByteArray).size = 1 from rfl), (show (⟨#[125]⟩ : ByteArray).size = 1 from rfl), (show (⟨#[44]⟩ : ByteArray).size = 1 from rfl), (show (⟨#[91]⟩ : ByteArray).size = 1 from rfl), (show (⟨#[93]⟩ : ByteArray).size = 1 from rfl)] at c8s; have c8s1 := decide_eq_true c8s; have c8s2 := eq_false (Nat.not_lt.2 c8s); have c8s3 := eq_true c8s)
    obtain rfl := Option.some.inj H
    go_enter Tryd.func64, Tryd.ntmps64
    go_wp2_with (first | ((with_reducible refine gate_callee (f := 68) rfl ?_); refine goesL_ (some 8) rfl rfl Tryd.func68 (by kernel_rfl) rfl #[.int .i64 (wrap64 (Int.tdiv (wrap64 (a0)) 4096))] rfl (by (try simp only [List.map_toArray, List.map_cons, List.map_nil]); first | done | rfl | (simp only [List.length_drop, List.length_take]; rfl)) ?_; (with_reducible refine (sashref01_Digit.calls (wrap64 (Int.tdiv (wrap64 (a0)) 4096)) t298 _ A2.out).mono ?_); rintro e w' ⟨rfl, ⟨nd, rfl⟩⟩; refine ⟨_, rfl, ?_⟩) | ((with_reducible refine gate_callee (f := 68) rfl ?_); refine goesL_ (some 12) rfl rfl Tryd.func68 (by kernel_rfl) rfl #[.int .i64 (Int.tmod (wrap64 (Int.tdiv (wrap64 (a0)) 256)) 16)] rfl (by (try simp only [List.map_toArray, List.map_cons, List.map_nil]); first | done | rfl | (simp only [List.length_drop, List.length_take]; rfl)) ?_; (with_reducible refine (sashref01_Digit.calls (Int.tmod (wrap64 (Int.tdiv (wrap64 (a0)) 256)) 16) t299 _ A3.out).mono ?_); rintro e w' ⟨rfl, ⟨nd, rfl⟩⟩; refine ⟨_, rfl, ?_⟩) | ((with_reducible refine gate_callee (f := 68) rfl ?_); refine goesL_ (some 17) rfl rfl Tryd.func68 (by kernel_rfl) rfl #[.int .i64 (Int.tmod (wrap64 (Int.tdiv (wrap64 (a0)) 16)) 16)] rfl (by (try simp only [List.map_toArray, List.map_cons, List.map_nil]); first | done | rfl | (simp only [List.length_drop, List.length_take]; rfl)) ?_; (with_reducible refine (sashref01_Digit.calls (Int.tmod (wrap64 (Int.tdiv (wrap64 (a0)) 16)) 16) t300 _ A5.out).mono ?_); rintro e w' ⟨rfl, ⟨nd, rfl⟩⟩; refine ⟨_, rfl, ?_⟩) | ((with_reducible refine gate_callee (f := 68) rfl ?_); refine goesL_ (some 21) rfl rfl Tryd.func68 (by kernel_rfl) rfl #[.int .i64 (Int.tmod (wrap64 (a0)) 16)] rfl (by (try simp only [List.map_toArray, List.map_cons, List.map_nil]); first | done | rfl | (simp only [List.length_drop, List.length_take]; rfl)) ?_; (with_reducible refine (sashref01_Digit.calls (Int.tmod (wrap64 (a0)) 16) t301 _ A7.out).mono ?_); rintro e w' ⟨rfl, ⟨nd, rfl⟩⟩; refine ⟨_, rfl, ?_⟩))
    go_ret
    exact ⟨by first | rfl | (simp; done) | (simp [*]; done), by repeat (first | exact Drawn0.refl _ | apply Drawn0.step)⟩
   ·rw [if_neg c8] at H
    exact absurd H (by simp)
  ·rw [if_neg c6] at H
   exact absurd H (by simp)
 ·rw [if_neg c4] at H
  exact absurd H (by simp)

def sashref02_From.l0 : Nat → ByteArray → Int → Int → Option (Int)
 | 0, _, _, _ => none
 | k + 1, x1, x5, x6 => if x6 < (x1.size : Int) then (if 0 ≤ x6 then (sashref02_From.l0 k x1 (Int.tmod (wrap64 ((wrap64 ((wrap64 (Int.tdiv x5 2)) + (wrap64 ((Int.tmod x5 2) * 32768)))) + (wrap64 (bt x1 x6)))) 65536) (wrap64 (x6 + 1))) else (none)) else (some (IntKind.u16.wrap (x5)))
def sashref02_From.f (k : Nat) (a0 : Int) (a1 : ByteArray) : Option (Int) := sashref02_From.l0 k a1 (wrap64 (a0)) 0
theorem sashref02_From.mono_l : ∀ k, (∀ y0 y1 y2, LeO (sashref02_From.l0 k y0 y1 y2) (sashref02_From.l0 (k + 1) y0 y1 y2))
 | 0 => fun _ _ _ r h => by simp [sashref02_From.l0] at h
 | k + 1 => by
  have ih0 := sashref02_From.mono_l k
  ·intro y0 y1 y2
   unfold sashref02_From.l0
   repeat' first
   | (with_reducible exact ih0 _ _ _)
   | (with_reducible exact LeO.refl _)
   | (with_reducible exact LeO.none _)
   | (with_reducible refine LeO.ite ?_ ?_)
   | (with_reducible refine LeO.bind ?_ (fun _ => ?_))
   | exact ih0 _ _ _
   | exact LeO.none _
   | refine LeO.ite ?_ ?_
   | refine LeO.bind ?_ (fun _ => ?_)
theorem sashref02_From.mono : ∀ a0 a1 k, LeO (sashref02_From.f k a0 a1) (sashref02_From.f (k + 1) a0 a1) := by
 intro a0 a1 k
 have ih0 := sashref02_From.mono_l k
 unfold sashref02_From.f
 repeat' first
   | (with_reducible exact ih0 _ _ _)
   | (with_reducible exact LeO.refl _)
   | (with_reducible exact LeO.none _)
   | (with_reducible refine LeO.ite ?_ ?_)
   | (with_reducible refine LeO.bind ?_ (fun _ => ?_))
   | exact ih0 _ _ _
   | exact LeO.none _
   | refine LeO.ite ?_ ?_
   | refine LeO.bind ?_ (fun _ => ?_)
set_option maxHeartbeats 8000000 in
set_option maxRecDepth 100000 in
theorem sashref02_From.calls (k : Nat) (a0 : Int) (a1 : ByteArray) (r : Int) (w : World) (h : sashref02_From.f k a0 a1 = some r) :
  Calls Tryd.prog 65 #[.int .u16 a0, .string a1] w fun e w' => e = .returned (.int .u16 r) ∧ Drawn0 w w' := by
 have H : (sashref02_From.l0 k a1 (wrap64 (a0)) 0) = some r := h
 clear h
 have H' := Aside0.mk H
 clear H
 go_enter Tryd.func65, Tryd.ntmps65
 go_wp2
 go_loopg [5, 6] k (fun kq v5 v6 w' => ∃ (x5_1 : Int) (x6_1 : Int), v5 = .int .i64 x5_1 ∧ v6 = .int .i64 x6_1 ∧ Aside0 (sashref02_From.l0 kq a1 x5_1 x6_1 = some r) ∧ Aside0 (kq ≤ k) ∧ Drawn0 w w')
 case atStart => exact ⟨(wrap64 (a0)), (0), (by first | rfl | (simp; done) | (simp [*]; done)), (by first | rfl | (simp; done) | (simp [*]; done)), H', ⟨Nat.le_refl _⟩, by repeat (first | exact Drawn0.refl _ | apply Drawn0.step)⟩
 case round =>
  clear H'
  try clear p2
  obtain ⟨x5_1, x6_1, rfl, rfl, HA, HK1, ⟨m1, rfl⟩⟩ := hrel
  cases gk with
  | zero => exact absurd HA.out (by simp [sashref02_From.l0])
  | succ k1 =>
   have H := HA.out
   clear HA
   simp only [sashref02_From.l0] at H
   by_cases c3 : x6_1 < (a1.size : Int)
   ·rw [if_pos c3] at H
    have c3b0 : decide (x6_1 < (a1.size : Int)) = true := decide_eq_true c3
    clear c3
    by_cases c4 : 0 ≤ x6_1
    ·rw [if_pos c4] at H
     have c4b0 : decide (0 ≤ x6_1) = true := decide_eq_true c4
     clear c4
     have H' := Aside0.mk H
     clear H
     have p5 : 0 ≤ (x6_1 : Int) := of_decide_eq_true (by first | (with_reducible assumption) | assumption)
     have q5 : x6_1 < (a1.size : Int) := of_decide_eq_true (by first | (with_reducible assumption) | assumption)
     have hx5 := bt_at a1 x6_1
     replace p5 := eq_true p5
     replace q5 := eq_true q5
     go_wp2
     go_roundg k1
     case measure => have := HK1.out; omega
     case rel => exact ⟨(Int.tmod (wrap64 ((wrap64 ((wrap64 (Int.tdiv x5_1 2)) + (wrap64 ((Int.tmod x5_1 2) * 32768)))) + (wrap64 (bt a1 x6_1)))) 65536), (wrap64 (x6_1 + 1)), (by first | rfl | (simp; done) | (simp [*]; done)), (by first | rfl | (simp; done) | (simp [*]; done)), H', ⟨by have := HK1.out; omega⟩, by repeat (first | exact Drawn0.refl _ | apply Drawn0.step)⟩
    ·rw [if_neg c4] at H
     exact absurd H (by simp)
   ·rw [if_neg c3] at H
    have c3b0 : decide (x6_1 < (a1.size : Int)) = false := decide_eq_false c3
    clear c3
    obtain rfl := Option.some.inj H
    go_wp2
    go_ret
    exact ⟨by first | rfl | (simp; done) | (simp [*]; done), by repeat (first | exact Drawn0.refl _ | apply Drawn0.step)⟩

def sashref02_Put.f (k : Nat) (a0 : ByteArray) : Option (ByteArray) := (sashref02_From.f k 0 a0).bind fun t302 => ((sashref01_Hex.f t302).bind fun t303 => (if t303.size + 1 ≤ 9223372036854775807 then (if (t303 ++ (⟨#[44]⟩ : ByteArray)).size + a0.size ≤ 9223372036854775807 then (some ((t303 ++ (⟨#[44]⟩ : ByteArray)) ++ a0)) else (none)) else (none)))
theorem sashref02_Put.mono : ∀ a0 k, LeO (sashref02_Put.f k a0) (sashref02_Put.f (k + 1) a0) := by
 intro a0 k
 unfold sashref02_Put.f
 repeat' first
   | (with_reducible exact sashref02_From.mono _ _ _)
   | (with_reducible exact LeO.refl _)
   | (with_reducible exact LeO.none _)
   | (with_reducible refine LeO.ite ?_ ?_)
   | (with_reducible refine LeO.bind ?_ (fun _ => ?_))
   | exact sashref02_From.mono _ _ _
   | exact LeO.none _
   | refine LeO.ite ?_ ?_
   | refine LeO.bind ?_ (fun _ => ?_)
set_option maxHeartbeats 8000000 in
set_option maxRecDepth 100000 in
theorem sashref02_Put.calls (k : Nat) (a0 : ByteArray) (r : ByteArray) (w : World) (h : sashref02_Put.f k a0 = some r) :
  Calls Tryd.prog 39 #[.string a0] w fun e w' => e = .returned (.string r) ∧ Drawn0 w w' := by
 have H : ((sashref02_From.f k 0 a0).bind fun t302 => ((sashref01_Hex.f t302).bind fun t303 => (if t303.size + 1 ≤ 9223372036854775807 then (if (t303 ++ (⟨#[44]⟩ : ByteArray)).size + a0.size ≤ 9223372036854775807 then (some ((t303 ++ (⟨#[44]⟩ : ByteArray)) ++ a0)) else (none)) else (none)))) = some r := h
 clear h
 replace H := Option.bind_eq_some_iff.mp H
 obtain ⟨t302, A20, H⟩ := H
 replace H : ((sashref01_Hex.f t302).bind fun t303 => (if t303.size + 1 ≤ 9223372036854775807 then (if (t303 ++ (⟨#[44]⟩ : ByteArray)).size + a0.size ≤ 9223372036854775807 then (some ((t303 ++ (⟨#[44]⟩ : ByteArray)) ++ a0)) else (none)) else (none))) = some r := H
 have A2 := Aside0.mk A20
 clear A20
 replace H := Option.bind_eq_some_iff.mp H
 obtain ⟨t303, A30, H⟩ := H
 replace H : (if t303.size + 1 ≤ 9223372036854775807 then (if (t303 ++ (⟨#[44]⟩ : ByteArray)).size + a0.size ≤ 9223372036854775807 then (some ((t303 ++ (⟨#[44]⟩ : ByteArray)) ++ a0)) else (none)) else (none)) = some r := H
 have A3 := Aside0.mk A30
 clear A30
 by_cases c4 : t303.size + 1 ≤ 9223372036854775807
 ·rw [if_pos c4] at H
  have c4b0 := eq_true c4
  have c4b1 : decide (t303.size + 1 ≤ 9223372036854775807) = true := decide_eq_true c4
  try have c4b2 : (9223372036854775807 < t303.size + 1) = False := eq_false (Nat.not_lt.2 c4)
  try (have c4s := c4; simp only [ByteArray.size_append, (show (⟨#[123]⟩ : ByteArray).size = 1 from rfl), (show (⟨#[125]⟩ : ByteArray).size = 1 from rfl), (show (⟨#[44]⟩ : ByteArray).size = 1 from rfl), (show (⟨#[91]⟩ : ByteArray).size = 1 from rfl), (show (⟨#[93]⟩ : ByteArray).size = 1 from rfl)] at c4s; have c4s1 := decide_eq_true c4s; have c4s2 := eq_false (Nat.not_lt.2 c4s); have c4s3 := eq_true c4s)
  by_cases c5 : (t303 ++ (⟨#[44]⟩ : ByteArray)).size + a0.size ≤ 9223372036854775807
  ·rw [if_pos c5] at H
   have c5b0 := eq_true c5
   have c5b1 : decide ((t303 ++ (⟨#[44]⟩ : ByteArray)).size + a0.size ≤ 9223372036854775807) = true := decide_eq_true c5
   try have c5b2 : (9223372036854775807 < (t303 ++ (⟨#[44]⟩ : ByteArray)).size + a0.size) = False := eq_false (Nat.not_lt.2 c5)
   try (have c5s := c5; simp only [ByteArray.size_append, (show (⟨#[123]⟩ : ByteArray).size = 1 from rfl), (show (⟨#[125]⟩ : ByteArray).size = 1 from rfl), (show (⟨#[44]⟩ : ByteArray).size = 1 from rfl), (show (⟨#[91]⟩ : ByteArray).size = 1 from rfl), (show (⟨#[93]⟩ : ByteArray).size = 1 from rfl)] at c5s; have c5s1 := decide_eq_true c5s; have c5s2 := eq_false (Nat.not_lt.2 c5s); have c5s3 := eq_true c5s)
   obtain rfl := Option.some.inj H
   go_enter Tryd.func39, Tryd.ntmps39
   go_wp2_with (first | ((with_reducible refine gate_callee (f := 65) rfl ?_); refine goesL_ (some 4) rfl rfl Tryd.func65 (by kernel_rfl) rfl #[.int .u16 0, .string a0] rfl (by (try simp only [List.map_toArray, List.map_cons, List.map_nil]); first | done | rfl | (simp only [List.length_drop, List.length_take]; rfl)) ?_; (with_reducible refine (sashref02_From.calls k 0 a0 t302 _ A2.out).mono ?_); rintro e w' ⟨rfl, ⟨nd, rfl⟩⟩; refine ⟨_, rfl, ?_⟩) | ((with_reducible refine gate_callee (f := 64) rfl ?_); refine goesL_ (some 5) rfl rfl Tryd.func64 (by kernel_rfl) rfl #[.int .u16 t302] rfl (by (try simp only [List.map_toArray, List.map_cons, List.map_nil]); first | done | rfl | (simp only [List.length_drop, List.length_take]; rfl)) ?_; (with_reducible refine (sashref01_Hex.calls t302 t303 _ A3.out).mono ?_); rintro e w' ⟨rfl, ⟨nd, rfl⟩⟩; refine ⟨_, rfl, ?_⟩))
   go_ret
   exact ⟨by first | rfl | (simp; done) | (simp [*]; done), by repeat (first | exact Drawn0.refl _ | apply Drawn0.step)⟩
  ·rw [if_neg c5] at H
   exact absurd H (by simp)
 ·rw [if_neg c4] at H
  exact absurd H (by simp)

mutual
def sashref05_Depth.l0 : Nat → Int → Int → Int → Int → Int → Int → Int → Int → Int → List (S26) → Option (Int)
 | 0, _, _, _, _, _, _, _, _, _, _ => none
 | k + 1, x3, x7, x8, x305000, x305001, x305002, x305003, x305004, x305005, x305006 => if x8 < x7 then (if 0 ≤ x8 then (if x8 < (x305006.length : Int) then ((sashref05_Depth.f k ((rd_T26 x305006 x8).f0) ((rd_T26 x305006 x8).f1.f0) ((rd_T26 x305006 x8).f1.f1) ((rd_T26 x305006 x8).f1.f2) ((rd_T26 x305006 x8).f1.f3) ((rd_T26 x305006 x8).f2) ((rd_T26 x305006 x8).f3)).bind fun t306 => (if t306 > x3 then ((sashref05_Depth.f k ((rd_T26 x305006 x8).f0) ((rd_T26 x305006 x8).f1.f0) ((rd_T26 x305006 x8).f1.f1) ((rd_T26 x305006 x8).f1.f2) ((rd_T26 x305006 x8).f1.f3) ((rd_T26 x305006 x8).f2) ((rd_T26 x305006 x8).f3)).bind fun t308 => (sashref05_Depth.l0 k t308 x7 (wrap64 (x8 + 1)) x305000 x305001 x305002 x305003 x305004 x305005 x305006)) else (sashref05_Depth.l0 k x3 x7 (wrap64 (x8 + 1)) x305000 x305001 x305002 x305003 x305004 x305005 x305006))) else (none)) else (none)) else (some (wrap64 (x3 + 1)))
def sashref05_Depth.f : Nat → Int → Int → Int → Int → Int → Int → List (S26) → Option (Int)
 | 0, _, _, _, _, _, _, _ => none
 | k + 1, a0_0, a0_1, a0_2, a0_3, a0_4, a0_5, l0_6 => sashref05_Depth.l0 k 0 (l0_6.length : Int) 0 a0_0 a0_1 a0_2 a0_3 a0_4 a0_5 l0_6
end
set_option maxHeartbeats 8000000 in
set_option maxRecDepth 100000 in
theorem sashref05_Depth.calls (k : Nat) : ∀ (a0_0 : Int) (a0_1 : Int) (a0_2 : Int) (a0_3 : Int) (a0_4 : Int) (a0_5 : Int) (A0_6 : Option Addr) (c0_6 : Nat) (l0_6 : List (S26)) (r : Int) (w : World) (hr0_6 : Kd.C k26 w A0_6 l0_6.length l0_6) (hc0_6 : l0_6.length ≤ c0_6) (h : sashref05_Depth.f k a0_0 a0_1 a0_2 a0_3 a0_4 a0_5 l0_6 = some r),
  Calls Tryd.prog 40 #[.agg #[.int .u8 a0_0, .int .i64 a0_1, .int .i64 a0_2, .int .i64 a0_3, .int .i64 a0_4, .int .i64 a0_5, .slice A0_6 l0_6.length c0_6]] w fun e w' => e = .returned (.int .i64 r) ∧ Below w.heap.size w w' := by
 induction k using Nat.strongRecOn with
 | _ k ih =>
 intro a0_0 a0_1 a0_2 a0_3 a0_4 a0_5 A0_6 c0_6 l0_6 r w hr0_6 hc0_6 h
 cases k with
 | zero => exact absurd h (by simp [sashref05_Depth.f])
 | succ k =>
 simp only [sashref05_Depth.f] at h
 have hu26 := Tryd.underlying26
 have HR0_6 := Aside0.mk hr0_6
 have HC0_6 := Aside0.mk hc0_6
 clear hr0_6 hc0_6
 have HB := Aside0.mk (Below.refl w.heap.size w)
 have H : (sashref05_Depth.l0 k 0 (l0_6.length : Int) 0 a0_0 a0_1 a0_2 a0_3 a0_4 a0_5 l0_6) = some r := h
 clear h
 have H' := Aside0.mk H
 clear H
 go_enter Tryd.func40, Tryd.ntmps40
 go_wp2_with (first | ((with_reducible refine gate_dst (N := 1) rfl ?_); refine box_event ?hg (N := 1) ?hd (cs := #[.int .u8 a0_0, .int .i64 a0_1, .int .i64 a0_2, .int .i64 a0_3, .int .i64 a0_4, .int .i64 a0_5, .slice A0_6 l0_6.length c0_6]) (t := 26) ?hr ?_; (case hd => rfl); (case hg => rfl); (case hr => first | (go_simp; done) | (go_simp; rfl)); intro gb304 hg w2 hbox hb; have n0_ := Aside0.mk (below_step (by repeat (first | (with_reducible first | exact HB.out | apply below_alloc | apply pw_below_drewN | apply below_drew1) | exact HB.out)) hb); have n1_ := Aside0.mk (hbox); have n2_ := Aside0.mk ((by rw [hg]; exact (below_size (by repeat (first | (with_reducible first | exact HB.out | apply below_alloc | apply pw_below_drewN | apply below_drew1) | exact HB.out))) : w.heap.size ≤ gb304)); have n3_ := Aside0.mk ((by rw [hg]; exact (below_size (by repeat (first | (with_reducible first | exact HB.out | apply below_alloc | apply pw_below_drewN | apply below_drew1) | exact HB.out))) : w.heap.size ≤ gb304)); clear HB; have HB := n0_; have BK304 := n1_; have GW304 := n2_; have GE304 := n3_; clear n0_ n1_ n2_ n3_; clear hb hbox hg; have hcz3_0 : w2.cell? ⟨gb304, 0, none⟩ = some (.int .u8 a0_0) := (blk_cell BK304.out 0).trans rfl; have hcz3_1 : w2.cell? ⟨gb304, 1, none⟩ = some (.int .i64 a0_1) := (blk_cell BK304.out 1).trans rfl; have hcz3_2 : w2.cell? ⟨gb304, 2, none⟩ = some (.int .i64 a0_2) := (blk_cell BK304.out 2).trans rfl; have hcz3_3 : w2.cell? ⟨gb304, 3, none⟩ = some (.int .i64 a0_3) := (blk_cell BK304.out 3).trans rfl; have hcz3_4 : w2.cell? ⟨gb304, 4, none⟩ = some (.int .i64 a0_4) := (blk_cell BK304.out 4).trans rfl; have hcz3_5 : w2.cell? ⟨gb304, 5, none⟩ = some (.int .i64 a0_5) := (blk_cell BK304.out 5).trans rfl; have hcz3_6 : w2.cell? ⟨gb304, 6, none⟩ = some (.slice A0_6 l0_6.length c0_6) := (blk_cell BK304.out 6).trans rfl; have hfz3_0 := blk_frozen BK304.out 0; have hfz3_1 := blk_frozen BK304.out 1; have hfz3_2 := blk_frozen BK304.out 2; have hfz3_3 := blk_frozen BK304.out 3; have hfz3_4 := blk_frozen BK304.out 4; have hfz3_5 := blk_frozen BK304.out 5; have hfz3_6 := blk_frozen BK304.out 6))
 go_loopg [3, 8] k (fun kq v3 v8 w' => ∃ (x3_1 : Int) (x8_1 : Int), v3 = .int .i64 x3_1 ∧ v8 = .int .i64 x8_1 ∧ Aside0 (sashref05_Depth.l0 kq x3_1 (l0_6.length : Int) x8_1 a0_0 a0_1 a0_2 a0_3 a0_4 a0_5 l0_6 = some r) ∧ Aside0 (kq ≤ k) ∧ Aside0 (w'.heap[gb304]? = some (.cells #[.int .u8 a0_0, .int .i64 a0_1, .int .i64 a0_2, .int .i64 a0_3, .int .i64 a0_4, .int .i64 a0_5, (.slice A0_6 l0_6.length c0_6)] 26 (0, 0))) ∧ Aside0 (Below w.heap.size w w'))
 case atStart => exact ⟨(0), (0), (by first | rfl | (simp; done) | (simp [*]; done)), (by first | rfl | (simp; done) | (simp [*]; done)), H', ⟨Nat.le_refl _⟩, ⟨by (with_reducible repeat (first | refine blk_drewN ?_ _ | refine blk_drew ?_ | refine blk_alloc ?_ _)); exact BK304.out⟩, ⟨by repeat (first | (with_reducible first | exact HB.out | apply below_alloc | apply pw_below_drewN | apply below_drew1 | refine below_set ?_ GE304.out) | exact HB.out)⟩⟩
 case round =>
  clear H'
  try clear p2
  try clear hcz3_0
  try clear hcz3_1
  try clear hcz3_2
  try clear hcz3_3
  try clear hcz3_4
  try clear hcz3_5
  try clear hcz3_6
  try clear hfz3_0
  try clear hfz3_1
  try clear hfz3_2
  try clear hfz3_3
  try clear hfz3_4
  try clear hfz3_5
  try clear hfz3_6
  obtain ⟨x3_1, x8_1, rfl, rfl, HA, HK1, BK304, HB⟩ := hrel
  cases gk with
  | zero => exact absurd HA.out (by simp [sashref05_Depth.l0])
  | succ k1 =>
   have H := HA.out
   clear HA
   simp only [sashref05_Depth.l0] at H
   by_cases c4 : x8_1 < (l0_6.length : Int)
   ·rw [if_pos c4] at H
    have c4b0 : decide (x8_1 < (l0_6.length : Int)) = true := decide_eq_true c4
    clear c4
    by_cases c5 : 0 ≤ x8_1
    ·rw [if_pos c5] at H
     have c5b0 : decide (0 ≤ x8_1) = true := decide_eq_true c5
     clear c5
     by_cases c6 : x8_1 < (l0_6.length : Int)
     ·rw [if_pos c6] at H
      have c6b0 : decide (x8_1 < (l0_6.length : Int)) = true := decide_eq_true c6
      clear c6
      replace H := Option.bind_eq_some_iff.mp H
      obtain ⟨t306, A70, H⟩ := H
      replace H : (if t306 > x3_1 then ((sashref05_Depth.f k1 ((rd_T26 l0_6 x8_1).f0) ((rd_T26 l0_6 x8_1).f1.f0) ((rd_T26 l0_6 x8_1).f1.f1) ((rd_T26 l0_6 x8_1).f1.f2) ((rd_T26 l0_6 x8_1).f1.f3) ((rd_T26 l0_6 x8_1).f2) ((rd_T26 l0_6 x8_1).f3)).bind fun t308 => (sashref05_Depth.l0 k1 t308 (l0_6.length : Int) (wrap64 (x8_1 + 1)) a0_0 a0_1 a0_2 a0_3 a0_4 a0_5 l0_6)) else (sashref05_Depth.l0 k1 x3_1 (l0_6.length : Int) (wrap64 (x8_1 + 1)) a0_0 a0_1 a0_2 a0_3 a0_4 a0_5 l0_6)) = some r := H
      have A7 := Aside0.mk A70
      clear A70
      by_cases c8 : t306 > x3_1
      ·rw [if_pos c8] at H
       have c8b0 : decide (x3_1 < t306) = true := decide_eq_true c8
       clear c8
       replace H := Option.bind_eq_some_iff.mp H
       obtain ⟨t308, A90, H⟩ := H
       replace H : (sashref05_Depth.l0 k1 t308 (l0_6.length : Int) (wrap64 (x8_1 + 1)) a0_0 a0_1 a0_2 a0_3 a0_4 a0_5 l0_6) = some r := H
       have A9 := Aside0.mk A90
       clear A90
       have H' := Aside0.mk H
       clear H
       have hcz10_0 : wr.cell? ⟨gb304, 0, none⟩ = some (.int .u8 a0_0) := (blk_cell BK304.out 0).trans rfl
       have hcz10_1 : wr.cell? ⟨gb304, 1, none⟩ = some (.int .i64 a0_1) := (blk_cell BK304.out 1).trans rfl
       have hcz10_2 : wr.cell? ⟨gb304, 2, none⟩ = some (.int .i64 a0_2) := (blk_cell BK304.out 2).trans rfl
       have hcz10_3 : wr.cell? ⟨gb304, 3, none⟩ = some (.int .i64 a0_3) := (blk_cell BK304.out 3).trans rfl
       have hcz10_4 : wr.cell? ⟨gb304, 4, none⟩ = some (.int .i64 a0_4) := (blk_cell BK304.out 4).trans rfl
       have hcz10_5 : wr.cell? ⟨gb304, 5, none⟩ = some (.int .i64 a0_5) := (blk_cell BK304.out 5).trans rfl
       have hcz10_6 : wr.cell? ⟨gb304, 6, none⟩ = some (.slice A0_6 l0_6.length c0_6) := (blk_cell BK304.out 6).trans rfl
       have hfz10_0 := blk_frozen BK304.out 0
       have hfz10_1 := blk_frozen BK304.out 1
       have hfz10_2 := blk_frozen BK304.out 2
       have hfz10_3 := blk_frozen BK304.out 3
       have hfz10_4 := blk_frozen BK304.out 4
       have hfz10_5 := blk_frozen BK304.out 5
       have hfz10_6 := blk_frozen BK304.out 6
       have p305 : 0 ≤ (x8_1 : Int) := of_decide_eq_true (by first | (with_reducible assumption) | assumption)
       have q305 : x8_1 < (l0_6.length : Int) := of_decide_eq_true (by first | (with_reducible assumption) | assumption)
       obtain ⟨ad305, A305_6, c305_6, e305, hx305_0, hx305_1, hx305_2, hx305_3, hx305_4, hx305_5, hx305_6, hl305_6, hi305_6⟩ := at_T26 HR0_6.out x8_1 p305 q305
       cases e305
       replace hx305_0 := (HB.out.cell (World.block_lt_of_cell? w _ hx305_0)).trans hx305_0
       replace hx305_1 := (HB.out.cell (World.block_lt_of_cell? w _ hx305_1)).trans hx305_1
       replace hx305_2 := (HB.out.cell (World.block_lt_of_cell? w _ hx305_2)).trans hx305_2
       replace hx305_3 := (HB.out.cell (World.block_lt_of_cell? w _ hx305_3)).trans hx305_3
       replace hx305_4 := (HB.out.cell (World.block_lt_of_cell? w _ hx305_4)).trans hx305_4
       replace hx305_5 := (HB.out.cell (World.block_lt_of_cell? w _ hx305_5)).trans hx305_5
       replace hx305_6 := (HB.out.cell (World.block_lt_of_cell? w _ hx305_6)).trans hx305_6
       have HR305_6 := Aside0.mk hi305_6
       have HC305_6 := Aside0.mk hl305_6
       clear hi305_6 hl305_6
       replace p305 := eq_true p305
       replace q305 := eq_true q305
       go_wp2_with (first | ((with_reducible refine gate_callee (f := 40) rfl ?_); refine goesL_ (some 16) rfl rfl Tryd.func40 (by kernel_rfl) rfl #[.agg #[.int .u8 ((rd_T26 l0_6 x8_1).f0), .int .i64 ((rd_T26 l0_6 x8_1).f1.f0), .int .i64 ((rd_T26 l0_6 x8_1).f1.f1), .int .i64 ((rd_T26 l0_6 x8_1).f1.f2), .int .i64 ((rd_T26 l0_6 x8_1).f1.f3), .int .i64 ((rd_T26 l0_6 x8_1).f2), .slice A305_6 ((rd_T26 l0_6 x8_1).f3).length c305_6]] rfl (by (try simp only [List.map_toArray, List.map_cons, List.map_nil]); first | done | rfl | (simp only [List.length_drop, List.length_take]; rfl)) ?_; (with_reducible refine (ih k1 (by have := HK1.out; omega) ((rd_T26 l0_6 x8_1).f0) ((rd_T26 l0_6 x8_1).f1.f0) ((rd_T26 l0_6 x8_1).f1.f1) ((rd_T26 l0_6 x8_1).f1.f2) ((rd_T26 l0_6 x8_1).f1.f3) ((rd_T26 l0_6 x8_1).f2) _ _ ((rd_T26 l0_6 x8_1).f3) t306 _ ?side1 ?side2 A7.out).mono ?_); (case side1 => repeat (first | exact (Kd.C_below HR305_6.out HB.out) | (with_reducible refine Kd.C_alloc ?_ _) | (with_reducible refine Kd.C_drewN ?_ _) | (with_reducible refine Kd.C_drew ?_))); (case side2 => exact HC305_6.out); rintro e w11 ⟨rfl, hb⟩; refine ⟨_, rfl, ?_⟩; have n0_ := Aside0.mk (blk_below (g := gb304) (o := .cells #[.int .u8 a0_0, .int .i64 a0_1, .int .i64 a0_2, .int .i64 a0_3, .int .i64 a0_4, .int .i64 a0_5, .slice (some ad305) l0_6.length c0_6] 26 (0, 0)) (by (with_reducible repeat (first | refine blk_drewN ?_ _ | refine blk_drew ?_ | refine blk_alloc ?_ _)); exact BK304.out) hb); have n1_ := Aside0.mk (below_step (by repeat (first | (with_reducible first | exact HB.out | apply below_alloc | apply pw_below_drewN | apply below_drew1 | refine below_set ?_ GE304.out) | exact HB.out)) hb); clear BK304; clear HB; have BK304 := n0_; have HB := n1_; clear n0_ n1_; (try clear hb); (try clear hb2); (try clear hk); (try clear hi); have hcz12_0 : w11.cell? ⟨gb304, 0, none⟩ = some (.int .u8 a0_0) := (blk_cell BK304.out 0).trans rfl; have hcz12_1 : w11.cell? ⟨gb304, 1, none⟩ = some (.int .i64 a0_1) := (blk_cell BK304.out 1).trans rfl; have hcz12_2 : w11.cell? ⟨gb304, 2, none⟩ = some (.int .i64 a0_2) := (blk_cell BK304.out 2).trans rfl; have hcz12_3 : w11.cell? ⟨gb304, 3, none⟩ = some (.int .i64 a0_3) := (blk_cell BK304.out 3).trans rfl; have hcz12_4 : w11.cell? ⟨gb304, 4, none⟩ = some (.int .i64 a0_4) := (blk_cell BK304.out 4).trans rfl; have hcz12_5 : w11.cell? ⟨gb304, 5, none⟩ = some (.int .i64 a0_5) := (blk_cell BK304.out 5).trans rfl; have hcz12_6 : w11.cell? ⟨gb304, 6, none⟩ = some (.slice (some ad305) l0_6.length c0_6) := (blk_cell BK304.out 6).trans rfl; have hfz12_0 := blk_frozen BK304.out 0; have hfz12_1 := blk_frozen BK304.out 1; have hfz12_2 := blk_frozen BK304.out 2; have hfz12_3 := blk_frozen BK304.out 3; have hfz12_4 := blk_frozen BK304.out 4; have hfz12_5 := blk_frozen BK304.out 5; have hfz12_6 := blk_frozen BK304.out 6; have p307 : 0 ≤ (x8_1 : Int) := of_decide_eq_true (by first | (with_reducible assumption) | assumption); have q307 : x8_1 < (l0_6.length : Int) := of_decide_eq_true (by first | (with_reducible assumption) | assumption); obtain ⟨ad307, A307_6, c307_6, e307, hx307_0, hx307_1, hx307_2, hx307_3, hx307_4, hx307_5, hx307_6, hl307_6, hi307_6⟩ := at_T26 HR0_6.out x8_1 p307 q307; obtain rfl : ad305 = ad307 := (by injection e307); replace hx307_0 := (HB.out.cell (World.block_lt_of_cell? w _ hx307_0)).trans hx307_0; replace hx307_1 := (HB.out.cell (World.block_lt_of_cell? w _ hx307_1)).trans hx307_1; replace hx307_2 := (HB.out.cell (World.block_lt_of_cell? w _ hx307_2)).trans hx307_2; replace hx307_3 := (HB.out.cell (World.block_lt_of_cell? w _ hx307_3)).trans hx307_3; replace hx307_4 := (HB.out.cell (World.block_lt_of_cell? w _ hx307_4)).trans hx307_4; replace hx307_5 := (HB.out.cell (World.block_lt_of_cell? w _ hx307_5)).trans hx307_5; replace hx307_6 := (HB.out.cell (World.block_lt_of_cell? w _ hx307_6)).trans hx307_6; have HR307_6 := Aside0.mk hi307_6; have HC307_6 := Aside0.mk hl307_6; clear hi307_6 hl307_6; replace p307 := eq_true p307; replace q307 := eq_true q307) | ((with_reducible refine gate_callee (f := 40) rfl ?_); refine goesL_ (some 24) rfl rfl Tryd.func40 (by kernel_rfl) rfl #[.agg #[.int .u8 ((rd_T26 l0_6 x8_1).f0), .int .i64 ((rd_T26 l0_6 x8_1).f1.f0), .int .i64 ((rd_T26 l0_6 x8_1).f1.f1), .int .i64 ((rd_T26 l0_6 x8_1).f1.f2), .int .i64 ((rd_T26 l0_6 x8_1).f1.f3), .int .i64 ((rd_T26 l0_6 x8_1).f2), .slice A307_6 ((rd_T26 l0_6 x8_1).f3).length c307_6]] rfl (by (try simp only [List.map_toArray, List.map_cons, List.map_nil]); first | done | rfl | (simp only [List.length_drop, List.length_take]; rfl)) ?_; (with_reducible refine (ih k1 (by have := HK1.out; omega) ((rd_T26 l0_6 x8_1).f0) ((rd_T26 l0_6 x8_1).f1.f0) ((rd_T26 l0_6 x8_1).f1.f1) ((rd_T26 l0_6 x8_1).f1.f2) ((rd_T26 l0_6 x8_1).f1.f3) ((rd_T26 l0_6 x8_1).f2) _ _ ((rd_T26 l0_6 x8_1).f3) t308 _ ?side1 ?side2 A9.out).mono ?_); (case side1 => repeat (first | exact (Kd.C_below HR307_6.out HB.out) | (with_reducible refine Kd.C_alloc ?_ _) | (with_reducible refine Kd.C_drewN ?_ _) | (with_reducible refine Kd.C_drew ?_))); (case side2 => exact HC307_6.out); rintro e w13 ⟨rfl, hb⟩; refine ⟨_, rfl, ?_⟩; have n0_ := Aside0.mk (blk_below (g := gb304) (o := .cells #[.int .u8 a0_0, .int .i64 a0_1, .int .i64 a0_2, .int .i64 a0_3, .int .i64 a0_4, .int .i64 a0_5, .slice (some ad305) l0_6.length c0_6] 26 (0, 0)) (by (with_reducible repeat (first | refine blk_drewN ?_ _ | refine blk_drew ?_ | refine blk_alloc ?_ _)); exact BK304.out) hb); have n1_ := Aside0.mk (below_step (by repeat (first | (with_reducible first | exact HB.out | apply below_alloc | apply pw_below_drewN | apply below_drew1 | refine below_set ?_ GE304.out) | exact HB.out)) hb); clear BK304; clear HB; have BK304 := n0_; have HB := n1_; clear n0_ n1_; (try clear hb); (try clear hb2); (try clear hk); (try clear hi)))
       go_roundg k1
       case measure => have := HK1.out; omega
       case rel => exact ⟨(t308), (wrap64 (x8_1 + 1)), (by first | rfl | (simp; done) | (simp [*]; done)), (by first | rfl | (simp; done) | (simp [*]; done)), H', ⟨by have := HK1.out; omega⟩, ⟨by (with_reducible repeat (first | refine blk_drewN ?_ _ | refine blk_drew ?_ | refine blk_alloc ?_ _)); exact BK304.out⟩, ⟨by repeat (first | (with_reducible first | exact HB.out | apply below_alloc | apply pw_below_drewN | apply below_drew1 | refine below_set ?_ GE304.out) | exact HB.out)⟩⟩
      ·rw [if_neg c8] at H
       have c8b0 : decide (x3_1 < t306) = false := decide_eq_false c8
       clear c8
       have H' := Aside0.mk H
       clear H
       have hcz14_0 : wr.cell? ⟨gb304, 0, none⟩ = some (.int .u8 a0_0) := (blk_cell BK304.out 0).trans rfl
       have hcz14_1 : wr.cell? ⟨gb304, 1, none⟩ = some (.int .i64 a0_1) := (blk_cell BK304.out 1).trans rfl
       have hcz14_2 : wr.cell? ⟨gb304, 2, none⟩ = some (.int .i64 a0_2) := (blk_cell BK304.out 2).trans rfl
       have hcz14_3 : wr.cell? ⟨gb304, 3, none⟩ = some (.int .i64 a0_3) := (blk_cell BK304.out 3).trans rfl
       have hcz14_4 : wr.cell? ⟨gb304, 4, none⟩ = some (.int .i64 a0_4) := (blk_cell BK304.out 4).trans rfl
       have hcz14_5 : wr.cell? ⟨gb304, 5, none⟩ = some (.int .i64 a0_5) := (blk_cell BK304.out 5).trans rfl
       have hcz14_6 : wr.cell? ⟨gb304, 6, none⟩ = some (.slice A0_6 l0_6.length c0_6) := (blk_cell BK304.out 6).trans rfl
       have hfz14_0 := blk_frozen BK304.out 0
       have hfz14_1 := blk_frozen BK304.out 1
       have hfz14_2 := blk_frozen BK304.out 2
       have hfz14_3 := blk_frozen BK304.out 3
       have hfz14_4 := blk_frozen BK304.out 4
       have hfz14_5 := blk_frozen BK304.out 5
       have hfz14_6 := blk_frozen BK304.out 6
       have p305 : 0 ≤ (x8_1 : Int) := of_decide_eq_true (by first | (with_reducible assumption) | assumption)
       have q305 : x8_1 < (l0_6.length : Int) := of_decide_eq_true (by first | (with_reducible assumption) | assumption)
       obtain ⟨ad305, A305_6, c305_6, e305, hx305_0, hx305_1, hx305_2, hx305_3, hx305_4, hx305_5, hx305_6, hl305_6, hi305_6⟩ := at_T26 HR0_6.out x8_1 p305 q305
       cases e305
       replace hx305_0 := (HB.out.cell (World.block_lt_of_cell? w _ hx305_0)).trans hx305_0
       replace hx305_1 := (HB.out.cell (World.block_lt_of_cell? w _ hx305_1)).trans hx305_1
       replace hx305_2 := (HB.out.cell (World.block_lt_of_cell? w _ hx305_2)).trans hx305_2
       replace hx305_3 := (HB.out.cell (World.block_lt_of_cell? w _ hx305_3)).trans hx305_3
       replace hx305_4 := (HB.out.cell (World.block_lt_of_cell? w _ hx305_4)).trans hx305_4
       replace hx305_5 := (HB.out.cell (World.block_lt_of_cell? w _ hx305_5)).trans hx305_5
       replace hx305_6 := (HB.out.cell (World.block_lt_of_cell? w _ hx305_6)).trans hx305_6
       have HR305_6 := Aside0.mk hi305_6
       have HC305_6 := Aside0.mk hl305_6
       clear hi305_6 hl305_6
       replace p305 := eq_true p305
       replace q305 := eq_true q305
       go_wp2_with (first | ((with_reducible refine gate_callee (f := 40) rfl ?_); refine goesL_ (some 16) rfl rfl Tryd.func40 (by kernel_rfl) rfl #[.agg #[.int .u8 ((rd_T26 l0_6 x8_1).f0), .int .i64 ((rd_T26 l0_6 x8_1).f1.f0), .int .i64 ((rd_T26 l0_6 x8_1).f1.f1), .int .i64 ((rd_T26 l0_6 x8_1).f1.f2), .int .i64 ((rd_T26 l0_6 x8_1).f1.f3), .int .i64 ((rd_T26 l0_6 x8_1).f2), .slice A305_6 ((rd_T26 l0_6 x8_1).f3).length c305_6]] rfl (by (try simp only [List.map_toArray, List.map_cons, List.map_nil]); first | done | rfl | (simp only [List.length_drop, List.length_take]; rfl)) ?_; (with_reducible refine (ih k1 (by have := HK1.out; omega) ((rd_T26 l0_6 x8_1).f0) ((rd_T26 l0_6 x8_1).f1.f0) ((rd_T26 l0_6 x8_1).f1.f1) ((rd_T26 l0_6 x8_1).f1.f2) ((rd_T26 l0_6 x8_1).f1.f3) ((rd_T26 l0_6 x8_1).f2) _ _ ((rd_T26 l0_6 x8_1).f3) t306 _ ?side1 ?side2 A7.out).mono ?_); (case side1 => repeat (first | exact (Kd.C_below HR305_6.out HB.out) | (with_reducible refine Kd.C_alloc ?_ _) | (with_reducible refine Kd.C_drewN ?_ _) | (with_reducible refine Kd.C_drew ?_))); (case side2 => exact HC305_6.out); rintro e w15 ⟨rfl, hb⟩; refine ⟨_, rfl, ?_⟩; have n0_ := Aside0.mk (blk_below (g := gb304) (o := .cells #[.int .u8 a0_0, .int .i64 a0_1, .int .i64 a0_2, .int .i64 a0_3, .int .i64 a0_4, .int .i64 a0_5, .slice (some ad305) l0_6.length c0_6] 26 (0, 0)) (by (with_reducible repeat (first | refine blk_drewN ?_ _ | refine blk_drew ?_ | refine blk_alloc ?_ _)); exact BK304.out) hb); have n1_ := Aside0.mk (below_step (by repeat (first | (with_reducible first | exact HB.out | apply below_alloc | apply pw_below_drewN | apply below_drew1 | refine below_set ?_ GE304.out) | exact HB.out)) hb); clear BK304; clear HB; have BK304 := n0_; have HB := n1_; clear n0_ n1_; (try clear hb); (try clear hb2); (try clear hk); (try clear hi)))
       go_roundg k1
       case measure => have := HK1.out; omega
       case rel => exact ⟨(x3_1), (wrap64 (x8_1 + 1)), (by first | rfl | (simp; done) | (simp [*]; done)), (by first | rfl | (simp; done) | (simp [*]; done)), H', ⟨by have := HK1.out; omega⟩, ⟨by (with_reducible repeat (first | refine blk_drewN ?_ _ | refine blk_drew ?_ | refine blk_alloc ?_ _)); exact BK304.out⟩, ⟨by repeat (first | (with_reducible first | exact HB.out | apply below_alloc | apply pw_below_drewN | apply below_drew1 | refine below_set ?_ GE304.out) | exact HB.out)⟩⟩
     ·rw [if_neg c6] at H
      exact absurd H (by simp)
    ·rw [if_neg c5] at H
     exact absurd H (by simp)
   ·rw [if_neg c4] at H
    have c4b0 : decide (x8_1 < (l0_6.length : Int)) = false := decide_eq_false c4
    clear c4
    obtain rfl := Option.some.inj H
    go_wp2
    go_ret
    exact ⟨by first | rfl | (simp [errW_none, errW_some] <;> rfl) | (simp [*, errW_none, errW_some] <;> rfl), by repeat (first | (with_reducible first | exact HB.out | apply below_alloc | apply pw_below_drewN | apply below_drew1 | refine below_set ?_ GE304.out) | exact HB.out)⟩

def sashref10_Text.f (k : Nat) (a0_0 : Int) (a0_1 : Int) (a0_2 : Int) (a0_3 : Int) (a0_4 : Int) (a0_5 : Int) (l0_6 : List (S26)) : Option (ByteArray × Int) := (sashref06_Tiles.f k a0_0 a0_1 a0_2 a0_3 a0_4 a0_5 l0_6).bind fun t310 => (if t310 = true then ((sashref10_Body.f k a0_0 a0_1 a0_2 a0_3 a0_4 a0_5 l0_6).bind fun t311 => ((sashref02_Put.f k t311).bind fun t312 => (if (t312.size : Int) > 65535 then (some ((⟨#[]⟩ : ByteArray), 3)) else ((sashref05_Depth.f k a0_0 a0_1 a0_2 a0_3 a0_4 a0_5 l0_6).bind fun t313 => (if t313 > 1000 then (some ((⟨#[]⟩ : ByteArray), 3)) else (some (t312, 0))))))) else (some ((⟨#[]⟩ : ByteArray), 1)))
set_option maxHeartbeats 8000000 in
set_option maxRecDepth 100000 in
theorem sashref10_Text.calls (k : Nat) (a0_0 : Int) (a0_1 : Int) (a0_2 : Int) (a0_3 : Int) (a0_4 : Int) (a0_5 : Int) (A0_6 : Option Addr) (c0_6 : Nat) (l0_6 : List (S26)) (r1 : ByteArray) (r2 : Int) (w : World) (hr0_6 : Kd.C k26 w A0_6 l0_6.length l0_6) (hc0_6 : l0_6.length ≤ c0_6) (h : sashref10_Text.f k a0_0 a0_1 a0_2 a0_3 a0_4 a0_5 l0_6 = some (r1, r2)) :
  Calls Tryd.prog 18 #[.agg #[.int .u8 a0_0, .int .i64 a0_1, .int .i64 a0_2, .int .i64 a0_3, .int .i64 a0_4, .int .i64 a0_5, .slice A0_6 l0_6.length c0_6]] w fun e w' => e = .returned (.tuple #[.string r1, .int .i64 r2]) ∧ Below w.heap.size w w' := by
 have hu26 := Tryd.underlying26
 have HR0_6 := Aside0.mk hr0_6
 have HC0_6 := Aside0.mk hc0_6
 clear hr0_6 hc0_6
 have HB := Aside0.mk (Below.refl w.heap.size w)
 have H : ((sashref06_Tiles.f k a0_0 a0_1 a0_2 a0_3 a0_4 a0_5 l0_6).bind fun t310 => (if t310 = true then ((sashref10_Body.f k a0_0 a0_1 a0_2 a0_3 a0_4 a0_5 l0_6).bind fun t311 => ((sashref02_Put.f k t311).bind fun t312 => (if (t312.size : Int) > 65535 then (some ((⟨#[]⟩ : ByteArray), 3)) else ((sashref05_Depth.f k a0_0 a0_1 a0_2 a0_3 a0_4 a0_5 l0_6).bind fun t313 => (if t313 > 1000 then (some ((⟨#[]⟩ : ByteArray), 3)) else (some (t312, 0))))))) else (some ((⟨#[]⟩ : ByteArray), 1)))) = some (r1, r2) := h
 clear h
 replace H := Option.bind_eq_some_iff.mp H
 obtain ⟨t310, A20, H⟩ := H
 replace H : (if t310 = true then ((sashref10_Body.f k a0_0 a0_1 a0_2 a0_3 a0_4 a0_5 l0_6).bind fun t311 => ((sashref02_Put.f k t311).bind fun t312 => (if (t312.size : Int) > 65535 then (some ((⟨#[]⟩ : ByteArray), 3)) else ((sashref05_Depth.f k a0_0 a0_1 a0_2 a0_3 a0_4 a0_5 l0_6).bind fun t313 => (if t313 > 1000 then (some ((⟨#[]⟩ : ByteArray), 3)) else (some (t312, 0))))))) else (some ((⟨#[]⟩ : ByteArray), 1))) = some (r1, r2) := H
 have A2 := Aside0.mk A20
 clear A20
 by_cases c3 : t310 = true
 ·subst c3
  have H1 : ((sashref10_Body.f k a0_0 a0_1 a0_2 a0_3 a0_4 a0_5 l0_6).bind fun t311 => ((sashref02_Put.f k t311).bind fun t312 => (if (t312.size : Int) > 65535 then (some ((⟨#[]⟩ : ByteArray), 3)) else ((sashref05_Depth.f k a0_0 a0_1 a0_2 a0_3 a0_4 a0_5 l0_6).bind fun t313 => (if t313 > 1000 then (some ((⟨#[]⟩ : ByteArray), 3)) else (some (t312, 0))))))) = some (r1, r2) := by rw [if_pos rfl] at H; exact H
  clear H
  have H := H1
  clear H1
  replace H := Option.bind_eq_some_iff.mp H
  obtain ⟨t311, A40, H⟩ := H
  replace H : ((sashref02_Put.f k t311).bind fun t312 => (if (t312.size : Int) > 65535 then (some ((⟨#[]⟩ : ByteArray), 3)) else ((sashref05_Depth.f k a0_0 a0_1 a0_2 a0_3 a0_4 a0_5 l0_6).bind fun t313 => (if t313 > 1000 then (some ((⟨#[]⟩ : ByteArray), 3)) else (some (t312, 0)))))) = some (r1, r2) := H
  have A4 := Aside0.mk A40
  clear A40
  replace H := Option.bind_eq_some_iff.mp H
  obtain ⟨t312, A50, H⟩ := H
  replace H : (if (t312.size : Int) > 65535 then (some ((⟨#[]⟩ : ByteArray), 3)) else ((sashref05_Depth.f k a0_0 a0_1 a0_2 a0_3 a0_4 a0_5 l0_6).bind fun t313 => (if t313 > 1000 then (some ((⟨#[]⟩ : ByteArray), 3)) else (some (t312, 0))))) = some (r1, r2) := H
  have A5 := Aside0.mk A50
  clear A50
  by_cases c6 : (t312.size : Int) > 65535
  ·rw [if_pos c6] at H
   have c6b0 : decide (65535 < (t312.size : Int)) = true := decide_eq_true c6
   have c6b1 : decide (65535 < t312.size) = true := decide_eq_true (by omega)
   clear c6
   simp only [Option.some.injEq, Prod.mk.injEq] at H
   obtain ⟨rfl, rfl⟩ := H
   go_enter Tryd.func18, Tryd.ntmps18
   go_wp2_with (first | ((with_reducible refine gate_dst (N := 1) rfl ?_); refine box_event ?hg (N := 1) ?hd (cs := #[.int .u8 a0_0, .int .i64 a0_1, .int .i64 a0_2, .int .i64 a0_3, .int .i64 a0_4, .int .i64 a0_5, .slice A0_6 l0_6.length c0_6]) (t := 26) ?hr ?_; (case hd => rfl); (case hg => rfl); (case hr => first | (go_simp; done) | (go_simp; rfl)); intro gb309 hg w7 hbox hb; have n0_ := Aside0.mk (below_step (by repeat (first | (with_reducible first | exact HB.out | apply below_alloc | apply pw_below_drewN | apply below_drew1) | exact HB.out)) hb); have n1_ := Aside0.mk (hbox); have n2_ := Aside0.mk ((by rw [hg]; exact (below_size (by repeat (first | (with_reducible first | exact HB.out | apply below_alloc | apply pw_below_drewN | apply below_drew1) | exact HB.out))) : w.heap.size ≤ gb309)); have n3_ := Aside0.mk ((by rw [hg]; exact (below_size (by repeat (first | (with_reducible first | exact HB.out | apply below_alloc | apply pw_below_drewN | apply below_drew1) | exact HB.out))) : w.heap.size ≤ gb309)); clear HB; have HB := n0_; have BK309 := n1_; have GW309 := n2_; have GE309 := n3_; clear n0_ n1_ n2_ n3_; clear hb hbox hg; have hcz8_0 : w7.cell? ⟨gb309, 0, none⟩ = some (.int .u8 a0_0) := (blk_cell BK309.out 0).trans rfl; have hcz8_1 : w7.cell? ⟨gb309, 1, none⟩ = some (.int .i64 a0_1) := (blk_cell BK309.out 1).trans rfl; have hcz8_2 : w7.cell? ⟨gb309, 2, none⟩ = some (.int .i64 a0_2) := (blk_cell BK309.out 2).trans rfl; have hcz8_3 : w7.cell? ⟨gb309, 3, none⟩ = some (.int .i64 a0_3) := (blk_cell BK309.out 3).trans rfl; have hcz8_4 : w7.cell? ⟨gb309, 4, none⟩ = some (.int .i64 a0_4) := (blk_cell BK309.out 4).trans rfl; have hcz8_5 : w7.cell? ⟨gb309, 5, none⟩ = some (.int .i64 a0_5) := (blk_cell BK309.out 5).trans rfl; have hcz8_6 : w7.cell? ⟨gb309, 6, none⟩ = some (.slice A0_6 l0_6.length c0_6) := (blk_cell BK309.out 6).trans rfl; have hfz8_0 := blk_frozen BK309.out 0; have hfz8_1 := blk_frozen BK309.out 1; have hfz8_2 := blk_frozen BK309.out 2; have hfz8_3 := blk_frozen BK309.out 3; have hfz8_4 := blk_frozen BK309.out 4; have hfz8_5 := blk_frozen BK309.out 5; have hfz8_6 := blk_frozen BK309.out 6) | ((with_reducible refine gate_callee (f := 20) rfl ?_); refine goesL_ (some 6) rfl rfl Tryd.func20 (by kernel_rfl) rfl #[.agg #[.int .u8 a0_0, .int .i64 a0_1, .int .i64 a0_2, .int .i64 a0_3, .int .i64 a0_4, .int .i64 a0_5, .slice A0_6 l0_6.length c0_6]] rfl (by (try simp only [List.map_toArray, List.map_cons, List.map_nil]); first | done | rfl | (simp only [List.length_drop, List.length_take]; rfl)) ?_; (with_reducible refine (sashref06_Tiles.calls k a0_0 a0_1 a0_2 a0_3 a0_4 a0_5 _ _ l0_6 true _ ?side1 ?side2 A2.out).mono ?_); (case side1 => repeat (first | exact (Kd.C_below HR0_6.out HB.out) | (with_reducible refine Kd.C_alloc ?_ _) | (with_reducible refine Kd.C_drewN ?_ _) | (with_reducible refine Kd.C_drew ?_))); (case side2 => exact HC0_6.out); rintro e w9 ⟨rfl, hb⟩; refine ⟨_, rfl, ?_⟩; have n0_ := Aside0.mk (blk_below (g := gb309) (o := .cells #[.int .u8 a0_0, .int .i64 a0_1, .int .i64 a0_2, .int .i64 a0_3, .int .i64 a0_4, .int .i64 a0_5, .slice A0_6 l0_6.length c0_6] 26 (0, 0)) (by (with_reducible repeat (first | refine blk_drewN ?_ _ | refine blk_drew ?_ | refine blk_alloc ?_ _)); exact BK309.out) hb); have n1_ := Aside0.mk (below_step (by repeat (first | (with_reducible first | exact HB.out | apply below_alloc | apply pw_below_drewN | apply below_drew1 | refine below_set ?_ GE309.out) | exact HB.out)) hb); clear BK309; clear HB; have BK309 := n0_; have HB := n1_; clear n0_ n1_; (try clear hb); (try clear hb2); (try clear hk); (try clear hi); have hcz10_0 : w9.cell? ⟨gb309, 0, none⟩ = some (.int .u8 a0_0) := (blk_cell BK309.out 0).trans rfl; have hcz10_1 : w9.cell? ⟨gb309, 1, none⟩ = some (.int .i64 a0_1) := (blk_cell BK309.out 1).trans rfl; have hcz10_2 : w9.cell? ⟨gb309, 2, none⟩ = some (.int .i64 a0_2) := (blk_cell BK309.out 2).trans rfl; have hcz10_3 : w9.cell? ⟨gb309, 3, none⟩ = some (.int .i64 a0_3) := (blk_cell BK309.out 3).trans rfl; have hcz10_4 : w9.cell? ⟨gb309, 4, none⟩ = some (.int .i64 a0_4) := (blk_cell BK309.out 4).trans rfl; have hcz10_5 : w9.cell? ⟨gb309, 5, none⟩ = some (.int .i64 a0_5) := (blk_cell BK309.out 5).trans rfl; have hcz10_6 : w9.cell? ⟨gb309, 6, none⟩ = some (.slice A0_6 l0_6.length c0_6) := (blk_cell BK309.out 6).trans rfl; have hfz10_0 := blk_frozen BK309.out 0; have hfz10_1 := blk_frozen BK309.out 1; have hfz10_2 := blk_frozen BK309.out 2; have hfz10_3 := blk_frozen BK309.out 3; have hfz10_4 := blk_frozen BK309.out 4; have hfz10_5 := blk_frozen BK309.out 5; have hfz10_6 := blk_frozen BK309.out 6) | ((with_reducible refine gate_callee (f := 21) rfl ?_); refine goesL_ (some 9) rfl rfl Tryd.func21 (by kernel_rfl) rfl #[.agg #[.int .u8 a0_0, .int .i64 a0_1, .int .i64 a0_2, .int .i64 a0_3, .int .i64 a0_4, .int .i64 a0_5, .slice A0_6 l0_6.length c0_6]] rfl (by (try simp only [List.map_toArray, List.map_cons, List.map_nil]); first | done | rfl | (simp only [List.length_drop, List.length_take]; rfl)) ?_; (with_reducible refine (sashref10_Body.calls k a0_0 a0_1 a0_2 a0_3 a0_4 a0_5 _ _ l0_6 t311 _ ?side1 ?side2 A4.out).mono ?_); (case side1 => repeat (first | exact (Kd.C_below HR0_6.out HB.out) | (with_reducible refine Kd.C_alloc ?_ _) | (with_reducible refine Kd.C_drewN ?_ _) | (with_reducible refine Kd.C_drew ?_))); (case side2 => exact HC0_6.out); rintro e w11 ⟨rfl, hb⟩; refine ⟨_, rfl, ?_⟩; have n0_ := Aside0.mk (blk_below (g := gb309) (o := .cells #[.int .u8 a0_0, .int .i64 a0_1, .int .i64 a0_2, .int .i64 a0_3, .int .i64 a0_4, .int .i64 a0_5, .slice A0_6 l0_6.length c0_6] 26 (0, 0)) (by (with_reducible repeat (first | refine blk_drewN ?_ _ | refine blk_drew ?_ | refine blk_alloc ?_ _)); exact BK309.out) hb); have n1_ := Aside0.mk (below_step (by repeat (first | (with_reducible first | exact HB.out | apply below_alloc | apply pw_below_drewN | apply below_drew1 | refine below_set ?_ GE309.out) | exact HB.out)) hb); clear BK309; clear HB; have BK309 := n0_; have HB := n1_; clear n0_ n1_; (try clear hb); (try clear hb2); (try clear hk); (try clear hi)) | ((with_reducible refine gate_callee (f := 39) rfl ?_); refine goesL_ (some 10) rfl rfl Tryd.func39 (by kernel_rfl) rfl #[.string t311] rfl (by (try simp only [List.map_toArray, List.map_cons, List.map_nil]); first | done | rfl | (simp only [List.length_drop, List.length_take]; rfl)) ?_; (with_reducible refine (sashref02_Put.calls k t311 t312 _ A5.out).mono ?_); rintro e w' ⟨rfl, ⟨nd, rfl⟩⟩; refine ⟨_, rfl, ?_⟩))
   go_ret2
   exact ⟨by first | rfl | (simp [errW_none, errW_some] <;> rfl) | (simp [*, errW_none, errW_some] <;> rfl), by repeat (first | (with_reducible first | exact HB.out | apply below_alloc | apply pw_below_drewN | apply below_drew1 | refine below_set ?_ GE309.out) | exact HB.out)⟩
  ·rw [if_neg c6] at H
   have c6b0 : decide (65535 < (t312.size : Int)) = false := decide_eq_false c6
   have c6b1 : decide (65535 < t312.size) = false := decide_eq_false (by omega)
   clear c6
   replace H := Option.bind_eq_some_iff.mp H
   obtain ⟨t313, A120, H⟩ := H
   replace H : (if t313 > 1000 then (some ((⟨#[]⟩ : ByteArray), 3)) else (some (t312, 0))) = some (r1, r2) := H
   have A12 := Aside0.mk A120
   clear A120
   by_cases c13 : t313 > 1000
   ·rw [if_pos c13] at H
    have c13b0 : decide (1000 < t313) = true := decide_eq_true c13
    clear c13
    simp only [Option.some.injEq, Prod.mk.injEq] at H
    obtain ⟨rfl, rfl⟩ := H
    go_enter Tryd.func18, Tryd.ntmps18
    go_wp2_with (first | ((with_reducible refine gate_dst (N := 1) rfl ?_); refine box_event ?hg (N := 1) ?hd (cs := #[.int .u8 a0_0, .int .i64 a0_1, .int .i64 a0_2, .int .i64 a0_3, .int .i64 a0_4, .int .i64 a0_5, .slice A0_6 l0_6.length c0_6]) (t := 26) ?hr ?_; (case hd => rfl); (case hg => rfl); (case hr => first | (go_simp; done) | (go_simp; rfl)); intro gb309 hg w14 hbox hb; have n0_ := Aside0.mk (below_step (by repeat (first | (with_reducible first | exact HB.out | apply below_alloc | apply pw_below_drewN | apply below_drew1) | exact HB.out)) hb); have n1_ := Aside0.mk (hbox); have n2_ := Aside0.mk ((by rw [hg]; exact (below_size (by repeat (first | (with_reducible first | exact HB.out | apply below_alloc | apply pw_below_drewN | apply below_drew1) | exact HB.out))) : w.heap.size ≤ gb309)); have n3_ := Aside0.mk ((by rw [hg]; exact (below_size (by repeat (first | (with_reducible first | exact HB.out | apply below_alloc | apply pw_below_drewN | apply below_drew1) | exact HB.out))) : w.heap.size ≤ gb309)); clear HB; have HB := n0_; have BK309 := n1_; have GW309 := n2_; have GE309 := n3_; clear n0_ n1_ n2_ n3_; clear hb hbox hg; have hcz15_0 : w14.cell? ⟨gb309, 0, none⟩ = some (.int .u8 a0_0) := (blk_cell BK309.out 0).trans rfl; have hcz15_1 : w14.cell? ⟨gb309, 1, none⟩ = some (.int .i64 a0_1) := (blk_cell BK309.out 1).trans rfl; have hcz15_2 : w14.cell? ⟨gb309, 2, none⟩ = some (.int .i64 a0_2) := (blk_cell BK309.out 2).trans rfl; have hcz15_3 : w14.cell? ⟨gb309, 3, none⟩ = some (.int .i64 a0_3) := (blk_cell BK309.out 3).trans rfl; have hcz15_4 : w14.cell? ⟨gb309, 4, none⟩ = some (.int .i64 a0_4) := (blk_cell BK309.out 4).trans rfl; have hcz15_5 : w14.cell? ⟨gb309, 5, none⟩ = some (.int .i64 a0_5) := (blk_cell BK309.out 5).trans rfl; have hcz15_6 : w14.cell? ⟨gb309, 6, none⟩ = some (.slice A0_6 l0_6.length c0_6) := (blk_cell BK309.out 6).trans rfl; have hfz15_0 := blk_frozen BK309.out 0; have hfz15_1 := blk_frozen BK309.out 1; have hfz15_2 := blk_frozen BK309.out 2; have hfz15_3 := blk_frozen BK309.out 3; have hfz15_4 := blk_frozen BK309.out 4; have hfz15_5 := blk_frozen BK309.out 5; have hfz15_6 := blk_frozen BK309.out 6) | ((with_reducible refine gate_callee (f := 20) rfl ?_); refine goesL_ (some 6) rfl rfl Tryd.func20 (by kernel_rfl) rfl #[.agg #[.int .u8 a0_0, .int .i64 a0_1, .int .i64 a0_2, .int .i64 a0_3, .int .i64 a0_4, .int .i64 a0_5, .slice A0_6 l0_6.length c0_6]] rfl (by (try simp only [List.map_toArray, List.map_cons, List.map_nil]); first | done | rfl | (simp only [List.length_drop, List.length_take]; rfl)) ?_; (with_reducible refine (sashref06_Tiles.calls k a0_0 a0_1 a0_2 a0_3 a0_4 a0_5 _ _ l0_6 true _ ?side1 ?side2 A2.out).mono ?_); (case side1 => repeat (first | exact (Kd.C_below HR0_6.out HB.out) | (with_reducible refine Kd.C_alloc ?_ _) | (with_reducible refine Kd.C_drewN ?_ _) | (with_reducible refine Kd.C_drew ?_))); (case side2 => exact HC0_6.out); rintro e w16 ⟨rfl, hb⟩; refine ⟨_, rfl, ?_⟩; have n0_ := Aside0.mk (blk_below (g := gb309) (o := .cells #[.int .u8 a0_0, .int .i64 a0_1, .int .i64 a0_2, .int .i64 a0_3, .int .i64 a0_4, .int .i64 a0_5, .slice A0_6 l0_6.length c0_6] 26 (0, 0)) (by (with_reducible repeat (first | refine blk_drewN ?_ _ | refine blk_drew ?_ | refine blk_alloc ?_ _)); exact BK309.out) hb); have n1_ := Aside0.mk (below_step (by repeat (first | (with_reducible first | exact HB.out | apply below_alloc | apply pw_below_drewN | apply below_drew1 | refine below_set ?_ GE309.out) | exact HB.out)) hb); clear BK309; clear HB; have BK309 := n0_; have HB := n1_; clear n0_ n1_; (try clear hb); (try clear hb2); (try clear hk); (try clear hi); have hcz17_0 : w16.cell? ⟨gb309, 0, none⟩ = some (.int .u8 a0_0) := (blk_cell BK309.out 0).trans rfl; have hcz17_1 : w16.cell? ⟨gb309, 1, none⟩ = some (.int .i64 a0_1) := (blk_cell BK309.out 1).trans rfl; have hcz17_2 : w16.cell? ⟨gb309, 2, none⟩ = some (.int .i64 a0_2) := (blk_cell BK309.out 2).trans rfl; have hcz17_3 : w16.cell? ⟨gb309, 3, none⟩ = some (.int .i64 a0_3) := (blk_cell BK309.out 3).trans rfl; have hcz17_4 : w16.cell? ⟨gb309, 4, none⟩ = some (.int .i64 a0_4) := (blk_cell BK309.out 4).trans rfl; have hcz17_5 : w16.cell? ⟨gb309, 5, none⟩ = some (.int .i64 a0_5) := (blk_cell BK309.out 5).trans rfl; have hcz17_6 : w16.cell? ⟨gb309, 6, none⟩ = some (.slice A0_6 l0_6.length c0_6) := (blk_cell BK309.out 6).trans rfl; have hfz17_0 := blk_frozen BK309.out 0; have hfz17_1 := blk_frozen BK309.out 1; have hfz17_2 := blk_frozen BK309.out 2; have hfz17_3 := blk_frozen BK309.out 3; have hfz17_4 := blk_frozen BK309.out 4; have hfz17_5 := blk_frozen BK309.out 5; have hfz17_6 := blk_frozen BK309.out 6) | ((with_reducible refine gate_callee (f := 21) rfl ?_); refine goesL_ (some 9) rfl rfl Tryd.func21 (by kernel_rfl) rfl #[.agg #[.int .u8 a0_0, .int .i64 a0_1, .int .i64 a0_2, .int .i64 a0_3, .int .i64 a0_4, .int .i64 a0_5, .slice A0_6 l0_6.length c0_6]] rfl (by (try simp only [List.map_toArray, List.map_cons, List.map_nil]); first | done | rfl | (simp only [List.length_drop, List.length_take]; rfl)) ?_; (with_reducible refine (sashref10_Body.calls k a0_0 a0_1 a0_2 a0_3 a0_4 a0_5 _ _ l0_6 t311 _ ?side1 ?side2 A4.out).mono ?_); (case side1 => repeat (first | exact (Kd.C_below HR0_6.out HB.out) | (with_reducible refine Kd.C_alloc ?_ _) | (with_reducible refine Kd.C_drewN ?_ _) | (with_reducible refine Kd.C_drew ?_))); (case side2 => exact HC0_6.out); rintro e w18 ⟨rfl, hb⟩; refine ⟨_, rfl, ?_⟩; have n0_ := Aside0.mk (blk_below (g := gb309) (o := .cells #[.int .u8 a0_0, .int .i64 a0_1, .int .i64 a0_2, .int .i64 a0_3, .int .i64 a0_4, .int .i64 a0_5, .slice A0_6 l0_6.length c0_6] 26 (0, 0)) (by (with_reducible repeat (first | refine blk_drewN ?_ _ | refine blk_drew ?_ | refine blk_alloc ?_ _)); exact BK309.out) hb); have n1_ := Aside0.mk (below_step (by repeat (first | (with_reducible first | exact HB.out | apply below_alloc | apply pw_below_drewN | apply below_drew1 | refine below_set ?_ GE309.out) | exact HB.out)) hb); clear BK309; clear HB; have BK309 := n0_; have HB := n1_; clear n0_ n1_; (try clear hb); (try clear hb2); (try clear hk); (try clear hi)) | ((with_reducible refine gate_callee (f := 39) rfl ?_); refine goesL_ (some 10) rfl rfl Tryd.func39 (by kernel_rfl) rfl #[.string t311] rfl (by (try simp only [List.map_toArray, List.map_cons, List.map_nil]); first | done | rfl | (simp only [List.length_drop, List.length_take]; rfl)) ?_; (with_reducible refine (sashref02_Put.calls k t311 t312 _ A5.out).mono ?_); rintro e w' ⟨rfl, ⟨nd, rfl⟩⟩; refine ⟨_, rfl, ?_⟩; have hcz19_0 : w18.cell? ⟨gb309, 0, none⟩ = some (.int .u8 a0_0) := (blk_cell BK309.out 0).trans rfl; have hcz19_1 : w18.cell? ⟨gb309, 1, none⟩ = some (.int .i64 a0_1) := (blk_cell BK309.out 1).trans rfl; have hcz19_2 : w18.cell? ⟨gb309, 2, none⟩ = some (.int .i64 a0_2) := (blk_cell BK309.out 2).trans rfl; have hcz19_3 : w18.cell? ⟨gb309, 3, none⟩ = some (.int .i64 a0_3) := (blk_cell BK309.out 3).trans rfl; have hcz19_4 : w18.cell? ⟨gb309, 4, none⟩ = some (.int .i64 a0_4) := (blk_cell BK309.out 4).trans rfl; have hcz19_5 : w18.cell? ⟨gb309, 5, none⟩ = some (.int .i64 a0_5) := (blk_cell BK309.out 5).trans rfl; have hcz19_6 : w18.cell? ⟨gb309, 6, none⟩ = some (.slice A0_6 l0_6.length c0_6) := (blk_cell BK309.out 6).trans rfl; have hfz19_0 := blk_frozen BK309.out 0; have hfz19_1 := blk_frozen BK309.out 1; have hfz19_2 := blk_frozen BK309.out 2; have hfz19_3 := blk_frozen BK309.out 3; have hfz19_4 := blk_frozen BK309.out 4; have hfz19_5 := blk_frozen BK309.out 5; have hfz19_6 := blk_frozen BK309.out 6) | (go_at_call 40; (with_reducible refine (sashref05_Depth.calls k a0_0 a0_1 a0_2 a0_3 a0_4 a0_5 _ _ l0_6 t313 _ ?side1 ?side2 A12.out).mono ?_); (case side1 => repeat (first | exact (Kd.C_below HR0_6.out (by repeat (first | (with_reducible first | exact HB.out | apply below_alloc | apply pw_below_drewN | apply below_drew1 | refine below_set ?_ GE309.out) | exact HB.out))) | (with_reducible refine Kd.C_alloc ?_ _) | (with_reducible refine Kd.C_drewN ?_ _) | (with_reducible refine Kd.C_drew ?_))); (case side2 => exact HC0_6.out); rintro e w20 ⟨rfl, hb⟩; have n0_ := Aside0.mk (blk_below (g := gb309) (o := .cells #[.int .u8 a0_0, .int .i64 a0_1, .int .i64 a0_2, .int .i64 a0_3, .int .i64 a0_4, .int .i64 a0_5, .slice A0_6 l0_6.length c0_6] 26 (0, 0)) (by (with_reducible repeat (first | refine blk_drewN ?_ _ | refine blk_drew ?_ | refine blk_alloc ?_ _)); exact BK309.out) hb); have n1_ := Aside0.mk (below_step (by repeat (first | (with_reducible first | exact HB.out | apply below_alloc | apply pw_below_drewN | apply below_drew1 | refine below_set ?_ GE309.out) | exact HB.out)) hb); clear BK309; clear HB; have BK309 := n0_; have HB := n1_; clear n0_ n1_; (try clear hb); (try clear hb2); (try clear hk); (try clear hi)))
    go_ret2
    exact ⟨by first | rfl | (simp [errW_none, errW_some] <;> rfl) | (simp [*, errW_none, errW_some] <;> rfl), by repeat (first | (with_reducible first | exact HB.out | apply below_alloc | apply pw_below_drewN | apply below_drew1 | refine below_set ?_ GE309.out) | exact HB.out)⟩
   ·rw [if_neg c13] at H
    have c13b0 : decide (1000 < t313) = false := decide_eq_false c13
    clear c13
    simp only [Option.some.injEq, Prod.mk.injEq] at H
    obtain ⟨rfl, rfl⟩ := H
    go_enter Tryd.func18, Tryd.ntmps18
    go_wp2_with (first | ((with_reducible refine gate_dst (N := 1) rfl ?_); refine box_event ?hg (N := 1) ?hd (cs := #[.int .u8 a0_0, .int .i64 a0_1, .int .i64 a0_2, .int .i64 a0_3, .int .i64 a0_4, .int .i64 a0_5, .slice A0_6 l0_6.length c0_6]) (t := 26) ?hr ?_; (case hd => rfl); (case hg => rfl); (case hr => first | (go_simp; done) | (go_simp; rfl)); intro gb309 hg w21 hbox hb; have n0_ := Aside0.mk (below_step (by repeat (first | (with_reducible first | exact HB.out | apply below_alloc | apply pw_below_drewN | apply below_drew1) | exact HB.out)) hb); have n1_ := Aside0.mk (hbox); have n2_ := Aside0.mk ((by rw [hg]; exact (below_size (by repeat (first | (with_reducible first | exact HB.out | apply below_alloc | apply pw_below_drewN | apply below_drew1) | exact HB.out))) : w.heap.size ≤ gb309)); have n3_ := Aside0.mk ((by rw [hg]; exact (below_size (by repeat (first | (with_reducible first | exact HB.out | apply below_alloc | apply pw_below_drewN | apply below_drew1) | exact HB.out))) : w.heap.size ≤ gb309)); clear HB; have HB := n0_; have BK309 := n1_; have GW309 := n2_; have GE309 := n3_; clear n0_ n1_ n2_ n3_; clear hb hbox hg; have hcz22_0 : w21.cell? ⟨gb309, 0, none⟩ = some (.int .u8 a0_0) := (blk_cell BK309.out 0).trans rfl; have hcz22_1 : w21.cell? ⟨gb309, 1, none⟩ = some (.int .i64 a0_1) := (blk_cell BK309.out 1).trans rfl; have hcz22_2 : w21.cell? ⟨gb309, 2, none⟩ = some (.int .i64 a0_2) := (blk_cell BK309.out 2).trans rfl; have hcz22_3 : w21.cell? ⟨gb309, 3, none⟩ = some (.int .i64 a0_3) := (blk_cell BK309.out 3).trans rfl; have hcz22_4 : w21.cell? ⟨gb309, 4, none⟩ = some (.int .i64 a0_4) := (blk_cell BK309.out 4).trans rfl; have hcz22_5 : w21.cell? ⟨gb309, 5, none⟩ = some (.int .i64 a0_5) := (blk_cell BK309.out 5).trans rfl; have hcz22_6 : w21.cell? ⟨gb309, 6, none⟩ = some (.slice A0_6 l0_6.length c0_6) := (blk_cell BK309.out 6).trans rfl; have hfz22_0 := blk_frozen BK309.out 0; have hfz22_1 := blk_frozen BK309.out 1; have hfz22_2 := blk_frozen BK309.out 2; have hfz22_3 := blk_frozen BK309.out 3; have hfz22_4 := blk_frozen BK309.out 4; have hfz22_5 := blk_frozen BK309.out 5; have hfz22_6 := blk_frozen BK309.out 6) | ((with_reducible refine gate_callee (f := 20) rfl ?_); refine goesL_ (some 6) rfl rfl Tryd.func20 (by kernel_rfl) rfl #[.agg #[.int .u8 a0_0, .int .i64 a0_1, .int .i64 a0_2, .int .i64 a0_3, .int .i64 a0_4, .int .i64 a0_5, .slice A0_6 l0_6.length c0_6]] rfl (by (try simp only [List.map_toArray, List.map_cons, List.map_nil]); first | done | rfl | (simp only [List.length_drop, List.length_take]; rfl)) ?_; (with_reducible refine (sashref06_Tiles.calls k a0_0 a0_1 a0_2 a0_3 a0_4 a0_5 _ _ l0_6 true _ ?side1 ?side2 A2.out).mono ?_); (case side1 => repeat (first | exact (Kd.C_below HR0_6.out HB.out) | (with_reducible refine Kd.C_alloc ?_ _) | (with_reducible refine Kd.C_drewN ?_ _) | (with_reducible refine Kd.C_drew ?_))); (case side2 => exact HC0_6.out); rintro e w23 ⟨rfl, hb⟩; refine ⟨_, rfl, ?_⟩; have n0_ := Aside0.mk (blk_below (g := gb309) (o := .cells #[.int .u8 a0_0, .int .i64 a0_1, .int .i64 a0_2, .int .i64 a0_3, .int .i64 a0_4, .int .i64 a0_5, .slice A0_6 l0_6.length c0_6] 26 (0, 0)) (by (with_reducible repeat (first | refine blk_drewN ?_ _ | refine blk_drew ?_ | refine blk_alloc ?_ _)); exact BK309.out) hb); have n1_ := Aside0.mk (below_step (by repeat (first | (with_reducible first | exact HB.out | apply below_alloc | apply pw_below_drewN | apply below_drew1 | refine below_set ?_ GE309.out) | exact HB.out)) hb); clear BK309; clear HB; have BK309 := n0_; have HB := n1_; clear n0_ n1_; (try clear hb); (try clear hb2); (try clear hk); (try clear hi); have hcz24_0 : w23.cell? ⟨gb309, 0, none⟩ = some (.int .u8 a0_0) := (blk_cell BK309.out 0).trans rfl; have hcz24_1 : w23.cell? ⟨gb309, 1, none⟩ = some (.int .i64 a0_1) := (blk_cell BK309.out 1).trans rfl; have hcz24_2 : w23.cell? ⟨gb309, 2, none⟩ = some (.int .i64 a0_2) := (blk_cell BK309.out 2).trans rfl; have hcz24_3 : w23.cell? ⟨gb309, 3, none⟩ = some (.int .i64 a0_3) := (blk_cell BK309.out 3).trans rfl; have hcz24_4 : w23.cell? ⟨gb309, 4, none⟩ = some (.int .i64 a0_4) := (blk_cell BK309.out 4).trans rfl; have hcz24_5 : w23.cell? ⟨gb309, 5, none⟩ = some (.int .i64 a0_5) := (blk_cell BK309.out 5).trans rfl; have hcz24_6 : w23.cell? ⟨gb309, 6, none⟩ = some (.slice A0_6 l0_6.length c0_6) := (blk_cell BK309.out 6).trans rfl; have hfz24_0 := blk_frozen BK309.out 0; have hfz24_1 := blk_frozen BK309.out 1; have hfz24_2 := blk_frozen BK309.out 2; have hfz24_3 := blk_frozen BK309.out 3; have hfz24_4 := blk_frozen BK309.out 4; have hfz24_5 := blk_frozen BK309.out 5; have hfz24_6 := blk_frozen BK309.out 6) | ((with_reducible refine gate_callee (f := 21) rfl ?_); refine goesL_ (some 9) rfl rfl Tryd.func21 (by kernel_rfl) rfl #[.agg #[.int .u8 a0_0, .int .i64 a0_1, .int .i64 a0_2, .int .i64 a0_3, .int .i64 a0_4, .int .i64 a0_5, .slice A0_6 l0_6.length c0_6]] rfl (by (try simp only [List.map_toArray, List.map_cons, List.map_nil]); first | done | rfl | (simp only [List.length_drop, List.length_take]; rfl)) ?_; (with_reducible refine (sashref10_Body.calls k a0_0 a0_1 a0_2 a0_3 a0_4 a0_5 _ _ l0_6 t311 _ ?side1 ?side2 A4.out).mono ?_); (case side1 => repeat (first | exact (Kd.C_below HR0_6.out HB.out) | (with_reducible refine Kd.C_alloc ?_ _) | (with_reducible refine Kd.C_drewN ?_ _) | (with_reducible refine Kd.C_drew ?_))); (case side2 => exact HC0_6.out); rintro e w25 ⟨rfl, hb⟩; refine ⟨_, rfl, ?_⟩; have n0_ := Aside0.mk (blk_below (g := gb309) (o := .cells #[.int .u8 a0_0, .int .i64 a0_1, .int .i64 a0_2, .int .i64 a0_3, .int .i64 a0_4, .int .i64 a0_5, .slice A0_6 l0_6.length c0_6] 26 (0, 0)) (by (with_reducible repeat (first | refine blk_drewN ?_ _ | refine blk_drew ?_ | refine blk_alloc ?_ _)); exact BK309.out) hb); have n1_ := Aside0.mk (below_step (by repeat (first | (with_reducible first | exact HB.out | apply below_alloc | apply pw_below_drewN | apply below_drew1 | refine below_set ?_ GE309.out) | exact HB.out)) hb); clear BK309; clear HB; have BK309 := n0_; have HB := n1_; clear n0_ n1_; (try clear hb); (try clear hb2); (try clear hk); (try clear hi)) | ((with_reducible refine gate_callee (f := 39) rfl ?_); refine goesL_ (some 10) rfl rfl Tryd.func39 (by kernel_rfl) rfl #[.string t311] rfl (by (try simp only [List.map_toArray, List.map_cons, List.map_nil]); first | done | rfl | (simp only [List.length_drop, List.length_take]; rfl)) ?_; (with_reducible refine (sashref02_Put.calls k t311 t312 _ A5.out).mono ?_); rintro e w' ⟨rfl, ⟨nd, rfl⟩⟩; refine ⟨_, rfl, ?_⟩; have hcz26_0 : w25.cell? ⟨gb309, 0, none⟩ = some (.int .u8 a0_0) := (blk_cell BK309.out 0).trans rfl; have hcz26_1 : w25.cell? ⟨gb309, 1, none⟩ = some (.int .i64 a0_1) := (blk_cell BK309.out 1).trans rfl; have hcz26_2 : w25.cell? ⟨gb309, 2, none⟩ = some (.int .i64 a0_2) := (blk_cell BK309.out 2).trans rfl; have hcz26_3 : w25.cell? ⟨gb309, 3, none⟩ = some (.int .i64 a0_3) := (blk_cell BK309.out 3).trans rfl; have hcz26_4 : w25.cell? ⟨gb309, 4, none⟩ = some (.int .i64 a0_4) := (blk_cell BK309.out 4).trans rfl; have hcz26_5 : w25.cell? ⟨gb309, 5, none⟩ = some (.int .i64 a0_5) := (blk_cell BK309.out 5).trans rfl; have hcz26_6 : w25.cell? ⟨gb309, 6, none⟩ = some (.slice A0_6 l0_6.length c0_6) := (blk_cell BK309.out 6).trans rfl; have hfz26_0 := blk_frozen BK309.out 0; have hfz26_1 := blk_frozen BK309.out 1; have hfz26_2 := blk_frozen BK309.out 2; have hfz26_3 := blk_frozen BK309.out 3; have hfz26_4 := blk_frozen BK309.out 4; have hfz26_5 := blk_frozen BK309.out 5; have hfz26_6 := blk_frozen BK309.out 6) | (go_at_call 40; (with_reducible refine (sashref05_Depth.calls k a0_0 a0_1 a0_2 a0_3 a0_4 a0_5 _ _ l0_6 t313 _ ?side1 ?side2 A12.out).mono ?_); (case side1 => repeat (first | exact (Kd.C_below HR0_6.out (by repeat (first | (with_reducible first | exact HB.out | apply below_alloc | apply pw_below_drewN | apply below_drew1 | refine below_set ?_ GE309.out) | exact HB.out))) | (with_reducible refine Kd.C_alloc ?_ _) | (with_reducible refine Kd.C_drewN ?_ _) | (with_reducible refine Kd.C_drew ?_))); (case side2 => exact HC0_6.out); rintro e w27 ⟨rfl, hb⟩; have n0_ := Aside0.mk (blk_below (g := gb309) (o := .cells #[.int .u8 a0_0, .int .i64 a0_1, .int .i64 a0_2, .int .i64 a0_3, .int .i64 a0_4, .int .i64 a0_5, .slice A0_6 l0_6.length c0_6] 26 (0, 0)) (by (with_reducible repeat (first | refine blk_drewN ?_ _ | refine blk_drew ?_ | refine blk_alloc ?_ _)); exact BK309.out) hb); have n1_ := Aside0.mk (below_step (by repeat (first | (with_reducible first | exact HB.out | apply below_alloc | apply pw_below_drewN | apply below_drew1 | refine below_set ?_ GE309.out) | exact HB.out)) hb); clear BK309; clear HB; have BK309 := n0_; have HB := n1_; clear n0_ n1_; (try clear hb); (try clear hb2); (try clear hk); (try clear hi)))
    go_ret2
    exact ⟨by first | rfl | (simp [errW_none, errW_some] <;> rfl) | (simp [*, errW_none, errW_some] <;> rfl), by repeat (first | (with_reducible first | exact HB.out | apply below_alloc | apply pw_below_drewN | apply below_drew1 | refine below_set ?_ GE309.out) | exact HB.out)⟩
 ·replace c3 := Bool.eq_false_iff.mpr c3
  subst c3
  have H1 : (some ((⟨#[]⟩ : ByteArray), 1)) = some (r1, r2) := by rw [if_neg (show ¬ (false = true) by decide)] at H; exact H
  clear H
  have H := H1
  clear H1
  simp only [Option.some.injEq, Prod.mk.injEq] at H
  obtain ⟨rfl, rfl⟩ := H
  go_enter Tryd.func18, Tryd.ntmps18
  go_wp2_with (first | ((with_reducible refine gate_dst (N := 1) rfl ?_); refine box_event ?hg (N := 1) ?hd (cs := #[.int .u8 a0_0, .int .i64 a0_1, .int .i64 a0_2, .int .i64 a0_3, .int .i64 a0_4, .int .i64 a0_5, .slice A0_6 l0_6.length c0_6]) (t := 26) ?hr ?_; (case hd => rfl); (case hg => rfl); (case hr => first | (go_simp; done) | (go_simp; rfl)); intro gb309 hg w28 hbox hb; have n0_ := Aside0.mk (below_step (by repeat (first | (with_reducible first | exact HB.out | apply below_alloc | apply pw_below_drewN | apply below_drew1) | exact HB.out)) hb); have n1_ := Aside0.mk (hbox); have n2_ := Aside0.mk ((by rw [hg]; exact (below_size (by repeat (first | (with_reducible first | exact HB.out | apply below_alloc | apply pw_below_drewN | apply below_drew1) | exact HB.out))) : w.heap.size ≤ gb309)); have n3_ := Aside0.mk ((by rw [hg]; exact (below_size (by repeat (first | (with_reducible first | exact HB.out | apply below_alloc | apply pw_below_drewN | apply below_drew1) | exact HB.out))) : w.heap.size ≤ gb309)); clear HB; have HB := n0_; have BK309 := n1_; have GW309 := n2_; have GE309 := n3_; clear n0_ n1_ n2_ n3_; clear hb hbox hg; have hcz29_0 : w28.cell? ⟨gb309, 0, none⟩ = some (.int .u8 a0_0) := (blk_cell BK309.out 0).trans rfl; have hcz29_1 : w28.cell? ⟨gb309, 1, none⟩ = some (.int .i64 a0_1) := (blk_cell BK309.out 1).trans rfl; have hcz29_2 : w28.cell? ⟨gb309, 2, none⟩ = some (.int .i64 a0_2) := (blk_cell BK309.out 2).trans rfl; have hcz29_3 : w28.cell? ⟨gb309, 3, none⟩ = some (.int .i64 a0_3) := (blk_cell BK309.out 3).trans rfl; have hcz29_4 : w28.cell? ⟨gb309, 4, none⟩ = some (.int .i64 a0_4) := (blk_cell BK309.out 4).trans rfl; have hcz29_5 : w28.cell? ⟨gb309, 5, none⟩ = some (.int .i64 a0_5) := (blk_cell BK309.out 5).trans rfl; have hcz29_6 : w28.cell? ⟨gb309, 6, none⟩ = some (.slice A0_6 l0_6.length c0_6) := (blk_cell BK309.out 6).trans rfl; have hfz29_0 := blk_frozen BK309.out 0; have hfz29_1 := blk_frozen BK309.out 1; have hfz29_2 := blk_frozen BK309.out 2; have hfz29_3 := blk_frozen BK309.out 3; have hfz29_4 := blk_frozen BK309.out 4; have hfz29_5 := blk_frozen BK309.out 5; have hfz29_6 := blk_frozen BK309.out 6) | ((with_reducible refine gate_callee (f := 20) rfl ?_); refine goesL_ (some 6) rfl rfl Tryd.func20 (by kernel_rfl) rfl #[.agg #[.int .u8 a0_0, .int .i64 a0_1, .int .i64 a0_2, .int .i64 a0_3, .int .i64 a0_4, .int .i64 a0_5, .slice A0_6 l0_6.length c0_6]] rfl (by (try simp only [List.map_toArray, List.map_cons, List.map_nil]); first | done | rfl | (simp only [List.length_drop, List.length_take]; rfl)) ?_; (with_reducible refine (sashref06_Tiles.calls k a0_0 a0_1 a0_2 a0_3 a0_4 a0_5 _ _ l0_6 false _ ?side1 ?side2 A2.out).mono ?_); (case side1 => repeat (first | exact (Kd.C_below HR0_6.out HB.out) | (with_reducible refine Kd.C_alloc ?_ _) | (with_reducible refine Kd.C_drewN ?_ _) | (with_reducible refine Kd.C_drew ?_))); (case side2 => exact HC0_6.out); rintro e w30 ⟨rfl, hb⟩; refine ⟨_, rfl, ?_⟩; have n0_ := Aside0.mk (blk_below (g := gb309) (o := .cells #[.int .u8 a0_0, .int .i64 a0_1, .int .i64 a0_2, .int .i64 a0_3, .int .i64 a0_4, .int .i64 a0_5, .slice A0_6 l0_6.length c0_6] 26 (0, 0)) (by (with_reducible repeat (first | refine blk_drewN ?_ _ | refine blk_drew ?_ | refine blk_alloc ?_ _)); exact BK309.out) hb); have n1_ := Aside0.mk (below_step (by repeat (first | (with_reducible first | exact HB.out | apply below_alloc | apply pw_below_drewN | apply below_drew1 | refine below_set ?_ GE309.out) | exact HB.out)) hb); clear BK309; clear HB; have BK309 := n0_; have HB := n1_; clear n0_ n1_; (try clear hb); (try clear hb2); (try clear hk); (try clear hi)))
  go_ret2
  exact ⟨by first | rfl | (simp [errW_none, errW_some] <;> rfl) | (simp [*, errW_none, errW_some] <;> rfl), by repeat (first | (with_reducible first | exact HB.out | apply below_alloc | apply pw_below_drewN | apply below_drew1 | refine below_set ?_ GE309.out) | exact HB.out)⟩


end Go.Proofs.YtakhnigalkjhhaaDoor.PTileChecks
