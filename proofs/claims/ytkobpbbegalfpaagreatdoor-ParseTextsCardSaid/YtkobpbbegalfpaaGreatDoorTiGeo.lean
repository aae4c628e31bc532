/-
  Joined texts: PParseBodiesx12, PxDepth, SuPureP, NumReadP, PsRef, PsRef2, TiGeo.
-/
import Derived.Test.YtkobpbbegalfpaaGreatDoorPsBase
import Derived.Test.YtkobpbbegalfpaaGreatDoorPParseBodiesx6
import Derived.Test.YtkobpbbegalfpaaGreatDoorPParseBodiesx10
import Derived.Test.YtkobpbbegalfpaaGreatDoorPParseBodiesx11
import Derived.Test.YtkobpbbegalfpaaGreatDoorPParseBodiesx4
import Derived.Test.YtkobpbbegalfpaaGreatDoorNuUintH
import Derived.Test.YtkobpbbegalfpaaGreatDoorPsTot
import Derived.Test.YtkobpbbegalfpaaGreatDoorPsCell
namespace Go.Proofs.YtkobpbbegalfpaaGreatDoor.PParseBodies
open Go.RowKit YtkobpbbegalfpaaGreatDoorW.PrintWords YtkobpbbegalfpaaGreatDoorW.PrintLast YtkobpbbegalfpaaGreatDoorW.PrintMore
attribute [local go_sem] max2_int min2_int max_two min_two max_three min_three max_four min_four
set_option linter.unusedVariables false
set_option linter.unusedSimpArgs false
def sashref01_Digit.f (a0 : Int) : Option (ByteArray) := if 0 ≤ a0 then (if a0 ≤ (wrap64 (a0 + 1)) then (if (wrap64 (a0 + 1)) ≤ 16 then (some ((⟨#[48, 49, 50, 51, 52, 53, 54, 55, 56, 57, 97, 98, 99, 100, 101, 102]⟩ : ByteArray).extract (a0 : Int).toNat ((wrap64 (a0 + 1)) : Int).toNat)) else (none)) else (none)) else (none)
set_option maxHeartbeats 8000000 in
set_option maxRecDepth 100000 in
theorem sashref01_Digit.calls (a0 : Int) (r : ByteArray) (w : World) (h : sashref01_Digit.f a0 = some r) :
  Calls Tryz.prog 55 #[.int .i64 a0] w fun e w' => e = .returned (.string r) ∧ Drawn0 w w' := by
 have H : (if 0 ≤ a0 then (if a0 ≤ (wrap64 (a0 + 1)) then (if (wrap64 (a0 + 1)) ≤ 16 then (some ((⟨#[48, 49, 50, 51, 52, 53, 54, 55, 56, 57, 97, 98, 99, 100, 101, 102]⟩ : ByteArray).extract (a0 : Int).toNat ((wrap64 (a0 + 1)) : Int).toNat)) else (none)) else (none)) else (none)) = some r := h
 clear h
 by_cases c2 : 0 ≤ a0
 ·rw [if_pos c2] at H
  have c2b0 := eq_true c2
  have c2b1 : decide (0 ≤ a0) = true := decide_eq_true c2
  clear c2
  by_cases c3 : a0 ≤ (wrap64 (a0 + 1))
  ·rw [if_pos c3] at H
   have c3b0 := eq_true c3
   have c3b1 : decide (a0 ≤ (wrap64 (a0 + 1))) = true := decide_eq_true c3
   by_cases c4 : (wrap64 (a0 + 1)) ≤ 16
   ·rw [if_pos c4] at H
    have c4b0 := eq_true c4
    have c4b1 : decide ((wrap64 (a0 + 1)) ≤ 16) = true := decide_eq_true c4
    obtain rfl := Option.some.inj H
    go_enter Tryz.func55, Tryz.ntmps55
    go_wp2
    go_ret
    exact ⟨mq39, mq52⟩
   ·rw [if_neg c4] at H
    exact absurd H (by simp)
  ·rw [if_neg c3] at H
   exact absurd H (by simp)
 ·rw [if_neg c2] at H
  exact absurd H (by simp)
def sashref02_From.l0 : Nat → ByteArray → Int → Int → Option (Int)
 | 0, _, _, _ => none
 | k + 1, x1, x5, x6 => if x6 < (x1.size : Int) then (if 0 ≤ x6 then (sashref02_From.l0 k x1 (Int.tmod (wrap64 ((wrap64 ((wrap64 (Int.tdiv x5 2)) + (wrap64 ((Int.tmod x5 2) * 32768)))) + (wrap64 (bt x1 x6)))) 65536) (wrap64 (x6 + 1))) else (none)) else (some (IntKind.u16.wrap (x5)))
def sashref02_From.f (k : Nat) (a0 : Int) (a1 : ByteArray) : Option (Int) := sashref02_From.l0 k a1 (wrap64 (a0)) 0
set_option maxHeartbeats 8000000 in
set_option maxRecDepth 100000 in
theorem sashref02_From.calls (k : Nat) (a0 : Int) (a1 : ByteArray) (r : Int) (w : World) (h : sashref02_From.f k a0 a1 = some r) :
  Calls Tryz.prog 31 #[.int .u16 a0, .string a1] w fun e w' => e = .returned (.int .u16 r) ∧ Drawn0 w w' := by
 have H : (sashref02_From.l0 k a1 (wrap64 (a0)) 0) = some r := h
 clear h
 have H' := ak H
 clear H
 go_enter Tryz.func31, Tryz.ntmps31
 go_wp2
 go_loopg [5, 6] k (fun kq v5 v6 w' => ∃ (x5_1 : Int) (x6_1 : Int), v5 = .int .i64 x5_1 ∧ v6 = .int .i64 x6_1 ∧ Aside0 (sashref02_From.l0 kq a1 x5_1 x6_1 = some r) ∧ Aside0 (kq ≤ k) ∧ Drawn0 w w')
 case atStart => exact ⟨(wrap64 (a0)), (0), mq39, mq39, H', ⟨Nat.le_refl _⟩, mq52⟩
 case round =>
  clear H'
  obtain ⟨x5_1, x6_1, rfl, rfl, HA, HK1, ⟨m1, rfl⟩⟩ := hrel
  cases gk with
  | zero => exact absurd HA.out (by simp [sashref02_From.l0])
  | succ k1 =>
   have H := HA.out
   clear HA
   simp only [sashref02_From.l0] at H
   by_cases c3 : x6_1 < (a1.size : Int)
   ·rw [if_pos c3] at H
    have c3b0 : decide (x6_1 < (a1.size : Int)) = true := decide_eq_true c3
    clear c3
    by_cases c4 : 0 ≤ x6_1
    ·rw [if_pos c4] at H
     have c4b0 : decide (0 ≤ x6_1) = true := decide_eq_true c4
     clear c4
     have H' := ak H
     clear H
     have p5 : 0 ≤ (x6_1 : Int) := of_decide_eq_true mq34
     have q5 : x6_1 < (a1.size : Int) := of_decide_eq_true mq34
     have hx5 := bt_at a1 x6_1
     replace p5 := eq_true p5
     replace q5 := eq_true q5
     go_wp2
     go_roundg k1
     case measure => have := HK1.out; omega
     case rel => exact ⟨(Int.tmod (wrap64 ((wrap64 ((wrap64 (Int.tdiv x5_1 2)) + (wrap64 ((Int.tmod x5_1 2) * 32768)))) + (wrap64 (bt a1 x6_1)))) 65536), (wrap64 (x6_1 + 1)), mq39, mq39, H', ⟨mq47 HK1⟩, mq52⟩
    ·rw [if_neg c4] at H
     exact absurd H (by simp)
   ·rw [if_neg c3] at H
    have c3b0 : decide (x6_1 < (a1.size : Int)) = false := decide_eq_false c3
    clear c3
    obtain rfl := Option.some.inj H
    go_wp2
    go_ret
    exact ⟨mq39, mq52⟩
mutual
def cell_Depth.l0 : Nat → Int → List (S27) → Int → Int → Option (Int)
 | 0, _, _, _, _ => none
 | k + 1, x3, x7, x8, x9 => if x9 < x8 then (if 0 ≤ x9 then (if x9 < (x7.length : Int) then ((cell_Depth.f k ((rd_T27 x7 x9).f0) ((rd_T27 x7 x9).f1.f0) ((rd_T27 x7 x9).f1.f1) ((rd_T27 x7 x9).f1.f2) ((rd_T27 x7 x9).f1.f3) ((rd_T27 x7 x9).f2) ((rd_T27 x7 x9).f3)).bind fun t104 => (cell_Depth.l0 k (mx x3 t104) x7 x8 (wrap64 (x9 + 1)))) else (none)) else (none)) else (some (wrap64 (x3 + 1)))
def cell_Depth.f : Nat → Int → Int → Int → Int → Int → Int → List (S27) → Option (Int)
 | 0, _, _, _, _, _, _, _ => none
 | k + 1, a0_0, a0_1, a0_2, a0_3, a0_4, a0_5, l0_6 => cell_Depth.l0 k 0 l0_6 (l0_6.length : Int) 0
end
set_option maxHeartbeats 8000000 in
set_option maxRecDepth 100000 in
theorem cell_Depth.calls (k : Nat) : ∀ (a0_0 : Int) (a0_1 : Int) (a0_2 : Int) (a0_3 : Int) (a0_4 : Int) (a0_5 : Int) (A0_6 : Option Addr) (c0_6 : Nat) (l0_6 : List (S27)) (r : Int) (w : World) (hr0_6 : Kd.C k27 w A0_6 l0_6.length l0_6) (hc0_6 : l0_6.length ≤ c0_6) (h : cell_Depth.f k a0_0 a0_1 a0_2 a0_3 a0_4 a0_5 l0_6 = some r),
  Calls Tryz.prog 41 #[.agg #[.int .u8 a0_0, .int .i64 a0_1, .int .i64 a0_2, .int .i64 a0_3, .int .i64 a0_4, .int .i64 a0_5, .slice A0_6 l0_6.length c0_6]] w fun e w' => e = .returned (.int .i64 r) ∧ Below w.heap.size w w' := by
 induction k using Nat.strongRecOn with
 | _ k ih =>
 intro a0_0 a0_1 a0_2 a0_3 a0_4 a0_5 A0_6 c0_6 l0_6 r w hr0_6 hc0_6 h
 cases k with
 | zero => exact absurd h (by simp [cell_Depth.f])
 | succ k =>
 simp only [cell_Depth.f] at h
 have hu27 := Tryz.underlying27
 have HR0_6 := ak hr0_6
 have HC0_6 := ak hc0_6
 clear hr0_6 hc0_6
 have HB := ak (Below.refl w.heap.size w)
 have H : (cell_Depth.l0 k 0 l0_6 (l0_6.length : Int) 0) = some r := h
 clear h
 have H' := ak H
 clear H
 go_enter Tryz.func41, Tryz.ntmps41
 go_wp2_with (first | ((with_reducible refine gate_dst (N := 1) rfl ?_); refine bxe 1 #[.int .u8 a0_0, .int .i64 a0_1, .int .i64 a0_2, .int .i64 a0_3, .int .i64 a0_4, .int .i64 a0_5, .slice A0_6 l0_6.length c0_6] 27 (h := ?_); intro gb101 hg w2 hbox hb; have BK101 := ak (hbox); have GW101 := ak ((mq53 : w.heap.size ≤ gb101)); have GE101 := ak ((mq53 : w.heap.size ≤ gb101)); replace HB := ak (below_step kW hb); clear hb hbox hg; obtain ⟨hcz3_0, hcz3_1, hcz3_2, hcz3_3, hcz3_4, hcz3_5, hcz3_6⟩ := cz7 BK101; obtain ⟨hfz3_0, hfz3_1, hfz3_2, hfz3_3, hfz3_4, hfz3_5, hfz3_6⟩ := fz7 BK101))
 go_loopg [3, 9] k (fun kq v3 v9 w' => ∃ (x3_1 : Int) (x9_1 : Int), v3 = .int .i64 x3_1 ∧ v9 = .int .i64 x9_1 ∧ Aside0 (cell_Depth.l0 kq x3_1 l0_6 (l0_6.length : Int) x9_1 = some r) ∧ Aside0 (kq ≤ k) ∧ Aside0 (w'.heap[gb101]? = some (.cells #[.int .u8 a0_0, .int .i64 a0_1, .int .i64 a0_2, .int .i64 a0_3, .int .i64 a0_4, .int .i64 a0_5, (.slice A0_6 l0_6.length c0_6)] 27 (0, 0))) ∧ Aside0 (Below w.heap.size w w'))
 case atStart => exact ⟨(0), (0), mq39, mq39, H', ⟨Nat.le_refl _⟩, ⟨mq28 BK101⟩, ⟨kW⟩⟩
 case round =>
  clear H'
  clear hcz3_0 hcz3_1 hcz3_2 hcz3_3 hcz3_4 hcz3_5 hcz3_6 hfz3_0 hfz3_1 hfz3_2 hfz3_3 hfz3_4 hfz3_5 hfz3_6
  obtain ⟨x3_1, x9_1, rfl, rfl, HA, HK1, BK101, HB⟩ := hrel
  cases gk with
  | zero => exact absurd HA.out (by simp [cell_Depth.l0])
  | succ k1 =>
   have H := HA.out
   clear HA
   simp only [cell_Depth.l0] at H
   by_cases c4 : x9_1 < (l0_6.length : Int)
   ·rw [if_pos c4] at H
    have c4b0 : decide (x9_1 < (l0_6.length : Int)) = true := decide_eq_true c4
    clear c4
    by_cases c5 : 0 ≤ x9_1
    ·rw [if_pos c5] at H
     have c5b0 : decide (0 ≤ x9_1) = true := decide_eq_true c5
     clear c5
     by_cases c6 : x9_1 < (l0_6.length : Int)
     ·rw [if_pos c6] at H
      have c6b0 : decide (x9_1 < (l0_6.length : Int)) = true := decide_eq_true c6
      clear c6
      replace H := Option.bind_eq_some_iff.mp H
      obtain ⟨t104, A70, H⟩ := H
      replace H : (cell_Depth.l0 k1 (mx x3_1 t104) l0_6 (l0_6.length : Int) (wrap64 (x9_1 + 1))) = some r := H
      have A7 := ak A70
      clear A70
      obtain ⟨ji8, hji8⟩ : ∃ j_ : Int, (mx x3_1 t104) = j_ := ⟨_, rfl⟩
      replace H : (cell_Depth.l0 k1 ji8 l0_6 (l0_6.length : Int) (wrap64 (x9_1 + 1))) = some r := mq32 hji8
      (try rw [hji8] at A7)
      have hji8_ : (if x3_1 < t104 then t104 else x3_1) = ji8 := hji8
      have H' := ak H
      clear H
      have p102 : 0 ≤ (x9_1 : Int) := of_decide_eq_true mq34
      have q102 : x9_1 < (l0_6.length : Int) := of_decide_eq_true mq34
      obtain ⟨ad102, A102_6, c102_6, e102, hx102_0, hx102_1, hx102_2, hx102_3, hx102_4, hx102_5, hx102_6, HC102_6, HR102_6⟩ := elC27 HB HR0_6 x9_1 p102 q102
      cases e102
      replace p102 := eq_true p102
      replace q102 := eq_true q102
      go_wp2_with (first | ((with_reducible refine gate_dst (N := 5) rfl ?_); refine bxe 5 #[.int .u8 0, .int .i64 0, .int .i64 0, .int .i64 0, .int .i64 0, .int .i64 0, .slice none 0 0] 27 (h := ?_); intro gb103 hg w9 hbox hb; have BK103 := ak (hbox); have GW103 := ak ((mq53 : w.heap.size ≤ gb103)); have GE103 := ak ((mq53 : w.heap.size ≤ gb103)); replace HB := ak (below_step kW hb); have NB101_103 := kE BK101 hg; have NB103_101 := kE' BK101 hg; replace BK101 := (kB BK101 hb); clear hb hbox hg; have hnb10 := NB103_101.out; have hnc10 := NB101_103.out; obtain ⟨hcz11_0, hcz11_1, hcz11_2, hcz11_3, hcz11_4, hcz11_5, hcz11_6⟩ := cz7 BK103; obtain ⟨hfz11_0, hfz11_1, hfz11_2, hfz11_3, hfz11_4, hfz11_5, hfz11_6⟩ := fz7 BK103) | ((with_reducible refine gate_callee (f := 41) rfl ?_); refine gol (some 15) Tryz.func41 #[.agg #[.int .u8 ((rd_T27 l0_6 x9_1).f0), .int .i64 ((rd_T27 l0_6 x9_1).f1.f0), .int .i64 ((rd_T27 l0_6 x9_1).f1.f1), .int .i64 ((rd_T27 l0_6 x9_1).f1.f2), .int .i64 ((rd_T27 l0_6 x9_1).f1.f3), .int .i64 ((rd_T27 l0_6 x9_1).f2), .slice A102_6 ((rd_T27 l0_6 x9_1).f3).length c102_6]] (h := ?_); (with_reducible refine (ih k1 (mq47 HK1) ((rd_T27 l0_6 x9_1).f0) ((rd_T27 l0_6 x9_1).f1.f0) ((rd_T27 l0_6 x9_1).f1.f1) ((rd_T27 l0_6 x9_1).f1.f2) ((rd_T27 l0_6 x9_1).f1.f3) ((rd_T27 l0_6 x9_1).f2) _ _ ((rd_T27 l0_6 x9_1).f3) t104 _ ?side1 ?side2 A7.out).mono ?_); (case side1 => exact Kd.C_below HR102_6.out kW); (case side2 => exact HC102_6.out); rintro e w12 ⟨rfl, hb⟩; refine ⟨_, rfl, ?_⟩; replace BK101 := ak (blk_below (g := gb101) (o := .cells #[.int .u8 a0_0, .int .i64 a0_1, .int .i64 a0_2, .int .i64 a0_3, .int .i64 a0_4, .int .i64 a0_5, .slice (some ad102) l0_6.length c0_6] 27 (0, 0)) (kC NB101_103 BK101) hb); replace BK103 := ak (blk_below (g := gb103) (o := .cells #[.int .u8 ((rd_T27 l0_6 x9_1).f0), .int .i64 ((rd_T27 l0_6 x9_1).f1.f0), .int .i64 ((rd_T27 l0_6 x9_1).f1.f1), .int .i64 ((rd_T27 l0_6 x9_1).f1.f2), .int .i64 ((rd_T27 l0_6 x9_1).f1.f3), .int .i64 ((rd_T27 l0_6 x9_1).f2), .slice A102_6 ((rd_T27 l0_6 x9_1).f3).length c102_6] 27 (0, 0)) (kP7 BK103) hb); replace HB := ak (below_step kW hb); (try clear hb); (try clear hb2); (try clear hk); (try clear hi)))
      go_roundg k1
      case measure => have := HK1.out; omega
      case rel => exact ⟨(ji8), (wrap64 (x9_1 + 1)), (by first | rfl | (simp; done) | (simp only [← hji8] <;> (first | rfl | simp)) | (simp [*]; done)), mq39, H', ⟨mq47 HK1⟩, ⟨mq28 BK101⟩, ⟨kW⟩⟩
     ·rw [if_neg c6] at H
      exact absurd H (by simp)
    ·rw [if_neg c5] at H
     exact absurd H (by simp)
   ·rw [if_neg c4] at H
    have c4b0 : decide (x9_1 < (l0_6.length : Int)) = false := decide_eq_false c4
    clear c4
    obtain rfl := Option.some.inj H
    go_wp2
    go_ret
    exact ⟨mq37, kW⟩
end Go.Proofs.YtkobpbbegalfpaaGreatDoor.PParseBodies
namespace Go.Proofs.YtkobpbbegalfpaaGreatDoor
open Go.RowKit YtkobpbbegalfpaaGreatDoorW.PrintWords YtkobpbbegalfpaaGreatDoorW.PrintLast YtkobpbbegalfpaaGreatDoorW.PrintMore PParseBodies
set_option linter.unusedVariables false
def stepN (n b : Int) : Int := (n / 2 + n % 2 * 32768 + b) % 65536
def sumL : Int → List UInt8 → Int
 | n, [] => n
 | n, b :: r => sumL (stepN n (b.toNat : Int)) r
theorem stepN_range (n b : Int) : 0 ≤ stepN n b ∧ stepN n b < 65536 := by unfold stepN; omega
theorem sumL_range : ∀ (l : List UInt8) (n : Int), 0 ≤ n → n < 65536 → 0 ≤ sumL n l ∧ sumL n l < 65536
 | [], n, h0, h1 => ⟨h0, h1⟩
 | b :: r, n, _, _ => sumL_range r _ (stepN_range _ _).1 (stepN_range _ _).2
theorem sumL_append : ∀ (a b : List UInt8) (n : Int), sumL n (a ++ b) = sumL (sumL n a) b
 | [], _, _ => rfl
 | x :: r, b, n => sumL_append r b _
theorem wrap_u16 (n : Int) : IntKind.u16.wrap n = n % 65536 := by simp [IntKind.wrap, IntKind.bits, IntKind.signed]
theorem rot_eq (n : Int) (h0 : 0 ≤ n) (h1 : n < 65536) : bits_RotateLeft16.f n (-1) = some (n / 2 + n % 2 * 32768) := by
 have e : Go.bits .and .u64 (IntKind.u64.wrap (-1)) 15 = 15 := by kernel_rfl
 have e2 : IntKind.u64.wrap (16 - 15) = 1 := by kernel_rfl
 unfold bits_RotateLeft16.f
 rw [e, e2, if_pos (by decide), if_pos (by decide)]
 have es : shl .u16 n 15 = n % 2 * 32768 := by
  unfold shl
  rw [wrap_u16, show min ((15 : Int)).toNat IntKind.u16.bits = 15 from rfl]
  omega
 have er : shr .u16 n 1 = n / 2 := by
  unfold shr
  rw [show min ((1 : Int)).toNat IntKind.u16.bits = 1 from rfl]
  omega
 rw [es, er, bits_join .u16 16 (by decide) (fun n h0 h1 => by rw [wrap_u16]; omega) 15 (n % 2 * 32768) (n / 2) (by omega) (by omega) (by omega) (by omega) (by omega) (by omega)]
 congr 1
 omega
theorem bt_nat (s : ByteArray) (i : Nat) (h : i < s.size) : bt s (i : Int) = (s[i].toNat : Int) := by
 unfold bt
 rw [dif_pos (by simpa using h)]
 rfl
theorem sdrop (s : ByteArray) (pos : Nat) (h : pos < s.size) : s.data.toList.drop pos = s[pos] :: s.data.toList.drop (pos + 1) := by
 have hl : pos < s.data.toList.length := by simpa using h
 rw [List.drop_eq_getElem_cons hl]
 rfl
theorem slen (s : ByteArray) : s.data.toList.length = s.size := by simp
theorem wr1 (i : Nat) (h : i < 9223372036854775807) : wrap64 ((i : Int) + 1) = ((i + 1 : Nat) : Int) := by unfold wrap64; omega
theorem from_l1 (s : ByteArray) (l : List ByteArray) (ln j : Int) (hs : s.size ≤ 9223372036854775806) (d : Nat) : ∀ (i k : Nat) (n : Int), s.size - i = d → i ≤ s.size → d < k → 0 ≤ n → n < 65536 →
  sum_From.l1 k n s l ln j (s.size : Int) (i : Int) = sum_From.l0 (k - d - 1) (sumL n (s.data.toList.drop i)) l ln (wrap64 (j + 1)) := by
 induction d with
 | zero =>
  intro i k n hd hi hk h0 h1
  obtain ⟨k, rfl⟩ : ∃ m, k = m + 1 := ⟨k - 1, by omega⟩
  simp only [sum_From.l1]
  rw [if_neg (by omega), List.drop_eq_nil_of_le (by rw [slen]; omega)]
  rfl
 | succ d ih =>
  intro i k n hd hi hk h0 h1
  obtain ⟨k, rfl⟩ : ∃ m, k = m + 1 := ⟨k - 1, by omega⟩
  have hlt : i < s.size := by omega
  have hb : s[i].toNat < 256 := s[i].toNat_lt
  have eS : IntKind.u16.wrap (n / 2 + n % 2 * 32768 + IntKind.u16.wrap (s[i].toNat : Int)) = stepN n (s[i].toNat : Int) := by
   rw [wrap_u16, wrap_u16]; unfold stepN; omega
  simp only [sum_From.l1]
  rw [if_pos (by omega), rot_eq n h0 h1]
  simp only [Option.bind_some]
  rw [if_pos (by omega), if_pos (by omega), bt_nat s i hlt, eS, wr1 i (by omega), sdrop s i hlt]
  have hr := stepN_range n (s[i].toNat : Int)
  rw [ih (i + 1) k _ (by omega) (by omega) (by omega) hr.1 hr.2]
  rw [show k + 1 - (d + 1) - 1 = k - d - 1 from by omega]
  rfl
def allB (l : List ByteArray) : List UInt8 := (l.map (·.data.toList)).flatten
theorem from_l0 (l : List ByteArray) (hl : l.length ≤ 9223372036854775807) (hs : ∀ x ∈ l, x.size ≤ 9223372036854775806) (d : Nat) : ∀ (j k : Nat) (n : Int), l.length - j = d → j ≤ l.length → (allB (l.drop j)).length + 2 * d < k → 0 ≤ n → n < 65536 →
  sum_From.l0 k n l (l.length : Int) (j : Int) = some (sumL n (allB (l.drop j))) := by
 induction d with
 | zero =>
  intro j k n hd hj hk h0 h1
  obtain ⟨k, rfl⟩ : ∃ m, k = m + 1 := ⟨k - 1, by omega⟩
  simp only [sum_From.l0]
  rw [if_neg (by omega), List.drop_eq_nil_of_le (by omega)]
  rfl
 | succ d ih =>
  intro j k n hd hj hk h0 h1
  obtain ⟨k, rfl⟩ : ∃ m, k = m + 1 := ⟨k - 1, by omega⟩
  have hlt : j < l.length := by omega
  have hc : l.drop j = l[j] :: l.drop (j + 1) := List.drop_eq_getElem_cons hlt
  have hrd : rdOf ByteArray.empty l (j : Int) = l[j] := by
   unfold rdOf
   rw [Int.toNat_natCast, List.getD_eq_getElem?_getD, List.getElem?_eq_getElem hlt]
   rfl
  have hB : allB (l.drop j) = l[j].data.toList ++ allB (l.drop (j + 1)) := by rw [hc]; rfl
  have hbl : (allB (l.drop j)).length = l[j].size + (allB (l.drop (j + 1))).length := by rw [hB, List.length_append, slen]
  simp only [sum_From.l0]
  rw [if_pos (by omega), if_pos (by omega), if_pos (by omega), hrd]
  have h := from_l1 l[j] l (l.length : Int) (j : Int) (hs _ (List.getElem_mem hlt)) l[j].size 0 k n (by omega) (by omega) (by omega) h0 h1
  rw [show ((0 : Nat) : Int) = 0 from rfl] at h
  rw [h, wr1 j (by omega)]
  have hr := sumL_range (l[j].data.toList.drop 0) n h0 h1
  rw [ih (j + 1) _ _ (by omega) (by omega) (by omega) hr.1 hr.2, hB, sumL_append, List.drop_zero]
theorem from_pure (c : Int) (h0 : 0 ≤ c) (h1 : c < 65536) (l : List ByteArray) (hl : l.length ≤ 9223372036854775807) (hs : ∀ x ∈ l, x.size ≤ 9223372036854775806) : ∃ k, sum_From.f k c l = some (sumL c (allB l)) := by
 refine ⟨(allB l).length + 2 * l.length + 1, ?_⟩
 unfold sum_From.f
 have h := from_l0 l hl hs l.length 0 ((allB l).length + 2 * l.length + 1) c (by omega) (by omega) (by rw [List.drop_zero]; omega) h0 h1
 rw [List.drop_zero] at h
 exact h
theorem of_pure (l : List ByteArray) (hl : l.length ≤ 9223372036854775807) (hs : ∀ x ∈ l, x.size ≤ 9223372036854775806) : ∃ k, sum_Of.f k l = some (sumL 0 (allB l)) := by
 obtain ⟨k, hk⟩ := from_pure 0 (by omega) (by omega) l hl hs
 exact ⟨k, by unfold sum_Of.f; rw [hk]; rfl⟩
theorem w64u (x : Int) (h0 : 0 ≤ x) (h1 : x ≤ 1000000) : wrap64 x = x := by unfold wrap64; omega
theorem refStep (n b : Int) (h0 : 0 ≤ n) (h1 : n < 65536) (hb0 : 0 ≤ b) (hb1 : b < 256) :
  Int.tmod (wrap64 ((wrap64 ((wrap64 (Int.tdiv n 2)) + (wrap64 ((Int.tmod n 2) * 32768)))) + (wrap64 b))) 65536 = stepN n b := by
 rw [Int.tdiv_eq_ediv_of_nonneg h0, Int.tmod_eq_emod_of_nonneg h0, w64u (n / 2) (by omega) (by omega), w64u (n % 2 * 32768) (by omega) (by omega), w64u b hb0 (by omega),
  w64u (n / 2 + n % 2 * 32768) (by omega) (by omega), w64u (n / 2 + n % 2 * 32768 + b) (by omega) (by omega), Int.tmod_eq_emod_of_nonneg (by omega)]
 rfl
theorem refFrom_l0 (s : ByteArray) (hs : s.size ≤ 9223372036854775806) (d : Nat) : ∀ (i k : Nat) (n : Int), s.size - i = d → i ≤ s.size → d < k → 0 ≤ n → n < 65536 →
  sashref02_From.l0 k s n (i : Int) = some (sumL n (s.data.toList.drop i)) := by
 induction d with
 | zero =>
  intro i k n hd hi hk h0 h1
  obtain ⟨k, rfl⟩ : ∃ m, k = m + 1 := ⟨k - 1, by omega⟩
  simp only [sashref02_From.l0]
  rw [if_neg (by omega), List.drop_eq_nil_of_le (by rw [slen]; omega), wrap_u16]
  show some (n % 65536) = some n
  congr 1; omega
 | succ d ih =>
  intro i k n hd hi hk h0 h1
  obtain ⟨k, rfl⟩ : ∃ m, k = m + 1 := ⟨k - 1, by omega⟩
  have hlt : i < s.size := by omega
  have hb : s[i].toNat < 256 := s[i].toNat_lt
  simp only [sashref02_From.l0]
  rw [if_pos (by omega), if_pos (by omega), bt_nat s i hlt, refStep n (s[i].toNat : Int) h0 h1 (by omega) (by omega), wr1 i (by omega), sdrop s i hlt]
  have hr := stepN_range n (s[i].toNat : Int)
  exact ih (i + 1) k _ (by omega) (by omega) (by omega) hr.1 hr.2
open Go.Lib (parseUintM)
theorem w64b (x : Int) (h0 : 0 ≤ x) (h1 : x ≤ 99999999999) : wrap64 x = x := by unfold wrap64; omega
def outG (x : Nat) : Bool → List UInt8 → Nat × Bool
 | true, _ => (2147483647, true)
 | false, l => match parseUintM 2147483647 x l with
  | .ok u => (u, false)
  | _ => (2147483647, true)
def finP (n x : Nat) : Bool → Int × Int × Int
 | true => (0, 0, 3)
 | false => ((x : Int), (n : Int), 0)
def finR (s : ByteArray) (n : Nat) (r : Nat × Bool) : Int × Int × Int := if n = 0 ∨ (1 < n ∧ bt s 0 = 48) then (0, 0, 2) else finP n r.1 r.2
theorem finP_out (n : Nat) (l : List UInt8) : finP n (outG 0 false l).1 (outG 0 false l).2 = match parseUintM 2147483647 0 l with
  | .ok u => ((u : Int), (n : Int), 0)
  | _ => (0, 0, 3) := by
 simp only [outG]
 rcases parseUintM 2147483647 0 l with u | _ | _ <;> rfl
theorem rdHead_end (s : ByteArray) (n : Nat) (x : Nat) (g : Bool) (k : Nat) (hn : n ≤ s.size) :
  sashref01_Head.j1 (k + 2) s (n : Int) (x : Int) g false = some (finR s n (x, g)) := by
 simp only [sashref01_Head.j1]
 rw [if_neg (by decide)]
 unfold finR
 by_cases h0 : n = 0
 ·rw [if_pos (by omega), if_pos (.inl h0)]
  rfl
 ·rw [if_neg (by omega)]
  by_cases h1 : 1 < n
  ·rw [if_pos (by omega), if_pos (by omega)]
   by_cases h48 : bt s 0 = 48
   ·rw [if_pos (.inr ⟨h1, h48⟩)]
    simp only [sashref01_Head.j2]
    rw [if_pos (by simp [h48])]
   ·rw [if_neg (by omega)]
    simp only [sashref01_Head.j2]
    rw [if_neg (by simp [h48])]
    cases g <;> rfl
  ·rw [if_neg (by omega), if_neg (by omega)]
   simp only [sashref01_Head.j2]
   rw [if_neg (by decide)]
   cases g <;> rfl
theorem outG_step (x : Nat) (g : Bool) (c : UInt8) (hc : 48 ≤ c.toNat ∧ c.toNat ≤ 57) (l : List UInt8) (hx : x ≤ 2147483647) (hg : g = true → x = 2147483647) :
  outG x g (c :: l) = if 2147483647 < x * 10 + (c.toNat - 48) then outG 2147483647 true l else outG (x * 10 + (c.toNat - 48)) g l := by
 cases g with
 | true => split <;> rfl
 | false =>
  have e : parseUintM 2147483647 x (c :: l) = if 2147483647 < x * 10 + (c.toNat - 48) then Lib.NumEnd.range else parseUintM 2147483647 (x * 10 + (c.toNat - 48)) l := by
   show (if 48 ≤ c.toNat ∧ c.toNat ≤ 57 then if 1844674407370955162 ≤ x then Lib.NumEnd.range else if 2147483647 < x * 10 + (c.toNat - 48) then Lib.NumEnd.range else parseUintM 2147483647 (x * 10 + (c.toNat - 48)) l else Lib.NumEnd.syntax) = _
   rw [if_pos hc, if_neg (by omega)]
  simp only [outG]
  rw [e]
  by_cases hov : 2147483647 < x * 10 + (c.toNat - 48)
  ·rw [if_pos hov, if_pos hov]
  ·rw [if_neg hov, if_neg hov]
theorem rdHead_l0 (s : ByteArray) (hs : s.size ≤ 1000000) (d : Nat) : ∀ (i k x : Nat) (g : Bool), s.size - i = d → i ≤ s.size → 2 * d + 2 < k → x ≤ 2147483647 → (g = true → x = 2147483647) →
  sashref01_Head.l0 k s (i : Int) (x : Int) g = some (finR s (i + ((s.data.toList.drop i).takeWhile isD).length) (outG x g ((s.data.toList.drop i).takeWhile isD))) := by
 induction d with
 | zero =>
  intro i k x g hd hi hk hx hg
  obtain ⟨k, rfl⟩ : ∃ m, k = m + 3 := ⟨k - 3, by omega⟩
  have e : sashref01_Head.l0 (k + 3) s (i : Int) (x : Int) g = sashref01_Head.j1 (k + 2) s (i : Int) (x : Int) g false := by
   rw [show k + 3 = (k + 2) + 1 from rfl, sashref01_Head.l0, if_neg (by omega)]
  rw [e, rdHead_end s i x g k hi, List.drop_eq_nil_of_le (by rw [slen]; omega)]
  have hg0 : outG x g [] = (x, g) := by
   cases g with
   | true => rw [hg rfl]; rfl
   | false => rfl
  rw [List.takeWhile_nil, hg0]
  rfl
 | succ d ih =>
  intro i k x g hd hi hk hx hg
  obtain ⟨k, rfl⟩ : ∃ m, k = m + 3 := ⟨k - 3, by omega⟩
  have hlt : i < s.size := by omega
  have hb : s[i].toNat < 256 := s[i].toNat_lt
  rw [sdrop s i hlt, List.takeWhile_cons]
  by_cases hD : isD s[i] = true
  ·have hc := isD_of _ hD
   rw [if_pos hD]
   have e : sashref01_Head.l0 (k + 3) s (i : Int) (x : Int) g = sashref01_Head.j1 (k + 2) s (i : Int) (x : Int) g true := by
    rw [show k + 3 = (k + 2) + 1 from rfl, sashref01_Head.l0, if_pos (by omega), if_pos (by omega), bt_nat s i hlt, if_pos (by omega), decide_eq_true (by omega)]
   have hv : wrap64 ((wrap64 (10 * (x : Int))) + (((s[i].toNat : Int) - 48) % 256)) = ((x * 10 + (s[i].toNat - 48) : Nat) : Int) := by
    have e1 : ((s[i].toNat : Int) - 48) % 256 = (s[i].toNat : Int) - 48 := by omega
    rw [e1, w64b (10 * (x : Int)) (by omega) (by omega), w64b _ (by omega) (by omega)]
    omega
   have e2 : sashref01_Head.j1 (k + 2) s (i : Int) (x : Int) g true = if 2147483647 < x * 10 + (s[i].toNat - 48) then sashref01_Head.l0 (k + 1) s ((i + 1 : Nat) : Int) ((2147483647 : Nat) : Int) true else sashref01_Head.l0 (k + 1) s ((i + 1 : Nat) : Int) ((x * 10 + (s[i].toNat - 48) : Nat) : Int) g := by
    rw [show k + 2 = (k + 1) + 1 from rfl, sashref01_Head.j1, if_pos rfl, if_pos (by omega), if_pos (by omega), bt_nat s i hlt, hv, wr1 i (by omega)]
    by_cases hov : 2147483647 < x * 10 + (s[i].toNat - 48)
    ·rw [if_pos hov, if_pos (by omega)]
     rfl
    ·rw [if_neg hov, if_neg (by omega)]
   rw [e, e2, outG_step x g s[i] hc _ hx hg, List.length_cons]
   rw [show i + (((s.data.toList.drop (i + 1)).takeWhile isD).length + 1) = i + 1 + ((s.data.toList.drop (i + 1)).takeWhile isD).length from by omega]
   by_cases hov : 2147483647 < x * 10 + (s[i].toNat - 48)
   ·rw [if_pos hov, if_pos hov]
    exact ih (i + 1) (k + 1) 2147483647 true (by omega) (by omega) (by omega) (by omega) (fun _ => rfl)
   ·rw [if_neg hov, if_neg hov]
    exact ih (i + 1) (k + 1) _ g (by omega) (by omega) (by omega) (by omega) (fun h => by have := hg h; omega)
  ·rw [if_neg hD]
   have e : sashref01_Head.l0 (k + 3) s (i : Int) (x : Int) g = sashref01_Head.j1 (k + 2) s (i : Int) (x : Int) g false := by
    rw [show k + 3 = (k + 2) + 1 from rfl, sashref01_Head.l0, if_pos (by omega), if_pos (by omega), bt_nat s i hlt]
    by_cases h48 : 48 ≤ s[i].toNat
    ·rw [if_pos (by omega)]
     have h57 : ¬ s[i].toNat ≤ 57 := fun h => hD (by unfold isD; simp [h48, h])
     rw [decide_eq_false (by omega)]
    ·rw [if_neg (by omega)]
   rw [e, rdHead_end s i x g k hi]
   have hg0 : outG x g [] = (x, g) := by
    cases g with
    | true => rw [hg rfl]; rfl
    | false => rfl
   rw [hg0]
   rfl
theorem rdHead_pure (s : ByteArray) (hs : s.size ≤ 1000000) (k : Nat) (hk : 2 * s.size + 2 < k) : sashref01_Head.f k s = some (headR s) := by
 unfold sashref01_Head.f
 have h := rdHead_l0 s hs s.size 0 k 0 false (by omega) (by omega) hk (by omega) (fun h => by cases h)
 rw [List.drop_zero, Nat.zero_add] at h
 have h' : sashref01_Head.l0 k s 0 0 false = _ := h
 rw [h']
 congr 1
 show finR s (headL s).length (outG 0 false (headL s)) = headR s
 unfold finR headR
 by_cases h0 : (headL s).length = 0
 ·rw [if_pos (.inl h0), if_pos h0]
 ·have hle := headL_le s
  have hf := headL_first s (by omega) (by omega)
  have hb : bt s 0 = 48 ↔ (headL s).getD 0 0 = 48 := by
   rw [← hf]
   have e : bt s 0 = ((s[0]'(by omega)).toNat : Int) := bt_nat s 0 (by omega)
   rw [e]
   exact ⟨fun h => (byte48 _).2 (by omega), fun h => by rw [(byte48 _).1 h]; rfl⟩
  rw [if_neg h0]
  by_cases h2 : 1 < (headL s).length ∧ (headL s).getD 0 0 = 48
  ·rw [if_pos (.inr ⟨h2.1, hb.2 h2.2⟩), if_pos h2]
  ·rw [if_neg h2, if_neg (by rintro (h | h); exact h0 h; exact h2 ⟨h.1, hb.1 h.2⟩)]
   exact finP_out _ _
set_option linter.unusedSimpArgs false
theorem headB_R : HeadB headR := ⟨headB_headR⟩
abbrev RT := Int × Int × Int × Int × Int × Int × (List SC) × Int × Int × Int
def badT (q : Int × Nat) : RT := (0, 0, 0, 0, 0, 0, [], 0, q.1, (q.2 : Int))
def okT (c : SC) (j : Nat) : RT := (c.f0, c.f1.f0, c.f1.f1, c.f1.f2, c.f1.f3, c.f2, c.f3, (j : Int), 0, 0)
def cellT : Except (Int × Nat) (SC × Nat) → RT
 | .error q => badT q
 | .ok p => okT p.1 p.2
def onR {α : Type} (r : Except (Int × Nat) α) (K : α → Option RT) : Option RT := match r with
 | .error q => some (badT q)
 | .ok p => K p
theorem is_f (s : ByteArray) (i : Nat) (c : Int) (hc : ¬ c = 0) : sashref11_is.f s (i : Int) c = some (decide (aheadI s i = c)) := by
 unfold sashref11_is.f aheadI
 by_cases h : i < s.size
 ·rw [if_pos (by omega), if_pos (by omega), dif_pos h, bt_nat s i h]
  congr 1
 ·rw [if_neg (by omega), dif_neg h]
  congr 1
  symm
  exact decide_eq_false (fun h => hc h.symm)
theorem bad_f (e : Int) (i : Nat) : sashref11_bad.f e (i : Int) = some (badT (e, i)) := rfl
theorem wadd (i : Nat) (n : Int) (hi : i ≤ 1000000) (h0 : 0 ≤ n) (h1 : n ≤ 1000000) : wrap64 ((i : Int) + n) = ((i + n.toNat : Nat) : Int) := by unfold wrap64; omega
theorem winc (i : Nat) (hi : i ≤ 1000000) : wrap64 ((i : Int) + 1) = ((i + 1 : Nat) : Int) := by unfold wrap64; omega
theorem j2_eq (k : Nat) (s : ByteArray) (hs : s.size ≤ 100000) (i : Nat) (hi : i ≤ s.size) (hk : 2 * s.size + 2 < k) (deep x8 a b c d e f : Int) (h8 : 0 ≤ x8 ∧ x8 < 4) :
  sashref11_cell.j2 (k + 1) s (i : Int) deep x8 a b c d e f = onR (numP headR s i) fun p =>
   sashref11_cell.l0 k s (p.2 : Int) deep (x8 + 1) a (if x8 = 2 then p.1 else b) (if x8 = 3 then p.1 else c) (if x8 = 0 then p.1 else d) (if x8 = 1 then p.1 else e) f := by
 have hz : (s.extract i s.size).size ≤ s.size := by rw [ByteArray.size_extract]; omega
 have hH := rdHead_pure (s.extract i s.size) (by omega) k (by omega)
 have hB := headB_headR (s.extract i s.size)
 have ht : (((i : Int)).toNat) = i := rfl
 simp only [sashref11_cell.j2]
 rw [if_pos (by omega), if_pos (by omega), ht, hH]
 simp only [Option.bind_some]
 have hw8 : wrap64 (x8 + 1) = x8 + 1 := by unfold wrap64; omega
 unfold numP onR
 by_cases he : (headR (s.extract i s.size)).2.2 = 0
 ·rw [if_pos he, if_pos he, hw8, wadd i _ (by omega) hB.1 (by omega)]
  simp only
  by_cases c0 : x8 = 0
  ·subst c0; simp
  ·rw [if_neg c0]
   by_cases c1 : x8 = 1
   ·subst c1; simp
   ·rw [if_neg c1]
    by_cases c2 : x8 = 2
    ·subst c2; simp
    ·rw [if_neg c2]
     have c3 : x8 = 3 := by omega
     subst c3; simp
 ·rw [if_neg he, if_neg he, bad_f]
  rfl
theorem l0_0 (k : Nat) (s : ByteArray) (hs : s.size ≤ 100000) (i : Nat) (hi : i ≤ s.size) (hk : 2 * s.size + 2 < k) (deep a b c d e f : Int) :
  sashref11_cell.l0 (k + 3) s (i : Int) deep 0 a b c d e f = onR (numP headR s i) fun p => sashref11_cell.l0 k s (p.2 : Int) deep 1 a b c p.1 e f := by
 rw [sashref11_cell.l0, if_pos (by decide), if_neg (by decide), if_neg (by decide), sashref11_cell.j1, if_neg (by decide), if_neg (by decide), j2_eq k s hs i hi hk _ _ _ _ _ _ _ _ (by decide)]
 rfl
theorem sep_eq (k : Nat) (s : ByteArray) (hs : s.size ≤ 100000) (i : Nat) (hi : i ≤ s.size) (hk : 2 * s.size + 2 < k) (x8 ch deep a b c d e f : Int) (h8 : 1 ≤ x8 ∧ x8 < 4) (hch : ¬ ch = 0) :
  sashref11_cell.j1 (k + 2) s (i : Int) deep x8 (!decide (aheadI s i = ch)) a b c d e f = onR (eatP s i ch) fun q => onR (numP headR s q) fun p =>
   sashref11_cell.l0 k s (p.2 : Int) deep (x8 + 1) a (if x8 = 2 then p.1 else b) (if x8 = 3 then p.1 else c) (if x8 = 0 then p.1 else d) (if x8 = 1 then p.1 else e) f := by
 rw [sashref11_cell.j1]
 unfold eatP
 by_cases h : aheadI s i = ch
 ·have hl := aheadI_lt hch h
  rw [if_pos h, if_neg (by simp [h]), if_pos (by omega), winc i (by omega), j2_eq k s hs (i + 1) (by omega) hk _ _ _ _ _ _ _ _ (by omega)]
  rfl
 ·rw [if_neg h, if_pos (by simp [h]), bad_f]
  rfl
theorem l0_1 (k : Nat) (s : ByteArray) (hs : s.size ≤ 100000) (i : Nat) (hi : i ≤ s.size) (hk : 2 * s.size + 2 < k) (deep a b c d e f : Int) :
  sashref11_cell.l0 (k + 3) s (i : Int) deep 1 a b c d e f = onR (eatP s i 120) fun q => onR (numP headR s q) fun p => sashref11_cell.l0 k s (p.2 : Int) deep 2 a b c d p.1 f := by
 have h := sep_eq k s hs i hi hk 1 120 deep a b c d e f (by decide) (by decide)
 rw [sashref11_cell.l0, if_pos (by decide), if_pos (by decide), is_f s i 120 (by decide), Option.bind_some]
 have e : (if decide (aheadI s i = 120) = true then (if (1 : Int) > 1 then ((sashref11_is.f s (i : Int) 44).bind fun t290 => (sashref11_cell.j1 (k + 2) s (i : Int) deep 1 (!t290) a b c d e f)) else (sashref11_cell.j1 (k + 2) s (i : Int) deep 1 false a b c d e f)) else (sashref11_cell.j1 (k + 2) s (i : Int) deep 1 true a b c d e f)) = sashref11_cell.j1 (k + 2) s (i : Int) deep 1 (!decide (aheadI s i = 120)) a b c d e f := by
  by_cases h : aheadI s i = 120
  ·rw [if_pos (by simp [h]), if_neg (by decide), decide_eq_true h]; rfl
  ·rw [if_neg (by simp [h]), decide_eq_false h]; rfl
 rw [e, h]
 rfl
theorem l0_2 (k : Nat) (s : ByteArray) (hs : s.size ≤ 100000) (i : Nat) (hi : i ≤ s.size) (hk : 2 * s.size + 2 < k) (deep a b c d e f : Int) :
  sashref11_cell.l0 (k + 3) s (i : Int) deep 2 a b c d e f = onR (eatP s i 44) fun q => onR (numP headR s q) fun p => sashref11_cell.l0 k s (p.2 : Int) deep 3 a p.1 c d e f := by
 have h := sep_eq k s hs i hi hk 2 44 deep a b c d e f (by decide) (by decide)
 rw [sashref11_cell.l0, if_pos (by decide), if_neg (by decide), if_pos (by decide), is_f s i 44 (by decide), Option.bind_some, h]
 rfl
theorem l0_3 (k : Nat) (s : ByteArray) (hs : s.size ≤ 100000) (i : Nat) (hi : i ≤ s.size) (hk : 2 * s.size + 2 < k) (deep a b c d e f : Int) :
  sashref11_cell.l0 (k + 3) s (i : Int) deep 3 a b c d e f = onR (eatP s i 44) fun q => onR (numP headR s q) fun p => sashref11_cell.l0 k s (p.2 : Int) deep 4 a b p.1 d e f := by
 have h := sep_eq k s hs i hi hk 3 44 deep a b c d e f (by decide) (by decide)
 rw [sashref11_cell.l0, if_pos (by decide), if_neg (by decide), if_pos (by decide), is_f s i 44 (by decide), Option.bind_some, h]
 rfl
theorem rect_eq (k : Nat) (s : ByteArray) (hs : s.size ≤ 100000) (i : Nat) (hi : i ≤ s.size) (hk : 2 * s.size + 2 < k) (deep : Int) :
  sashref11_cell.l0 (k + 12) s (i : Int) deep 0 0 0 0 0 0 0 = onR (rectP headR s i) fun r => sashref11_cell.l0 k s (r.2 : Int) deep 4 0 r.1.1 r.1.2.1 r.1.2.2.1 r.1.2.2.2 0 := by
 rw [l0_0 (k + 9) s hs i hi (by omega)]
 unfold rectP
 cases h0 : numP headR s i with
 | error q => rfl
 | ok p0 =>
  have g0 := numP_le headB_R hi h0
  show sashref11_cell.l0 (k + 9) s (p0.2 : Int) deep 1 0 0 0 p0.1 0 0 = _
  rw [l0_1 (k + 6) s hs p0.2 g0 (by omega)]
  cases h1 : eatP s p0.2 120 with
  | error q => simp only [bind, Except.bind, h1]; rfl
  | ok a1 =>
   obtain ⟨e1, l1, _⟩ := eatP_le (by decide) h1
   simp only [bind, Except.bind, h1, onR]
   cases h2 : numP headR s a1 with
   | error q => rfl
   | ok p2 =>
    have g2 := numP_le headB_R (by omega) h2
    simp only
    rw [l0_2 (k + 3) s hs p2.2 g2 (by omega)]
    cases h3 : eatP s p2.2 44 with
    | error q => rfl
    | ok a3 =>
     obtain ⟨e3, l3, _⟩ := eatP_le (by decide) h3
     simp only [onR]
     cases h4 : numP headR s a3 with
     | error q => rfl
     | ok p4 =>
      have g4 := numP_le headB_R (by omega) h4
      simp only
      rw [l0_3 k s hs p4.2 g4 (by omega)]
      cases h5 : eatP s p4.2 44 with
      | error q => rfl
      | ok a5 =>
       simp only [onR]
       cases h6 : numP headR s a5 with
       | error q => rfl
       | ok p6 => rfl
theorem numP_no {s : ByteArray} {i : Nat} {q : Int × Nat} (h : numP headR s i = .error q) : q.1 = 2 ∨ q.1 = 3 := by
 unfold numP at h
 split at h
 ·cases h
 ·rename_i hn
  cases h
  rcases headR_range (s.extract i s.size) with h | h | h
  ·exact absurd h hn
  ·exact .inl h
  ·exact .inr h
theorem eatP_no {s : ByteArray} {i : Nat} {c : Int} {q : Int × Nat} (h : eatP s i c = .error q) : q.1 = 2 ∨ q.1 = 3 := by
 unfold eatP at h
 split at h
 ·cases h
 ·cases h; exact .inl rfl
theorem rectP_no {s : ByteArray} {i : Nat} {q : Int × Nat} (h : rectP headR s i = .error q) : q.1 = 2 ∨ q.1 = 3 := by
 unfold rectP at h
 cases h0 : numP headR s i with
 | error q0 => rw [h0] at h; cases h; exact numP_no h0
 | ok p0 =>
  rw [h0] at h
  cases h1 : eatP s p0.2 120 with
  | error q => simp only [bind, Except.bind, h1] at h; cases h; exact eatP_no h1
  | ok a1 =>
   simp only [bind, Except.bind, h1] at h
   cases h2 : numP headR s a1 with
   | error q => rw [h2] at h; cases h; exact numP_no h2
   | ok p2 =>
    simp only [h2] at h
    cases h3 : eatP s p2.2 44 with
    | error q => rw [h3] at h; cases h; exact eatP_no h3
    | ok a3 =>
     simp only [h3] at h
     cases h4 : numP headR s a3 with
     | error q => rw [h4] at h; cases h; exact numP_no h4
     | ok p4 =>
      simp only [h4] at h
      cases h5 : eatP s p4.2 44 with
      | error q => rw [h5] at h; cases h; exact eatP_no h5
      | ok a5 =>
       simp only [h5] at h
       cases h6 : numP headR s a5 with
       | error q => rw [h6] at h; cases h; exact numP_no h6
       | ok p6 => simp only [h6] at h; cases h
def kidT (kind x y w h id : Int) : Except (Int × Nat) (List SC × Nat) → RT
 | .error q => badT q
 | .ok p => okT ⟨kind, ⟨x, y, w, h⟩, id, p.1⟩ p.2
theorem leaf_eq (k : Nat) (s : ByteArray) (hs : s.size ≤ 100000) (i : Nat) (hi : i ≤ s.size) (hk : 2 * s.size + 2 < k) (deep a x y w h id : Int) :
  sashref11_cell.j3 (k + 1) s (i : Int) deep true a x y w h id = onR (eatP s i 44) fun q => onR (numP headR s q) fun n => some (okT ⟨1, ⟨x, y, w, h⟩, n.1, []⟩ n.2) := by
 rw [sashref11_cell.j3, if_pos rfl, is_f s i 44 (by decide), Option.bind_some]
 unfold eatP
 by_cases hc : aheadI s i = 44
 ·have hl := aheadI_lt (by decide) hc
  have hz : (s.extract (i + 1) s.size).size ≤ s.size := by rw [ByteArray.size_extract]; omega
  have hH := rdHead_pure (s.extract (i + 1) s.size) (by omega) k (by omega)
  have hB := headB_headR (s.extract (i + 1) s.size)
  have ht : (((i + 1 : Nat) : Int)).toNat = i + 1 := rfl
  rw [if_pos (by simp [hc]), if_pos hc, winc i (by omega), if_pos (by omega), if_pos (by omega), ht, hH, Option.bind_some]
  unfold onR numP
  simp only
  by_cases he : (headR (s.extract (i + 1) s.size)).2.2 = 0
  ·rw [if_pos he, if_pos he, wadd (i + 1) _ (by omega) hB.1 (by omega)]
   rfl
  ·rw [if_neg he, if_neg he, bad_f]
   rfl
 ·rw [if_neg (by simp [hc]), if_neg hc, bad_f]
  rfl
theorem l0_4 (k : Nat) (s : ByteArray) (i : Nat) (deep a x y w h id : Int) :
  sashref11_cell.l0 (k + 2) s (i : Int) deep 4 a x y w h id = if aheadI s i = 123 then sashref11_cell.j4 k s (i : Int) deep 125 2 x y w h id else if aheadI s i = 91 then sashref11_cell.j4 k s (i : Int) deep 93 3 x y w h id else sashref11_cell.j3 (k + 1) s (i : Int) deep true a x y w h id := by
 rw [sashref11_cell.l0, if_neg (by decide), is_f s i 123 (by decide), Option.bind_some]
 by_cases h1 : aheadI s i = 123
 ·rw [if_pos (by simp [h1]), if_pos h1, sashref11_cell.j3, if_neg (by decide), is_f s i 91 (by decide), Option.bind_some, if_neg (by rw [h1]; decide)]
 ·rw [if_neg (by simp [h1]), if_neg h1, is_f s i 91 (by decide), Option.bind_some]
  by_cases h2 : aheadI s i = 91
  ·rw [if_pos h2, sashref11_cell.j3, if_neg (by simp [h2]), is_f s i 91 (by decide), Option.bind_some, if_pos (by simp [h2])]
  ·rw [if_neg h2, decide_eq_false h2]
   rfl
theorem j4_eq (k : Nat) (s : ByteArray) (i : Nat) (hi : i ≤ 1000000) (deep : Nat) (c kind x y w h id : Int) :
  sashref11_cell.j4 (k + 1) s (i : Int) (deep : Int) c kind x y w h id = if 1000 ≤ deep then some (badT (3, i)) else sashref11_cell.l1 k s ((i + 1 : Nat) : Int) (deep : Int) c [] kind x y w h id := by
 rw [sashref11_cell.j4]
 by_cases hd : 1000 ≤ deep
 ·rw [if_pos (by omega), if_pos hd, bad_f]
  rfl
 ·rw [if_neg (by omega), if_neg hd, winc i hi]
theorem kid_eq (k : Nat) (s : ByteArray) (i : Nat) (deep : Nat) (hd : deep ≤ 1000000) (c kind x y w h id : Int) (out : List SC) (r : Except (Int × Nat) (SC × Nat)) (hq : ∀ q, r = .error q → q.1 = 2 ∨ q.1 = 3) (ho : out.length < 1000000)
  (hf : sashref11_cell.f k s (i : Int) ((deep + 1 : Nat) : Int) = some (cellT r)) :
  ((sashref11_cell.f k s (i : Int) (wrap64 ((deep : Int) + 1))).bind fun bt367 => (if bt367.2.2.2.2.2.2.2.2.1 = 0 then (if out.length < 1954687338268 then (sashref11_cell.l1 k s bt367.2.2.2.2.2.2.2.1 (deep : Int) c (out ++ [(⟨bt367.1, (⟨bt367.2.1, bt367.2.2.1, bt367.2.2.2.1, bt367.2.2.2.2.1⟩ : S24), bt367.2.2.2.2.2.1, bt367.2.2.2.2.2.2.1⟩ : SC)]) kind x y w h id) else (none)) else (some (bt367.1, bt367.2.1, bt367.2.2.1, bt367.2.2.2.1, bt367.2.2.2.2.1, bt367.2.2.2.2.2.1, bt367.2.2.2.2.2.2.1, bt367.2.2.2.2.2.2.2.1, bt367.2.2.2.2.2.2.2.2.1, bt367.2.2.2.2.2.2.2.2.2))))
   = onR r fun p => sashref11_cell.l1 k s (p.2 : Int) (deep : Int) c (out ++ [p.1]) kind x y w h id := by
 rw [winc deep hd, hf, Option.bind_some]
 cases r with
 | error q =>
  have := hq q rfl
  rw [if_neg (by show ¬ (q.1 = 0); omega)]
  rfl
 | ok p =>
  obtain ⟨⟨a1, ⟨a2, a3, a4, a5⟩, a6, a7⟩, j⟩ := p
  refine (if_pos (show (cellT (Except.ok (⟨a1, ⟨a2, a3, a4, a5⟩, a6, a7⟩, j))).2.2.2.2.2.2.2.2.1 = 0 from rfl)).trans ?_
  refine (if_pos (by omega)).trans ?_
  rfl
theorem par_all (s : ByteArray) (hs : s.size ≤ 100000) : ∀ m,
  (∀ i deep r, i ≤ s.size → deep ≤ 1001 → cellP headR s m i deep = some r → (∀ q, r = .error q → q.1 = 2 ∨ q.1 = 3) ∧ ∀ k, 20 * m + 2 * s.size + 20 ≤ k → sashref11_cell.f k s (i : Int) (deep : Int) = some (cellT r)) ∧
  (∀ c deep i r, i < s.size → deep ≤ 1001 → ¬ c = 0 → kidsP headR s m c deep i = some r → (∀ q, r = .error q → q.1 = 2 ∨ q.1 = 3) ∧ ∀ k, 20 * m + 2 * s.size + 10 ≤ k → ∀ kind x y w h id, sashref11_cell.j4 k s (i : Int) (deep : Int) c kind x y w h id = some (kidT kind x y w h id r)) ∧
  (∀ c deep out j r, j ≤ s.size → deep ≤ 1000 → ¬ c = 0 → 0 < out.length → out.length + (s.size - j) < 200000 → loopP headR s m c deep out j = some r → (∀ q, r = .error q → q.1 = 2 ∨ q.1 = 3) ∧ ∀ k, 20 * m + 2 * s.size + 10 ≤ k → ∀ kind x y w h id, sashref11_cell.l1 k s (j : Int) (deep : Int) c out kind x y w h id = some (kidT kind x y w h id r)) := by
 intro m
 induction m with
 | zero => exact ⟨fun i deep r _ _ h => (by rw [cellP] at h; cases h), fun c deep i r _ _ _ h => (by rw [kidsP] at h; cases h), fun c deep out j r _ _ _ _ _ h => (by rw [loopP] at h; cases h)⟩
 | succ m ih =>
  obtain ⟨ih1, ih2, ih3⟩ := ih
  refine ⟨?_, ?_, ?_⟩
  ·intro i deep r hi hd h
   rw [cellP] at h
   have key : ∀ k, 20 * (m + 1) + 2 * s.size + 20 ≤ k → ∃ k', k = k' + 15 ∧ 20 * m + 2 * s.size + 20 ≤ k' := fun k hk => ⟨k - 15, by omega, by omega⟩
   have hfold : ∀ k', 20 * m + 2 * s.size + 20 ≤ k' → sashref11_cell.f (k' + 15) s (i : Int) (deep : Int) = onR (rectP headR s i) fun r => sashref11_cell.l0 (k' + 2) s (r.2 : Int) (deep : Int) 4 0 r.1.1 r.1.2.1 r.1.2.2.1 r.1.2.2.2 0 := fun k' hk' => by
    show sashref11_cell.l0 (k' + 2 + 12) s (i : Int) (deep : Int) 0 0 0 0 0 0 0 = _
    exact rect_eq (k' + 2) s hs i hi (by omega) _
   cases hr : rectP headR s i with
   | error q =>
    rw [hr] at h hfold
    cases h
    exact ⟨fun q' hq => by cases hq; exact rectP_no hr, fun k hk => by
     obtain ⟨k', rfl, hk'⟩ := key k hk
     rw [hfold k' hk']
     rfl⟩
   | ok p =>
    have hle := rectP_le headB_R hi hr
    have hgt := rectP_gt hr
    rw [hr] at h hfold
    simp only at h
    simp only [onR, l0_4] at hfold
    by_cases h1 : aheadI s p.2 = 123
    ·rw [if_pos h1] at h
     simp only [if_pos h1] at hfold
     have hl := aheadI_lt (by decide) h1
     cases hkid : kidsP headR s m 125 deep p.2 with
     | none => rw [hkid] at h; cases h
     | some x =>
      obtain ⟨hq, hf⟩ := ih2 125 deep p.2 x hl hd (by decide) hkid
      rw [hkid] at h
      cases x with
      | error q =>
       cases h
       exact ⟨fun q' e => by cases e; exact hq q rfl, fun k hk => by obtain ⟨k', rfl, hk'⟩ := key k hk; rw [hfold k' hk', hf k' (by omega)]; rfl⟩
      | ok y =>
       cases h
       exact ⟨fun q' e => (by cases e), fun k hk => by obtain ⟨k', rfl, hk'⟩ := key k hk; rw [hfold k' hk', hf k' (by omega)]; rfl⟩
    ·rw [if_neg h1] at h
     simp only [if_neg h1] at hfold
     by_cases h2 : aheadI s p.2 = 91
     ·rw [if_pos h2] at h
      simp only [if_pos h2] at hfold
      have hl := aheadI_lt (by decide) h2
      cases hkid : kidsP headR s m 93 deep p.2 with
      | none => rw [hkid] at h; cases h
      | some x =>
       obtain ⟨hq, hf⟩ := ih2 93 deep p.2 x hl hd (by decide) hkid
       rw [hkid] at h
       cases x with
       | error q =>
        cases h
        exact ⟨fun q' e => by cases e; exact hq q rfl, fun k hk => by obtain ⟨k', rfl, hk'⟩ := key k hk; rw [hfold k' hk', hf k' (by omega)]; rfl⟩
       | ok y =>
        cases h
        exact ⟨fun q' e => (by cases e), fun k hk => by obtain ⟨k', rfl, hk'⟩ := key k hk; rw [hfold k' hk', hf k' (by omega)]; rfl⟩
     ·rw [if_neg h2] at h
      simp only [if_neg h2] at hfold
      have hlf : ∀ k', 20 * m + 2 * s.size + 20 ≤ k' → sashref11_cell.f (k' + 15) s (i : Int) (deep : Int) = onR (eatP s p.2 44) fun q => onR (numP headR s q) fun n => some (okT ⟨1, ⟨p.1.1, p.1.2.1, p.1.2.2.1, p.1.2.2.2⟩, n.1, []⟩ n.2) := fun k' hk' => by
       rw [hfold k' hk', leaf_eq k' s hs p.2 hle (by omega)]
      cases he : eatP s p.2 44 with
      | error q =>
       rw [he] at h hlf
       cases h
       exact ⟨fun q' e => by cases e; exact eatP_no he, fun k hk => by obtain ⟨k', rfl, hk'⟩ := key k hk; rw [hlf k' hk']; rfl⟩
      | ok a =>
       rw [he] at h hlf
       simp only [onR] at h hlf
       cases hn : numP headR s a with
       | error q =>
        rw [hn] at h hlf
        cases h
        exact ⟨fun q' e => by cases e; exact numP_no hn, fun k hk => by obtain ⟨k', rfl, hk'⟩ := key k hk; rw [hlf k' hk']; rfl⟩
       | ok n =>
        rw [hn] at h hlf
        cases h
        exact ⟨fun q' e => (by cases e), fun k hk => by obtain ⟨k', rfl, hk'⟩ := key k hk; rw [hlf k' hk']; rfl⟩
  ·intro c deep i r hi hd hc h
   rw [kidsP] at h
   have key : ∀ k, 20 * (m + 1) + 2 * s.size + 10 ≤ k → ∃ k', k = k' + 3 ∧ 20 * m + 2 * s.size + 20 ≤ k' := fun k hk => ⟨k - 3, by omega, by omega⟩
   by_cases hdp : 1000 ≤ deep
   ·rw [if_pos hdp] at h
    cases h
    refine ⟨fun q' e => by cases e; exact .inr rfl, fun k hk kind x y w h id => ?_⟩
    obtain ⟨k', rfl, hk'⟩ := key k hk
    rw [j4_eq (k' + 2) s i (by omega), if_pos hdp]
    rfl
   ·rw [if_neg hdp] at h
    cases hcl : cellP headR s m (i + 1) (deep + 1) with
    | none => rw [hcl] at h; cases h
    | some x =>
     obtain ⟨hq, hf⟩ := ih1 (i + 1) (deep + 1) x (by omega) (by omega) hcl
     have hgo : ∀ k', 20 * m + 2 * s.size + 20 ≤ k' → ∀ kind x0 y w h id, sashref11_cell.j4 (k' + 3) s (i : Int) (deep : Int) c kind x0 y w h id = onR x fun p => sashref11_cell.l1 k' s (p.2 : Int) (deep : Int) c ([] ++ [p.1]) kind x0 y w h id := fun k' hk' kind x0 y w h id => by
      rw [j4_eq (k' + 2) s i (by omega), if_neg hdp, sashref11_cell.l1, if_pos (by decide), sashref11_cell.j6, if_pos rfl, if_neg (by decide)]
      exact kid_eq k' s (i + 1) deep (by omega) c kind x0 y w h id [] x hq (by decide) (hf k' hk')
     rw [hcl] at h
     cases x with
     | error q =>
      cases h
      exact ⟨fun q' e => by cases e; exact hq q rfl, fun k hk kind x y w h id => by obtain ⟨k', rfl, hk'⟩ := key k hk; rw [hgo k' hk']; rfl⟩
     | ok p =>
      have hp := (places headR headB_R s m).1 (i + 1) (deep + 1) p (by omega) hcl
      obtain ⟨hq3, hf3⟩ := ih3 c deep [p.1] p.2 r hp.2 (by omega) hc (by simp) (by simp; omega) h
      exact ⟨hq3, fun k hk kind x y w h id => by obtain ⟨k', rfl, hk'⟩ := key k hk; rw [hgo k' hk']; exact hf3 k' (by omega) kind x y w h id⟩
  ·intro c deep out j r hj hd hc ho0 hol h
   rw [loopP] at h
   have key : ∀ k, 20 * (m + 1) + 2 * s.size + 10 ≤ k → ∃ k', k = k' + 2 ∧ 20 * m + 2 * s.size + 20 ≤ k' := fun k hk => ⟨k - 2, by omega, by omega⟩
   by_cases hcn : out.length < 2 ∨ ¬ aheadI s j = c
   ·rw [if_pos hcn] at h
    have hjump : ∀ k' kind x y w h id, sashref11_cell.l1 (k' + 2) s (j : Int) (deep : Int) c out kind x y w h id = sashref11_cell.j6 (k' + 1) s (j : Int) (deep : Int) c out true kind x y w h id := fun k' kind x y w h id => by
     rw [sashref11_cell.l1]
     by_cases h2 : out.length < 2
     ·rw [if_pos (by omega)]
     ·rw [if_neg (by omega), is_f s j c hc, Option.bind_some, decide_eq_false (hcn.resolve_left h2)]
      rfl
    cases he : eatP s j 44 with
    | error q =>
     rw [he] at h
     cases h
     refine ⟨fun q' e => by cases e; exact eatP_no he, fun k hk kind x y w h id => ?_⟩
     obtain ⟨k', rfl, hk'⟩ := key k hk
     have hne : ¬ aheadI s j = 44 := by intro h; unfold eatP at he; rw [if_pos h] at he; cases he
     have hq : q = (2, j) := by unfold eatP at he; rw [if_neg hne] at he; cases he; rfl
     subst hq
     rw [hjump, sashref11_cell.j6, if_pos rfl, if_pos (by omega), is_f s j 44 (by decide), Option.bind_some, if_neg (by simp [hne]), bad_f]
     rfl
    | ok a =>
     obtain ⟨rfl, hl, hb⟩ := eatP_le (by decide) he
     have hc44 : aheadI s j = 44 := by unfold eatP at he; split at he; assumption; cases he
     rw [he] at h
     simp only at h
     cases hcl : cellP headR s m (j + 1) (deep + 1) with
     | none => rw [hcl] at h; cases h
     | some x =>
      obtain ⟨hq, hf⟩ := ih1 (j + 1) (deep + 1) x (by omega) (by omega) hcl
      have hgo : ∀ k', 20 * m + 2 * s.size + 20 ≤ k' → ∀ kind x0 y w h id, sashref11_cell.l1 (k' + 2) s (j : Int) (deep : Int) c out kind x0 y w h id = onR x fun p => sashref11_cell.l1 k' s (p.2 : Int) (deep : Int) c (out ++ [p.1]) kind x0 y w h id := fun k' hk' kind x0 y w h id => by
       rw [hjump, sashref11_cell.j6, if_pos rfl, if_pos (by omega), is_f s j 44 (by decide), Option.bind_some, if_pos (by simp [hc44]), winc j (by omega)]
       exact kid_eq k' s (j + 1) deep (by omega) c kind x0 y w h id out x hq (by omega) (hf k' hk')
      rw [hcl] at h
      cases x with
      | error q =>
       cases h
       exact ⟨fun q' e => by cases e; exact hq q rfl, fun k hk kind x y w h id => by obtain ⟨k', rfl, hk'⟩ := key k hk; rw [hgo k' hk']; rfl⟩
      | ok p =>
       have hp := (places headR headB_R s m).1 (j + 1) (deep + 1) p (by omega) hcl
       obtain ⟨hq3, hf3⟩ := ih3 c deep (out ++ [p.1]) p.2 r hp.2 hd hc (by simp) (by simp; omega) h
       exact ⟨hq3, fun k hk kind x y w h id => by obtain ⟨k', rfl, hk'⟩ := key k hk; rw [hgo k' hk']; exact hf3 k' (by omega) kind x y w h id⟩
   ·rw [if_neg hcn] at h
    cases h
    refine ⟨fun q' e => (by cases e), fun k hk kind x y w h id => ?_⟩
    obtain ⟨k', rfl, hk'⟩ := key k hk
    have h2 : ¬ out.length < 2 := fun h => hcn (.inl h)
    have h3 : aheadI s j = c := Classical.byContradiction fun h => hcn (.inr h)
    rw [sashref11_cell.l1, if_neg (by omega), is_f s j c hc, Option.bind_some, decide_eq_true h3, sashref11_cell.j6, if_neg (by decide), winc j (by omega)]
    rfl
theorem refCell_pure (s : ByteArray) (hs : s.size ≤ 100000) (m : Nat) (r : Except (Int × Nat) (SC × Nat)) (h : cellP headR s m 0 1 = some r) (k : Nat) (hk : 20 * m + 2 * s.size + 20 ≤ k) : sashref11_cell.f k s 0 1 = some (cellT r) :=
 ((par_all s hs m).1 0 1 r (Nat.zero_le _) (by decide) h).2 k hk
theorem refCell_no (s : ByteArray) (hs : s.size ≤ 100000) (m : Nat) (q : Int × Nat) (h : cellP headR s m 0 1 = some (.error q)) : q.1 = 2 ∨ q.1 = 3 :=
 ((par_all s hs m).1 0 1 _ (Nat.zero_le _) (by decide) h).1 q rfl
def GoodC (c : SC) : Prop := nodeOk c = true ∧ rectOk c.f1 = true ∧ (linesS c).isSome = true
def GoodT (c : SC) : Prop := ∀ x ∈ cells c, GoodC x
theorem GoodT.kid {c k : SC} (h : GoodT c) (hk : k ∈ c.f3) : GoodT k := fun x hx => h x (cells_kid hk x hx)
theorem tilesB_iff (c : SC) : tilesB c = true ↔ mayB c = true ∧ ∀ x ∈ cells c, (linesS x).isSome = true := by
 unfold tilesB walkV
 rw [Bool.and_eq_true, walk_visit]
theorem tiles_good {c : SC} (h : tilesB c = true) : GoodT c := by
 obtain ⟨h1, h2⟩ := (tilesB_iff c).1 h
 have h3 := ((may_iff c).1 h1).2.1
 exact fun x hx => ⟨(h3 x hx).1, (h3 x hx).2, h2 x hx⟩
def leavesOf (c : SC) : List SC := (cells c).filter (fun x => decide (x.f0 = 1))
def lnR (c : SC) : List SR := (cells c).flatMap lnOf
structure Inner (c : SC) : Prop where
 kind : c.f0 = 2 ∨ c.f0 = 3
 two : 2 ≤ c.f3.length
 ok : rectOk c.f1 = true
 cut : cutOk (wholeR c.f1 (c.f0 - 1)) true 0 (sizesOf c) = true
 parts : c.f3.map (·.f1) = cutParts c.f1 (c.f0 - 1) true 0 (sizesOf c)
 lines : lnOf c = cutLines c.f1 (c.f0 - 1) true 0 (sizesOf c)
theorem Inner.ax {c : SC} (h : Inner c) : c.f0 - 1 = 1 ∨ c.f0 - 1 = 2 := by have := h.kind; omega
theorem Inner.whole {c : SC} (h : Inner c) : True := trivial
end Go.Proofs.YtkobpbbegalfpaaGreatDoor
