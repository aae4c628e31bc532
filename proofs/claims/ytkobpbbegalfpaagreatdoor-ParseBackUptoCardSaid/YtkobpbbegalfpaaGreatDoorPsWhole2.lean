/-
  Joined texts: PParseBodiesx12, PxDepth, SuPureP, PsRef, TiGeo, PsSize, PsCatch, PsWhole, PsWhole2.
-/
import Derived.Test.YtkobpbbegalfpaaGreatDoorPsBase
import Derived.Test.YtkobpbbegalfpaaGreatDoorPParseBodiesx6
import Derived.Test.YtkobpbbegalfpaaGreatDoorPParseBodiesx10
import Derived.Test.YtkobpbbegalfpaaGreatDoorPParseBodiesx11
import Derived.Test.YtkobpbbegalfpaaGreatDoorPParseBodiesx4
import Derived.Test.YtkobpbbegalfpaaGreatDoorNuUint
import Derived.Test.YtkobpbbegalfpaaGreatDoorPsTot
import Derived.Test.YtkobpbbegalfpaaGreatDoorPsCell
import Derived.Defers
import Derived.Recover
namespace Go.Proofs.YtkobpbbegalfpaaGreatDoor.PParseBodies
open Go.RowKit YtkobpbbegalfpaaGreatDoorW.PrintWords YtkobpbbegalfpaaGreatDoorW.PrintLast YtkobpbbegalfpaaGreatDoorW.PrintMore
attribute [local go_sem] max2_int min2_int max_two min_two max_three min_three max_four min_four
set_option linter.unusedVariables false
set_option linter.unusedSimpArgs false
mutual
def cell_Depth.l0 : Nat → Int → List (S27) → Int → Int → Option (Int)
 | 0, _, _, _, _ => none
 | k + 1, x3, x7, x8, x9 => if x9 < x8 then (if 0 ≤ x9 then (if x9 < (x7.length : Int) then ((cell_Depth.f k ((rd_T27 x7 x9).f0) ((rd_T27 x7 x9).f1.f0) ((rd_T27 x7 x9).f1.f1) ((rd_T27 x7 x9).f1.f2) ((rd_T27 x7 x9).f1.f3) ((rd_T27 x7 x9).f2) ((rd_T27 x7 x9).f3)).bind fun t104 => (cell_Depth.l0 k (mx x3 t104) x7 x8 (wrap64 (x9 + 1)))) else (none)) else (none)) else (some (wrap64 (x3 + 1)))
def cell_Depth.f : Nat → Int → Int → Int → Int → Int → Int → List (S27) → Option (Int)
 | 0, _, _, _, _, _, _, _ => none
 | k + 1, a0_0, a0_1, a0_2, a0_3, a0_4, a0_5, l0_6 => cell_Depth.l0 k 0 l0_6 (l0_6.length : Int) 0
end
set_option maxHeartbeats 8000000 in
set_option maxRecDepth 100000 in
theorem cell_Depth.calls (k : Nat) : ∀ (a0_0 : Int) (a0_1 : Int) (a0_2 : Int) (a0_3 : Int) (a0_4 : Int) (a0_5 : Int) (A0_6 : Option Addr) (c0_6 : Nat) (l0_6 : List (S27)) (r : Int) (w : World) (hr0_6 : Kd.C k27 w A0_6 l0_6.length l0_6) (hc0_6 : l0_6.length ≤ c0_6) (h : cell_Depth.f k a0_0 a0_1 a0_2 a0_3 a0_4 a0_5 l0_6 = some r),
  Calls Tryz.prog 41 #[.agg #[.int .u8 a0_0, .int .i64 a0_1, .int .i64 a0_2, .int .i64 a0_3, .int .i64 a0_4, .int .i64 a0_5, .slice A0_6 l0_6.length c0_6]] w fun e w' => e = .returned (.int .i64 r) ∧ Below w.heap.size w w' := by
 induction k using Nat.strongRecOn with
 | _ k ih =>
 intro a0_0 a0_1 a0_2 a0_3 a0_4 a0_5 A0_6 c0_6 l0_6 r w hr0_6 hc0_6 h
 cases k with
 | zero => exact absurd h (by simp [cell_Depth.f])
 | succ k =>
 simp only [cell_Depth.f] at h
 have hu27 := Tryz.underlying27
 have HR0_6 := ak hr0_6
 have HC0_6 := ak hc0_6
 clear hr0_6 hc0_6
 have HB := ak (Below.refl w.heap.size w)
 have H : (cell_Depth.l0 k 0 l0_6 (l0_6.length : Int) 0) = some r := h
 clear h
 have H' := ak H
 clear H
 go_enter Tryz.func41, Tryz.ntmps41
 go_wp2_with (first | ((with_reducible refine gate_dst (N := 1) rfl ?_); refine bxe 1 #[.int .u8 a0_0, .int .i64 a0_1, .int .i64 a0_2, .int .i64 a0_3, .int .i64 a0_4, .int .i64 a0_5, .slice A0_6 l0_6.length c0_6] 27 (h := ?_); intro gb101 hg w2 hbox hb; have BK101 := ak (hbox); have GW101 := ak ((mq53 : w.heap.size ≤ gb101)); have GE101 := ak ((mq53 : w.heap.size ≤ gb101)); replace HB := ak (below_step kW hb); clear hb hbox hg; obtain ⟨hcz3_0, hcz3_1, hcz3_2, hcz3_3, hcz3_4, hcz3_5, hcz3_6⟩ := cz7 BK101; obtain ⟨hfz3_0, hfz3_1, hfz3_2, hfz3_3, hfz3_4, hfz3_5, hfz3_6⟩ := fz7 BK101))
 go_loopg [3, 9] k (fun kq v3 v9 w' => ∃ (x3_1 : Int) (x9_1 : Int), v3 = .int .i64 x3_1 ∧ v9 = .int .i64 x9_1 ∧ Aside0 (cell_Depth.l0 kq x3_1 l0_6 (l0_6.length : Int) x9_1 = some r) ∧ Aside0 (kq ≤ k) ∧ Aside0 (w'.heap[gb101]? = some (.cells #[.int .u8 a0_0, .int .i64 a0_1, .int .i64 a0_2, .int .i64 a0_3, .int .i64 a0_4, .int .i64 a0_5, (.slice A0_6 l0_6.length c0_6)] 27 (0, 0))) ∧ Aside0 (Below w.heap.size w w'))
 case atStart => exact ⟨(0), (0), mq39, mq39, H', ⟨Nat.le_refl _⟩, ⟨mq28 BK101⟩, ⟨kW⟩⟩
 case round =>
  clear H'
  clear hcz3_0 hcz3_1 hcz3_2 hcz3_3 hcz3_4 hcz3_5 hcz3_6 hfz3_0 hfz3_1 hfz3_2 hfz3_3 hfz3_4 hfz3_5 hfz3_6
  obtain ⟨x3_1, x9_1, rfl, rfl, HA, HK1, BK101, HB⟩ := hrel
  cases gk with
  | zero => exact absurd HA.out (by simp [cell_Depth.l0])
  | succ k1 =>
   have H := HA.out
   clear HA
   simp only [cell_Depth.l0] at H
   by_cases c4 : x9_1 < (l0_6.length : Int)
   ·rw [if_pos c4] at H
    have c4b0 : decide (x9_1 < (l0_6.length : Int)) = true := decide_eq_true c4
    clear c4
    by_cases c5 : 0 ≤ x9_1
    ·rw [if_pos c5] at H
     have c5b0 : decide (0 ≤ x9_1) = true := decide_eq_true c5
     clear c5
     by_cases c6 : x9_1 < (l0_6.length : Int)
     ·rw [if_pos c6] at H
      have c6b0 : decide (x9_1 < (l0_6.length : Int)) = true := decide_eq_true c6
      clear c6
      replace H := Option.bind_eq_some_iff.mp H
      obtain ⟨t104, A70, H⟩ := H
      replace H : (cell_Depth.l0 k1 (mx x3_1 t104) l0_6 (l0_6.length : Int) (wrap64 (x9_1 + 1))) = some r := H
      have A7 := ak A70
      clear A70
      obtain ⟨ji8, hji8⟩ : ∃ j_ : Int, (mx x3_1 t104) = j_ := ⟨_, rfl⟩
      replace H : (cell_Depth.l0 k1 ji8 l0_6 (l0_6.length : Int) (wrap64 (x9_1 + 1))) = some r := mq32 hji8
      (try rw [hji8] at A7)
      have hji8_ : (if x3_1 < t104 then t104 else x3_1) = ji8 := hji8
      have H' := ak H
      clear H
      have p102 : 0 ≤ (x9_1 : Int) := of_decide_eq_true mq34
      have q102 : x9_1 < (l0_6.length : Int) := of_decide_eq_true mq34
      obtain ⟨ad102, A102_6, c102_6, e102, hx102_0, hx102_1, hx102_2, hx102_3, hx102_4, hx102_5, hx102_6, HC102_6, HR102_6⟩ := elC27 HB HR0_6 x9_1 p102 q102
      cases e102
      replace p102 := eq_true p102
      replace q102 := eq_true q102
      go_wp2_with (first | ((with_reducible refine gate_dst (N := 5) rfl ?_); refine bxe 5 #[.int .u8 0, .int .i64 0, .int .i64 0, .int .i64 0, .int .i64 0, .int .i64 0, .slice none 0 0] 27 (h := ?_); intro gb103 hg w9 hbox hb; have BK103 := ak (hbox); have GW103 := ak ((mq53 : w.heap.size ≤ gb103)); have GE103 := ak ((mq53 : w.heap.size ≤ gb103)); replace HB := ak (below_step kW hb); have NB101_103 := kE BK101 hg; have NB103_101 := kE' BK101 hg; replace BK101 := (kB BK101 hb); clear hb hbox hg; have hnb10 := NB103_101.out; have hnc10 := NB101_103.out; obtain ⟨hcz11_0, hcz11_1, hcz11_2, hcz11_3, hcz11_4, hcz11_5, hcz11_6⟩ := cz7 BK103; obtain ⟨hfz11_0, hfz11_1, hfz11_2, hfz11_3, hfz11_4, hfz11_5, hfz11_6⟩ := fz7 BK103) | ((with_reducible refine gate_callee (f := 41) rfl ?_); refine gol (some 15) Tryz.func41 #[.agg #[.int .u8 ((rd_T27 l0_6 x9_1).f0), .int .i64 ((rd_T27 l0_6 x9_1).f1.f0), .int .i64 ((rd_T27 l0_6 x9_1).f1.f1), .int .i64 ((rd_T27 l0_6 x9_1).f1.f2), .int .i64 ((rd_T27 l0_6 x9_1).f1.f3), .int .i64 ((rd_T27 l0_6 x9_1).f2), .slice A102_6 ((rd_T27 l0_6 x9_1).f3).length c102_6]] (h := ?_); (with_reducible refine (ih k1 (mq47 HK1) ((rd_T27 l0_6 x9_1).f0) ((rd_T27 l0_6 x9_1).f1.f0) ((rd_T27 l0_6 x9_1).f1.f1) ((rd_T27 l0_6 x9_1).f1.f2) ((rd_T27 l0_6 x9_1).f1.f3) ((rd_T27 l0_6 x9_1).f2) _ _ ((rd_T27 l0_6 x9_1).f3) t104 _ ?side1 ?side2 A7.out).mono ?_); (case side1 => exact Kd.C_below HR102_6.out kW); (case side2 => exact HC102_6.out); rintro e w12 ⟨rfl, hb⟩; refine ⟨_, rfl, ?_⟩; replace BK101 := ak (blk_below (g := gb101) (o := .cells #[.int .u8 a0_0, .int .i64 a0_1, .int .i64 a0_2, .int .i64 a0_3, .int .i64 a0_4, .int .i64 a0_5, .slice (some ad102) l0_6.length c0_6] 27 (0, 0)) (kC NB101_103 BK101) hb); replace BK103 := ak (blk_below (g := gb103) (o := .cells #[.int .u8 ((rd_T27 l0_6 x9_1).f0), .int .i64 ((rd_T27 l0_6 x9_1).f1.f0), .int .i64 ((rd_T27 l0_6 x9_1).f1.f1), .int .i64 ((rd_T27 l0_6 x9_1).f1.f2), .int .i64 ((rd_T27 l0_6 x9_1).f1.f3), .int .i64 ((rd_T27 l0_6 x9_1).f2), .slice A102_6 ((rd_T27 l0_6 x9_1).f3).length c102_6] 27 (0, 0)) (kP7 BK103) hb); replace HB := ak (below_step kW hb); (try clear hb); (try clear hb2); (try clear hk); (try clear hi)))
      go_roundg k1
      case measure => have := HK1.out; omega
      case rel => exact ⟨(ji8), (wrap64 (x9_1 + 1)), (by first | rfl | (simp; done) | (simp only [← hji8] <;> (first | rfl | simp)) | (simp [*]; done)), mq39, H', ⟨mq47 HK1⟩, ⟨mq28 BK101⟩, ⟨kW⟩⟩
     ·rw [if_neg c6] at H
      exact absurd H (by simp)
    ·rw [if_neg c5] at H
     exact absurd H (by simp)
   ·rw [if_neg c4] at H
    have c4b0 : decide (x9_1 < (l0_6.length : Int)) = false := decide_eq_false c4
    clear c4
    obtain rfl := Option.some.inj H
    go_wp2
    go_ret
    exact ⟨mq37, kW⟩
end Go.Proofs.YtkobpbbegalfpaaGreatDoor.PParseBodies
namespace Go.Proofs.YtkobpbbegalfpaaGreatDoor
open Go.RowKit YtkobpbbegalfpaaGreatDoorW.PrintWords YtkobpbbegalfpaaGreatDoorW.PrintLast YtkobpbbegalfpaaGreatDoorW.PrintMore PParseBodies
set_option linter.unusedVariables false
def stepN (n b : Int) : Int := (n / 2 + n % 2 * 32768 + b) % 65536
def sumL : Int → List UInt8 → Int
 | n, [] => n
 | n, b :: r => sumL (stepN n (b.toNat : Int)) r
theorem stepN_range (n b : Int) : 0 ≤ stepN n b ∧ stepN n b < 65536 := by unfold stepN; omega
theorem sumL_range : ∀ (l : List UInt8) (n : Int), 0 ≤ n → n < 65536 → 0 ≤ sumL n l ∧ sumL n l < 65536
 | [], n, h0, h1 => ⟨h0, h1⟩
 | b :: r, n, _, _ => sumL_range r _ (stepN_range _ _).1 (stepN_range _ _).2
theorem sumL_append : ∀ (a b : List UInt8) (n : Int), sumL n (a ++ b) = sumL (sumL n a) b
 | [], _, _ => rfl
 | x :: r, b, n => sumL_append r b _
theorem wrap_u16 (n : Int) : IntKind.u16.wrap n = n % 65536 := by simp [IntKind.wrap, IntKind.bits, IntKind.signed]
theorem rot_eq (n : Int) (h0 : 0 ≤ n) (h1 : n < 65536) : bits_RotateLeft16.f n (-1) = some (n / 2 + n % 2 * 32768) := by
 have e : Go.bits .and .u64 (IntKind.u64.wrap (-1)) 15 = 15 := by kernel_rfl
 have e2 : IntKind.u64.wrap (16 - 15) = 1 := by kernel_rfl
 unfold bits_RotateLeft16.f
 rw [e, e2, if_pos (by decide), if_pos (by decide)]
 have es : shl .u16 n 15 = n % 2 * 32768 := by
  unfold shl
  rw [wrap_u16, show min ((15 : Int)).toNat IntKind.u16.bits = 15 from rfl]
  omega
 have er : shr .u16 n 1 = n / 2 := by
  unfold shr
  rw [show min ((1 : Int)).toNat IntKind.u16.bits = 1 from rfl]
  omega
 rw [es, er, bits_join .u16 16 (by decide) (fun n h0 h1 => by rw [wrap_u16]; omega) 15 (n % 2 * 32768) (n / 2) (by omega) (by omega) (by omega) (by omega) (by omega) (by omega)]
 congr 1
 omega
theorem bt_nat (s : ByteArray) (i : Nat) (h : i < s.size) : bt s (i : Int) = (s[i].toNat : Int) := by
 unfold bt
 rw [dif_pos (by simpa using h)]
 rfl
theorem sdrop (s : ByteArray) (pos : Nat) (h : pos < s.size) : s.data.toList.drop pos = s[pos] :: s.data.toList.drop (pos + 1) := by
 have hl : pos < s.data.toList.length := by simpa using h
 rw [List.drop_eq_getElem_cons hl]
 rfl
theorem slen (s : ByteArray) : s.data.toList.length = s.size := by simp
theorem wr1 (i : Nat) (h : i < 9223372036854775807) : wrap64 ((i : Int) + 1) = ((i + 1 : Nat) : Int) := by unfold wrap64; omega
theorem from_l1 (s : ByteArray) (l : List ByteArray) (ln j : Int) (hs : s.size ≤ 9223372036854775806) (d : Nat) : ∀ (i k : Nat) (n : Int), s.size - i = d → i ≤ s.size → d < k → 0 ≤ n → n < 65536 →
  sum_From.l1 k n s l ln j (s.size : Int) (i : Int) = sum_From.l0 (k - d - 1) (sumL n (s.data.toList.drop i)) l ln (wrap64 (j + 1)) := by
 induction d with
 | zero =>
  intro i k n hd hi hk h0 h1
  obtain ⟨k, rfl⟩ : ∃ m, k = m + 1 := ⟨k - 1, by omega⟩
  simp only [sum_From.l1]
  rw [if_neg (by omega), List.drop_eq_nil_of_le (by rw [slen]; omega)]
  rfl
 | succ d ih =>
  intro i k n hd hi hk h0 h1
  obtain ⟨k, rfl⟩ : ∃ m, k = m + 1 := ⟨k - 1, by omega⟩
  have hlt : i < s.size := by omega
  have hb : s[i].toNat < 256 := s[i].toNat_lt
  have eS : IntKind.u16.wrap (n / 2 + n % 2 * 32768 + IntKind.u16.wrap (s[i].toNat : Int)) = stepN n (s[i].toNat : Int) := by
   rw [wrap_u16, wrap_u16]; unfold stepN; omega
  simp only [sum_From.l1]
  rw [if_pos (by omega), rot_eq n h0 h1]
  simp only [Option.bind_some]
  rw [if_pos (by omega), if_pos (by omega), bt_nat s i hlt, eS, wr1 i (by omega), sdrop s i hlt]
  have hr := stepN_range n (s[i].toNat : Int)
  rw [ih (i + 1) k _ (by omega) (by omega) (by omega) hr.1 hr.2]
  rw [show k + 1 - (d + 1) - 1 = k - d - 1 from by omega]
  rfl
def allB (l : List ByteArray) : List UInt8 := (l.map (·.data.toList)).flatten
theorem from_l0 (l : List ByteArray) (hl : l.length ≤ 9223372036854775807) (hs : ∀ x ∈ l, x.size ≤ 9223372036854775806) (d : Nat) : ∀ (j k : Nat) (n : Int), l.length - j = d → j ≤ l.length → (allB (l.drop j)).length + 2 * d < k → 0 ≤ n → n < 65536 →
  sum_From.l0 k n l (l.length : Int) (j : Int) = some (sumL n (allB (l.drop j))) := by
 induction d with
 | zero =>
  intro j k n hd hj hk h0 h1
  obtain ⟨k, rfl⟩ : ∃ m, k = m + 1 := ⟨k - 1, by omega⟩
  simp only [sum_From.l0]
  rw [if_neg (by omega), List.drop_eq_nil_of_le (by omega)]
  rfl
 | succ d ih =>
  intro j k n hd hj hk h0 h1
  obtain ⟨k, rfl⟩ : ∃ m, k = m + 1 := ⟨k - 1, by omega⟩
  have hlt : j < l.length := by omega
  have hc : l.drop j = l[j] :: l.drop (j + 1) := List.drop_eq_getElem_cons hlt
  have hrd : rdOf ByteArray.empty l (j : Int) = l[j] := by
   unfold rdOf
   rw [Int.toNat_natCast, List.getD_eq_getElem?_getD, List.getElem?_eq_getElem hlt]
   rfl
  have hB : allB (l.drop j) = l[j].data.toList ++ allB (l.drop (j + 1)) := by rw [hc]; rfl
  have hbl : (allB (l.drop j)).length = l[j].size + (allB (l.drop (j + 1))).length := by rw [hB, List.length_append, slen]
  simp only [sum_From.l0]
  rw [if_pos (by omega), if_pos (by omega), if_pos (by omega), hrd]
  have h := from_l1 l[j] l (l.length : Int) (j : Int) (hs _ (List.getElem_mem hlt)) l[j].size 0 k n (by omega) (by omega) (by omega) h0 h1
  rw [show ((0 : Nat) : Int) = 0 from rfl] at h
  rw [h, wr1 j (by omega)]
  have hr := sumL_range (l[j].data.toList.drop 0) n h0 h1
  rw [ih (j + 1) _ _ (by omega) (by omega) (by omega) hr.1 hr.2, hB, sumL_append, List.drop_zero]
theorem from_pure (c : Int) (h0 : 0 ≤ c) (h1 : c < 65536) (l : List ByteArray) (hl : l.length ≤ 9223372036854775807) (hs : ∀ x ∈ l, x.size ≤ 9223372036854775806) : ∃ k, sum_From.f k c l = some (sumL c (allB l)) := by
 refine ⟨(allB l).length + 2 * l.length + 1, ?_⟩
 unfold sum_From.f
 have h := from_l0 l hl hs l.length 0 ((allB l).length + 2 * l.length + 1) c (by omega) (by omega) (by rw [List.drop_zero]; omega) h0 h1
 rw [List.drop_zero] at h
 exact h
theorem of_pure (l : List ByteArray) (hl : l.length ≤ 9223372036854775807) (hs : ∀ x ∈ l, x.size ≤ 9223372036854775806) : ∃ k, sum_Of.f k l = some (sumL 0 (allB l)) := by
 obtain ⟨k, hk⟩ := from_pure 0 (by omega) (by omega) l hl hs
 exact ⟨k, by unfold sum_Of.f; rw [hk]; rfl⟩
set_option linter.unusedSimpArgs false
theorem headB_R : HeadB headR := ⟨headB_headR⟩
def GoodC (c : SC) : Prop := nodeOk c = true ∧ rectOk c.f1 = true ∧ (linesS c).isSome = true
def GoodT (c : SC) : Prop := ∀ x ∈ cells c, GoodC x
theorem GoodT.kid {c k : SC} (h : GoodT c) (hk : k ∈ c.f3) : GoodT k := fun x hx => h x (cells_kid hk x hx)
theorem tilesB_iff (c : SC) : tilesB c = true ↔ mayB c = true ∧ ∀ x ∈ cells c, (linesS x).isSome = true := by
 unfold tilesB walkV
 rw [Bool.and_eq_true, walk_visit]
theorem tiles_good {c : SC} (h : tilesB c = true) : GoodT c := by
 obtain ⟨h1, h2⟩ := (tilesB_iff c).1 h
 have h3 := ((may_iff c).1 h1).2.1
 exact fun x hx => ⟨(h3 x hx).1, (h3 x hx).2, h2 x hx⟩
def leavesOf (c : SC) : List SC := (cells c).filter (fun x => decide (x.f0 = 1))
def lnR (c : SC) : List SR := (cells c).flatMap lnOf
structure Inner (c : SC) : Prop where
 kind : c.f0 = 2 ∨ c.f0 = 3
 two : 2 ≤ c.f3.length
 ok : rectOk c.f1 = true
 cut : cutOk (wholeR c.f1 (c.f0 - 1)) true 0 (sizesOf c) = true
 parts : c.f3.map (·.f1) = cutParts c.f1 (c.f0 - 1) true 0 (sizesOf c)
 lines : lnOf c = cutLines c.f1 (c.f0 - 1) true 0 (sizesOf c)
theorem Inner.ax {c : SC} (h : Inner c) : c.f0 - 1 = 1 ∨ c.f0 - 1 = 2 := by have := h.kind; omega
theorem Inner.whole {c : SC} (h : Inner c) : True := trivial
theorem numP_gt {s : ByteArray} {i : Nat} {p : Int × Nat} (h : numP headR s i = .ok p) : i + 1 ≤ p.2 := by
 unfold numP at h
 split at h
 ·rename_i he
  obtain ⟨_, e, hp⟩ := head_ok he
  cases h
  show i + 1 ≤ i + ((headR (s.extract i s.size)).2.1).toNat
  omega
 ·cases h
theorem rectP7 {s : ByteArray} {i : Nat} {r : (Int × Int × Int × Int) × Nat} (h : rectP headR s i = .ok r) : i + 7 ≤ r.2 := by
 unfold rectP at h
 cases h0 : numP headR s i with
 | error q => rw [h0] at h; cases h
 | ok p0 =>
  rw [h0] at h
  have l0 := numP_gt h0
  cases h1 : eatP s p0.2 120 with
  | error q => simp only [bind, Except.bind, h1] at h; cases h
  | ok a1 =>
   simp only [bind, Except.bind, h1] at h
   obtain ⟨e1, g1, _⟩ := eatP_le (by decide) h1
   cases h2 : numP headR s a1 with
   | error q => rw [h2] at h; cases h
   | ok p2 =>
    simp only [h2] at h
    have l2 := numP_gt h2
    cases h3 : eatP s p2.2 44 with
    | error q => rw [h3] at h; cases h
    | ok a3 =>
     simp only [h3] at h
     obtain ⟨e3, g3, _⟩ := eatP_le (by decide) h3
     cases h4 : numP headR s a3 with
     | error q => rw [h4] at h; cases h
     | ok p4 =>
      simp only [h4] at h
      have l4 := numP_gt h4
      cases h5 : eatP s p4.2 44 with
      | error q => rw [h5] at h; cases h
      | ok a5 =>
       simp only [h5] at h
       obtain ⟨e5, g5, _⟩ := eatP_le (by decide) h5
       cases h6 : numP headR s a5 with
       | error q => rw [h6] at h; cases h
       | ok p6 =>
        simp only [h6] at h
        have l6 := numP_gt h6
        cases h
        show i + 7 ≤ p6.2
        omega
theorem cellsL_snoc (l : List SC) (c : SC) : (cellsL (l ++ [c])).length = (cellsL l).length + (cells c).length := by
 rw [cellsL_flat, cellsL_flat]
 simp
theorem cells_mk (k : Int) (r : SR) (id : Int) (l : List SC) : (cells ⟨k, r, id, l⟩).length = 1 + (cellsL l).length := by
 rw [cells_eq]
 simp
 omega
theorem size_all (s : ByteArray) : ∀ m,
  (∀ i deep p, i ≤ s.size → cellP headR s m i deep = some (.ok p) → 7 * (cells p.1).length + i ≤ p.2) ∧
  (∀ c deep i p, i < s.size → ¬ c = 0 → kidsP headR s m c deep i = some (.ok p) → 7 * (cellsL p.1).length + i ≤ p.2) ∧
  (∀ c deep out j p, j ≤ s.size → ¬ c = 0 → loopP headR s m c deep out j = some (.ok p) → 7 * (cellsL p.1).length + j ≤ p.2 + 7 * (cellsL out).length) := by
 intro m
 induction m with
 | zero => exact ⟨fun i deep p _ h => (by rw [cellP] at h; cases h), fun c deep i p _ _ h => (by rw [kidsP] at h; cases h), fun c deep out j p _ _ h => (by rw [loopP] at h; cases h)⟩
 | succ m ih =>
  obtain ⟨ih1, ih2, ih3⟩ := ih
  refine ⟨?_, ?_, ?_⟩
  ·intro i deep p hi h
   rw [cellP] at h
   cases hr : rectP headR s i with
   | error q => rw [hr] at h; cases h
   | ok r =>
    have g7 := rectP7 hr
    have hle := rectP_le headB_R hi hr
    rw [hr] at h
    simp only at h
    by_cases h1 : aheadI s r.2 = 123
    ·rw [if_pos h1] at h
     have hl := aheadI_lt (by decide) h1
     cases hk : kidsP headR s m 125 deep r.2 with
     | none => rw [hk] at h; cases h
     | some x =>
      rw [hk] at h
      cases x with
      | error q => cases h
      | ok y =>
       have := ih2 125 deep r.2 y hl (by decide) hk
       cases h
       simp only [cells_mk]
       omega
    ·rw [if_neg h1] at h
     by_cases h2 : aheadI s r.2 = 91
     ·rw [if_pos h2] at h
      have hl := aheadI_lt (by decide) h2
      cases hk : kidsP headR s m 93 deep r.2 with
      | none => rw [hk] at h; cases h
      | some x =>
       rw [hk] at h
       cases x with
       | error q => cases h
       | ok y =>
        have := ih2 93 deep r.2 y hl (by decide) hk
        cases h
        simp only [cells_mk]
        omega
     ·rw [if_neg h2] at h
      cases he : eatP s r.2 44 with
      | error q => rw [he] at h; cases h
      | ok a =>
       obtain ⟨e1, _, _⟩ := eatP_le (by decide) he
       rw [he] at h
       simp only at h
       cases hn : numP headR s a with
       | error q => rw [hn] at h; cases h
       | ok n =>
        have := numP_gt hn
        rw [hn] at h
        cases h
        simp only [cells_mk, cellsL_nil, List.length_nil]
        omega
  ·intro c deep i p hi hc h
   rw [kidsP] at h
   by_cases hdp : 1000 ≤ deep
   ·rw [if_pos hdp] at h; cases h
   ·rw [if_neg hdp] at h
    cases hcl : cellP headR s m (i + 1) (deep + 1) with
    | none => rw [hcl] at h; cases h
    | some x =>
     rw [hcl] at h
     cases x with
     | error q => cases h
     | ok y =>
      simp only at h
      have hp := (places headR headB_R s m).1 (i + 1) (deep + 1) y (by omega) hcl
      have h1 := ih1 (i + 1) (deep + 1) y (by omega) hcl
      have h3 := ih3 c deep [y.1] y.2 p hp.2 hc h
      have e : (cellsL [y.1]).length = (cells y.1).length := by rw [cellsL_cons, cellsL_nil]; simp
      omega
  ·intro c deep out j p hj hc h
   rw [loopP] at h
   by_cases hcn : out.length < 2 ∨ ¬ aheadI s j = c
   ·rw [if_pos hcn] at h
    cases he : eatP s j 44 with
    | error q => rw [he] at h; cases h
    | ok a =>
     obtain ⟨rfl, hl, _⟩ := eatP_le (by decide) he
     rw [he] at h
     simp only at h
     cases hcl : cellP headR s m (j + 1) (deep + 1) with
     | none => rw [hcl] at h; cases h
     | some x =>
      rw [hcl] at h
      cases x with
      | error q => cases h
      | ok y =>
       simp only at h
       have hp := (places headR headB_R s m).1 (j + 1) (deep + 1) y (by omega) hcl
       have h1 := ih1 (j + 1) (deep + 1) y (by omega) hcl
       have h3 := ih3 c deep (out ++ [y.1]) y.2 p hp.2 hc h
       have e := cellsL_snoc out y.1
       omega
   ·rw [if_neg hcn] at h
    cases h
    show 7 * (cellsL out).length + j ≤ j + 1 + 7 * (cellsL out).length
    omega
def cellR (s : ByteArray) : Except (Int × Nat) (SC × Nat) := (cellP headR s (2 * s.size + 3) 0 1).getD (.error (0, 0))
theorem cellR_eq (s : ByteArray) : cellP headR s (2 * s.size + 3) 0 1 = some (cellR s) := by
 obtain ⟨r, h⟩ := cellP_some headR headB_R s
 unfold cellR
 rw [h]
 rfl
theorem cellR_size {s : ByteArray} {p : SC × Nat} (h : cellR s = .ok p) : 7 * (cells p.1).length ≤ s.size := by
 have e := cellR_eq s
 rw [h] at e
 have h1 := (size_all s _).1 0 1 p (Nat.zero_le _) e
 have h2 := ((places headR headB_R s _).1 0 1 p (Nat.zero_le _) e).2
 omega
set_option maxRecDepth 100000
theorem catch_idle (p q : Addr) (w : World) :
  CallsD Tryz.prog 46 #[.pointer (some p), .pointer (some q)] .returning w fun e u' w' => e = .returned (.tuple #[]) ∧ u' = .returning ∧ w' = w := by
 refine callsD_of_wpS Tryz.func46 rfl fun c₀ cs hu => ?_
 apply wpS_seq
 apply wpS_region
 simp [wpOpsS, go_sem, recoverD, hu, Tryz.ntmps46, Exit.thenS]
 refine wpS_of_wp ?_
 go_wp2
 cases c₀
 simp_all [bodyPostS, results, Tryz.results46]
def layB : ByteArray := ⟨#[108, 97, 121, 111, 117, 116]⟩
abbrev CaughtW (w3 : World) (cb eb g' : Nat) : World := (((((((w3.setCell ⟨cb, 0, none⟩ (.int .u8 0)).setCell ⟨cb, 1, none⟩ (.int .i64 0)).setCell ⟨cb, 2, none⟩ (.int .i64 0)).setCell ⟨cb, 3, none⟩ (.int .i64 0)).setCell ⟨cb, 4, none⟩ (.int .i64 0)).setCell ⟨cb, 5, none⟩ (.int .i64 0)).setCell ⟨cb, 6, none⟩ (.slice none 0 0)).setCell ⟨eb, 0, none⟩ (.iface 78 (.pointer (some ⟨g', 0, none⟩)))
set_option maxHeartbeats 4000000 in
theorem catch_panicking (cb eb g : Nat) (w : World) (cs0 : Array Value) (e0 : Value) (hcs : cs0.size = 7) (hc : w.heap[cb]? = some (.cells cs0 27 (0, 0))) (he : w.heap[eb]? = some (.cells #[e0] 29 (0, 0))) (hne : ¬ cb = eb) :
  CallsD Tryz.prog 46 #[.pointer (some ⟨cb, 0, none⟩), .pointer (some ⟨eb, 0, none⟩)] (.panicking [{ v := .iface 86 (.agg #[.iface 82 (.pointer (some ⟨g, 0, none⟩))]), recovered := false }]) w fun e u' w' =>
   e = .returned (.tuple #[]) ∧ u' = .panicking [{ v := .iface 86 (.agg #[.iface 82 (.pointer (some ⟨g, 0, none⟩))]), recovered := true }] ∧
    ∃ w3 g', Below w.heap.size w w3 ∧ Inside w3 w.heap.size g' (.iface 82 (.pointer (some ⟨g, 0, none⟩))) [layB] ∧ w' = CaughtW w3 cb eb g' := by
 obtain ⟨W1, hW1⟩ : ∃ W1, W1 = w.alloc (.cells #[.iface 82 (.pointer (some ⟨g, 0, none⟩))] 86) := ⟨_, rfl⟩
 obtain ⟨W2, hW2⟩ : ∃ W2, W2 = W1.alloc (.cells #[.string layB] 9) := ⟨_, rfl⟩
 have hC : Kd.string.C W2 (some ⟨W1.heap.size, 0, none⟩) 1 [layB] := by rw [hW2]; exact litC W1 9 [layB] (by decide)
 have e1 : W1.heap.size = w.heap.size + 1 := by rw [hW1]; simp
 rw [e1] at hC
 have HI := ak (in_calls 82 (.pointer (some ⟨g, 0, none⟩)) ⟨w.heap.size + 1, 0, none⟩ 1 1 [layB] W2 rfl (by decide) (Nat.le_refl _) (by decide) hC)
 have HB2 : Aside0 (Below w.heap.size w W2) := ⟨by rw [hW2, hW1]; exact below_alloc (below_alloc (Below.refl _ _) _) _⟩
 have hE : ((w.alloc (.cells #[.iface 82 (.pointer (some ⟨g, 0, none⟩))] 86)).alloc (.cells #[.string (⟨#[108, 97, 121, 111, 117, 116]⟩ : ByteArray)] 9)) = W2 := by rw [hW2, hW1]; rfl
 have HE := ak hE
 have HC := ak hc
 have HH := ak he
 clear hW1 hW2 hC e1 hE hc he
 have hta : ∀ w : World, (Instr.typeAssert (.iface 86 (.agg #[.iface 82 (.pointer (some ⟨g, 0, none⟩))])) 20 86 true).run Tryz.prog w = .ok (.tuple #[.agg #[.iface 82 (.pointer (some ⟨g, 0, none⟩))], .bool true]) w := fun _ => by first | rfl | kernel_rfl
 refine callsD_of_wpS Tryz.func46 rfl fun c₀ cs hu => ?_
 simp only [Tryz.ntmps46, List.size_toArray, List.length_cons, List.length_nil, Nat.reduceAdd, Nat.reduceSub, Array.replicate_succ, Array.replicate_zero, List.push_toArray, List.append_toArray, List.nil_append, List.cons_append]
 apply wpS_seq
 apply wpS_region
 simp [wpOpsS, go_sem, recoverD, hu, Exit.thenS]
 refine wpS_of_wp ?_
 go_wp2_with fail
 rw [HE.out]
 with_reducible refine HI.out.mono ?_
 rintro e w3 ⟨g', rfl, hin, hb3⟩
 have HB3 := ak (HB2.out.trans (hb3.mono HB2.out.size))
 have HIN : Aside0 (Inside w3 w.heap.size g' (.iface 82 (.pointer (some ⟨g, 0, none⟩))) [layB]) := ⟨Nat.le_trans HB2.out.size hin.1, by obtain ⟨_, v, q1, q2⟩ := hin; exact ⟨v, q1, Kd.R_lower q2 HB2.out.size⟩⟩
 have hcb := (HB3.out.block cb (blk_lt HC.out)).trans HC.out
 have heb := (HB3.out.block eb (blk_lt HH.out)).trans HH.out
 have c0 : w3.cell? ⟨cb, 0, none⟩ = some (cs0[0]'(by omega)) := by simp [World.cell?, hcb, hcs]
 have f0 := blk_frozen hcb 0
 have c1 : w3.cell? ⟨cb, 1, none⟩ = some (cs0[1]'(by omega)) := by simp [World.cell?, hcb, hcs]
 have f1 := blk_frozen hcb 1
 have c2 : w3.cell? ⟨cb, 2, none⟩ = some (cs0[2]'(by omega)) := by simp [World.cell?, hcb, hcs]
 have f2 := blk_frozen hcb 2
 have c3 : w3.cell? ⟨cb, 3, none⟩ = some (cs0[3]'(by omega)) := by simp [World.cell?, hcb, hcs]
 have f3 := blk_frozen hcb 3
 have c4 : w3.cell? ⟨cb, 4, none⟩ = some (cs0[4]'(by omega)) := by simp [World.cell?, hcb, hcs]
 have f4 := blk_frozen hcb 4
 have c5 : w3.cell? ⟨cb, 5, none⟩ = some (cs0[5]'(by omega)) := by simp [World.cell?, hcb, hcs]
 have f5 := blk_frozen hcb 5
 have c6 : w3.cell? ⟨cb, 6, none⟩ = some (cs0[6]'(by omega)) := by simp [World.cell?, hcb, hcs]
 have f6 := blk_frozen hcb 6
 have x0 : w3.cell? ⟨eb, 0, none⟩ = some e0 := by simp [World.cell?, heb]
 have y0 := blk_frozen heb 0
 have hne2 : ¬ eb = cb := fun h => hne h.symm
 clear hin hb3 hcb heb HI HE hta
 go_wp2
 exact ⟨rfl, _, rfl, .tuple #[], by simp [results, Tryz.results46], rfl, rfl, w3, HB3.out, g', HIN.out, rfl⟩
structure WSt (w W : World) (b : Nat) (s : ByteArray) (off : Int) (j : Nat) (cs : Array Value) : Prop where
 st : Step w b (j : Int) W
 rd : RdA W b s j off
 res : W.heap[w.heap.size]? = some (.cells cs 27 (0, 0))
 err : W.heap[w.heap.size + 1]? = some (.cells #[.nilIface] 29 (0, 0))
theorem WSt.new {w : World} {b : Nat} {s : ByteArray} {off : Int} {i : Nat} (k : RdA w b s i off) : WSt w ((w.alloc (.cells zeroA 27)).alloc (.cells #[.nilIface] 29)) b s off i zeroA := by
 have e : (w.alloc (.cells zeroA 27)).heap.size = w.heap.size + 1 := by simp
 refine ⟨Step.of_below k (below_alloc (below_alloc (Below.refl _ _) _) _), k.below (below_alloc (below_alloc (Below.refl _ _) _) _), blk_alloc (heap_alloc_new w _) _, ?_⟩
 have := heap_alloc_new (w.alloc (.cells zeroA 27)) (.cells #[.nilIface] 29)
 rw [e] at this
 exact this
theorem WSt.step {w W W' : World} {b : Nat} {s : ByteArray} {off i0 : Int} {i : Nat} {j : Int} {cs : Array Value} (p : WSt w W b s off i cs) (k : RdA w b s i0 off) (h : Step W b j W') :
  Step w b j W' ∧ W'.heap[w.heap.size]? = some (.cells cs 27 (0, 0)) ∧ W'.heap[w.heap.size + 1]? = some (.cells #[.nilIface] 29 (0, 0)) :=
 ⟨Step.trans k p.st h,
  (h.block _ (blk_lt p.res)).trans ((Below.heap_setCell W ⟨b, 1, none⟩ _ _ (Nat.ne_of_gt k.lt)).trans p.res),
  (h.block _ (blk_lt p.err)).trans ((Below.heap_setCell W ⟨b, 1, none⟩ _ _ (Nat.ne_of_gt (Nat.lt_succ_of_lt k.lt))).trans p.err)⟩
theorem caught_c {w3 : World} {cb eb g' : Nat} {cs0 : Array Value} (h : w3.heap[cb]? = some (.cells cs0 27 (0, 0))) (hne : ¬ cb = eb) (hz : (((((((cs0.setIfInBounds 0 (.int .u8 0)).setIfInBounds 1 (.int .i64 0)).setIfInBounds 2 (.int .i64 0)).setIfInBounds 3 (.int .i64 0)).setIfInBounds 4 (.int .i64 0)).setIfInBounds 5 (.int .i64 0)).setIfInBounds 6 (.slice none 0 0)) = zeroA) : (CaughtW w3 cb eb g').heap[cb]? = some (.cells zeroA 27 (0, 0)) := by
 have h7 := (blk_set (blk_set (blk_set (blk_set (blk_set (blk_set (blk_set h 0 (.int .u8 0)) 1 (.int .i64 0)) 2 (.int .i64 0)) 3 (.int .i64 0)) 4 (.int .i64 0)) 5 (.int .i64 0)) 6 (.slice none 0 0))
 rw [hz] at h7
 exact blk_far h7 (p := ⟨eb, 0, none⟩) hne _
theorem caught_e {w3 : World} {cb eb g' : Nat} {e0 : Value} (he : w3.heap[eb]? = some (.cells #[e0] 29 (0, 0))) (hne : ¬ cb = eb) : (CaughtW w3 cb eb g').heap[eb]? = some (.cells #[.iface 78 (.pointer (some ⟨g', 0, none⟩))] 29 (0, 0)) :=
 blk_set (blk_far (blk_far (blk_far (blk_far (blk_far (blk_far (blk_far he (p := ⟨cb, 0, none⟩) (fun e => hne e.symm) (.int .u8 0)) (p := ⟨cb, 1, none⟩) (fun e => hne e.symm) (.int .i64 0)) (p := ⟨cb, 2, none⟩) (fun e => hne e.symm) (.int .i64 0)) (p := ⟨cb, 3, none⟩) (fun e => hne e.symm) (.int .i64 0)) (p := ⟨cb, 4, none⟩) (fun e => hne e.symm) (.int .i64 0)) (p := ⟨cb, 5, none⟩) (fun e => hne e.symm) (.int .i64 0)) (p := ⟨cb, 6, none⟩) (fun e => hne e.symm) (.slice none 0 0)) 0 _
theorem caught_far {w3 : World} {cb eb g' g : Nat} {t : TypeId} {cs : Array Value} (h : w3.heap[g]? = some (.cells cs t (0, 0))) (h1 : g ≠ cb) (h2 : g ≠ eb) : (CaughtW w3 cb eb g').heap[g]? = some (.cells cs t (0, 0)) :=
 blk_far (blk_far (blk_far (blk_far (blk_far (blk_far (blk_far (blk_far h (p := ⟨cb, 0, none⟩) h1 (.int .u8 0)) (p := ⟨cb, 1, none⟩) h1 (.int .i64 0)) (p := ⟨cb, 2, none⟩) h1 (.int .i64 0)) (p := ⟨cb, 3, none⟩) h1 (.int .i64 0)) (p := ⟨cb, 4, none⟩) h1 (.int .i64 0)) (p := ⟨cb, 5, none⟩) h1 (.int .i64 0)) (p := ⟨cb, 6, none⟩) h1 (.slice none 0 0)) (p := ⟨eb, 0, none⟩) h2 _
theorem ins_set {w : World} {base g : Nat} {err : Value} {xs : List ByteArray} (h : Inside w base g err xs) {p : Addr} (hp : p.block < base) (u : Value) : Inside (w.setCell p u) base g err xs := by
 obtain ⟨h1, v, h2, h3⟩ := h
 exact ⟨h1, v, blk_far h2 (by omega) u, Kd.R_mono (Kd.R_step (Kd.R_bound h3) (fun k hk _ => Below.heap_setCell w p u k (by have := hk.2.1; omega))) (fun _ _ => trivial)⟩
theorem caught_in {w3 : World} {cb eb g' g base : Nat} {err : Value} {xs : List ByteArray} (h : Inside w3 base g err xs) (h1 : cb < base) (h2 : eb < base) : Inside (CaughtW w3 cb eb g') base g err xs :=
 ins_set (ins_set (ins_set (ins_set (ins_set (ins_set (ins_set (ins_set h (p := ⟨cb, 0, none⟩) h1 (.int .u8 0)) (p := ⟨cb, 1, none⟩) h1 (.int .i64 0)) (p := ⟨cb, 2, none⟩) h1 (.int .i64 0)) (p := ⟨cb, 3, none⟩) h1 (.int .i64 0)) (p := ⟨cb, 4, none⟩) h1 (.int .i64 0)) (p := ⟨cb, 5, none⟩) h1 (.int .i64 0)) (p := ⟨cb, 6, none⟩) h1 (.slice none 0 0)) (p := ⟨eb, 0, none⟩) h2 _
theorem caught_st {B w3 : World} {cb eb g' n : Nat} (h : Below n B w3) (h1 : n ≤ cb) (h2 : n ≤ eb) : Below n B (CaughtW w3 cb eb g') :=
 Below.setCell (((((((h.setCell (p := ⟨cb, 0, none⟩) h1 (.int .u8 0)).setCell (p := ⟨cb, 1, none⟩) h1 (.int .i64 0)).setCell (p := ⟨cb, 2, none⟩) h1 (.int .i64 0)).setCell (p := ⟨cb, 3, none⟩) h1 (.int .i64 0)).setCell (p := ⟨cb, 4, none⟩) h1 (.int .i64 0)).setCell (p := ⟨cb, 5, none⟩) h1 (.int .i64 0)).setCell (p := ⟨cb, 6, none⟩) h1 (.slice none 0 0)) (p := ⟨eb, 0, none⟩) h2 _
def BadPost (w : World) (b : Nat) (no pl : Int) (e : Ending) (w' : World) : Prop :=
 ∃ g' g, e = .returned (.tuple #[.agg zeroA, .iface 78 (.pointer (some ⟨g', 0, none⟩))]) ∧ Inside w' w.heap.size g' (.iface 82 (.pointer (some ⟨g, 0, none⟩))) [layB] ∧
  w'.heap[g]? = some (.cells #[.int .i64 no, .int .i64 pl] 84 (0, 0)) ∧ ∃ j, Step w b j w'
set_option maxHeartbeats 8000000 in
theorem whole_bad (hd : ByteArray → Int × Int × Int) (I : World → Prop) (w : World) (b : Nat) (s : ByteArray) (m : Nat) (off : Int) (hs : s.size ≤ 100000) (ho : 0 ≤ off ∧ off ≤ 1000) (hb : HeadB hd) (hc : HeadC hd b I) (hI : I w) (k : RdA w b s ((0 : Nat) : Int) off)
  (q : Int × Nat) (hr : cellP hd s m 0 1 = some (.error q)) :
  Calls Tryz.prog 27 #[.pointer (some ⟨b, 0, none⟩)] w (BadPost w b q.1 (off + q.2)) := by
 have hmf : ∀ (fn : Fn) (first cap : Array Value) (w : World), (Instr.makeFunc fn first cap).run Tryz.prog w = .ok (.func fn first cap) w := fun _ _ _ _ => rfl
 obtain ⟨W0, hW0⟩ : ∃ W0, W0 = (w.alloc (.cells zeroA 27)).alloc (.cells #[.nilIface] 29) := ⟨_, rfl⟩
 have HP0 : Aside0 (WSt w W0 b s off 0 zeroA) := ⟨by rw [hW0]; exact WSt.new k⟩
 have HK := ak k
 have HI0 : Aside0 (I W0) := ⟨hc.step hI HP0.out.st⟩
 have HW := ak hW0
 have HN : Aside0 (Calls Tryz.prog 47 #[.pointer (some ⟨b, 0, none⟩), .int .i64 1] W0 (CellPost W0 b off (.error q))) := ⟨cell_calls hd I W0 b s 0 1 m off hs ho (Nat.zero_le _) (by decide) hb hc HI0.out HP0.out.rd _ hr⟩
 clear hW0 k hI hr
 go_enter_defers Tryz.func27, Tryz.ntmps27
 go_wp2_with fail
 rw [← HW.out]
 with_reducible refine HN.out.mono ?_
 rintro e w1 ⟨⟨g, rfl, hg, hg2⟩, jj, hst⟩
 obtain ⟨h1, h2, h3⟩ := HP0.out.step HK.out hst
 have HS := ak h1
 have H2 := ak h2
 have H3 := ak h3
 have HG := ak hg2
 clear hst h1 h2 h3 hg2
 refine leaves_cons (f := 46) (args := #[.pointer (some ⟨w.heap.size, 0, none⟩), .pointer (some ⟨w.heap.size + 1, 0, none⟩)]) (by simp) (by simp [go_sem]) ?_
 refine (catch_panicking w.heap.size (w.heap.size + 1) g w1 _ _ (by decide) H2.out H3.out (by omega)).mono ?_
 rintro e u' w'' ⟨rfl, rfl, w3, g', hb3, hin, rfl⟩
 have HC := ak (caught_c (g' := g') (eb := w.heap.size + 1) ((hb3.block _ (blk_lt H2.out)).trans H2.out) (by omega) rfl)
 have HE := ak (caught_e (g' := g') (cb := w.heap.size) ((hb3.block _ (blk_lt H3.out)).trans H3.out) (by omega))
 have HSZ := HS.out.size
 have hlt : w.heap.size + 1 < w1.heap.size := blk_lt H3.out
 have hlt0 : w.heap.size + 1 < W0.heap.size := blk_lt HP0.out.err
 have HI := ak (caught_in (g' := g') (cb := w.heap.size) (eb := w.heap.size + 1) hin (by omega) hlt)
 have HF := ak (caught_far (g' := g') (cb := w.heap.size) (eb := w.heap.size + 1) ((hb3.block _ (blk_lt HG.out)).trans HG.out) (by omega) (by omega))
 have HT : Aside0 (Step w b jj (CaughtW w3 w.heap.size (w.heap.size + 1) g')) := ⟨caught_st (Below.trans HS.out (hb3.mono HS.out.size)) (Nat.le_refl _) (Nat.le_succ _)⟩
 generalize CaughtW w3 w.heap.size (w.heap.size + 1) g' = WF at *
 have hc1 := HC.out
 have he1 := HE.out
 have z0 : WF.cell? ⟨w.heap.size + 1, 0, none⟩ = some (.iface 78 (.pointer (some ⟨g', 0, none⟩))) := by simp [World.cell?, he1]
 have y0 : WF.cell? ⟨w.heap.size, 0, none⟩ = some (.int .u8 0) := by simp [World.cell?, hc1]
 have y1 : WF.cell? ⟨w.heap.size, 1, none⟩ = some (.int .i64 0) := by simp [World.cell?, hc1]
 have y2 : WF.cell? ⟨w.heap.size, 2, none⟩ = some (.int .i64 0) := by simp [World.cell?, hc1]
 have y3 : WF.cell? ⟨w.heap.size, 3, none⟩ = some (.int .i64 0) := by simp [World.cell?, hc1]
 have y4 : WF.cell? ⟨w.heap.size, 4, none⟩ = some (.int .i64 0) := by simp [World.cell?, hc1]
 have y5 : WF.cell? ⟨w.heap.size, 5, none⟩ = some (.int .i64 0) := by simp [World.cell?, hc1]
 have y6 : WF.cell? ⟨w.heap.size, 6, none⟩ = some (.slice none 0 0) := by simp [World.cell?, hc1]
 clear hc1 he1 hin hb3
 have key : BadPost w b q.1 (off + q.2) (.returned (.tuple #[.agg zeroA, .iface 78 (.pointer (some ⟨g', 0, none⟩))])) WF :=
  ⟨g', g, rfl, ⟨Nat.le_trans HSZ HI.out.1, by obtain ⟨_, v, q1, q2⟩ := HI.out; exact ⟨v, q1, Kd.R_lower q2 HSZ⟩⟩, HF.out, _, HT.out⟩
 have HKEY := ak key
 clear key
 simp [Leaves, settle, results, Tryz.results27, go_sem, y0, y1, y2, y3, y4, y5, y6, z0]
 exact HKEY.out
abbrev cellV (x : SC) (v : Value) : Array Value := #[.int .u8 x.f0, .int .i64 x.f1.f0, .int .i64 x.f1.f1, .int .i64 x.f1.f2, .int .i64 x.f1.f3, .int .i64 x.f2, v]
abbrev PutC (W : World) (n : Nat) (x : SC) (v : Value) : World := (((((((W.setCell ⟨n, 0, none⟩ (.int .u8 x.f0)).setCell ⟨n, 1, none⟩ (.int .i64 x.f1.f0)).setCell ⟨n, 2, none⟩ (.int .i64 x.f1.f1)).setCell ⟨n, 3, none⟩ (.int .i64 x.f1.f2)).setCell ⟨n, 4, none⟩ (.int .i64 x.f1.f3)).setCell ⟨n, 5, none⟩ (.int .i64 x.f2)).setCell ⟨n, 6, none⟩ (v))
theorem put_c {W : World} {n : Nat} (x : SC) (v : Value) (h : W.heap[n]? = some (.cells zeroA 27 (0, 0))) : (PutC W n x v).heap[n]? = some (.cells (cellV x v) 27 (0, 0)) := (blk_set (blk_set (blk_set (blk_set (blk_set (blk_set (blk_set h 0 (.int .u8 x.f0)) 1 (.int .i64 x.f1.f0)) 2 (.int .i64 x.f1.f1)) 3 (.int .i64 x.f1.f2)) 4 (.int .i64 x.f1.f3)) 5 (.int .i64 x.f2)) 6 (v))
theorem put_far {W : World} {n g : Nat} {t : TypeId} {cs : Array Value} (x : SC) (v : Value) (h : W.heap[g]? = some (.cells cs t (0, 0))) (h1 : g ≠ n) : (PutC W n x v).heap[g]? = some (.cells cs t (0, 0)) := (blk_far (blk_far (blk_far (blk_far (blk_far (blk_far (blk_far h (p := ⟨n, 0, none⟩) h1 (.int .u8 x.f0)) (p := ⟨n, 1, none⟩) h1 (.int .i64 x.f1.f0)) (p := ⟨n, 2, none⟩) h1 (.int .i64 x.f1.f1)) (p := ⟨n, 3, none⟩) h1 (.int .i64 x.f1.f2)) (p := ⟨n, 4, none⟩) h1 (.int .i64 x.f1.f3)) (p := ⟨n, 5, none⟩) h1 (.int .i64 x.f2)) (p := ⟨n, 6, none⟩) h1 (v))
structure WGd (w W : World) (b : Nat) (s : ByteArray) (off : Int) (j : Nat) (x : SC) (v : Value) : Prop where
 st : Step w b (j : Int) W
 rd : RdA W b s j off
 res : W.heap[w.heap.size]? = some (.cells (cellV x v) 27 (0, 0))
 err : W.heap[w.heap.size + 1]? = some (.cells #[.nilIface] 29 (0, 0))
 kids : Kd.R k27 27 W (w.heap.size + 2) (fun _ => True) v x.f3
theorem WGd.put {w W : World} {b : Nat} {s : ByteArray} {off i0 : Int} {j : Nat} {x : SC} {v : Value} (k : RdA w b s i0 off) (h1 : Step w b (j : Int) W) (h2 : RdA W b s j off) (h3 : W.heap[w.heap.size]? = some (.cells zeroA 27 (0, 0))) (h4 : W.heap[w.heap.size + 1]? = some (.cells #[.nilIface] 29 (0, 0)))
  (h5 : Kd.R k27 27 W (w.heap.size + 2) (fun _ => True) v x.f3) : WGd w (PutC W w.heap.size x v) b s off j x v :=
 ⟨step7 h1 _ _ _ _ _ _ _, put_far x v h2 (Nat.ne_of_lt k.lt), put_c x v h3, put_far x v h4 (by omega), R_set7 h5 (by omega) _ _ _ _ _ _ _⟩
theorem WGd.below {w W W' : World} {b : Nat} {s : ByteArray} {off : Int} {j : Nat} {x : SC} {v : Value} (p : WGd w W b s off j x v) (h : Below W.heap.size W W') : WGd w W' b s off j x v :=
 ⟨Below.trans p.st (h.mono p.st.size), p.rd.below h, (h.block _ (blk_lt p.res)).trans p.res, (h.block _ (blk_lt p.err)).trans p.err, Kd.R_below p.kids h⟩
set_option maxHeartbeats 8000000 in
theorem whole_rest (hd : ByteArray → Int × Int × Int) (I : World → Prop) (w : World) (b : Nat) (s : ByteArray) (m : Nat) (off : Int) (hs : s.size ≤ 100000) (ho : 0 ≤ off ∧ off ≤ 1000) (hb : HeadB hd) (hc : HeadC hd b I) (hI : I w) (k : RdA w b s ((0 : Nat) : Int) off)
  (p : SC × Nat) (hr : cellP hd s m 0 1 = some (.ok p)) (hp : p.2 < s.size) :
  Calls Tryz.prog 27 #[.pointer (some ⟨b, 0, none⟩)] w (BadPost w b 2 (off + p.2)) := by
 have hmf : ∀ (fn : Fn) (first cap : Array Value) (w : World), (Instr.makeFunc fn first cap).run Tryz.prog w = .ok (.func fn first cap) w := fun _ _ _ _ => rfl
 obtain ⟨W0, hW0⟩ : ∃ W0, W0 = (w.alloc (.cells zeroA 27)).alloc (.cells #[.nilIface] 29) := ⟨_, rfl⟩
 have HP0 : Aside0 (WSt w W0 b s off 0 zeroA) := ⟨by rw [hW0]; exact WSt.new k⟩
 have HK := ak k
 have HI0 : Aside0 (I W0) := ⟨hc.step hI HP0.out.st⟩
 have HW := ak hW0
 have HN : Aside0 (Calls Tryz.prog 47 #[.pointer (some ⟨b, 0, none⟩), .int .i64 1] W0 (CellPost W0 b off (.ok p))) := ⟨cell_calls hd I W0 b s 0 1 m off hs ho (Nat.zero_le _) (by decide) hb hc HI0.out HP0.out.rd _ hr⟩
 clear hW0 k hI hr
 go_enter_defers Tryz.func27, Tryz.ntmps27
 go_wp2_with fail
 rw [← HW.out]
 with_reducible refine HN.out.mono ?_
 rintro e w1 ⟨v, rfl, hR, hst⟩
 obtain ⟨h1, h2, h3⟩ := HP0.out.step HK.out hst
 have HRD := ak (hst.rd HP0.out.rd)
 have HS := ak h1
 have H2 := ak h2
 have H3 := ak h3
 obtain ⟨A, cp, rfl⟩ := Kd.R_slice hR
 obtain ⟨c0, c1, c2⟩ := HRD.out.cells
 have y0 : w1.cell? ⟨w.heap.size, 0, none⟩ = some (.int .u8 0) := by simp [World.cell?, h2]
 have f0 := blk_frozen h2 0
 have y1 : w1.cell? ⟨w.heap.size, 1, none⟩ = some (.int .i64 0) := by simp [World.cell?, h2]
 have f1 := blk_frozen h2 1
 have y2 : w1.cell? ⟨w.heap.size, 2, none⟩ = some (.int .i64 0) := by simp [World.cell?, h2]
 have f2 := blk_frozen h2 2
 have y3 : w1.cell? ⟨w.heap.size, 3, none⟩ = some (.int .i64 0) := by simp [World.cell?, h2]
 have f3 := blk_frozen h2 3
 have y4 : w1.cell? ⟨w.heap.size, 4, none⟩ = some (.int .i64 0) := by simp [World.cell?, h2]
 have f4 := blk_frozen h2 4
 have y5 : w1.cell? ⟨w.heap.size, 5, none⟩ = some (.int .i64 0) := by simp [World.cell?, h2]
 have f5 := blk_frozen h2 5
 have y6 : w1.cell? ⟨w.heap.size, 6, none⟩ = some (.slice none 0 0) := by simp [World.cell?, h2]
 have f6 := blk_frozen h2 6
 clear hst h1 h2 h3
 have hsz0 : W0.heap.size = w.heap.size + 2 := by rw [HW.out]; simp
 rw [hsz0] at hR
 have HD1 := ak (WGd.put (x := p.1) (v := .slice A p.1.f3.length cp) HK.out HS.out HRD.out H2.out H3.out hR)
 have HPI : Aside0 ((p.2 : Int) < (s.size : Int)) := ⟨by omega⟩
 clear hR
 go_upto_region 3 with fail
 obtain ⟨W1, hW1⟩ : ∃ W1, W1 = (((((((w1.setCell ⟨w.heap.size, 0, none⟩ (.int .u8 p.1.f0)).setCell ⟨w.heap.size, 1, none⟩ (.int .i64 p.1.f1.f0)).setCell ⟨w.heap.size, 2, none⟩ (.int .i64 p.1.f1.f1)).setCell ⟨w.heap.size, 3, none⟩ (.int .i64 p.1.f1.f2)).setCell ⟨w.heap.size, 4, none⟩ (.int .i64 p.1.f1.f3)).setCell ⟨w.heap.size, 5, none⟩ (.int .i64 p.1.f2)).setCell ⟨w.heap.size, 6, none⟩ (.slice A p.1.f3.length cp)) := ⟨_, rfl⟩
 have HD1 : Aside0 (WGd w W1 b s off p.2 p.1 (.slice A p.1.f3.length cp)) := ⟨by rw [hW1]; exact HD1.out⟩
 rw [← hW1]
 clear hW1
 obtain ⟨c0, c1, c2⟩ := HD1.out.rd.cells
 have hpi := HPI.out
 clear y0 y1 y2 y3 y4 y5 y6 f0 f1 f2 f3 f4 f5 f6
 go_quiet (fail)
 go_wp2_with fail
 have HD2 := ak (HD1.out.below (pw_below_drewN (Below.refl _ _) nq))
 have hsz2 : w.heap.size + 2 ≤ (W1.drewN nq).heap.size := blk_lt HD2.out.err
 have hw : IntKind.i64.wrap (off + (p.2 : Int)) = off + (p.2 : Int) := by rw [i64_w]; unfold wrap64; omega
 with_reducible refine (fail_calls (W1.drewN nq) b s p.2 off 2 p.2 (by decide) hw HD2.out.rd).mono ?_
 rintro e w2 ⟨⟨g, rfl, hg, hg2⟩, hb2⟩
 have HD9 := ak (HD2.out.below hb2)
 have HG : Aside0 (w.heap.size + 2 ≤ g ∧ w2.heap[g]? = some (.cells #[.int .i64 2, .int .i64 (off + (p.2 : Int))] 84 (0, 0))) := ⟨Nat.le_trans hsz2 hg, hg2⟩
 clear hw hg hg2 hb2
 refine leaves_cons (f := 46) (args := #[.pointer (some ⟨w.heap.size, 0, none⟩), .pointer (some ⟨w.heap.size + 1, 0, none⟩)]) (by simp) (by simp [go_sem]) ?_
 refine (catch_panicking w.heap.size (w.heap.size + 1) g w2 _ _ (by rfl) HD9.out.res HD9.out.err (by omega)).mono ?_
 rintro e u' w'' ⟨rfl, rfl, w3, g', hb3, hin, rfl⟩
 have HCC := ak (caught_c (g' := g') (eb := w.heap.size + 1) ((hb3.block _ (blk_lt HD9.out.res)).trans HD9.out.res) (by omega) rfl)
 have HEE := ak (caught_e (g' := g') (cb := w.heap.size) ((hb3.block _ (blk_lt HD9.out.err)).trans HD9.out.err) (by omega))
 have HSZ := HD9.out.st.size
 have hlt : w.heap.size + 1 < w2.heap.size := blk_lt HD9.out.err
 have HII := ak (caught_in (g' := g') (cb := w.heap.size) (eb := w.heap.size + 1) hin (by omega) hlt)
 have HFF := ak (caught_far (g' := g') (cb := w.heap.size) (eb := w.heap.size + 1) ((hb3.block _ (blk_lt HG.out.2)).trans HG.out.2) (by have := HG.out.1; omega) (by have := HG.out.1; omega))
 have HTT : Aside0 (Step w b _ (CaughtW w3 w.heap.size (w.heap.size + 1) g')) := ⟨caught_st (Below.trans HD9.out.st (hb3.mono HD9.out.st.size)) (Nat.le_refl _) (Nat.le_succ _)⟩
 generalize CaughtW w3 w.heap.size (w.heap.size + 1) g' = WF at *
 have hc1 := HCC.out
 have he1 := HEE.out
 have z0 : WF.cell? ⟨w.heap.size + 1, 0, none⟩ = some (.iface 78 (.pointer (some ⟨g', 0, none⟩))) := by simp [World.cell?, he1]
 have y0 : WF.cell? ⟨w.heap.size, 0, none⟩ = some (.int .u8 0) := by simp [World.cell?, hc1]
 have y1 : WF.cell? ⟨w.heap.size, 1, none⟩ = some (.int .i64 0) := by simp [World.cell?, hc1]
 have y2 : WF.cell? ⟨w.heap.size, 2, none⟩ = some (.int .i64 0) := by simp [World.cell?, hc1]
 have y3 : WF.cell? ⟨w.heap.size, 3, none⟩ = some (.int .i64 0) := by simp [World.cell?, hc1]
 have y4 : WF.cell? ⟨w.heap.size, 4, none⟩ = some (.int .i64 0) := by simp [World.cell?, hc1]
 have y5 : WF.cell? ⟨w.heap.size, 5, none⟩ = some (.int .i64 0) := by simp [World.cell?, hc1]
 have y6 : WF.cell? ⟨w.heap.size, 6, none⟩ = some (.slice none 0 0) := by simp [World.cell?, hc1]
 clear hc1 he1 hin hb3
 have key : BadPost w b 2 (off + (p.2 : Int)) (.returned (.tuple #[.agg zeroA, .iface 78 (.pointer (some ⟨g', 0, none⟩))])) WF :=
  ⟨g', g, rfl, ⟨Nat.le_trans HSZ HII.out.1, by obtain ⟨_, v, q1, q2⟩ := HII.out; exact ⟨v, q1, Kd.R_lower q2 HSZ⟩⟩, HFF.out, _, HTT.out⟩
 have HKEY := ak key
 clear key
 simp [Leaves, settle, results, Tryz.results27, go_sem, y0, y1, y2, y3, y4, y5, y6, z0]
 exact HKEY.out
end Go.Proofs.YtkobpbbegalfpaaGreatDoor
