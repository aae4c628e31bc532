/-
  Joined texts: PParseBodiesx3, TiMay, TiCut, TiLines, TiMay2.
-/
import Derived.Test.YtkobpbbegalfpaaGreatDoorPsBase
import Derived.Test.YtkobpbbegalfpaaGreatDoorPParseBodiesx2
import Derived.Test.YtkobpbbegalfpaaGreatDoorPxCut
import Derived.Test.YtkobpbbegalfpaaGreatDoorPsWhole2
import Derived.Outline
import Derived.Maps.OwnSet
namespace Go.Proofs.YtkobpbbegalfpaaGreatDoor.PParseBodies
open Go.RowKit YtkobpbbegalfpaaGreatDoorW.PrintWords YtkobpbbegalfpaaGreatDoorW.PrintLast YtkobpbbegalfpaaGreatDoorW.PrintMore
attribute [local go_sem] max2_int min2_int max_two min_two max_three min_three max_four min_four
set_option linter.unusedVariables false
set_option linter.unusedSimpArgs false
end Go.Proofs.YtkobpbbegalfpaaGreatDoor.PParseBodies
namespace Go.Proofs.YtkobpbbegalfpaaGreatDoor
open Go.RowKit YtkobpbbegalfpaaGreatDoorW.PrintWords YtkobpbbegalfpaaGreatDoorW.PrintLast YtkobpbbegalfpaaGreatDoorW.PrintMore PParseBodies
set_option linter.unusedVariables false
set_option linter.unusedSimpArgs false
set_option maxRecDepth 100000
theorem rect_may_eq (r : SR) : rect_may.f r.f0 r.f1 r.f2 r.f3 = some (rectOk r) := by
 unfold rect_may.f rectOk
 by_cases h0 : 0 ≤ r.f0
 ·rw [if_pos (by omega)]
  by_cases h1 : 1 ≤ r.f2
  ·rw [if_pos (by omega)]
   by_cases h2 : r.f2 ≤ 10000
   ·rw [if_pos (by omega)]
    have e : wrap64 (10000 - r.f2) = 10000 - r.f2 := by unfold wrap64; omega
    rw [e]
    by_cases h3 : r.f0 ≤ 10000 - r.f2
    ·rw [if_pos h3]
     by_cases h4 : 0 ≤ r.f1
     ·rw [if_pos (by omega)]
      by_cases h5 : 1 ≤ r.f3
      ·rw [if_pos (by omega)]
       by_cases h6 : r.f3 ≤ 10000
       ·rw [if_pos (by omega)]
        have e : wrap64 (10000 - r.f3) = 10000 - r.f3 := by unfold wrap64; omega
        rw [e]
        congr 1
        rw [decide_eq_decide]
        omega
       ·rw [if_neg (by omega)]; simp; omega
      ·rw [if_neg (by omega)]; simp; omega
     ·rw [if_neg (by omega)]; simp; omega
    ·rw [if_neg h3]; simp; omega
   ·rw [if_neg (by omega)]; simp; omega
  ·rw [if_neg (by omega)]; simp; omega
 ·rw [if_neg (by omega)]; simp; omega
theorem rmay1_calls (r : SR) (w : World) : Calls Tryz.prog 116 #[.agg #[.int .i64 r.f0, .int .i64 r.f1, .int .i64 r.f2, .int .i64 r.f3]] w fun e w' => e = .returned (.bool (!rectOk r)) ∧ Below w.heap.size w w' := by
 have HB := ak (below_alloc (Below.refl w.heap.size w) (.cells #[.int .i64 r.f0, .int .i64 r.f1, .int .i64 r.f2, .int .i64 r.f3] 24))
 have HC := ak (rect_may.calls r.f0 r.f1 r.f2 r.f3 _ (w.alloc (.cells #[.int .i64 r.f0, .int .i64 r.f1, .int .i64 r.f2, .int .i64 r.f3] 24)) (rect_may_eq r))
 generalize rectOk r = b at *
 go_enter Tryz.func116, Tryz.ntmps116
 go_wp2_with fail
 refine HC.out.mono ?_
 rintro e w1 ⟨rfl, hb⟩
 have HB1 := ak (HB.out.trans (hb.mono (by simp)))
 clear hb
 go_wp2
 go_ret
 exact ⟨rfl, HB1.out⟩
set_option maxHeartbeats 1000000 in
theorem ifr_calls (b : Nat) (r : SR) (w : World) (h0 : w.cell? ⟨b, 0, none⟩ = some (.int .i64 r.f0)) (h1 : w.cell? ⟨b, 1, none⟩ = some (.int .i64 r.f1)) (h2 : w.cell? ⟨b, 2, none⟩ = some (.int .i64 r.f2)) (h3 : w.cell? ⟨b, 3, none⟩ = some (.int .i64 r.f3)) :
  Calls Tryz.prog 136 #[.slice (some ⟨b, 0, none⟩) 1 1, .func (.func 116) #[] #[]] w fun e w' => ∃ q : Int, e = .returned (.int .i64 q) ∧ decide (0 ≤ q) = !rectOk r ∧ Below w.heap.size w w' := by
 have HC : Aside0 (∀ w, Calls Tryz.prog 116 #[.agg #[.int .i64 r.f0, .int .i64 r.f1, .int .i64 r.f2, .int .i64 r.f3]] w fun e w' => e = .returned (.bool (!rectOk r)) ∧ Below w.heap.size w w') := ⟨rmay1_calls r⟩
 generalize rectOk r = bb at *
 go_enter Tryz.func136, Tryz.ntmps136
 go_wp2
 go_loopw [5, 8] (fun _ i wr => (i = .int .i64 0 ∧ wr = w) ∨ (i = .int .i64 1 ∧ bb = true ∧ Below w.heap.size w wr)) (fun _ i _ => 1 - (intOf i).toNat)
 case atStart => exact .inl ⟨rfl, rfl⟩
 case round =>
  rcases hrel with ⟨rfl, rfl⟩ | ⟨rfl, hb1, hb2⟩
  ·cases bb with
   | true =>
    go_wp2_with fail
    refine (HC.out _).mono ?_
    rintro e w1 ⟨rfl, hb⟩
    have HB1 := ak hb
    clear hb
    go_wp2
    go_roundw
    case rel => exact .inr ⟨rfl, trivial, HB1.out⟩
    case measure => simp [intOf]
   | false =>
    go_wp2_with fail
    refine (HC.out _).mono ?_
    rintro e w1 ⟨rfl, hb⟩
    have HB1 := ak hb
    clear hb
    go_wp2
    go_ret
    exact ⟨_, rfl, by simp, HB1.out⟩
  ·subst hb1
   have HB1 := ak hb2
   clear hb2
   go_wp2
   go_ret
   exact ⟨_, rfl, by simp, HB1.out⟩
theorem rmay_calls (b : Nat) (r : SR) (w : World) (h0 : w.cell? ⟨b, 0, none⟩ = some (.int .i64 r.f0)) (h1 : w.cell? ⟨b, 1, none⟩ = some (.int .i64 r.f1)) (h2 : w.cell? ⟨b, 2, none⟩ = some (.int .i64 r.f2)) (h3 : w.cell? ⟨b, 3, none⟩ = some (.int .i64 r.f3)) :
  Calls Tryz.prog 99 #[.slice (some ⟨b, 0, none⟩) 1 1] w fun e w' => e = .returned (.bool (rectOk r)) ∧ Below w.heap.size w w' := by
 have HC := ifr_calls b r w h0 h1 h2 h3
 have HF : Calls Tryz.prog 115 #[.slice (some ⟨b, 0, none⟩) 1 1, .func (.func 116) #[] #[]] w fun e w' => e = .returned (.bool (!rectOk r)) ∧ Below w.heap.size w w' := by
  have HC := ak HC
  clear h0 h1 h2 h3
  generalize rectOk r = bb at *
  go_enter Tryz.func115, Tryz.ntmps115
  go_wp2_with fail
  refine HC.out.mono ?_
  rintro e w1 ⟨q, rfl, hq, hb⟩
  have HQ := ak hq
  have HB := ak hb
  clear hq hb
  go_wp2
  go_ret
  exact ⟨by rw [← HQ.out]; rfl, HB.out⟩
 replace HF := ak HF
 clear h0 h1 h2 h3 HC
 generalize rectOk r = bb at *
 go_enter Tryz.func99, Tryz.ntmps99
 go_wp2_with fail
 refine HF.out.mono ?_
 rintro e w1 ⟨rfl, hb⟩
 have HB := ak hb
 clear hb
 go_wp2
 go_ret
 exact ⟨by simp, HB.out⟩
def nodeB (k i : Int) (n : Nat) : Bool := if k = 1 then decide (n = 0) && decide (0 ≤ i ∧ i ≤ 2147483647) else if k = 2 ∨ k = 3 then decide (2 ≤ n ∧ i = 0) else false
theorem nodeOk_B (c : SC) : nodeOk c = nodeB c.f0 c.f2 c.f3.length := by
 unfold nodeOk nodeB
 have : c.f3.isEmpty = decide (c.f3.length = 0) := by cases c.f3 <;> simp
 rw [this]
set_option maxHeartbeats 2000000 in
theorem nodeB_calls (k x y v h i : Int) (A : Option Addr) (n cap : Nat) (w : World) (hn : n ≤ 9223372036854775807) :
  Calls Tryz.prog 98 #[.agg #[.int .u8 k, .int .i64 x, .int .i64 y, .int .i64 v, .int .i64 h, .int .i64 i, .slice A n cap]] w fun e w' => e = .returned (.bool (nodeB k i n)) ∧ Below w.heap.size w w' := by
 have HB := ak (below_alloc (Below.refl w.heap.size w) (.cells #[.int .u8 k, .int .i64 x, .int .i64 y, .int .i64 v, .int .i64 h, .int .i64 i, .slice A n cap] 27))
 by_cases hk : k = 1
 ·subst hk
  unfold nodeB
  rw [if_pos rfl]
  by_cases h1 : n = 0
  ·subst h1
   by_cases h2 : 0 ≤ i
   ·by_cases h3 : i ≤ 2147483647
    ·go_enter Tryz.func98, Tryz.ntmps98
     go_wp2
     go_ret
     exact ⟨by simp [h2, h3], HB.out⟩
    ·have h3b : decide (i ≤ 2147483647) = false := decide_eq_false h3
     go_enter Tryz.func98, Tryz.ntmps98
     go_wp2
     go_ret
     exact ⟨by simp [h3b], HB.out⟩
   ·have h2b : decide (0 ≤ i) = false := decide_eq_false h2
    go_enter Tryz.func98, Tryz.ntmps98
    go_wp2
    go_ret
    exact ⟨by simp [h2], HB.out⟩
  ·have h1b : ((n : Int) == 0) = false := beq_eq_false_iff_ne.2 (by omega)
   have h1c : (n == 0) = false := beq_eq_false_iff_ne.2 h1
   go_enter Tryz.func98, Tryz.ntmps98
   go_wp2
   go_ret
   exact ⟨by simp [h1], HB.out⟩
 ·have hkb : (k == 1) = false := beq_eq_false_iff_ne.2 hk
  unfold nodeB
  rw [if_neg hk]
  by_cases hk2 : k = 2 ∨ k = 3
  ·rw [if_pos hk2]
   rcases hk2 with rfl | rfl
   all_goals
    by_cases h1 : 2 ≤ n
    ·have h1b : decide ((n : Int) ≥ 2) = true := decide_eq_true (by omega)
     have h1c : decide (2 ≤ (n : Int)) = true := decide_eq_true (by omega)
     by_cases h2 : i = 0
     ·subst h2
      clear hk hkb
      go_enter Tryz.func98, Tryz.ntmps98
      go_wp2
      go_ret
      exact ⟨by simp [h1], HB.out⟩
     ·have h2b : (i == 0) = false := beq_eq_false_iff_ne.2 h2
      clear hk hkb
      go_enter Tryz.func98, Tryz.ntmps98
      go_wp2
      go_ret
      exact ⟨by simp [h2], HB.out⟩
    ·have h1b : decide ((n : Int) ≥ 2) = false := decide_eq_false (by omega)
     have h1c : decide (2 ≤ (n : Int)) = false := decide_eq_false (by omega)
     clear hk hkb
     go_enter Tryz.func98, Tryz.ntmps98
     go_wp2
     go_ret
     exact ⟨by simp [h1], HB.out⟩
  ·rw [if_neg hk2]
   have g2 : (k == 2) = false := beq_eq_false_iff_ne.2 (fun h => hk2 (.inl h))
   have g3 : (k == 3) = false := beq_eq_false_iff_ne.2 (fun h => hk2 (.inr h))
   clear hk hk2
   go_enter Tryz.func98, Tryz.ntmps98
   go_wp2
   go_ret
   exact ⟨rfl, HB.out⟩
theorem node_calls (c : SC) (A : Option Addr) (cap : Nat) (w : World) (hn : c.f3.length ≤ 9223372036854775807) :
  Calls Tryz.prog 98 #[.agg #[.int .u8 c.f0, .int .i64 c.f1.f0, .int .i64 c.f1.f1, .int .i64 c.f1.f2, .int .i64 c.f1.f3, .int .i64 c.f2, .slice A c.f3.length cap]] w fun e w' => e = .returned (.bool (nodeOk c)) ∧ Below w.heap.size w w' := by
 rw [nodeOk_B]
 exact nodeB_calls _ _ _ _ _ _ A _ cap w hn
def rX (r : SR) (ax : Int) : Int := if ax = 1 then r.f0 else r.f1
def rY (r : SR) (ax : Int) : Int := if ax = 1 then r.f1 else r.f0
theorem turned_to (r : SR) (ax : Int) (hax : ax = 1 ∨ ax = 2) : rect_turned.f r.f0 r.f1 r.f2 r.f3 ax = some (rX r ax, rY r ax, wholeR r ax, crossR r ax, true) := by
 rcases hax with rfl | rfl <;> simp [rect_turned.f, rX, rY, wholeR, crossR]
theorem turned_back (r : SR) (ax o n : Int) (hax : ax = 1 ∨ ax = 2) : rect_turned.f (rX r ax + o) (rY r ax) n (crossR r ax) ax = some ((mkR r ax o n).f0, (mkR r ax o n).f1, (mkR r ax o n).f2, (mkR r ax o n).f3, true) := by
 rcases hax with rfl | rfl <;> simp [rect_turned.f, rX, rY, mkR, crossR]
theorem rXW_bd (r : SR) (ax : Int) (hr : rectOk r = true) (hax : ax = 1 ∨ ax = 2) : 0 ≤ rX r ax ∧ 1 ≤ wholeR r ax ∧ rX r ax + wholeR r ax ≤ 10000 := by
 rw [rectOk_iff] at hr
 rcases hax with rfl | rfl <;> simp [rX, wholeR] <;> omega
theorem rd_getD (l : List Int) (i : Nat) : rd l (i : Int) = l.getD i 0 := by simp [rd]
theorem drop_getD (l : List Int) (i : Nat) (h : i < l.length) : l.drop i = l.getD i 0 :: l.drop (i + 1) := by
 rw [List.drop_eq_getElem_cons h, List.getD_eq_getElem?_getD, List.getElem?_eq_getElem h]; rfl
theorem SR.eta (r : SR) : (⟨r.f0, r.f1, r.f2, r.f3⟩ : SR) = r := by cases r; rfl
theorem w64s {n : Int} (h0 : -1000000000000 ≤ n) (h1 : n ≤ 1000000000000) : wrap64 n = n := by unfold wrap64; omega
def cutRes (r : SR) (ax : Int) (first : Bool) (off : Int) (l : List Int) (P L : List SR) : List SR × List SR × Bool :=
 if cutOk (wholeR r ax) first off l = true then (P ++ cutParts r ax first off l, L ++ cutLines r ax first off l, true) else ([], [], false)
theorem Cut_l0 (r : SR) (ax : Int) (hr : rectOk r = true) (hax : ax = 1 ∨ ax = 2) (l : List Int) (hl : l.length ≤ 100000) : ∀ (d k i : Nat) (off : Int) (P L : List SR), l.length - i = d → i ≤ l.length → d < k → 0 ≤ off → off ≤ wholeR r ax → P.length ≤ i → L.length ≤ i →
  rect_Cut.l0 k ax P L (rX r ax + off) l (l.length : Int) (i : Int) (rX r ax) (rY r ax) (wholeR r ax) (crossR r ax) = some (cutRes r ax (decide (i = 0)) off (l.drop i) P L) := by
 obtain ⟨x0, w0, xw⟩ := rXW_bd r ax hr hax
 intro d
 induction d with
 | zero =>
  intro k i off P L hd hi hk h0 h1 hP hL
  obtain ⟨k, rfl⟩ : ∃ m, k = m + 1 := ⟨k - 1, by omega⟩
  have hn : l.drop i = [] := List.drop_eq_nil_of_le (by omega)
  have e1 := ak (w64s (n := rX r ax + wholeR r ax) (by omega) (by omega))
  simp only [rect_Cut.l0]
  rw [if_neg (by omega), hn, e1.out]
  unfold cutRes cutOk
  by_cases h : off = wholeR r ax
  ·rw [if_pos (by omega), if_pos (by simpa using h)]; simp [cutParts, cutLines]
  ·rw [if_neg (by omega), if_neg (by simpa using h)]
 | succ d ih =>
  intro k i off P L hd hi hk h0 h1 hP hL
  obtain ⟨k, rfl⟩ : ∃ m, k = m + 1 := ⟨k - 1, by omega⟩
  have hlt : i < l.length := by omega
  rw [drop_getD l i hlt]
  have e1 := ak (w64s (n := rX r ax + wholeR r ax) (by omega) (by omega))
  have e2 := ak (w64s (n := rX r ax + off + 1) (by omega) (by omega))
  have e3 := ak (w64s (n := rX r ax + wholeR r ax - (rX r ax + off)) (by omega) (by omega))
  have e4 := ak (w64s (n := rX r ax + wholeR r ax - (rX r ax + off + 1)) (by omega) (by omega))
  have e5 := ak (w64s (n := (i : Int) + 1) (by omega) (by omega))
  simp only [rect_Cut.l0]
  rw [if_pos (by omega), if_pos (by omega), if_pos (by omega), rd_getD]
  generalize l.getD i 0 = n
  simp only [e1.out, e2.out, e3.out, e4.out, e5.out]
  have e6 : ((i + 1 : Nat) : Int) = (i : Int) + 1 := by omega
  by_cases h00 : i = 0
  ·subst h00
   have hd' : l.length = d + 1 := by simpa using hd
   clear hd
   rw [if_neg (by omega)]
   have hdec : decide ((0 : Nat) = 0) = true := rfl
   rw [hdec]
   unfold cutRes
   simp only [cutOk, offA, if_true, cutParts, cutLines]
   by_cases hn1 : n < 1
   ·rw [if_pos hn1, if_neg (by simp; omega)]
   ·rw [if_neg hn1]
    by_cases hn2 : n > rX r ax + wholeR r ax - (rX r ax + off)
    ·rw [if_pos hn2, if_neg (by simp; omega)]
    ·rw [if_neg hn2, turned_back r ax off n hax]
     simp only [Option.bind_some]
     rw [if_pos (by omega), SR.eta]
     have e7 := ak (w64s (n := rX r ax + off + n) (by omega) (by omega))
     have hh := ih k 1 (off + n) (P ++ [mkR r ax off n]) L (by omega) (by omega) (by omega) (by omega) (by omega) (by rw [List.length_append]; simp only [List.length_cons, List.length_nil]; omega) (by omega)
     rw [e7.out, Int.add_assoc]
     have e8 : ((0 : Nat) : Int) + 1 = ((1 : Nat) : Int) := rfl
     rw [e8, hh]
     have hb : decide (1 ≤ n ∧ n ≤ wholeR r ax - off) = true := decide_eq_true (by omega)
     rw [hb, Bool.true_and]
     unfold cutRes
     have hd1 : decide ((1 : Nat) = 0) = false := rfl
     rw [hd1]
     simp
  ·rw [if_pos (by omega), turned_back r ax off 1 hax]
   simp only [Option.bind_some]
   rw [if_pos (by omega)]
   have hdec : decide (i = 0) = false := decide_eq_false h00
   rw [hdec]
   unfold cutRes
   simp only [cutOk, offA, Bool.false_eq_true, if_false, cutParts, cutLines]
   by_cases hn1 : n < 1
   ·rw [if_pos hn1, if_neg (by simp; omega)]
   ·rw [if_neg hn1]
    by_cases hn2 : n > rX r ax + wholeR r ax - (rX r ax + off + 1)
    ·rw [if_pos hn2, if_neg (by simp; omega)]
    ·rw [if_neg hn2, Int.add_assoc (rX r ax) off 1, turned_back r ax (off + 1) n hax]
     simp only [Option.bind_some]
     rw [if_pos (by omega), SR.eta, SR.eta]
     have e7 := ak (w64s (n := rX r ax + (off + 1) + n) (by omega) (by omega))
     have hh := ih k (i + 1) (off + 1 + n) (P ++ [mkR r ax (off + 1) n]) (L ++ [mkR r ax off 1]) (by omega) (by omega) (by omega) (by omega) (by omega) (by simp; omega) (by simp; omega)
     rw [e7.out, Int.add_assoc, ← e6, hh]
     have hb : decide (1 ≤ n ∧ n ≤ wholeR r ax - (off + 1)) = true := decide_eq_true (by omega)
     rw [hb, Bool.true_and]
     unfold cutRes
     have hd1 : decide (i + 1 = 0) = false := rfl
     rw [hd1]
     simp
theorem Cut_f (r : SR) (ax : Int) (hr : rectOk r = true) (hax : ax = 1 ∨ ax = 2) (l : List Int) (hl : l.length ≤ 100000) (hne : l ≠ []) (k : Nat) (hk : l.length + 1 < k) :
  rect_Cut.f k r.f0 r.f1 r.f2 r.f3 ax l = some (cutRes r ax true 0 l [] []) := by
 obtain ⟨k, rfl⟩ : ∃ m, k = m + 1 := ⟨k - 1, by omega⟩
 have hp := List.length_pos_iff.2 hne
 unfold rect_Cut.f
 rw [turned_to r ax hax]
 simp only [Option.bind_some, if_true]
 rw [rect_may_eq, hr]
 simp only [Option.bind_some, if_true, rect_Cut.j0]
 have : ((l.length : Int) == 0) = false := beq_eq_false_iff_ne.2 (by omega)
 rw [this, if_neg (by decide)]
 have h := Cut_l0 r ax hr hax l hl l.length k 0 0 [] [] (by omega) (by omega) (by omega) (by omega) (by have := rXW_bd r ax hr hax; omega) (by simp) (by simp)
 simpa using h
theorem cut_sizes (c : SC) (hl : c.f3.length ≤ 100000) : ∀ (d k i : Nat), c.f3.length - i = d → i ≤ c.f3.length → d < k → ∃ k', k - d - 1 ≤ k' ∧
  tile_cut.l0 k ((sizesOf c).take i) c.f3 (c.f3.length : Int) (i : Int) c.f0 c.f1.f0 c.f1.f1 c.f1.f2 c.f1.f3 c.f2 c.f3 = ((rect_Cut.f k' c.f1.f0 c.f1.f1 c.f1.f2 c.f1.f3 ((((c.f0 - 2) % 256) + 1) % 256) (sizesOf c)).bind fun bt149 => (some (bt149.1, bt149.2.1, bt149.2.2))) := by
 have hsl : (sizesOf c).length = c.f3.length := by simp [sizesOf]
 intro d
 induction d with
 | zero =>
  intro k i hd hi hk
  obtain ⟨k, rfl⟩ : ∃ m, k = m + 1 := ⟨k - 1, by omega⟩
  refine ⟨k, by omega, ?_⟩
  simp only [tile_cut.l0]
  rw [if_neg (by omega), List.take_of_length_le (by omega)]
 | succ d ih =>
  intro k i hd hi hk
  obtain ⟨k, rfl⟩ : ∃ m, k = m + 1 := ⟨k - 1, by omega⟩
  have hlt : i < c.f3.length := by omega
  have e5 := ak (w64s (n := (i : Int) + 1) (by omega) (by omega))
  have e6 : (i : Int) + 1 = ((i + 1 : Nat) : Int) := by omega
  have htk : (sizesOf c).take (i + 1) = (sizesOf c).take i ++ [if c.f0 = 2 then (rd_T27 c.f3 (i : Int)).f1.f2 else (rd_T27 c.f3 (i : Int)).f1.f3] := by
   rw [List.take_add_one, List.getElem?_eq_getElem (by omega)]
   simp [sizesOf, rd_T27, List.getD_eq_getElem?_getD, List.getElem?_eq_getElem hlt]
  obtain ⟨k', hk', hh⟩ := ih k (i + 1) (by omega) (by omega) (by omega)
  refine ⟨k', by omega, ?_⟩
  rw [← hh, htk, ← e6]
  simp only [tile_cut.l0]
  rw [if_pos (by omega), if_pos (by omega), if_pos (by omega), e5.out]
  by_cases h2 : c.f0 = 2
  ·rw [if_pos h2, if_pos (by rw [List.length_take]; omega), if_pos h2]
  ·rw [if_neg h2, if_pos (by rw [List.length_take]; omega), if_neg h2]
theorem tile_cut_eq (c : SC) (hl : c.f3.length ≤ 100000) (hr : rectOk c.f1 = true) (hk : c.f0 = 2 ∨ c.f0 = 3) (h2 : 2 ≤ c.f3.length) (k : Nat) (hk' : 2 * c.f3.length + 4 < k) :
  tile_cut.f k c.f0 c.f1.f0 c.f1.f1 c.f1.f2 c.f1.f3 c.f2 c.f3 = some (cutRes c.f1 (c.f0 - 1) true 0 (sizesOf c) [] []) := by
 unfold tile_cut.f
 obtain ⟨k2, hk2, hh⟩ := cut_sizes c hl c.f3.length k 0 (by omega) (by omega) (by omega)
 rw [List.take_zero] at hh
 have hsl : (sizesOf c).length = c.f3.length := by simp [sizesOf]
 have e : ((((c.f0 - 2) % 256) + 1) % 256) = c.f0 - 1 := by omega
 rw [e] at hh
 have hz : ((0 : Nat) : Int) = 0 := rfl
 rw [hz] at hh
 rw [hh, Cut_f c.f1 (c.f0 - 1) hr (by omega) (sizesOf c) (by omega) (by intro h; rw [h] at hsl; simp at hsl; omega) k2 (by omega)]
 rfl
theorem linesS_cut (c : SC) (hr : rectOk c.f1 = true) (hk : c.f0 = 2 ∨ c.f0 = 3) (h2 : 2 ≤ c.f3.length) :
  linesS c = if (cutRes c.f1 (c.f0 - 1) true 0 (sizesOf c) [] []).2.2 = true ∧ c.f3.map (·.f1) = (cutRes c.f1 (c.f0 - 1) true 0 (sizesOf c) [] []).1 then some (cutRes c.f1 (c.f0 - 1) true 0 (sizesOf c) [] []).2.1 else none := by
 unfold linesS
 rw [if_neg (by omega)]
 have hne : (sizesOf c).isEmpty = false := by
  have hsl : (sizesOf c).length = c.f3.length := by simp [sizesOf]
  cases h : sizesOf c with
  | nil => rw [h] at hsl; simp at hsl; omega
  | cons _ _ => rfl
 have hg : cutGood c.f1 (c.f0 - 1) (sizesOf c) = cutOk (wholeR c.f1 (c.f0 - 1)) true 0 (sizesOf c) := by
  unfold cutGood
  rw [hr, hne, decide_eq_true (by omega)]
  rfl
 rw [hg]
 unfold cutRes
 by_cases h : cutOk (wholeR c.f1 (c.f0 - 1)) true 0 (sizesOf c) = true
 ·rw [if_pos h]; simp [h]
 ·rw [if_neg h, if_neg (by simp [h]), if_neg (by simp)]
theorem sr_ext {a b : SR} (h0 : a.f0 = b.f0) (h1 : a.f1 = b.f1) (h2 : a.f2 = b.f2) (h3 : a.f3 = b.f3) : a = b := by cases a; cases b; simp_all
theorem lines1_calls (c : SC) (r : SR) (A : Option Addr) (n cap : Nat) (w : World) :
  Calls Tryz.prog 139 #[.agg #[.int .u8 c.f0, .int .i64 c.f1.f0, .int .i64 c.f1.f1, .int .i64 c.f1.f2, .int .i64 c.f1.f3, .int .i64 c.f2, .slice A n cap], .agg #[.int .i64 r.f0, .int .i64 r.f1, .int .i64 r.f2, .int .i64 r.f3]] w
   fun e w' => e = .returned (.bool (decide (c.f1 = r))) ∧ Below w.heap.size w w' := by
 have hb : Below w.heap.size w ((w.alloc (.cells #[.int .u8 c.f0, .int .i64 c.f1.f0, .int .i64 c.f1.f1, .int .i64 c.f1.f2, .int .i64 c.f1.f3, .int .i64 c.f2, .slice A n cap] 27)).alloc (.cells #[.int .i64 r.f0, .int .i64 r.f1, .int .i64 r.f2, .int .i64 r.f3] 24)) := below_alloc (below_alloc (Below.refl _ _) _) _
 by_cases h : c.f1 = r
 ·rw [decide_eq_true h]
  subst h
  have HB := ak hb
  clear hb
  go_enter Tryz.func139, Tryz.ntmps139
  go_wp2
  go_ret
  exact ⟨rfl, HB.out⟩
 ·rw [decide_eq_false h]
  have HH := ak h
  clear hb h
  go_enter Tryz.func139, Tryz.ntmps139
  go_wp2
  all_goals first
   | (exfalso; exact HH.out (sr_ext ‹_› ‹_› ‹_› ‹_›))
   | (go_ret; exact ⟨rfl, by repeat (first | exact Below.refl _ _ | apply below_alloc)⟩)
theorem take_map_succ (kids : List SC) (rs : List SR) (k : Nat) (h1 : k < kids.length) (h2 : k < rs.length) (h : (kids.take k).map (·.f1) = rs.take k) (he : (kids.getD k z27).f1 = rs.getD k z24) :
  (kids.take (k + 1)).map (·.f1) = rs.take (k + 1) := by
 have he' : kids[k].f1 = rs[k] := by
  rw [List.getD_eq_getElem?_getD, List.getElem?_eq_getElem h1, List.getD_eq_getElem?_getD, List.getElem?_eq_getElem h2] at he
  exact he
 rw [List.take_add_one, List.take_add_one, List.map_append, h, List.getElem?_eq_getElem h1, List.getElem?_eq_getElem h2]
 simp only [Option.toList_some, List.map_cons, List.map_nil, he']
theorem take_map_ne (kids : List SC) (rs : List SR) (k : Nat) (h1 : k < kids.length) (h2 : k < rs.length) (he : ¬ (kids.getD k z27).f1 = rs.getD k z24) : ¬ kids.map (·.f1) = rs := by
 intro h
 apply he
 subst h
 rw [List.getD_eq_getElem?_getD, List.getElem?_eq_getElem h1, List.getD_eq_getElem?_getD, List.getElem?_eq_getElem h2]
 simp
theorem at_R {w : World} {A : Option Addr} {n : Nat} {xs : List SR} (h : (k24).C w A n xs) (k : Nat) (hk : k < n) : ∃ ad, A = some ad ∧
  w.cell? (ad.add (k * 4)) = some (.int .i64 (xs.getD k z24).f0) ∧
  w.cell? ⟨(ad.add (k * 4)).block, (ad.add (k * 4)).off + 1, none⟩ = some (.int .i64 (xs.getD k z24).f1) ∧
  w.cell? ⟨(ad.add (k * 4)).block, (ad.add (k * 4)).off + 2, none⟩ = some (.int .i64 (xs.getD k z24).f2) ∧
  w.cell? ⟨(ad.add (k * 4)).block, (ad.add (k * 4)).off + 3, none⟩ = some (.int .i64 (xs.getD k z24).f3) := by
 obtain ⟨ad, h1, h2, h3, h4, h5⟩ := at_T24 h (k : Int) (by omega) (by omega)
 rw [Int.toNat_natCast] at h2 h3 h4 h5
 have e : rd_T24 xs (k : Int) = xs.getD k z24 := by simp [rd_T24]
 rw [e] at h2 h3 h4 h5
 exact ⟨ad, h1, h2, h3, h4, h5⟩
set_option maxHeartbeats 2000000 in
theorem eqf_calls (kids : List SC) (rs : List SR) (A A2 : Option Addr) (n n2 c c2 : Nat) (w : World) (hr : Tr w.heap.size w A n kids) (hr2 : (k24).C w A2 n2 rs) :
  Calls Tryz.prog 138 #[.slice A n c, .slice A2 n2 c2, .func (.func 139) #[] #[]] w fun e w' => e = .returned (.bool (decide (kids.map (·.f1) = rs))) ∧ Below w.heap.size w w' := by
 have hmax := hr.max
 have hlen := hr.len
 have hlen2 := Kd.C_len hr2
 have hmax2 := Kd.C_max hr2
 by_cases hnn : n = n2
 ·subst hnn
  have HR := ak hr
  have HR2 := ak hr2
  have HL := ak (And.intro hlen hlen2)
  obtain ⟨b, hb⟩ : ∃ b, b = decide (kids.map (·.f1) = rs) := ⟨_, rfl⟩
  rw [← hb]
  have HBB := ak hb
  clear hr hr2 hlen hlen2 hb
  go_enter Tryz.func138, Tryz.ntmps138
  go_wp2
  go_loopw [7, 8, 9, 17] (fun _ _ _ i wr => ∃ k : Nat, k ≤ n ∧ i = .int .i64 k ∧ Aside0 (Below w.heap.size w wr ∧ (kids.take k).map (·.f1) = rs.take k)) (fun _ _ _ i _ => n - (intOf i).toNat)
  case atStart => exact ⟨0, by omega, rfl, ⟨Below.refl _ _, by simp⟩⟩
  case round =>
   obtain ⟨k, hk, rfl, HA⟩ := hrel
   by_cases hlt : k < n
   ·obtain ⟨ad, A6, c6, rfl, g0, g1, g2, g3, g4, g5, g6, _, _⟩ := (HR.out.below HA.out.1).get k hlt
    obtain ⟨ad2, rfl, r0, r1, r2, r3⟩ := at_R (Kd.C_below HR2.out HA.out.1) k hlt
    have hin := World.block_lt_of_cell? wr _ r0
    have hin1 := World.block_lt_of_cell? wr _ r1
    have hin2 := World.block_lt_of_cell? wr _ r2
    have hin3 := World.block_lt_of_cell? wr _ r3
    have HSTEP : Aside0 (((kids.getD k z27).f1 = rs.getD k z24 → (kids.take (k + 1)).map (·.f1) = rs.take (k + 1)) ∧ (¬ (kids.getD k z27).f1 = rs.getD k z24 → ¬ kids.map (·.f1) = rs)) :=
     ⟨take_map_succ kids rs k (by rw [HL.out.1]; exact hlt) (by rw [HL.out.2]; exact hlt) HA.out.2, take_map_ne kids rs k (by rw [HL.out.1]; exact hlt) (by rw [HL.out.2]; exact hlt)⟩
    generalize kids.getD k z27 = x at *
    generalize rs.getD k z24 = y at *
    have HC := ak (lines1_calls x y A6 x.f3.length c6 ((wr.alloc (.cells #[.int .u8 x.f0, .int .i64 x.f1.f0, .int .i64 x.f1.f1, .int .i64 x.f1.f2, .int .i64 x.f1.f3, .int .i64 x.f2, .slice A6 x.f3.length c6] 27)).alloc (.cells #[.int .i64 y.f0, .int .i64 y.f1, .int .i64 y.f2, .int .i64 y.f3] 24)))
    have hb2 : Below w.heap.size w ((wr.alloc (.cells #[.int .u8 x.f0, .int .i64 x.f1.f0, .int .i64 x.f1.f1, .int .i64 x.f1.f2, .int .i64 x.f1.f3, .int .i64 x.f2, .slice A6 x.f3.length c6] 27)).alloc (.cells #[.int .i64 y.f0, .int .i64 y.f1, .int .i64 y.f2, .int .i64 y.f3] 24)) := below_alloc (below_alloc HA.out.1 _) _
    have HB2 := ak hb2
    clear hb2 HA
    by_cases he : x.f1 = y
    ·rw [decide_eq_true he] at HC
     have HE := ak (HSTEP.out.1 he)
     clear HSTEP he
     go_wp2_with fail
     refine HC.out.mono ?_
     rintro e w1 ⟨rfl, hb⟩
     have HB1 := ak (HB2.out.trans (hb.mono HB2.out.size))
     clear hb
     go_wp2
     go_roundw
     case rel => exact ⟨k + 1, by omega, by go_num, ⟨HB1.out, HE.out⟩⟩
     case measure => simp [intOf]; omega
    ·rw [decide_eq_false he] at HC
     have HE := ak (HSTEP.out.2 he)
     clear HSTEP he
     go_wp2_with fail
     refine HC.out.mono ?_
     rintro e w1 ⟨rfl, hb⟩
     have HB1 := ak (HB2.out.trans (hb.mono HB2.out.size))
     clear hb
     go_wp2
     go_ret
     exact ⟨by rw [HBB.out, decide_eq_false HE.out]; rfl, HB1.out⟩
   ·have HE : Aside0 (kids.map (·.f1) = rs) := ⟨by
     have := HA.out.2
     rw [List.take_of_length_le (by rw [HL.out.1]; omega), List.take_of_length_le (by rw [HL.out.2]; omega)] at this
     exact this⟩
    go_wp2
    go_ret
    exact ⟨by rw [HBB.out, decide_eq_true HE.out]; rfl, HA.out.1⟩
 ·have hne : ¬ kids.map (·.f1) = rs := by
   intro h
   have := congrArg List.length h
   simp at this
   omega
  rw [decide_eq_false hne]
  have hb : ((n : Int) != (n2 : Int)) = true := by simp; omega
  have hb' : (n != n2) = true := by simp; omega
  clear hr hr2 hne hlen hlen2
  go_enter Tryz.func138, Tryz.ntmps138
  go_wp2
  go_ret
  exact ⟨rfl, Below.refl _ _⟩
def OutLines (w : World) (c : SC) (e : Ending) (w' : World) : Prop :=
 ∃ v rows, e = .returned (.tuple #[v, .bool (linesS c).isSome]) ∧ (k24).R 24 w' w.heap.size (fun _ => True) v rows ∧ (∀ l, linesS c = some l → rows = l) ∧ Below w.heap.size w w'
set_option maxHeartbeats 2000000 in
theorem lines_calls (c : SC) (A : Option Addr) (cap : Nat) (w : World) (hn : nodeOk c = true) (hr : rectOk c.f1 = true) (hl : c.f3.length ≤ 100000) (hcap : c.f3.length ≤ cap) (hT : Tr w.heap.size w A c.f3.length c.f3) :
  Calls Tryz.prog 118 #[.agg #[.int .u8 c.f0, .int .i64 c.f1.f0, .int .i64 c.f1.f1, .int .i64 c.f1.f2, .int .i64 c.f1.f3, .int .i64 c.f2, .slice A c.f3.length cap]] w (OutLines w c) := by
 have hb : Below w.heap.size w (w.alloc (.cells #[.int .u8 c.f0, .int .i64 c.f1.f0, .int .i64 c.f1.f1, .int .i64 c.f1.f2, .int .i64 c.f1.f3, .int .i64 c.f2, .slice A c.f3.length cap] 27)) := below_alloc (Below.refl _ _) _
 by_cases hk : c.f0 = 1
 ·have hlin : linesS c = some [] := by simp [linesS, hk]
  have HL := ak hlin
  have HB := ak hb
  have HK := ak hk
  have hkb : (c.f0 == 1) = true := beq_iff_eq.2 hk
  clear hlin hb hn hr hT hk
  go_enter Tryz.func118, Tryz.ntmps118
  go_wp2
  go_ret2
  exact ⟨_, [], by rw [HL.out]; rfl, Kd.R_nil _ _ _ _ _, (fun l h => by rw [HL.out] at h; injection h), HB.out⟩
 ·have hk23 : c.f0 = 2 ∨ c.f0 = 3 := by
   unfold nodeOk at hn
   rw [if_neg hk] at hn
   by_cases h : c.f0 = 2 ∨ c.f0 = 3
   ·exact h
   ·rw [if_neg h] at hn; cases hn
  have h2 : 2 ≤ c.f3.length := by
   unfold nodeOk at hn
   rw [if_neg hk, if_pos hk23, decide_eq_true_eq] at hn
   exact hn.1
  have hlin := linesS_cut c hr hk23 h2
  have hcut := tile_cut_eq c hl hr hk23 h2 (2 * c.f3.length + 5) (by omega)
  have hkb : (c.f0 == 1) = false := beq_eq_false_iff_ne.2 hk
  generalize cutRes c.f1 (c.f0 - 1) true 0 (sizesOf c) [] [] = r at *
  obtain ⟨r1, r2, r3⟩ := r
  simp only at hlin
  obtain ⟨w1, hw1⟩ : ∃ w1, w1 = w.alloc (.cells #[.int .u8 c.f0, .int .i64 c.f1.f0, .int .i64 c.f1.f1, .int .i64 c.f1.f2, .int .i64 c.f1.f3, .int .i64 c.f2, .slice A c.f3.length cap] 27) := ⟨_, rfl⟩
  have hs1 : w1.heap.size = w.heap.size + 1 := by rw [hw1]; simp
  have hb1 : Below w.heap.size w w1 := by rw [hw1]; exact hb
  have hT1 := (hT.below hb1)
  have HC := tile_cut.calls _ c.f0 c.f1.f0 c.f1.f1 c.f1.f2 c.f1.f3 c.f2 A cap c.f3 r1 r2 r3 w1 hT1.now hcap hcut
  have c6 : w1.cell? ⟨w.heap.size, 6, none⟩ = some (.slice A c.f3.length cap) := by rw [hw1]; simp
  rw [hw1] at HC
  have HC := ak HC
  have HB := ak hb1
  have HT := ak hT1
  have HLIN := ak hlin
  have HW := ak hw1
  have HS := ak hs1
  have C6 := ak c6
  clear hlin hcut hk hk23 h2 hT hT1 hb hb1 hw1 hs1 c6 hn hr
  cases r3 with
  | false =>
   go_enter Tryz.func118, Tryz.ntmps118
   go_wp2_with fail
   refine HC.out.mono ?_
   rintro e w2 ⟨v0, v1, rfl, hR0, hR1, hb2⟩
   rw [← HW.out] at hb2 hR1
   obtain ⟨A1, n1, c1, rfl⟩ := sl_of_R hR1
   obtain ⟨A0, n0, c0, rfl⟩ := sl_of_R hR0
   have H1 := ak (Kd.R_lower (Kd.R_mono hR1 (fun _ _ => trivial)) (show w.heap.size ≤ w1.heap.size by rw [HS.out]; omega))
   have HB2 := ak (HB.out.trans (hb2.mono HB.out.size))
   clear hR0 hR1 hb2 HC
   go_wp2
   go_ret2
   have e : linesS c = none := by rw [HLIN.out]; simp
   exact ⟨_, r2, by rw [e]; rfl, H1.out, (fun l h => by rw [e] at h; cases h), HB2.out⟩
  | true =>
   go_enter Tryz.func118, Tryz.ntmps118
   go_wp2_with fail
   refine HC.out.mono ?_
   rintro e w2 ⟨v0, v1, rfl, hR0, hR1, hb2⟩
   rw [← HW.out] at hb2 hR1 hR0
   obtain ⟨A1, n1, c1, rfl⟩ := sl_of_R hR1
   obtain ⟨A0, n0, c0, rfl⟩ := sl_of_R hR0
   have g6 := pw_cell_below hb2 C6.out
   obtain ⟨hn0, _, hC0⟩ := Kd.R_reads' hR0
   rw [← hn0] at hC0
   have hsz2 := hb2.size
   have HE := ak (eqf_calls c.f3 r1 A A0 c.f3.length n0 cap c0 w2 ((HT.out.below (hb2.mono (by rw [HS.out]; omega))).mono (by rw [HS.out] at hsz2; omega)) hC0)
   have H1 := ak (Kd.R_lower (Kd.R_mono hR1 (fun _ _ => trivial)) (show w.heap.size ≤ w1.heap.size by rw [HS.out]; omega))
   have HB2 := ak (HB.out.trans (hb2.mono HB.out.size))
   clear hR0 hR1 hb2 HC hn0 hC0 hsz2
   go_wp2_with fail
   refine HE.out.mono ?_
   rintro e w3 ⟨rfl, hb3⟩
   have HB3 := ak (HB2.out.trans (hb3.mono HB2.out.size))
   have H3 := ak (Kd.R_below H1.out hb3)
   clear hb3 HE
   by_cases he : c.f3.map (·.f1) = r1
   ·rw [decide_eq_true he]
    have e : linesS c = some r2 := by rw [HLIN.out, if_pos ⟨trivial, he⟩]
    have HEE := ak e
    clear he e
    go_wp2
    go_ret2
    exact ⟨_, r2, by rw [HEE.out]; rfl, H3.out, (fun l h => by rw [HEE.out] at h; injection h), HB3.out⟩
   ·rw [decide_eq_false he]
    have e : linesS c = none := by rw [HLIN.out, if_neg (fun h => he h.2)]
    have HEE := ak e
    clear he e
    go_wp2
    go_ret2
    exact ⟨_, r2, by rw [HEE.out]; rfl, H3.out, (fun l h => by rw [HEE.out] at h; cases h), HB3.out⟩
theorem wf64 {i : Int} (h0 : -9223372036854775808 ≤ i) (h1 : i ≤ 9223372036854775807) : (Lit.int .i64 i).wf = true := WalkArith.wf_i64 ⟨h0, h1⟩
def SetAt (w : World) (b u : Nat) (ids : List Int) : Prop :=
 ∃ D : DataW Unit, w.ownsMap Tryz.prog 3 (plainElem Tryz.prog 4) b u D ∧ ∀ i : Int, (Lit.int .i64 i).wf = true → D.atKey (.int .i64 i) (.lit (.bool false)) = .lit (.bool (decide (i ∈ ids)))
theorem SetAt.made (w : World) (u : Nat) : SetAt (w.alloc (.map #[] 0)) w.heap.size u [] := ⟨.map [], (World.ownsMap_made w Tryz.prog 3 _).mono (Nat.zero_le _), fun i _ => rfl⟩
theorem SetAt.below {w w' : World} {b u : Nat} {ids : List Int} (h : SetAt w b u ids) (hb : Below w.heap.size w w') : SetAt w' b u ids := by
 obtain ⟨D, h1, h2⟩ := h
 exact ⟨D, h1.kept (grown_of_below hb none) (by simp), h2⟩
theorem SetAt.mono {w : World} {b u u' : Nat} {ids : List Int} (h : SetAt w b u ids) (hu : u ≤ u') : SetAt w b u' ids := by
 obtain ⟨D, h1, h2⟩ := h
 exact ⟨D, h1.mono hu, h2⟩
theorem SetAt.setCell {w : World} {b u : Nat} {ids : List Int} (h : SetAt w b u ids) {a : Addr} (ha : b ≠ a.block) (v : Value) : SetAt (w.setCell a v) b u ids := by
 obtain ⟨D, h1, h2⟩ := h
 exact ⟨D, h1.setCell ha v, h2⟩
theorem SetAt.look {w : World} {b u : Nat} {ids : List Int} (h : SetAt w b u ids) (i : Int) (hw : (Lit.int .i64 i).wf = true) : (Instr.lookup 163 (.map (some b)) (.int .i64 i) false).run Tryz.prog w = .ok (.bool (decide (i ∈ ids))) w := by
 obtain ⟨D, h1, h2⟩ := h
 obtain ⟨v, ps, hr, hv⟩ := h1.lookup (z := .bool false) (Go.Maps.int_keyed Tryz.underlying3) Tryz.underlying163 (by kernel_rfl) (plainElem_bool Tryz.underlying4 false) (Go.Maps.keyOf_int_mk Tryz.underlying3 hw)
 rw [h2 i hw] at hv
 rw [hr]
 unfold plainElem at hv
 rw [Tryz.underlying4] at hv
 cases v <;> simp at hv
 rw [hv.1]
theorem SetAt.put {w : World} {b u : Nat} {ids : List Int} (h : SetAt w b u ids) (i : Int) (hw : (Lit.int .i64 i).wf = true) (hu : u < 1000000) :
  ∃ w', (Instr.mapUpdate 163 (.map (some b)) (.int .i64 i) (.bool true)).run Tryz.prog w = .ok () w' ∧ SetAt w' b (u + 1) (i :: ids) ∧ w.grownBy w' (some b) := by
 obtain ⟨D, h1, h2⟩ := h
 obtain ⟨w', hr, ho, hg⟩ := h1.update (val := .bool true) (Go.Maps.int_keyed Tryz.underlying3) Tryz.underlying163 (by unfold maxLen; omega) (Go.Maps.keyOf_int_mk Tryz.underlying3 hw) (plainElem_bool Tryz.underlying4 true)
 refine ⟨w', hr, ⟨_, ho, fun j hj => ?_⟩, hg⟩
 by_cases e : j = i
 ·subst e
  rw [Go.Maps.atKey_put_same h1.isMap (by simp [WideAt.IsKeyLit])]
  simp
 ·rw [Go.Maps.atKey_put_other (by intro h; injection h with _ h; exact e h), h2 j hj]
  simp [e]
def MayInv (B N bn bm mb : Nat) (w : World) (st : Nat × List Int) (u : Nat) : Prop :=
 (st.1 ≤ u ∧ (B ≤ bn ∧ bn < N) ∧ (B ≤ mb ∧ mb < N) ∧ bn ≠ bm ∧ bn ≠ mb ∧ bm ≠ mb) ∧ w.heap[bn]? = some (.cells #[.int .i64 (st.1 : Nat)] 3 (0, 0)) ∧ w.heap[bm]? = some (.cells #[.map (some mb)] 163 (0, 0)) ∧ SetAt w mb u st.2
theorem MayInv.stable (B N bn bm mb : Nat) : Stable (MayInv B N bn bm mb) :=
 ⟨fun w w' st u h hb => ⟨h.1, (hb.block bn (blk_lt h.2.1)).trans h.2.1, (hb.block bm (blk_lt h.2.2.1)).trans h.2.2.1, h.2.2.2.below hb⟩,
 fun w st u u' h hu => ⟨⟨by have := h.1.1; omega, h.1.2⟩, h.2.1, h.2.2.1, h.2.2.2.mono hu⟩⟩
set_option maxHeartbeats 4000000 in
theorem may1_calls (B N bn bm mb : Nat) (c : SC) (w : World) (st : Nat × List Int) (u : Nat) (A : Option Addr) (cap : Nat) (hi : MayInv B N bn bm mb w st u) (hu : u + 1 ≤ 10000) (hN : N ≤ w.heap.size) (hn : c.f3.length ≤ 9223372036854775807) :
  Calls Tryz.prog 97 #[.agg #[.int .u8 c.f0, .int .i64 c.f1.f0, .int .i64 c.f1.f1, .int .i64 c.f1.f2, .int .i64 c.f1.f3, .int .i64 c.f2, .slice A c.f3.length cap], .pointer (some ⟨bn, 0, none⟩), .pointer (some ⟨bm, 0, none⟩)] w
   fun e w' => e = .returned (.bool (mayStep st c).1) ∧ MayInv B N bn bm mb w' (mayStep st c).2 (u + 1) ∧ Mid B N w w' := by
 obtain ⟨⟨q1, q2, q3, q4, q5, q6⟩, b1, b2, hS⟩ := hi
 obtain ⟨n, ids⟩ := st
 simp only at q1 b1 hS
 have hlt1 := blk_lt b1
 have hlt2 := blk_lt b2
 obtain ⟨w1, hw1⟩ : ∃ w1, w1 = w.setCell ⟨bn, 0, none⟩ (.int .i64 ((n : Int) + 1)) := ⟨_, rfl⟩
 have hs1 : w1.heap.size = w.heap.size := by rw [hw1]; simp [World.setCell]
 have b1' : w1.heap[bn]? = some (.cells #[.int .i64 ((n + 1 : Nat) : Int)] 3 (0, 0)) := by rw [hw1]; exact blk_set b1 0 _
 have hoth : ∀ k, k ≠ bn → w1.heap[k]? = w.heap[k]? := fun k hk => by rw [hw1]; exact Below.heap_setCell _ _ _ _ hk
 have b2' : w1.heap[bm]? = some (.cells #[.map (some mb)] 163 (0, 0)) := (hoth bm (Ne.symm q4)).trans b2
 have hS1 : SetAt w1 mb u ids := by rw [hw1]; exact hS.setCell (Ne.symm q5) _
 have hm01 : Mid B N w w1 := by rw [hw1]; exact (Mid.refl B N w).setCell q2 _
 obtain ⟨w2, hw2⟩ : ∃ w2, w2 = w1.alloc (.cells #[.int .u8 c.f0, .int .i64 c.f1.f0, .int .i64 c.f1.f1, .int .i64 c.f1.f2, .int .i64 c.f1.f3, .int .i64 c.f2, .slice A c.f3.length cap] 27) := ⟨_, rfl⟩
 have hb12 : Below w1.heap.size w1 w2 := by rw [hw2]; exact below_alloc (Below.refl _ _) _
 have b1'' : w2.heap[bn]? = some (.cells #[.int .i64 ((n + 1 : Nat) : Int)] 3 (0, 0)) := (hb12.block bn (blk_lt b1')).trans b1'
 have b2'' : w2.heap[bm]? = some (.cells #[.map (some mb)] 163 (0, 0)) := (hb12.block bm (blk_lt b2')).trans b2'
 have hbox2 : w2.heap[w.heap.size]? = some (.cells #[.int .u8 c.f0, .int .i64 c.f1.f0, .int .i64 c.f1.f1, .int .i64 c.f1.f2, .int .i64 c.f1.f3, .int .i64 c.f2, .slice A c.f3.length cap] 27 (0, 0)) := by rw [hw2, ← hs1]; exact heap_alloc_new w1 _
 have hS2 : SetAt w2 mb u ids := hS1.below hb12
 have hm02 : Mid B N w w2 := hm01.below hb12
 have hs2 : w2.heap.size = w.heap.size + 1 := by rw [hw2]; simp [hs1]
 have HNODE := node_calls c A cap w2 hn
 obtain ⟨nd, hnd⟩ : ∃ nd, nd = nodeOk c := ⟨_, rfl⟩
 obtain ⟨rk, hrk⟩ : ∃ rk, rk = rectOk c.f1 := ⟨_, rfl⟩
 have hstep : mayStep (n, ids) c = if (nd = false ∨ rk = false ∨ (c.f0 = 1 ∧ c.f2 ∈ ids)) then (false, n + 1, ids) else (true, n + 1, if c.f0 = 1 then c.f2 :: ids else ids) := by
  unfold mayStep
  rw [← hnd, ← hrk]
  have : ¬ 20000 < n + 1 := by omega
  simp only [this, false_or]
 have hnode2 : nd = true → c.f0 = 1 → (Lit.int .i64 c.f2).wf = true := by
  intro h1 h2
  rw [hnd] at h1
  unfold nodeOk at h1
  rw [if_pos h2, Bool.and_eq_true, decide_eq_true_eq] at h1
  exact wf64 (by omega) (by omega)
 rw [← hnd] at HNODE
 have c0 : w.cell? ⟨bn, 0, none⟩ = some (.int .i64 (n : Int)) := by rw [blk_cell b1]; rfl
 have e0 : w.frozen? ⟨bn, 0, none⟩ = false := blk_frozen b1 0
 have cN : w2.cell? ⟨bn, 0, none⟩ = some (.int .i64 ((n : Int) + 1)) := by rw [blk_cell b1'']; rfl
 have hcb : ∀ j : Nat, w2.cell? ⟨w.heap.size, j, none⟩ = (#[Value.int .u8 c.f0, .int .i64 c.f1.f0, .int .i64 c.f1.f1, .int .i64 c.f1.f2, .int .i64 c.f1.f3, .int .i64 c.f2, .slice A c.f3.length cap] : Array Value)[j]? := fun j => by rw [blk_cell hbox2]
 have HCB := ak hcb
 have HW : Aside0 (w2 = (w.setCell ⟨bn, 0, none⟩ (.int .i64 ((n : Int) + 1))).alloc (.cells #[.int .u8 c.f0, .int .i64 c.f1.f0, .int .i64 c.f1.f1, .int .i64 c.f1.f2, .int .i64 c.f1.f3, .int .i64 c.f2, .slice A c.f3.length cap] 27)) := ⟨by rw [hw2, hw1]⟩
 have d0 := hcb 0
 have d1 := hcb 1
 have d2 := hcb 2
 have d3 := hcb 3
 have d4 := hcb 4
 have d5 := hcb 5
 have d6 := hcb 6
 simp at d0 d1 d2 d3 d4 d5 d6
 rw [HW.out] at HNODE
 rw [HW.out] at cN d0 d1 d2 d3 d4 d5 d6
 have HN := ak HNODE
 have hgt : decide ((n : Int) + 1 > 20000) = false := decide_eq_false (by omega)
 have hgt2 : decide (20000 < (n : Int) + 1) = false := decide_eq_false (by omega)
 have HM := ak hm02
 have HQ := ak (And.intro q2 (And.intro q3 (And.intro q4 (And.intro q5 q6))))
 have HS := ak hS2
 have HB1 := ak b1''
 have HB2 := ak b2''
 have HSZ := ak hs2
 have HST := ak hstep
 have HWF := ak hnode2
 have HRK := ak hrk
 clear hrk
 have hfin : ∀ w4, Below w2.heap.size w2 w4 → MayInv B N bn bm mb w4 (n + 1, ids) (u + 1) ∧ Mid B N w w4 := fun w4 hb =>
  ⟨⟨⟨by show n + 1 ≤ u + 1; omega, q2, q3, q4, q5, q6⟩, (hb.block bn (blk_lt b1'')).trans b1'', (hb.block bm (blk_lt b2'')).trans b2'', (hS2.below hb).mono (by omega)⟩, hm02.below hb⟩
 have HFIN := ak hfin
 clear hfin hnode2 hstep hs2 b1'' b2'' hS2 q2 q3 q4 q5 q6 hm02 hcb HNODE hoth hbox2 b1 b2 b1' b2' hS hS1 hb12 hm01 hs1 hw1 hw2 hnd
 have hnW : (n : Int) + 1 ≤ 10000 := by omega
 cases hndc : nd with
 | false =>
  subst hndc
  go_enter Tryz.func97, Tryz.ntmps97
  go_wp2_with fail
  refine HN.out.mono ?_
  rintro e w3 ⟨rfl, hb3⟩
  rw [← HW.out] at hb3
  have HB3 := ak hb3
  clear hb3 HN
  go_wp2
  go_ret
  have e := HST.out
  rw [if_pos (by simp)] at e
  rw [e]
  exact ⟨rfl, (HFIN.out _ HB3.out).1, (HFIN.out _ HB3.out).2⟩
 | true =>
  subst hndc
  go_enter Tryz.func97, Tryz.ntmps97
  go_wp2_with fail
  refine HN.out.mono ?_
  rintro e w3 ⟨rfl, hb3⟩
  rw [← HW.out] at hb3
  have HB3 := ak hb3
  have hcb3 : ∀ j : Nat, ∀ v, w2.cell? ⟨w.heap.size, j, none⟩ = some v → w3.cell? ⟨w.heap.size, j, none⟩ = some v := fun j v h => pw_cell_below hb3 h
  rw [← HW.out] at d0 d1 d2 d3 d4 d5 d6
  have g0 := hcb3 0 _ d0
  have g1 := hcb3 1 _ d1
  have g2 := hcb3 2 _ d2
  have g3 := hcb3 3 _ d3
  have g4 := hcb3 4 _ d4
  have g5 := hcb3 5 _ d5
  have HRM := ak (rmay_calls w3.heap.size c.f1 (w3.alloc (.cells #[.int .i64 c.f1.f0, .int .i64 c.f1.f1, .int .i64 c.f1.f2, .int .i64 c.f1.f3] 24)) (by simp) (by simp) (by simp) (by simp))
  rw [show rectOk c.f1 = rk from HRK.out.symm] at HRM
  have HD0 := ak d0
  have HD5 := ak d5
  clear HN d0 d1 d2 d3 d4 d5 d6 g0 g5 hcb3 hb3
  go_wp2_with fail
  refine HRM.out.mono ?_
  rintro e w4 ⟨rfl, hb4⟩
  have hb24 : Below w2.heap.size w2 w4 := (below_alloc HB3.out _).trans (hb4.mono (by have := HB3.out.size; simp; omega))
  have e0 := pw_cell_below hb24 HD0.out
  have e5 := pw_cell_below hb24 HD5.out
  have em : w4.cell? ⟨bm, 0, none⟩ = some (.map (some mb)) := by rw [blk_cell ((hb24.block bm (blk_lt HB2.out)).trans HB2.out)]; rfl
  have HB4 := ak hb24
  have HS4 := ak (HS.out.below hb24)
  clear hb24 hb4 HRM g1 g2 g3 g4
  cases hrkc : rk with
  | false =>
   subst hrkc
   go_wp2
   go_ret
   have e := HST.out
   rw [if_pos (by simp)] at e
   rw [e]
   exact ⟨rfl, (HFIN.out _ HB4.out).1, (HFIN.out _ HB4.out).2⟩
  | true =>
   subst hrkc
   by_cases hk : c.f0 = 1
   ·have hwf := HWF.out trivial hk
    have hlook := HS4.out.look c.f2 hwf
    have HWFF := ak hwf
    rw [hk] at e0
    have HK := ak hk
    by_cases hin : c.f2 ∈ ids
    ·rw [decide_eq_true hin] at hlook
     have HIN := ak hin
     clear hwf hin hk
     go_wp2
     go_ret
     have e := HST.out
     rw [if_pos (by simp [HK.out, HIN.out])] at e
     rw [e]
     exact ⟨rfl, (HFIN.out _ HB4.out).1, (HFIN.out _ HB4.out).2⟩
    ·rw [decide_eq_false hin] at hlook
     have HIN := ak hin
     obtain ⟨w5, hput, hS5, hg5⟩ := HS4.out.put c.f2 hwf (by omega)
     have HS5 := ak hS5
     have HG5 := ak hg5
     clear hwf hin hk hS5 hg5
     go_wp2
     go_ret
     have e := HST.out
     rw [if_neg (by simp [HK.out, HIN.out]), if_pos HK.out] at e
     rw [e]
     have hf := HFIN.out _ HB4.out
     refine ⟨rfl, ⟨hf.1.1, ?_, ?_, HS5.out⟩, hf.2.grown HG5.out (fun k hk => by injection hk with hk; subst hk; exact HQ.out.2.1)⟩
     ·rw [HG5.out.block bn (blk_lt hf.1.2.1) (by intro h; injection h with h; exact HQ.out.2.2.2.1 h)]; exact hf.1.2.1
     ·rw [HG5.out.block bm (blk_lt hf.1.2.2.1) (by intro h; injection h with h; exact HQ.out.2.2.2.2 h)]; exact hf.1.2.2.1
   ·have hkb : (c.f0 == 1) = false := beq_eq_false_iff_ne.2 hk
    have HK := ak hk
    clear hk
    go_wp2
    go_ret
    have e := HST.out
    rw [if_neg (by simp [HK.out]), if_neg HK.out] at e
    rw [e]
    exact ⟨rfl, (HFIN.out _ HB4.out).1, (HFIN.out _ HB4.out).2⟩
theorem enters97 : ∀ args w, (callFunc 97 args).run Tryz.prog w = .ok (.enter 97 args) w := enters_of Tryz.func97 (by kernel_rfl) rfl
theorem enters73 : ∀ args w, (callFunc 73 args).run Tryz.prog w = .ok (.enter 73 args) w := enters_of Tryz.func73 (by kernel_rfl) rfl
set_option maxHeartbeats 2000000 in
theorem may_calls (B : Nat) (c : SC) (w : World) (A : Option Addr) (cap : Nat) (hB : B ≤ w.heap.size) (hl : (cells c).length ≤ 10000) (hcap : c.f3.length ≤ cap) (hT : Tr B w A c.f3.length c.f3) :
  Calls Tryz.prog 74 #[.agg #[.int .u8 c.f0, .int .i64 c.f1.f0, .int .i64 c.f1.f1, .int .i64 c.f1.f2, .int .i64 c.f1.f3, .int .i64 c.f2, .slice A c.f3.length cap]] w fun e w' => e = .returned (.bool (mayB c)) ∧ Below w.heap.size w w' := by
 obtain ⟨wa, hwa⟩ : ∃ wa, wa = w.alloc (.cells #[.int .u8 c.f0, .int .i64 c.f1.f0, .int .i64 c.f1.f1, .int .i64 c.f1.f2, .int .i64 c.f1.f3, .int .i64 c.f2, .slice A c.f3.length cap] 27) := ⟨_, rfl⟩
 obtain ⟨wb, hwb⟩ : ∃ wb, wb = wa.alloc (.map #[] 0) := ⟨_, rfl⟩
 obtain ⟨wc, hwc⟩ : ∃ wc, wc = wb.alloc (.cells #[.map (some (w.heap.size + 1))] 163) := ⟨_, rfl⟩
 obtain ⟨wd, hwd⟩ : ∃ wd, wd = wc.alloc (.cells #[.int .i64 0] 3) := ⟨_, rfl⟩
 have sa : wa.heap.size = w.heap.size + 1 := by rw [hwa]; simp
 have sb : wb.heap.size = w.heap.size + 2 := by rw [hwb]; simp [sa]
 have sc : wc.heap.size = w.heap.size + 3 := by rw [hwc]; simp [sb]
 have sd : wd.heap.size = w.heap.size + 4 := by rw [hwd]; simp [sc]
 have hbd : Below w.heap.size w wd := by rw [hwd, hwc, hwb, hwa]; exact below_alloc (below_alloc (below_alloc (below_alloc (Below.refl _ _) _) _) _) _
 have hbc : Below wc.heap.size wc wd := by rw [hwd]; exact below_alloc (Below.refl _ _) _
 have hbb : Below wb.heap.size wb wd := by rw [hwd, hwc]; exact below_alloc (below_alloc (Below.refl _ _) _) _
 have hset : SetAt wd (w.heap.size + 1) 0 [] := by
  have h := SetAt.made wa 0
  rw [← hwb, sa] at h
  exact h.below hbb
 have hmap : wd.heap[w.heap.size + 2]? = some (.cells #[.map (some (w.heap.size + 1))] 163 (0, 0)) := by
  have h := heap_alloc_new wb (.cells #[.map (some (w.heap.size + 1))] 163)
  rw [← hwc, sb] at h
  exact (hbc.block _ (by omega)).trans h
 have hnum : wd.heap[w.heap.size + 3]? = some (.cells #[.int .i64 ((0 : Nat) : Int)] 3 (0, 0)) := by
  have h := heap_alloc_new wc (.cells #[.int .i64 0] 3)
  rw [← hwd, sc] at h
  exact h
 have hinv : MayInv w.heap.size (w.heap.size + 4) (w.heap.size + 3) (w.heap.size + 2) (w.heap.size + 1) wd (0, []) 0 :=
  ⟨⟨Nat.le_refl _, by omega, by omega, by omega, by omega, by omega⟩, hnum, hmap, hset⟩
 have hTd : Tr w.heap.size wd A c.f3.length c.f3 := (hT.mono hB).below hbd
 have hpred : PredF w.heap.size (w.heap.size + 4) 10000 97 #[.pointer (some ⟨w.heap.size + 3, 0, none⟩), .pointer (some ⟨w.heap.size + 2, 0, none⟩)] (MayInv w.heap.size (w.heap.size + 4) (w.heap.size + 3) (w.heap.size + 2) (w.heap.size + 1)) (fun _ => 1) mayStep (cells c) :=
  fun x hx W st u A' cap' h1 h2 h3 h4 h5 => may1_calls _ _ _ _ _ x W st u A' cap' h1 h2 h3 h5.max
 have HC := all_calls w.heap.size (w.heap.size + 4) 10000 97 #[.pointer (some ⟨w.heap.size + 3, 0, none⟩), .pointer (some ⟨w.heap.size + 2, 0, none⟩)] enters97 _ (MayInv.stable _ _ _ _ _) mayStep (by omega) c hpred wd (0, []) 0 A cap hinv (by omega) (by omega) hcap hTd
 have HD := ak hwd
 rw [hwc, hwb, hwa] at HD
 rw [HD.out] at HC
 have HCC := ak HC
 have HB := ak hbd
 have HS := ak sd
 have hmm := @run_makeMap Tryz.prog
 unfold mayB
 generalize visitL mayStep (0, []) (cells c) = r at *
 clear hT hl hB HC hpred hTd hinv hnum hmap hset hbb hbc hbd sd sc sb sa hwd hwc hwb hwa
 go_enter Tryz.func74, Tryz.ntmps74
 go_wp2_with fail
 refine HCC.out.mono ?_
 rintro e w1 ⟨rfl, _, hm⟩
 rw [← HD.out] at hm
 have HM := ak (HB.out.trans (hm.toB (by rw [HS.out]; omega)))
 clear hm
 go_wp2
 go_ret
 exact ⟨rfl, HM.out⟩
theorem cmay1_calls (B : Nat) (c : SC) (w : World) (A : Option Addr) (cap : Nat) (hB : B ≤ w.heap.size) (hl : (cells c).length ≤ 10000) (hcap : c.f3.length ≤ cap) (hT : Tr B w A c.f3.length c.f3) :
  Calls Tryz.prog 73 #[.agg #[.int .u8 c.f0, .int .i64 c.f1.f0, .int .i64 c.f1.f1, .int .i64 c.f1.f2, .int .i64 c.f1.f3, .int .i64 c.f2, .slice A c.f3.length cap]] w fun e w' => e = .returned (.bool (!mayB c)) ∧ Below w.heap.size w w' := by
 have hb : Below w.heap.size w (w.alloc (.cells #[.int .u8 c.f0, .int .i64 c.f1.f0, .int .i64 c.f1.f1, .int .i64 c.f1.f2, .int .i64 c.f1.f3, .int .i64 c.f2, .slice A c.f3.length cap] 27)) := below_alloc (Below.refl _ _) _
 have HC := ak (may_calls B c _ A cap (by have := hb.size; omega) hl hcap (boxTr hT (.cells #[.int .u8 c.f0, .int .i64 c.f1.f0, .int .i64 c.f1.f1, .int .i64 c.f1.f2, .int .i64 c.f1.f3, .int .i64 c.f2, .slice A c.f3.length cap] 27) hB))
 have HB := ak hb
 generalize mayB c = b at *
 clear hb hT hl hB
 go_enter Tryz.func73, Tryz.ntmps73
 go_wp2_with fail
 refine HC.out.mono ?_
 rintro e w1 ⟨rfl, hb⟩
 have HB1 := ak (HB.out.trans (hb.mono HB.out.size))
 clear hb
 go_wp2
 go_ret
 exact ⟨rfl, HB1.out⟩
def NoInv (_ : World) (_ : Unit) (_ : Nat) : Prop := True
theorem NoInv.stable : Stable NoInv := ⟨fun _ _ _ _ _ _ => trivial, fun _ _ _ _ _ _ => trivial⟩
theorem wts_zero (l : List SC) : wts (fun _ => 0) l = 0 := by
 induction l with
 | nil => rfl
 | cons x l ih => unfold wts at *; rw [List.map_cons, List.sum_cons, ih]
theorem not_any_not (p : SC → Bool) (l : List SC) : (!l.any (fun x => !p x)) = l.all p := by
 induction l with
 | nil => rfl
 | cons x l ih => simp only [List.any_cons, List.all_cons, Bool.not_or, Bool.not_not, ih]
theorem anyL_unit (p : SC → Bool) (l : List SC) : (anyL (fun (_ : Unit) x => (p x, ())) () l).1 = l.any p := by
 induction l with
 | nil => rfl
 | cons x l ih =>
  simp only [anyL, List.any_cons]
  cases h : p x <;> simp [ih]
theorem cmay_calls (B : Nat) (l : List SC) (w : World) (A : Option Addr) (n cap : Nat) (hB : B ≤ w.heap.size) (hl : ∀ c ∈ l, (cells c).length ≤ 10000) (hT : Tr B w A n l) :
  Calls Tryz.prog 49 #[.slice A n cap] w fun e w' => e = .returned (.bool (l.all mayB)) ∧ Below w.heap.size w w' := by
 have hpred : PredF w.heap.size w.heap.size 0 73 #[] NoInv (fun _ => 0) (fun (_ : Unit) x => (!mayB x, ())) l := fun x hx W st u A' cap' _ _ h3 h4 h5 => by
  refine (cmay1_calls w.heap.size x W A' cap' h3 (hl x hx) h4 h5).mono ?_
  rintro e w' ⟨h1, h2⟩
  exact ⟨h1, trivial, Mid.ofBelow h2⟩
 have HC := none_calls w.heap.size w.heap.size 0 73 #[] enters73 NoInv NoInv.stable (fun _ => 0) (fun (_ : Unit) x => (!mayB x, ())) A n cap l w () 0 (Nat.le_refl _) (Nat.le_refl _) hpred (hT.mono hB) trivial (by rw [wts_zero]; exact Nat.le_refl _)
 rw [anyL_unit (fun x => !mayB x)] at HC
 have e : (!l.any (fun x => !mayB x)) = l.all mayB := not_any_not _ _
 rw [e] at HC
 have HCC := ak HC
 generalize l.all mayB = b at *
 clear hpred hT hl hB HC
 go_enter Tryz.func49, Tryz.ntmps49
 go_wp2_with fail
 refine HCC.out.mono ?_
 rintro e w1 ⟨rfl, _, hm⟩
 have HM := ak (hm.toB (Nat.le_refl _))
 clear hm
 go_wp2
 go_ret
 exact ⟨rfl, HM.out⟩
end Go.Proofs.YtkobpbbegalfpaaGreatDoor
