/-
  Joined texts: PParseBodiesx3, TiMay, TiCut.
-/
import Derived.Test.YtkobpbbegalfpaaGreatDoorPParseBodiesx0
import Derived.Test.YtkobpbbegalfpaaGreatDoorPParseBodiesx2
import Derived.Test.YtkobpbbegalfpaaGreatDoorPxCut
import Derived.Test.YtkobpbbegalfpaaGreatDoorPsSize
namespace Go.Proofs.YtkobpbbegalfpaaGreatDoor.PParseBodies
open Go.RowKit Go.Proofs.YtkobpbbegalfpaaGreatDoorW.PrintWords Go.Proofs.YtkobpbbegalfpaaGreatDoorW.PrintLast Go.Proofs.YtkobpbbegalfpaaGreatDoorW.PrintMore
attribute [local go_sem] max2_int min2_int max_two min_two max_three min_three max_four min_four   -- for this text's walks alone
set_option linter.unusedVariables false
set_option linter.unusedSimpArgs false

end Go.Proofs.YtkobpbbegalfpaaGreatDoor.PParseBodies

/-
 rect.May of one rectangle; cell.node.
-/
namespace Go.Proofs.YtkobpbbegalfpaaGreatDoor
open Go.RowKit Go.Proofs.YtkobpbbegalfpaaGreatDoorW.PrintWords Go.Proofs.YtkobpbbegalfpaaGreatDoorW.PrintLast Go.Proofs.YtkobpbbegalfpaaGreatDoorW.PrintMore Go.Proofs.YtkobpbbegalfpaaGreatDoor.PParseBodies
set_option linter.unusedVariables false
set_option linter.unusedSimpArgs false
set_option maxRecDepth 100000

theorem rect_may_eq (r : SR) : rect_may.f r.f0 r.f1 r.f2 r.f3 = some (rectOk r) := by
 unfold rect_may.f rectOk
 by_cases h0 : 0 ≤ r.f0
 ·rw [if_pos (by omega)]
  by_cases h1 : 1 ≤ r.f2
  ·rw [if_pos (by omega)]
   by_cases h2 : r.f2 ≤ 10000
   ·rw [if_pos (by omega)]
    have e : wrap64 (10000 - r.f2) = 10000 - r.f2 := by unfold wrap64; omega
    rw [e]
    by_cases h3 : r.f0 ≤ 10000 - r.f2
    ·rw [if_pos h3]
     by_cases h4 : 0 ≤ r.f1
     ·rw [if_pos (by omega)]
      by_cases h5 : 1 ≤ r.f3
      ·rw [if_pos (by omega)]
       by_cases h6 : r.f3 ≤ 10000
       ·rw [if_pos (by omega)]
        have e : wrap64 (10000 - r.f3) = 10000 - r.f3 := by unfold wrap64; omega
        rw [e]
        congr 1
        rw [decide_eq_decide]
        omega
       ·rw [if_neg (by omega)]; simp; omega
      ·rw [if_neg (by omega)]; simp; omega
     ·rw [if_neg (by omega)]; simp; omega
    ·rw [if_neg h3]; simp; omega
   ·rw [if_neg (by omega)]; simp; omega
  ·rw [if_neg (by omega)]; simp; omega
 ·rw [if_neg (by omega)]; simp; omega

theorem rmay1_calls (r : SR) (w : World) : Calls Tryz.prog 116 #[.agg #[.int .i64 r.f0, .int .i64 r.f1, .int .i64 r.f2, .int .i64 r.f3]] w fun e w' => e = .returned (.bool (!rectOk r)) ∧ Below w.heap.size w w' := by
 have HB := Aside0.mk (below_alloc (Below.refl w.heap.size w) (.cells #[.int .i64 r.f0, .int .i64 r.f1, .int .i64 r.f2, .int .i64 r.f3] 24))
 have HC := Aside0.mk (rect_may.calls r.f0 r.f1 r.f2 r.f3 _ (w.alloc (.cells #[.int .i64 r.f0, .int .i64 r.f1, .int .i64 r.f2, .int .i64 r.f3] 24)) (rect_may_eq r))
 generalize rectOk r = b at *
 go_enter Tryz.func116, Tryz.ntmps116
 go_wp2_with fail
 refine HC.out.mono ?_
 rintro e w1 ⟨rfl, hb⟩
 have HB1 := Aside0.mk (HB.out.trans (hb.mono (by simp)))
 clear hb
 go_wp2
 go_ret
 exact ⟨rfl, HB1.out⟩

set_option maxHeartbeats 1000000 in
theorem ifr_calls (b : Nat) (r : SR) (w : World) (h0 : w.cell? ⟨b, 0, none⟩ = some (.int .i64 r.f0)) (h1 : w.cell? ⟨b, 1, none⟩ = some (.int .i64 r.f1)) (h2 : w.cell? ⟨b, 2, none⟩ = some (.int .i64 r.f2)) (h3 : w.cell? ⟨b, 3, none⟩ = some (.int .i64 r.f3)) :
  Calls Tryz.prog 136 #[.slice (some ⟨b, 0, none⟩) 1 1, .func (.func 116) #[] #[]] w fun e w' => ∃ q : Int, e = .returned (.int .i64 q) ∧ decide (0 ≤ q) = !rectOk r ∧ Below w.heap.size w w' := by
 have HC : Aside0 (∀ w, Calls Tryz.prog 116 #[.agg #[.int .i64 r.f0, .int .i64 r.f1, .int .i64 r.f2, .int .i64 r.f3]] w fun e w' => e = .returned (.bool (!rectOk r)) ∧ Below w.heap.size w w') := ⟨rmay1_calls r⟩
 generalize rectOk r = bb at *
 go_enter Tryz.func136, Tryz.ntmps136
 go_wp2
 go_loopw [5, 8] (fun _ i wr => (i = .int .i64 0 ∧ wr = w) ∨ (i = .int .i64 1 ∧ bb = true ∧ Below w.heap.size w wr)) (fun _ i _ => 1 - (intOf i).toNat)
 case atStart => exact .inl ⟨rfl, rfl⟩
 case round =>
  rcases hrel with ⟨rfl, rfl⟩ | ⟨rfl, hb1, hb2⟩
  ·cases bb with
   | true =>
    go_wp2_with fail
    refine (HC.out _).mono ?_
    rintro e w1 ⟨rfl, hb⟩
    have HB1 := Aside0.mk hb
    clear hb
    go_wp2
    go_roundw
    case rel => exact .inr ⟨rfl, trivial, HB1.out⟩
    case measure => simp [intOf]
   | false =>
    go_wp2_with fail
    refine (HC.out _).mono ?_
    rintro e w1 ⟨rfl, hb⟩
    have HB1 := Aside0.mk hb
    clear hb
    go_wp2
    go_ret
    exact ⟨_, rfl, by simp, HB1.out⟩
  ·subst hb1
   have HB1 := Aside0.mk hb2
   clear hb2
   go_wp2
   go_ret
   exact ⟨_, rfl, by simp, HB1.out⟩

/-- rect.May of one rectangle, in a block of its own. -/
theorem rmay_calls (b : Nat) (r : SR) (w : World) (h0 : w.cell? ⟨b, 0, none⟩ = some (.int .i64 r.f0)) (h1 : w.cell? ⟨b, 1, none⟩ = some (.int .i64 r.f1)) (h2 : w.cell? ⟨b, 2, none⟩ = some (.int .i64 r.f2)) (h3 : w.cell? ⟨b, 3, none⟩ = some (.int .i64 r.f3)) :
  Calls Tryz.prog 99 #[.slice (some ⟨b, 0, none⟩) 1 1] w fun e w' => e = .returned (.bool (rectOk r)) ∧ Below w.heap.size w w' := by
 have HC := ifr_calls b r w h0 h1 h2 h3
 have HF : Calls Tryz.prog 115 #[.slice (some ⟨b, 0, none⟩) 1 1, .func (.func 116) #[] #[]] w fun e w' => e = .returned (.bool (!rectOk r)) ∧ Below w.heap.size w w' := by
  have HC := Aside0.mk HC
  clear h0 h1 h2 h3
  generalize rectOk r = bb at *
  go_enter Tryz.func115, Tryz.ntmps115
  go_wp2_with fail
  refine HC.out.mono ?_
  rintro e w1 ⟨q, rfl, hq, hb⟩
  have HQ := Aside0.mk hq
  have HB := Aside0.mk hb
  clear hq hb
  go_wp2
  go_ret
  exact ⟨by rw [← HQ.out]; rfl, HB.out⟩
 replace HF := Aside0.mk HF
 clear h0 h1 h2 h3 HC
 generalize rectOk r = bb at *
 go_enter Tryz.func99, Tryz.ntmps99
 go_wp2_with fail
 refine HF.out.mono ?_
 rintro e w1 ⟨rfl, hb⟩
 have HB := Aside0.mk hb
 clear hb
 go_wp2
 go_ret
 exact ⟨by simp, HB.out⟩

def nodeB (k i : Int) (n : Nat) : Bool := if k = 1 then decide (n = 0) && decide (0 ≤ i ∧ i ≤ 2147483647) else if k = 2 ∨ k = 3 then decide (2 ≤ n ∧ i = 0) else false
theorem nodeOk_B (c : SC) : nodeOk c = nodeB c.f0 c.f2 c.f3.length := by
 unfold nodeOk nodeB
 have : c.f3.isEmpty = decide (c.f3.length = 0) := by cases c.f3 <;> simp
 rw [this]

set_option maxHeartbeats 2000000 in
theorem nodeB_calls (k x y v h i : Int) (A : Option Addr) (n cap : Nat) (w : World) (hn : n ≤ 9223372036854775807) :
  Calls Tryz.prog 98 #[.agg #[.int .u8 k, .int .i64 x, .int .i64 y, .int .i64 v, .int .i64 h, .int .i64 i, .slice A n cap]] w fun e w' => e = .returned (.bool (nodeB k i n)) ∧ Below w.heap.size w w' := by
 have HB := Aside0.mk (below_alloc (Below.refl w.heap.size w) (.cells #[.int .u8 k, .int .i64 x, .int .i64 y, .int .i64 v, .int .i64 h, .int .i64 i, .slice A n cap] 27))
 by_cases hk : k = 1
 ·subst hk
  unfold nodeB
  rw [if_pos rfl]
  by_cases h1 : n = 0
  ·subst h1
   by_cases h2 : 0 ≤ i
   ·by_cases h3 : i ≤ 2147483647
    ·go_enter Tryz.func98, Tryz.ntmps98
     go_wp2
     go_ret
     exact ⟨by simp [h2, h3], HB.out⟩
    ·have h3b : decide (i ≤ 2147483647) = false := decide_eq_false h3
     go_enter Tryz.func98, Tryz.ntmps98
     go_wp2
     go_ret
     exact ⟨by simp [h3b], HB.out⟩
   ·have h2b : decide (0 ≤ i) = false := decide_eq_false h2
    go_enter Tryz.func98, Tryz.ntmps98
    go_wp2
    go_ret
    exact ⟨by simp [h2], HB.out⟩
  ·have h1b : ((n : Int) == 0) = false := beq_eq_false_iff_ne.2 (by omega)
   have h1c : (n == 0) = false := beq_eq_false_iff_ne.2 h1
   go_enter Tryz.func98, Tryz.ntmps98
   go_wp2
   go_ret
   exact ⟨by simp [h1], HB.out⟩
 ·have hkb : (k == 1) = false := beq_eq_false_iff_ne.2 hk
  unfold nodeB
  rw [if_neg hk]
  by_cases hk2 : k = 2 ∨ k = 3
  ·rw [if_pos hk2]
   rcases hk2 with rfl | rfl
   all_goals
    by_cases h1 : 2 ≤ n
    ·have h1b : decide ((n : Int) ≥ 2) = true := decide_eq_true (by omega)
     have h1c : decide (2 ≤ (n : Int)) = true := decide_eq_true (by omega)
     by_cases h2 : i = 0
     ·subst h2
      clear hk hkb
      go_enter Tryz.func98, Tryz.ntmps98
      go_wp2
      go_ret
      exact ⟨by simp [h1], HB.out⟩
     ·have h2b : (i == 0) = false := beq_eq_false_iff_ne.2 h2
      clear hk hkb
      go_enter Tryz.func98, Tryz.ntmps98
      go_wp2
      go_ret
      exact ⟨by simp [h2], HB.out⟩
    ·have h1b : decide ((n : Int) ≥ 2) = false := decide_eq_false (by omega)
     have h1c : decide (2 ≤ (n : Int)) = false := decide_eq_false (by omega)
     clear hk hkb
     go_enter Tryz.func98, Tryz.ntmps98
     go_wp2
     go_ret
     exact ⟨by simp [h1], HB.out⟩
  ·rw [if_neg hk2]
   have g2 : (k == 2) = false := beq_eq_false_iff_ne.2 (fun h => hk2 (.inl h))
   have g3 : (k == 3) = false := beq_eq_false_iff_ne.2 (fun h => hk2 (.inr h))
   clear hk hk2
   go_enter Tryz.func98, Tryz.ntmps98
   go_wp2
   go_ret
   exact ⟨rfl, HB.out⟩
theorem node_calls (c : SC) (A : Option Addr) (cap : Nat) (w : World) (hn : c.f3.length ≤ 9223372036854775807) :
  Calls Tryz.prog 98 #[.agg #[.int .u8 c.f0, .int .i64 c.f1.f0, .int .i64 c.f1.f1, .int .i64 c.f1.f2, .int .i64 c.f1.f3, .int .i64 c.f2, .slice A c.f3.length cap]] w fun e w' => e = .returned (.bool (nodeOk c)) ∧ Below w.heap.size w w' := by
 rw [nodeOk_B]
 exact nodeB_calls _ _ _ _ _ _ A _ cap w hn
end Go.Proofs.YtkobpbbegalfpaaGreatDoor

/-
 The printed cuts of the code: what they compute. Pure.
-/
namespace Go.Proofs.YtkobpbbegalfpaaGreatDoor
open Go.RowKit Go.Proofs.YtkobpbbegalfpaaGreatDoorW.PrintWords Go.Proofs.YtkobpbbegalfpaaGreatDoorW.PrintLast Go.Proofs.YtkobpbbegalfpaaGreatDoorW.PrintMore Go.Proofs.YtkobpbbegalfpaaGreatDoor.PParseBodies
set_option linter.unusedVariables false
set_option linter.unusedSimpArgs false

def rX (r : SR) (ax : Int) : Int := if ax = 1 then r.f0 else r.f1
def rY (r : SR) (ax : Int) : Int := if ax = 1 then r.f1 else r.f0
theorem turned_to (r : SR) (ax : Int) (hax : ax = 1 ∨ ax = 2) : rect_turned.f r.f0 r.f1 r.f2 r.f3 ax = some (rX r ax, rY r ax, wholeR r ax, crossR r ax, true) := by
 rcases hax with rfl | rfl <;> simp [rect_turned.f, rX, rY, wholeR, crossR]
theorem turned_back (r : SR) (ax o n : Int) (hax : ax = 1 ∨ ax = 2) : rect_turned.f (rX r ax + o) (rY r ax) n (crossR r ax) ax = some ((mkR r ax o n).f0, (mkR r ax o n).f1, (mkR r ax o n).f2, (mkR r ax o n).f3, true) := by
 rcases hax with rfl | rfl <;> simp [rect_turned.f, rX, rY, mkR, crossR]
theorem rXW_bd (r : SR) (ax : Int) (hr : rectOk r = true) (hax : ax = 1 ∨ ax = 2) : 0 ≤ rX r ax ∧ 1 ≤ wholeR r ax ∧ rX r ax + wholeR r ax ≤ 10000 := by
 rw [rectOk_iff] at hr
 rcases hax with rfl | rfl <;> simp [rX, wholeR] <;> omega
theorem rd_getD (l : List Int) (i : Nat) : rd l (i : Int) = l.getD i 0 := by simp [rd]
theorem drop_getD (l : List Int) (i : Nat) (h : i < l.length) : l.drop i = l.getD i 0 :: l.drop (i + 1) := by
 rw [List.drop_eq_getElem_cons h, List.getD_eq_getElem?_getD, List.getElem?_eq_getElem h]; rfl
theorem SR.eta (r : SR) : (⟨r.f0, r.f1, r.f2, r.f3⟩ : SR) = r := by cases r; rfl
theorem w64s {n : Int} (h0 : -1000000000000 ≤ n) (h1 : n ≤ 1000000000000) : wrap64 n = n := by unfold wrap64; omega

def cutRes (r : SR) (ax : Int) (first : Bool) (off : Int) (l : List Int) (P L : List SR) : List SR × List SR × Bool :=
 if cutOk (wholeR r ax) first off l = true then (P ++ cutParts r ax first off l, L ++ cutLines r ax first off l, true) else ([], [], false)

theorem Cut_l0 (r : SR) (ax : Int) (hr : rectOk r = true) (hax : ax = 1 ∨ ax = 2) (l : List Int) (hl : l.length ≤ 100000) : ∀ (d k i : Nat) (off : Int) (P L : List SR), l.length - i = d → i ≤ l.length → d < k → 0 ≤ off → off ≤ wholeR r ax → P.length ≤ i → L.length ≤ i →
  rect_Cut.l0 k ax P L (rX r ax + off) l (l.length : Int) (i : Int) (rX r ax) (rY r ax) (wholeR r ax) (crossR r ax) = some (cutRes r ax (decide (i = 0)) off (l.drop i) P L) := by
 obtain ⟨x0, w0, xw⟩ := rXW_bd r ax hr hax
 intro d
 induction d with
 | zero =>
  intro k i off P L hd hi hk h0 h1 hP hL
  obtain ⟨k, rfl⟩ : ∃ m, k = m + 1 := ⟨k - 1, by omega⟩
  have hn : l.drop i = [] := List.drop_eq_nil_of_le (by omega)
  have e1 := Aside0.mk (w64s (n := rX r ax + wholeR r ax) (by omega) (by omega))
  simp only [rect_Cut.l0]
  rw [if_neg (by omega), hn, e1.out]
  unfold cutRes cutOk
  by_cases h : off = wholeR r ax
  ·rw [if_pos (by omega), if_pos (by simpa using h)]; simp [cutParts, cutLines]
  ·rw [if_neg (by omega), if_neg (by simpa using h)]
 | succ d ih =>
  intro k i off P L hd hi hk h0 h1 hP hL
  obtain ⟨k, rfl⟩ : ∃ m, k = m + 1 := ⟨k - 1, by omega⟩
  have hlt : i < l.length := by omega
  rw [drop_getD l i hlt]
  have e1 := Aside0.mk (w64s (n := rX r ax + wholeR r ax) (by omega) (by omega))
  have e2 := Aside0.mk (w64s (n := rX r ax + off + 1) (by omega) (by omega))
  have e3 := Aside0.mk (w64s (n := rX r ax + wholeR r ax - (rX r ax + off)) (by omega) (by omega))
  have e4 := Aside0.mk (w64s (n := rX r ax + wholeR r ax - (rX r ax + off + 1)) (by omega) (by omega))
  have e5 := Aside0.mk (w64s (n := (i : Int) + 1) (by omega) (by omega))
  simp only [rect_Cut.l0]
  rw [if_pos (by omega), if_pos (by omega), if_pos (by omega), rd_getD]
  generalize l.getD i 0 = n
  simp only [e1.out, e2.out, e3.out, e4.out, e5.out]
  have e6 : ((i + 1 : Nat) : Int) = (i : Int) + 1 := by omega
  by_cases h00 : i = 0
  ·subst h00
   have hd' : l.length = d + 1 := by simpa using hd
   clear hd
   rw [if_neg (by omega)]
   have hdec : decide ((0 : Nat) = 0) = true := rfl
   rw [hdec]
   unfold cutRes
   simp only [cutOk, offA, if_true, cutParts, cutLines]
   by_cases hn1 : n < 1
   ·rw [if_pos hn1, if_neg (by simp; omega)]
   ·rw [if_neg hn1]
    by_cases hn2 : n > rX r ax + wholeR r ax - (rX r ax + off)
    ·rw [if_pos hn2, if_neg (by simp; omega)]
    ·rw [if_neg hn2, turned_back r ax off n hax]
     simp only [Option.bind_some]
     rw [if_pos (by omega), SR.eta]
     have e7 := Aside0.mk (w64s (n := rX r ax + off + n) (by omega) (by omega))
     have hh := ih k 1 (off + n) (P ++ [mkR r ax off n]) L (by omega) (by omega) (by omega) (by omega) (by omega) (by rw [List.length_append]; simp only [List.length_cons, List.length_nil]; omega) (by omega)
     rw [e7.out, Int.add_assoc]
     have e8 : ((0 : Nat) : Int) + 1 = ((1 : Nat) : Int) := rfl
     rw [e8, hh]
     have hb : decide (1 ≤ n ∧ n ≤ wholeR r ax - off) = true := decide_eq_true (by omega)
     rw [hb, Bool.true_and]
     unfold cutRes
     have hd1 : decide ((1 : Nat) = 0) = false := rfl
     rw [hd1]
     simp
  ·rw [if_pos (by omega), turned_back r ax off 1 hax]
   simp only [Option.bind_some]
   rw [if_pos (by omega)]
   have hdec : decide (i = 0) = false := decide_eq_false h00
   rw [hdec]
   unfold cutRes
   simp only [cutOk, offA, Bool.false_eq_true, if_false, cutParts, cutLines]
   by_cases hn1 : n < 1
   ·rw [if_pos hn1, if_neg (by simp; omega)]
   ·rw [if_neg hn1]
    by_cases hn2 : n > rX r ax + wholeR r ax - (rX r ax + off + 1)
    ·rw [if_pos hn2, if_neg (by simp; omega)]
    ·rw [if_neg hn2, Int.add_assoc (rX r ax) off 1, turned_back r ax (off + 1) n hax]
     simp only [Option.bind_some]
     rw [if_pos (by omega), SR.eta, SR.eta]
     have e7 := Aside0.mk (w64s (n := rX r ax + (off + 1) + n) (by omega) (by omega))
     have hh := ih k (i + 1) (off + 1 + n) (P ++ [mkR r ax (off + 1) n]) (L ++ [mkR r ax off 1]) (by omega) (by omega) (by omega) (by omega) (by omega) (by simp; omega) (by simp; omega)
     rw [e7.out, Int.add_assoc, ← e6, hh]
     have hb : decide (1 ≤ n ∧ n ≤ wholeR r ax - (off + 1)) = true := decide_eq_true (by omega)
     rw [hb, Bool.true_and]
     unfold cutRes
     have hd1 : decide (i + 1 = 0) = false := rfl
     rw [hd1]
     simp

theorem Cut_f (r : SR) (ax : Int) (hr : rectOk r = true) (hax : ax = 1 ∨ ax = 2) (l : List Int) (hl : l.length ≤ 100000) (hne : l ≠ []) (k : Nat) (hk : l.length + 1 < k) :
  rect_Cut.f k r.f0 r.f1 r.f2 r.f3 ax l = some (cutRes r ax true 0 l [] []) := by
 obtain ⟨k, rfl⟩ : ∃ m, k = m + 1 := ⟨k - 1, by omega⟩
 have hp := List.length_pos_iff.2 hne
 unfold rect_Cut.f
 rw [turned_to r ax hax]
 simp only [Option.bind_some, if_true]
 rw [rect_may_eq, hr]
 simp only [Option.bind_some, if_true, rect_Cut.j0]
 have : ((l.length : Int) == 0) = false := beq_eq_false_iff_ne.2 (by omega)
 rw [this, if_neg (by decide)]
 have h := Cut_l0 r ax hr hax l hl l.length k 0 0 [] [] (by omega) (by omega) (by omega) (by omega) (by have := rXW_bd r ax hr hax; omega) (by simp) (by simp)
 simpa using h

theorem cut_sizes (c : SC) (hl : c.f3.length ≤ 100000) : ∀ (d k i : Nat), c.f3.length - i = d → i ≤ c.f3.length → d < k → ∃ k', k - d - 1 ≤ k' ∧
  tile_cut.l0 k ((sizesOf c).take i) c.f3 (c.f3.length : Int) (i : Int) c.f0 c.f1.f0 c.f1.f1 c.f1.f2 c.f1.f3 c.f2 c.f3 = ((rect_Cut.f k' c.f1.f0 c.f1.f1 c.f1.f2 c.f1.f3 ((((c.f0 - 2) % 256) + 1) % 256) (sizesOf c)).bind fun bt149 => (some (bt149.1, bt149.2.1, bt149.2.2))) := by
 have hsl : (sizesOf c).length = c.f3.length := by simp [sizesOf]
 intro d
 induction d with
 | zero =>
  intro k i hd hi hk
  obtain ⟨k, rfl⟩ : ∃ m, k = m + 1 := ⟨k - 1, by omega⟩
  refine ⟨k, by omega, ?_⟩
  simp only [tile_cut.l0]
  rw [if_neg (by omega), List.take_of_length_le (by omega)]
 | succ d ih =>
  intro k i hd hi hk
  obtain ⟨k, rfl⟩ : ∃ m, k = m + 1 := ⟨k - 1, by omega⟩
  have hlt : i < c.f3.length := by omega
  have e5 := Aside0.mk (w64s (n := (i : Int) + 1) (by omega) (by omega))
  have e6 : (i : Int) + 1 = ((i + 1 : Nat) : Int) := by omega
  have htk : (sizesOf c).take (i + 1) = (sizesOf c).take i ++ [if c.f0 = 2 then (rd_T27 c.f3 (i : Int)).f1.f2 else (rd_T27 c.f3 (i : Int)).f1.f3] := by
   rw [List.take_add_one, List.getElem?_eq_getElem (by omega)]
   simp [sizesOf, rd_T27, List.getD_eq_getElem?_getD, List.getElem?_eq_getElem hlt]
  obtain ⟨k', hk', hh⟩ := ih k (i + 1) (by omega) (by omega) (by omega)
  refine ⟨k', by omega, ?_⟩
  rw [← hh, htk, ← e6]
  simp only [tile_cut.l0]
  rw [if_pos (by omega), if_pos (by omega), if_pos (by omega), e5.out]
  by_cases h2 : c.f0 = 2
  ·rw [if_pos h2, if_pos (by rw [List.length_take]; omega), if_pos h2]
  ·rw [if_neg h2, if_pos (by rw [List.length_take]; omega), if_neg h2]

theorem tile_cut_eq (c : SC) (hl : c.f3.length ≤ 100000) (hr : rectOk c.f1 = true) (hk : c.f0 = 2 ∨ c.f0 = 3) (h2 : 2 ≤ c.f3.length) (k : Nat) (hk' : 2 * c.f3.length + 4 < k) :
  tile_cut.f k c.f0 c.f1.f0 c.f1.f1 c.f1.f2 c.f1.f3 c.f2 c.f3 = some (cutRes c.f1 (c.f0 - 1) true 0 (sizesOf c) [] []) := by
 unfold tile_cut.f
 obtain ⟨k2, hk2, hh⟩ := cut_sizes c hl c.f3.length k 0 (by omega) (by omega) (by omega)
 rw [List.take_zero] at hh
 have hsl : (sizesOf c).length = c.f3.length := by simp [sizesOf]
 have e : ((((c.f0 - 2) % 256) + 1) % 256) = c.f0 - 1 := by omega
 rw [e] at hh
 have hz : ((0 : Nat) : Int) = 0 := rfl
 rw [hz] at hh
 rw [hh, Cut_f c.f1 (c.f0 - 1) hr (by omega) (sizesOf c) (by omega) (by intro h; rw [h] at hsl; simp at hsl; omega) k2 (by omega)]
 rfl
/-- What the code's cut of a cell gives, in the words of linesS. -/
theorem linesS_cut (c : SC) (hr : rectOk c.f1 = true) (hk : c.f0 = 2 ∨ c.f0 = 3) (h2 : 2 ≤ c.f3.length) :
  linesS c = if (cutRes c.f1 (c.f0 - 1) true 0 (sizesOf c) [] []).2.2 = true ∧ c.f3.map (·.f1) = (cutRes c.f1 (c.f0 - 1) true 0 (sizesOf c) [] []).1 then some (cutRes c.f1 (c.f0 - 1) true 0 (sizesOf c) [] []).2.1 else none := by
 unfold linesS
 rw [if_neg (by omega)]
 have hne : (sizesOf c).isEmpty = false := by
  have hsl : (sizesOf c).length = c.f3.length := by simp [sizesOf]
  cases h : sizesOf c with
  | nil => rw [h] at hsl; simp at hsl; omega
  | cons _ _ => rfl
 have hg : cutGood c.f1 (c.f0 - 1) (sizesOf c) = cutOk (wholeR c.f1 (c.f0 - 1)) true 0 (sizesOf c) := by
  unfold cutGood
  rw [hr, hne, decide_eq_true (by omega)]
  rfl
 rw [hg]
 unfold cutRes
 by_cases h : cutOk (wholeR c.f1 (c.f0 - 1)) true 0 (sizesOf c) = true
 ·rw [if_pos h]; simp [h]
 ·rw [if_neg h, if_neg (by simp [h]), if_neg (by simp)]
end Go.Proofs.YtkobpbbegalfpaaGreatDoor
