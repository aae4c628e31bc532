/-
  Joined texts: TiRef, TiRef2, PsRWh, PsRB, PsSame, SuLawsP, PsUni, PrPure.
-/
import Derived.Test.YtkobpbbegalfpaaGreatDoorTiMay2
import Derived.Test.YtkobpbbegalfpaaGreatDoorPsTop
import Derived.Test.YtkobpbbegalfpaaGreatDoorPParseBodiesx10
import Derived.Test.YtkobpbbegalfpaaGreatDoorPsBase
import Derived.Test.YtkobpbbegalfpaaGreatDoorPParseBodiesx13
import Derived.Test.YtkobpbbegalfpaaGreatDoorPParseBodiesx2
import Derived.Lib.Strings
import Derived.Test.YtkobpbbegalfpaaGreatDoorPsAwake
import Derived.Test.YtkobpbbegalfpaaGreatDoorPsCell
import Derived.Test.YtkobpbbegalfpaaGreatDoorNuUint
namespace Go.Proofs.YtkobpbbegalfpaaGreatDoor
open Go.RowKit YtkobpbbegalfpaaGreatDoorW.PrintWords YtkobpbbegalfpaaGreatDoorW.PrintLast YtkobpbbegalfpaaGreatDoorW.PrintMore PParseBodies
set_option linter.unusedVariables false
set_option linter.unusedSimpArgs false
theorem rd_T_getD (l : List SC) (i : Nat) : rd_T27 l (i : Int) = l.getD i z27 := by simp [rd_T27]
theorem rd_R_getD (l : List SR) (i : Nat) : rd_T24 l (i : Int) = l.getD i z24 := by simp [rd_T24]
theorem dropT (l : List SC) (i : Nat) (h : i < l.length) : l.drop i = l.getD i z27 :: l.drop (i + 1) := by
 rw [List.drop_eq_getElem_cons h, List.getD_eq_getElem?_getD, List.getElem?_eq_getElem h]; rfl
theorem takeT (l : List SC) (i : Nat) (h : i < l.length) : l.take (i + 1) = l.take i ++ [l.getD i z27] := by
 rw [List.take_add_one, List.getElem?_eq_getElem h, List.getD_eq_getElem?_getD, List.getElem?_eq_getElem h]; rfl
theorem getT_mem (l : List SC) (i : Nat) (h : i < l.length) : l.getD i z27 ∈ l := by
 rw [List.getD_eq_getElem?_getD, List.getElem?_eq_getElem h]; exact List.getElem_mem _
theorem SC.eta (c : SC) : (⟨c.f0, ⟨c.f1.f0, c.f1.f1, c.f1.f2, c.f1.f3⟩, c.f2, c.f3⟩ : SC) = c := by cases c; rfl
theorem wi (i : Nat) (h : i < 1000000000) : wrap64 ((i : Int) + 1) = ((i + 1 : Nat) : Int) := by
 have e : ((i + 1 : Nat) : Int) = (i : Int) + 1 := rfl
 rw [e]; exact w64s (by omega) (by omega)
theorem ref04_May_eq (r : SR) : sashref04_May.f r.f0 r.f1 r.f2 r.f3 = some (rectOk r) := by
 have h0 : rectOk r = true ↔ _ := rectOk_iff r
 unfold sashref04_May.f
 by_cases a : r.f0 < 0
 ·rw [if_pos a]; congr 1; symm; rw [Bool.eq_false_iff]; intro h; have := h0.1 h; omega
 ·rw [if_neg a]
  by_cases b : r.f0 > 10000
  ·rw [if_pos b]; congr 1; symm; rw [Bool.eq_false_iff]; intro h; have := h0.1 h; omega
  ·rw [if_neg b]
   by_cases c : r.f1 < 0
   ·rw [if_pos c]; congr 1; symm; rw [Bool.eq_false_iff]; intro h; have := h0.1 h; omega
   ·rw [if_neg c]
    by_cases d : r.f1 > 10000
    ·rw [if_pos d]; congr 1; symm; rw [Bool.eq_false_iff]; intro h; have := h0.1 h; omega
    ·rw [if_neg d]
     by_cases e : r.f2 > 0
     ·rw [if_pos e]
      by_cases f : r.f2 ≤ 10000
      ·rw [if_pos f]
       by_cases g : r.f3 > 0
       ·rw [if_pos g]
        by_cases h : r.f3 ≤ 10000
        ·rw [if_pos h, w64s (by omega) (by omega), w64s (by omega) (by omega)]
         by_cases i : r.f0 + r.f2 ≤ 10000
         ·rw [if_pos i]
          congr 1
          rw [Bool.eq_iff_iff, h0, decide_eq_true_iff]
          omega
         ·rw [if_neg i]; congr 1; symm; rw [Bool.eq_false_iff]; intro h; have := h0.1 h; omega
        ·rw [if_neg h]; congr 1; symm; rw [Bool.eq_false_iff]; intro h; have := h0.1 h; omega
       ·rw [if_neg g]; congr 1; symm; rw [Bool.eq_false_iff]; intro h; have := h0.1 h; omega
      ·rw [if_neg f]; congr 1; symm; rw [Bool.eq_false_iff]; intro h; have := h0.1 h; omega
     ·rw [if_neg e]; congr 1; symm; rw [Bool.eq_false_iff]; intro h; have := h0.1 h; omega
def AllF (k : Nat) (c : SC) : Option (List SC) := sashref05_All.f k c.f0 c.f1.f0 c.f1.f1 c.f1.f2 c.f1.f3 c.f2 c.f3
theorem cellsL_split (l : List SC) (i : Nat) (h : i < l.length) : cellsL (l.take (i + 1)) = cellsL (l.take i) ++ cells (l.getD i z27) := by
 rw [takeT l i h, cellsL_flat, cellsL_flat, List.flatMap_append]; simp
theorem cellsL_drop (l : List SC) (i : Nat) (h : i < l.length) : (cellsL (l.drop i)).length = (cells (l.getD i z27)).length + (cellsL (l.drop (i + 1))).length := by
 rw [dropT l i h, cellsL_cons, List.length_append]
theorem cellsL_td (l : List SC) (i : Nat) : (cellsL (l.take i)).length + (cellsL (l.drop i)).length = (cellsL l).length := by
 conv => rhs; rw [← List.take_append_drop i l]
 rw [cellsL_flat, cellsL_flat, cellsL_flat, List.flatMap_append, List.length_append]
theorem All_f (c : SC) : (cells c).length ≤ 100000 → ∀ k, 2 * (cells c).length < k → AllF k c = some (cells c) := by
 refine cell_ind (P := fun c => (cells c).length ≤ 100000 → ∀ k, 2 * (cells c).length < k → AllF k c = some (cells c)) (fun c ih hs k hk => ?_) c
 have hcl : (cells c).length = 1 + (cellsL c.f3).length := by rw [cells_eq]; simp; omega
 have hge := cellsL_ge c.f3
 obtain ⟨k, rfl⟩ : ∃ m, k = m + 1 := ⟨k - 1, by omega⟩
 have loop : ∀ (d k i : Nat), c.f3.length - i = d → i ≤ c.f3.length → 2 * (cellsL (c.f3.drop i)).length + 1 < k →
   sashref05_All.l0 k ([c] ++ cellsL (c.f3.take i)) (c.f3.length : Int) (i : Int) c.f0 c.f1.f0 c.f1.f1 c.f1.f2 c.f1.f3 c.f2 c.f3 = some (cells c) := by
  intro d
  induction d with
  | zero =>
   intro k i hd hi hk
   obtain ⟨k, rfl⟩ : ∃ m, k = m + 1 := ⟨k - 1, by omega⟩
   simp only [sashref05_All.l0]
   rw [if_neg (by omega), List.take_of_length_le (by omega), cells_eq]
   rfl
  | succ d ihd =>
   intro k i hd hi hk
   obtain ⟨k, rfl⟩ : ∃ m, k = m + 1 := ⟨k - 1, by omega⟩
   have hlt : i < c.f3.length := by omega
   have h1 := cellsL_drop c.f3 i hlt
   have h2 := cells_pos (c.f3.getD i z27)
   have h3 := cellsL_td c.f3 i
   have hk2 := kid_le _ c.f3 (getT_mem c.f3 i hlt)
   have hk1 := ih _ (getT_mem c.f3 i hlt) (by omega) k (by omega)
   unfold AllF at hk1
   simp only [sashref05_All.l0]
   rw [if_pos (by omega), if_pos (by omega), if_pos (by omega), rd_T_getD, hk1]
   simp only [Option.bind_some]
   rw [if_pos (by rw [List.length_append]; simp only [List.length_cons, List.length_nil]; omega), wi i (by omega), List.append_assoc, ← cellsL_split c.f3 i hlt]
   exact ihd k (i + 1) (by omega) (by omega) (by omega)
 unfold AllF
 simp only [sashref05_All.f]
 rw [SC.eta]
 have := loop c.f3.length k 0 (by omega) (by omega) (by rw [List.drop_zero]; omega)
 simpa [cellsL_nil] using this
theorem filter_dropT (p : SC → Bool) (l : List SC) (i : Nat) (h : i < l.length) : (l.drop i).filter p = (if p (l.getD i z27) = true then [l.getD i z27] else []) ++ (l.drop (i + 1)).filter p := by
 rw [dropT l i h, List.filter_cons]
 split <;> simp
theorem Leaves_l0 (l : List SC) (hl : l.length ≤ 100000) : ∀ (d k i : Nat) (acc : List SC), l.length - i = d → i ≤ l.length → d < k → acc.length ≤ i →
  sashref05_Leaves.l0 k acc l (l.length : Int) (i : Int) = some (acc ++ (l.drop i).filter (fun x => decide (x.f0 = 1))) := by
 intro d
 induction d with
 | zero =>
  intro k i acc hd hi hk ha
  obtain ⟨k, rfl⟩ : ∃ m, k = m + 1 := ⟨k - 1, by omega⟩
  simp only [sashref05_Leaves.l0]
  rw [if_neg (by omega), List.drop_eq_nil_of_le (by omega)]; simp
 | succ d ih =>
  intro k i acc hd hi hk ha
  obtain ⟨k, rfl⟩ : ∃ m, k = m + 1 := ⟨k - 1, by omega⟩
  have hlt : i < l.length := by omega
  simp only [sashref05_Leaves.l0]
  rw [if_pos (by omega), if_pos (by omega), if_pos (by omega), rd_T_getD, filter_dropT _ l i hlt, wi i (by omega)]
  by_cases h : (l.getD i z27).f0 = 1
  ·rw [if_pos h, if_pos (by omega), if_pos (by simpa using h), SC.eta, ih k (i + 1) _ (by omega) (by omega) (by omega) (by rw [List.length_append]; simp only [List.length_cons, List.length_nil]; omega)]
   simp
  ·rw [if_neg h, if_neg (by simpa using h), ih k (i + 1) _ (by omega) (by omega) (by omega) (by omega)]
   simp
theorem Leaves_f (c : SC) (hl : (cells c).length ≤ 100000) (k : Nat) (hk : 2 * (cells c).length < k) : sashref05_Leaves.f k c.f0 c.f1.f0 c.f1.f1 c.f1.f2 c.f1.f3 c.f2 c.f3 = some (leavesOf c) := by
 have h := All_f c hl k hk
 unfold AllF at h
 unfold sashref05_Leaves.f
 rw [h]
 simp only [Option.bind_some]
 have := Leaves_l0 (cells c) hl (cells c).length k 0 [] (by omega) (by omega) (by omega) (by simp)
 simpa [leavesOf] using this
def ndL (pre : List Int) : List Int → Bool
 | [] => true
 | x :: r => !(pre.contains x) && ndL (pre ++ [x]) r
theorem ndL_iff : ∀ (l pre : List Int), ndL pre l = true ↔ l.Nodup ∧ ∀ x ∈ l, x ∉ pre := by
 intro l
 induction l with
 | nil => intro pre; simp [ndL]
 | cons x r ih =>
  intro pre
  simp only [ndL, Bool.and_eq_true, ih, Bool.not_eq_true', List.nodup_cons]
  constructor
  ·rintro ⟨h1, h2, h3⟩
   have hx : x ∉ pre := by intro h; rw [List.contains_iff_mem.2 h] at h1; cases h1
   refine ⟨⟨fun h => h3 x h (by simp), h2⟩, fun y hy => ?_⟩
   rcases List.mem_cons.1 hy with rfl | hy
   ·exact hx
   ·exact fun h => h3 y hy (by simp [h])
  ·rintro ⟨⟨h1, h2⟩, h3⟩
   refine ⟨?_, h2, fun y hy h => ?_⟩
   ·rw [Bool.eq_false_iff]; intro h; exact h3 x (by simp) (List.contains_iff_mem.1 h)
   ·rcases List.mem_append.1 h with h | h
    ·exact h3 y (by simp [hy]) h
    ·obtain rfl : y = x := by simpa using h
     exact h1 hy
theorem ids_drop (l : List SC) (i : Nat) (h : i < l.length) : (l.map (·.f2)).drop i = (l.getD i z27).f2 :: (l.map (·.f2)).drop (i + 1) := by
 rw [← List.map_drop, dropT l i h, List.map_cons, List.map_drop]
theorem ids_take (l : List SC) (i : Nat) (h : i < l.length) : (l.map (·.f2)).take (i + 1) = (l.map (·.f2)).take i ++ [(l.getD i z27).f2] := by
 rw [← List.map_take, takeT l i h, List.map_append, List.map_take]; rfl
theorem May_l2 (t : List SC) (ht : t.length ≤ 10000) (i : Nat) (hi : i < t.length) : ∀ (d k j : Nat), i - j = d → j ≤ i → d < k → ∃ k', k - d - 1 ≤ k' ∧
  sashref05_May.l2 k t (i : Int) (j : Int) (t.length : Int) (i : Int) = if (((t.map (·.f2)).take i).drop j).contains (t.getD i z27).f2 = true then some false else sashref05_May.l1 k' t (t.length : Int) ((i + 1 : Nat) : Int) := by
 intro d
 induction d with
 | zero =>
  intro k j hd hj hk
  obtain ⟨k, rfl⟩ : ∃ m, k = m + 1 := ⟨k - 1, by omega⟩
  refine ⟨k, by omega, ?_⟩
  simp only [sashref05_May.l2]
  rw [if_neg (by omega), wi i (by omega), List.drop_eq_nil_of_le (by rw [List.length_take]; omega), if_neg (by simp)]
 | succ d ih =>
  intro k j hd hj hk
  obtain ⟨k, rfl⟩ : ∃ m, k = m + 1 := ⟨k - 1, by omega⟩
  obtain ⟨k', hk', hh⟩ := ih k (j + 1) (by omega) (by omega) (by omega)
  refine ⟨k', by omega, ?_⟩
  simp only [sashref05_May.l2]
  rw [if_pos (by omega), if_pos (by omega), if_pos (by omega), if_pos (by omega), if_pos (by omega), rd_T_getD, rd_T_getD, wi j (by omega), hh]
  have hjl : j < ((t.map (·.f2)).take i).length := by rw [List.length_take, List.length_map]; omega
  have e : ((t.map (·.f2)).take i).drop j = (t.getD j z27).f2 :: ((t.map (·.f2)).take i).drop (j + 1) := by
   rw [List.drop_eq_getElem_cons hjl]
   congr 1
   rw [List.getElem_take, List.getElem_map, List.getD_eq_getElem?_getD, List.getElem?_eq_getElem (by omega)]
   rfl
  rw [e]
  by_cases h : (t.getD i z27).f2 = (t.getD j z27).f2
  ·rw [if_pos h, h, if_pos (by simp)]
  ·rw [if_neg h]
   have : ((t.getD j z27).f2 :: ((t.map (·.f2)).take i).drop (j + 1)).contains (t.getD i z27).f2 = (((t.map (·.f2)).take i).drop (j + 1)).contains (t.getD i z27).f2 := by
    rw [List.contains_cons]
    have : ((t.getD i z27).f2 == (t.getD j z27).f2) = false := beq_eq_false_iff_ne.2 h
    rw [this, Bool.false_or]
   rw [this]
theorem May_l1 (t : List SC) (ht : t.length ≤ 10000) (B : Nat) (hB : 10002 ≤ B) : ∀ (d k i : Nat), t.length - i = d → i ≤ t.length → d * B < k → sashref05_May.l1 k t (t.length : Int) (i : Int) = some (ndL ((t.map (·.f2)).take i) ((t.map (·.f2)).drop i)) := by
 intro d
 induction d with
 | zero =>
  intro k i hd hi hk
  obtain ⟨k, rfl⟩ : ∃ m, k = m + 1 := ⟨k - 1, by omega⟩
  simp only [sashref05_May.l1]
  rw [if_neg (by omega), List.drop_eq_nil_of_le (by rw [List.length_map]; omega)]
  rfl
 | succ d ih =>
  intro k i hd hi hk
  obtain ⟨k, rfl⟩ : ∃ m, k = m + 1 := ⟨k - 1, by omega⟩
  have hk2 : d * B + B < k + 1 := by rwa [Nat.succ_mul] at hk
  obtain ⟨k', hk', hh⟩ := May_l2 t ht i (by omega) i k 0 (by omega) (by omega) (by omega)
  have hkk : d * B < k' := by omega
  have hih := ih k' (i + 1) (by omega) (by omega) hkk
  simp only [sashref05_May.l1]
  have hz : ((0 : Nat) : Int) = 0 := rfl
  rw [hz] at hh
  rw [if_pos (by omega), hh, List.drop_zero, ids_drop t i (by omega), hih, ids_take t i (by omega)]
  simp only [ndL]
  cases ((t.map (·.f2)).take i).contains (t.getD i z27).f2 <;> simp
theorem May_step (l : List SC) (i : Nat) (hi : i < l.length) (hl : l.length ≤ 100000) (k : Nat) (c : SC) :
  sashref05_May.l0 (k + 2) l (l.length : Int) (i : Int) c.f0 c.f1.f0 c.f1.f1 c.f1.f2 c.f1.f3 c.f2 c.f3 =
   if (rectOk (l.getD i z27).f1 && nodeOk (l.getD i z27)) = true then sashref05_May.l0 k l (l.length : Int) ((i + 1 : Nat) : Int) c.f0 c.f1.f0 c.f1.f1 c.f1.f2 c.f1.f3 c.f2 c.f3 else some false := by
 conv => lhs; simp only [sashref05_May.l0, sashref05_May.j1]
 rw [if_pos (by omega), if_pos (by omega), if_pos (by omega), rd_T_getD, ref04_May_eq]
 simp only [Option.bind_some]
 rw [wi i (by omega), nodeOk_B]
 have hp : 0 ≤ (i : Int) := by omega
 have hq : (i : Int) < (l.length : Int) := by omega
 simp only [if_pos hp, if_pos hq]
 generalize l.getD i z27 = x
 cases hr : rectOk x.f1 with
 | false => simp
 | true =>
  simp only [if_true, Bool.true_and]
  by_cases h1 : x.f0 < 1
  ·rw [if_pos h1]
   have : nodeB x.f0 x.f2 x.f3.length = false := by unfold nodeB; rw [if_neg (by omega), if_neg (by omega)]
   rw [this]; simp
  ·rw [if_neg h1]
   by_cases h3 : x.f0 > 3
   ·have : nodeB x.f0 x.f2 x.f3.length = false := by unfold nodeB; rw [if_neg (by omega), if_neg (by omega)]
    rw [this, decide_eq_true h3]; simp
   ·rw [decide_eq_false h3]
    simp only [Bool.false_eq_true, if_false]
    unfold nodeB
    by_cases hk : x.f0 = 1
    ·rw [if_pos hk, if_pos hk]
     by_cases a : (x.f3.length : Int) > 0
     ·rw [if_pos a]
      have : ¬ x.f3.length = 0 := by omega
      simp [this]
     ·rw [if_neg a]
      have e : x.f3.length = 0 := by omega
      by_cases b : x.f2 < 0
      ·rw [if_pos b]; simp; omega
      ·rw [if_neg b]
       by_cases d : x.f2 > 2147483647
       ·rw [if_pos d]; simp; omega
       ·rw [if_neg d, if_neg (by omega)]
        have : (decide (x.f3.length = 0) && decide (0 ≤ x.f2 ∧ x.f2 ≤ 2147483647)) = true := by simp [e]; omega
        rw [if_pos this]
    ·rw [if_neg hk, if_neg hk, if_pos (show x.f0 > 1 by omega), if_pos (show x.f0 = 2 ∨ x.f0 = 3 by omega)]
     by_cases a : (x.f3.length : Int) < 2
     ·rw [if_pos a]
      have : ¬ 2 ≤ x.f3.length := by omega
      simp [this]
     ·rw [if_neg a]
      by_cases b : x.f2 = 0
      ·rw [if_pos b]
       have : decide (2 ≤ x.f3.length ∧ x.f2 = 0) = true := decide_eq_true ⟨by omega, b⟩
       rw [if_pos this]
      ·rw [if_neg b]; simp [b]
theorem May_l0 (l : List SC) (hl : l.length ≤ 100000) (c : SC) : ∀ (d k i : Nat), l.length - i = d → i ≤ l.length → 2 * d < k → ∃ k', k - 2 * d - 1 ≤ k' ∧
  sashref05_May.l0 k l (l.length : Int) (i : Int) c.f0 c.f1.f0 c.f1.f1 c.f1.f2 c.f1.f3 c.f2 c.f3 = if (l.drop i).all (fun x => rectOk x.f1 && nodeOk x) = true then ((sashref05_Leaves.f k' c.f0 c.f1.f0 c.f1.f1 c.f1.f2 c.f1.f3 c.f2 c.f3).bind fun t229 => (sashref05_May.l1 k' t229 (t229.length : Int) 0)) else some false := by
 intro d
 induction d with
 | zero =>
  intro k i hd hi hk
  obtain ⟨k, rfl⟩ : ∃ m, k = m + 1 := ⟨k - 1, by omega⟩
  refine ⟨k, by omega, ?_⟩
  simp only [sashref05_May.l0]
  rw [if_neg (by omega), List.drop_eq_nil_of_le (by omega)]
  simp
 | succ d ih =>
  intro k i hd hi hk
  obtain ⟨k, rfl⟩ : ∃ m, k = m + 2 := ⟨k - 2, by omega⟩
  obtain ⟨k', hk', hh⟩ := ih k (i + 1) (by omega) (by omega) (by omega)
  refine ⟨k', by omega, ?_⟩
  rw [May_step l i (by omega) hl, hh, dropT l i (by omega), List.all_cons]
  cases (rectOk (l.getD i z27).f1 && nodeOk (l.getD i z27)) <;> simp
theorem May_f (c : SC) (hl : (cells c).length ≤ 10000) (k : Nat) (hk : 200000000 < k) : sashref05_May.f k c.f0 c.f1.f0 c.f1.f1 c.f1.f2 c.f1.f3 c.f2 c.f3 = some (mayB c) := by
 have h := All_f c (by omega) k (by omega)
 unfold AllF at h
 unfold sashref05_May.f
 rw [h]
 simp only [Option.bind_some]
 rw [if_neg (by omega)]
 obtain ⟨k', hk', hh⟩ := May_l0 (cells c) (by omega) c (cells c).length k 0 (by omega) (by omega) (by omega)
 have hz : ((0 : Nat) : Int) = 0 := rfl
 rw [hz, List.drop_zero] at hh
 rw [hh]
 have hlv : (leavesOf c).length ≤ 10000 := Nat.le_trans (List.length_filter_le _ _) hl
 by_cases ha : (cells c).all (fun x => rectOk x.f1 && nodeOk x) = true
 ·rw [if_pos ha, Leaves_f c (by omega) k' (by omega)]
  simp only [Option.bind_some]
  have hl1 := May_l1 (leavesOf c) hlv 10010 (by decide) (leavesOf c).length k' 0 (by omega) (by omega) (by omega)
  rw [hz, List.take_zero, List.drop_zero] at hl1
  rw [hl1]
  congr 1
  rw [Bool.eq_iff_iff, ndL_iff, may_iff]
  have e : (leavesOf c).map (·.f2) = leafIds (cells c) := rfl
  rw [e]
  constructor
  ·rintro ⟨h1, _⟩
   refine ⟨by omega, fun x hx => ?_, h1⟩
   have := List.all_eq_true.1 ha x hx
   rw [Bool.and_eq_true] at this
   exact ⟨this.2, this.1⟩
  ·rintro ⟨_, _, h⟩
   exact ⟨h, fun _ _ h => by cases h⟩
 ·rw [if_neg ha]
  congr 1
  symm
  rw [Bool.eq_false_iff]
  intro hm
  apply ha
  rw [List.all_eq_true]
  intro x hx
  have := ((may_iff c).1 hm).2.1 x hx
  rw [this.1, this.2]; rfl
theorem RCut_l0 (r : SR) (ax : Int) (hr : rectOk r = true) (hax : ax = 1 ∨ ax = 2) (l : List Int) (hl : l.length ≤ 100000) : ∀ (d k i : Nat) (off : Int) (P L : List SR), l.length - i = d → i ≤ l.length → 3 * d < k → 0 ≤ off → off ≤ wholeR r ax → P.length ≤ i → L.length ≤ i →
  sashref04_Cut.l0 k ax l [] (wholeR r ax) P L off (l.length : Int) (i : Int) r.f0 r.f1 r.f2 r.f3 = some (cutRes r ax (decide (i = 0)) off (l.drop i) P L) := by
 obtain ⟨x0, w0, xw⟩ := rXW_bd r ax hr hax
 have hro := (rectOk_iff r).1 hr
 have hw : wholeR r ax ≤ 10000 := by omega
 intro d
 induction d with
 | zero =>
  intro k i off P L hd hi hk h0 h1 hP hL
  obtain ⟨k, rfl⟩ : ∃ m, k = m + 1 := ⟨k - 1, by omega⟩
  have hn : l.drop i = [] := List.drop_eq_nil_of_le (by omega)
  simp only [sashref04_Cut.l0]
  rw [if_neg (by omega), hn]
  unfold cutRes cutOk
  by_cases h : off = wholeR r ax
  ·rw [if_pos h, if_pos (by simpa using h)]; simp [cutParts, cutLines]
  ·rw [if_neg h, if_neg (by simpa using h)]
 | succ d ih =>
  intro k i off P L hd hi hk h0 h1 hP hL
  obtain ⟨k, rfl⟩ : ∃ m, k = m + 3 := ⟨k - 3, by omega⟩
  have hlt : i < l.length := by omega
  rw [drop_getD l i hlt]
  have e5 := ak (wi i (by omega))
  have e1 := ak (w64s (n := off + 1) (by omega) (by omega))
  have e2 := ak (w64s (n := r.f0 + off) (by omega) (by omega))
  have e3 := ak (w64s (n := r.f1 + off) (by omega) (by omega))
  have e2' := ak (w64s (n := r.f0 + (off + 1)) (by omega) (by omega))
  have e3' := ak (w64s (n := r.f1 + (off + 1)) (by omega) (by omega))
  have mk1 : ∀ o n : Int, (if ax = 1 then (⟨r.f0 + o, r.f1, n, r.f3⟩ : SR) else ⟨r.f0, r.f1 + o, r.f2, n⟩) = mkR r ax o n := fun o n => rfl
  have step : ∀ (o : Int) (L' : List SR), 0 ≤ o → o ≤ wholeR r ax + 1 → o = offA (decide (i = 0)) off → L'.length ≤ i + 1 →
    sashref04_Cut.j3 (k + 2) ax l [] (wholeR r ax) P L' o (i : Int) (l.length : Int) (i : Int) r.f0 r.f1 r.f2 r.f3 =
     if 1 ≤ l.getD i 0 ∧ l.getD i 0 ≤ wholeR r ax - o then sashref04_Cut.l0 k ax l [] (wholeR r ax) (P ++ [mkR r ax o (l.getD i 0)]) L' (o + l.getD i 0) (l.length : Int) ((i + 1 : Nat) : Int) r.f0 r.f1 r.f2 r.f3 else some ([], [], false) := by
   intro o L' ho0 ho1 _ _
   have f2 := ak (w64s (n := r.f0 + o) (by omega) (by omega))
   have f3 := ak (w64s (n := r.f1 + o) (by omega) (by omega))
   simp only [sashref04_Cut.j3, sashref04_Cut.j4]
   rw [if_pos (by omega), if_pos (by omega), rd_getD, e5.out]
   generalize l.getD i 0 = n
   have hp : 0 ≤ (i : Int) := by omega
   have hq : (i : Int) < (l.length : Int) := by omega
   have hpl : P.length < 4398046511104 := by omega
   simp only [if_pos hp, if_pos hq, if_pos hpl, f2.out, f3.out]
   by_cases a : n < 1
   ·rw [if_pos a, if_pos trivial, if_neg (by omega)]
   ·rw [if_neg a]
    by_cases b : n > wholeR r ax
    ·rw [if_pos b, if_pos trivial, if_neg (by omega)]
    ·rw [if_neg b]
     have f4 := ak (w64s (n := o + n) (by omega) (by omega))
     rw [f4.out]
     by_cases c : o + n > wholeR r ax
     ·rw [decide_eq_true c, if_pos rfl, if_neg (by omega)]
     ·rw [decide_eq_false c, if_neg (by decide), if_pos (show 1 ≤ n ∧ n ≤ wholeR r ax - o by omega), ← mk1]
      rcases hax with rfl | rfl
      ·simp
      ·simp
  simp only [sashref04_Cut.l0]
  rw [if_pos (by omega)]
  generalize hg : l.getD i 0 = n at step ⊢
  have hdec : cutRes r ax (decide (i = 0)) off (n :: l.drop (i + 1)) P L = if 1 ≤ n ∧ n ≤ wholeR r ax - offA (decide (i = 0)) off then cutRes r ax false (offA (decide (i = 0)) off + n) (l.drop (i + 1)) (P ++ [mkR r ax (offA (decide (i = 0)) off) n]) (L ++ if i = 0 then [] else [mkR r ax off 1]) else ([], [], false) := by
   unfold cutRes
   simp only [cutOk, cutParts, cutLines]
   by_cases h : 1 ≤ n ∧ n ≤ wholeR r ax - offA (decide (i = 0)) off
   ·have hb := decide_eq_true h
    simp only [hb, Bool.true_and]
    rw [if_pos h]
    by_cases h00 : i = 0 <;> simp [h00]
   ·have hb := decide_eq_false h
    simp only [hb, Bool.false_and]
    rw [if_neg h]; simp
  rw [hdec]
  by_cases h00 : i = 0
  ·subst h00
   have hoff : offA (decide ((0 : Nat) = 0)) off = off := rfl
   rw [if_neg (by omega), step off L h0 (by omega) rfl (by omega), hoff]
   by_cases h : 1 ≤ n ∧ n ≤ wholeR r ax - off
   ·rw [if_pos h, if_pos h, if_pos rfl, List.append_nil]
    have := ih k 1 (off + n) (P ++ [mkR r ax off n]) L (by omega) (by omega) (by omega) (by omega) (by omega) (by rw [List.length_append]; simp only [List.length_cons, List.length_nil]; omega) (by omega)
    have hd1 : decide ((1 : Nat) = 0) = false := rfl
    rw [hd1] at this
    exact this
   ·rw [if_neg h, if_neg h]
  ·have hoff : offA (decide (i = 0)) off = off + 1 := by rw [decide_eq_false h00]; rfl
   rw [if_pos (by omega), e1.out, e2.out, e3.out, hoff, if_neg h00]
   have hLl : L.length < 4398046511104 := by omega
   simp only [if_pos hLl]
   have hboth : (if ax = 1 then sashref04_Cut.j3 (k + 2) ax l [] (wholeR r ax) P (L ++ [(⟨r.f0 + off, r.f1, 1, r.f3⟩ : SR)]) (off + 1) (i : Int) (l.length : Int) (i : Int) r.f0 r.f1 r.f2 r.f3 else sashref04_Cut.j3 (k + 2) ax l [] (wholeR r ax) P (L ++ [(⟨r.f0, r.f1 + off, r.f2, 1⟩ : SR)]) (off + 1) (i : Int) (l.length : Int) (i : Int) r.f0 r.f1 r.f2 r.f3) = sashref04_Cut.j3 (k + 2) ax l [] (wholeR r ax) P (L ++ [mkR r ax off 1]) (off + 1) (i : Int) (l.length : Int) (i : Int) r.f0 r.f1 r.f2 r.f3 := by
    rw [← mk1]
    rcases hax with rfl | rfl <;> simp
   rw [hboth, step (off + 1) (L ++ [mkR r ax off 1]) (by omega) (by omega) hoff.symm (by rw [List.length_append]; simp only [List.length_cons, List.length_nil]; omega)]
   by_cases h : 1 ≤ n ∧ n ≤ wholeR r ax - (off + 1)
   ·rw [if_pos h, if_pos h]
    have := ih k (i + 1) (off + 1 + n) (P ++ [mkR r ax (off + 1) n]) (L ++ [mkR r ax off 1]) (by omega) (by omega) (by omega) (by omega) (by omega) (by rw [List.length_append]; simp only [List.length_cons, List.length_nil]; omega) (by rw [List.length_append]; simp only [List.length_cons, List.length_nil]; omega)
    have hd1 : decide (i + 1 = 0) = false := rfl
    rw [hd1] at this
    exact this
   ·rw [if_neg h, if_neg h]
theorem RCut_f (r : SR) (ax : Int) (hr : rectOk r = true) (hax : ax = 1 ∨ ax = 2) (l : List Int) (hl : l.length ≤ 100000) (hne : l ≠ []) (k : Nat) (hk : 3 * l.length + 3 < k) :
  sashref04_Cut.f k r.f0 r.f1 r.f2 r.f3 ax l = some (cutRes r ax true 0 l [] []) := by
 obtain ⟨k, rfl⟩ : ∃ m, k = m + 2 := ⟨k - 2, by omega⟩
 have hp := List.length_pos_iff.2 hne
 unfold sashref04_Cut.f
 rw [ref04_May_eq, hr]
 simp only [Option.bind_some, if_true]
 rw [if_neg (by omega), if_neg (by omega)]
 have : ((l.length : Int) == 0) = false := beq_eq_false_iff_ne.2 (by omega)
 rw [this]
 simp only [sashref04_Cut.j0, sashref04_Cut.j1]
 rw [if_neg (by decide)]
 have h := RCut_l0 r ax hr hax l hl l.length k 0 0 [] [] (by omega) (by omega) (by omega) (by omega) (by have := rXW_bd r ax hr hax; omega) (by simp) (by simp)
 rcases hax with rfl | rfl
 ·rw [if_neg (by decide)]
  simpa [wholeR] using h
 ·rw [if_pos rfl]
  simpa [wholeR] using h
theorem Sizes_f (c : SC) (hl : c.f3.length ≤ 100000) (k : Nat) (hk : c.f3.length < k) : sashref06_Sizes.f k c.f0 c.f1.f0 c.f1.f1 c.f1.f2 c.f1.f3 c.f2 c.f3 = some (sizesOf c) := by
 have hsl : (sizesOf c).length = c.f3.length := by simp [sizesOf]
 have loop : ∀ (d k i : Nat), c.f3.length - i = d → i ≤ c.f3.length → d < k → sashref06_Sizes.l0 k ((sizesOf c).take i) (c.f3.length : Int) (i : Int) c.f0 c.f1.f0 c.f1.f1 c.f1.f2 c.f1.f3 c.f2 c.f3 = some (sizesOf c) := by
  intro d
  induction d with
  | zero =>
   intro k i hd hi hk
   obtain ⟨k, rfl⟩ : ∃ m, k = m + 1 := ⟨k - 1, by omega⟩
   simp only [sashref06_Sizes.l0]
   rw [if_neg (by omega), List.take_of_length_le (by omega)]
  | succ d ih =>
   intro k i hd hi hk
   obtain ⟨k, rfl⟩ : ∃ m, k = m + 1 := ⟨k - 1, by omega⟩
   have hlt : i < c.f3.length := by omega
   have htk : (sizesOf c).take (i + 1) = (sizesOf c).take i ++ [if c.f0 = 2 then (rd_T27 c.f3 (i : Int)).f1.f2 else (rd_T27 c.f3 (i : Int)).f1.f3] := by
    rw [List.take_add_one, List.getElem?_eq_getElem (by omega)]
    simp [sizesOf, rd_T27, List.getD_eq_getElem?_getD, List.getElem?_eq_getElem hlt]
   have := ih k (i + 1) (by omega) (by omega) (by omega)
   rw [htk] at this
   simp only [sashref06_Sizes.l0]
   rw [if_pos (by omega), wi i (by omega)]
   by_cases h2 : c.f0 = 2
   ·rw [if_pos h2, if_pos (by omega), if_pos (by omega), if_pos (by rw [List.length_take]; omega)]
    rw [if_pos h2] at this
    exact this
   ·rw [if_neg h2, if_pos (by omega), if_pos (by omega), if_pos (by rw [List.length_take]; omega)]
    rw [if_neg h2] at this
    exact this
 unfold sashref06_Sizes.f
 have := loop c.f3.length k 0 (by omega) (by omega) hk
 simpa using this
theorem ne_sr (a b : SR) : (!(a.f0 == b.f0) || (!(a.f1 == b.f1) || (!(a.f2 == b.f2) || !(a.f3 == b.f3)))) = !decide (a = b) := by
 by_cases h : a = b
 ·subst h; simp
 ·rw [decide_eq_false h]
  by_cases h0 : a.f0 = b.f0
  ·by_cases h1 : a.f1 = b.f1
   ·by_cases h2 : a.f2 = b.f2
    ·by_cases h3 : a.f3 = b.f3
     ·exact absurd (sr_ext h0 h1 h2 h3) h
     ·simp [h3]
    ·simp [h2]
   ·simp [h1]
  ·simp [h0]
def oneOf (c : SC) : List SR × Bool := match linesS c with
 | some l => (l, true)
 | none => ([], false)
theorem one_f (c : SC) (hn : nodeOk c = true) (hr : rectOk c.f1 = true) (hl : c.f3.length ≤ 10000) (k : Nat) (hk : 5 * c.f3.length + 10 < k) : sashref06_one.f k c.f0 c.f1.f0 c.f1.f1 c.f1.f2 c.f1.f3 c.f2 c.f3 = some (oneOf c) := by
 unfold sashref06_one.f oneOf
 by_cases hk1 : c.f0 = 1
 ·have : linesS c = some [] := by simp [linesS, hk1]
  rw [if_pos hk1, this]
 ·have hk23 : c.f0 = 2 ∨ c.f0 = 3 := by
   unfold nodeOk at hn
   rw [if_neg hk1] at hn
   by_cases h : c.f0 = 2 ∨ c.f0 = 3
   ·exact h
   ·rw [if_neg h] at hn; cases hn
  have h2 : 2 ≤ c.f3.length := by
   unfold nodeOk at hn
   rw [if_neg hk1, if_pos hk23, decide_eq_true_eq] at hn
   exact hn.1
  have hsl : (sizesOf c).length = c.f3.length := by simp [sizesOf]
  have hm : (c.f0 - 1) % 256 = c.f0 - 1 := by omega
  rw [if_neg hk1, Sizes_f c (by omega) k (by omega)]
  simp only [Option.bind_some]
  rw [hm, RCut_f c.f1 (c.f0 - 1) hr (by omega) (sizesOf c) (by omega) (by intro h; rw [h] at hsl; simp at hsl; omega) k (by omega)]
  simp only [Option.bind_some]
  rw [linesS_cut c hr hk23 h2]
  have hres : (cutRes c.f1 (c.f0 - 1) true 0 (sizesOf c) [] []).2.2 = true → (cutRes c.f1 (c.f0 - 1) true 0 (sizesOf c) [] []).1.length = c.f3.length := by
   unfold cutRes
   split
   ·intro _; simp [cutParts_len, hsl]
   ·intro h; cases h
  have hres2 : (cutRes c.f1 (c.f0 - 1) true 0 (sizesOf c) [] []).2.2 = false → (cutRes c.f1 (c.f0 - 1) true 0 (sizesOf c) [] []).2.1 = [] := by
   unfold cutRes
   split
   ·intro h; cases h
   ·intro _; rfl
  generalize cutRes c.f1 (c.f0 - 1) true 0 (sizesOf c) [] [] = r at *
  obtain ⟨ps, ls, b⟩ := r
  simp only at hres hres2 ⊢
  cases b with
  | false => rw [hres2 rfl]; simp
  | true =>
   have hpl := hres rfl
   rw [if_pos rfl]
   have loop : ∀ (d k i : Nat), ps.length - i = d → i ≤ ps.length → d < k → (c.f3.take i).map (·.f1) = ps.take i →
     sashref06_one.l0 k ps ls (ps.length : Int) (i : Int) c.f0 c.f1.f0 c.f1.f1 c.f1.f2 c.f1.f3 c.f2 c.f3 = some (if c.f3.map (·.f1) = ps then (ls, true) else ([], false)) := by
    intro d
    induction d with
    | zero =>
     intro k i hd hi hk he
     obtain ⟨k, rfl⟩ : ∃ m, k = m + 1 := ⟨k - 1, by omega⟩
     rw [List.take_of_length_le (by omega), List.take_of_length_le (by omega)] at he
     simp only [sashref06_one.l0]
     rw [if_neg (by omega), if_pos he]
    | succ d ih =>
     intro k i hd hi hk he
     obtain ⟨k, rfl⟩ : ∃ m, k = m + 1 := ⟨k - 1, by omega⟩
     simp only [sashref06_one.l0]
     rw [if_pos (by omega), if_pos (by omega), if_pos (by omega), if_pos (by omega), rd_T_getD, rd_R_getD, ne_sr, wi i (by omega)]
     by_cases h : (c.f3.getD i z27).f1 = ps.getD i z24
     ·rw [decide_eq_true h.symm, if_neg (by decide)]
      exact ih k (i + 1) (by omega) (by omega) (by omega) (take_map_succ c.f3 ps i (by omega) (by omega) he h)
     ·rw [decide_eq_false (fun h' => h h'.symm), if_pos (by decide), if_neg (take_map_ne c.f3 ps i (by omega) (by omega) h)]
   have := loop ps.length k 0 (by omega) (by omega) (by omega) (by simp)
   have hz : ((0 : Nat) : Int) = 0 := rfl
   rw [hz] at this
   rw [this]
   by_cases h : c.f3.map (·.f1) = ps
   ·rw [if_pos h, if_pos ⟨rfl, h⟩]
   ·rw [if_neg h, if_neg (fun h' => h h'.2)]
theorem oneOf_none {c : SC} (h : linesS c = none) : oneOf c = ([], false) := by unfold oneOf; rw [h]
theorem oneOf_some {c : SC} {l : List SR} (h : linesS c = some l) : oneOf c = (l, true) := by unfold oneOf; rw [h]
theorem Check_l0 (l : List SC) (hl : l.length ≤ 10000) (hn : ∀ x ∈ l, nodeOk x = true ∧ rectOk x.f1 = true ∧ x.f3.length ≤ 10000) : ∀ (d k i : Nat) (acc : List SR), l.length - i = d → i ≤ l.length → d + 60000 < k → acc.length ≤ i * 10000 →
  sashref06_Check.l0 k [] l acc (l.length : Int) (i : Int) = some (if (visitL walkStep (i, acc) (l.drop i)).1 = true then ((visitL walkStep (i, acc) (l.drop i)).2.2, 0, 0) else ([], 5, ((visitL walkStep (i, acc) (l.drop i)).2.1 : Int))) := by
 intro d
 induction d with
 | zero =>
  intro k i acc hd hi hk ha
  obtain ⟨k, rfl⟩ : ∃ m, k = m + 1 := ⟨k - 1, by omega⟩
  simp only [sashref06_Check.l0]
  rw [if_neg (by omega), List.drop_eq_nil_of_le (by omega)]
  simp [visitL]
 | succ d ih =>
  intro k i acc hd hi hk ha
  obtain ⟨k, rfl⟩ : ∃ m, k = m + 1 := ⟨k - 1, by omega⟩
  have hlt : i < l.length := by omega
  obtain ⟨h1, h2, h3⟩ := hn _ (getT_mem l i hlt)
  simp only [sashref06_Check.l0]
  rw [if_pos (by omega), if_pos (by omega), if_pos (by omega), rd_T_getD, one_f _ h1 h2 (by omega) k (by omega), dropT l i hlt]
  simp only [Option.bind_some]
  generalize l.getD i z27 = x at *
  cases hs : linesS x with
  | none =>
   rw [oneOf_none hs]
   simp [visitL, walkStep_none hs]
  | some q =>
   have hq := linesS_len hs
   have hm : acc.length + q.length ≤ (i + 1) * 10000 := by rw [Nat.add_mul]; omega
   have hi3 : (i + 1) * 10000 ≤ 10001 * 10000 := Nat.mul_le_mul_right _ (by omega)
   rw [oneOf_some hs]
   simp only [if_true]
   rw [if_pos (by omega), wi i (by omega), ih k (i + 1) (acc ++ q) (by omega) (by omega) (by omega) (by rw [List.length_append]; exact hm)]
   simp [visitL, walkStep_some hs]
theorem Check_f (c : SC) (hl : (cells c).length ≤ 10000) (k : Nat) (hk : 200000000 < k) : sashref06_Check.f k c.f0 c.f1.f0 c.f1.f1 c.f1.f2 c.f1.f3 c.f2 c.f3 = some (linesAns c, chkNo c, chkAt c) := by
 have hA := All_f c (by omega) k (by omega)
 unfold AllF at hA
 unfold sashref06_Check.f
 simp only [Option.bind_some]
 rw [May_f c hl k hk]
 simp only [Option.bind_some]
 unfold linesAns chkNo chkAt tilesB
 cases hm : mayB c with
 | false => simp
 | true =>
  simp only [if_true, Bool.true_and]
  rw [hA]
  simp only [Option.bind_some]
  have hn : ∀ x ∈ cells c, nodeOk x = true ∧ rectOk x.f1 = true ∧ x.f3.length ≤ 10000 := fun x hx => by
   have h2 := ((may_iff c).1 hm).2.1 x hx
   have := kids_le x hx
   exact ⟨h2.1, h2.2, by omega⟩
  have h := Check_l0 (cells c) hl hn (cells c).length k 0 [] (by omega) (by omega) (by omega) (by simp)
  have hz : ((0 : Nat) : Int) = 0 := rfl
  rw [hz, List.drop_zero] at h
  rw [h]
  have hw : visitL walkStep (0, []) (cells c) = walkV c := rfl
  rw [hw]
  cases hq : (walkV c).1 with
  | false => simp
  | true => simp [lnR_walk c hq]
set_option maxRecDepth 100000
def zC : SC := ⟨0, ⟨0, 0, 0, 0⟩, 0, []⟩
def treeR : Except (Int × Int) SC → SC
 | .error _ => zC
 | .ok x => x
def noR : Except (Int × Int) SC → Int
 | .error q => q.1
 | .ok _ => 0
structure WBox (w W : World) (b : Nat) (x : SC) (A : Option Addr) (c : Nat) (at_ no site : Int) : Prop where
 bel : Below w.heap.size w W
 res : W.heap[w.heap.size]? = some (.cells zeroA 27 (0, 0))
 nil : W.heap[w.heap.size + 1]? = some (.cells zeroA 27 (0, 0))
 box : W.heap[b]? = some (.cells #[.int .u8 x.f0, .int .i64 x.f1.f0, .int .i64 x.f1.f1, .int .i64 x.f1.f2, .int .i64 x.f1.f3, .int .i64 x.f2, .slice A x.f3.length c, .int .i64 at_, .int .i64 no, .int .i64 site] 91 (0, 0))
 row : Kd.R k27 27 W (w.heap.size + 2) (fun _ => True) (.slice A x.f3.length c) x.f3
theorem WBox.below {w W W' : World} {b : Nat} {x : SC} {A : Option Addr} {c : Nat} {at_ no site : Int} (h : WBox w W b x A c at_ no site) (hb : Below W.heap.size W W') : WBox w W' b x A c at_ no site :=
 ⟨h.bel.trans (hb.mono h.bel.size), (hb.block _ (blk_lt h.res)).trans h.res, (hb.block _ (blk_lt h.nil)).trans h.nil, (hb.block _ (blk_lt h.box)).trans h.box, Kd.R_below h.row hb⟩
theorem WBox.drew {w W : World} {b : Nat} {x : SC} {A : Option Addr} {c : Nat} {at_ no site : Int} (h : WBox w W b x A c at_ no site) : WBox w W.drew b x A c at_ no site := h.below (below_drew (Below.refl _ _))
theorem WBox.cells {w W : World} {b : Nat} {x : SC} {A : Option Addr} {c : Nat} {at_ no site : Int} (h : WBox w W b x A c at_ no site) :
  W.cell? ⟨b, 0, none⟩ = some (.int .u8 x.f0) ∧ W.cell? ⟨b, 1, none⟩ = some (.int .i64 x.f1.f0) ∧ W.cell? ⟨b, 2, none⟩ = some (.int .i64 x.f1.f1) ∧ W.cell? ⟨b, 3, none⟩ = some (.int .i64 x.f1.f2) ∧ W.cell? ⟨b, 4, none⟩ = some (.int .i64 x.f1.f3) ∧ W.cell? ⟨b, 5, none⟩ = some (.int .i64 x.f2) ∧ W.cell? ⟨b, 6, none⟩ = some (.slice A x.f3.length c) ∧ W.cell? ⟨b, 7, none⟩ = some (.int .i64 at_) ∧ W.cell? ⟨b, 8, none⟩ = some (.int .i64 no) ∧ W.cell? ⟨b, 9, none⟩ = some (.int .i64 site) :=
 ⟨(blk_cell h.box 0).trans rfl, (blk_cell h.box 1).trans rfl, (blk_cell h.box 2).trans rfl, (blk_cell h.box 3).trans rfl, (blk_cell h.box 4).trans rfl, (blk_cell h.box 5).trans rfl, (blk_cell h.box 6).trans rfl, (blk_cell h.box 7).trans rfl, (blk_cell h.box 8).trans rfl, (blk_cell h.box 9).trans rfl⟩
theorem tiles_f (c : SC) (hl : (cells c).length ≤ 10000) (k : Nat) (hk : 200000000 < k) : sashref06_Tiles.f k c.f0 c.f1.f0 c.f1.f1 c.f1.f2 c.f1.f3 c.f2 c.f3 = some (tilesB c) := by
 unfold sashref06_Tiles.f
 rw [Check_f c hl k hk, tilesB_no]
 simp only [Option.bind_some]
 congr 1
noncomputable def eqB (a b : SC) : Bool := @decide (a = b) (Classical.propDecidable _)
theorem eqB_yes {a b : SC} (h : a = b) : eqB a b = true := by unfold eqB; exact @decide_eq_true _ (Classical.propDecidable _) h
theorem eqB_no {a b : SC} (h : a ≠ b) : eqB a b = false := by unfold eqB; exact @decide_eq_false _ (Classical.propDecidable _) h
theorem Same_f (a : SC) : ∀ b : SC, (cells a).length ≤ 100000 → ∀ k, 3 * (cells a).length + 3 < k → sashref05_Same.f k a.f0 a.f1.f0 a.f1.f1 a.f1.f2 a.f1.f3 a.f2 a.f3 b.f0 b.f1.f0 b.f1.f1 b.f1.f2 b.f1.f3 b.f2 b.f3 = some (eqB a b) := by
 refine cell_ind (P := fun a => ∀ b : SC, (cells a).length ≤ 100000 → ∀ k, 3 * (cells a).length + 3 < k → sashref05_Same.f k a.f0 a.f1.f0 a.f1.f1 a.f1.f2 a.f1.f3 a.f2 a.f3 b.f0 b.f1.f0 b.f1.f1 b.f1.f2 b.f1.f3 b.f2 b.f3 = some (eqB a b)) (fun a ih b hs k hk => ?_) a
 have hcl : (cells a).length = 1 + (cellsL a.f3).length := by rw [cells_eq]; simp; omega
 have hge := cellsL_ge a.f3
 obtain ⟨k, rfl⟩ : ∃ m, k = m + 2 := ⟨k - 2, by omega⟩
 have jt : ∀ (k : Nat), 0 < k → sashref05_Same.j0 k true a.f0 a.f1.f0 a.f1.f1 a.f1.f2 a.f1.f3 a.f2 a.f3 b.f0 b.f1.f0 b.f1.f1 b.f1.f2 b.f1.f3 b.f2 b.f3 = some false := fun k h => by
  obtain ⟨k, rfl⟩ : ∃ m, k = m + 1 := ⟨k - 1, by omega⟩
  simp [sashref05_Same.j0]
 simp only [sashref05_Same.f]
 by_cases h0 : a.f0 = b.f0
 ·rw [if_pos h0]
  by_cases h1 : a.f1 = b.f1
  ·rw [if_neg (by rw [h1]; simp)]
   by_cases h2 : a.f2 = b.f2
   ·rw [if_pos h2]
    by_cases h3 : a.f3.length = b.f3.length
    ·have loop : ∀ (d k i : Nat), a.f3.length - i = d → i ≤ a.f3.length → 3 * (cellsL (a.f3.drop i)).length + 4 < k → a.f3.take i = b.f3.take i →
       sashref05_Same.l0 k (a.f3.length : Int) (i : Int) a.f0 a.f1.f0 a.f1.f1 a.f1.f2 a.f1.f3 a.f2 a.f3 b.f0 b.f1.f0 b.f1.f1 b.f1.f2 b.f1.f3 b.f2 b.f3 = some (eqB a b) := by
      intro d
      induction d with
      | zero =>
       intro k i hd hi hk ht
       obtain ⟨k, rfl⟩ : ∃ m, k = m + 1 := ⟨k - 1, by omega⟩
       simp only [sashref05_Same.l0]
       rw [if_neg (by omega)]
       rw [List.take_of_length_le (by omega), List.take_of_length_le (by omega)] at ht
       rw [eqB_yes (by cases a; cases b; simp_all)]
      | succ d ihd =>
       intro k i hd hi hk ht
       obtain ⟨k, rfl⟩ : ∃ m, k = m + 1 := ⟨k - 1, by omega⟩
       have hlt : i < a.f3.length := by omega
       have hlt2 : i < b.f3.length := by omega
       have q1 := cellsL_drop a.f3 i hlt
       have q2 := cells_pos (a.f3.getD i z27)
       have q4 := kid_le _ a.f3 (getT_mem a.f3 i hlt)
       have hm := ih _ (getT_mem a.f3 i hlt) (b.f3.getD i z27) (by omega) k (by omega)
       simp only [sashref05_Same.l0]
       rw [if_pos (by omega), if_pos (by omega), if_pos (by omega), if_pos (by omega), rd_T_getD, rd_T_getD, hm]
       simp only [Option.bind_some]
       by_cases he : a.f3.getD i z27 = b.f3.getD i z27
       ·rw [eqB_yes he, if_pos rfl, wi i (by omega)]
        exact ihd k (i + 1) (by omega) (by omega) (by omega) (by rw [takeT a.f3 i hlt, takeT b.f3 i hlt2, ht, he])
       ·rw [eqB_no he, if_neg (by decide), eqB_no (fun e => he (by rw [e]))]
     have e3 : ((a.f3.length : Int) != (b.f3.length : Int)) = false := by rw [h3]; simp
     rw [e3]
     have hz : ((0 : Nat) : Int) = 0 := rfl
     have hl := loop a.f3.length k 0 (by omega) (by omega) (by rw [List.drop_zero]; omega) (by simp)
     simp only [sashref05_Same.j0, Bool.false_eq_true, if_false]
     rw [hz] at hl
     exact hl
    ·have e3 : ((a.f3.length : Int) != (b.f3.length : Int)) = true := by simp; omega
     rw [e3, jt _ (by omega), eqB_no (fun e => h3 (by rw [e]))]
   ·rw [if_neg h2, jt _ (by omega), eqB_no (fun e => h2 (by rw [e]))]
  ·have hn : (!(a.f1.f0 == b.f1.f0) || (!(a.f1.f1 == b.f1.f1) || (!(a.f1.f2 == b.f1.f2) || (!(a.f1.f3 == b.f1.f3))))) = true := by
    cases hq : (!(a.f1.f0 == b.f1.f0) || (!(a.f1.f1 == b.f1.f1) || (!(a.f1.f2 == b.f1.f2) || (!(a.f1.f3 == b.f1.f3))))) with
    | true => rfl
    | false =>
     exfalso
     simp only [Bool.or_eq_false_iff, Bool.not_eq_false', beq_iff_eq] at hq
     exact h1 (by cases hx : a.f1; cases hy : b.f1; simp_all)
   rw [if_pos hn, jt _ (by omega), eqB_no (fun e => h1 (by rw [e]))]
 ·rw [if_neg h0, jt _ (by omega), eqB_no (fun e => h0 (by rw [e]))]
theorem rsame_calls (a b : SC) (A B : Option Addr) (cap cap2 : Nat) (w : World) (hl : (cells a).length ≤ 100000) (hra : (k27).C w A a.f3.length a.f3) (hca : a.f3.length ≤ cap) (hrb : (k27).C w B b.f3.length b.f3) (hcb : b.f3.length ≤ cap2) :
  Calls Tryz.prog 14 #[.agg #[.int .u8 a.f0, .int .i64 a.f1.f0, .int .i64 a.f1.f1, .int .i64 a.f1.f2, .int .i64 a.f1.f3, .int .i64 a.f2, .slice A a.f3.length cap], .agg #[.int .u8 b.f0, .int .i64 b.f1.f0, .int .i64 b.f1.f1, .int .i64 b.f1.f2, .int .i64 b.f1.f3, .int .i64 b.f2, .slice B b.f3.length cap2]] w fun e w' => e = .returned (.bool (eqB a b)) ∧ Below w.heap.size w w' :=
 sashref05_Same.calls (3 * (cells a).length + 4) _ _ _ _ _ _ A cap a.f3 _ _ _ _ _ _ B cap2 b.f3 _ w hra hca hrb hcb (Same_f a b hl _ (by omega))
end Go.Proofs.YtkobpbbegalfpaaGreatDoor
namespace Go.Proofs.YtkobpbbegalfpaaGreatDoor
open Go.RowKit YtkobpbbegalfpaaGreatDoorW.PrintWords YtkobpbbegalfpaaGreatDoorW.PrintLast YtkobpbbegalfpaaGreatDoorW.PrintMore
set_option linter.unusedVariables false
theorem data_ext {a b : ByteArray} (h : a.data.toList = b.data.toList) : a = b := by
 apply ByteArray.ext
 exact Array.ext' h
theorem headed_data (n : Int) (t : ByteArray) : (hex4 n ++ (⟨#[44]⟩ : ByteArray) ++ t).data.toList = [dgt (n / 4096), dgt (n / 256 % 16), dgt (n / 16 % 16), dgt (n % 16), 44] ++ t.data.toList := by
 rw [ByteArray.data_append, ByteArray.data_append, Array.toList_append, Array.toList_append]
 rfl
theorem headed_size (n : Int) (t : ByteArray) : (hex4 n ++ (⟨#[44]⟩ : ByteArray) ++ t).size = t.size + 5 := by
 rw [ByteArray.size_append, ByteArray.size_append, hex4_size, show (⟨#[44]⟩ : ByteArray).size = 1 from rfl]
 omega
theorem headed_04 (n : Int) (t : ByteArray) : (hex4 n ++ (⟨#[44]⟩ : ByteArray) ++ t).extract 0 4 = hex4 n := by
 apply data_ext
 rw [Lib.extract_data, headed_data]
 rfl
theorem headed_rest (n : Int) (t : ByteArray) : (hex4 n ++ (⟨#[44]⟩ : ByteArray) ++ t).extract 5 (hex4 n ++ (⟨#[44]⟩ : ByteArray) ++ t).size = t := by
 apply data_ext
 rw [Lib.extract_data, headed_data, headed_size]
 exact List.take_of_length_le (by simp)
theorem headed_bt (n : Int) (t : ByteArray) : bt (hex4 n ++ (⟨#[44]⟩ : ByteArray) ++ t) 4 = 44 := by
 have hz := headed_size n t
 have h4 : 4 < (hex4 n ++ (⟨#[44]⟩ : ByteArray) ++ t).size := by omega
 rw [bt4 _ h4]
 have hl : 4 < (hex4 n ++ (⟨#[44]⟩ : ByteArray) ++ t).data.toList.length := by rw [slen]; exact h4
 have e : (hex4 n ++ (⟨#[44]⟩ : ByteArray) ++ t)[4] = (hex4 n ++ (⟨#[44]⟩ : ByteArray) ++ t).data.toList[4] := rfl
 have e2 : (hex4 n ++ (⟨#[44]⟩ : ByteArray) ++ t).data.toList[4]? = some 44 := by rw [headed_data]; rfl
 rw [List.getElem?_eq_getElem hl] at e2
 rw [e, Option.some.inj e2]
 rfl
theorem cut_any (n : Int) (h0 : 0 ≤ n) (h1 : n < 65536) (t : ByteArray) (ht : t.size ≤ 65530) : cutR (hex4 n ++ (⟨#[44]⟩ : ByteArray) ++ t) = if n = sumL 0 t.data.toList then (t, 0) else (⟨#[]⟩, 4) := by
 have hz := headed_size n t
 unfold cutR
 rw [if_neg (by omega), if_neg (by omega), headed_bt, if_neg (by simp), headed_04, unhex_hex4 n h0 h1]
 simp only
 rw [headed_rest]
theorem cut_put (s : ByteArray) (hs : s.size ≤ 65530) : cutR (putS s) = (s, 0) := by
 have hr := sumL_range s.data.toList 0 (by omega) (by omega)
 unfold putS
 rw [cut_any _ hr.1 hr.2 s hs, if_pos rfl]
theorem cutR_zero (s : ByteArray) (h : (cutR s).2 = 0) : putS (cutR s).1 = s ∧ (cutR s).1.size ≤ s.size := by
 unfold cutR at h ⊢
 by_cases h1 : 65535 < s.size
 ·rw [if_pos h1] at h; exact absurd h (by decide)
 ·rw [if_neg h1] at h ⊢
  by_cases h2 : s.size < 5
  ·rw [if_pos h2] at h; exact absurd h (by decide)
  ·rw [if_neg h2] at h ⊢
   by_cases h3 : ¬ bt s 4 = 44
   ·rw [if_pos h3] at h; exact absurd h (by decide)
   ·rw [if_neg h3] at h ⊢
    have h3' : bt s 4 = 44 := Decidable.not_not.1 h3
    rcases hu : unhexS (s.extract 0 4) with _ | c
    ·rw [hu] at h; exact absurd (show (2 : Int) = 0 from h) (by decide)
    ·rw [hu] at h
     simp only at h ⊢
     by_cases he : c = sumL 0 (s.extract 5 s.size).data.toList
     ·rw [if_pos he]
      simp only
      refine ⟨?_, by simp⟩
      unfold putS
      rw [← he, hex4_unhex hu]
      apply data_ext
      rw [ByteArray.data_append, ByteArray.data_append, Array.toList_append, Array.toList_append, Lib.extract_data, Lib.extract_data, List.drop_zero]
      have h4 : 4 < s.size := by omega
      rw [bt4 s h4] at h3'
      have e44 : s.data.toList.drop 4 = 44 :: s.data.toList.drop 5 := by
       rw [sdrop s 4 h4]
       congr 1
       exact UInt8.toNat_inj.1 (by show (s[4]'h4).toNat = 44; omega)
      have e5 : (s.data.toList.drop 5).take (s.size - 5) = s.data.toList.drop 5 := List.take_of_length_le (by rw [List.length_drop, slen]; omega)
      rw [e5]
      conv => rhs; rw [← List.take_append_drop 4 s.data.toList, e44]
      simp
     ·rw [if_neg he] at h; exact absurd h (by decide)
end Go.Proofs.YtkobpbbegalfpaaGreatDoor
namespace Go.Proofs.YtkobpbbegalfpaaGreatDoor
open Go.RowKit YtkobpbbegalfpaaGreatDoorW.PrintWords YtkobpbbegalfpaaGreatDoorW.PrintLast YtkobpbbegalfpaaGreatDoorW.PrintMore PParseBodies
set_option linter.unusedVariables false
set_option linter.unusedSimpArgs false
set_option maxRecDepth 100000
def errR : Except (Int × Int) SC → Option (Int × Int)
 | .error q => some q
 | .ok _ => none
structure TreeAt (W : World) (b : Nat) (x : SC) (A : Option Addr) (c : Nat) : Prop where
 box : W.heap[b]? = some (.cells #[.int .u8 x.f0, .int .i64 x.f1.f0, .int .i64 x.f1.f1, .int .i64 x.f1.f2, .int .i64 x.f1.f3, .int .i64 x.f2, .slice A x.f3.length c] 27 (0, 0))
 row : (k27).C W A x.f3.length x.f3
 cap : x.f3.length ≤ c
theorem TreeAt.below {W W' : World} {b : Nat} {x : SC} {A : Option Addr} {c : Nat} (h : TreeAt W b x A c) (hb : Below W.heap.size W W') : TreeAt W' b x A c :=
 ⟨(hb.block b (blk_lt h.box)).trans h.box, Kd.C_below h.row hb, h.cap⟩
theorem tree_cells {W : World} {b : Nat} {x : SC} {A : Option Addr} {c : Nat} (h : TreeAt W b x A c) :
  W.cell? ⟨b, 0, none⟩ = some (.int .u8 x.f0) ∧ W.cell? ⟨b, 1, none⟩ = some (.int .i64 x.f1.f0) ∧ W.cell? ⟨b, 2, none⟩ = some (.int .i64 x.f1.f1) ∧ W.cell? ⟨b, 3, none⟩ = some (.int .i64 x.f1.f2) ∧ W.cell? ⟨b, 4, none⟩ = some (.int .i64 x.f1.f3) ∧ W.cell? ⟨b, 5, none⟩ = some (.int .i64 x.f2) ∧ W.cell? ⟨b, 6, none⟩ = some (.slice A x.f3.length c) :=
 ⟨(blk_cell h.box 0).trans rfl, (blk_cell h.box 1).trans rfl, (blk_cell h.box 2).trans rfl, (blk_cell h.box 3).trans rfl, (blk_cell h.box 4).trans rfl, (blk_cell h.box 5).trans rfl, (blk_cell h.box 6).trans rfl⟩
theorem tree_new {w : World} {base : Nat} {x : SC} {A : Option Addr} {c : Nat} (h : Kd.R k27 27 w base (fun _ => True) (.slice A x.f3.length c) x.f3) :
  TreeAt (w.alloc (.cells #[.int .u8 x.f0, .int .i64 x.f1.f0, .int .i64 x.f1.f1, .int .i64 x.f1.f2, .int .i64 x.f1.f3, .int .i64 x.f2, .slice A x.f3.length c] 27)) w.heap.size x A c := by
 obtain ⟨A', c', he, hl, hr⟩ := Kd.R_reads h
 injection he with e1 e2 e3
 subst e1; subst e3
 exact ⟨heap_alloc_new w _, Kd.C_below hr (below_alloc (Below.refl _ _) _), hl⟩
def UniPost (w : World) (R : Except (Int × Int) SC) (e : Ending) (w' : World) : Prop :=
 ∃ A c ev, e = .returned (.tuple #[.agg #[.int .u8 (treeR R).f0, .int .i64 (treeR R).f1.f0, .int .i64 (treeR R).f1.f1, .int .i64 (treeR R).f1.f2, .int .i64 (treeR R).f1.f3, .int .i64 (treeR R).f2, .slice A (treeR R).f3.length c], ev]) ∧ Kd.R k27 27 w' w.heap.size (fun _ => True) (.slice A (treeR R).f3.length c) (treeR R).f3 ∧ ErrIs w' ev (errR R) ∧ Below w.heap.size w w'
theorem uni_of {w w' : World} {R : Except (Int × Int) SC} {e : Ending} (h : ReadPost w e w' R) : UniPost w R e w' := by
 cases R with
 | error q =>
  obtain ⟨g', g, rfl, hin, hg, hb⟩ := h
  exact ⟨none, 0, _, rfl, Kd.R_nil _ _ _ _ _, ⟨_, _, rfl, inside_ev hin hg⟩, hb⟩
 | ok x =>
  obtain ⟨v, rfl, hR, hb⟩ := h
  obtain ⟨A, c, rfl⟩ := Kd.R_slice hR
  exact ⟨A, c, _, rfl, hR, rfl, hb⟩
theorem text_uni (w : World) (s : ByteArray) (hs : s.size ≤ 1000000) (hT : NumT w) (hE : NumE w) : Calls Tryz.prog 11 #[.string s] w (UniPost w (textA s)) := (textA_calls w s hs hT hE).mono fun e w' h => uni_of h
theorem ErrIs.below {W W' : World} {ev : Value} {o : Option (Int × Int)} (h : ErrIs W ev o) (hb : Below W.heap.size W W') : ErrIs W' ev o := by
 cases o with
 | none => exact h
 | some q => obtain ⟨t, p, rfl, he⟩ := h; exact ⟨t, p, rfl, As.EV_keep hb he⟩
theorem wholeA_small {s : ByteArray} {off : Int} (hs : s.size ≤ 700000) : (cells (treeR (wholeA s off))).length ≤ 100000 := by
 cases h : wholeA s off with
 | error q => show (cells zC).length ≤ 100000; rw [show zC = ⟨0, ⟨0, 0, 0, 0⟩, 0, []⟩ from rfl, cells_mk, cellsL_nil]; decide
 | ok x =>
  unfold wholeA wholeP at h
  cases hr : cellR s with
  | error p => rw [hr] at h; cases h
  | ok p =>
   have hz := cellR_size hr
   rw [hr] at h
   simp only at h
   split at h
   ·cases h
   ·split at h
    ·cases h
    ·split at h
     ·cases h
     ·cases h
      show (cells p.1).length ≤ 100000
      omega
theorem textA_small {s : ByteArray} : (cells (treeR (textA s))).length ≤ 100000 := by
 have := cutR_size s
 unfold textA
 split
 ·exact wholeA_small (by omega)
 ·show (cells zC).length ≤ 100000; rw [show zC = ⟨0, ⟨0, 0, 0, 0⟩, 0, []⟩ from rfl, cells_mk, cellsL_nil]; decide
def digL (n : Int) : List UInt8 := (digS n).data.toList
def headB (r : SR) : List UInt8 := digL r.f2 ++ [120] ++ digL r.f3 ++ [44] ++ digL r.f0 ++ [44] ++ digL r.f1
def opn (k : Int) : UInt8 := if k = 2 then 123 else 91
def cls (k : Int) : UInt8 := if k = 2 then 125 else 93
mutual
def bodyL : SC → List UInt8
 | ⟨k, r, i, kids⟩ => headB r ++ (if k = 1 then [44] ++ digL i else [opn k] ++ kidsL true kids ++ [cls k])
def kidsL : Bool → List SC → List UInt8
 | _, [] => []
 | first, c :: l => (if first = true then [] else [44]) ++ bodyL c ++ kidsL false l
end
theorem bodyL_eq (c : SC) : bodyL c = headB c.f1 ++ (if c.f0 = 1 then [44] ++ digL c.f2 else [opn c.f0] ++ kidsL true c.f3 ++ [cls c.f0]) := by cases c; simp [bodyL]
theorem kidsL_nil (f : Bool) : kidsL f [] = [] := by simp [kidsL]
theorem kidsL_cons (f : Bool) (c : SC) (l : List SC) : kidsL f (c :: l) = (if f = true then [] else [44]) ++ bodyL c ++ kidsL false l := by simp [kidsL]
def sepK (j : Nat) : List UInt8 := if j = 0 then [] else [44]
theorem kidsL_app (a b : List SC) : ∀ f, kidsL f (a ++ b) = kidsL f a ++ kidsL (f && a.isEmpty) b := by
 induction a with
 | nil => intro f; simp [kidsL_nil]
 | cons c a ih => intro f; rw [List.cons_append, kidsL_cons, kidsL_cons, ih]; simp
theorem kidsL_split (l : List SC) (j : Nat) (hj : j < l.length) : kidsL true l = kidsL true (l.take j) ++ sepK j ++ bodyL (l.getD j z27) ++ kidsL false (l.drop (j + 1)) := by
 have h : l = l.take j ++ l.getD j z27 :: l.drop (j + 1) := by
  rw [List.getD_eq_getElem?_getD, List.getElem?_eq_getElem hj]
  show l = l.take j ++ l[j] :: l.drop (j + 1)
  rw [← List.drop_eq_getElem_cons hj, List.take_append_drop]
 conv => lhs; rw [h]
 rw [kidsL_app, kidsL_cons]
 by_cases h0 : j = 0
 ·subst h0; simp [sepK]
 ·have : (l.take j).isEmpty = false := by
   cases l with
   | nil => simp at hj
   | cons x l => cases j with
    | zero => exact absurd rfl h0
    | succ j => simp
  simp [sepK, h0, this]
theorem kidsL_take (l : List SC) (j : Nat) (hj : j < l.length) : kidsL true (l.take (j + 1)) = kidsL true (l.take j) ++ sepK j ++ bodyL (l.getD j z27) := by
 have h := kidsL_split (l.take (j + 1)) j (by rw [List.length_take]; omega)
 rw [h, List.take_take, Nat.min_eq_left (by omega), List.drop_eq_nil_of_le (by rw [List.length_take]; omega), kidsL_nil, List.append_nil]
 congr 2
 rw [List.getD_eq_getElem?_getD, List.getD_eq_getElem?_getD, List.getElem?_take, if_pos (by omega)]
theorem digL_len (n : Int) : (digL n).length ≤ 21 := by
 have := digS_size n
 unfold digL
 simpa using this
theorem headB_len (r : SR) : (headB r).length ≤ 87 := by
 have h0 := digL_len r.f0; have h1 := digL_len r.f1; have h2 := digL_len r.f2; have h3 := digL_len r.f3
 unfold headB
 simp only [List.length_append, List.length_singleton]
 omega
theorem body_len (c : SC) : (bodyL c).length + 1 ≤ 111 * (cells c).length := by
 refine cell_ind (P := fun c => (bodyL c).length + 1 ≤ 111 * (cells c).length) (fun c ih => ?_) c
 have hk : ∀ (l : List SC) (f : Bool), (∀ k ∈ l, (bodyL k).length + 1 ≤ 111 * (cells k).length) → (kidsL f l).length ≤ 111 * (cellsL l).length := by
  intro l
  induction l with
  | nil => intro f _; simp [kidsL_nil]
  | cons k l ihl =>
   intro f h
   have h1 := h k List.mem_cons_self
   have h2 := ihl false (fun x hx => h x (List.mem_cons_of_mem _ hx))
   rw [kidsL_cons, cellsL_cons]
   simp only [List.length_append]
   have : (if f = true then ([] : List UInt8) else [44]).length ≤ 1 := by cases f <;> simp
   omega
 have h1 := hk c.f3 true ih
 have h2 := headB_len c.f1
 have h3 := digL_len c.f2
 rw [bodyL_eq, cells_eq]
 split
 ·simp only [List.length_append, List.length_singleton, List.length_cons, List.length_nil]; omega
 ·simp only [List.length_append, List.length_singleton, List.length_cons, List.length_nil]; omega
end Go.Proofs.YtkobpbbegalfpaaGreatDoor
