/-
  Joined texts: TiRef, TiRef2, PsRWh, PsRBo, PsRB.
-/
import Derived.Test.YtkobpbbegalfpaaGreatDoorTiMay2
import Derived.Test.YtkobpbbegalfpaaGreatDoorPsTop
import Derived.Test.YtkobpbbegalfpaaGreatDoorPParseBodiesx10
import Derived.Test.YtkobpbbegalfpaaGreatDoorPsBase
namespace Go.Proofs.YtkobpbbegalfpaaGreatDoor
open Go.RowKit YtkobpbbegalfpaaGreatDoorW.PrintWords YtkobpbbegalfpaaGreatDoorW.PrintLast YtkobpbbegalfpaaGreatDoorW.PrintMore PParseBodies
set_option linter.unusedVariables false
set_option linter.unusedSimpArgs false
theorem rd_T_getD (l : List SC) (i : Nat) : rd_T27 l (i : Int) = l.getD i z27 := by simp [rd_T27]
theorem rd_R_getD (l : List SR) (i : Nat) : rd_T24 l (i : Int) = l.getD i z24 := by simp [rd_T24]
theorem dropT (l : List SC) (i : Nat) (h : i < l.length) : l.drop i = l.getD i z27 :: l.drop (i + 1) := by
 rw [List.drop_eq_getElem_cons h, List.getD_eq_getElem?_getD, List.getElem?_eq_getElem h]; rfl
theorem takeT (l : List SC) (i : Nat) (h : i < l.length) : l.take (i + 1) = l.take i ++ [l.getD i z27] := by
 rw [List.take_add_one, List.getElem?_eq_getElem h, List.getD_eq_getElem?_getD, List.getElem?_eq_getElem h]; rfl
theorem getT_mem (l : List SC) (i : Nat) (h : i < l.length) : l.getD i z27 ∈ l := by
 rw [List.getD_eq_getElem?_getD, List.getElem?_eq_getElem h]; exact List.getElem_mem _
theorem SC.eta (c : SC) : (⟨c.f0, ⟨c.f1.f0, c.f1.f1, c.f1.f2, c.f1.f3⟩, c.f2, c.f3⟩ : SC) = c := by cases c; rfl
theorem wi (i : Nat) (h : i < 1000000000) : wrap64 ((i : Int) + 1) = ((i + 1 : Nat) : Int) := by
 have e : ((i + 1 : Nat) : Int) = (i : Int) + 1 := rfl
 rw [e]; exact w64s (by omega) (by omega)
theorem ref04_May_eq (r : SR) : sashref04_May.f r.f0 r.f1 r.f2 r.f3 = some (rectOk r) := by
 have h0 : rectOk r = true ↔ _ := rectOk_iff r
 unfold sashref04_May.f
 by_cases a : r.f0 < 0
 ·rw [if_pos a]; congr 1; symm; rw [Bool.eq_false_iff]; intro h; have := h0.1 h; omega
 ·rw [if_neg a]
  by_cases b : r.f0 > 10000
  ·rw [if_pos b]; congr 1; symm; rw [Bool.eq_false_iff]; intro h; have := h0.1 h; omega
  ·rw [if_neg b]
   by_cases c : r.f1 < 0
   ·rw [if_pos c]; congr 1; symm; rw [Bool.eq_false_iff]; intro h; have := h0.1 h; omega
   ·rw [if_neg c]
    by_cases d : r.f1 > 10000
    ·rw [if_pos d]; congr 1; symm; rw [Bool.eq_false_iff]; intro h; have := h0.1 h; omega
    ·rw [if_neg d]
     by_cases e : r.f2 > 0
     ·rw [if_pos e]
      by_cases f : r.f2 ≤ 10000
      ·rw [if_pos f]
       by_cases g : r.f3 > 0
       ·rw [if_pos g]
        by_cases h : r.f3 ≤ 10000
        ·rw [if_pos h, w64s (by omega) (by omega), w64s (by omega) (by omega)]
         by_cases i : r.f0 + r.f2 ≤ 10000
         ·rw [if_pos i]
          congr 1
          rw [Bool.eq_iff_iff, h0, decide_eq_true_iff]
          omega
         ·rw [if_neg i]; congr 1; symm; rw [Bool.eq_false_iff]; intro h; have := h0.1 h; omega
        ·rw [if_neg h]; congr 1; symm; rw [Bool.eq_false_iff]; intro h; have := h0.1 h; omega
       ·rw [if_neg g]; congr 1; symm; rw [Bool.eq_false_iff]; intro h; have := h0.1 h; omega
      ·rw [if_neg f]; congr 1; symm; rw [Bool.eq_false_iff]; intro h; have := h0.1 h; omega
     ·rw [if_neg e]; congr 1; symm; rw [Bool.eq_false_iff]; intro h; have := h0.1 h; omega
def AllF (k : Nat) (c : SC) : Option (List SC) := sashref05_All.f k c.f0 c.f1.f0 c.f1.f1 c.f1.f2 c.f1.f3 c.f2 c.f3
theorem cellsL_split (l : List SC) (i : Nat) (h : i < l.length) : cellsL (l.take (i + 1)) = cellsL (l.take i) ++ cells (l.getD i z27) := by
 rw [takeT l i h, cellsL_flat, cellsL_flat, List.flatMap_append]; simp
theorem cellsL_drop (l : List SC) (i : Nat) (h : i < l.length) : (cellsL (l.drop i)).length = (cells (l.getD i z27)).length + (cellsL (l.drop (i + 1))).length := by
 rw [dropT l i h, cellsL_cons, List.length_append]
theorem cellsL_td (l : List SC) (i : Nat) : (cellsL (l.take i)).length + (cellsL (l.drop i)).length = (cellsL l).length := by
 conv => rhs; rw [← List.take_append_drop i l]
 rw [cellsL_flat, cellsL_flat, cellsL_flat, List.flatMap_append, List.length_append]
theorem All_f (c : SC) : (cells c).length ≤ 100000 → ∀ k, 2 * (cells c).length < k → AllF k c = some (cells c) := by
 refine cell_ind (P := fun c => (cells c).length ≤ 100000 → ∀ k, 2 * (cells c).length < k → AllF k c = some (cells c)) (fun c ih hs k hk => ?_) c
 have hcl : (cells c).length = 1 + (cellsL c.f3).length := by rw [cells_eq]; simp; omega
 have hge := cellsL_ge c.f3
 obtain ⟨k, rfl⟩ : ∃ m, k = m + 1 := ⟨k - 1, by omega⟩
 have loop : ∀ (d k i : Nat), c.f3.length - i = d → i ≤ c.f3.length → 2 * (cellsL (c.f3.drop i)).length + 1 < k →
   sashref05_All.l0 k ([c] ++ cellsL (c.f3.take i)) (c.f3.length : Int) (i : Int) c.f0 c.f1.f0 c.f1.f1 c.f1.f2 c.f1.f3 c.f2 c.f3 = some (cells c) := by
  intro d
  induction d with
  | zero =>
   intro k i hd hi hk
   obtain ⟨k, rfl⟩ : ∃ m, k = m + 1 := ⟨k - 1, by omega⟩
   simp only [sashref05_All.l0]
   rw [if_neg (by omega), List.take_of_length_le (by omega), cells_eq]
   rfl
  | succ d ihd =>
   intro k i hd hi hk
   obtain ⟨k, rfl⟩ : ∃ m, k = m + 1 := ⟨k - 1, by omega⟩
   have hlt : i < c.f3.length := by omega
   have h1 := cellsL_drop c.f3 i hlt
   have h2 := cells_pos (c.f3.getD i z27)
   have h3 := cellsL_td c.f3 i
   have hk2 := kid_le _ c.f3 (getT_mem c.f3 i hlt)
   have hk1 := ih _ (getT_mem c.f3 i hlt) (by omega) k (by omega)
   unfold AllF at hk1
   simp only [sashref05_All.l0]
   rw [if_pos (by omega), if_pos (by omega), if_pos (by omega), rd_T_getD, hk1]
   simp only [Option.bind_some]
   rw [if_pos (by rw [List.length_append]; simp only [List.length_cons, List.length_nil]; omega), wi i (by omega), List.append_assoc, ← cellsL_split c.f3 i hlt]
   exact ihd k (i + 1) (by omega) (by omega) (by omega)
 unfold AllF
 simp only [sashref05_All.f]
 rw [SC.eta]
 have := loop c.f3.length k 0 (by omega) (by omega) (by rw [List.drop_zero]; omega)
 simpa [cellsL_nil] using this
theorem filter_dropT (p : SC → Bool) (l : List SC) (i : Nat) (h : i < l.length) : (l.drop i).filter p = (if p (l.getD i z27) = true then [l.getD i z27] else []) ++ (l.drop (i + 1)).filter p := by
 rw [dropT l i h, List.filter_cons]
 split <;> simp
theorem Leaves_l0 (l : List SC) (hl : l.length ≤ 100000) : ∀ (d k i : Nat) (acc : List SC), l.length - i = d → i ≤ l.length → d < k → acc.length ≤ i →
  sashref05_Leaves.l0 k acc l (l.length : Int) (i : Int) = some (acc ++ (l.drop i).filter (fun x => decide (x.f0 = 1))) := by
 intro d
 induction d with
 | zero =>
  intro k i acc hd hi hk ha
  obtain ⟨k, rfl⟩ : ∃ m, k = m + 1 := ⟨k - 1, by omega⟩
  simp only [sashref05_Leaves.l0]
  rw [if_neg (by omega), List.drop_eq_nil_of_le (by omega)]; simp
 | succ d ih =>
  intro k i acc hd hi hk ha
  obtain ⟨k, rfl⟩ : ∃ m, k = m + 1 := ⟨k - 1, by omega⟩
  have hlt : i < l.length := by omega
  simp only [sashref05_Leaves.l0]
  rw [if_pos (by omega), if_pos (by omega), if_pos (by omega), rd_T_getD, filter_dropT _ l i hlt, wi i (by omega)]
  by_cases h : (l.getD i z27).f0 = 1
  ·rw [if_pos h, if_pos (by omega), if_pos (by simpa using h), SC.eta, ih k (i + 1) _ (by omega) (by omega) (by omega) (by rw [List.length_append]; simp only [List.length_cons, List.length_nil]; omega)]
   simp
  ·rw [if_neg h, if_neg (by simpa using h), ih k (i + 1) _ (by omega) (by omega) (by omega) (by omega)]
   simp
theorem Leaves_f (c : SC) (hl : (cells c).length ≤ 100000) (k : Nat) (hk : 2 * (cells c).length < k) : sashref05_Leaves.f k c.f0 c.f1.f0 c.f1.f1 c.f1.f2 c.f1.f3 c.f2 c.f3 = some (leavesOf c) := by
 have h := All_f c hl k hk
 unfold AllF at h
 unfold sashref05_Leaves.f
 rw [h]
 simp only [Option.bind_some]
 have := Leaves_l0 (cells c) hl (cells c).length k 0 [] (by omega) (by omega) (by omega) (by simp)
 simpa [leavesOf] using this
def ndL (pre : List Int) : List Int → Bool
 | [] => true
 | x :: r => !(pre.contains x) && ndL (pre ++ [x]) r
theorem ndL_iff : ∀ (l pre : List Int), ndL pre l = true ↔ l.Nodup ∧ ∀ x ∈ l, x ∉ pre := by
 intro l
 induction l with
 | nil => intro pre; simp [ndL]
 | cons x r ih =>
  intro pre
  simp only [ndL, Bool.and_eq_true, ih, Bool.not_eq_true', List.nodup_cons]
  constructor
  ·rintro ⟨h1, h2, h3⟩
   have hx : x ∉ pre := by intro h; rw [List.contains_iff_mem.2 h] at h1; cases h1
   refine ⟨⟨fun h => h3 x h (by simp), h2⟩, fun y hy => ?_⟩
   rcases List.mem_cons.1 hy with rfl | hy
   ·exact hx
   ·exact fun h => h3 y hy (by simp [h])
  ·rintro ⟨⟨h1, h2⟩, h3⟩
   refine ⟨?_, h2, fun y hy h => ?_⟩
   ·rw [Bool.eq_false_iff]; intro h; exact h3 x (by simp) (List.contains_iff_mem.1 h)
   ·rcases List.mem_append.1 h with h | h
    ·exact h3 y (by simp [hy]) h
    ·obtain rfl : y = x := by simpa using h
     exact h1 hy
theorem ids_drop (l : List SC) (i : Nat) (h : i < l.length) : (l.map (·.f2)).drop i = (l.getD i z27).f2 :: (l.map (·.f2)).drop (i + 1) := by
 rw [← List.map_drop, dropT l i h, List.map_cons, List.map_drop]
theorem ids_take (l : List SC) (i : Nat) (h : i < l.length) : (l.map (·.f2)).take (i + 1) = (l.map (·.f2)).take i ++ [(l.getD i z27).f2] := by
 rw [← List.map_take, takeT l i h, List.map_append, List.map_take]; rfl
theorem May_l2 (t : List SC) (ht : t.length ≤ 10000) (i : Nat) (hi : i < t.length) : ∀ (d k j : Nat), i - j = d → j ≤ i → d < k → ∃ k', k - d - 1 ≤ k' ∧
  sashref05_May.l2 k t (i : Int) (j : Int) (t.length : Int) (i : Int) = if (((t.map (·.f2)).take i).drop j).contains (t.getD i z27).f2 = true then some false else sashref05_May.l1 k' t (t.length : Int) ((i + 1 : Nat) : Int) := by
 intro d
 induction d with
 | zero =>
  intro k j hd hj hk
  obtain ⟨k, rfl⟩ : ∃ m, k = m + 1 := ⟨k - 1, by omega⟩
  refine ⟨k, by omega, ?_⟩
  simp only [sashref05_May.l2]
  rw [if_neg (by omega), wi i (by omega), List.drop_eq_nil_of_le (by rw [List.length_take]; omega), if_neg (by simp)]
 | succ d ih =>
  intro k j hd hj hk
  obtain ⟨k, rfl⟩ : ∃ m, k = m + 1 := ⟨k - 1, by omega⟩
  obtain ⟨k', hk', hh⟩ := ih k (j + 1) (by omega) (by omega) (by omega)
  refine ⟨k', by omega, ?_⟩
  simp only [sashref05_May.l2]
  rw [if_pos (by omega), if_pos (by omega), if_pos (by omega), if_pos (by omega), if_pos (by omega), rd_T_getD, rd_T_getD, wi j (by omega), hh]
  have hjl : j < ((t.map (·.f2)).take i).length := by rw [List.length_take, List.length_map]; omega
  have e : ((t.map (·.f2)).take i).drop j = (t.getD j z27).f2 :: ((t.map (·.f2)).take i).drop (j + 1) := by
   rw [List.drop_eq_getElem_cons hjl]
   congr 1
   rw [List.getElem_take, List.getElem_map, List.getD_eq_getElem?_getD, List.getElem?_eq_getElem (by omega)]
   rfl
  rw [e]
  by_cases h : (t.getD i z27).f2 = (t.getD j z27).f2
  ·rw [if_pos h, h, if_pos (by simp)]
  ·rw [if_neg h]
   have : ((t.getD j z27).f2 :: ((t.map (·.f2)).take i).drop (j + 1)).contains (t.getD i z27).f2 = (((t.map (·.f2)).take i).drop (j + 1)).contains (t.getD i z27).f2 := by
    rw [List.contains_cons]
    have : ((t.getD i z27).f2 == (t.getD j z27).f2) = false := beq_eq_false_iff_ne.2 h
    rw [this, Bool.false_or]
   rw [this]
theorem May_l1 (t : List SC) (ht : t.length ≤ 10000) (B : Nat) (hB : 10002 ≤ B) : ∀ (d k i : Nat), t.length - i = d → i ≤ t.length → d * B < k → sashref05_May.l1 k t (t.length : Int) (i : Int) = some (ndL ((t.map (·.f2)).take i) ((t.map (·.f2)).drop i)) := by
 intro d
 induction d with
 | zero =>
  intro k i hd hi hk
  obtain ⟨k, rfl⟩ : ∃ m, k = m + 1 := ⟨k - 1, by omega⟩
  simp only [sashref05_May.l1]
  rw [if_neg (by omega), List.drop_eq_nil_of_le (by rw [List.length_map]; omega)]
  rfl
 | succ d ih =>
  intro k i hd hi hk
  obtain ⟨k, rfl⟩ : ∃ m, k = m + 1 := ⟨k - 1, by omega⟩
  have hk2 : d * B + B < k + 1 := by rwa [Nat.succ_mul] at hk
  obtain ⟨k', hk', hh⟩ := May_l2 t ht i (by omega) i k 0 (by omega) (by omega) (by omega)
  have hkk : d * B < k' := by omega
  have hih := ih k' (i + 1) (by omega) (by omega) hkk
  simp only [sashref05_May.l1]
  have hz : ((0 : Nat) : Int) = 0 := rfl
  rw [hz] at hh
  rw [if_pos (by omega), hh, List.drop_zero, ids_drop t i (by omega), hih, ids_take t i (by omega)]
  simp only [ndL]
  cases ((t.map (·.f2)).take i).contains (t.getD i z27).f2 <;> simp
theorem May_step (l : List SC) (i : Nat) (hi : i < l.length) (hl : l.length ≤ 100000) (k : Nat) (c : SC) :
  sashref05_May.l0 (k + 2) l (l.length : Int) (i : Int) c.f0 c.f1.f0 c.f1.f1 c.f1.f2 c.f1.f3 c.f2 c.f3 =
   if (rectOk (l.getD i z27).f1 && nodeOk (l.getD i z27)) = true then sashref05_May.l0 k l (l.length : Int) ((i + 1 : Nat) : Int) c.f0 c.f1.f0 c.f1.f1 c.f1.f2 c.f1.f3 c.f2 c.f3 else some false := by
 conv => lhs; simp only [sashref05_May.l0, sashref05_May.j1]
 rw [if_pos (by omega), if_pos (by omega), if_pos (by omega), rd_T_getD, ref04_May_eq]
 simp only [Option.bind_some]
 rw [wi i (by omega), nodeOk_B]
 have hp : 0 ≤ (i : Int) := by omega
 have hq : (i : Int) < (l.length : Int) := by omega
 simp only [if_pos hp, if_pos hq]
 generalize l.getD i z27 = x
 cases hr : rectOk x.f1 with
 | false => simp
 | true =>
  simp only [if_true, Bool.true_and]
  by_cases h1 : x.f0 < 1
  ·rw [if_pos h1]
   have : nodeB x.f0 x.f2 x.f3.length = false := by unfold nodeB; rw [if_neg (by omega), if_neg (by omega)]
   rw [this]; simp
  ·rw [if_neg h1]
   by_cases h3 : x.f0 > 3
   ·have : nodeB x.f0 x.f2 x.f3.length = false := by unfold nodeB; rw [if_neg (by omega), if_neg (by omega)]
    rw [this, decide_eq_true h3]; simp
   ·rw [decide_eq_false h3]
    simp only [Bool.false_eq_true, if_false]
    unfold nodeB
    by_cases hk : x.f0 = 1
    ·rw [if_pos hk, if_pos hk]
     by_cases a : (x.f3.length : Int) > 0
     ·rw [if_pos a]
      have : ¬ x.f3.length = 0 := by omega
      simp [this]
     ·rw [if_neg a]
      have e : x.f3.length = 0 := by omega
      by_cases b : x.f2 < 0
      ·rw [if_pos b]; simp; omega
      ·rw [if_neg b]
       by_cases d : x.f2 > 2147483647
       ·rw [if_pos d]; simp; omega
       ·rw [if_neg d, if_neg (by omega)]
        have : (decide (x.f3.length = 0) && decide (0 ≤ x.f2 ∧ x.f2 ≤ 2147483647)) = true := by simp [e]; omega
        rw [if_pos this]
    ·rw [if_neg hk, if_neg hk, if_pos (show x.f0 > 1 by omega), if_pos (show x.f0 = 2 ∨ x.f0 = 3 by omega)]
     by_cases a : (x.f3.length : Int) < 2
     ·rw [if_pos a]
      have : ¬ 2 ≤ x.f3.length := by omega
      simp [this]
     ·rw [if_neg a]
      by_cases b : x.f2 = 0
      ·rw [if_pos b]
       have : decide (2 ≤ x.f3.length ∧ x.f2 = 0) = true := decide_eq_true ⟨by omega, b⟩
       rw [if_pos this]
      ·rw [if_neg b]; simp [b]
theorem May_l0 (l : List SC) (hl : l.length ≤ 100000) (c : SC) : ∀ (d k i : Nat), l.length - i = d → i ≤ l.length → 2 * d < k → ∃ k', k - 2 * d - 1 ≤ k' ∧
  sashref05_May.l0 k l (l.length : Int) (i : Int) c.f0 c.f1.f0 c.f1.f1 c.f1.f2 c.f1.f3 c.f2 c.f3 = if (l.drop i).all (fun x => rectOk x.f1 && nodeOk x) = true then ((sashref05_Leaves.f k' c.f0 c.f1.f0 c.f1.f1 c.f1.f2 c.f1.f3 c.f2 c.f3).bind fun t229 => (sashref05_May.l1 k' t229 (t229.length : Int) 0)) else some false := by
 intro d
 induction d with
 | zero =>
  intro k i hd hi hk
  obtain ⟨k, rfl⟩ : ∃ m, k = m + 1 := ⟨k - 1, by omega⟩
  refine ⟨k, by omega, ?_⟩
  simp only [sashref05_May.l0]
  rw [if_neg (by omega), List.drop_eq_nil_of_le (by omega)]
  simp
 | succ d ih =>
  intro k i hd hi hk
  obtain ⟨k, rfl⟩ : ∃ m, k = m + 2 := ⟨k - 2, by omega⟩
  obtain ⟨k', hk', hh⟩ := ih k (i + 1) (by omega) (by omega) (by omega)
  refine ⟨k', by omega, ?_⟩
  rw [May_step l i (by omega) hl, hh, dropT l i (by omega), List.all_cons]
  cases (rectOk (l.getD i z27).f1 && nodeOk (l.getD i z27)) <;> simp
theorem May_f (c : SC) (hl : (cells c).length ≤ 10000) (k : Nat) (hk : 200000000 < k) : sashref05_May.f k c.f0 c.f1.f0 c.f1.f1 c.f1.f2 c.f1.f3 c.f2 c.f3 = some (mayB c) := by
 have h := All_f c (by omega) k (by omega)
 unfold AllF at h
 unfold sashref05_May.f
 rw [h]
 simp only [Option.bind_some]
 rw [if_neg (by omega)]
 obtain ⟨k', hk', hh⟩ := May_l0 (cells c) (by omega) c (cells c).length k 0 (by omega) (by omega) (by omega)
 have hz : ((0 : Nat) : Int) = 0 := rfl
 rw [hz, List.drop_zero] at hh
 rw [hh]
 have hlv : (leavesOf c).length ≤ 10000 := Nat.le_trans (List.length_filter_le _ _) hl
 by_cases ha : (cells c).all (fun x => rectOk x.f1 && nodeOk x) = true
 ·rw [if_pos ha, Leaves_f c (by omega) k' (by omega)]
  simp only [Option.bind_some]
  have hl1 := May_l1 (leavesOf c) hlv 10010 (by decide) (leavesOf c).length k' 0 (by omega) (by omega) (by omega)
  rw [hz, List.take_zero, List.drop_zero] at hl1
  rw [hl1]
  congr 1
  rw [Bool.eq_iff_iff, ndL_iff, may_iff]
  have e : (leavesOf c).map (·.f2) = leafIds (cells c) := rfl
  rw [e]
  constructor
  ·rintro ⟨h1, _⟩
   refine ⟨by omega, fun x hx => ?_, h1⟩
   have := List.all_eq_true.1 ha x hx
   rw [Bool.and_eq_true] at this
   exact ⟨this.2, this.1⟩
  ·rintro ⟨_, _, h⟩
   exact ⟨h, fun _ _ h => by cases h⟩
 ·rw [if_neg ha]
  congr 1
  symm
  rw [Bool.eq_false_iff]
  intro hm
  apply ha
  rw [List.all_eq_true]
  intro x hx
  have := ((may_iff c).1 hm).2.1 x hx
  rw [this.1, this.2]; rfl
theorem RCut_l0 (r : SR) (ax : Int) (hr : rectOk r = true) (hax : ax = 1 ∨ ax = 2) (l : List Int) (hl : l.length ≤ 100000) : ∀ (d k i : Nat) (off : Int) (P L : List SR), l.length - i = d → i ≤ l.length → 3 * d < k → 0 ≤ off → off ≤ wholeR r ax → P.length ≤ i → L.length ≤ i →
  sashref04_Cut.l0 k ax l [] (wholeR r ax) P L off (l.length : Int) (i : Int) r.f0 r.f1 r.f2 r.f3 = some (cutRes r ax (decide (i = 0)) off (l.drop i) P L) := by
 obtain ⟨x0, w0, xw⟩ := rXW_bd r ax hr hax
 have hro := (rectOk_iff r).1 hr
 have hw : wholeR r ax ≤ 10000 := by omega
 intro d
 induction d with
 | zero =>
  intro k i off P L hd hi hk h0 h1 hP hL
  obtain ⟨k, rfl⟩ : ∃ m, k = m + 1 := ⟨k - 1, by omega⟩
  have hn : l.drop i = [] := List.drop_eq_nil_of_le (by omega)
  simp only [sashref04_Cut.l0]
  rw [if_neg (by omega), hn]
  unfold cutRes cutOk
  by_cases h : off = wholeR r ax
  ·rw [if_pos h, if_pos (by simpa using h)]; simp [cutParts, cutLines]
  ·rw [if_neg h, if_neg (by simpa using h)]
 | succ d ih =>
  intro k i off P L hd hi hk h0 h1 hP hL
  obtain ⟨k, rfl⟩ : ∃ m, k = m + 3 := ⟨k - 3, by omega⟩
  have hlt : i < l.length := by omega
  rw [drop_getD l i hlt]
  have e5 := ak (wi i (by omega))
  have e1 := ak (w64s (n := off + 1) (by omega) (by omega))
  have e2 := ak (w64s (n := r.f0 + off) (by omega) (by omega))
  have e3 := ak (w64s (n := r.f1 + off) (by omega) (by omega))
  have e2' := ak (w64s (n := r.f0 + (off + 1)) (by omega) (by omega))
  have e3' := ak (w64s (n := r.f1 + (off + 1)) (by omega) (by omega))
  have mk1 : ∀ o n : Int, (if ax = 1 then (⟨r.f0 + o, r.f1, n, r.f3⟩ : SR) else ⟨r.f0, r.f1 + o, r.f2, n⟩) = mkR r ax o n := fun o n => rfl
  have step : ∀ (o : Int) (L' : List SR), 0 ≤ o → o ≤ wholeR r ax + 1 → o = offA (decide (i = 0)) off → L'.length ≤ i + 1 →
    sashref04_Cut.j3 (k + 2) ax l [] (wholeR r ax) P L' o (i : Int) (l.length : Int) (i : Int) r.f0 r.f1 r.f2 r.f3 =
     if 1 ≤ l.getD i 0 ∧ l.getD i 0 ≤ wholeR r ax - o then sashref04_Cut.l0 k ax l [] (wholeR r ax) (P ++ [mkR r ax o (l.getD i 0)]) L' (o + l.getD i 0) (l.length : Int) ((i + 1 : Nat) : Int) r.f0 r.f1 r.f2 r.f3 else some ([], [], false) := by
   intro o L' ho0 ho1 _ _
   have f2 := ak (w64s (n := r.f0 + o) (by omega) (by omega))
   have f3 := ak (w64s (n := r.f1 + o) (by omega) (by omega))
   simp only [sashref04_Cut.j3, sashref04_Cut.j4]
   rw [if_pos (by omega), if_pos (by omega), rd_getD, e5.out]
   generalize l.getD i 0 = n
   have hp : 0 ≤ (i : Int) := by omega
   have hq : (i : Int) < (l.length : Int) := by omega
   have hpl : P.length < 4398046511104 := by omega
   simp only [if_pos hp, if_pos hq, if_pos hpl, f2.out, f3.out]
   by_cases a : n < 1
   ·rw [if_pos a, if_pos trivial, if_neg (by omega)]
   ·rw [if_neg a]
    by_cases b : n > wholeR r ax
    ·rw [if_pos b, if_pos trivial, if_neg (by omega)]
    ·rw [if_neg b]
     have f4 := ak (w64s (n := o + n) (by omega) (by omega))
     rw [f4.out]
     by_cases c : o + n > wholeR r ax
     ·rw [decide_eq_true c, if_pos rfl, if_neg (by omega)]
     ·rw [decide_eq_false c, if_neg (by decide), if_pos (show 1 ≤ n ∧ n ≤ wholeR r ax - o by omega), ← mk1]
      rcases hax with rfl | rfl
      ·simp
      ·simp
  simp only [sashref04_Cut.l0]
  rw [if_pos (by omega)]
  generalize hg : l.getD i 0 = n at step ⊢
  have hdec : cutRes r ax (decide (i = 0)) off (n :: l.drop (i + 1)) P L = if 1 ≤ n ∧ n ≤ wholeR r ax - offA (decide (i = 0)) off then cutRes r ax false (offA (decide (i = 0)) off + n) (l.drop (i + 1)) (P ++ [mkR r ax (offA (decide (i = 0)) off) n]) (L ++ if i = 0 then [] else [mkR r ax off 1]) else ([], [], false) := by
   unfold cutRes
   simp only [cutOk, cutParts, cutLines]
   by_cases h : 1 ≤ n ∧ n ≤ wholeR r ax - offA (decide (i = 0)) off
   ·have hb := decide_eq_true h
    simp only [hb, Bool.true_and]
    rw [if_pos h]
    by_cases h00 : i = 0 <;> simp [h00]
   ·have hb := decide_eq_false h
    simp only [hb, Bool.false_and]
    rw [if_neg h]; simp
  rw [hdec]
  by_cases h00 : i = 0
  ·subst h00
   have hoff : offA (decide ((0 : Nat) = 0)) off = off := rfl
   rw [if_neg (by omega), step off L h0 (by omega) rfl (by omega), hoff]
   by_cases h : 1 ≤ n ∧ n ≤ wholeR r ax - off
   ·rw [if_pos h, if_pos h, if_pos rfl, List.append_nil]
    have := ih k 1 (off + n) (P ++ [mkR r ax off n]) L (by omega) (by omega) (by omega) (by omega) (by omega) (by rw [List.length_append]; simp only [List.length_cons, List.length_nil]; omega) (by omega)
    have hd1 : decide ((1 : Nat) = 0) = false := rfl
    rw [hd1] at this
    exact this
   ·rw [if_neg h, if_neg h]
  ·have hoff : offA (decide (i = 0)) off = off + 1 := by rw [decide_eq_false h00]; rfl
   rw [if_pos (by omega), e1.out, e2.out, e3.out, hoff, if_neg h00]
   have hLl : L.length < 4398046511104 := by omega
   simp only [if_pos hLl]
   have hboth : (if ax = 1 then sashref04_Cut.j3 (k + 2) ax l [] (wholeR r ax) P (L ++ [(⟨r.f0 + off, r.f1, 1, r.f3⟩ : SR)]) (off + 1) (i : Int) (l.length : Int) (i : Int) r.f0 r.f1 r.f2 r.f3 else sashref04_Cut.j3 (k + 2) ax l [] (wholeR r ax) P (L ++ [(⟨r.f0, r.f1 + off, r.f2, 1⟩ : SR)]) (off + 1) (i : Int) (l.length : Int) (i : Int) r.f0 r.f1 r.f2 r.f3) = sashref04_Cut.j3 (k + 2) ax l [] (wholeR r ax) P (L ++ [mkR r ax off 1]) (off + 1) (i : Int) (l.length : Int) (i : Int) r.f0 r.f1 r.f2 r.f3 := by
    rw [← mk1]
    rcases hax with rfl | rfl <;> simp
   rw [hboth, step (off + 1) (L ++ [mkR r ax off 1]) (by omega) (by omega) hoff.symm (by rw [List.length_append]; simp only [List.length_cons, List.length_nil]; omega)]
   by_cases h : 1 ≤ n ∧ n ≤ wholeR r ax - (off + 1)
   ·rw [if_pos h, if_pos h]
    have := ih k (i + 1) (off + 1 + n) (P ++ [mkR r ax (off + 1) n]) (L ++ [mkR r ax off 1]) (by omega) (by omega) (by omega) (by omega) (by omega) (by rw [List.length_append]; simp only [List.length_cons, List.length_nil]; omega) (by rw [List.length_append]; simp only [List.length_cons, List.length_nil]; omega)
    have hd1 : decide (i + 1 = 0) = false := rfl
    rw [hd1] at this
    exact this
   ·rw [if_neg h, if_neg h]
theorem RCut_f (r : SR) (ax : Int) (hr : rectOk r = true) (hax : ax = 1 ∨ ax = 2) (l : List Int) (hl : l.length ≤ 100000) (hne : l ≠ []) (k : Nat) (hk : 3 * l.length + 3 < k) :
  sashref04_Cut.f k r.f0 r.f1 r.f2 r.f3 ax l = some (cutRes r ax true 0 l [] []) := by
 obtain ⟨k, rfl⟩ : ∃ m, k = m + 2 := ⟨k - 2, by omega⟩
 have hp := List.length_pos_iff.2 hne
 unfold sashref04_Cut.f
 rw [ref04_May_eq, hr]
 simp only [Option.bind_some, if_true]
 rw [if_neg (by omega), if_neg (by omega)]
 have : ((l.length : Int) == 0) = false := beq_eq_false_iff_ne.2 (by omega)
 rw [this]
 simp only [sashref04_Cut.j0, sashref04_Cut.j1]
 rw [if_neg (by decide)]
 have h := RCut_l0 r ax hr hax l hl l.length k 0 0 [] [] (by omega) (by omega) (by omega) (by omega) (by have := rXW_bd r ax hr hax; omega) (by simp) (by simp)
 rcases hax with rfl | rfl
 ·rw [if_neg (by decide)]
  simpa [wholeR] using h
 ·rw [if_pos rfl]
  simpa [wholeR] using h
theorem Sizes_f (c : SC) (hl : c.f3.length ≤ 100000) (k : Nat) (hk : c.f3.length < k) : sashref06_Sizes.f k c.f0 c.f1.f0 c.f1.f1 c.f1.f2 c.f1.f3 c.f2 c.f3 = some (sizesOf c) := by
 have hsl : (sizesOf c).length = c.f3.length := by simp [sizesOf]
 have loop : ∀ (d k i : Nat), c.f3.length - i = d → i ≤ c.f3.length → d < k → sashref06_Sizes.l0 k ((sizesOf c).take i) (c.f3.length : Int) (i : Int) c.f0 c.f1.f0 c.f1.f1 c.f1.f2 c.f1.f3 c.f2 c.f3 = some (sizesOf c) := by
  intro d
  induction d with
  | zero =>
   intro k i hd hi hk
   obtain ⟨k, rfl⟩ : ∃ m, k = m + 1 := ⟨k - 1, by omega⟩
   simp only [sashref06_Sizes.l0]
   rw [if_neg (by omega), List.take_of_length_le (by omega)]
  | succ d ih =>
   intro k i hd hi hk
   obtain ⟨k, rfl⟩ : ∃ m, k = m + 1 := ⟨k - 1, by omega⟩
   have hlt : i < c.f3.length := by omega
   have htk : (sizesOf c).take (i + 1) = (sizesOf c).take i ++ [if c.f0 = 2 then (rd_T27 c.f3 (i : Int)).f1.f2 else (rd_T27 c.f3 (i : Int)).f1.f3] := by
    rw [List.take_add_one, List.getElem?_eq_getElem (by omega)]
    simp [sizesOf, rd_T27, List.getD_eq_getElem?_getD, List.getElem?_eq_getElem hlt]
   have := ih k (i + 1) (by omega) (by omega) (by omega)
   rw [htk] at this
   simp only [sashref06_Sizes.l0]
   rw [if_pos (by omega), wi i (by omega)]
   by_cases h2 : c.f0 = 2
   ·rw [if_pos h2, if_pos (by omega), if_pos (by omega), if_pos (by rw [List.length_take]; omega)]
    rw [if_pos h2] at this
    exact this
   ·rw [if_neg h2, if_pos (by omega), if_pos (by omega), if_pos (by rw [List.length_take]; omega)]
    rw [if_neg h2] at this
    exact this
 unfold sashref06_Sizes.f
 have := loop c.f3.length k 0 (by omega) (by omega) hk
 simpa using this
theorem ne_sr (a b : SR) : (!(a.f0 == b.f0) || (!(a.f1 == b.f1) || (!(a.f2 == b.f2) || !(a.f3 == b.f3)))) = !decide (a = b) := by
 by_cases h : a = b
 ·subst h; simp
 ·rw [decide_eq_false h]
  by_cases h0 : a.f0 = b.f0
  ·by_cases h1 : a.f1 = b.f1
   ·by_cases h2 : a.f2 = b.f2
    ·by_cases h3 : a.f3 = b.f3
     ·exact absurd (sr_ext h0 h1 h2 h3) h
     ·simp [h3]
    ·simp [h2]
   ·simp [h1]
  ·simp [h0]
def oneOf (c : SC) : List SR × Bool := match linesS c with
 | some l => (l, true)
 | none => ([], false)
theorem one_f (c : SC) (hn : nodeOk c = true) (hr : rectOk c.f1 = true) (hl : c.f3.length ≤ 10000) (k : Nat) (hk : 5 * c.f3.length + 10 < k) : sashref06_one.f k c.f0 c.f1.f0 c.f1.f1 c.f1.f2 c.f1.f3 c.f2 c.f3 = some (oneOf c) := by
 unfold sashref06_one.f oneOf
 by_cases hk1 : c.f0 = 1
 ·have : linesS c = some [] := by simp [linesS, hk1]
  rw [if_pos hk1, this]
 ·have hk23 : c.f0 = 2 ∨ c.f0 = 3 := by
   unfold nodeOk at hn
   rw [if_neg hk1] at hn
   by_cases h : c.f0 = 2 ∨ c.f0 = 3
   ·exact h
   ·rw [if_neg h] at hn; cases hn
  have h2 : 2 ≤ c.f3.length := by
   unfold nodeOk at hn
   rw [if_neg hk1, if_pos hk23, decide_eq_true_eq] at hn
   exact hn.1
  have hsl : (sizesOf c).length = c.f3.length := by simp [sizesOf]
  have hm : (c.f0 - 1) % 256 = c.f0 - 1 := by omega
  rw [if_neg hk1, Sizes_f c (by omega) k (by omega)]
  simp only [Option.bind_some]
  rw [hm, RCut_f c.f1 (c.f0 - 1) hr (by omega) (sizesOf c) (by omega) (by intro h; rw [h] at hsl; simp at hsl; omega) k (by omega)]
  simp only [Option.bind_some]
  rw [linesS_cut c hr hk23 h2]
  have hres : (cutRes c.f1 (c.f0 - 1) true 0 (sizesOf c) [] []).2.2 = true → (cutRes c.f1 (c.f0 - 1) true 0 (sizesOf c) [] []).1.length = c.f3.length := by
   unfold cutRes
   split
   ·intro _; simp [cutParts_len, hsl]
   ·intro h; cases h
  have hres2 : (cutRes c.f1 (c.f0 - 1) true 0 (sizesOf c) [] []).2.2 = false → (cutRes c.f1 (c.f0 - 1) true 0 (sizesOf c) [] []).2.1 = [] := by
   unfold cutRes
   split
   ·intro h; cases h
   ·intro _; rfl
  generalize cutRes c.f1 (c.f0 - 1) true 0 (sizesOf c) [] [] = r at *
  obtain ⟨ps, ls, b⟩ := r
  simp only at hres hres2 ⊢
  cases b with
  | false => rw [hres2 rfl]; simp
  | true =>
   have hpl := hres rfl
   rw [if_pos rfl]
   have loop : ∀ (d k i : Nat), ps.length - i = d → i ≤ ps.length → d < k → (c.f3.take i).map (·.f1) = ps.take i →
     sashref06_one.l0 k ps ls (ps.length : Int) (i : Int) c.f0 c.f1.f0 c.f1.f1 c.f1.f2 c.f1.f3 c.f2 c.f3 = some (if c.f3.map (·.f1) = ps then (ls, true) else ([], false)) := by
    intro d
    induction d with
    | zero =>
     intro k i hd hi hk he
     obtain ⟨k, rfl⟩ : ∃ m, k = m + 1 := ⟨k - 1, by omega⟩
     rw [List.take_of_length_le (by omega), List.take_of_length_le (by omega)] at he
     simp only [sashref06_one.l0]
     rw [if_neg (by omega), if_pos he]
    | succ d ih =>
     intro k i hd hi hk he
     obtain ⟨k, rfl⟩ : ∃ m, k = m + 1 := ⟨k - 1, by omega⟩
     simp only [sashref06_one.l0]
     rw [if_pos (by omega), if_pos (by omega), if_pos (by omega), if_pos (by omega), rd_T_getD, rd_R_getD, ne_sr, wi i (by omega)]
     by_cases h : (c.f3.getD i z27).f1 = ps.getD i z24
     ·rw [decide_eq_true h.symm, if_neg (by decide)]
      exact ih k (i + 1) (by omega) (by omega) (by omega) (take_map_succ c.f3 ps i (by omega) (by omega) he h)
     ·rw [decide_eq_false (fun h' => h h'.symm), if_pos (by decide), if_neg (take_map_ne c.f3 ps i (by omega) (by omega) h)]
   have := loop ps.length k 0 (by omega) (by omega) (by omega) (by simp)
   have hz : ((0 : Nat) : Int) = 0 := rfl
   rw [hz] at this
   rw [this]
   by_cases h : c.f3.map (·.f1) = ps
   ·rw [if_pos h, if_pos ⟨rfl, h⟩]
   ·rw [if_neg h, if_neg (fun h' => h h'.2)]
theorem oneOf_none {c : SC} (h : linesS c = none) : oneOf c = ([], false) := by unfold oneOf; rw [h]
theorem oneOf_some {c : SC} {l : List SR} (h : linesS c = some l) : oneOf c = (l, true) := by unfold oneOf; rw [h]
theorem Check_l0 (l : List SC) (hl : l.length ≤ 10000) (hn : ∀ x ∈ l, nodeOk x = true ∧ rectOk x.f1 = true ∧ x.f3.length ≤ 10000) : ∀ (d k i : Nat) (acc : List SR), l.length - i = d → i ≤ l.length → d + 60000 < k → acc.length ≤ i * 10000 →
  sashref06_Check.l0 k [] l acc (l.length : Int) (i : Int) = some (if (visitL walkStep (i, acc) (l.drop i)).1 = true then ((visitL walkStep (i, acc) (l.drop i)).2.2, 0, 0) else ([], 5, ((visitL walkStep (i, acc) (l.drop i)).2.1 : Int))) := by
 intro d
 induction d with
 | zero =>
  intro k i acc hd hi hk ha
  obtain ⟨k, rfl⟩ : ∃ m, k = m + 1 := ⟨k - 1, by omega⟩
  simp only [sashref06_Check.l0]
  rw [if_neg (by omega), List.drop_eq_nil_of_le (by omega)]
  simp [visitL]
 | succ d ih =>
  intro k i acc hd hi hk ha
  obtain ⟨k, rfl⟩ : ∃ m, k = m + 1 := ⟨k - 1, by omega⟩
  have hlt : i < l.length := by omega
  obtain ⟨h1, h2, h3⟩ := hn _ (getT_mem l i hlt)
  simp only [sashref06_Check.l0]
  rw [if_pos (by omega), if_pos (by omega), if_pos (by omega), rd_T_getD, one_f _ h1 h2 (by omega) k (by omega), dropT l i hlt]
  simp only [Option.bind_some]
  generalize l.getD i z27 = x at *
  cases hs : linesS x with
  | none =>
   rw [oneOf_none hs]
   simp [visitL, walkStep_none hs]
  | some q =>
   have hq := linesS_len hs
   have hm : acc.length + q.length ≤ (i + 1) * 10000 := by rw [Nat.add_mul]; omega
   have hi3 : (i + 1) * 10000 ≤ 10001 * 10000 := Nat.mul_le_mul_right _ (by omega)
   rw [oneOf_some hs]
   simp only [if_true]
   rw [if_pos (by omega), wi i (by omega), ih k (i + 1) (acc ++ q) (by omega) (by omega) (by omega) (by rw [List.length_append]; exact hm)]
   simp [visitL, walkStep_some hs]
theorem Check_f (c : SC) (hl : (cells c).length ≤ 10000) (k : Nat) (hk : 200000000 < k) : sashref06_Check.f k c.f0 c.f1.f0 c.f1.f1 c.f1.f2 c.f1.f3 c.f2 c.f3 = some (linesAns c, chkNo c, chkAt c) := by
 have hA := All_f c (by omega) k (by omega)
 unfold AllF at hA
 unfold sashref06_Check.f
 simp only [Option.bind_some]
 rw [May_f c hl k hk]
 simp only [Option.bind_some]
 unfold linesAns chkNo chkAt tilesB
 cases hm : mayB c with
 | false => simp
 | true =>
  simp only [if_true, Bool.true_and]
  rw [hA]
  simp only [Option.bind_some]
  have hn : ∀ x ∈ cells c, nodeOk x = true ∧ rectOk x.f1 = true ∧ x.f3.length ≤ 10000 := fun x hx => by
   have h2 := ((may_iff c).1 hm).2.1 x hx
   have := kids_le x hx
   exact ⟨h2.1, h2.2, by omega⟩
  have h := Check_l0 (cells c) hl hn (cells c).length k 0 [] (by omega) (by omega) (by omega) (by simp)
  have hz : ((0 : Nat) : Int) = 0 := rfl
  rw [hz, List.drop_zero] at h
  rw [h]
  have hw : visitL walkStep (0, []) (cells c) = walkV c := rfl
  rw [hw]
  cases hq : (walkV c).1 with
  | false => simp
  | true => simp [lnR_walk c hq]
set_option maxRecDepth 100000
def zC : SC := ⟨0, ⟨0, 0, 0, 0⟩, 0, []⟩
def treeR : Except (Int × Int) SC → SC
 | .error _ => zC
 | .ok x => x
def noR : Except (Int × Int) SC → Int
 | .error q => q.1
 | .ok _ => 0
def atR : Except (Int × Int) SC → Int
 | .error q => q.2
 | .ok _ => 0
def pTree : Except (Int × Nat) (SC × Nat) → SC
 | .error _ => zC
 | .ok p => p.1
def pAt : Except (Int × Nat) (SC × Nat) → Int
 | .error _ => 0
 | .ok p => p.2
def pNo : Except (Int × Nat) (SC × Nat) → Int
 | .error q => q.1
 | .ok _ => 0
def pSite : Except (Int × Nat) (SC × Nat) → Int
 | .error q => q.2
 | .ok _ => 0
def RCellPost (w : World) (r : Except (Int × Nat) (SC × Nat)) (e : Ending) (w' : World) : Prop :=
 ∃ A c, e = .returned (.agg #[.int .u8 (pTree r).f0, .int .i64 (pTree r).f1.f0, .int .i64 (pTree r).f1.f1, .int .i64 (pTree r).f1.f2, .int .i64 (pTree r).f1.f3, .int .i64 (pTree r).f2, .slice A (pTree r).f3.length c, .int .i64 (pAt r), .int .i64 (pNo r), .int .i64 (pSite r)]) ∧ Kd.R k27 27 w' w.heap.size (fun _ => True) (.slice A (pTree r).f3.length c) (pTree r).f3 ∧ Below w.heap.size w w'
def RefPost (w : World) (R : Except (Int × Int) SC) (e : Ending) (w' : World) : Prop :=
 ∃ A c, e = .returned (.tuple #[.agg #[.int .u8 (treeR R).f0, .int .i64 (treeR R).f1.f0, .int .i64 (treeR R).f1.f1, .int .i64 (treeR R).f1.f2, .int .i64 (treeR R).f1.f3, .int .i64 (treeR R).f2, .slice A (treeR R).f3.length c], .int .i64 (noR R), .int .i64 (atR R)]) ∧ Kd.R k27 27 w' w.heap.size (fun _ => True) (.slice A (treeR R).f3.length c) (treeR R).f3 ∧ Below w.heap.size w w'
structure WBox (w W : World) (b : Nat) (x : SC) (A : Option Addr) (c : Nat) (at_ no site : Int) : Prop where
 bel : Below w.heap.size w W
 res : W.heap[w.heap.size]? = some (.cells zeroA 27 (0, 0))
 nil : W.heap[w.heap.size + 1]? = some (.cells zeroA 27 (0, 0))
 box : W.heap[b]? = some (.cells #[.int .u8 x.f0, .int .i64 x.f1.f0, .int .i64 x.f1.f1, .int .i64 x.f1.f2, .int .i64 x.f1.f3, .int .i64 x.f2, .slice A x.f3.length c, .int .i64 at_, .int .i64 no, .int .i64 site] 91 (0, 0))
 row : Kd.R k27 27 W (w.heap.size + 2) (fun _ => True) (.slice A x.f3.length c) x.f3
theorem WBox.below {w W W' : World} {b : Nat} {x : SC} {A : Option Addr} {c : Nat} {at_ no site : Int} (h : WBox w W b x A c at_ no site) (hb : Below W.heap.size W W') : WBox w W' b x A c at_ no site :=
 ⟨h.bel.trans (hb.mono h.bel.size), (hb.block _ (blk_lt h.res)).trans h.res, (hb.block _ (blk_lt h.nil)).trans h.nil, (hb.block _ (blk_lt h.box)).trans h.box, Kd.R_below h.row hb⟩
theorem wres_zero {w W : World} {b : Nat} {x : SC} {A : Option Addr} {c : Nat} {at_ no site : Int} (h : WBox w W b x A c at_ no site) (q : Int × Int) :
  RefPost w (.error q) (.returned (.tuple #[.agg zeroA, .int .i64 q.1, .int .i64 q.2])) (((((((W.setCell ⟨w.heap.size, 0, none⟩ (.int .u8 0)).setCell ⟨w.heap.size, 1, none⟩ (.int .i64 0)).setCell ⟨w.heap.size, 2, none⟩ (.int .i64 0)).setCell ⟨w.heap.size, 3, none⟩ (.int .i64 0)).setCell ⟨w.heap.size, 4, none⟩ (.int .i64 0)).setCell ⟨w.heap.size, 5, none⟩ (.int .i64 0)).setCell ⟨w.heap.size, 6, none⟩ (.slice none 0 0)) :=
 ⟨none, 0, rfl, Kd.R_nil _ _ _ _ _, (((((((h.bel.setCell (p := ⟨w.heap.size, 0, none⟩) (Nat.le_refl _) _).setCell (p := ⟨w.heap.size, 1, none⟩) (Nat.le_refl _) _).setCell (p := ⟨w.heap.size, 2, none⟩) (Nat.le_refl _) _).setCell (p := ⟨w.heap.size, 3, none⟩) (Nat.le_refl _) _).setCell (p := ⟨w.heap.size, 4, none⟩) (Nat.le_refl _) _).setCell (p := ⟨w.heap.size, 5, none⟩) (Nat.le_refl _) _).setCell (p := ⟨w.heap.size, 6, none⟩) (Nat.le_refl _) _)⟩
theorem wres_tree {w W : World} {b : Nat} {x : SC} {A : Option Addr} {c : Nat} {at_ no site : Int} (h : WBox w W b x A c at_ no site) :
  RefPost w (.ok x) (.returned (.tuple #[.agg #[.int .u8 x.f0, .int .i64 x.f1.f0, .int .i64 x.f1.f1, .int .i64 x.f1.f2, .int .i64 x.f1.f3, .int .i64 x.f2, .slice A x.f3.length c], .int .i64 0, .int .i64 0])) (((((((W.setCell ⟨w.heap.size, 0, none⟩ (.int .u8 x.f0)).setCell ⟨w.heap.size, 1, none⟩ (.int .i64 x.f1.f0)).setCell ⟨w.heap.size, 2, none⟩ (.int .i64 x.f1.f1)).setCell ⟨w.heap.size, 3, none⟩ (.int .i64 x.f1.f2)).setCell ⟨w.heap.size, 4, none⟩ (.int .i64 x.f1.f3)).setCell ⟨w.heap.size, 5, none⟩ (.int .i64 x.f2)).setCell ⟨w.heap.size, 6, none⟩ (.slice A x.f3.length c)) :=
 ⟨A, c, rfl, Kd.R_lower (R_set7 h.row (by omega) _ _ _ _ _ _ _) (by omega), (((((((h.bel.setCell (p := ⟨w.heap.size, 0, none⟩) (Nat.le_refl _) _).setCell (p := ⟨w.heap.size, 1, none⟩) (Nat.le_refl _) _).setCell (p := ⟨w.heap.size, 2, none⟩) (Nat.le_refl _) _).setCell (p := ⟨w.heap.size, 3, none⟩) (Nat.le_refl _) _).setCell (p := ⟨w.heap.size, 4, none⟩) (Nat.le_refl _) _).setCell (p := ⟨w.heap.size, 5, none⟩) (Nat.le_refl _) _).setCell (p := ⟨w.heap.size, 6, none⟩) (Nat.le_refl _) _)⟩
theorem WBox.drew {w W : World} {b : Nat} {x : SC} {A : Option Addr} {c : Nat} {at_ no site : Int} (h : WBox w W b x A c at_ no site) : WBox w W.drew b x A c at_ no site := h.below (below_drew (Below.refl _ _))
theorem far7 {W : World} {n b i : Nat} {x v0 v1 v2 v3 v4 v5 v6 : Value} (hne : n ≠ b) (h : W.cell? ⟨b, i, none⟩ = some x) :
  (((((((W.setCell ⟨n, 0, none⟩ v0).setCell ⟨n, 1, none⟩ v1).setCell ⟨n, 2, none⟩ v2).setCell ⟨n, 3, none⟩ v3).setCell ⟨n, 4, none⟩ v4).setCell ⟨n, 5, none⟩ v5).setCell ⟨n, 6, none⟩ v6).cell? ⟨b, i, none⟩ = some x := by
 repeat rw [World.cell?_setCell_far _ _ _ _ hne]
 exact h
theorem drew_cell (X : World) (a : Addr) : X.drew.cell? a = X.cell? a := rfl
theorem far7d {W : World} {n b i : Nat} {x v0 v1 v2 v3 v4 v5 v6 : Value} (hne : n ≠ b) (h : W.cell? ⟨b, i, none⟩ = some x) :
  (((((((W.setCell ⟨n, 0, none⟩ v0).setCell ⟨n, 1, none⟩ v1).setCell ⟨n, 2, none⟩ v2).setCell ⟨n, 3, none⟩ v3).setCell ⟨n, 4, none⟩ v4).setCell ⟨n, 5, none⟩ v5).setCell ⟨n, 6, none⟩ v6).drew.cell? ⟨b, i, none⟩ = some x :=
 (drew_cell _ _).trans (far7 hne h)
theorem wres_drew {w W : World} {R : Except (Int × Int) SC} {e : Ending} (h : RefPost w R e W) : RefPost w R e W.drew := by
 obtain ⟨A, c, he, hR, hb⟩ := h
 exact ⟨A, c, he, Kd.R_drew hR, below_drew hb⟩
theorem WBox.cells {w W : World} {b : Nat} {x : SC} {A : Option Addr} {c : Nat} {at_ no site : Int} (h : WBox w W b x A c at_ no site) :
  W.cell? ⟨b, 0, none⟩ = some (.int .u8 x.f0) ∧ W.cell? ⟨b, 1, none⟩ = some (.int .i64 x.f1.f0) ∧ W.cell? ⟨b, 2, none⟩ = some (.int .i64 x.f1.f1) ∧ W.cell? ⟨b, 3, none⟩ = some (.int .i64 x.f1.f2) ∧ W.cell? ⟨b, 4, none⟩ = some (.int .i64 x.f1.f3) ∧ W.cell? ⟨b, 5, none⟩ = some (.int .i64 x.f2) ∧ W.cell? ⟨b, 6, none⟩ = some (.slice A x.f3.length c) ∧ W.cell? ⟨b, 7, none⟩ = some (.int .i64 at_) ∧ W.cell? ⟨b, 8, none⟩ = some (.int .i64 no) ∧ W.cell? ⟨b, 9, none⟩ = some (.int .i64 site) :=
 ⟨(blk_cell h.box 0).trans rfl, (blk_cell h.box 1).trans rfl, (blk_cell h.box 2).trans rfl, (blk_cell h.box 3).trans rfl, (blk_cell h.box 4).trans rfl, (blk_cell h.box 5).trans rfl, (blk_cell h.box 6).trans rfl, (blk_cell h.box 7).trans rfl, (blk_cell h.box 8).trans rfl, (blk_cell h.box 9).trans rfl⟩
theorem zero_cells {W : World} {b : Nat} (h : W.heap[b]? = some (.cells zeroA 27 (0, 0))) :
  (W.cell? ⟨b, 0, none⟩ = some (.int .u8 0) ∧ W.cell? ⟨b, 1, none⟩ = some (.int .i64 0) ∧ W.cell? ⟨b, 2, none⟩ = some (.int .i64 0) ∧ W.cell? ⟨b, 3, none⟩ = some (.int .i64 0) ∧ W.cell? ⟨b, 4, none⟩ = some (.int .i64 0) ∧ W.cell? ⟨b, 5, none⟩ = some (.int .i64 0) ∧ W.cell? ⟨b, 6, none⟩ = some (.slice none 0 0)) ∧
  (W.frozen? ⟨b, 0, none⟩ = false ∧ W.frozen? ⟨b, 1, none⟩ = false ∧ W.frozen? ⟨b, 2, none⟩ = false ∧ W.frozen? ⟨b, 3, none⟩ = false ∧ W.frozen? ⟨b, 4, none⟩ = false ∧ W.frozen? ⟨b, 5, none⟩ = false ∧ W.frozen? ⟨b, 6, none⟩ = false) :=
 ⟨⟨(blk_cell h 0).trans rfl, (blk_cell h 1).trans rfl, (blk_cell h 2).trans rfl, (blk_cell h 3).trans rfl, (blk_cell h 4).trans rfl, (blk_cell h 5).trans rfl, (blk_cell h 6).trans rfl⟩, blk_frozen h 0, blk_frozen h 1, blk_frozen h 2, blk_frozen h 3, blk_frozen h 4, blk_frozen h 5, blk_frozen h 6⟩
set_option maxHeartbeats 8000000 in
theorem rwhole_walk (w : World) (s : ByteArray) (off : Int) (r : Except (Int × Nat) (SC × Nat)) (ho : 0 ≤ off ∧ off ≤ 1000) (hs : s.size ≤ 100000) (hat : 0 ≤ pAt r ∧ pAt r ≤ 100000) (hsi : 0 ≤ pSite r ∧ pSite r ≤ 100000) (hno : ∀ q, r = .error q → ¬ q.1 = 0)
  (HC : ∀ W, Calls Tryz.prog 51 #[.string s, .int .i64 0, .int .i64 1] W (RCellPost W r))
  (HM : ∀ p, r = .ok p → ∀ W A c, (k27).C W A p.1.f3.length p.1.f3 → p.1.f3.length ≤ c → Calls Tryz.prog 52 #[.agg #[.int .u8 p.1.f0, .int .i64 p.1.f1.f0, .int .i64 p.1.f1.f1, .int .i64 p.1.f1.f2, .int .i64 p.1.f1.f3, .int .i64 p.1.f2, .slice A p.1.f3.length c]] W fun e w' => e = .returned (.bool (mayB p.1)) ∧ Below W.heap.size W w')
  (HT : ∀ p, r = .ok p → ∀ W A c, (k27).C W A p.1.f3.length p.1.f3 → p.1.f3.length ≤ c → Calls Tryz.prog 23 #[.agg #[.int .u8 p.1.f0, .int .i64 p.1.f1.f0, .int .i64 p.1.f1.f1, .int .i64 p.1.f1.f2, .int .i64 p.1.f1.f3, .int .i64 p.1.f2, .slice A p.1.f3.length c]] W fun e w' => e = .returned (.bool (tilesB p.1)) ∧ Below W.heap.size W w') :
  Calls Tryz.prog 28 #[.string s, .int .i64 off] w (RefPost w (wholeP s mayB tilesB off r)) := by
 obtain ⟨W1, hW1⟩ : ∃ W1, W1 = (w.alloc (.cells zeroA 27)).alloc (.cells zeroA 27) := ⟨_, rfl⟩
 have HB1 : Aside0 (Below w.heap.size w W1) := ⟨by rw [hW1]; exact below_alloc (below_alloc (Below.refl _ _) _) _⟩
 have e1 : (w.alloc (.cells zeroA 27)).heap.size = w.heap.size + 1 := by simp
 have HR1 : Aside0 (W1.heap[w.heap.size]? = some (.cells zeroA 27 (0, 0))) := ⟨by rw [hW1]; exact blk_alloc (heap_alloc_new w _) _⟩
 have HN1 : Aside0 (W1.heap[w.heap.size + 1]? = some (.cells zeroA 27 (0, 0))) := ⟨by have := heap_alloc_new (w.alloc (.cells zeroA 27)) (.cells zeroA 27); rw [e1, ← hW1] at this; exact this⟩
 have HW1 := ak hW1
 have e2 : W1.heap.size = w.heap.size + 2 := by rw [hW1]; simp
 replace HC := ak (HC W1)
 unfold RCellPost at HC
 replace HM := ak HM
 replace HT := ak HT
 have hw1 : wrap64 (pSite r + off) = off + pSite r := by unfold wrap64; omega
 have hw2 : wrap64 (pAt r + off) = off + pAt r := by unfold wrap64; omega
 replace hno := ak hno
 obtain ⟨x, hx⟩ : ∃ x, x = pTree r := ⟨_, rfl⟩
 obtain ⟨at_, ha⟩ : ∃ x, x = pAt r := ⟨_, rfl⟩
 obtain ⟨no, hn⟩ : ∃ x, x = pNo r := ⟨_, rfl⟩
 obtain ⟨site, hsx⟩ : ∃ x, x = pSite r := ⟨_, rfl⟩
 rw [← hx, ← ha, ← hn, ← hsx] at HC
 rw [← hsx] at hw1
 rw [← ha] at hw2
 replace hx := ak hx; replace ha := ak ha; replace hn := ak hn; replace hsx := ak hsx
 replace hw1 := ak hw1; replace hw2 := ak hw2
 replace e2 := ak e2
 have E2 := e2
 clear hW1 e1 hat hsi ho e2
 go_enter Tryz.func28, Tryz.ntmps28
 go_wp2_with fail
 rw [← HW1.out]
 refine HC.out.mono ?_
 rintro e w2 ⟨A, c, rfl, hR, hb2⟩
 obtain ⟨W3, hW3⟩ : ∃ W3, W3 = w2.alloc (.cells #[.int .u8 x.f0, .int .i64 x.f1.f0, .int .i64 x.f1.f1, .int .i64 x.f1.f2, .int .i64 x.f1.f3, .int .i64 x.f2, .slice A x.f3.length c, .int .i64 at_, .int .i64 no, .int .i64 site] 91) := ⟨_, rfl⟩
 have hb23 : Below w2.heap.size w2 W3 := by rw [hW3]; exact below_alloc (Below.refl _ _) _
 have HX3 : Aside0 (WBox w W3 w2.heap.size x A c at_ no site) := ⟨⟨HB1.out.trans ((hb2.mono HB1.out.size).trans (hb23.mono (Nat.le_trans HB1.out.size hb2.size))), (hb23.block _ (blk_lt ((hb2.block _ (blk_lt HR1.out)).trans HR1.out))).trans ((hb2.block _ (blk_lt HR1.out)).trans HR1.out), (hb23.block _ (blk_lt ((hb2.block _ (blk_lt HN1.out)).trans HN1.out))).trans ((hb2.block _ (blk_lt HN1.out)).trans HN1.out), by rw [hW3]; exact heap_alloc_new w2 _, Kd.R_below (Kd.R_lower hR (Nat.le_of_eq E2.out.symm)) hb23⟩⟩
 have HW3 := ak hW3
 clear hR hb2 hb23 hW3 HW1 HB1 HR1 HN1 HC
 have hr9 := HX3.out
 obtain ⟨x0, x1, x2, x3, x4, x5, x6, x7, x8, x9⟩ := hr9.cells
 obtain ⟨⟨r0, r1, r2, r3, r4, r5, r6⟩, f0, f1, f2, f3, f4, f5, f6⟩ := zero_cells (W := W3) hr9.res
 obtain ⟨⟨y0, y1, y2, y3, y4, y5, y6⟩, -⟩ := zero_cells (W := W3) hr9.nil
 clear hr9
 cases r with
 | error q =>
  have hq := hno.out q rfl
  have n0 : no = q.1 := hn.out
  have n1 : site = q.2 := hsx.out
  subst n0
  subst n1
  have q0 : (q.1 != 0) = true := by simp [hq]
  have q1 : (q.1 == 0) = false := by simp [hq]
  clear hq
  go_upto_region 4 with (fail)
  rw [← HW3.out]
  have hw := by have h := hw1.out; rw [← i64_w] at h; exact h
  have hne : w.heap.size ≠ w2.heap.size := by intro e; have hb := HX3.out.box; rw [← e, HX3.out.res] at hb; simp at hb
  have hn1 : w.heap.size ≠ w.heap.size + 1 := by omega
  refine start_ (n := 10) (S := fun w' => w'.cell? ⟨w2.heap.size, 8, none⟩ = some (.int .i64 q.1) ∧ w'.cell? ⟨w2.heap.size, 9, none⟩ = some (.int .i64 q.2) ∧ w'.cell? ⟨w.heap.size + 1, 0, none⟩ = some (.int .u8 0) ∧ w'.cell? ⟨w.heap.size + 1, 1, none⟩ = some (.int .i64 0) ∧ w'.cell? ⟨w.heap.size + 1, 2, none⟩ = some (.int .i64 0) ∧ w'.cell? ⟨w.heap.size + 1, 3, none⟩ = some (.int .i64 0) ∧ w'.cell? ⟨w.heap.size + 1, 4, none⟩ = some (.int .i64 0) ∧ w'.cell? ⟨w.heap.size + 1, 5, none⟩ = some (.int .i64 0) ∧ w'.cell? ⟨w.heap.size + 1, 6, none⟩ = some (.slice none 0 0)) (ds := []) #[false, false, false, false, false, false, false, false, false, false] (by kernel_rfl) rfl rfl ⟨x8, x9, y0, y1, y2, y3, y4, y5, y6⟩ (fun hHeld => ?_)
  refine pu2 1 (some 16) #[false, true, false, false, false, false, false, false, false, false] (h := ?_)
  refine pu2 3 (some 18) #[false, true, false, true, false, false, false, false, false, false] (h := ?_)
  refine pu2 5 (some 20) #[false, true, false, true, false, true, false, false, false, false] (h := ?_)
  refine tk2 0 (some 15) #[true, true, false, true, false, true, false, false, false, false] (h := ?_)
  refine tk2 2 (some 17) #[true, true, true, true, false, true, false, false, false, false] (h := ?_)
  refine tk2 4 (some 19) #[true, true, true, true, true, true, false, false, false, false] (h := ?_)
  refine pu2 6 (some 21) #[true, true, true, true, true, true, true, false, false, false] (h := ?_)
  refine one_ (i := 7) (N := none) #[true, true, true, true, true, true, true, true, false, false] rfl rfl (by kernel_rfl) (by decide) (fun K hK => ?_)
  refine skip_ (w1 := ?_) (by rfl) rfl ?_ ?_
  rotate_left
  ·go_simp
   exact rfl
  refine hK.out _ _ ⟨(far7d hne x8), (far7d hne x9), (far7d hn1 y0), (far7d hn1 y1), (far7d hn1 y2), (far7d hn1 y3), (far7d hn1 y4), (far7d hn1 y5), (far7d hn1 y6)⟩ (fun hHeld => ?_)
  clear hK K
  refine pu2 8 (some 5) #[true, true, true, true, true, true, true, true, true, false] (h := ?_)
  refine pu2 9 (some 6) #[true, true, true, true, true, true, true, true, true, true] (h := ?_)
  refine done_ (by kernel_rfl) ?_
  go_wp2
  have HP := wres_drew (wres_zero HX3.out (q.1, (off + q.2)))
  obtain ⟨WO, hWO⟩ : ∃ WO, WO = (((((((W3.setCell ⟨w.heap.size, 0, none⟩ (.int .u8 0)).setCell ⟨w.heap.size, 1, none⟩ (.int .i64 0)).setCell ⟨w.heap.size, 2, none⟩ (.int .i64 0)).setCell ⟨w.heap.size, 3, none⟩ (.int .i64 0)).setCell ⟨w.heap.size, 4, none⟩ (.int .i64 0)).setCell ⟨w.heap.size, 5, none⟩ (.int .i64 0)).setCell ⟨w.heap.size, 6, none⟩ (.slice none 0 0)) := ⟨_, rfl⟩
  rw [← hWO] at HP
  have HZ0 : WO.heap[w.heap.size]? = some (.cells zeroA 27 (0, 0)) := by rw [hWO]; exact blk_set (blk_set (blk_set (blk_set (blk_set (blk_set (blk_set HX3.out.res 0 _) 1 _) 2 _) 3 _) 4 _) 5 _) 6 _
  have HZ : WO.drew.heap[w.heap.size]? = some (.cells zeroA 27 (0, 0)) := HZ0
  obtain ⟨⟨g0, g1, g2, g3, g4, g5, g6⟩, -⟩ := zero_cells HZ
  rw [← hWO]
  refine bodyPost_ret (v := .tuple #[.agg zeroA, .int .i64 q.1, .int .i64 (off + q.2)]) (by simp [results, Tryz.results28, go_sem, g0, g1, g2, g3, g4, g5, g6]) rfl ?_
  exact HP
 | ok p =>
  have n0 : no = 0 := hn.out
  have n1 : x = p.1 := hx.out
  have n2 : at_ = p.2 := ha.out
  subst n0
  subst n1
  by_cases hlt : p.2 < s.size
  ·have HRR : Aside0 (wholeP s mayB tilesB off (.ok p) = .error (2, off + p.2)) := ⟨if_pos hlt⟩
   have q0 : (at_ < (s.size : Int)) = True := eq_true (by rw [n2]; omega)
   have q1 : decide (at_ < (s.size : Int)) = true := decide_eq_true (by rw [n2]; omega)
   replace n2 := ak n2
   clear hlt hs
   go_upto_region 6 with (fail)
   rw [← HW3.out]
   have hw := by have h := hw2.out; rw [← i64_w] at h; exact h
   have hne : w.heap.size ≠ w2.heap.size := by intro e; have hb := HX3.out.box; rw [← e, HX3.out.res] at hb; simp at hb
   have hn1 : w.heap.size ≠ w.heap.size + 1 := by omega
   refine start_ (n := 8) (S := fun w' => w'.cell? ⟨w2.heap.size, 7, none⟩ = some (.int .i64 at_) ∧ w'.cell? ⟨w.heap.size + 1, 0, none⟩ = some (.int .u8 0) ∧ w'.cell? ⟨w.heap.size + 1, 1, none⟩ = some (.int .i64 0) ∧ w'.cell? ⟨w.heap.size + 1, 2, none⟩ = some (.int .i64 0) ∧ w'.cell? ⟨w.heap.size + 1, 3, none⟩ = some (.int .i64 0) ∧ w'.cell? ⟨w.heap.size + 1, 4, none⟩ = some (.int .i64 0) ∧ w'.cell? ⟨w.heap.size + 1, 5, none⟩ = some (.int .i64 0) ∧ w'.cell? ⟨w.heap.size + 1, 6, none⟩ = some (.slice none 0 0)) (ds := []) #[false, false, false, false, false, false, false, false] (by kernel_rfl) rfl rfl ⟨x7, y0, y1, y2, y3, y4, y5, y6⟩ (fun hHeld => ?_)
   refine pu2 1 (some 28) #[false, true, false, false, false, false, false, false] (h := ?_)
   refine pu2 3 (some 30) #[false, true, false, true, false, false, false, false] (h := ?_)
   refine tk2 0 (some 27) #[true, true, false, true, false, false, false, false] (h := ?_)
   refine tk2 2 (some 29) #[true, true, true, true, false, false, false, false] (h := ?_)
   refine pu2 4 (some 31) #[true, true, true, true, true, false, false, false] (h := ?_)
   refine one_ (i := 5) (N := none) #[true, true, true, true, true, true, false, false] rfl rfl (by kernel_rfl) (by decide) (fun K hK => ?_)
   refine skip_ (w1 := ?_) (by rfl) rfl ?_ ?_
   rotate_left
   ·go_simp
    exact rfl
   refine hK.out _ _ ⟨(far7d hne x7), (far7d hn1 y0), (far7d hn1 y1), (far7d hn1 y2), (far7d hn1 y3), (far7d hn1 y4), (far7d hn1 y5), (far7d hn1 y6)⟩ (fun hHeld => ?_)
   clear hK K
   refine pu2 6 (some 5) #[true, true, true, true, true, true, true, false] (h := ?_)
   refine pu2 7 (some 6) #[true, true, true, true, true, true, true, true] (h := ?_)
   refine done_ (by kernel_rfl) ?_
   go_wp2
   have HP := wres_drew (wres_zero HX3.out (2, (off + at_)))
   obtain ⟨WO, hWO⟩ : ∃ WO, WO = (((((((W3.setCell ⟨w.heap.size, 0, none⟩ (.int .u8 0)).setCell ⟨w.heap.size, 1, none⟩ (.int .i64 0)).setCell ⟨w.heap.size, 2, none⟩ (.int .i64 0)).setCell ⟨w.heap.size, 3, none⟩ (.int .i64 0)).setCell ⟨w.heap.size, 4, none⟩ (.int .i64 0)).setCell ⟨w.heap.size, 5, none⟩ (.int .i64 0)).setCell ⟨w.heap.size, 6, none⟩ (.slice none 0 0)) := ⟨_, rfl⟩
   rw [← hWO] at HP
   have HZ0 : WO.heap[w.heap.size]? = some (.cells zeroA 27 (0, 0)) := by rw [hWO]; exact blk_set (blk_set (blk_set (blk_set (blk_set (blk_set (blk_set HX3.out.res 0 _) 1 _) 2 _) 3 _) 4 _) 5 _) 6 _
   have HZ : WO.drew.heap[w.heap.size]? = some (.cells zeroA 27 (0, 0)) := HZ0
   obtain ⟨⟨g0, g1, g2, g3, g4, g5, g6⟩, -⟩ := zero_cells HZ
   rw [← hWO]
   refine bodyPost_ret (v := .tuple #[.agg zeroA, .int .i64 2, .int .i64 (off + at_)]) (by simp [results, Tryz.results28, go_sem, g0, g1, g2, g3, g4, g5, g6]) rfl ?_
   rw [HRR.out, ← n2.out]
   exact HP
  ·have q0 : (at_ < (s.size : Int)) = False := eq_false (by rw [n2]; omega)
   have q1 : decide (at_ < (s.size : Int)) = false := decide_eq_false (by rw [n2]; omega)
   have HR : Aside0 (wholeP s mayB tilesB off (.ok p) = if mayB p.1 = false then .error (1, 0) else if tilesB p.1 = false then .error (5, 0) else .ok p.1) := ⟨if_neg hlt⟩
   obtain ⟨A', c', hAe, hcl, hrow⟩ := Kd.R_reads HX3.out.row
   injection hAe with e1 e2 e3
   subst e1; subst e3
   have HMM := ak (HM.out p rfl W3 A c hrow hcl)
   have HTT : Aside0 (∀ W, Below W3.heap.size W3 W → Calls Tryz.prog 23 #[.agg #[.int .u8 p.1.f0, .int .i64 p.1.f1.f0, .int .i64 p.1.f1.f1, .int .i64 p.1.f1.f2, .int .i64 p.1.f1.f3, .int .i64 p.1.f2, .slice A p.1.f3.length c]] W fun e w' => e = .returned (.bool (tilesB p.1)) ∧ Below W.heap.size W w') := ⟨fun W hb => HT.out p rfl W A c (Kd.C_below hrow hb) hcl⟩
   generalize mayB p.1 = bm at *
   generalize tilesB p.1 = bt at *
   clear hlt hs hrow hcl n2 HM HT hw1 hw2 hno hx ha hn hsx e2
   go_wp2_with fail
   rw [← HW3.out]
   refine HMM.out.mono ?_
   rintro e w4 ⟨rfl, hb4⟩
   have HX4 : Aside0 (WBox w w4 w2.heap.size p.1 A c at_ 0 site) := ⟨HX3.out.below hb4⟩
   have HB4 := ak hb4
   clear hb4 x0 x1 x2 x3 x4 x5 x6 x7 x8 x9 r0 r1 r2 r3 r4 r5 r6 f0 f1 f2 f3 f4 f5 f6 y0 y1 y2 y3 y4 y5 y6
   have h4 := HX4.out
   obtain ⟨x0, x1, x2, x3, x4, x5, x6, x7, x8, x9⟩ := h4.cells
   obtain ⟨⟨r0, r1, r2, r3, r4, r5, r6⟩, f0, f1, f2, f3, f4, f5, f6⟩ := zero_cells (W := w4) h4.res
   obtain ⟨⟨y0, y1, y2, y3, y4, y5, y6⟩, -⟩ := zero_cells (W := w4) h4.nil
   clear h4
   cases bm with
   | false =>
    go_wp2
    refine bodyPost_ret (v := .tuple #[.agg zeroA, .int .i64 1, .int .i64 0]) (by simp [results, Tryz.results28, go_sem, r0, r1, r2, r3, r4, r5, r6]) rfl ?_
    rw [HR.out, if_pos trivial]
    exact wres_zero HX4.out (1, 0)
   | true =>
    go_wp2_with fail
    refine (HTT.out w4 HB4.out).mono ?_
    rintro e w5 ⟨rfl, hb5⟩
    have HX5 : Aside0 (WBox w w5 w2.heap.size p.1 A c at_ 0 site) := ⟨HX4.out.below hb5⟩
    clear hb5 x0 x1 x2 x3 x4 x5 x6 x7 x8 x9 r0 r1 r2 r3 r4 r5 r6 f0 f1 f2 f3 f4 f5 f6 y0 y1 y2 y3 y4 y5 y6
    have h5 := HX5.out
    obtain ⟨x0, x1, x2, x3, x4, x5, x6, x7, x8, x9⟩ := h5.cells
    obtain ⟨⟨r0, r1, r2, r3, r4, r5, r6⟩, f0, f1, f2, f3, f4, f5, f6⟩ := zero_cells (W := w5) h5.res
    obtain ⟨⟨y0, y1, y2, y3, y4, y5, y6⟩, -⟩ := zero_cells (W := w5) h5.nil
    clear h5
    cases bt with
    | false =>
     go_wp2
     refine bodyPost_ret (v := .tuple #[.agg zeroA, .int .i64 5, .int .i64 0]) (by simp [results, Tryz.results28, go_sem, r0, r1, r2, r3, r4, r5, r6]) rfl ?_
     rw [HR.out, if_neg (by simp), if_pos trivial]
     exact wres_zero HX5.out (5, 0)
    | true =>
     go_wp2
     refine bodyPost_ret (v := .tuple #[.agg #[.int .u8 p.1.f0, .int .i64 p.1.f1.f0, .int .i64 p.1.f1.f1, .int .i64 p.1.f1.f2, .int .i64 p.1.f1.f3, .int .i64 p.1.f2, .slice A p.1.f3.length c], .int .i64 0, .int .i64 0]) (by simp [results, Tryz.results28, go_sem, r0, r1, r2, r3, r4, r5, r6]) rfl ?_
     rw [HR.out, if_neg (by simp), if_neg (by simp)]
     exact wres_tree HX5.out
theorem res_tree {w W : World} {R : Except (Int × Int) SC} {A : Option Addr} {c : Nat} (hb : Below w.heap.size w W) (hR : Kd.R k27 27 W (w.heap.size + 1) (fun _ => True) (.slice A (treeR R).f3.length c) (treeR R).f3) :
  RefPost w R (.returned (.tuple #[.agg #[.int .u8 (treeR R).f0, .int .i64 (treeR R).f1.f0, .int .i64 (treeR R).f1.f1, .int .i64 (treeR R).f1.f2, .int .i64 (treeR R).f1.f3, .int .i64 (treeR R).f2, .slice A (treeR R).f3.length c], .int .i64 (noR R), .int .i64 (atR R)])) (((((((W.setCell ⟨w.heap.size, 0, none⟩ (.int .u8 (treeR R).f0)).setCell ⟨w.heap.size, 1, none⟩ (.int .i64 (treeR R).f1.f0)).setCell ⟨w.heap.size, 2, none⟩ (.int .i64 (treeR R).f1.f1)).setCell ⟨w.heap.size, 3, none⟩ (.int .i64 (treeR R).f1.f2)).setCell ⟨w.heap.size, 4, none⟩ (.int .i64 (treeR R).f1.f3)).setCell ⟨w.heap.size, 5, none⟩ (.int .i64 (treeR R).f2)).setCell ⟨w.heap.size, 6, none⟩ (.slice A (treeR R).f3.length c)) :=
 ⟨A, c, rfl, Kd.R_lower (R_set7 hR (by omega) _ _ _ _ _ _ _) (by omega), (((((((hb.setCell (p := ⟨w.heap.size, 0, none⟩) (Nat.le_refl _) _).setCell (p := ⟨w.heap.size, 1, none⟩) (Nat.le_refl _) _).setCell (p := ⟨w.heap.size, 2, none⟩) (Nat.le_refl _) _).setCell (p := ⟨w.heap.size, 3, none⟩) (Nat.le_refl _) _).setCell (p := ⟨w.heap.size, 4, none⟩) (Nat.le_refl _) _).setCell (p := ⟨w.heap.size, 5, none⟩) (Nat.le_refl _) _).setCell (p := ⟨w.heap.size, 6, none⟩) (Nat.le_refl _) _)⟩
theorem tiles_f (c : SC) (hl : (cells c).length ≤ 10000) (k : Nat) (hk : 200000000 < k) : sashref06_Tiles.f k c.f0 c.f1.f0 c.f1.f1 c.f1.f2 c.f1.f3 c.f2 c.f3 = some (tilesB c) := by
 unfold sashref06_Tiles.f
 rw [Check_f c hl k hk, tilesB_no]
 simp only [Option.bind_some]
 congr 1
theorem cellR_at {s : ByteArray} {p : SC × Nat} (h : cellR s = .ok p) : p.2 ≤ s.size := by
 have e := cellR_eq s
 rw [h] at e
 exact ((places headR headB_R s _).1 0 1 p (Nat.zero_le _) e).2
theorem rcell_c (s : ByteArray) (hs : s.size ≤ 100000) (W : World) : Calls Tryz.prog 51 #[.string s, .int .i64 0, .int .i64 1] W (RCellPost W (cellR s)) := by
 have h := cellR_f s hs (42 * s.size + 80) (Nat.le_refl _)
 have e : cellT (cellR s) = ((pTree (cellR s)).f0, (pTree (cellR s)).f1.f0, (pTree (cellR s)).f1.f1, (pTree (cellR s)).f1.f2, (pTree (cellR s)).f1.f3, (pTree (cellR s)).f2, (pTree (cellR s)).f3, pAt (cellR s), pNo (cellR s), pSite (cellR s)) := by cases cellR s <;> rfl
 rw [e] at h
 refine (sashref11_cell.calls _ s 0 1 _ _ _ _ _ _ _ _ _ _ W h).mono ?_
 rintro e' w' ⟨v, rfl, hR, hb⟩
 obtain ⟨A, c, rfl⟩ := Kd.R_slice hR
 exact ⟨A, c, rfl, hR, hb⟩
theorem rwhole_c (s : ByteArray) (hs : s.size ≤ 65535) (off : Int) (ho : 0 ≤ off ∧ off ≤ 1000) (w : World) : Calls Tryz.prog 28 #[.string s, .int .i64 off] w (RefPost w (wholeA s off)) := by
 have hsm : ∀ p, cellR s = .ok p → (cells p.1).length ≤ 10000 := fun p hp => by have := cellR_size hp; omega
 refine rwhole_walk w s off (cellR s) ho (by omega) ?_ ?_ ?_ (rcell_c s (by omega)) ?_ ?_
 ·cases hr : cellR s with
  | error q => exact ⟨Int.le_refl _, by show (0 : Int) ≤ 100000; decide⟩
  | ok p => have := cellR_at hr; exact ⟨Int.natCast_nonneg _, by show (p.2 : Int) ≤ 100000; omega⟩
 ·cases hr : cellR s with
  | error q => have := cellR_site hr; exact ⟨Int.natCast_nonneg _, by show (q.2 : Int) ≤ 100000; omega⟩
  | ok p => exact ⟨Int.le_refl _, by show (0 : Int) ≤ 100000; decide⟩
 ·intro q hq; have := cellR_no (by omega) hq; omega
 ·intro p hp W A c hC hc
  exact (sashref05_May.calls 200000001 _ _ _ _ _ _ A c p.1.f3 _ W hC hc (May_f p.1 (hsm p hp) _ (by omega))).mono fun e w' h => h
 ·intro p hp W A c hC hc
  exact (sashref06_Tiles.calls 200000001 _ _ _ _ _ _ A c p.1.f3 _ W hC hc (tiles_f p.1 (hsm p hp) _ (by omega))).mono fun e w' h => h
end Go.Proofs.YtkobpbbegalfpaaGreatDoor
