/-
  Joined texts: TiRef, TiRef2.
-/
import Derived.Test.YtakhnigalkjhhaaGreatDoorTiCut
import Derived.Test.YtakhnigalkjhhaaGreatDoorTiTop2
import Derived.Test.YtakhnigalkjhhaaGreatDoorPPrintFitsx9
/-
  The document's answers about trees: what the printed references compute. Pure.
-/
namespace Go.Proofs.YtakhnigalkjhhaaGreatDoor
open Go.RowKit Go.Proofs.YtakhnigalkjhhaaGreatDoorW.PrintWords Go.Proofs.YtakhnigalkjhhaaGreatDoorW.PrintLast Go.Proofs.YtakhnigalkjhhaaGreatDoorW.PrintMore Go.Proofs.YtakhnigalkjhhaaGreatDoor.PPrintFits
set_option linter.unusedVariables false
set_option linter.unusedSimpArgs false

theorem rd_T_getD (l : List SC) (i : Nat) : rd_T30 l (i : Int) = l.getD i z30 := by simp [rd_T30]
theorem rd_R_getD (l : List SR) (i : Nat) : rd_T28 l (i : Int) = l.getD i z28 := by simp [rd_T28]
theorem dropT (l : List SC) (i : Nat) (h : i < l.length) : l.drop i = l.getD i z30 :: l.drop (i + 1) := by
  rw [List.drop_eq_getElem_cons h, List.getD_eq_getElem?_getD, List.getElem?_eq_getElem h]; rfl
theorem takeT (l : List SC) (i : Nat) (h : i < l.length) : l.take (i + 1) = l.take i ++ [l.getD i z30] := by
  rw [List.take_add_one, List.getElem?_eq_getElem h, List.getD_eq_getElem?_getD, List.getElem?_eq_getElem h]; rfl
theorem getT_mem (l : List SC) (i : Nat) (h : i < l.length) : l.getD i z30 ∈ l := by
  rw [List.getD_eq_getElem?_getD, List.getElem?_eq_getElem h]; exact List.getElem_mem _
theorem SC.eta (c : SC) : (⟨c.f0, ⟨c.f1.f0, c.f1.f1, c.f1.f2, c.f1.f3⟩, c.f2, c.f3⟩ : SC) = c := by cases c; rfl
theorem wi (i : Nat) (h : i < 1000000000) : wrap64 ((i : Int) + 1) = ((i + 1 : Nat) : Int) := by
  have e : ((i + 1 : Nat) : Int) = (i : Int) + 1 := rfl
  rw [e]; exact w64s (by omega) (by omega)

theorem ref04_May_eq (r : SR) : sashref04_May.f r.f0 r.f1 r.f2 r.f3 = some (rectOk r) := by
  have h0 : rectOk r = true ↔ _ := rectOk_iff r
  unfold sashref04_May.f
  by_cases a : r.f0 < 0
  · rw [if_pos a]; congr 1; symm; rw [Bool.eq_false_iff]; intro h; have := h0.1 h; omega
  · rw [if_neg a]
    by_cases b : r.f0 > 10000
    · rw [if_pos b]; congr 1; symm; rw [Bool.eq_false_iff]; intro h; have := h0.1 h; omega
    · rw [if_neg b]
      by_cases c : r.f1 < 0
      · rw [if_pos c]; congr 1; symm; rw [Bool.eq_false_iff]; intro h; have := h0.1 h; omega
      · rw [if_neg c]
        by_cases d : r.f1 > 10000
        · rw [if_pos d]; congr 1; symm; rw [Bool.eq_false_iff]; intro h; have := h0.1 h; omega
        · rw [if_neg d]
          by_cases e : r.f2 > 0
          · rw [if_pos e]
            by_cases f : r.f2 ≤ 10000
            · rw [if_pos f]
              by_cases g : r.f3 > 0
              · rw [if_pos g]
                by_cases h : r.f3 ≤ 10000
                · rw [if_pos h, w64s (by omega) (by omega), w64s (by omega) (by omega)]
                  by_cases i : r.f0 + r.f2 ≤ 10000
                  · rw [if_pos i]
                    congr 1
                    rw [Bool.eq_iff_iff, h0, decide_eq_true_iff]
                    omega
                  · rw [if_neg i]; congr 1; symm; rw [Bool.eq_false_iff]; intro h; have := h0.1 h; omega
                · rw [if_neg h]; congr 1; symm; rw [Bool.eq_false_iff]; intro h; have := h0.1 h; omega
              · rw [if_neg g]; congr 1; symm; rw [Bool.eq_false_iff]; intro h; have := h0.1 h; omega
            · rw [if_neg f]; congr 1; symm; rw [Bool.eq_false_iff]; intro h; have := h0.1 h; omega
          · rw [if_neg e]; congr 1; symm; rw [Bool.eq_false_iff]; intro h; have := h0.1 h; omega

def AllF (k : Nat) (c : SC) : Option (List SC) := sashref05_All.f k c.f0 c.f1.f0 c.f1.f1 c.f1.f2 c.f1.f3 c.f2 c.f3
theorem cellsL_split (l : List SC) (i : Nat) (h : i < l.length) : cellsL (l.take (i + 1)) = cellsL (l.take i) ++ cells (l.getD i z30) := by
  rw [takeT l i h, cellsL_flat, cellsL_flat, List.flatMap_append]; simp
theorem cellsL_drop (l : List SC) (i : Nat) (h : i < l.length) : (cellsL (l.drop i)).length = (cells (l.getD i z30)).length + (cellsL (l.drop (i + 1))).length := by
  rw [dropT l i h, cellsL_cons, List.length_append]
theorem cellsL_td (l : List SC) (i : Nat) : (cellsL (l.take i)).length + (cellsL (l.drop i)).length = (cellsL l).length := by
  conv => rhs; rw [← List.take_append_drop i l]
  rw [cellsL_flat, cellsL_flat, cellsL_flat, List.flatMap_append, List.length_append]

theorem All_f (c : SC) : (cells c).length ≤ 100000 → ∀ k, 2 * (cells c).length < k → AllF k c = some (cells c) := by
  refine cell_ind (P := fun c => (cells c).length ≤ 100000 → ∀ k, 2 * (cells c).length < k → AllF k c = some (cells c)) (fun c ih hs k hk => ?_) c
  have hcl : (cells c).length = 1 + (cellsL c.f3).length := by rw [cells_eq]; simp; omega
  have hge := cellsL_ge c.f3
  obtain ⟨k, rfl⟩ : ∃ m, k = m + 1 := ⟨k - 1, by omega⟩
  have loop : ∀ (d k i : Nat), c.f3.length - i = d → i ≤ c.f3.length → 2 * (cellsL (c.f3.drop i)).length + 1 < k →
      sashref05_All.l0 k ([c] ++ cellsL (c.f3.take i)) (c.f3.length : Int) (i : Int) c.f0 c.f1.f0 c.f1.f1 c.f1.f2 c.f1.f3 c.f2 c.f3 = some (cells c) := by
    intro d
    induction d with
    | zero =>
      intro k i hd hi hk
      obtain ⟨k, rfl⟩ : ∃ m, k = m + 1 := ⟨k - 1, by omega⟩
      simp only [sashref05_All.l0]
      rw [if_neg (by omega), List.take_of_length_le (by omega), cells_eq]
      rfl
    | succ d ihd =>
      intro k i hd hi hk
      obtain ⟨k, rfl⟩ : ∃ m, k = m + 1 := ⟨k - 1, by omega⟩
      have hlt : i < c.f3.length := by omega
      have h1 := cellsL_drop c.f3 i hlt
      have h2 := cells_pos (c.f3.getD i z30)
      have h3 := cellsL_td c.f3 i
      have hk2 := kid_le _ c.f3 (getT_mem c.f3 i hlt)
      have hk1 := ih _ (getT_mem c.f3 i hlt) (by omega) k (by omega)
      unfold AllF at hk1
      simp only [sashref05_All.l0]
      rw [if_pos (by omega), if_pos (by omega), if_pos (by omega), rd_T_getD, hk1]
      simp only [Option.bind_some]
      rw [if_pos (by rw [List.length_append]; simp only [List.length_cons, List.length_nil]; omega), wi i (by omega), List.append_assoc, ← cellsL_split c.f3 i hlt]
      exact ihd k (i + 1) (by omega) (by omega) (by omega)
  unfold AllF
  simp only [sashref05_All.f]
  rw [SC.eta]
  have := loop c.f3.length k 0 (by omega) (by omega) (by rw [List.drop_zero]; omega)
  simpa [cellsL_nil] using this

theorem filter_dropT (p : SC → Bool) (l : List SC) (i : Nat) (h : i < l.length) : (l.drop i).filter p = (if p (l.getD i z30) = true then [l.getD i z30] else []) ++ (l.drop (i + 1)).filter p := by
  rw [dropT l i h, List.filter_cons]
  split <;> simp
theorem Leaves_l0 (l : List SC) (hl : l.length ≤ 100000) : ∀ (d k i : Nat) (acc : List SC), l.length - i = d → i ≤ l.length → d < k → acc.length ≤ i →
    sashref05_Leaves.l0 k acc l (l.length : Int) (i : Int) = some (acc ++ (l.drop i).filter (fun x => decide (x.f0 = 1))) := by
  intro d
  induction d with
  | zero =>
    intro k i acc hd hi hk ha
    obtain ⟨k, rfl⟩ : ∃ m, k = m + 1 := ⟨k - 1, by omega⟩
    simp only [sashref05_Leaves.l0]
    rw [if_neg (by omega), List.drop_eq_nil_of_le (by omega)]; simp
  | succ d ih =>
    intro k i acc hd hi hk ha
    obtain ⟨k, rfl⟩ : ∃ m, k = m + 1 := ⟨k - 1, by omega⟩
    have hlt : i < l.length := by omega
    simp only [sashref05_Leaves.l0]
    rw [if_pos (by omega), if_pos (by omega), if_pos (by omega), rd_T_getD, filter_dropT _ l i hlt, wi i (by omega)]
    by_cases h : (l.getD i z30).f0 = 1
    · rw [if_pos h, if_pos (by omega), if_pos (by simpa using h), SC.eta, ih k (i + 1) _ (by omega) (by omega) (by omega) (by rw [List.length_append]; simp only [List.length_cons, List.length_nil]; omega)]
      simp
    · rw [if_neg h, if_neg (by simpa using h), ih k (i + 1) _ (by omega) (by omega) (by omega) (by omega)]
      simp
theorem Leaves_f (c : SC) (hl : (cells c).length ≤ 100000) (k : Nat) (hk : 2 * (cells c).length < k) : sashref05_Leaves.f k c.f0 c.f1.f0 c.f1.f1 c.f1.f2 c.f1.f3 c.f2 c.f3 = some (leavesOf c) := by
  have h := All_f c hl k hk
  unfold AllF at h
  unfold sashref05_Leaves.f
  rw [h]
  simp only [Option.bind_some]
  have := Leaves_l0 (cells c) hl (cells c).length k 0 [] (by omega) (by omega) (by omega) (by simp)
  simpa [leavesOf] using this

/-! may -/
def ndL (pre : List Int) : List Int → Bool
  | [] => true
  | x :: r => !(pre.contains x) && ndL (pre ++ [x]) r
theorem ndL_iff : ∀ (l pre : List Int), ndL pre l = true ↔ l.Nodup ∧ ∀ x ∈ l, x ∉ pre := by
  intro l
  induction l with
  | nil => intro pre; simp [ndL]
  | cons x r ih =>
    intro pre
    simp only [ndL, Bool.and_eq_true, ih, Bool.not_eq_true', List.nodup_cons]
    constructor
    · rintro ⟨h1, h2, h3⟩
      have hx : x ∉ pre := by intro h; rw [List.contains_iff_mem.2 h] at h1; cases h1
      refine ⟨⟨fun h => h3 x h (by simp), h2⟩, fun y hy => ?_⟩
      rcases List.mem_cons.1 hy with rfl | hy
      · exact hx
      · exact fun h => h3 y hy (by simp [h])
    · rintro ⟨⟨h1, h2⟩, h3⟩
      refine ⟨?_, h2, fun y hy h => ?_⟩
      · rw [Bool.eq_false_iff]; intro h; exact h3 x (by simp) (List.contains_iff_mem.1 h)
      · rcases List.mem_append.1 h with h | h
        · exact h3 y (by simp [hy]) h
        · obtain rfl : y = x := by simpa using h
          exact h1 hy
theorem ids_drop (l : List SC) (i : Nat) (h : i < l.length) : (l.map (·.f2)).drop i = (l.getD i z30).f2 :: (l.map (·.f2)).drop (i + 1) := by
  rw [← List.map_drop, dropT l i h, List.map_cons, List.map_drop]
theorem ids_take (l : List SC) (i : Nat) (h : i < l.length) : (l.map (·.f2)).take (i + 1) = (l.map (·.f2)).take i ++ [(l.getD i z30).f2] := by
  rw [← List.map_take, takeT l i h, List.map_append, List.map_take]; rfl

theorem May_l2 (t : List SC) (ht : t.length ≤ 300) (i : Nat) (hi : i < t.length) : ∀ (d k j : Nat), i - j = d → j ≤ i → d < k → ∃ k', k - d - 1 ≤ k' ∧
    sashref05_May.l2 k t (i : Int) (j : Int) (t.length : Int) (i : Int) = if (((t.map (·.f2)).take i).drop j).contains (t.getD i z30).f2 = true then some false else sashref05_May.l1 k' t (t.length : Int) ((i + 1 : Nat) : Int) := by
  intro d
  induction d with
  | zero =>
    intro k j hd hj hk
    obtain ⟨k, rfl⟩ : ∃ m, k = m + 1 := ⟨k - 1, by omega⟩
    refine ⟨k, by omega, ?_⟩
    simp only [sashref05_May.l2]
    rw [if_neg (by omega), wi i (by omega), List.drop_eq_nil_of_le (by rw [List.length_take]; omega), if_neg (by simp)]
  | succ d ih =>
    intro k j hd hj hk
    obtain ⟨k, rfl⟩ : ∃ m, k = m + 1 := ⟨k - 1, by omega⟩
    obtain ⟨k', hk', hh⟩ := ih k (j + 1) (by omega) (by omega) (by omega)
    refine ⟨k', by omega, ?_⟩
    simp only [sashref05_May.l2]
    rw [if_pos (by omega), if_pos (by omega), if_pos (by omega), if_pos (by omega), if_pos (by omega), rd_T_getD, rd_T_getD, wi j (by omega), hh]
    have hjl : j < ((t.map (·.f2)).take i).length := by rw [List.length_take, List.length_map]; omega
    have e : ((t.map (·.f2)).take i).drop j = (t.getD j z30).f2 :: ((t.map (·.f2)).take i).drop (j + 1) := by
      rw [List.drop_eq_getElem_cons hjl]
      congr 1
      rw [List.getElem_take, List.getElem_map, List.getD_eq_getElem?_getD, List.getElem?_eq_getElem (by omega)]
      rfl
    rw [e]
    by_cases h : (t.getD i z30).f2 = (t.getD j z30).f2
    · rw [if_pos h, h, if_pos (by simp)]
    · rw [if_neg h]
      have : ((t.getD j z30).f2 :: ((t.map (·.f2)).take i).drop (j + 1)).contains (t.getD i z30).f2 = (((t.map (·.f2)).take i).drop (j + 1)).contains (t.getD i z30).f2 := by
        rw [List.contains_cons]
        have : ((t.getD i z30).f2 == (t.getD j z30).f2) = false := beq_eq_false_iff_ne.2 h
        rw [this, Bool.false_or]
      rw [this]
theorem May_l1 (t : List SC) (ht : t.length ≤ 300) (B : Nat) (hB : 302 ≤ B) : ∀ (d k i : Nat), t.length - i = d → i ≤ t.length → d * B < k → sashref05_May.l1 k t (t.length : Int) (i : Int) = some (ndL ((t.map (·.f2)).take i) ((t.map (·.f2)).drop i)) := by
  intro d
  induction d with
  | zero =>
    intro k i hd hi hk
    obtain ⟨k, rfl⟩ : ∃ m, k = m + 1 := ⟨k - 1, by omega⟩
    simp only [sashref05_May.l1]
    rw [if_neg (by omega), List.drop_eq_nil_of_le (by rw [List.length_map]; omega)]
    rfl
  | succ d ih =>
    intro k i hd hi hk
    obtain ⟨k, rfl⟩ : ∃ m, k = m + 1 := ⟨k - 1, by omega⟩
    have hk2 : d * B + B < k + 1 := by rwa [Nat.succ_mul] at hk
    obtain ⟨k', hk', hh⟩ := May_l2 t ht i (by omega) i k 0 (by omega) (by omega) (by omega)
    have hkk : d * B < k' := by omega
    have hih := ih k' (i + 1) (by omega) (by omega) hkk
    simp only [sashref05_May.l1]
    have hz : ((0 : Nat) : Int) = 0 := rfl
    rw [hz] at hh
    rw [if_pos (by omega), hh, List.drop_zero, ids_drop t i (by omega), hih, ids_take t i (by omega)]
    simp only [ndL]
    cases ((t.map (·.f2)).take i).contains (t.getD i z30).f2 <;> simp

theorem May_step (l : List SC) (i : Nat) (hi : i < l.length) (hl : l.length ≤ 100000) (k : Nat) (c : SC) :
    sashref05_May.l0 (k + 2) l (l.length : Int) (i : Int) c.f0 c.f1.f0 c.f1.f1 c.f1.f2 c.f1.f3 c.f2 c.f3 =
      if (rectOk (l.getD i z30).f1 && nodeOk (l.getD i z30)) = true then sashref05_May.l0 k l (l.length : Int) ((i + 1 : Nat) : Int) c.f0 c.f1.f0 c.f1.f1 c.f1.f2 c.f1.f3 c.f2 c.f3 else some false := by
  conv => lhs; simp only [sashref05_May.l0, sashref05_May.j1]
  rw [if_pos (by omega), if_pos (by omega), if_pos (by omega), rd_T_getD, ref04_May_eq]
  simp only [Option.bind_some]
  rw [wi i (by omega), nodeOk_B]
  have hp : 0 ≤ (i : Int) := by omega
  have hq : (i : Int) < (l.length : Int) := by omega
  simp only [if_pos hp, if_pos hq]
  generalize l.getD i z30 = x
  cases hr : rectOk x.f1 with
  | false => simp
  | true =>
    simp only [if_true, Bool.true_and]
    by_cases h1 : x.f0 < 1
    · rw [if_pos h1]
      have : nodeB x.f0 x.f2 x.f3.length = false := by unfold nodeB; rw [if_neg (by omega), if_neg (by omega)]
      rw [this]; simp
    · rw [if_neg h1]
      by_cases h3 : x.f0 > 3
      · have : nodeB x.f0 x.f2 x.f3.length = false := by unfold nodeB; rw [if_neg (by omega), if_neg (by omega)]
        rw [this, decide_eq_true h3]; simp
      · rw [decide_eq_false h3]
        simp only [Bool.false_eq_true, if_false]
        unfold nodeB
        by_cases hk : x.f0 = 1
        · rw [if_pos hk, if_pos hk]
          by_cases a : (x.f3.length : Int) > 0
          · rw [if_pos a]
            have : ¬ x.f3.length = 0 := by omega
            simp [this]
          · rw [if_neg a]
            have e : x.f3.length = 0 := by omega
            by_cases b : x.f2 < 0
            · rw [if_pos b]; simp; omega
            · rw [if_neg b]
              by_cases d : x.f2 > 2147483647
              · rw [if_pos d]; simp; omega
              · rw [if_neg d, if_neg (by omega)]
                have : (decide (x.f3.length = 0) && decide (0 ≤ x.f2 ∧ x.f2 ≤ 2147483647)) = true := by simp [e]; omega
                rw [if_pos this]
        · rw [if_neg hk, if_neg hk, if_pos (show x.f0 > 1 by omega), if_pos (show x.f0 = 2 ∨ x.f0 = 3 by omega)]
          by_cases a : (x.f3.length : Int) < 2
          · rw [if_pos a]
            have : ¬ 2 ≤ x.f3.length := by omega
            simp [this]
          · rw [if_neg a]
            by_cases b : x.f2 = 0
            · rw [if_pos b]
              have : decide (2 ≤ x.f3.length ∧ x.f2 = 0) = true := decide_eq_true ⟨by omega, b⟩
              rw [if_pos this]
            · rw [if_neg b]; simp [b]
theorem May_l0 (l : List SC) (hl : l.length ≤ 100000) (c : SC) : ∀ (d k i : Nat), l.length - i = d → i ≤ l.length → 2 * d < k → ∃ k', k - 2 * d - 1 ≤ k' ∧
    sashref05_May.l0 k l (l.length : Int) (i : Int) c.f0 c.f1.f0 c.f1.f1 c.f1.f2 c.f1.f3 c.f2 c.f3 = if (l.drop i).all (fun x => rectOk x.f1 && nodeOk x) = true then ((sashref05_Leaves.f k' c.f0 c.f1.f0 c.f1.f1 c.f1.f2 c.f1.f3 c.f2 c.f3).bind fun t229 => (sashref05_May.l1 k' t229 (t229.length : Int) 0)) else some false := by
  intro d
  induction d with
  | zero =>
    intro k i hd hi hk
    obtain ⟨k, rfl⟩ : ∃ m, k = m + 1 := ⟨k - 1, by omega⟩
    refine ⟨k, by omega, ?_⟩
    simp only [sashref05_May.l0]
    rw [if_neg (by omega), List.drop_eq_nil_of_le (by omega)]
    simp
  | succ d ih =>
    intro k i hd hi hk
    obtain ⟨k, rfl⟩ : ∃ m, k = m + 2 := ⟨k - 2, by omega⟩
    obtain ⟨k', hk', hh⟩ := ih k (i + 1) (by omega) (by omega) (by omega)
    refine ⟨k', by omega, ?_⟩
    rw [May_step l i (by omega) hl, hh, dropT l i (by omega), List.all_cons]
    cases (rectOk (l.getD i z30).f1 && nodeOk (l.getD i z30)) <;> simp

theorem May_f (c : SC) (hl : (cells c).length ≤ 300) (k : Nat) (hk : 100000 < k) : sashref05_May.f k c.f0 c.f1.f0 c.f1.f1 c.f1.f2 c.f1.f3 c.f2 c.f3 = some (mayB c) := by
  have h := All_f c (by omega) k (by omega)
  unfold AllF at h
  unfold sashref05_May.f
  rw [h]
  simp only [Option.bind_some]
  rw [if_neg (by omega)]
  obtain ⟨k', hk', hh⟩ := May_l0 (cells c) (by omega) c (cells c).length k 0 (by omega) (by omega) (by omega)
  have hz : ((0 : Nat) : Int) = 0 := rfl
  rw [hz, List.drop_zero] at hh
  rw [hh]
  have hlv : (leavesOf c).length ≤ 300 := Nat.le_trans (List.length_filter_le _ _) hl
  by_cases ha : (cells c).all (fun x => rectOk x.f1 && nodeOk x) = true
  · rw [if_pos ha, Leaves_f c (by omega) k' (by omega)]
    simp only [Option.bind_some]
    have hl1 := May_l1 (leavesOf c) hlv 310 (by decide) (leavesOf c).length k' 0 (by omega) (by omega) (by omega)
    rw [hz, List.take_zero, List.drop_zero] at hl1
    rw [hl1]
    congr 1
    rw [Bool.eq_iff_iff, ndL_iff, may_iff]
    have e : (leavesOf c).map (·.f2) = leafIds (cells c) := rfl
    rw [e]
    constructor
    · rintro ⟨h1, _⟩
      refine ⟨by omega, fun x hx => ?_, h1⟩
      have := List.all_eq_true.1 ha x hx
      rw [Bool.and_eq_true] at this
      exact ⟨this.2, this.1⟩
    · rintro ⟨_, _, h⟩
      exact ⟨h, fun _ _ h => by cases h⟩
  · rw [if_neg ha]
    congr 1
    symm
    rw [Bool.eq_false_iff]
    intro hm
    apply ha
    rw [List.all_eq_true]
    intro x hx
    have := ((may_iff c).1 hm).2.1 x hx
    rw [this.1, this.2]; rfl
end Go.Proofs.YtakhnigalkjhhaaGreatDoor

/-
  The document's answers about trees: what tiles, and the rest. Pure.
-/
namespace Go.Proofs.YtakhnigalkjhhaaGreatDoor
open Go.RowKit Go.Proofs.YtakhnigalkjhhaaGreatDoorW.PrintWords Go.Proofs.YtakhnigalkjhhaaGreatDoorW.PrintLast Go.Proofs.YtakhnigalkjhhaaGreatDoorW.PrintMore Go.Proofs.YtakhnigalkjhhaaGreatDoor.PPrintFits
set_option linter.unusedVariables false
set_option linter.unusedSimpArgs false

theorem RCut_l0 (r : SR) (ax : Int) (hr : rectOk r = true) (hax : ax = 1 ∨ ax = 2) (l : List Int) (hl : l.length ≤ 100000) : ∀ (d k i : Nat) (off : Int) (P L : List SR), l.length - i = d → i ≤ l.length → 3 * d < k → 0 ≤ off → off ≤ wholeR r ax → P.length ≤ i → L.length ≤ i →
    sashref04_Cut.l0 k ax l [] (wholeR r ax) P L off (l.length : Int) (i : Int) r.f0 r.f1 r.f2 r.f3 = some (cutRes r ax (decide (i = 0)) off (l.drop i) P L) := by
  obtain ⟨x0, w0, xw⟩ := rXW_bd r ax hr hax
  have hro := (rectOk_iff r).1 hr
  have hw : wholeR r ax ≤ 10000 := by omega
  intro d
  induction d with
  | zero =>
    intro k i off P L hd hi hk h0 h1 hP hL
    obtain ⟨k, rfl⟩ : ∃ m, k = m + 1 := ⟨k - 1, by omega⟩
    have hn : l.drop i = [] := List.drop_eq_nil_of_le (by omega)
    simp only [sashref04_Cut.l0]
    rw [if_neg (by omega), hn]
    unfold cutRes cutOk
    by_cases h : off = wholeR r ax
    · rw [if_pos h, if_pos (by simpa using h)]; simp [cutParts, cutLines]
    · rw [if_neg h, if_neg (by simpa using h)]
  | succ d ih =>
    intro k i off P L hd hi hk h0 h1 hP hL
    obtain ⟨k, rfl⟩ : ∃ m, k = m + 3 := ⟨k - 3, by omega⟩
    have hlt : i < l.length := by omega
    rw [drop_getD l i hlt]
    have e5 := Aside0.mk (wi i (by omega))
    have e1 := Aside0.mk (w64s (n := off + 1) (by omega) (by omega))
    have e2 := Aside0.mk (w64s (n := r.f0 + off) (by omega) (by omega))
    have e3 := Aside0.mk (w64s (n := r.f1 + off) (by omega) (by omega))
    have e2' := Aside0.mk (w64s (n := r.f0 + (off + 1)) (by omega) (by omega))
    have e3' := Aside0.mk (w64s (n := r.f1 + (off + 1)) (by omega) (by omega))
    have mk1 : ∀ o n : Int, (if ax = 1 then (⟨r.f0 + o, r.f1, n, r.f3⟩ : SR) else ⟨r.f0, r.f1 + o, r.f2, n⟩) = mkR r ax o n := fun o n => rfl
    -- one step behind the line, at offset o
    have step : ∀ (o : Int) (L' : List SR), 0 ≤ o → o ≤ wholeR r ax + 1 → o = offA (decide (i = 0)) off → L'.length ≤ i + 1 →
        sashref04_Cut.j3 (k + 2) ax l [] (wholeR r ax) P L' o (i : Int) (l.length : Int) (i : Int) r.f0 r.f1 r.f2 r.f3 =
          if 1 ≤ l.getD i 0 ∧ l.getD i 0 ≤ wholeR r ax - o then sashref04_Cut.l0 k ax l [] (wholeR r ax) (P ++ [mkR r ax o (l.getD i 0)]) L' (o + l.getD i 0) (l.length : Int) ((i + 1 : Nat) : Int) r.f0 r.f1 r.f2 r.f3 else some ([], [], false) := by
      intro o L' ho0 ho1 _ _
      have f2 := Aside0.mk (w64s (n := r.f0 + o) (by omega) (by omega))
      have f3 := Aside0.mk (w64s (n := r.f1 + o) (by omega) (by omega))
      simp only [sashref04_Cut.j3, sashref04_Cut.j4]
      rw [if_pos (by omega), if_pos (by omega), rd_getD, e5.out]
      generalize l.getD i 0 = n
      have hp : 0 ≤ (i : Int) := by omega
      have hq : (i : Int) < (l.length : Int) := by omega
      have hpl : P.length < 4398046511104 := by omega
      simp only [if_pos hp, if_pos hq, if_pos hpl, f2.out, f3.out]
      by_cases a : n < 1
      · rw [if_pos a, if_pos trivial, if_neg (by omega)]
      · rw [if_neg a]
        by_cases b : n > wholeR r ax
        · rw [if_pos b, if_pos trivial, if_neg (by omega)]
        · rw [if_neg b]
          have f4 := Aside0.mk (w64s (n := o + n) (by omega) (by omega))
          rw [f4.out]
          by_cases c : o + n > wholeR r ax
          · rw [decide_eq_true c, if_pos rfl, if_neg (by omega)]
          · rw [decide_eq_false c, if_neg (by decide), if_pos (show 1 ≤ n ∧ n ≤ wholeR r ax - o by omega), ← mk1]
            rcases hax with rfl | rfl
            · simp
            · simp
    simp only [sashref04_Cut.l0]
    rw [if_pos (by omega)]
    generalize hg : l.getD i 0 = n at step ⊢
    have hdec : cutRes r ax (decide (i = 0)) off (n :: l.drop (i + 1)) P L = if 1 ≤ n ∧ n ≤ wholeR r ax - offA (decide (i = 0)) off then cutRes r ax false (offA (decide (i = 0)) off + n) (l.drop (i + 1)) (P ++ [mkR r ax (offA (decide (i = 0)) off) n]) (L ++ if i = 0 then [] else [mkR r ax off 1]) else ([], [], false) := by
      unfold cutRes
      simp only [cutOk, cutParts, cutLines]
      by_cases h : 1 ≤ n ∧ n ≤ wholeR r ax - offA (decide (i = 0)) off
      · have hb := decide_eq_true h
        simp only [hb, Bool.true_and]
        rw [if_pos h]
        by_cases h00 : i = 0 <;> simp [h00]
      · have hb := decide_eq_false h
        simp only [hb, Bool.false_and]
        rw [if_neg h]; simp
    rw [hdec]
    by_cases h00 : i = 0
    · subst h00
      have hoff : offA (decide ((0 : Nat) = 0)) off = off := rfl
      rw [if_neg (by omega), step off L h0 (by omega) rfl (by omega), hoff]
      by_cases h : 1 ≤ n ∧ n ≤ wholeR r ax - off
      · rw [if_pos h, if_pos h, if_pos rfl, List.append_nil]
        have := ih k 1 (off + n) (P ++ [mkR r ax off n]) L (by omega) (by omega) (by omega) (by omega) (by omega) (by rw [List.length_append]; simp only [List.length_cons, List.length_nil]; omega) (by omega)
        have hd1 : decide ((1 : Nat) = 0) = false := rfl
        rw [hd1] at this
        exact this
      · rw [if_neg h, if_neg h]
    · have hoff : offA (decide (i = 0)) off = off + 1 := by rw [decide_eq_false h00]; rfl
      rw [if_pos (by omega), e1.out, e2.out, e3.out, hoff, if_neg h00]
      have hLl : L.length < 4398046511104 := by omega
      simp only [if_pos hLl]
      have hboth : (if ax = 1 then sashref04_Cut.j3 (k + 2) ax l [] (wholeR r ax) P (L ++ [(⟨r.f0 + off, r.f1, 1, r.f3⟩ : SR)]) (off + 1) (i : Int) (l.length : Int) (i : Int) r.f0 r.f1 r.f2 r.f3 else sashref04_Cut.j3 (k + 2) ax l [] (wholeR r ax) P (L ++ [(⟨r.f0, r.f1 + off, r.f2, 1⟩ : SR)]) (off + 1) (i : Int) (l.length : Int) (i : Int) r.f0 r.f1 r.f2 r.f3) = sashref04_Cut.j3 (k + 2) ax l [] (wholeR r ax) P (L ++ [mkR r ax off 1]) (off + 1) (i : Int) (l.length : Int) (i : Int) r.f0 r.f1 r.f2 r.f3 := by
        rw [← mk1]
        rcases hax with rfl | rfl <;> simp
      rw [hboth, step (off + 1) (L ++ [mkR r ax off 1]) (by omega) (by omega) hoff.symm (by rw [List.length_append]; simp only [List.length_cons, List.length_nil]; omega)]
      by_cases h : 1 ≤ n ∧ n ≤ wholeR r ax - (off + 1)
      · rw [if_pos h, if_pos h]
        have := ih k (i + 1) (off + 1 + n) (P ++ [mkR r ax (off + 1) n]) (L ++ [mkR r ax off 1]) (by omega) (by omega) (by omega) (by omega) (by omega) (by rw [List.length_append]; simp only [List.length_cons, List.length_nil]; omega) (by rw [List.length_append]; simp only [List.length_cons, List.length_nil]; omega)
        have hd1 : decide (i + 1 = 0) = false := rfl
        rw [hd1] at this
        exact this
      · rw [if_neg h, if_neg h]

theorem RCut_f (r : SR) (ax : Int) (hr : rectOk r = true) (hax : ax = 1 ∨ ax = 2) (l : List Int) (hl : l.length ≤ 100000) (hne : l ≠ []) (k : Nat) (hk : 3 * l.length + 3 < k) :
    sashref04_Cut.f k r.f0 r.f1 r.f2 r.f3 ax l = some (cutRes r ax true 0 l [] []) := by
  obtain ⟨k, rfl⟩ : ∃ m, k = m + 2 := ⟨k - 2, by omega⟩
  have hp := List.length_pos_iff.2 hne
  unfold sashref04_Cut.f
  rw [ref04_May_eq, hr]
  simp only [Option.bind_some, if_true]
  rw [if_neg (by omega), if_neg (by omega)]
  have : ((l.length : Int) == 0) = false := beq_eq_false_iff_ne.2 (by omega)
  rw [this]
  simp only [sashref04_Cut.j0, sashref04_Cut.j1]
  rw [if_neg (by decide)]
  have h := RCut_l0 r ax hr hax l hl l.length k 0 0 [] [] (by omega) (by omega) (by omega) (by omega) (by have := rXW_bd r ax hr hax; omega) (by simp) (by simp)
  rcases hax with rfl | rfl
  · rw [if_neg (by decide)]
    simpa [wholeR] using h
  · rw [if_pos rfl]
    simpa [wholeR] using h

theorem Sizes_f (c : SC) (hl : c.f3.length ≤ 100000) (k : Nat) (hk : c.f3.length < k) : sashref06_Sizes.f k c.f0 c.f1.f0 c.f1.f1 c.f1.f2 c.f1.f3 c.f2 c.f3 = some (sizesOf c) := by
  have hsl : (sizesOf c).length = c.f3.length := by simp [sizesOf]
  have loop : ∀ (d k i : Nat), c.f3.length - i = d → i ≤ c.f3.length → d < k → sashref06_Sizes.l0 k ((sizesOf c).take i) (c.f3.length : Int) (i : Int) c.f0 c.f1.f0 c.f1.f1 c.f1.f2 c.f1.f3 c.f2 c.f3 = some (sizesOf c) := by
    intro d
    induction d with
    | zero =>
      intro k i hd hi hk
      obtain ⟨k, rfl⟩ : ∃ m, k = m + 1 := ⟨k - 1, by omega⟩
      simp only [sashref06_Sizes.l0]
      rw [if_neg (by omega), List.take_of_length_le (by omega)]
    | succ d ih =>
      intro k i hd hi hk
      obtain ⟨k, rfl⟩ : ∃ m, k = m + 1 := ⟨k - 1, by omega⟩
      have hlt : i < c.f3.length := by omega
      have htk : (sizesOf c).take (i + 1) = (sizesOf c).take i ++ [if c.f0 = 2 then (rd_T30 c.f3 (i : Int)).f1.f2 else (rd_T30 c.f3 (i : Int)).f1.f3] := by
        rw [List.take_add_one, List.getElem?_eq_getElem (by omega)]
        simp [sizesOf, rd_T30, List.getD_eq_getElem?_getD, List.getElem?_eq_getElem hlt]
      have := ih k (i + 1) (by omega) (by omega) (by omega)
      rw [htk] at this
      simp only [sashref06_Sizes.l0]
      rw [if_pos (by omega), wi i (by omega)]
      by_cases h2 : c.f0 = 2
      · rw [if_pos h2, if_pos (by omega), if_pos (by omega), if_pos (by rw [List.length_take]; omega)]
        rw [if_pos h2] at this
        exact this
      · rw [if_neg h2, if_pos (by omega), if_pos (by omega), if_pos (by rw [List.length_take]; omega)]
        rw [if_neg h2] at this
        exact this
  unfold sashref06_Sizes.f
  have := loop c.f3.length k 0 (by omega) (by omega) hk
  simpa using this

theorem ne_sr (a b : SR) : (!(a.f0 == b.f0) || (!(a.f1 == b.f1) || (!(a.f2 == b.f2) || !(a.f3 == b.f3)))) = !decide (a = b) := by
  by_cases h : a = b
  · subst h; simp
  · rw [decide_eq_false h]
    by_cases h0 : a.f0 = b.f0
    · by_cases h1 : a.f1 = b.f1
      · by_cases h2 : a.f2 = b.f2
        · by_cases h3 : a.f3 = b.f3
          · exact absurd (sr_ext h0 h1 h2 h3) h
          · simp [h3]
        · simp [h2]
      · simp [h1]
    · simp [h0]
def oneOf (c : SC) : List SR × Bool := match linesS c with
  | some l => (l, true)
  | none => ([], false)
theorem one_f (c : SC) (hn : nodeOk c = true) (hr : rectOk c.f1 = true) (hl : c.f3.length ≤ 10000) (k : Nat) (hk : 5 * c.f3.length + 10 < k) : sashref06_one.f k c.f0 c.f1.f0 c.f1.f1 c.f1.f2 c.f1.f3 c.f2 c.f3 = some (oneOf c) := by
  unfold sashref06_one.f oneOf
  by_cases hk1 : c.f0 = 1
  · have : linesS c = some [] := by simp [linesS, hk1]
    rw [if_pos hk1, this]
  · have hk23 : c.f0 = 2 ∨ c.f0 = 3 := by
      unfold nodeOk at hn
      rw [if_neg hk1] at hn
      by_cases h : c.f0 = 2 ∨ c.f0 = 3
      · exact h
      · rw [if_neg h] at hn; cases hn
    have h2 : 2 ≤ c.f3.length := by
      unfold nodeOk at hn
      rw [if_neg hk1, if_pos hk23, decide_eq_true_eq] at hn
      exact hn.1
    have hsl : (sizesOf c).length = c.f3.length := by simp [sizesOf]
    have hm : (c.f0 - 1) % 256 = c.f0 - 1 := by omega
    rw [if_neg hk1, Sizes_f c (by omega) k (by omega)]
    simp only [Option.bind_some]
    rw [hm, RCut_f c.f1 (c.f0 - 1) hr (by omega) (sizesOf c) (by omega) (by intro h; rw [h] at hsl; simp at hsl; omega) k (by omega)]
    simp only [Option.bind_some]
    rw [linesS_cut c hr hk23 h2]
    have hres : (cutRes c.f1 (c.f0 - 1) true 0 (sizesOf c) [] []).2.2 = true → (cutRes c.f1 (c.f0 - 1) true 0 (sizesOf c) [] []).1.length = c.f3.length := by
      unfold cutRes
      split
      · intro _; simp [cutParts_len, hsl]
      · intro h; cases h
    have hres2 : (cutRes c.f1 (c.f0 - 1) true 0 (sizesOf c) [] []).2.2 = false → (cutRes c.f1 (c.f0 - 1) true 0 (sizesOf c) [] []).2.1 = [] := by
      unfold cutRes
      split
      · intro h; cases h
      · intro _; rfl
    generalize cutRes c.f1 (c.f0 - 1) true 0 (sizesOf c) [] [] = r at *
    obtain ⟨ps, ls, b⟩ := r
    simp only at hres hres2 ⊢
    cases b with
    | false => rw [hres2 rfl]; simp
    | true =>
      have hpl := hres rfl
      rw [if_pos rfl]
      have loop : ∀ (d k i : Nat), ps.length - i = d → i ≤ ps.length → d < k → (c.f3.take i).map (·.f1) = ps.take i →
          sashref06_one.l0 k ps ls (ps.length : Int) (i : Int) c.f0 c.f1.f0 c.f1.f1 c.f1.f2 c.f1.f3 c.f2 c.f3 = some (if c.f3.map (·.f1) = ps then (ls, true) else ([], false)) := by
        intro d
        induction d with
        | zero =>
          intro k i hd hi hk he
          obtain ⟨k, rfl⟩ : ∃ m, k = m + 1 := ⟨k - 1, by omega⟩
          rw [List.take_of_length_le (by omega), List.take_of_length_le (by omega)] at he
          simp only [sashref06_one.l0]
          rw [if_neg (by omega), if_pos he]
        | succ d ih =>
          intro k i hd hi hk he
          obtain ⟨k, rfl⟩ : ∃ m, k = m + 1 := ⟨k - 1, by omega⟩
          simp only [sashref06_one.l0]
          rw [if_pos (by omega), if_pos (by omega), if_pos (by omega), if_pos (by omega), rd_T_getD, rd_R_getD, ne_sr, wi i (by omega)]
          by_cases h : (c.f3.getD i z30).f1 = ps.getD i z28
          · rw [decide_eq_true h.symm, if_neg (by decide)]
            exact ih k (i + 1) (by omega) (by omega) (by omega) (take_map_succ c.f3 ps i (by omega) (by omega) he h)
          · rw [decide_eq_false (fun h' => h h'.symm), if_pos (by decide), if_neg (take_map_ne c.f3 ps i (by omega) (by omega) h)]
      have := loop ps.length k 0 (by omega) (by omega) (by omega) (by simp)
      have hz : ((0 : Nat) : Int) = 0 := rfl
      rw [hz] at this
      rw [this]
      by_cases h : c.f3.map (·.f1) = ps
      · rw [if_pos h, if_pos ⟨rfl, h⟩]
      · rw [if_neg h, if_neg (fun h' => h h'.2)]

theorem oneOf_none {c : SC} (h : linesS c = none) : oneOf c = ([], false) := by unfold oneOf; rw [h]
theorem oneOf_some {c : SC} {l : List SR} (h : linesS c = some l) : oneOf c = (l, true) := by unfold oneOf; rw [h]
theorem Check_l0 (l : List SC) (hl : l.length ≤ 300) (hn : ∀ x ∈ l, nodeOk x = true ∧ rectOk x.f1 = true ∧ x.f3.length ≤ 300) : ∀ (d k i : Nat) (acc : List SR), l.length - i = d → i ≤ l.length → d + 2000 < k → acc.length ≤ i * 300 →
    sashref06_Check.l0 k [] l acc (l.length : Int) (i : Int) = some (if (visitL walkStep (i, acc) (l.drop i)).1 = true then ((visitL walkStep (i, acc) (l.drop i)).2.2, 0, 0) else ([], 5, ((visitL walkStep (i, acc) (l.drop i)).2.1 : Int))) := by
  intro d
  induction d with
  | zero =>
    intro k i acc hd hi hk ha
    obtain ⟨k, rfl⟩ : ∃ m, k = m + 1 := ⟨k - 1, by omega⟩
    simp only [sashref06_Check.l0]
    rw [if_neg (by omega), List.drop_eq_nil_of_le (by omega)]
    simp [visitL]
  | succ d ih =>
    intro k i acc hd hi hk ha
    obtain ⟨k, rfl⟩ : ∃ m, k = m + 1 := ⟨k - 1, by omega⟩
    have hlt : i < l.length := by omega
    obtain ⟨h1, h2, h3⟩ := hn _ (getT_mem l i hlt)
    simp only [sashref06_Check.l0]
    rw [if_pos (by omega), if_pos (by omega), if_pos (by omega), rd_T_getD, one_f _ h1 h2 (by omega) k (by omega), dropT l i hlt]
    simp only [Option.bind_some]
    generalize l.getD i z30 = x at *
    cases hs : linesS x with
    | none =>
      rw [oneOf_none hs]
      simp [visitL, walkStep_none hs]
    | some q =>
      have hq := linesS_len hs
      have hm : acc.length + q.length ≤ (i + 1) * 300 := by rw [Nat.add_mul]; omega
      have hi3 : (i + 1) * 300 ≤ 301 * 300 := Nat.mul_le_mul_right _ (by omega)
      rw [oneOf_some hs]
      simp only [if_true]
      rw [if_pos (by omega), wi i (by omega), ih k (i + 1) (acc ++ q) (by omega) (by omega) (by omega) (by rw [List.length_append]; exact hm)]
      simp [visitL, walkStep_some hs]

theorem Check_f (c : SC) (hl : (cells c).length ≤ 300) (k : Nat) (hk : 100000 < k) : sashref06_Check.f k c.f0 c.f1.f0 c.f1.f1 c.f1.f2 c.f1.f3 c.f2 c.f3 = some (linesAns c, chkNo c, chkAt c) := by
  have hA := All_f c (by omega) k (by omega)
  unfold AllF at hA
  unfold sashref06_Check.f
  simp only [Option.bind_some]
  rw [May_f c hl k hk]
  simp only [Option.bind_some]
  unfold linesAns chkNo chkAt tilesB
  cases hm : mayB c with
  | false => simp
  | true =>
    simp only [if_true, Bool.true_and]
    rw [hA]
    simp only [Option.bind_some]
    have hn : ∀ x ∈ cells c, nodeOk x = true ∧ rectOk x.f1 = true ∧ x.f3.length ≤ 300 := fun x hx => by
      have h2 := ((may_iff c).1 hm).2.1 x hx
      have := kids_le x hx
      exact ⟨h2.1, h2.2, by omega⟩
    have h := Check_l0 (cells c) hl hn (cells c).length k 0 [] (by omega) (by omega) (by omega) (by simp)
    have hz : ((0 : Nat) : Int) = 0 := rfl
    rw [hz, List.drop_zero] at h
    rw [h]
    have hw : visitL walkStep (0, []) (cells c) = walkV c := rfl
    rw [hw]
    cases hq : (walkV c).1 with
    | false => simp
    | true => simp [lnR_walk c hq]
theorem count_f (c : SC) : (cells c).length ≤ 2000000 → ∀ (k : Nat), 2 * (cells c).length < k → ∃ n : Int, sashref05_count.f k c.f0 c.f1.f0 c.f1.f1 c.f1.f2 c.f1.f3 c.f2 c.f3 200 = some n ∧ 1 ≤ n ∧ n ≤ (cells c).length ∧ (n ≤ 200 → n = (cells c).length) := by
  refine cell_ind (P := fun c => (cells c).length ≤ 2000000 → ∀ (k : Nat), 2 * (cells c).length < k → ∃ n : Int, sashref05_count.f k c.f0 c.f1.f0 c.f1.f1 c.f1.f2 c.f1.f3 c.f2 c.f3 200 = some n ∧ 1 ≤ n ∧ n ≤ (cells c).length ∧ (n ≤ 200 → n = (cells c).length)) (fun c ih hs k hk => ?_) c
  have hcl : (cells c).length = 1 + (cellsL c.f3).length := by rw [cells_eq]; simp; omega
  have hge := cellsL_ge c.f3
  obtain ⟨k, rfl⟩ : ∃ m, k = m + 1 := ⟨k - 1, by omega⟩
  have loop : ∀ (d k i : Nat) (a : Int), c.f3.length - i = d → i ≤ c.f3.length → 2 * (cellsL (c.f3.drop i)).length + 1 < k → 1 ≤ a → a ≤ 1 + (cellsL (c.f3.take i)).length → (a ≤ 200 → a = 1 + (cellsL (c.f3.take i)).length) →
      ∃ n : Int, sashref05_count.l0 k 200 a (c.f3.length : Int) (i : Int) c.f0 c.f1.f0 c.f1.f1 c.f1.f2 c.f1.f3 c.f2 c.f3 = some n ∧ 1 ≤ n ∧ n ≤ (cells c).length ∧ (n ≤ 200 → n = (cells c).length) := by
    intro d
    induction d with
    | zero =>
      intro k i a hd hi hk h1 h2 h3
      obtain ⟨k, rfl⟩ : ∃ m, k = m + 1 := ⟨k - 1, by omega⟩
      rw [List.take_of_length_le (by omega)] at h2 h3
      refine ⟨a, ?_, h1, by omega, fun h => by have := h3 h; omega⟩
      simp only [sashref05_count.l0]
      rw [if_neg (by omega)]
    | succ d ihd =>
      intro k i a hd hi hk h1 h2 h3
      obtain ⟨k, rfl⟩ : ∃ m, k = m + 1 := ⟨k - 1, by omega⟩
      have hlt : i < c.f3.length := by omega
      have q1 := cellsL_drop c.f3 i hlt
      have q2 := cells_pos (c.f3.getD i z30)
      have q3 := cellsL_td c.f3 i
      have q4 := kid_le _ c.f3 (getT_mem c.f3 i hlt)
      have q5 : (cellsL (c.f3.take (i + 1))).length = (cellsL (c.f3.take i)).length + (cells (c.f3.getD i z30)).length := by rw [cellsL_split c.f3 i hlt, List.length_append]
      by_cases ha : a > 200
      · refine ⟨a, ?_, h1, by omega, fun h => by omega⟩
        simp only [sashref05_count.l0]
        rw [if_pos (by omega), if_pos ha]
      · have h3' := h3 (by omega)
        obtain ⟨m, hm, m1, m2, m3⟩ := ih _ (getT_mem c.f3 i hlt) (by omega) k (by omega)
        have hw := w64s (n := a + m) (by omega) (by omega)
        obtain ⟨n, hn, n1⟩ := ihd k (i + 1) (a + m) (by omega) (by omega) (by omega) (by omega) (by omega) (fun h => by have := m3 (by omega); omega)
        refine ⟨n, ?_, n1⟩
        simp only [sashref05_count.l0]
        rw [if_pos (by omega), if_neg ha, if_pos (by omega), if_pos (by omega), rd_T_getD, hm]
        simp only [Option.bind_some]
        rw [hw, wi i (by omega)]
        exact hn
  have hz : ((0 : Nat) : Int) = 0 := rfl
  obtain ⟨n, hn, n1⟩ := loop c.f3.length k 0 1 (by omega) (by omega) (by rw [List.drop_zero]; omega) (by omega) (by omega) (fun _ => by simp [cellsL_nil])
  refine ⟨n, ?_, n1⟩
  simp only [sashref05_count.f]
  rw [hz] at hn
  exact hn
end Go.Proofs.YtakhnigalkjhhaaGreatDoor
