/-
  What tiles: the leaves and the lines are apart, inside, and have all cells. Pure.
-/
import Derived.Test.YtakhnigalkjhhaaDoorTiPure
namespace Go.Proofs.YtakhnigalkjhhaaDoor
open Go.RowKit Go.Proofs.YtakhnigalkjhhaaDoorW.PrintWords Go.Proofs.YtakhnigalkjhhaaDoorW.PrintLast Go.Proofs.YtakhnigalkjhhaaDoorW.PrintMore Go.Proofs.YtakhnigalkjhhaaDoor.PTileChecks
set_option linter.unusedVariables false
set_option linter.unusedSimpArgs false

def GoodC (c : SC) : Prop := nodeOk c = true ∧ rectOk c.f1 = true ∧ (linesS c).isSome = true
def GoodT (c : SC) : Prop := ∀ x ∈ cells c, GoodC x
theorem GoodT.kid {c k : SC} (h : GoodT c) (hk : k ∈ c.f3) : GoodT k := fun x hx => h x (cells_kid hk x hx)
theorem tilesB_iff (c : SC) : tilesB c = true ↔ mayB c = true ∧ ∀ x ∈ cells c, (linesS x).isSome = true := by
  unfold tilesB walkV
  rw [Bool.and_eq_true, walk_visit]
theorem tiles_good {c : SC} (h : tilesB c = true) : GoodT c := by
  obtain ⟨h1, h2⟩ := (tilesB_iff c).1 h
  have h3 := ((may_iff c).1 h1).2.1
  exact fun x hx => ⟨(h3 x hx).1, (h3 x hx).2, h2 x hx⟩

def leavesOf (c : SC) : List SC := (cells c).filter (fun x => decide (x.f0 = 1))
def lvR (c : SC) : List SR := (leavesOf c).map (·.f1)
def lnR (c : SC) : List SR := (cells c).flatMap lnOf

theorem leaf_kids {c : SC} (h : nodeOk c = true) (hk : c.f0 = 1) : c.f3 = [] := by
  unfold nodeOk at h
  rw [if_pos hk, Bool.and_eq_true] at h
  exact List.isEmpty_iff.1 h.1
theorem leaf_cells {c : SC} (h : nodeOk c = true) (hk : c.f0 = 1) : cells c = [c] := by rw [cells_eq, leaf_kids h hk, cellsL_nil]
theorem leavesOf_inner {c : SC} (hk : c.f0 ≠ 1) : leavesOf c = c.f3.flatMap leavesOf := by
  unfold leavesOf
  rw [cells_eq, List.filter_cons_of_neg (by simpa using hk), cellsL_flat, List.filter_flatMap]
theorem lvR_inner {c : SC} (hk : c.f0 ≠ 1) : lvR c = c.f3.flatMap lvR := by
  unfold lvR
  rw [leavesOf_inner hk, List.map_flatMap]
theorem lnR_eq (c : SC) : lnR c = lnOf c ++ c.f3.flatMap lnR := by
  unfold lnR
  rw [cells_eq, List.flatMap_cons, cellsL_flat, List.flatMap_assoc]

/-- An inner cell that tiles. -/
structure Inner (c : SC) : Prop where
  kind : c.f0 = 2 ∨ c.f0 = 3
  two : 2 ≤ c.f3.length
  ok : rectOk c.f1 = true
  cut : cutOk (wholeR c.f1 (c.f0 - 1)) true 0 (sizesOf c) = true
  parts : c.f3.map (·.f1) = cutParts c.f1 (c.f0 - 1) true 0 (sizesOf c)
  lines : lnOf c = cutLines c.f1 (c.f0 - 1) true 0 (sizesOf c)
theorem inner_of {c : SC} (h : GoodC c) (hk : c.f0 ≠ 1) : Inner c := by
  obtain ⟨h1, h2, h3⟩ := h
  unfold nodeOk at h1
  rw [if_neg hk] at h1
  have hlin : lnOf c = (linesS c).getD [] := rfl
  unfold linesS at h3 hlin
  rw [if_neg hk] at h3 hlin
  by_cases hkk : c.f0 = 2 ∨ c.f0 = 3
  · rw [if_pos hkk, decide_eq_true_eq] at h1
    by_cases hc : cutGood c.f1 (c.f0 - 1) (sizesOf c) = true ∧ c.f3.map (·.f1) = cutParts c.f1 (c.f0 - 1) true 0 (sizesOf c)
    · rw [if_pos hc] at hlin
      have hg := hc.1
      unfold cutGood at hg
      simp only [Bool.and_eq_true] at hg
      exact ⟨hkk, h1.1, h2, hg.2, hc.2, hlin⟩
    · rw [if_neg hc] at h3; simp at h3
  · rw [if_neg hkk] at h1; cases h1
theorem Inner.ax {c : SC} (h : Inner c) : c.f0 - 1 = 1 ∨ c.f0 - 1 = 2 := by have := h.kind; omega
theorem Inner.whole {c : SC} (h : Inner c) : True := trivial

theorem flatMap_two {α β : Type} (f g : α → List β) : ∀ l : List α, (l.flatMap f ++ l.flatMap g).Perm (l.flatMap (fun x => f x ++ g x)) := by
  intro l
  induction l with
  | nil => simp
  | cons a l ih =>
    simp only [List.flatMap_cons]
    have h1 : (f a ++ l.flatMap f ++ (g a ++ l.flatMap g)).Perm (f a ++ g a ++ (l.flatMap f ++ l.flatMap g)) := by
      rw [List.append_assoc, List.append_assoc]
      refine List.Perm.append_left _ ?_
      rw [← List.append_assoc, ← List.append_assoc]
      exact List.Perm.append_right _ List.perm_append_comm
    exact h1.trans (List.Perm.append_left _ ih)
theorem items_perm {c : SC} (hk : c.f0 ≠ 1) : (lvR c ++ lnR c).Perm (lnOf c ++ c.f3.flatMap (fun k => lvR k ++ lnR k)) := by
  rw [lvR_inner hk, lnR_eq]
  refine List.Perm.trans ?_ (List.Perm.append_left (lnOf c) (flatMap_two lvR lnR c.f3))
  rw [← List.append_assoc, ← List.append_assoc]
  exact List.Perm.append_right _ List.perm_append_comm
theorem area_kids (l : List SC) (h : ∀ k ∈ l, areaL (lvR k) + areaL (lnR k) = area k.f1) : areaL (l.flatMap lvR) + areaL (l.flatMap lnR) = areaL (l.map (·.f1)) := by
  induction l with
  | nil => simp [areaL_nil]
  | cons k l ih =>
    have h1 := h k (by simp)
    have h2 := ih (fun x hx => h x (by simp [hx]))
    simp only [List.flatMap_cons, areaL_append, List.map_cons, areaL_cons]
    omega
theorem len_kids (l : List SC) (h : ∀ k ∈ l, (lnR k).length + 1 = (lvR k).length) : (l.flatMap lnR).length + l.length = (l.flatMap lvR).length := by
  induction l with
  | nil => simp
  | cons k l ih =>
    have h1 := h k (by simp)
    have h2 := ih (fun x hx => h x (by simp [hx]))
    simp only [List.flatMap_cons, List.length_append, List.length_cons]
    omega

structure Geo (c : SC) : Prop where
  ins : ∀ r ∈ lvR c ++ lnR c, insideP c.f1 r ∧ rectOk r = true
  apart : (lvR c ++ lnR c).Pairwise apartP
  area_ : areaL (lvR c) + areaL (lnR c) = area c.f1
  len : (lnR c).length + 1 = (lvR c).length
  cover : ∀ x y, hasP c.f1 x y → ∃ r ∈ lvR c ++ lnR c, hasP r x y

theorem lnOf_leaf {c : SC} (hk : c.f0 = 1) : lnOf c = [] := by simp [lnOf, linesS, hk]
theorem geo (c : SC) : GoodT c → Geo c := by
  refine cell_ind (P := fun c => GoodT c → Geo c) (fun c ih hG => ?_) c
  have hgc := hG c (cells_self c)
  by_cases hk : c.f0 = 1
  · have hcs := leaf_cells hgc.1 hk
    have e1 : lvR c = [c.f1] := by simp [lvR, leavesOf, hcs, hk]
    have e2 : lnR c = [] := by simp [lnR, hcs, lnOf_leaf hk]
    refine ⟨?_, ?_, ?_, ?_, ?_⟩
    · rw [e1, e2]
      intro r hr
      obtain rfl : r = c.f1 := by simpa using hr
      exact ⟨inside_refl _, hgc.2.1⟩
    · rw [e1, e2]; simp
    · rw [e1, e2]; simp [areaL_cons, areaL_nil]
    · rw [e1, e2]; rfl
    · rw [e1, e2]
      intro x y h
      exact ⟨c.f1, by simp, h⟩
  · have hI := inner_of hgc hk
    have hax := hI.ax
    have hK : ∀ k ∈ c.f3, Geo k := fun k hk' => ih k hk' (hG.kid hk')
    have hperm := items_perm hk
    obtain ⟨a1, a2, a3⟩ := cut_apart c.f1 (c.f0 - 1) _ hax (sizesOf c) true 0 (by omega) hI.cut
    have hpc := cut_pieces c.f1 (c.f0 - 1) _ (sizesOf c) true 0 (by omega) hI.cut
    have hpart : ∀ k ∈ c.f3, k.f1 ∈ cutParts c.f1 (c.f0 - 1) true 0 (sizesOf c) := fun k hk' => by rw [← hI.parts]; exact List.mem_map.2 ⟨k, hk', rfl⟩
    have hin : ∀ q, (q ∈ cutParts c.f1 (c.f0 - 1) true 0 (sizesOf c) ∨ q ∈ cutLines c.f1 (c.f0 - 1) true 0 (sizesOf c)) → insideP c.f1 q ∧ rectOk q = true := fun q hq => by
      obtain ⟨o, n, rfl, h1, h2, h3⟩ := hpc q hq
      exact ⟨mkR_inside _ _ _ _ h1 h3 hax, mkR_ok _ _ _ _ hI.ok h1 h2 h3 hax⟩
    refine ⟨?_, ?_, ?_, ?_, ?_⟩
    · intro r hr
      rcases List.mem_append.1 (hperm.mem_iff.1 hr) with h | h
      · rw [hI.lines] at h
        exact hin r (.inr h)
      · obtain ⟨k, hk1, hk2⟩ := List.mem_flatMap.1 h
        obtain ⟨h1, h2⟩ := (hK k hk1).ins r hk2
        exact ⟨inside_trans (hin _ (.inl (hpart k hk1))).1 h1, h2⟩
    · rw [hperm.pairwise_iff (fun h => h.symm)]
      refine List.pairwise_append.2 ⟨by rw [hI.lines]; exact a2, ?_, fun a ha b hb => ?_⟩
      · rw [List.pairwise_flatMap]
        refine ⟨fun k hk1 => (hK k hk1).apart, ?_⟩
        have hp : c.f3.Pairwise (fun a b => apartP a.f1 b.f1) := by
          rw [← hI.parts] at a1
          exact List.pairwise_map.1 a1
        refine List.Pairwise.imp_of_mem (fun {a b} ha hb h x hx y hy => ?_) hp
        exact apart_in h ((hK a ha).ins x hx).1 ((hK b hb).ins y hy).1
      · rw [hI.lines] at ha
        obtain ⟨k, hk1, hk2⟩ := List.mem_flatMap.1 hb
        exact (apart_in (a3 _ (hpart k hk1) a ha) ((hK k hk1).ins b hk2).1 (inside_refl _)).symm
    · have h1 := area_kids c.f3 (fun k hk1 => (hK k hk1).area_)
      have h2 := cut_area c.f1 (c.f0 - 1) _ (sizesOf c) true 0 hI.cut
      rw [lvR_inner hk, lnR_eq, areaL_append, hI.lines, whole_area c.f1 (c.f0 - 1)]
      rw [hI.parts] at h1
      rw [Int.sub_zero] at h2
      omega
    · have h1 := len_kids c.f3 (fun k hk1 => (hK k hk1).len)
      rw [lvR_inner hk, lnR_eq, List.length_append, hI.lines, cutLines_len, if_pos rfl]
      have h2 : (sizesOf c).length = c.f3.length := by simp [sizesOf]
      have := hI.two
      omega
    · intro x y h
      obtain ⟨b0, b1⟩ := coord_bd c.f1 (c.f0 - 1) x y hax h
      obtain ⟨o, n, h1, h2, h3⟩ := cut_cover c.f1 (c.f0 - 1) _ (coordR c.f1 (c.f0 - 1) x y) (sizesOf c) true 0 hI.cut b0 b1
      have hh : hasP (mkR c.f1 (c.f0 - 1) o n) x y := (mkR_has _ _ _ _ _ _ hax h).2 ⟨h2, h3⟩
      rcases h1 with h1 | h1
      · rw [← hI.parts] at h1
        obtain ⟨k, hk1, hk2⟩ := List.mem_map.1 h1
        rw [← hk2] at hh
        obtain ⟨r, hr1, hr2⟩ := (hK k hk1).cover x y hh
        exact ⟨r, hperm.mem_iff.2 (List.mem_append_right _ (List.mem_flatMap.2 ⟨k, hk1, hr1⟩)), hr2⟩
      · rw [← hI.lines] at h1
        exact ⟨_, hperm.mem_iff.2 (List.mem_append_left _ h1), hh⟩

/-! the leaf that has a cell -/
def hasB (r : SR) (x y : Int) : Bool := rectOk r && decide (hasP r x y)
mutual
def hitC (x y : Int) : SC → Int × Bool
  | ⟨k, _, i, l⟩ => if k = 1 then (i, true) else hitL x y l
def hitL (x y : Int) : List SC → Int × Bool
  | [] => (0, false)
  | c :: l => if hasB c.f1 x y = true then hitC x y c else hitL x y l
end
theorem hitC_eq (x y : Int) (c : SC) : hitC x y c = if c.f0 = 1 then (c.f2, true) else hitL x y c.f3 := by cases c; simp [hitC]
theorem hitL_nil (x y : Int) : hitL x y [] = (0, false) := by simp [hitL]
theorem hitL_cons (x y : Int) (c : SC) (l : List SC) : hitL x y (c :: l) = if hasB c.f1 x y = true then hitC x y c else hitL x y l := by simp [hitL]
def firstHit (x y : Int) : List SC → Int × Bool
  | [] => (0, false)
  | c :: l => if hasB c.f1 x y = true then (c.f2, true) else firstHit x y l
theorem firstHit_none (x y : Int) (l : List SC) (h : ∀ c ∈ l, hasB c.f1 x y = false) : firstHit x y l = (0, false) := by
  induction l with
  | nil => rfl
  | cons c l ih =>
    unfold firstHit
    rw [h c (by simp), if_neg (by decide)]
    exact ih (fun d hd => h d (by simp [hd]))
theorem firstHit_append (x y : Int) (a b : List SC) : firstHit x y (a ++ b) = if (firstHit x y a).2 = true then firstHit x y a else firstHit x y b := by
  induction a with
  | nil => simp [firstHit]
  | cons c a ih =>
    rw [List.cons_append]
    by_cases h : hasB c.f1 x y = true
    · simp [firstHit, h]
    · simp only [firstHit, if_neg h]; exact ih
theorem firstHit_snd (x y : Int) (l : List SC) : (firstHit x y l).2 = l.any (fun c => hasB c.f1 x y) := by
  induction l with
  | nil => rfl
  | cons c l ih =>
    unfold firstHit
    by_cases h : hasB c.f1 x y = true
    · rw [if_pos h]; simp [h]
    · rw [if_neg h, ih]; simp [h]
theorem firstHit_false (x y : Int) (l : List SC) (h : (firstHit x y l).2 = false) : firstHit x y l = (0, false) := by
  refine firstHit_none x y l (fun c hc => ?_)
  rw [firstHit_snd] at h
  have := List.any_eq_false.1 h c hc
  simpa using this
theorem lv_not {k : SC} {x y : Int} (hK : Geo k) (hG : GoodT k) (h : hasB k.f1 x y = false) : ∀ c ∈ leavesOf k, hasB c.f1 x y = false := by
  intro c hc
  have h1 := (hK.ins c.f1 (List.mem_append_left _ (List.mem_map.2 ⟨c, hc, rfl⟩))).1
  have hok := (hG k (cells_self k)).2.1
  unfold hasB at h ⊢
  rw [hok, Bool.true_and, decide_eq_false_iff_not] at h
  rw [Bool.and_eq_false_iff]
  right
  rw [decide_eq_false_iff_not]
  exact fun h' => h (has_in h1 h')
theorem hitL_eq (x y : Int) : ∀ (l : List SC), (∀ k ∈ l, GoodT k) → l.Pairwise (fun a b => apartP a.f1 b.f1) → (∀ k ∈ l, hasB k.f1 x y = true → hitC x y k = firstHit x y (leavesOf k)) → hitL x y l = firstHit x y (l.flatMap leavesOf) := by
  intro l
  induction l with
  | nil => intro _ _ _; simp [hitL_nil, firstHit]
  | cons c l ih =>
    intro hG hP hH
    rw [hitL_cons, List.flatMap_cons, firstHit_append]
    obtain ⟨hP1, hP2⟩ := List.pairwise_cons.1 hP
    by_cases h : hasB c.f1 x y = true
    · rw [if_pos h, hH c (by simp) h]
      cases hf : (firstHit x y (leavesOf c)).2 with
      | true => rw [if_pos rfl]
      | false =>
        rw [if_neg (by decide), firstHit_false x y _ hf]
        symm
        refine firstHit_none x y _ (fun d hd => ?_)
        obtain ⟨k, hk1, hk2⟩ := List.mem_flatMap.1 hd
        refine lv_not (geo k (hG k (by simp [hk1]))) (hG k (by simp [hk1])) ?_ d hk2
        unfold hasB at h ⊢
        rw [Bool.and_eq_true, decide_eq_true_eq] at h
        rw [Bool.and_eq_false_iff]
        right
        rw [decide_eq_false_iff_not]
        exact apart_has (hP1 k hk1) h.2
    · have h' : hasB c.f1 x y = false := by simpa using h
      rw [if_neg h, firstHit_none x y _ (lv_not (geo c (hG c (by simp))) (hG c (by simp)) h')]
      simp only [Bool.false_eq_true, if_false]
      exact ih (fun k hk => hG k (by simp [hk])) hP2 (fun k hk => hH k (by simp [hk]))
theorem hit_eq (x y : Int) (c : SC) : GoodT c → hasB c.f1 x y = true → hitC x y c = firstHit x y (leavesOf c) := by
  refine cell_ind (P := fun c => GoodT c → hasB c.f1 x y = true → hitC x y c = firstHit x y (leavesOf c)) (fun c ih hG hh => ?_) c
  have hgc := hG c (cells_self c)
  rw [hitC_eq]
  by_cases hk : c.f0 = 1
  · rw [if_pos hk]
    have : leavesOf c = [c] := by simp [leavesOf, leaf_cells hgc.1 hk, hk]
    rw [this]
    simp [firstHit, hh]
  · rw [if_neg hk, leavesOf_inner hk]
    have hI := inner_of hgc hk
    have a1 := (cut_apart c.f1 (c.f0 - 1) _ hI.ax (sizesOf c) true 0 (by omega) hI.cut).1
    rw [← hI.parts] at a1
    exact hitL_eq x y c.f3 (fun k hk1 => hG.kid hk1) (List.pairwise_map.1 a1) (fun k hk1 h => ih k hk1 (hG.kid hk1) h)
/-- A cell of what tiles is a leaf's, or a line's, never both. -/
theorem hit_line (x y : Int) (c : SC) (hG : GoodT c) (h : hasB c.f1 x y = true) : (firstHit x y (leavesOf c)).2 = !(lnR c).any (fun r => hasB r x y) := by
  have hg := geo c hG
  have hP : hasP c.f1 x y := by unfold hasB at h; rw [Bool.and_eq_true, decide_eq_true_eq] at h; exact h.2
  rw [firstHit_snd]
  have e : (leavesOf c).any (fun c => hasB c.f1 x y) = (lvR c).any (fun r => hasB r x y) := by simp [lvR, List.any_map, Function.comp_def]
  rw [e]
  obtain ⟨r, hr1, hr2⟩ := hg.cover x y hP
  have hrB : hasB r x y = true := by unfold hasB; rw [(hg.ins r hr1).2, Bool.true_and, decide_eq_true_eq]; exact hr2
  have hpw := (List.pairwise_append.1 hg.apart).2.2
  rcases List.mem_append.1 hr1 with h1 | h1
  · have e1 : (lvR c).any (fun r => hasB r x y) = true := List.any_eq_true.2 ⟨r, h1, hrB⟩
    have e2 : (lnR c).any (fun r => hasB r x y) = false := by
      rw [List.any_eq_false]
      intro q hq hqb
      unfold hasB at hqb
      rw [Bool.and_eq_true, decide_eq_true_eq] at hqb
      exact apart_has (hpw r h1 q hq) hr2 hqb.2
    rw [e1, e2]; rfl
  · have e1 : (lnR c).any (fun r => hasB r x y) = true := List.any_eq_true.2 ⟨r, h1, hrB⟩
    have e2 : (lvR c).any (fun r => hasB r x y) = false := by
      rw [List.any_eq_false]
      intro q hq hqb
      unfold hasB at hqb
      rw [Bool.and_eq_true, decide_eq_true_eq] at hqb
      exact apart_has (hpw q hq r h1) hqb.2 hr2
    rw [e1, e2]; rfl
end Go.Proofs.YtakhnigalkjhhaaDoor
