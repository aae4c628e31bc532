/-
  What the printed functions of rectangles compute. Pure.
-/
import Derived.Test.YtakhnigalkjhhaaTiRef
import Derived.Test.YtakhnigalkjhhaaTiPrintW
namespace Go.Proofs.Ytakhnigalkjhhaa
open Go.RowKit Go.Proofs.YtakhnigalkjhhaaW.PrintWords Go.Proofs.YtakhnigalkjhhaaW.PrintLast Go.Proofs.YtakhnigalkjhhaaW.PrintMore Go.Proofs.Ytakhnigalkjhhaa.PTileHits
set_option linter.unusedVariables false
set_option linter.unusedSimpArgs false

theorem dropR (l : List SC) (i : Nat) (h : i < l.length) : l.drop i = l.getD i z29 :: l.drop (i + 1) := by
  rw [List.drop_eq_getElem_cons h, List.getD_eq_getElem?_getD, List.getElem?_eq_getElem h]; rfl
theorem getR_mem (l : List SR) (i : Nat) (h : i < l.length) : l.getD i z27 ∈ l := by
  rw [List.getD_eq_getElem?_getD, List.getElem?_eq_getElem h]; exact List.getElem_mem _
theorem dropRR (l : List SR) (i : Nat) (h : i < l.length) : l.drop i = l.getD i z27 :: l.drop (i + 1) := by
  rw [List.drop_eq_getElem_cons h, List.getD_eq_getElem?_getD, List.getElem?_eq_getElem h]; rfl

theorem Rects_l0 (l : List SC) (hl : l.length ≤ 100000) : ∀ (d k i : Nat) (acc : List SR), l.length - i = d → i ≤ l.length → d < k → acc.length ≤ i →
    sashref06_Rects.l0 k acc l (l.length : Int) (i : Int) = some (acc ++ (l.drop i).map (·.f1)) := by
  intro d
  induction d with
  | zero =>
    intro k i acc hd hi hk ha
    obtain ⟨k, rfl⟩ : ∃ m, k = m + 1 := ⟨k - 1, by omega⟩
    simp only [sashref06_Rects.l0]
    rw [if_neg (by omega), List.drop_eq_nil_of_le (by omega)]; simp
  | succ d ih =>
    intro k i acc hd hi hk ha
    obtain ⟨k, rfl⟩ : ∃ m, k = m + 1 := ⟨k - 1, by omega⟩
    have hlt : i < l.length := by omega
    simp only [sashref06_Rects.l0]
    rw [if_pos (by omega), if_pos (by omega), if_pos (by omega), if_pos (by omega), rd_T_getD, SR.eta, wi i (by omega), dropR l i hlt,
      ih k (i + 1) _ (by omega) (by omega) (by omega) (by rw [List.length_append, List.length_singleton]; omega)]
    simp
theorem Rects_f (c : SC) (hl : (cells c).length ≤ 100000) (k : Nat) (hk : 2 * (cells c).length < k) : sashref06_Rects.f k c.f0 c.f1.f0 c.f1.f1 c.f1.f2 c.f1.f3 c.f2 c.f3 = some (lvR c) := by
  unfold sashref06_Rects.f
  rw [Leaves_f c hl k hk, Option.bind_some]
  have hle : (leavesOf c).length ≤ (cells c).length := List.length_filter_le _ _
  have := Rects_l0 (leavesOf c) (by omega) (leavesOf c).length k 0 [] (by omega) (by omega) (by omega) (by simp)
  simpa [lvR] using this

theorem Inside_f (a b : SR) (ha : rectOk a = true) (hb : rectOk b = true) (h : insideP a b) : sashref04_Inside.f a.f0 a.f1 a.f2 a.f3 b.f0 b.f1 b.f2 b.f3 = some true := by
  unfold sashref04_Inside.f
  rw [ref04_May_eq, ref04_May_eq, ha, hb]
  simp only [Option.bind_some, if_true]
  have h1 := (rectOk_iff a).1 ha
  have h2 := (rectOk_iff b).1 hb
  unfold insideP at h
  have e1 := w64s (n := b.f0 + b.f2) (by omega) (by omega)
  have e2 := w64s (n := a.f0 + a.f2) (by omega) (by omega)
  have e3 := w64s (n := b.f1 + b.f3) (by omega) (by omega)
  have e4 := w64s (n := a.f1 + a.f3) (by omega) (by omega)
  rw [e1, e2, e3, e4, if_pos (by omega), if_pos (by omega), if_pos (by omega)]
  exact congrArg some (decide_eq_true (by omega))

theorem Apart_f (a b : SR) (ha : rectOk a = true) (hb : rectOk b = true) (h : apartP a b) : sashref04_Apart.f a.f0 a.f1 a.f2 a.f3 b.f0 b.f1 b.f2 b.f3 = some true := by
  unfold sashref04_Apart.f
  have h1 := (rectOk_iff a).1 ha
  have h2 := (rectOk_iff b).1 hb
  unfold apartP at h
  have e1 := w64s (n := b.f0 + b.f2) (by omega) (by omega)
  have e2 := w64s (n := a.f0 + a.f2) (by omega) (by omega)
  have e3 := w64s (n := b.f1 + b.f3) (by omega) (by omega)
  have e4 := w64s (n := a.f1 + a.f3) (by omega) (by omega)
  rw [e1, e2, e3, e4]
  by_cases c1 : a.f0 + a.f2 ≤ b.f0
  · rw [if_pos c1]
  · rw [if_neg c1]
    by_cases c2 : b.f0 + b.f2 ≤ a.f0
    · rw [if_pos c2]
    · rw [if_neg c2]
      by_cases c3 : a.f1 + a.f3 ≤ b.f1
      · rw [if_pos c3]
      · rw [if_neg c3]
        exact congrArg some (decide_eq_true (by omega))

theorem RAll_l0 (l : List SR) (hl : l.length ≤ 100000) (hok : ∀ r ∈ l, rectOk r = true) : ∀ (d k i : Nat), l.length - i = d → i ≤ l.length → d < k →
    sashref04_All.l0 k l (l.length : Int) (i : Int) = some true := by
  intro d
  induction d with
  | zero =>
    intro k i hd hi hk
    obtain ⟨k, rfl⟩ : ∃ m, k = m + 1 := ⟨k - 1, by omega⟩
    simp only [sashref04_All.l0]
    rw [if_neg (by omega)]
  | succ d ih =>
    intro k i hd hi hk
    obtain ⟨k, rfl⟩ : ∃ m, k = m + 1 := ⟨k - 1, by omega⟩
    have hlt : i < l.length := by omega
    simp only [sashref04_All.l0]
    rw [if_pos (by omega), if_pos (by omega), if_pos (by omega), rd_R_getD, ref04_May_eq, hok _ (getR_mem l i hlt), Option.bind_some, if_pos rfl, wi i (by omega)]
    exact ih k (i + 1) (by omega) (by omega) (by omega)

theorem Aparts_l1 (l : List SR) (hl : l.length ≤ 100000) (hok : ∀ r ∈ l, rectOk r = true) (hp : l.Pairwise apartP) (i : Nat) (hi : i < l.length) : ∀ (d k j : Nat), i - j = d → j ≤ i → d < k → ∃ k', k - d - 1 ≤ k' ∧
    sashref04_Apartments.l1 k l (i : Int) (j : Int) (l.length : Int) (i : Int) = sashref04_Apartments.l0 k' l (l.length : Int) ((i + 1 : Nat) : Int) := by
  intro d
  induction d with
  | zero =>
    intro k j hd hj hk
    obtain ⟨k, rfl⟩ : ∃ m, k = m + 1 := ⟨k - 1, by omega⟩
    refine ⟨k, by omega, ?_⟩
    simp only [sashref04_Apartments.l1]
    rw [if_neg (by omega), wi i (by omega)]
  | succ d ih =>
    intro k j hd hj hk
    obtain ⟨k, rfl⟩ : ∃ m, k = m + 1 := ⟨k - 1, by omega⟩
    have hlt : j < l.length := by omega
    obtain ⟨k', hk', e⟩ := ih k (j + 1) (by omega) (by omega) (by omega)
    refine ⟨k', by omega, ?_⟩
    have hap : apartP (l.getD i z27) (l.getD j z27) := by
      rw [List.getD_eq_getElem?_getD, List.getElem?_eq_getElem hi, List.getD_eq_getElem?_getD, List.getElem?_eq_getElem hlt]
      exact apartP.symm ((List.pairwise_iff_getElem.1 hp) j i hlt hi (by omega))
    simp only [sashref04_Apartments.l1]
    rw [if_pos (by omega), if_pos (by omega), if_pos (by omega), if_pos (by omega), if_pos (by omega), rd_R_getD, rd_R_getD,
      Apart_f _ _ (hok _ (getR_mem l i hi)) (hok _ (getR_mem l j hlt)) hap, Option.bind_some, if_pos rfl, wi j (by omega)]
    exact e

theorem Aparts_l0 (l : List SR) (B : Nat) (hB : l.length + 2 ≤ B) (hl : l.length ≤ 100000) (hok : ∀ r ∈ l, rectOk r = true) (hp : l.Pairwise apartP) : ∀ (d k i : Nat), l.length - i = d → i ≤ l.length → d * B + B < k →
    sashref04_Apartments.l0 k l (l.length : Int) (i : Int) = some true := by
  intro d
  induction d with
  | zero =>
    intro k i hd hi hk
    obtain ⟨k, rfl⟩ : ∃ m, k = m + 1 := ⟨k - 1, by omega⟩
    simp only [sashref04_Apartments.l0]
    rw [if_neg (by omega)]
    unfold sashref04_All.f
    have := RAll_l0 l hl hok l.length k 0 (by omega) (by omega) (by omega)
    rw [show ((0 : Nat) : Int) = 0 from rfl] at this
    rw [this]; rfl
  | succ d ih =>
    intro k i hd hi hk
    obtain ⟨k, rfl⟩ : ∃ m, k = m + 1 := ⟨k - 1, by omega⟩
    have hlt : i < l.length := by omega
    rw [Nat.add_mul, Nat.one_mul] at hk
    obtain ⟨k', hk', e⟩ := Aparts_l1 l hl hok hp i hlt i k 0 (by omega) (by omega) (by omega)
    simp only [sashref04_Apartments.l0]
    rw [if_pos (by omega)]
    rw [show ((0 : Nat) : Int) = 0 from rfl] at e
    rw [e]
    exact ih k' (i + 1) (by omega) (by omega) (by omega)
theorem Aparts_f (l : List SR) (hl : l.length ≤ 1000) (hok : ∀ r ∈ l, rectOk r = true) (hp : l.Pairwise apartP) (k : Nat) (hk : 2000000 < k) : sashref04_Apartments.f k l = some true := by
  unfold sashref04_Apartments.f
  have h : l.length * 1002 ≤ 1000 * 1002 := Nat.mul_le_mul_right _ hl
  exact Aparts_l0 l 1002 (by omega) (by omega) hok hp l.length k 0 (by omega) (by omega) (by omega)

theorem area_bd (r : SR) (h : rectOk r = true) : 0 ≤ area r ∧ area r ≤ 100000000 := by
  have h1 := (rectOk_iff r).1 h
  unfold area
  refine ⟨Int.mul_nonneg (by omega) (by omega), ?_⟩
  have h3 : r.f2 * r.f3 ≤ 10000 * r.f3 := Int.mul_le_mul_of_nonneg_right (by omega) (by omega)
  omega
theorem Area_l0 (l : List SR) (hl : l.length ≤ 1000) (hok : ∀ r ∈ l, rectOk r = true) : ∀ (d k i : Nat) (acc : Int), l.length - i = d → i ≤ l.length → d < k → 0 ≤ acc → acc ≤ 100000000 * (i : Int) →
    sashref04_Area.l0 k l acc (l.length : Int) (i : Int) = some (acc + areaL (l.drop i)) := by
  intro d
  induction d with
  | zero =>
    intro k i acc hd hi hk h0 h1
    obtain ⟨k, rfl⟩ : ∃ m, k = m + 1 := ⟨k - 1, by omega⟩
    simp only [sashref04_Area.l0]
    rw [if_neg (by omega), List.drop_eq_nil_of_le (by omega), areaL_nil, Int.add_zero]
  | succ d ih =>
    intro k i acc hd hi hk h0 h1
    obtain ⟨k, rfl⟩ : ∃ m, k = m + 1 := ⟨k - 1, by omega⟩
    have hlt : i < l.length := by omega
    have hb := area_bd _ (hok _ (getR_mem l i hlt))
    have e0 : area (l.getD i z27) = (l.getD i z27).f2 * (l.getD i z27).f3 := rfl
    simp only [sashref04_Area.l0]
    rw [if_pos (by omega), if_pos (by omega), if_pos (by omega), rd_R_getD, ref04_May_eq, hok _ (getR_mem l i hlt), Option.bind_some, if_pos rfl, wi i (by omega), ← e0,
      w64s (n := area (l.getD i z27)) (by omega) (by omega), w64s (n := acc + area (l.getD i z27)) (by omega) (by omega),
      ih k (i + 1) _ (by omega) (by omega) (by omega) (by omega) (by push_cast; omega), dropRR l i hlt, areaL_cons, Int.add_assoc]
theorem Area_f (l : List SR) (hl : l.length ≤ 1000) (hok : ∀ r ∈ l, rectOk r = true) (k : Nat) (hk : 1000 < k) : sashref04_Area.f k l = some (areaL l) := by
  unfold sashref04_Area.f
  have := Area_l0 l hl hok l.length k 0 0 (by omega) (by omega) (by omega) (by omega) (by omega)
  simpa using this
end Go.Proofs.Ytakhnigalkjhhaa
