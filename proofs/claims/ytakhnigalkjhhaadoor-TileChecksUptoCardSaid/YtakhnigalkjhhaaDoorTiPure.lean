/-
  Trees of cells: visiting them in order, what may be, what tiles. Pure.
-/
import Derived.Test.YtakhnigalkjhhaaDoorPTileChecksx0
namespace Go.Proofs.YtakhnigalkjhhaaDoor
open Go.RowKit Go.Proofs.YtakhnigalkjhhaaDoorW.PrintWords Go.Proofs.YtakhnigalkjhhaaDoorW.PrintLast Go.Proofs.YtakhnigalkjhhaaDoorW.PrintMore Go.Proofs.YtakhnigalkjhhaaDoor.PTileChecks
set_option linter.unusedVariables false
set_option linter.unusedSimpArgs false

abbrev SC := S26
abbrev SR := S23

mutual
/-- The cells of a tree, in order. -/
def cells : SC → List SC
  | ⟨k, r, i, l⟩ => ⟨k, r, i, l⟩ :: cellsL l
def cellsL : List SC → List SC
  | [] => []
  | c :: l => cells c ++ cellsL l
end
theorem cells_eq (c : SC) : cells c = c :: cellsL c.f3 := by cases c; simp [cells]
theorem cellsL_nil : cellsL [] = [] := by simp [cellsL]
theorem cellsL_cons (c : SC) (l : List SC) : cellsL (c :: l) = cells c ++ cellsL l := by simp [cellsL]
theorem cellsL_flat (l : List SC) : cellsL l = l.flatMap cells := by
  induction l with
  | nil => simp [cellsL]
  | cons c l ih => rw [cellsL_cons, ih, List.flatMap_cons]
theorem cells_self (c : SC) : c ∈ cells c := by rw [cells_eq]; simp
theorem cells_pos (c : SC) : 1 ≤ (cells c).length := by rw [cells_eq]; simp
theorem cells_kid {c k : SC} (h : k ∈ c.f3) : ∀ x ∈ cells k, x ∈ cells c := by
  intro x hx
  rw [cells_eq c, cellsL_flat]
  exact List.mem_cons_of_mem _ (List.mem_flatMap.2 ⟨k, h, hx⟩)

theorem cell_ind {P : SC → Prop} (h : ∀ c, (∀ k ∈ c.f3, P k) → P c) (c : SC) : P c :=
  h c (fun k hk => cell_ind h k)
termination_by SizeOf.sizeOf c
decreasing_by
  cases c
  have := List.sizeOf_lt_of_mem hk
  simp at this ⊢
  omega

/-- Going through cells, as long as it is told to. -/
def visitL {σ : Type} (f : σ → SC → Bool × σ) : σ → List SC → Bool × σ
  | st, [] => (true, st)
  | st, c :: l => if (f st c).1 = true then visitL f (f st c).2 l else (false, (f st c).2)
theorem visitL_append {σ : Type} (f : σ → SC → Bool × σ) (a b : List SC) : ∀ st, visitL f st (a ++ b) = if (visitL f st a).1 = true then visitL f (visitL f st a).2 b else (false, (visitL f st a).2) := by
  induction a with
  | nil => intro st; simp [visitL]
  | cons c a ih =>
    intro st
    rw [List.cons_append]
    by_cases h : (f st c).1 = true
    · simp [visitL, h, ih]
    · simp [visitL, h]
/-- Is one of some so? -/
def anyL {σ α : Type} (g : σ → α → Bool × σ) : σ → List α → Bool × σ
  | st, [] => (false, st)
  | st, x :: l => if (g st x).1 = true then (true, (g st x).2) else anyL g (g st x).2 l
/-- What a closure over a walk answers with. -/
def notV {σ : Type} (f : σ → SC → Bool × σ) (st : σ) (k : SC) : Bool × σ := (!(visitL f st (cells k)).1, (visitL f st (cells k)).2)
theorem any_visit {σ : Type} (f : σ → SC → Bool × σ) (l : List SC) : ∀ st, anyL (notV f) st l = (!(visitL f st (cellsL l)).1, (visitL f st (cellsL l)).2) := by
  induction l with
  | nil => intro st; simp [anyL, cellsL, visitL]
  | cons c l ih =>
    intro st
    simp only [anyL, cellsL_cons, visitL_append]
    by_cases h : (visitL f st (cells c)).1 = true
    · rw [if_pos h]
      simp only [notV, h, Bool.not_true]
      rw [if_neg (by decide), ih]
    · have h' : (visitL f st (cells c)).1 = false := by simpa using h
      rw [if_neg h]
      simp [notV, h']
theorem visit_self {σ : Type} (f : σ → SC → Bool × σ) (st : σ) (c : SC) : visitL f st (cells c) = if (f st c).1 = true then visitL f (f st c).2 (cellsL c.f3) else (false, (f st c).2) := by
  rw [cells_eq]; rfl

/-! rectangles -/
def rectOk (r : SR) : Bool := decide (0 ≤ r.f0 ∧ 1 ≤ r.f2 ∧ r.f2 ≤ 10000 ∧ r.f0 ≤ 10000 - r.f2 ∧ 0 ≤ r.f1 ∧ 1 ≤ r.f3 ∧ r.f3 ≤ 10000 ∧ r.f1 ≤ 10000 - r.f3)
theorem rectOk_iff (r : SR) : rectOk r = true ↔ (0 ≤ r.f0 ∧ 1 ≤ r.f2 ∧ r.f2 ≤ 10000 ∧ r.f0 ≤ 10000 - r.f2 ∧ 0 ≤ r.f1 ∧ 1 ≤ r.f3 ∧ r.f3 ≤ 10000 ∧ r.f1 ≤ 10000 - r.f3) := by unfold rectOk; exact decide_eq_true_iff
def hasP (r : SR) (x y : Int) : Prop := r.f0 ≤ x ∧ x < r.f0 + r.f2 ∧ r.f1 ≤ y ∧ y < r.f1 + r.f3
instance (r : SR) (x y : Int) : Decidable (hasP r x y) := inferInstanceAs (Decidable (_ ∧ _))
def insideP (o r : SR) : Prop := o.f0 ≤ r.f0 ∧ o.f1 ≤ r.f1 ∧ r.f0 + r.f2 ≤ o.f0 + o.f2 ∧ r.f1 + r.f3 ≤ o.f1 + o.f3
def apartP (a b : SR) : Prop := a.f0 + a.f2 ≤ b.f0 ∨ b.f0 + b.f2 ≤ a.f0 ∨ a.f1 + a.f3 ≤ b.f1 ∨ b.f1 + b.f3 ≤ a.f1
theorem apartP.symm {a b : SR} (h : apartP a b) : apartP b a := by unfold apartP at *; omega
theorem apart_in {a b a' b' : SR} (h : apartP a b) (ha : insideP a a') (hb : insideP b b') : apartP a' b' := by unfold apartP insideP at *; omega
theorem inside_trans {a b c : SR} (h : insideP a b) (k : insideP b c) : insideP a c := by unfold insideP at *; omega
theorem inside_refl (a : SR) : insideP a a := by unfold insideP; omega
theorem has_in {a b : SR} {x y : Int} (h : insideP a b) (k : hasP b x y) : hasP a x y := by unfold insideP hasP at *; omega
theorem apart_has {a b : SR} {x y : Int} (h : apartP a b) (k : hasP a x y) : ¬ hasP b x y := by unfold apartP hasP at *; omega
def area (r : SR) : Int := r.f2 * r.f3
def areaL (l : List SR) : Int := (l.map area).foldr (· + ·) 0
theorem areaL_nil : areaL [] = 0 := rfl
theorem areaL_cons (r : SR) (l : List SR) : areaL (r :: l) = area r + areaL l := rfl
theorem areaL_append (a b : List SR) : areaL (a ++ b) = areaL a + areaL b := by
  induction a with
  | nil => simp [areaL_nil]
  | cons r a ih => rw [List.cons_append, areaL_cons, areaL_cons, ih]; omega

/-! a cut along an axis -/
def mkR (r : SR) (ax o n : Int) : SR := if ax = 1 then ⟨r.f0 + o, r.f1, n, r.f3⟩ else ⟨r.f0, r.f1 + o, r.f2, n⟩
def wholeR (r : SR) (ax : Int) : Int := if ax = 1 then r.f2 else r.f3
def offA (first : Bool) (off : Int) : Int := if first = true then off else off + 1
def cutParts (r : SR) (ax : Int) : Bool → Int → List Int → List SR
  | _, _, [] => []
  | first, off, n :: t => mkR r ax (offA first off) n :: cutParts r ax false (offA first off + n) t
def cutLines (r : SR) (ax : Int) : Bool → Int → List Int → List SR
  | _, _, [] => []
  | first, off, n :: t => (if first = true then [] else [mkR r ax off 1]) ++ cutLines r ax false (offA first off + n) t
def cutOk (whole : Int) : Bool → Int → List Int → Bool
  | _, off, [] => decide (off = whole)
  | first, off, n :: t => decide (1 ≤ n ∧ n ≤ whole - offA first off) && cutOk whole false (offA first off + n) t
def cutGood (r : SR) (ax : Int) (l : List Int) : Bool := rectOk r && decide (ax = 1 ∨ ax = 2) && !l.isEmpty && cutOk (wholeR r ax) true 0 l

theorem mkR_inside (r : SR) (ax o n : Int) (h0 : 0 ≤ o) (h1 : o + n ≤ wholeR r ax) (hax : ax = 1 ∨ ax = 2) : insideP r (mkR r ax o n) := by
  unfold mkR wholeR insideP at *
  rcases hax with rfl | rfl
  · simp at *; omega
  · simp at *; omega
theorem mkR_ok (r : SR) (ax o n : Int) (hr : rectOk r = true) (h0 : 0 ≤ o) (hn : 1 ≤ n) (h1 : o + n ≤ wholeR r ax) (hax : ax = 1 ∨ ax = 2) : rectOk (mkR r ax o n) = true := by
  rw [rectOk_iff] at *
  unfold mkR wholeR at *
  rcases hax with rfl | rfl
  · simp at *; omega
  · simp at *; omega
theorem mkR_apart (r : SR) (ax o n o' n' : Int) (h : o + n ≤ o') (hax : ax = 1 ∨ ax = 2) : apartP (mkR r ax o n) (mkR r ax o' n') := by
  unfold mkR apartP
  rcases hax with rfl | rfl
  · simp; omega
  · simp; omega
def crossR (r : SR) (ax : Int) : Int := if ax = 1 then r.f3 else r.f2
theorem mkR_area (r : SR) (ax o n : Int) : area (mkR r ax o n) = n * crossR r ax := by
  unfold mkR crossR area
  by_cases h : ax = 1
  · simp [h]
  · simp [h, Int.mul_comm]
theorem whole_area (r : SR) (ax : Int) : area r = wholeR r ax * crossR r ax := by
  unfold wholeR crossR area
  by_cases h : ax = 1
  · simp [h]
  · simp [h, Int.mul_comm]
def coordR (r : SR) (ax x y : Int) : Int := if ax = 1 then x - r.f0 else y - r.f1
theorem mkR_has (r : SR) (ax o n x y : Int) (hax : ax = 1 ∨ ax = 2) (h : hasP r x y) : hasP (mkR r ax o n) x y ↔ o ≤ coordR r ax x y ∧ coordR r ax x y < o + n := by
  unfold mkR coordR hasP at *
  rcases hax with rfl | rfl
  · simp at *; omega
  · simp at *; omega
theorem coord_bd (r : SR) (ax x y : Int) (hax : ax = 1 ∨ ax = 2) (h : hasP r x y) : 0 ≤ coordR r ax x y ∧ coordR r ax x y < wholeR r ax := by
  unfold coordR wholeR hasP at *
  rcases hax with rfl | rfl
  · simp at *; omega
  · simp at *; omega

/-- Each part, each line is a piece from off on. -/
theorem cut_pieces (r : SR) (ax whole : Int) : ∀ (l : List Int) (first : Bool) (off : Int), 0 ≤ off → cutOk whole first off l = true →
    ∀ q, (q ∈ cutParts r ax first off l ∨ q ∈ cutLines r ax first off l) → ∃ o n, q = mkR r ax o n ∧ off ≤ o ∧ 1 ≤ n ∧ o + n ≤ whole := by
  intro l
  induction l with
  | nil => intro first off _ _ q hq; simp [cutParts, cutLines] at hq
  | cons n t ih =>
    intro first off h0 hok q hq
    simp only [cutOk, Bool.and_eq_true, decide_eq_true_eq] at hok
    have hA : off ≤ offA first off := by unfold offA; split <;> omega
    simp only [cutParts, cutLines, List.mem_cons, List.mem_append] at hq
    rcases hq with (rfl | hq) | (hq | hq)
    · exact ⟨_, _, rfl, hA, hok.1.1, by omega⟩
    · obtain ⟨o, m, e, h1, h2, h3⟩ := ih false _ (by omega) hok.2 q (.inl hq)
      exact ⟨o, m, e, by omega, h2, h3⟩
    · cases first with
      | true => simp at hq
      | false =>
        simp at hq
        subst hq
        have : offA false off = off + 1 := rfl
        exact ⟨_, _, rfl, by omega, by omega, by omega⟩
    · obtain ⟨o, m, e, h1, h2, h3⟩ := ih false _ (by omega) hok.2 q (.inr hq)
      exact ⟨o, m, e, by omega, h2, h3⟩

theorem cut_apart (r : SR) (ax whole : Int) (hax : ax = 1 ∨ ax = 2) : ∀ (l : List Int) (first : Bool) (off : Int), 0 ≤ off → cutOk whole first off l = true →
    (cutParts r ax first off l).Pairwise apartP ∧ (cutLines r ax first off l).Pairwise apartP ∧ ∀ p ∈ cutParts r ax first off l, ∀ q ∈ cutLines r ax first off l, apartP p q := by
  intro l
  induction l with
  | nil => intro first off _ _; simp [cutParts, cutLines]
  | cons n t ih =>
    intro first off h0 hok
    have hok' := hok
    simp only [cutOk, Bool.and_eq_true, decide_eq_true_eq] at hok
    have hA : off ≤ offA first off := by unfold offA; split <;> omega
    obtain ⟨i1, i2, i3⟩ := ih false _ (by omega) hok.2
    have hp := cut_pieces r ax whole t false (offA first off + n) (by omega) hok.2
    simp only [cutParts, cutLines]
    refine ⟨List.pairwise_cons.2 ⟨fun q hq => ?_, i1⟩, List.pairwise_append.2 ⟨?_, i2, fun a ha b hb => ?_⟩, fun p hp' q hq => ?_⟩
    · obtain ⟨o, m, rfl, h1, _, _⟩ := hp q (.inl hq)
      exact mkR_apart r ax _ _ _ _ (by omega) hax
    · split <;> simp
    · cases first with
      | true => simp at ha
      | false =>
        simp at ha
        subst ha
        obtain ⟨o, m, rfl, h1, _, _⟩ := hp b (.inr hb)
        have : offA false off = off + 1 := rfl
        exact mkR_apart r ax _ _ _ _ (by omega) hax
    · rcases List.mem_cons.1 hp' with rfl | hp'
      · rcases List.mem_append.1 hq with hq | hq
        · cases first with
          | true => simp at hq
          | false =>
            simp at hq
            subst hq
            have : offA false off = off + 1 := rfl
            exact (mkR_apart r ax _ _ _ _ (by omega) hax).symm
        · obtain ⟨o, m, rfl, h1, _, _⟩ := hp q (.inr hq)
          exact mkR_apart r ax _ _ _ _ (by omega) hax
      · rcases List.mem_append.1 hq with hq | hq
        · cases first with
          | true => simp at hq
          | false =>
            simp at hq
            subst hq
            obtain ⟨o, m, rfl, h1, _, _⟩ := hp p (.inl hp')
            have : offA false off = off + 1 := rfl
            exact (mkR_apart r ax _ _ _ _ (by omega) hax).symm
        · exact i3 p hp' q hq

theorem cut_area (r : SR) (ax whole : Int) : ∀ (l : List Int) (first : Bool) (off : Int), cutOk whole first off l = true → areaL (cutParts r ax first off l) + areaL (cutLines r ax first off l) = (whole - off) * crossR r ax := by
  intro l
  induction l with
  | nil =>
    intro first off h
    simp only [cutOk, decide_eq_true_eq] at h
    subst h
    simp [cutParts, cutLines, areaL_nil]
  | cons n t ih =>
    intro first off hok
    simp only [cutOk, Bool.and_eq_true, decide_eq_true_eq] at hok
    have := ih false _ hok.2
    simp only [cutParts, cutLines, areaL_cons, areaL_append, mkR_area]
    cases first with
    | true =>
      have e : offA true off = off := rfl
      rw [e] at this ⊢
      simp only [if_true, areaL_nil]
      rw [show whole - off = n + (whole - (off + n)) by omega, Int.add_mul]
      omega
    | false =>
      have e : offA false off = off + 1 := rfl
      rw [e] at this ⊢
      have e2 : areaL (if false = true then [] else [mkR r ax off 1]) = crossR r ax := by simp [areaL_cons, areaL_nil, mkR_area]
      rw [e2, show whole - off = n + (1 + (whole - (off + 1 + n))) by omega, Int.add_mul, Int.add_mul]
      omega

theorem cut_cover (r : SR) (ax whole z : Int) : ∀ (l : List Int) (first : Bool) (off : Int), cutOk whole first off l = true → off ≤ z → z < whole →
    ∃ o n, (mkR r ax o n ∈ cutParts r ax first off l ∨ mkR r ax o n ∈ cutLines r ax first off l) ∧ o ≤ z ∧ z < o + n := by
  intro l
  induction l with
  | nil =>
    intro first off h h1 h2
    simp only [cutOk, decide_eq_true_eq] at h
    omega
  | cons n t ih =>
    intro first off hok h1 h2
    simp only [cutOk, Bool.and_eq_true, decide_eq_true_eq] at hok
    simp only [cutParts, cutLines]
    by_cases h3 : z < offA first off
    · cases first with
      | true => have e : offA true off = off := rfl; omega
      | false =>
        have e : offA false off = off + 1 := rfl
        exact ⟨off, 1, .inr (by simp), h1, by omega⟩
    · by_cases h4 : z < offA first off + n
      · exact ⟨_, _, .inl (List.mem_cons_self), by omega, h4⟩
      · obtain ⟨o, m, h5, h6, h7⟩ := ih false _ hok.2 (by omega) h2
        exact ⟨o, m, h5.elim (fun h => .inl (List.mem_cons_of_mem _ h)) (fun h => .inr (List.mem_append_right _ h)), h6, h7⟩
theorem cutParts_len (r : SR) (ax : Int) : ∀ (l : List Int) (first : Bool) (off : Int), (cutParts r ax first off l).length = l.length := by
  intro l
  induction l with
  | nil => intro _ _; rfl
  | cons n t ih => intro first off; simp [cutParts, ih]
theorem cutLines_len (r : SR) (ax : Int) : ∀ (l : List Int) (first : Bool) (off : Int), (cutLines r ax first off l).length = if first = true then l.length - 1 else l.length := by
  intro l
  induction l with
  | nil => intro f _; simp [cutLines]
  | cons n t ih =>
    intro first off
    simp only [cutLines, List.length_append, ih]
    cases first <;> simp <;> omega

/-! a cell alone -/
def nodeOk (c : SC) : Bool :=
  if c.f0 = 1 then c.f3.isEmpty && decide (0 ≤ c.f2 ∧ c.f2 ≤ 2147483647)
  else if c.f0 = 2 ∨ c.f0 = 3 then decide (2 ≤ c.f3.length ∧ c.f2 = 0) else false
instance : DecidableEq SR := fun a b =>
  if h : a.f0 = b.f0 ∧ a.f1 = b.f1 ∧ a.f2 = b.f2 ∧ a.f3 = b.f3 then isTrue (by cases a; cases b; simp_all)
  else isFalse (by intro e; subst e; exact h ⟨rfl, rfl, rfl, rfl⟩)
def sizesOf (c : SC) : List Int := c.f3.map (fun k => if c.f0 = 2 then k.f1.f2 else k.f1.f3)
/-- The lines of a cell alone; none: it doesn't tile. -/
def linesS (c : SC) : Option (List SR) :=
  if c.f0 = 1 then some []
  else if cutGood c.f1 (c.f0 - 1) (sizesOf c) = true ∧ c.f3.map (·.f1) = cutParts c.f1 (c.f0 - 1) true 0 (sizesOf c) then some (cutLines c.f1 (c.f0 - 1) true 0 (sizesOf c)) else none
/-- One step of the test whether a tree may be: how many cells, the numbers met. -/
def mayStep (st : Nat × List Int) (c : SC) : Bool × Nat × List Int :=
  if 20000 < st.1 + 1 ∨ nodeOk c = false ∨ rectOk c.f1 = false ∨ (c.f0 = 1 ∧ c.f2 ∈ st.2) then (false, st.1 + 1, st.2)
  else (true, st.1 + 1, if c.f0 = 1 then c.f2 :: st.2 else st.2)
def mayB (c : SC) : Bool := (visitL mayStep (0, []) (cells c)).1
/-- One step of the walk: how many cells, the lines. -/
def walkStep (st : Nat × List SR) (c : SC) : Bool × Nat × List SR :=
  match linesS c with
  | none => (false, st)
  | some l => (true, st.1 + 1, st.2 ++ l)
def walkV (c : SC) : Bool × Nat × List SR := visitL walkStep (0, []) (cells c)
def tilesB (c : SC) : Bool := mayB c && (walkV c).1
def leafIds (l : List SC) : List Int := (l.filter (fun c => decide (c.f0 = 1))).map (·.f2)

theorem may_visit : ∀ (l : List SC) (n : Nat) (met : List Int), n ≤ 20000 → ((visitL mayStep (n, met) l).1 = true ↔ n + l.length ≤ 20000 ∧ (∀ c ∈ l, nodeOk c = true ∧ rectOk c.f1 = true) ∧ (leafIds l).Nodup ∧ ∀ i ∈ leafIds l, i ∉ met) := by
  intro l
  induction l with
  | nil => intro n met hn; simp [visitL, leafIds, hn]
  | cons c l ih =>
    intro n met hn
    simp only [visitL, mayStep]
    by_cases h : 20000 < n + 1 ∨ nodeOk c = false ∨ rectOk c.f1 = false ∨ (c.f0 = 1 ∧ c.f2 ∈ met)
    · rw [if_pos h, if_neg (by simp)]
      simp only [Bool.false_eq_true, false_iff]
      rintro ⟨h1, h2, h3, h4⟩
      have hc := h2 c (by simp)
      rw [List.length_cons] at h1
      rcases h with h | h | h | ⟨h, h'⟩
      · omega
      · rw [hc.1] at h; cases h
      · rw [hc.2] at h; cases h
      · exact h4 c.f2 (by simp [leafIds, h]) h'
    · rw [if_neg h]
      simp only [if_true]
      have hn1 : n + 1 ≤ 20000 := by omega
      rw [ih (n + 1) _ hn1, List.length_cons]
      have hc1 : nodeOk c = true := by cases hx : nodeOk c <;> simp_all
      have hc2 : rectOk c.f1 = true := by cases hx : rectOk c.f1 <;> simp_all
      by_cases hk : c.f0 = 1
      · have hm : c.f2 ∉ met := fun h' => h (.inr (.inr (.inr ⟨hk, h'⟩)))
        have hl : leafIds (c :: l) = c.f2 :: leafIds l := by simp [leafIds, hk]
        rw [hl, if_pos hk, List.nodup_cons]
        constructor
        · rintro ⟨h1, h2, h3, h4⟩
          refine ⟨by omega, fun x hx => ?_, ⟨fun hx => ?_, h3⟩, fun i hi => ?_⟩
          · rcases List.mem_cons.1 hx with rfl | hx
            · exact ⟨hc1, hc2⟩
            · exact h2 x hx
          · exact h4 _ hx (by simp)
          · rcases List.mem_cons.1 hi with rfl | hi
            · exact hm
            · exact fun h' => h4 i hi (by simp [h'])
        · rintro ⟨h1, h2, ⟨h3, h3'⟩, h4⟩
          refine ⟨by omega, fun x hx => h2 x (by simp [hx]), h3', fun i hi h' => ?_⟩
          rcases List.mem_cons.1 h' with rfl | h'
          · exact h3 hi
          · exact h4 i (by simp [hi]) h'
      · have hl : leafIds (c :: l) = leafIds l := by simp [leafIds, hk]
        rw [hl, if_neg hk]
        constructor
        · rintro ⟨h1, h2, h3, h4⟩
          refine ⟨by omega, fun x hx => ?_, h3, h4⟩
          rcases List.mem_cons.1 hx with rfl | hx
          · exact ⟨hc1, hc2⟩
          · exact h2 x hx
        · rintro ⟨h1, h2, h3, h4⟩
          exact ⟨by omega, fun x hx => h2 x (by simp [hx]), h3, h4⟩
theorem may_iff (c : SC) : mayB c = true ↔ (cells c).length ≤ 20000 ∧ (∀ x ∈ cells c, nodeOk x = true ∧ rectOk x.f1 = true) ∧ (leafIds (cells c)).Nodup := by
  unfold mayB
  rw [may_visit _ _ _ (by decide)]
  simp

def lnOf (c : SC) : List SR := (linesS c).getD []
theorem walkStep_none {c : SC} (h : linesS c = none) (st : Nat × List SR) : walkStep st c = (false, st) := by unfold walkStep; rw [h]
theorem walkStep_some {c : SC} {l : List SR} (h : linesS c = some l) (st : Nat × List SR) : walkStep st c = (true, st.1 + 1, st.2 ++ l) := by unfold walkStep; rw [h]
theorem walk_visit : ∀ (l : List SC) (st : Nat × List SR), (visitL walkStep st l).1 = true ↔ ∀ c ∈ l, (linesS c).isSome = true := by
  intro l
  induction l with
  | nil => intro st; simp [visitL]
  | cons c l ih =>
    intro st
    cases h : linesS c with
    | none => simp [visitL, walkStep_none h, h]
    | some x => simp [visitL, walkStep_some h, h, ih]
theorem walk_lines : ∀ (l : List SC) (st : Nat × List SR), (visitL walkStep st l).1 = true → (visitL walkStep st l).2 = (st.1 + l.length, st.2 ++ l.flatMap lnOf) := by
  intro l
  induction l with
  | nil => intro st _; simp [visitL]
  | cons c l ih =>
    intro st
    cases h : linesS c with
    | none => simp [visitL, walkStep_none h]
    | some x =>
      simp only [visitL, walkStep_some h, if_true]
      intro h1
      rw [ih _ h1]
      simp [lnOf, h]; omega
end Go.Proofs.YtakhnigalkjhhaaDoor
