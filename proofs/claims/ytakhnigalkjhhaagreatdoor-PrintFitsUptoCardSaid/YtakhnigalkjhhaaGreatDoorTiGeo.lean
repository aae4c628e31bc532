/-
  Joined texts: TiPure, TiGeo.
-/
import Derived.Test.YtakhnigalkjhhaaGreatDoorPPrintFitsx0
/- Printed texts of this seat, cut to what is used. -/
namespace Go.Proofs.YtakhnigalkjhhaaGreatDoor
open Go.RowKit Go.Proofs.YtakhnigalkjhhaaGreatDoorW.PrintWords Go.Proofs.YtakhnigalkjhhaaGreatDoorW.PrintLast Go.Proofs.YtakhnigalkjhhaaGreatDoorW.PrintMore Go.Proofs.YtakhnigalkjhhaaGreatDoor.PPrintFits
set_option linter.unusedVariables false
set_option linter.unusedSimpArgs false

abbrev SC := S30
abbrev SR := S28

mutual
/-- The cells of a tree, in order. -/
def cells : SC → List SC
  | ⟨k, r, i, l⟩ => ⟨k, r, i, l⟩ :: cellsL l
def cellsL : List SC → List SC
  | [] => []
  | c :: l => cells c ++ cellsL l
end
theorem cells_eq (c : SC) : cells c = c :: cellsL c.f3 := by cases c; simp [cells]
theorem cellsL_nil : cellsL [] = [] := by simp [cellsL]
theorem cellsL_cons (c : SC) (l : List SC) : cellsL (c :: l) = cells c ++ cellsL l := by simp [cellsL]
theorem cellsL_flat (l : List SC) : cellsL l = l.flatMap cells := by
  induction l with
  | nil => simp [cellsL]
  | cons c l ih => rw [cellsL_cons, ih, List.flatMap_cons]
theorem cells_self (c : SC) : c ∈ cells c := by rw [cells_eq]; simp
theorem cells_pos (c : SC) : 1 ≤ (cells c).length := by rw [cells_eq]; simp
theorem cells_kid {c k : SC} (h : k ∈ c.f3) : ∀ x ∈ cells k, x ∈ cells c := by
  intro x hx
  rw [cells_eq c, cellsL_flat]
  exact List.mem_cons_of_mem _ (List.mem_flatMap.2 ⟨k, h, hx⟩)

theorem cell_ind {P : SC → Prop} (h : ∀ c, (∀ k ∈ c.f3, P k) → P c) (c : SC) : P c :=
  h c (fun k hk => cell_ind h k)
termination_by SizeOf.sizeOf c
decreasing_by
  cases c
  have := List.sizeOf_lt_of_mem hk
  simp at this ⊢
  omega

/-- Going through cells, as long as it is told to. -/
def visitL {σ : Type} (f : σ → SC → Bool × σ) : σ → List SC → Bool × σ
  | st, [] => (true, st)
  | st, c :: l => if (f st c).1 = true then visitL f (f st c).2 l else (false, (f st c).2)
theorem visitL_append {σ : Type} (f : σ → SC → Bool × σ) (a b : List SC) : ∀ st, visitL f st (a ++ b) = if (visitL f st a).1 = true then visitL f (visitL f st a).2 b else (false, (visitL f st a).2) := by
  induction a with
  | nil => intro st; simp [visitL]
  | cons c a ih =>
    intro st
    rw [List.cons_append]
    by_cases h : (f st c).1 = true
    · simp [visitL, h, ih]
    · simp [visitL, h]
/-- Is one of some so? -/
def anyL {σ α : Type} (g : σ → α → Bool × σ) : σ → List α → Bool × σ
  | st, [] => (false, st)
  | st, x :: l => if (g st x).1 = true then (true, (g st x).2) else anyL g (g st x).2 l
/-- What a closure over a walk answers with. -/
def notV {σ : Type} (f : σ → SC → Bool × σ) (st : σ) (k : SC) : Bool × σ := (!(visitL f st (cells k)).1, (visitL f st (cells k)).2)
theorem any_visit {σ : Type} (f : σ → SC → Bool × σ) (l : List SC) : ∀ st, anyL (notV f) st l = (!(visitL f st (cellsL l)).1, (visitL f st (cellsL l)).2) := by
  induction l with
  | nil => intro st; simp [anyL, cellsL, visitL]
  | cons c l ih =>
    intro st
    simp only [anyL, cellsL_cons, visitL_append]
    by_cases h : (visitL f st (cells c)).1 = true
    · rw [if_pos h]
      simp only [notV, h, Bool.not_true]
      rw [if_neg (by decide), ih]
    · have h' : (visitL f st (cells c)).1 = false := by simpa using h
      rw [if_neg h]
      simp [notV, h']
theorem visit_self {σ : Type} (f : σ → SC → Bool × σ) (st : σ) (c : SC) : visitL f st (cells c) = if (f st c).1 = true then visitL f (f st c).2 (cellsL c.f3) else (false, (f st c).2) := by
  rw [cells_eq]; rfl

def rectOk (r : SR) : Bool := decide (0 ≤ r.f0 ∧ 1 ≤ r.f2 ∧ r.f2 ≤ 10000 ∧ r.f0 ≤ 10000 - r.f2 ∧ 0 ≤ r.f1 ∧ 1 ≤ r.f3 ∧ r.f3 ≤ 10000 ∧ r.f1 ≤ 10000 - r.f3)
theorem rectOk_iff (r : SR) : rectOk r = true ↔ (0 ≤ r.f0 ∧ 1 ≤ r.f2 ∧ r.f2 ≤ 10000 ∧ r.f0 ≤ 10000 - r.f2 ∧ 0 ≤ r.f1 ∧ 1 ≤ r.f3 ∧ r.f3 ≤ 10000 ∧ r.f1 ≤ 10000 - r.f3) := by unfold rectOk; exact decide_eq_true_iff
def hasP (r : SR) (x y : Int) : Prop := r.f0 ≤ x ∧ x < r.f0 + r.f2 ∧ r.f1 ≤ y ∧ y < r.f1 + r.f3
instance (r : SR) (x y : Int) : Decidable (hasP r x y) := inferInstanceAs (Decidable (_ ∧ _))
def apartP (a b : SR) : Prop := a.f0 + a.f2 ≤ b.f0 ∨ b.f0 + b.f2 ≤ a.f0 ∨ a.f1 + a.f3 ≤ b.f1 ∨ b.f1 + b.f3 ≤ a.f1
theorem apartP.symm {a b : SR} (h : apartP a b) : apartP b a := by unfold apartP at *; omega

def mkR (r : SR) (ax o n : Int) : SR := if ax = 1 then ⟨r.f0 + o, r.f1, n, r.f3⟩ else ⟨r.f0, r.f1 + o, r.f2, n⟩
def wholeR (r : SR) (ax : Int) : Int := if ax = 1 then r.f2 else r.f3
def offA (first : Bool) (off : Int) : Int := if first = true then off else off + 1
def cutParts (r : SR) (ax : Int) : Bool → Int → List Int → List SR
  | _, _, [] => []
  | first, off, n :: t => mkR r ax (offA first off) n :: cutParts r ax false (offA first off + n) t
def cutLines (r : SR) (ax : Int) : Bool → Int → List Int → List SR
  | _, _, [] => []
  | first, off, n :: t => (if first = true then [] else [mkR r ax off 1]) ++ cutLines r ax false (offA first off + n) t
def cutOk (whole : Int) : Bool → Int → List Int → Bool
  | _, off, [] => decide (off = whole)
  | first, off, n :: t => decide (1 ≤ n ∧ n ≤ whole - offA first off) && cutOk whole false (offA first off + n) t
def cutGood (r : SR) (ax : Int) (l : List Int) : Bool := rectOk r && decide (ax = 1 ∨ ax = 2) && !l.isEmpty && cutOk (wholeR r ax) true 0 l

def crossR (r : SR) (ax : Int) : Int := if ax = 1 then r.f3 else r.f2




theorem cutParts_len (r : SR) (ax : Int) : ∀ (l : List Int) (first : Bool) (off : Int), (cutParts r ax first off l).length = l.length := by
  intro l
  induction l with
  | nil => intro _ _; rfl
  | cons n t ih => intro first off; simp [cutParts, ih]
theorem cutLines_len (r : SR) (ax : Int) : ∀ (l : List Int) (first : Bool) (off : Int), (cutLines r ax first off l).length = if first = true then l.length - 1 else l.length := by
  intro l
  induction l with
  | nil => intro f _; simp [cutLines]
  | cons n t ih =>
    intro first off
    simp only [cutLines, List.length_append, ih]
    cases first <;> simp <;> omega

def nodeOk (c : SC) : Bool :=
  if c.f0 = 1 then c.f3.isEmpty && decide (0 ≤ c.f2 ∧ c.f2 ≤ 2147483647)
  else if c.f0 = 2 ∨ c.f0 = 3 then decide (2 ≤ c.f3.length ∧ c.f2 = 0) else false
instance : DecidableEq SR := fun a b =>
  if h : a.f0 = b.f0 ∧ a.f1 = b.f1 ∧ a.f2 = b.f2 ∧ a.f3 = b.f3 then isTrue (by cases a; cases b; simp_all)
  else isFalse (by intro e; subst e; exact h ⟨rfl, rfl, rfl, rfl⟩)
def sizesOf (c : SC) : List Int := c.f3.map (fun k => if c.f0 = 2 then k.f1.f2 else k.f1.f3)
/-- The lines of a cell alone; none: it doesn't tile. -/
def linesS (c : SC) : Option (List SR) :=
  if c.f0 = 1 then some []
  else if cutGood c.f1 (c.f0 - 1) (sizesOf c) = true ∧ c.f3.map (·.f1) = cutParts c.f1 (c.f0 - 1) true 0 (sizesOf c) then some (cutLines c.f1 (c.f0 - 1) true 0 (sizesOf c)) else none
/-- One step of the test whether a tree may be: how many cells, the numbers met. -/
def mayStep (st : Nat × List Int) (c : SC) : Bool × Nat × List Int :=
  if 20000 < st.1 + 1 ∨ nodeOk c = false ∨ rectOk c.f1 = false ∨ (c.f0 = 1 ∧ c.f2 ∈ st.2) then (false, st.1 + 1, st.2)
  else (true, st.1 + 1, if c.f0 = 1 then c.f2 :: st.2 else st.2)
def mayB (c : SC) : Bool := (visitL mayStep (0, []) (cells c)).1
/-- One step of the walk: how many cells, the lines. -/
def walkStep (st : Nat × List SR) (c : SC) : Bool × Nat × List SR :=
  match linesS c with
  | none => (false, st)
  | some l => (true, st.1 + 1, st.2 ++ l)
def walkV (c : SC) : Bool × Nat × List SR := visitL walkStep (0, []) (cells c)
def tilesB (c : SC) : Bool := mayB c && (walkV c).1
def leafIds (l : List SC) : List Int := (l.filter (fun c => decide (c.f0 = 1))).map (·.f2)

theorem may_visit : ∀ (l : List SC) (n : Nat) (met : List Int), n ≤ 20000 → ((visitL mayStep (n, met) l).1 = true ↔ n + l.length ≤ 20000 ∧ (∀ c ∈ l, nodeOk c = true ∧ rectOk c.f1 = true) ∧ (leafIds l).Nodup ∧ ∀ i ∈ leafIds l, i ∉ met) := by
  intro l
  induction l with
  | nil => intro n met hn; simp [visitL, leafIds, hn]
  | cons c l ih =>
    intro n met hn
    simp only [visitL, mayStep]
    by_cases h : 20000 < n + 1 ∨ nodeOk c = false ∨ rectOk c.f1 = false ∨ (c.f0 = 1 ∧ c.f2 ∈ met)
    · rw [if_pos h, if_neg (by simp)]
      simp only [Bool.false_eq_true, false_iff]
      rintro ⟨h1, h2, h3, h4⟩
      have hc := h2 c (by simp)
      rw [List.length_cons] at h1
      rcases h with h | h | h | ⟨h, h'⟩
      · omega
      · rw [hc.1] at h; cases h
      · rw [hc.2] at h; cases h
      · exact h4 c.f2 (by simp [leafIds, h]) h'
    · rw [if_neg h]
      simp only [if_true]
      have hn1 : n + 1 ≤ 20000 := by omega
      rw [ih (n + 1) _ hn1, List.length_cons]
      have hc1 : nodeOk c = true := by cases hx : nodeOk c <;> simp_all
      have hc2 : rectOk c.f1 = true := by cases hx : rectOk c.f1 <;> simp_all
      by_cases hk : c.f0 = 1
      · have hm : c.f2 ∉ met := fun h' => h (.inr (.inr (.inr ⟨hk, h'⟩)))
        have hl : leafIds (c :: l) = c.f2 :: leafIds l := by simp [leafIds, hk]
        rw [hl, if_pos hk, List.nodup_cons]
        constructor
        · rintro ⟨h1, h2, h3, h4⟩
          refine ⟨by omega, fun x hx => ?_, ⟨fun hx => ?_, h3⟩, fun i hi => ?_⟩
          · rcases List.mem_cons.1 hx with rfl | hx
            · exact ⟨hc1, hc2⟩
            · exact h2 x hx
          · exact h4 _ hx (by simp)
          · rcases List.mem_cons.1 hi with rfl | hi
            · exact hm
            · exact fun h' => h4 i hi (by simp [h'])
        · rintro ⟨h1, h2, ⟨h3, h3'⟩, h4⟩
          refine ⟨by omega, fun x hx => h2 x (by simp [hx]), h3', fun i hi h' => ?_⟩
          rcases List.mem_cons.1 h' with rfl | h'
          · exact h3 hi
          · exact h4 i (by simp [hi]) h'
      · have hl : leafIds (c :: l) = leafIds l := by simp [leafIds, hk]
        rw [hl, if_neg hk]
        constructor
        · rintro ⟨h1, h2, h3, h4⟩
          refine ⟨by omega, fun x hx => ?_, h3, h4⟩
          rcases List.mem_cons.1 hx with rfl | hx
          · exact ⟨hc1, hc2⟩
          · exact h2 x hx
        · rintro ⟨h1, h2, h3, h4⟩
          exact ⟨by omega, fun x hx => h2 x (by simp [hx]), h3, h4⟩
theorem may_iff (c : SC) : mayB c = true ↔ (cells c).length ≤ 20000 ∧ (∀ x ∈ cells c, nodeOk x = true ∧ rectOk x.f1 = true) ∧ (leafIds (cells c)).Nodup := by
  unfold mayB
  rw [may_visit _ _ _ (by decide)]
  simp

def lnOf (c : SC) : List SR := (linesS c).getD []
theorem walkStep_none {c : SC} (h : linesS c = none) (st : Nat × List SR) : walkStep st c = (false, st) := by unfold walkStep; rw [h]
theorem walkStep_some {c : SC} {l : List SR} (h : linesS c = some l) (st : Nat × List SR) : walkStep st c = (true, st.1 + 1, st.2 ++ l) := by unfold walkStep; rw [h]
theorem walk_visit : ∀ (l : List SC) (st : Nat × List SR), (visitL walkStep st l).1 = true ↔ ∀ c ∈ l, (linesS c).isSome = true := by
  intro l
  induction l with
  | nil => intro st; simp [visitL]
  | cons c l ih =>
    intro st
    cases h : linesS c with
    | none => simp [visitL, walkStep_none h, h]
    | some x => simp [visitL, walkStep_some h, h, ih]
theorem walk_lines : ∀ (l : List SC) (st : Nat × List SR), (visitL walkStep st l).1 = true → (visitL walkStep st l).2 = (st.1 + l.length, st.2 ++ l.flatMap lnOf) := by
  intro l
  induction l with
  | nil => intro st _; simp [visitL]
  | cons c l ih =>
    intro st
    cases h : linesS c with
    | none => simp [visitL, walkStep_none h]
    | some x =>
      simp only [visitL, walkStep_some h, if_true]
      intro h1
      rw [ih _ h1]
      simp [lnOf, h]; omega
end Go.Proofs.YtakhnigalkjhhaaGreatDoor

/- Printed texts of this seat, cut to what is used. -/
namespace Go.Proofs.YtakhnigalkjhhaaGreatDoor
open Go.RowKit Go.Proofs.YtakhnigalkjhhaaGreatDoorW.PrintWords Go.Proofs.YtakhnigalkjhhaaGreatDoorW.PrintLast Go.Proofs.YtakhnigalkjhhaaGreatDoorW.PrintMore Go.Proofs.YtakhnigalkjhhaaGreatDoor.PPrintFits
set_option linter.unusedVariables false
set_option linter.unusedSimpArgs false

def GoodC (c : SC) : Prop := nodeOk c = true ∧ rectOk c.f1 = true ∧ (linesS c).isSome = true
def GoodT (c : SC) : Prop := ∀ x ∈ cells c, GoodC x
theorem GoodT.kid {c k : SC} (h : GoodT c) (hk : k ∈ c.f3) : GoodT k := fun x hx => h x (cells_kid hk x hx)
theorem tilesB_iff (c : SC) : tilesB c = true ↔ mayB c = true ∧ ∀ x ∈ cells c, (linesS x).isSome = true := by
  unfold tilesB walkV
  rw [Bool.and_eq_true, walk_visit]
theorem tiles_good {c : SC} (h : tilesB c = true) : GoodT c := by
  obtain ⟨h1, h2⟩ := (tilesB_iff c).1 h
  have h3 := ((may_iff c).1 h1).2.1
  exact fun x hx => ⟨(h3 x hx).1, (h3 x hx).2, h2 x hx⟩

def leavesOf (c : SC) : List SC := (cells c).filter (fun x => decide (x.f0 = 1))
def lnR (c : SC) : List SR := (cells c).flatMap lnOf


/-- An inner cell that tiles. -/
structure Inner (c : SC) : Prop where
  kind : c.f0 = 2 ∨ c.f0 = 3
  two : 2 ≤ c.f3.length
  ok : rectOk c.f1 = true
  cut : cutOk (wholeR c.f1 (c.f0 - 1)) true 0 (sizesOf c) = true
  parts : c.f3.map (·.f1) = cutParts c.f1 (c.f0 - 1) true 0 (sizesOf c)
  lines : lnOf c = cutLines c.f1 (c.f0 - 1) true 0 (sizesOf c)
theorem Inner.ax {c : SC} (h : Inner c) : c.f0 - 1 = 1 ∨ c.f0 - 1 = 2 := by have := h.kind; omega
theorem Inner.whole {c : SC} (h : Inner c) : True := trivial




end Go.Proofs.YtakhnigalkjhhaaGreatDoor
