/-
  Joined texts: TiPure, PsCell, PsCellW.
-/
import Derived.Test.YtkobpbbegalfpaaGreatDoorPParseBodiesx0
/- Printed texts of this seat, cut to what is used. -/
namespace Go.Proofs.YtkobpbbegalfpaaGreatDoor
open Go.RowKit Go.Proofs.YtkobpbbegalfpaaGreatDoorW.PrintWords Go.Proofs.YtkobpbbegalfpaaGreatDoorW.PrintLast Go.Proofs.YtkobpbbegalfpaaGreatDoorW.PrintMore Go.Proofs.YtkobpbbegalfpaaGreatDoor.PParseBodies
set_option linter.unusedVariables false
set_option linter.unusedSimpArgs false

abbrev SC := S27
abbrev SR := S24

mutual
/-- The cells of a tree, in order. -/
def cells : SC → List SC
 | ⟨k, r, i, l⟩ => ⟨k, r, i, l⟩ :: cellsL l
def cellsL : List SC → List SC
 | [] => []
 | c :: l => cells c ++ cellsL l
end
theorem cells_eq (c : SC) : cells c = c :: cellsL c.f3 := by cases c; simp [cells]
theorem cellsL_nil : cellsL [] = [] := by simp [cellsL]
theorem cellsL_cons (c : SC) (l : List SC) : cellsL (c :: l) = cells c ++ cellsL l := by simp [cellsL]
theorem cellsL_flat (l : List SC) : cellsL l = l.flatMap cells := by
 induction l with
 | nil => simp [cellsL]
 | cons c l ih => rw [cellsL_cons, ih, List.flatMap_cons]
theorem cells_self (c : SC) : c ∈ cells c := by rw [cells_eq]; simp
theorem cells_pos (c : SC) : 1 ≤ (cells c).length := by rw [cells_eq]; simp
theorem cells_kid {c k : SC} (h : k ∈ c.f3) : ∀ x ∈ cells k, x ∈ cells c := by
 intro x hx
 rw [cells_eq c, cellsL_flat]
 exact List.mem_cons_of_mem _ (List.mem_flatMap.2 ⟨k, h, hx⟩)

theorem cell_ind {P : SC → Prop} (h : ∀ c, (∀ k ∈ c.f3, P k) → P c) (c : SC) : P c :=
 h c (fun k hk => cell_ind h k)
termination_by SizeOf.sizeOf c
decreasing_by
 cases c
 have := List.sizeOf_lt_of_mem hk
 simp at this ⊢
 omega

/-- Going through cells, as long as it is told to. -/
def visitL {σ : Type} (f : σ → SC → Bool × σ) : σ → List SC → Bool × σ
 | st, [] => (true, st)
 | st, c :: l => if (f st c).1 = true then visitL f (f st c).2 l else (false, (f st c).2)
theorem visitL_append {σ : Type} (f : σ → SC → Bool × σ) (a b : List SC) : ∀ st, visitL f st (a ++ b) = if (visitL f st a).1 = true then visitL f (visitL f st a).2 b else (false, (visitL f st a).2) := by
 induction a with
 | nil => intro st; simp [visitL]
 | cons c a ih =>
  intro st
  rw [List.cons_append]
  by_cases h : (f st c).1 = true
  ·simp [visitL, h, ih]
  ·simp [visitL, h]
/-- Is one of some so? -/
def anyL {σ α : Type} (g : σ → α → Bool × σ) : σ → List α → Bool × σ
 | st, [] => (false, st)
 | st, x :: l => if (g st x).1 = true then (true, (g st x).2) else anyL g (g st x).2 l
/-- What a closure over a walk answers with. -/
def notV {σ : Type} (f : σ → SC → Bool × σ) (st : σ) (k : SC) : Bool × σ := (!(visitL f st (cells k)).1, (visitL f st (cells k)).2)
theorem any_visit {σ : Type} (f : σ → SC → Bool × σ) (l : List SC) : ∀ st, anyL (notV f) st l = (!(visitL f st (cellsL l)).1, (visitL f st (cellsL l)).2) := by
 induction l with
 | nil => intro st; simp [anyL, cellsL, visitL]
 | cons c l ih =>
  intro st
  simp only [anyL, cellsL_cons, visitL_append]
  by_cases h : (visitL f st (cells c)).1 = true
  ·rw [if_pos h]
   simp only [notV, h, Bool.not_true]
   rw [if_neg (by decide), ih]
  ·have h' : (visitL f st (cells c)).1 = false := by simpa using h
   rw [if_neg h]
   simp [notV, h']
theorem visit_self {σ : Type} (f : σ → SC → Bool × σ) (st : σ) (c : SC) : visitL f st (cells c) = if (f st c).1 = true then visitL f (f st c).2 (cellsL c.f3) else (false, (f st c).2) := by
 rw [cells_eq]; rfl

def rectOk (r : SR) : Bool := decide (0 ≤ r.f0 ∧ 1 ≤ r.f2 ∧ r.f2 ≤ 10000 ∧ r.f0 ≤ 10000 - r.f2 ∧ 0 ≤ r.f1 ∧ 1 ≤ r.f3 ∧ r.f3 ≤ 10000 ∧ r.f1 ≤ 10000 - r.f3)
theorem rectOk_iff (r : SR) : rectOk r = true ↔ (0 ≤ r.f0 ∧ 1 ≤ r.f2 ∧ r.f2 ≤ 10000 ∧ r.f0 ≤ 10000 - r.f2 ∧ 0 ≤ r.f1 ∧ 1 ≤ r.f3 ∧ r.f3 ≤ 10000 ∧ r.f1 ≤ 10000 - r.f3) := by unfold rectOk; exact decide_eq_true_iff
def hasP (r : SR) (x y : Int) : Prop := r.f0 ≤ x ∧ x < r.f0 + r.f2 ∧ r.f1 ≤ y ∧ y < r.f1 + r.f3
instance (r : SR) (x y : Int) : Decidable (hasP r x y) := inferInstanceAs (Decidable (_ ∧ _))
def apartP (a b : SR) : Prop := a.f0 + a.f2 ≤ b.f0 ∨ b.f0 + b.f2 ≤ a.f0 ∨ a.f1 + a.f3 ≤ b.f1 ∨ b.f1 + b.f3 ≤ a.f1
theorem apartP.symm {a b : SR} (h : apartP a b) : apartP b a := by unfold apartP at *; omega

def mkR (r : SR) (ax o n : Int) : SR := if ax = 1 then ⟨r.f0 + o, r.f1, n, r.f3⟩ else ⟨r.f0, r.f1 + o, r.f2, n⟩
def wholeR (r : SR) (ax : Int) : Int := if ax = 1 then r.f2 else r.f3
def offA (first : Bool) (off : Int) : Int := if first = true then off else off + 1
def cutParts (r : SR) (ax : Int) : Bool → Int → List Int → List SR
 | _, _, [] => []
 | first, off, n :: t => mkR r ax (offA first off) n :: cutParts r ax false (offA first off + n) t
def cutLines (r : SR) (ax : Int) : Bool → Int → List Int → List SR
 | _, _, [] => []
 | first, off, n :: t => (if first = true then [] else [mkR r ax off 1]) ++ cutLines r ax false (offA first off + n) t
def cutOk (whole : Int) : Bool → Int → List Int → Bool
 | _, off, [] => decide (off = whole)
 | first, off, n :: t => decide (1 ≤ n ∧ n ≤ whole - offA first off) && cutOk whole false (offA first off + n) t
def cutGood (r : SR) (ax : Int) (l : List Int) : Bool := rectOk r && decide (ax = 1 ∨ ax = 2) && !l.isEmpty && cutOk (wholeR r ax) true 0 l

def crossR (r : SR) (ax : Int) : Int := if ax = 1 then r.f3 else r.f2




theorem cutParts_len (r : SR) (ax : Int) : ∀ (l : List Int) (first : Bool) (off : Int), (cutParts r ax first off l).length = l.length := by
 intro l
 induction l with
 | nil => intro _ _; rfl
 | cons n t ih => intro first off; simp [cutParts, ih]
theorem cutLines_len (r : SR) (ax : Int) : ∀ (l : List Int) (first : Bool) (off : Int), (cutLines r ax first off l).length = if first = true then l.length - 1 else l.length := by
 intro l
 induction l with
 | nil => intro f _; simp [cutLines]
 | cons n t ih =>
  intro first off
  simp only [cutLines, List.length_append, ih]
  cases first <;> simp <;> omega

def nodeOk (c : SC) : Bool :=
 if c.f0 = 1 then c.f3.isEmpty && decide (0 ≤ c.f2 ∧ c.f2 ≤ 2147483647)
 else if c.f0 = 2 ∨ c.f0 = 3 then decide (2 ≤ c.f3.length ∧ c.f2 = 0) else false
instance : DecidableEq SR := fun a b =>
 if h : a.f0 = b.f0 ∧ a.f1 = b.f1 ∧ a.f2 = b.f2 ∧ a.f3 = b.f3 then isTrue (by cases a; cases b; simp_all)
 else isFalse (by intro e; subst e; exact h ⟨rfl, rfl, rfl, rfl⟩)
def sizesOf (c : SC) : List Int := c.f3.map (fun k => if c.f0 = 2 then k.f1.f2 else k.f1.f3)
/-- The lines of a cell alone; none: it doesn't tile. -/
def linesS (c : SC) : Option (List SR) :=
 if c.f0 = 1 then some []
 else if cutGood c.f1 (c.f0 - 1) (sizesOf c) = true ∧ c.f3.map (·.f1) = cutParts c.f1 (c.f0 - 1) true 0 (sizesOf c) then some (cutLines c.f1 (c.f0 - 1) true 0 (sizesOf c)) else none
/-- One step of the test whether a tree may be: how many cells, the numbers met. -/
def mayStep (st : Nat × List Int) (c : SC) : Bool × Nat × List Int :=
 if 20000 < st.1 + 1 ∨ nodeOk c = false ∨ rectOk c.f1 = false ∨ (c.f0 = 1 ∧ c.f2 ∈ st.2) then (false, st.1 + 1, st.2)
 else (true, st.1 + 1, if c.f0 = 1 then c.f2 :: st.2 else st.2)
def mayB (c : SC) : Bool := (visitL mayStep (0, []) (cells c)).1
/-- One step of the walk: how many cells, the lines. -/
def walkStep (st : Nat × List SR) (c : SC) : Bool × Nat × List SR :=
 match linesS c with
 | none => (false, st)
 | some l => (true, st.1 + 1, st.2 ++ l)
def walkV (c : SC) : Bool × Nat × List SR := visitL walkStep (0, []) (cells c)
def tilesB (c : SC) : Bool := mayB c && (walkV c).1
def leafIds (l : List SC) : List Int := (l.filter (fun c => decide (c.f0 = 1))).map (·.f2)

theorem may_visit : ∀ (l : List SC) (n : Nat) (met : List Int), n ≤ 20000 → ((visitL mayStep (n, met) l).1 = true ↔ n + l.length ≤ 20000 ∧ (∀ c ∈ l, nodeOk c = true ∧ rectOk c.f1 = true) ∧ (leafIds l).Nodup ∧ ∀ i ∈ leafIds l, i ∉ met) := by
 intro l
 induction l with
 | nil => intro n met hn; simp [visitL, leafIds, hn]
 | cons c l ih =>
  intro n met hn
  simp only [visitL, mayStep]
  by_cases h : 20000 < n + 1 ∨ nodeOk c = false ∨ rectOk c.f1 = false ∨ (c.f0 = 1 ∧ c.f2 ∈ met)
  ·rw [if_pos h, if_neg (by simp)]
   simp only [Bool.false_eq_true, false_iff]
   rintro ⟨h1, h2, h3, h4⟩
   have hc := h2 c (by simp)
   rw [List.length_cons] at h1
   rcases h with h | h | h | ⟨h, h'⟩
   ·omega
   ·rw [hc.1] at h; cases h
   ·rw [hc.2] at h; cases h
   ·exact h4 c.f2 (by simp [leafIds, h]) h'
  ·rw [if_neg h]
   simp only [if_true]
   have hn1 : n + 1 ≤ 20000 := by omega
   rw [ih (n + 1) _ hn1, List.length_cons]
   have hc1 : nodeOk c = true := by cases hx : nodeOk c <;> simp_all
   have hc2 : rectOk c.f1 = true := by cases hx : rectOk c.f1 <;> simp_all
   by_cases hk : c.f0 = 1
   ·have hm : c.f2 ∉ met := fun h' => h (.inr (.inr (.inr ⟨hk, h'⟩)))
    have hl : leafIds (c :: l) = c.f2 :: leafIds l := by simp [leafIds, hk]
    rw [hl, if_pos hk, List.nodup_cons]
    constructor
    ·rintro ⟨h1, h2, h3, h4⟩
     refine ⟨by omega, fun x hx => ?_, ⟨fun hx => ?_, h3⟩, fun i hi => ?_⟩
     ·rcases List.mem_cons.1 hx with rfl | hx
      ·exact ⟨hc1, hc2⟩
      ·exact h2 x hx
     ·exact h4 _ hx (by simp)
     ·rcases List.mem_cons.1 hi with rfl | hi
      ·exact hm
      ·exact fun h' => h4 i hi (by simp [h'])
    ·rintro ⟨h1, h2, ⟨h3, h3'⟩, h4⟩
     refine ⟨by omega, fun x hx => h2 x (by simp [hx]), h3', fun i hi h' => ?_⟩
     rcases List.mem_cons.1 h' with rfl | h'
     ·exact h3 hi
     ·exact h4 i (by simp [hi]) h'
   ·have hl : leafIds (c :: l) = leafIds l := by simp [leafIds, hk]
    rw [hl, if_neg hk]
    constructor
    ·rintro ⟨h1, h2, h3, h4⟩
     refine ⟨by omega, fun x hx => ?_, h3, h4⟩
     rcases List.mem_cons.1 hx with rfl | hx
     ·exact ⟨hc1, hc2⟩
     ·exact h2 x hx
    ·rintro ⟨h1, h2, h3, h4⟩
     exact ⟨by omega, fun x hx => h2 x (by simp [hx]), h3, h4⟩
theorem may_iff (c : SC) : mayB c = true ↔ (cells c).length ≤ 20000 ∧ (∀ x ∈ cells c, nodeOk x = true ∧ rectOk x.f1 = true) ∧ (leafIds (cells c)).Nodup := by
 unfold mayB
 rw [may_visit _ _ _ (by decide)]
 simp

def lnOf (c : SC) : List SR := (linesS c).getD []
theorem walkStep_none {c : SC} (h : linesS c = none) (st : Nat × List SR) : walkStep st c = (false, st) := by unfold walkStep; rw [h]
theorem walkStep_some {c : SC} {l : List SR} (h : linesS c = some l) (st : Nat × List SR) : walkStep st c = (true, st.1 + 1, st.2 ++ l) := by unfold walkStep; rw [h]
theorem walk_visit : ∀ (l : List SC) (st : Nat × List SR), (visitL walkStep st l).1 = true ↔ ∀ c ∈ l, (linesS c).isSome = true := by
 intro l
 induction l with
 | nil => intro st; simp [visitL]
 | cons c l ih =>
  intro st
  cases h : linesS c with
  | none => simp [visitL, walkStep_none h, h]
  | some x => simp [visitL, walkStep_some h, h, ih]
theorem walk_lines : ∀ (l : List SC) (st : Nat × List SR), (visitL walkStep st l).1 = true → (visitL walkStep st l).2 = (st.1 + l.length, st.2 ++ l.flatMap lnOf) := by
 intro l
 induction l with
 | nil => intro st _; simp [visitL]
 | cons c l ih =>
  intro st
  cases h : linesS c with
  | none => simp [visitL, walkStep_none h]
  | some x =>
   simp only [visitL, walkStep_some h, if_true]
   intro h1
   rw [ih _ h1]
   simp [lnOf, h]; omega
end Go.Proofs.YtkobpbbegalfpaaGreatDoor

/-
 The reader takes a cell: what comes of it, and the walk over its kids' contract.
-/
namespace Go.Proofs.YtkobpbbegalfpaaGreatDoor
open Go.RowKit Go.Proofs.YtkobpbbegalfpaaGreatDoorW.PrintWords Go.Proofs.YtkobpbbegalfpaaGreatDoorW.PrintLast Go.Proofs.YtkobpbbegalfpaaGreatDoorW.PrintMore Go.Proofs.YtkobpbbegalfpaaGreatDoor.PParseBodies
set_option linter.unusedVariables false
set_option linter.unusedSimpArgs false
set_option maxRecDepth 100000

abbrev ResC (α : Type) : Type := Option (Except (Int × Nat) (α × Nat))
mutual
/-- A cell at a place, so deep (by so many steps). -/
def cellP (hd : ByteArray → Int × Int × Int) (s : ByteArray) : Nat → Nat → Nat → ResC SC
 | 0, _, _ => none
 | k + 1, i, deep => match rectP hd s i with
  | .error q => some (.error q)
  | .ok r =>
   if aheadI s r.2 = 123 then match kidsP hd s k 125 deep r.2 with
    | none => none
    | some (.error q) => some (.error q)
    | some (.ok p) => some (.ok (⟨2, ⟨r.1.1, r.1.2.1, r.1.2.2.1, r.1.2.2.2⟩, 0, p.1⟩, p.2))
   else if aheadI s r.2 = 91 then match kidsP hd s k 93 deep r.2 with
    | none => none
    | some (.error q) => some (.error q)
    | some (.ok p) => some (.ok (⟨3, ⟨r.1.1, r.1.2.1, r.1.2.2.1, r.1.2.2.2⟩, 0, p.1⟩, p.2))
   else match eatP s r.2 44 with
    | .error q => some (.error q)
    | .ok a => match numP hd s a with
     | .error q => some (.error q)
     | .ok n => some (.ok (⟨1, ⟨r.1.1, r.1.2.1, r.1.2.2.1, r.1.2.2.2⟩, n.1, []⟩, n.2))
/-- Kids, to a closing bracket. -/
def kidsP (hd : ByteArray → Int × Int × Int) (s : ByteArray) : Nat → Int → Nat → Nat → ResC (List SC)
 | 0, _, _, _ => none
 | k + 1, c, deep, i => if 1000 ≤ deep then some (.error (3, i)) else match cellP hd s k (i + 1) (deep + 1) with
  | none => none
  | some (.error q) => some (.error q)
  | some (.ok p) => loopP hd s k c deep [p.1] p.2
def loopP (hd : ByteArray → Int × Int × Int) (s : ByteArray) : Nat → Int → Nat → List SC → Nat → ResC (List SC)
 | 0, _, _, _, _ => none
 | k + 1, c, deep, out, j => if out.length < 2 ∨ ¬ aheadI s j = c then match eatP s j 44 with
   | .error q => some (.error q)
   | .ok a => match cellP hd s k a (deep + 1) with
    | none => none
    | some (.error q) => some (.error q)
    | some (.ok p) => loopP hd s k c deep (out ++ [p.1]) p.2
  else some (.ok (out, j + 1))
end
theorem R_stepS {w0 w w' : World} {b base : Nat} {j : Int} {e : Nat} {v : Value} {xs : List SC} (h : Kd.R k27 e w base (fun _ => True) v xs) (hb : b < base) (hs : Step w b j w') : Kd.R k27 e w' base (fun _ => True) v xs :=
 Kd.R_mono (Kd.R_step (Kd.R_bound h) (fun k hk hlt => (hs.block k hlt).trans (Below.heap_setCell w ⟨b, 1, none⟩ _ k (by have := hk.2.1; show k ≠ b; omega)))) (fun _ _ => trivial)
def CellPost (w : World) (b : Nat) (off : Int) (r : Except (Int × Nat) (SC × Nat)) (e : Ending) (w' : World) : Prop := match r with
 | .ok p => ∃ v, e = .returned (.agg #[.int .u8 p.1.f0, .int .i64 p.1.f1.f0, .int .i64 p.1.f1.f1, .int .i64 p.1.f1.f2, .int .i64 p.1.f1.f3, .int .i64 p.1.f2, v]) ∧ Kd.R k27 27 w' w.heap.size (fun _ => True) v p.1.f3 ∧ Step w b (p.2 : Int) w'
 | .error q => Out w b off q e w'
def KidsPost (w : World) (b : Nat) (off : Int) (r : Except (Int × Nat) (List SC × Nat)) (e : Ending) (w' : World) : Prop := match r with
 | .ok p => ∃ v, e = .returned v ∧ Kd.R k27 27 w' w.heap.size (fun _ => True) v p.1 ∧ Step w b (p.2 : Int) w'
 | .error q => Out w b off q e w'
/-- The places lie within the text. -/
theorem aheadI_lt {s : ByteArray} {i : Nat} {c : Int} (hc : ¬ c = 0) (h : aheadI s i = c) : i < s.size := by
 unfold aheadI at h
 split at h
 ·assumption
 ·exact absurd h.symm hc
theorem rectP_le {hd : ByteArray → Int × Int × Int} (hb : HeadB hd) {s : ByteArray} {i : Nat} (hi : i ≤ s.size) {r : (Int × Int × Int × Int) × Nat} (h : rectP hd s i = .ok r) : r.2 ≤ s.size := by
 unfold rectP at h
 cases h0 : numP hd s i with
 | error q => rw [h0] at h; cases h
 | ok p0 =>
  rw [h0] at h
  have l0 := numP_le hb hi h0
  cases h1 : eatP s p0.2 120 with
  | error q => simp only [bind, Except.bind, h1] at h; cases h
  | ok a1 =>
   simp only [bind, Except.bind, h1] at h
   obtain ⟨e1, g1, _⟩ := eatP_le (by decide) h1
   cases h2 : numP hd s a1 with
   | error q => rw [h2] at h; cases h
   | ok p2 =>
    simp only [h2] at h
    have l2 := numP_le hb (by omega) h2
    cases h3 : eatP s p2.2 44 with
    | error q => rw [h3] at h; cases h
    | ok a3 =>
     simp only [h3] at h
     obtain ⟨e3, g3, _⟩ := eatP_le (by decide) h3
     cases h4 : numP hd s a3 with
     | error q => rw [h4] at h; cases h
     | ok p4 =>
      simp only [h4] at h
      have l4 := numP_le hb (by omega) h4
      cases h5 : eatP s p4.2 44 with
      | error q => rw [h5] at h; cases h
      | ok a5 =>
       simp only [h5] at h
       obtain ⟨e5, g5, _⟩ := eatP_le (by decide) h5
       cases h6 : numP hd s a5 with
       | error q => rw [h6] at h; cases h
       | ok p6 =>
        simp only [h6] at h
        have l6 := numP_le hb (by omega) h6
        cases h
        exact l6
end Go.Proofs.YtkobpbbegalfpaaGreatDoor

/-
 The reader takes a cell: the walk, over its kids' contract.
-/
namespace Go.Proofs.YtkobpbbegalfpaaGreatDoor
open Go.RowKit Go.Proofs.YtkobpbbegalfpaaGreatDoorW.PrintWords Go.Proofs.YtkobpbbegalfpaaGreatDoorW.PrintLast Go.Proofs.YtkobpbbegalfpaaGreatDoorW.PrintMore Go.Proofs.YtkobpbbegalfpaaGreatDoor.PParseBodies
set_option linter.unusedVariables false
set_option linter.unusedSimpArgs false
set_option maxRecDepth 100000

abbrev cellA (k : Int) (p : Int × Int × Int × Int) (n : Int) (v : Value) : Array Value := #[.int .u8 k, .int .i64 p.1, .int .i64 p.2.1, .int .i64 p.2.2.1, .int .i64 p.2.2.2, .int .i64 n, v]
abbrev zeroA : Array Value := #[.int .u8 0, .int .i64 0, .int .i64 0, .int .i64 0, .int .i64 0, .int .i64 0, .slice none 0 0]
/-- The world while a cell is read: the reader's place, the result's variable, the cell's own. -/
structure CSt (w W : World) (b : Nat) (s : ByteArray) (off : Int) (j : Nat) (g : Nat) (cs : Array Value) : Prop where
 st : Step w b (j : Int) W
 rd : RdA W b s j off
 res : W.heap[w.heap.size]? = some (.cells zeroA 27 (0, 0))
 loc : W.heap[g]? = some (.cells cs 27 (0, 0))
 lt : w.heap.size < g
theorem CSt.new {w W : World} {b : Nat} {s : ByteArray} {off : Int} {j : Nat} (p : PS w W b s off j zeroA 27) (cs : Array Value) : CSt w (W.alloc (.cells cs 27)) b s off j W.heap.size cs :=
 ⟨Below.alloc p.st (by have := p.st.size; exact this) _, p.rd.below (below_alloc (Below.refl _ _) _), blk_alloc p.res _, heap_alloc_new W _, blk_lt p.res⟩
theorem CSt.step {w W W' : World} {b : Nat} {s : ByteArray} {off : Int} {i : Nat} {i0 : Int} {j : Nat} {g : Nat} {cs : Array Value} (p : CSt w W b s off i g cs) (k : RdA w b s i0 off) (h : Step W b (j : Int) W') : CSt w W' b s off j g cs :=
 ⟨Step.trans k p.st h, h.rd p.rd,
  (h.block _ (blk_lt p.res)).trans ((Below.heap_setCell W ⟨b, 1, none⟩ _ _ (Nat.ne_of_gt k.lt)).trans p.res),
  (h.block _ (blk_lt p.loc)).trans ((Below.heap_setCell W ⟨b, 1, none⟩ _ _ (Nat.ne_of_gt (Nat.lt_trans k.lt p.lt))).trans p.loc), p.lt⟩
theorem step7 {w W : World} {b : Nat} {j : Int} (h : Below w.heap.size (w.setCell ⟨b, 1, none⟩ (.int .i64 j)) W) (v0 v1 v2 v3 v4 v5 v6 : Value) : Step w b j (((((((W.setCell ⟨w.heap.size, 0, none⟩ v0).setCell ⟨w.heap.size, 1, none⟩ v1).setCell ⟨w.heap.size, 2, none⟩ v2).setCell ⟨w.heap.size, 3, none⟩ v3).setCell ⟨w.heap.size, 4, none⟩ v4).setCell ⟨w.heap.size, 5, none⟩ v5).setCell ⟨w.heap.size, 6, none⟩ v6) :=
 (((((((h.setCell (p := ⟨w.heap.size, 0, none⟩) (Nat.le_refl _) v0).setCell (p := ⟨w.heap.size, 1, none⟩) (Nat.le_refl _) v1).setCell (p := ⟨w.heap.size, 2, none⟩) (Nat.le_refl _) v2).setCell (p := ⟨w.heap.size, 3, none⟩) (Nat.le_refl _) v3).setCell (p := ⟨w.heap.size, 4, none⟩) (Nat.le_refl _) v4).setCell (p := ⟨w.heap.size, 5, none⟩) (Nat.le_refl _) v5).setCell (p := ⟨w.heap.size, 6, none⟩) (Nat.le_refl _) v6)
set_option maxHeartbeats 8000000 in
theorem cell_leaf (hd : ByteArray → Int × Int × Int) (I : World → Prop) (w : World) (b : Nat) (s : ByteArray) (i : Nat) (off deep : Int) (hs : s.size ≤ 100000) (ho : 0 ≤ off ∧ off ≤ 1000) (hi : i ≤ s.size) (hb : HeadB hd) (hc : HeadC hd b I) (hI : I w) (k : RdA w b s i off)
  (r : (Int × Int × Int × Int) × Nat) (hr : rectP hd s i = .ok r) (h1 : ¬ aheadI s r.2 = 123) (h2 : ¬ aheadI s r.2 = 91) (R : Except (Int × Nat) (SC × Nat))
  (hR : R = match eatP s r.2 44 with
   | .error q => .error q
   | .ok a => match numP hd s a with
    | .error q => .error q
    | .ok n => .ok (⟨1, ⟨r.1.1, r.1.2.1, r.1.2.2.1, r.1.2.2.2⟩, n.1, []⟩, n.2)) :
  Calls Tryz.prog 47 #[.pointer (some ⟨b, 0, none⟩), .int .i64 deep] w (CellPost w b off R) := by
 obtain ⟨W0, hW0⟩ : ∃ W0, W0 = w.alloc (.cells zeroA 27) := ⟨_, rfl⟩
 have HP0 : Aside0 (PS w W0 b s off i zeroA 27) := ⟨by rw [hW0]; exact PS.new k _ _⟩
 have HK := Aside0.mk k
 have HI0 : Aside0 (I W0) := ⟨hc.step hI HP0.out.st⟩
 have HW := Aside0.mk hW0
 have HL := Aside0.mk (rectP_le hb hi hr)
 have HN := Aside0.mk (rect_calls hd I W0 b s i off hs ho hi hb hc HI0.out HP0.out.rd)
 rw [hr] at HN
 have HRR := Aside0.mk hR
 clear hW0 hr k hI hR
 go_enter Tryz.func47, Tryz.ntmps47
 go_wp2_with fail
 rw [← HW.out]
 with_reducible refine HN.out.mono ?_
 rintro e w1 ⟨rfl, hst⟩
 obtain ⟨W1, hW1⟩ : ∃ W1, W1 = w1.alloc (.cells (cellA 0 r.1 0 (.slice none 0 0)) 27) := ⟨_, rfl⟩
 have HP1 := Aside0.mk (HP0.out.step HK.out hst)
 have HC1 : Aside0 (CSt w W1 b s off r.2 w1.heap.size (cellA 0 r.1 0 (.slice none 0 0))) := ⟨by rw [hW1]; exact CSt.new HP1.out _⟩
 have HI1 : Aside0 (I W1) := ⟨hc.bel _ _ (hc.step HI0.out hst) (by rw [hW1]; exact below_alloc (Below.refl _ _) _)⟩
 have HA := Aside0.mk (rahead_calls W1 b s r.2 off HL.out HC1.out.rd)
 have HW1 := Aside0.mk hW1
 clear hW1 hst HN HW HP1
 go_wp2_with fail
 try rw [← HW1.out]
 with_reducible refine HA.out.mono ?_
 rintro e w2 ⟨rfl, hb2⟩
 have HC2 := Aside0.mk (HC1.out.step HK.out (Step.of_below HC1.out.rd hb2))
 have HI2 : Aside0 (I w2) := ⟨hc.bel _ _ HI1.out hb2⟩
 have HN2 := Aside0.mk (eat_calls w2 b s r.2 off 44 hs ho HL.out (by decide) HC2.out.rd)
 have x1 : (aheadI s r.2 == 123) = false := beq_eq_false_iff_ne.2 h1
 have x2 : (aheadI s r.2 == 91) = false := beq_eq_false_iff_ne.2 h2
 generalize w1.heap.size = g at *
 clear hb2 HA HC1 HI1 HW1
 generalize aheadI s r.2 = x at *
 clear h1 h2
 go_wp2_with fail
 with_reducible refine HN2.out.mono ?_
 rintro e w3 h3
 cases hn : eatP s r.2 44 with
 | error q =>
  rw [hn] at h3
  have hR := HRR.out
  rw [hn] at hR
  obtain ⟨⟨g1, rfl, hg, hg2⟩, jj, hst⟩ := h3
  rw [hR]
  exact ⟨rfl, ⟨g1, rfl, Nat.le_trans HC2.out.st.size hg, hg2⟩, jj, Step.trans HK.out HC2.out.st hst⟩
 | ok a =>
  rw [hn] at h3
  have hR := HRR.out
  rw [hn] at hR
  simp only at hR
  obtain ⟨rfl, hst⟩ := h3
  have HLA : Aside0 (a ≤ s.size) := ⟨by obtain ⟨e1, h1, _⟩ := eatP_le (by decide) hn; omega⟩
  have HC3 := Aside0.mk (HC2.out.step HK.out hst)
  have HI3 : Aside0 (I w3) := ⟨hc.step HI2.out hst⟩
  have HN3 := Aside0.mk (num_calls hd I w3 b s a off hs ho HLA.out hb hc HI3.out HC3.out.rd)
  have HR3 := Aside0.mk hR
  clear hst hR HRR HN2 hn HC2 HI2
  go_wp2_with fail
  with_reducible refine HN3.out.mono ?_
  rintro e w4 h4
  cases hn : numP hd s a with
  | error q =>
   rw [hn] at h4
   have hR := HR3.out
   rw [hn] at hR
   obtain ⟨⟨g1, rfl, hg, hg2⟩, jj, hst⟩ := h4
   rw [hR]
   exact ⟨rfl, ⟨g1, rfl, Nat.le_trans HC3.out.st.size hg, hg2⟩, jj, Step.trans HK.out HC3.out.st hst⟩
  | ok n =>
   rw [hn] at h4
   have hR := HR3.out
   rw [hn] at hR
   simp only at hR
   obtain ⟨rfl, hst⟩ := h4
   have HC4 := Aside0.mk (HC3.out.step HK.out hst)
   have HR4 := Aside0.mk hR
   clear hst hR HR3 HN3 hn HC3 HI3
   have hres := HC4.out.res
   have hloc := HC4.out.loc
   have hne1 : ¬ w.heap.size = g := Nat.ne_of_lt HC4.out.lt
   have hne2 : ¬ g = w.heap.size := Nat.ne_of_gt HC4.out.lt
   have r0 : w4.cell? ⟨w.heap.size, 0, none⟩ = some (.int .u8 0) := by simp [World.cell?, hres]
   have fr0 := blk_frozen hres 0
   have l0 : w4.cell? ⟨g, 0, none⟩ = some (.int .u8 0) := by simp [World.cell?, hloc]
   have fl0 := blk_frozen hloc 0
   have r1 : w4.cell? ⟨w.heap.size, 1, none⟩ = some (.int .i64 0) := by simp [World.cell?, hres]
   have fr1 := blk_frozen hres 1
   have l1 : w4.cell? ⟨g, 1, none⟩ = some (.int .i64 r.1.1) := by simp [World.cell?, hloc]
   have fl1 := blk_frozen hloc 1
   have r2 : w4.cell? ⟨w.heap.size, 2, none⟩ = some (.int .i64 0) := by simp [World.cell?, hres]
   have fr2 := blk_frozen hres 2
   have l2 : w4.cell? ⟨g, 2, none⟩ = some (.int .i64 r.1.2.1) := by simp [World.cell?, hloc]
   have fl2 := blk_frozen hloc 2
   have r3 : w4.cell? ⟨w.heap.size, 3, none⟩ = some (.int .i64 0) := by simp [World.cell?, hres]
   have fr3 := blk_frozen hres 3
   have l3 : w4.cell? ⟨g, 3, none⟩ = some (.int .i64 r.1.2.2.1) := by simp [World.cell?, hloc]
   have fl3 := blk_frozen hloc 3
   have r4 : w4.cell? ⟨w.heap.size, 4, none⟩ = some (.int .i64 0) := by simp [World.cell?, hres]
   have fr4 := blk_frozen hres 4
   have l4 : w4.cell? ⟨g, 4, none⟩ = some (.int .i64 r.1.2.2.2) := by simp [World.cell?, hloc]
   have fl4 := blk_frozen hloc 4
   have r5 : w4.cell? ⟨w.heap.size, 5, none⟩ = some (.int .i64 0) := by simp [World.cell?, hres]
   have fr5 := blk_frozen hres 5
   have l5 : w4.cell? ⟨g, 5, none⟩ = some (.int .i64 0) := by simp [World.cell?, hloc]
   have fl5 := blk_frozen hloc 5
   have r6 : w4.cell? ⟨w.heap.size, 6, none⟩ = some (.slice none 0 0) := by simp [World.cell?, hres]
   have fr6 := blk_frozen hres 6
   have l6 : w4.cell? ⟨g, 6, none⟩ = some (.slice none 0 0) := by simp [World.cell?, hloc]
   have fl6 := blk_frozen hloc 6
   clear hres hloc
   go_wp2
   refine bodyPost_ret (v := .agg #[.int .u8 1, .int .i64 r.1.1, .int .i64 r.1.2.1, .int .i64 r.1.2.2.1, .int .i64 r.1.2.2.2, .int .i64 n.1, .slice none 0 0]) (by simp [results, Tryz.results47, go_sem, r0, r1, r2, r3, r4, r5, r6, hne1, hne2]) rfl ?_
   rw [HR4.out]
   exact ⟨_, rfl, Kd.R_nil _ _ _ _ _, step7 ((HC4.out.st.setCell (p := ⟨g, 0, none⟩) (Nat.le_of_lt HC4.out.lt) _).setCell (p := ⟨g, 5, none⟩) (Nat.le_of_lt HC4.out.lt) _) _ _ _ _ _ _ _⟩
set_option maxHeartbeats 4000000 in
theorem cell_norect (hd : ByteArray → Int × Int × Int) (I : World → Prop) (w : World) (b : Nat) (s : ByteArray) (i : Nat) (off deep : Int) (hs : s.size ≤ 100000) (ho : 0 ≤ off ∧ off ≤ 1000) (hi : i ≤ s.size) (hb : HeadB hd) (hc : HeadC hd b I) (hI : I w) (k : RdA w b s i off)
  (q : Int × Nat) (hr : rectP hd s i = .error q) :
  Calls Tryz.prog 47 #[.pointer (some ⟨b, 0, none⟩), .int .i64 deep] w (CellPost w b off (.error q)) := by
 obtain ⟨W0, hW0⟩ : ∃ W0, W0 = w.alloc (.cells zeroA 27) := ⟨_, rfl⟩
 have HP0 : Aside0 (PS w W0 b s off i zeroA 27) := ⟨by rw [hW0]; exact PS.new k _ _⟩
 have HK := Aside0.mk k
 have HI0 : Aside0 (I W0) := ⟨hc.step hI HP0.out.st⟩
 have HW := Aside0.mk hW0
 have HN := Aside0.mk (rect_calls hd I W0 b s i off hs ho hi hb hc HI0.out HP0.out.rd)
 rw [hr] at HN
 clear hW0 hr k hI
 go_enter Tryz.func47, Tryz.ntmps47
 go_wp2_with fail
 rw [← HW.out]
 with_reducible refine HN.out.mono ?_
 rintro e w1 ⟨⟨g1, rfl, hg, hg2⟩, jj, hst⟩
 exact ⟨rfl, ⟨g1, rfl, Nat.le_trans HP0.out.st.size hg, hg2⟩, jj, Step.trans HK.out HP0.out.st hst⟩
end Go.Proofs.YtkobpbbegalfpaaGreatDoor
