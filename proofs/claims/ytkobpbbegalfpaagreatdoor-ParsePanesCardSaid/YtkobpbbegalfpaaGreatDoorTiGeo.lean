/-
  Joined texts: PsRef, PsRef2, TiGeo.
-/
import Derived.Test.YtkobpbbegalfpaaGreatDoorNuFmt
import Derived.Test.YtkobpbbegalfpaaGreatDoorNumReadP
import Derived.Test.YtkobpbbegalfpaaGreatDoorPParseBodiesx11
import Derived.Test.YtkobpbbegalfpaaGreatDoorPsCellW
/-
 The document's parser and the code's reader: one answer. Pure.
-/
namespace Go.Proofs.YtkobpbbegalfpaaGreatDoor
open Go.RowKit Go.Proofs.YtkobpbbegalfpaaGreatDoorW.PrintWords Go.Proofs.YtkobpbbegalfpaaGreatDoorW.PrintLast Go.Proofs.YtkobpbbegalfpaaGreatDoorW.PrintMore Go.Proofs.YtkobpbbegalfpaaGreatDoor.PParseBodies
set_option linter.unusedVariables false
set_option linter.unusedSimpArgs false

theorem headB_R : HeadB headR := ⟨headB_headR⟩
abbrev RT := Int × Int × Int × Int × Int × Int × (List SC) × Int × Int × Int
def badT (q : Int × Nat) : RT := (0, 0, 0, 0, 0, 0, [], 0, q.1, (q.2 : Int))
def okT (c : SC) (j : Nat) : RT := (c.f0, c.f1.f0, c.f1.f1, c.f1.f2, c.f1.f3, c.f2, c.f3, (j : Int), 0, 0)
def cellT : Except (Int × Nat) (SC × Nat) → RT
 | .error q => badT q
 | .ok p => okT p.1 p.2
def onR {α : Type} (r : Except (Int × Nat) α) (K : α → Option RT) : Option RT := match r with
 | .error q => some (badT q)
 | .ok p => K p
theorem is_f (s : ByteArray) (i : Nat) (c : Int) (hc : ¬ c = 0) : sashref11_is.f s (i : Int) c = some (decide (aheadI s i = c)) := by
 unfold sashref11_is.f aheadI
 by_cases h : i < s.size
 ·rw [if_pos (by omega), if_pos (by omega), dif_pos h, bt_nat s i h]
  congr 1
 ·rw [if_neg (by omega), dif_neg h]
  congr 1
  symm
  exact decide_eq_false (fun h => hc h.symm)
theorem bad_f (e : Int) (i : Nat) : sashref11_bad.f e (i : Int) = some (badT (e, i)) := rfl
theorem wadd (i : Nat) (n : Int) (hi : i ≤ 1000000) (h0 : 0 ≤ n) (h1 : n ≤ 1000000) : wrap64 ((i : Int) + n) = ((i + n.toNat : Nat) : Int) := by unfold wrap64; omega
theorem winc (i : Nat) (hi : i ≤ 1000000) : wrap64 ((i : Int) + 1) = ((i + 1 : Nat) : Int) := by unfold wrap64; omega
theorem j2_eq (k : Nat) (s : ByteArray) (hs : s.size ≤ 100000) (i : Nat) (hi : i ≤ s.size) (hk : 2 * s.size + 2 < k) (deep x8 a b c d e f : Int) (h8 : 0 ≤ x8 ∧ x8 < 4) :
  sashref11_cell.j2 (k + 1) s (i : Int) deep x8 a b c d e f = onR (numP headR s i) fun p =>
   sashref11_cell.l0 k s (p.2 : Int) deep (x8 + 1) a (if x8 = 2 then p.1 else b) (if x8 = 3 then p.1 else c) (if x8 = 0 then p.1 else d) (if x8 = 1 then p.1 else e) f := by
 have hz : (s.extract i s.size).size ≤ s.size := by rw [ByteArray.size_extract]; omega
 have hH := rdHead_pure (s.extract i s.size) (by omega) k (by omega)
 have hB := headB_headR (s.extract i s.size)
 have ht : (((i : Int)).toNat) = i := rfl
 simp only [sashref11_cell.j2]
 rw [if_pos (by omega), if_pos (by omega), ht, hH]
 simp only [Option.bind_some]
 have hw8 : wrap64 (x8 + 1) = x8 + 1 := by unfold wrap64; omega
 unfold numP onR
 by_cases he : (headR (s.extract i s.size)).2.2 = 0
 ·rw [if_pos he, if_pos he, hw8, wadd i _ (by omega) hB.1 (by omega)]
  simp only
  by_cases c0 : x8 = 0
  ·subst c0; simp
  ·rw [if_neg c0]
   by_cases c1 : x8 = 1
   ·subst c1; simp
   ·rw [if_neg c1]
    by_cases c2 : x8 = 2
    ·subst c2; simp
    ·rw [if_neg c2]
     have c3 : x8 = 3 := by omega
     subst c3; simp
 ·rw [if_neg he, if_neg he, bad_f]
  rfl
theorem l0_0 (k : Nat) (s : ByteArray) (hs : s.size ≤ 100000) (i : Nat) (hi : i ≤ s.size) (hk : 2 * s.size + 2 < k) (deep a b c d e f : Int) :
  sashref11_cell.l0 (k + 3) s (i : Int) deep 0 a b c d e f = onR (numP headR s i) fun p => sashref11_cell.l0 k s (p.2 : Int) deep 1 a b c p.1 e f := by
 rw [sashref11_cell.l0, if_pos (by decide), if_neg (by decide), if_neg (by decide), sashref11_cell.j1, if_neg (by decide), if_neg (by decide), j2_eq k s hs i hi hk _ _ _ _ _ _ _ _ (by decide)]
 rfl
theorem sep_eq (k : Nat) (s : ByteArray) (hs : s.size ≤ 100000) (i : Nat) (hi : i ≤ s.size) (hk : 2 * s.size + 2 < k) (x8 ch deep a b c d e f : Int) (h8 : 1 ≤ x8 ∧ x8 < 4) (hch : ¬ ch = 0) :
  sashref11_cell.j1 (k + 2) s (i : Int) deep x8 (!decide (aheadI s i = ch)) a b c d e f = onR (eatP s i ch) fun q => onR (numP headR s q) fun p =>
   sashref11_cell.l0 k s (p.2 : Int) deep (x8 + 1) a (if x8 = 2 then p.1 else b) (if x8 = 3 then p.1 else c) (if x8 = 0 then p.1 else d) (if x8 = 1 then p.1 else e) f := by
 rw [sashref11_cell.j1]
 unfold eatP
 by_cases h : aheadI s i = ch
 ·have hl := aheadI_lt hch h
  rw [if_pos h, if_neg (by simp [h]), if_pos (by omega), winc i (by omega), j2_eq k s hs (i + 1) (by omega) hk _ _ _ _ _ _ _ _ (by omega)]
  rfl
 ·rw [if_neg h, if_pos (by simp [h]), bad_f]
  rfl
theorem l0_1 (k : Nat) (s : ByteArray) (hs : s.size ≤ 100000) (i : Nat) (hi : i ≤ s.size) (hk : 2 * s.size + 2 < k) (deep a b c d e f : Int) :
  sashref11_cell.l0 (k + 3) s (i : Int) deep 1 a b c d e f = onR (eatP s i 120) fun q => onR (numP headR s q) fun p => sashref11_cell.l0 k s (p.2 : Int) deep 2 a b c d p.1 f := by
 have h := sep_eq k s hs i hi hk 1 120 deep a b c d e f (by decide) (by decide)
 rw [sashref11_cell.l0, if_pos (by decide), if_pos (by decide), is_f s i 120 (by decide), Option.bind_some]
 have e : (if decide (aheadI s i = 120) = true then (if (1 : Int) > 1 then ((sashref11_is.f s (i : Int) 44).bind fun t290 => (sashref11_cell.j1 (k + 2) s (i : Int) deep 1 (!t290) a b c d e f)) else (sashref11_cell.j1 (k + 2) s (i : Int) deep 1 false a b c d e f)) else (sashref11_cell.j1 (k + 2) s (i : Int) deep 1 true a b c d e f)) = sashref11_cell.j1 (k + 2) s (i : Int) deep 1 (!decide (aheadI s i = 120)) a b c d e f := by
  by_cases h : aheadI s i = 120
  ·rw [if_pos (by simp [h]), if_neg (by decide), decide_eq_true h]; rfl
  ·rw [if_neg (by simp [h]), decide_eq_false h]; rfl
 rw [e, h]
 rfl
theorem l0_2 (k : Nat) (s : ByteArray) (hs : s.size ≤ 100000) (i : Nat) (hi : i ≤ s.size) (hk : 2 * s.size + 2 < k) (deep a b c d e f : Int) :
  sashref11_cell.l0 (k + 3) s (i : Int) deep 2 a b c d e f = onR (eatP s i 44) fun q => onR (numP headR s q) fun p => sashref11_cell.l0 k s (p.2 : Int) deep 3 a p.1 c d e f := by
 have h := sep_eq k s hs i hi hk 2 44 deep a b c d e f (by decide) (by decide)
 rw [sashref11_cell.l0, if_pos (by decide), if_neg (by decide), if_pos (by decide), is_f s i 44 (by decide), Option.bind_some, h]
 rfl
theorem l0_3 (k : Nat) (s : ByteArray) (hs : s.size ≤ 100000) (i : Nat) (hi : i ≤ s.size) (hk : 2 * s.size + 2 < k) (deep a b c d e f : Int) :
  sashref11_cell.l0 (k + 3) s (i : Int) deep 3 a b c d e f = onR (eatP s i 44) fun q => onR (numP headR s q) fun p => sashref11_cell.l0 k s (p.2 : Int) deep 4 a b p.1 d e f := by
 have h := sep_eq k s hs i hi hk 3 44 deep a b c d e f (by decide) (by decide)
 rw [sashref11_cell.l0, if_pos (by decide), if_neg (by decide), if_pos (by decide), is_f s i 44 (by decide), Option.bind_some, h]
 rfl
theorem rect_eq (k : Nat) (s : ByteArray) (hs : s.size ≤ 100000) (i : Nat) (hi : i ≤ s.size) (hk : 2 * s.size + 2 < k) (deep : Int) :
  sashref11_cell.l0 (k + 12) s (i : Int) deep 0 0 0 0 0 0 0 = onR (rectP headR s i) fun r => sashref11_cell.l0 k s (r.2 : Int) deep 4 0 r.1.1 r.1.2.1 r.1.2.2.1 r.1.2.2.2 0 := by
 rw [l0_0 (k + 9) s hs i hi (by omega)]
 unfold rectP
 cases h0 : numP headR s i with
 | error q => rfl
 | ok p0 =>
  have g0 := numP_le headB_R hi h0
  show sashref11_cell.l0 (k + 9) s (p0.2 : Int) deep 1 0 0 0 p0.1 0 0 = _
  rw [l0_1 (k + 6) s hs p0.2 g0 (by omega)]
  cases h1 : eatP s p0.2 120 with
  | error q => simp only [bind, Except.bind, h1]; rfl
  | ok a1 =>
   obtain ⟨e1, l1, _⟩ := eatP_le (by decide) h1
   simp only [bind, Except.bind, h1, onR]
   cases h2 : numP headR s a1 with
   | error q => rfl
   | ok p2 =>
    have g2 := numP_le headB_R (by omega) h2
    simp only
    rw [l0_2 (k + 3) s hs p2.2 g2 (by omega)]
    cases h3 : eatP s p2.2 44 with
    | error q => rfl
    | ok a3 =>
     obtain ⟨e3, l3, _⟩ := eatP_le (by decide) h3
     simp only [onR]
     cases h4 : numP headR s a3 with
     | error q => rfl
     | ok p4 =>
      have g4 := numP_le headB_R (by omega) h4
      simp only
      rw [l0_3 k s hs p4.2 g4 (by omega)]
      cases h5 : eatP s p4.2 44 with
      | error q => rfl
      | ok a5 =>
       simp only [onR]
       cases h6 : numP headR s a5 with
       | error q => rfl
       | ok p6 => rfl
end Go.Proofs.YtkobpbbegalfpaaGreatDoor

/-
 The document's parser and the code's reader: one answer, at every cell. Pure.
-/
namespace Go.Proofs.YtkobpbbegalfpaaGreatDoor
open Go.RowKit Go.Proofs.YtkobpbbegalfpaaGreatDoorW.PrintWords Go.Proofs.YtkobpbbegalfpaaGreatDoorW.PrintLast Go.Proofs.YtkobpbbegalfpaaGreatDoorW.PrintMore Go.Proofs.YtkobpbbegalfpaaGreatDoor.PParseBodies
set_option linter.unusedVariables false
set_option linter.unusedSimpArgs false

/-- An error's number is none but 2 and 3. -/
theorem numP_no {s : ByteArray} {i : Nat} {q : Int × Nat} (h : numP headR s i = .error q) : q.1 = 2 ∨ q.1 = 3 := by
 unfold numP at h
 split at h
 ·cases h
 ·rename_i hn
  cases h
  rcases headR_range (s.extract i s.size) with h | h | h
  ·exact absurd h hn
  ·exact .inl h
  ·exact .inr h
theorem eatP_no {s : ByteArray} {i : Nat} {c : Int} {q : Int × Nat} (h : eatP s i c = .error q) : q.1 = 2 ∨ q.1 = 3 := by
 unfold eatP at h
 split at h
 ·cases h
 ·cases h; exact .inl rfl
theorem rectP_no {s : ByteArray} {i : Nat} {q : Int × Nat} (h : rectP headR s i = .error q) : q.1 = 2 ∨ q.1 = 3 := by
 unfold rectP at h
 cases h0 : numP headR s i with
 | error q0 => rw [h0] at h; cases h; exact numP_no h0
 | ok p0 =>
  rw [h0] at h
  cases h1 : eatP s p0.2 120 with
  | error q => simp only [bind, Except.bind, h1] at h; cases h; exact eatP_no h1
  | ok a1 =>
   simp only [bind, Except.bind, h1] at h
   cases h2 : numP headR s a1 with
   | error q => rw [h2] at h; cases h; exact numP_no h2
   | ok p2 =>
    simp only [h2] at h
    cases h3 : eatP s p2.2 44 with
    | error q => rw [h3] at h; cases h; exact eatP_no h3
    | ok a3 =>
     simp only [h3] at h
     cases h4 : numP headR s a3 with
     | error q => rw [h4] at h; cases h; exact numP_no h4
     | ok p4 =>
      simp only [h4] at h
      cases h5 : eatP s p4.2 44 with
      | error q => rw [h5] at h; cases h; exact eatP_no h5
      | ok a5 =>
       simp only [h5] at h
       cases h6 : numP headR s a5 with
       | error q => rw [h6] at h; cases h; exact numP_no h6
       | ok p6 => simp only [h6] at h; cases h
def kidT (kind x y w h id : Int) : Except (Int × Nat) (List SC × Nat) → RT
 | .error q => badT q
 | .ok p => okT ⟨kind, ⟨x, y, w, h⟩, id, p.1⟩ p.2
theorem leaf_eq (k : Nat) (s : ByteArray) (hs : s.size ≤ 100000) (i : Nat) (hi : i ≤ s.size) (hk : 2 * s.size + 2 < k) (deep a x y w h id : Int) :
  sashref11_cell.j3 (k + 1) s (i : Int) deep true a x y w h id = onR (eatP s i 44) fun q => onR (numP headR s q) fun n => some (okT ⟨1, ⟨x, y, w, h⟩, n.1, []⟩ n.2) := by
 rw [sashref11_cell.j3, if_pos rfl, is_f s i 44 (by decide), Option.bind_some]
 unfold eatP
 by_cases hc : aheadI s i = 44
 ·have hl := aheadI_lt (by decide) hc
  have hz : (s.extract (i + 1) s.size).size ≤ s.size := by rw [ByteArray.size_extract]; omega
  have hH := rdHead_pure (s.extract (i + 1) s.size) (by omega) k (by omega)
  have hB := headB_headR (s.extract (i + 1) s.size)
  have ht : (((i + 1 : Nat) : Int)).toNat = i + 1 := rfl
  rw [if_pos (by simp [hc]), if_pos hc, winc i (by omega), if_pos (by omega), if_pos (by omega), ht, hH, Option.bind_some]
  unfold onR numP
  simp only
  by_cases he : (headR (s.extract (i + 1) s.size)).2.2 = 0
  ·rw [if_pos he, if_pos he, wadd (i + 1) _ (by omega) hB.1 (by omega)]
   rfl
  ·rw [if_neg he, if_neg he, bad_f]
   rfl
 ·rw [if_neg (by simp [hc]), if_neg hc, bad_f]
  rfl
theorem l0_4 (k : Nat) (s : ByteArray) (i : Nat) (deep a x y w h id : Int) :
  sashref11_cell.l0 (k + 2) s (i : Int) deep 4 a x y w h id = if aheadI s i = 123 then sashref11_cell.j4 k s (i : Int) deep 125 2 x y w h id else if aheadI s i = 91 then sashref11_cell.j4 k s (i : Int) deep 93 3 x y w h id else sashref11_cell.j3 (k + 1) s (i : Int) deep true a x y w h id := by
 rw [sashref11_cell.l0, if_neg (by decide), is_f s i 123 (by decide), Option.bind_some]
 by_cases h1 : aheadI s i = 123
 ·rw [if_pos (by simp [h1]), if_pos h1, sashref11_cell.j3, if_neg (by decide), is_f s i 91 (by decide), Option.bind_some, if_neg (by rw [h1]; decide)]
 ·rw [if_neg (by simp [h1]), if_neg h1, is_f s i 91 (by decide), Option.bind_some]
  by_cases h2 : aheadI s i = 91
  ·rw [if_pos h2, sashref11_cell.j3, if_neg (by simp [h2]), is_f s i 91 (by decide), Option.bind_some, if_pos (by simp [h2])]
  ·rw [if_neg h2, decide_eq_false h2]
   rfl
theorem j4_eq (k : Nat) (s : ByteArray) (i : Nat) (hi : i ≤ 1000000) (deep : Nat) (c kind x y w h id : Int) :
  sashref11_cell.j4 (k + 1) s (i : Int) (deep : Int) c kind x y w h id = if 1000 ≤ deep then some (badT (3, i)) else sashref11_cell.l1 k s ((i + 1 : Nat) : Int) (deep : Int) c [] kind x y w h id := by
 rw [sashref11_cell.j4]
 by_cases hd : 1000 ≤ deep
 ·rw [if_pos (by omega), if_pos hd, bad_f]
  rfl
 ·rw [if_neg (by omega), if_neg hd, winc i hi]
/-- What comes behind a kid. -/
theorem kid_eq (k : Nat) (s : ByteArray) (i : Nat) (deep : Nat) (hd : deep ≤ 1000000) (c kind x y w h id : Int) (out : List SC) (r : Except (Int × Nat) (SC × Nat)) (hq : ∀ q, r = .error q → q.1 = 2 ∨ q.1 = 3) (ho : out.length < 1000000)
  (hf : sashref11_cell.f k s (i : Int) ((deep + 1 : Nat) : Int) = some (cellT r)) :
  ((sashref11_cell.f k s (i : Int) (wrap64 ((deep : Int) + 1))).bind fun bt367 => (if bt367.2.2.2.2.2.2.2.2.1 = 0 then (if out.length < 1954687338268 then (sashref11_cell.l1 k s bt367.2.2.2.2.2.2.2.1 (deep : Int) c (out ++ [(⟨bt367.1, (⟨bt367.2.1, bt367.2.2.1, bt367.2.2.2.1, bt367.2.2.2.2.1⟩ : S24), bt367.2.2.2.2.2.1, bt367.2.2.2.2.2.2.1⟩ : SC)]) kind x y w h id) else (none)) else (some (bt367.1, bt367.2.1, bt367.2.2.1, bt367.2.2.2.1, bt367.2.2.2.2.1, bt367.2.2.2.2.2.1, bt367.2.2.2.2.2.2.1, bt367.2.2.2.2.2.2.2.1, bt367.2.2.2.2.2.2.2.2.1, bt367.2.2.2.2.2.2.2.2.2))))
   = onR r fun p => sashref11_cell.l1 k s (p.2 : Int) (deep : Int) c (out ++ [p.1]) kind x y w h id := by
 rw [winc deep hd, hf, Option.bind_some]
 cases r with
 | error q =>
  have := hq q rfl
  rw [if_neg (by show ¬ (q.1 = 0); omega)]
  rfl
 | ok p =>
  obtain ⟨⟨a1, ⟨a2, a3, a4, a5⟩, a6, a7⟩, j⟩ := p
  refine (if_pos (show (cellT (Except.ok (⟨a1, ⟨a2, a3, a4, a5⟩, a6, a7⟩, j))).2.2.2.2.2.2.2.2.1 = 0 from rfl)).trans ?_
  refine (if_pos (by omega)).trans ?_
  rfl
theorem par_all (s : ByteArray) (hs : s.size ≤ 100000) : ∀ m,
  (∀ i deep r, i ≤ s.size → deep ≤ 1001 → cellP headR s m i deep = some r → (∀ q, r = .error q → q.1 = 2 ∨ q.1 = 3) ∧ ∀ k, 20 * m + 2 * s.size + 20 ≤ k → sashref11_cell.f k s (i : Int) (deep : Int) = some (cellT r)) ∧
  (∀ c deep i r, i < s.size → deep ≤ 1001 → ¬ c = 0 → kidsP headR s m c deep i = some r → (∀ q, r = .error q → q.1 = 2 ∨ q.1 = 3) ∧ ∀ k, 20 * m + 2 * s.size + 10 ≤ k → ∀ kind x y w h id, sashref11_cell.j4 k s (i : Int) (deep : Int) c kind x y w h id = some (kidT kind x y w h id r)) ∧
  (∀ c deep out j r, j ≤ s.size → deep ≤ 1000 → ¬ c = 0 → 0 < out.length → out.length + (s.size - j) < 200000 → loopP headR s m c deep out j = some r → (∀ q, r = .error q → q.1 = 2 ∨ q.1 = 3) ∧ ∀ k, 20 * m + 2 * s.size + 10 ≤ k → ∀ kind x y w h id, sashref11_cell.l1 k s (j : Int) (deep : Int) c out kind x y w h id = some (kidT kind x y w h id r)) := by
 intro m
 induction m with
 | zero => exact ⟨fun i deep r _ _ h => (by rw [cellP] at h; cases h), fun c deep i r _ _ _ h => (by rw [kidsP] at h; cases h), fun c deep out j r _ _ _ _ _ h => (by rw [loopP] at h; cases h)⟩
 | succ m ih =>
  obtain ⟨ih1, ih2, ih3⟩ := ih
  refine ⟨?_, ?_, ?_⟩
  ·intro i deep r hi hd h
   rw [cellP] at h
   have key : ∀ k, 20 * (m + 1) + 2 * s.size + 20 ≤ k → ∃ k', k = k' + 15 ∧ 20 * m + 2 * s.size + 20 ≤ k' := fun k hk => ⟨k - 15, by omega, by omega⟩
   have hfold : ∀ k', 20 * m + 2 * s.size + 20 ≤ k' → sashref11_cell.f (k' + 15) s (i : Int) (deep : Int) = onR (rectP headR s i) fun r => sashref11_cell.l0 (k' + 2) s (r.2 : Int) (deep : Int) 4 0 r.1.1 r.1.2.1 r.1.2.2.1 r.1.2.2.2 0 := fun k' hk' => by
    show sashref11_cell.l0 (k' + 2 + 12) s (i : Int) (deep : Int) 0 0 0 0 0 0 0 = _
    exact rect_eq (k' + 2) s hs i hi (by omega) _
   cases hr : rectP headR s i with
   | error q =>
    rw [hr] at h hfold
    cases h
    exact ⟨fun q' hq => by cases hq; exact rectP_no hr, fun k hk => by
     obtain ⟨k', rfl, hk'⟩ := key k hk
     rw [hfold k' hk']
     rfl⟩
   | ok p =>
    have hle := rectP_le headB_R hi hr
    have hgt := rectP_gt hr
    rw [hr] at h hfold
    simp only at h
    simp only [onR, l0_4] at hfold
    by_cases h1 : aheadI s p.2 = 123
    ·rw [if_pos h1] at h
     simp only [if_pos h1] at hfold
     have hl := aheadI_lt (by decide) h1
     cases hkid : kidsP headR s m 125 deep p.2 with
     | none => rw [hkid] at h; cases h
     | some x =>
      obtain ⟨hq, hf⟩ := ih2 125 deep p.2 x hl hd (by decide) hkid
      rw [hkid] at h
      cases x with
      | error q =>
       cases h
       exact ⟨fun q' e => by cases e; exact hq q rfl, fun k hk => by obtain ⟨k', rfl, hk'⟩ := key k hk; rw [hfold k' hk', hf k' (by omega)]; rfl⟩
      | ok y =>
       cases h
       exact ⟨fun q' e => (by cases e), fun k hk => by obtain ⟨k', rfl, hk'⟩ := key k hk; rw [hfold k' hk', hf k' (by omega)]; rfl⟩
    ·rw [if_neg h1] at h
     simp only [if_neg h1] at hfold
     by_cases h2 : aheadI s p.2 = 91
     ·rw [if_pos h2] at h
      simp only [if_pos h2] at hfold
      have hl := aheadI_lt (by decide) h2
      cases hkid : kidsP headR s m 93 deep p.2 with
      | none => rw [hkid] at h; cases h
      | some x =>
       obtain ⟨hq, hf⟩ := ih2 93 deep p.2 x hl hd (by decide) hkid
       rw [hkid] at h
       cases x with
       | error q =>
        cases h
        exact ⟨fun q' e => by cases e; exact hq q rfl, fun k hk => by obtain ⟨k', rfl, hk'⟩ := key k hk; rw [hfold k' hk', hf k' (by omega)]; rfl⟩
       | ok y =>
        cases h
        exact ⟨fun q' e => (by cases e), fun k hk => by obtain ⟨k', rfl, hk'⟩ := key k hk; rw [hfold k' hk', hf k' (by omega)]; rfl⟩
     ·rw [if_neg h2] at h
      simp only [if_neg h2] at hfold
      have hlf : ∀ k', 20 * m + 2 * s.size + 20 ≤ k' → sashref11_cell.f (k' + 15) s (i : Int) (deep : Int) = onR (eatP s p.2 44) fun q => onR (numP headR s q) fun n => some (okT ⟨1, ⟨p.1.1, p.1.2.1, p.1.2.2.1, p.1.2.2.2⟩, n.1, []⟩ n.2) := fun k' hk' => by
       rw [hfold k' hk', leaf_eq k' s hs p.2 hle (by omega)]
      cases he : eatP s p.2 44 with
      | error q =>
       rw [he] at h hlf
       cases h
       exact ⟨fun q' e => by cases e; exact eatP_no he, fun k hk => by obtain ⟨k', rfl, hk'⟩ := key k hk; rw [hlf k' hk']; rfl⟩
      | ok a =>
       rw [he] at h hlf
       simp only [onR] at h hlf
       cases hn : numP headR s a with
       | error q =>
        rw [hn] at h hlf
        cases h
        exact ⟨fun q' e => by cases e; exact numP_no hn, fun k hk => by obtain ⟨k', rfl, hk'⟩ := key k hk; rw [hlf k' hk']; rfl⟩
       | ok n =>
        rw [hn] at h hlf
        cases h
        exact ⟨fun q' e => (by cases e), fun k hk => by obtain ⟨k', rfl, hk'⟩ := key k hk; rw [hlf k' hk']; rfl⟩
  ·intro c deep i r hi hd hc h
   rw [kidsP] at h
   have key : ∀ k, 20 * (m + 1) + 2 * s.size + 10 ≤ k → ∃ k', k = k' + 3 ∧ 20 * m + 2 * s.size + 20 ≤ k' := fun k hk => ⟨k - 3, by omega, by omega⟩
   by_cases hdp : 1000 ≤ deep
   ·rw [if_pos hdp] at h
    cases h
    refine ⟨fun q' e => by cases e; exact .inr rfl, fun k hk kind x y w h id => ?_⟩
    obtain ⟨k', rfl, hk'⟩ := key k hk
    rw [j4_eq (k' + 2) s i (by omega), if_pos hdp]
    rfl
   ·rw [if_neg hdp] at h
    cases hcl : cellP headR s m (i + 1) (deep + 1) with
    | none => rw [hcl] at h; cases h
    | some x =>
     obtain ⟨hq, hf⟩ := ih1 (i + 1) (deep + 1) x (by omega) (by omega) hcl
     have hgo : ∀ k', 20 * m + 2 * s.size + 20 ≤ k' → ∀ kind x0 y w h id, sashref11_cell.j4 (k' + 3) s (i : Int) (deep : Int) c kind x0 y w h id = onR x fun p => sashref11_cell.l1 k' s (p.2 : Int) (deep : Int) c ([] ++ [p.1]) kind x0 y w h id := fun k' hk' kind x0 y w h id => by
      rw [j4_eq (k' + 2) s i (by omega), if_neg hdp, sashref11_cell.l1, if_pos (by decide), sashref11_cell.j6, if_pos rfl, if_neg (by decide)]
      exact kid_eq k' s (i + 1) deep (by omega) c kind x0 y w h id [] x hq (by decide) (hf k' hk')
     rw [hcl] at h
     cases x with
     | error q =>
      cases h
      exact ⟨fun q' e => by cases e; exact hq q rfl, fun k hk kind x y w h id => by obtain ⟨k', rfl, hk'⟩ := key k hk; rw [hgo k' hk']; rfl⟩
     | ok p =>
      have hp := (places headR headB_R s m).1 (i + 1) (deep + 1) p (by omega) hcl
      obtain ⟨hq3, hf3⟩ := ih3 c deep [p.1] p.2 r hp.2 (by omega) hc (by simp) (by simp; omega) h
      exact ⟨hq3, fun k hk kind x y w h id => by obtain ⟨k', rfl, hk'⟩ := key k hk; rw [hgo k' hk']; exact hf3 k' (by omega) kind x y w h id⟩
  ·intro c deep out j r hj hd hc ho0 hol h
   rw [loopP] at h
   have key : ∀ k, 20 * (m + 1) + 2 * s.size + 10 ≤ k → ∃ k', k = k' + 2 ∧ 20 * m + 2 * s.size + 20 ≤ k' := fun k hk => ⟨k - 2, by omega, by omega⟩
   by_cases hcn : out.length < 2 ∨ ¬ aheadI s j = c
   ·rw [if_pos hcn] at h
    have hjump : ∀ k' kind x y w h id, sashref11_cell.l1 (k' + 2) s (j : Int) (deep : Int) c out kind x y w h id = sashref11_cell.j6 (k' + 1) s (j : Int) (deep : Int) c out true kind x y w h id := fun k' kind x y w h id => by
     rw [sashref11_cell.l1]
     by_cases h2 : out.length < 2
     ·rw [if_pos (by omega)]
     ·rw [if_neg (by omega), is_f s j c hc, Option.bind_some, decide_eq_false (hcn.resolve_left h2)]
      rfl
    cases he : eatP s j 44 with
    | error q =>
     rw [he] at h
     cases h
     refine ⟨fun q' e => by cases e; exact eatP_no he, fun k hk kind x y w h id => ?_⟩
     obtain ⟨k', rfl, hk'⟩ := key k hk
     have hne : ¬ aheadI s j = 44 := by intro h; unfold eatP at he; rw [if_pos h] at he; cases he
     have hq : q = (2, j) := by unfold eatP at he; rw [if_neg hne] at he; cases he; rfl
     subst hq
     rw [hjump, sashref11_cell.j6, if_pos rfl, if_pos (by omega), is_f s j 44 (by decide), Option.bind_some, if_neg (by simp [hne]), bad_f]
     rfl
    | ok a =>
     obtain ⟨rfl, hl, hb⟩ := eatP_le (by decide) he
     have hc44 : aheadI s j = 44 := by unfold eatP at he; split at he; assumption; cases he
     rw [he] at h
     simp only at h
     cases hcl : cellP headR s m (j + 1) (deep + 1) with
     | none => rw [hcl] at h; cases h
     | some x =>
      obtain ⟨hq, hf⟩ := ih1 (j + 1) (deep + 1) x (by omega) (by omega) hcl
      have hgo : ∀ k', 20 * m + 2 * s.size + 20 ≤ k' → ∀ kind x0 y w h id, sashref11_cell.l1 (k' + 2) s (j : Int) (deep : Int) c out kind x0 y w h id = onR x fun p => sashref11_cell.l1 k' s (p.2 : Int) (deep : Int) c (out ++ [p.1]) kind x0 y w h id := fun k' hk' kind x0 y w h id => by
       rw [hjump, sashref11_cell.j6, if_pos rfl, if_pos (by omega), is_f s j 44 (by decide), Option.bind_some, if_pos (by simp [hc44]), winc j (by omega)]
       exact kid_eq k' s (j + 1) deep (by omega) c kind x0 y w h id out x hq (by omega) (hf k' hk')
      rw [hcl] at h
      cases x with
      | error q =>
       cases h
       exact ⟨fun q' e => by cases e; exact hq q rfl, fun k hk kind x y w h id => by obtain ⟨k', rfl, hk'⟩ := key k hk; rw [hgo k' hk']; rfl⟩
      | ok p =>
       have hp := (places headR headB_R s m).1 (j + 1) (deep + 1) p (by omega) hcl
       obtain ⟨hq3, hf3⟩ := ih3 c deep (out ++ [p.1]) p.2 r hp.2 hd hc (by simp) (by simp; omega) h
       exact ⟨hq3, fun k hk kind x y w h id => by obtain ⟨k', rfl, hk'⟩ := key k hk; rw [hgo k' hk']; exact hf3 k' (by omega) kind x y w h id⟩
   ·rw [if_neg hcn] at h
    cases h
    refine ⟨fun q' e => (by cases e), fun k hk kind x y w h id => ?_⟩
    obtain ⟨k', rfl, hk'⟩ := key k hk
    have h2 : ¬ out.length < 2 := fun h => hcn (.inl h)
    have h3 : aheadI s j = c := Classical.byContradiction fun h => hcn (.inr h)
    rw [sashref11_cell.l1, if_neg (by omega), is_f s j c hc, Option.bind_some, decide_eq_true h3, sashref11_cell.j6, if_neg (by decide), winc j (by omega)]
    rfl
/-- The document's parser answers as the reader. -/
theorem refCell_pure (s : ByteArray) (hs : s.size ≤ 100000) (m : Nat) (r : Except (Int × Nat) (SC × Nat)) (h : cellP headR s m 0 1 = some r) (k : Nat) (hk : 20 * m + 2 * s.size + 20 ≤ k) : sashref11_cell.f k s 0 1 = some (cellT r) :=
 ((par_all s hs m).1 0 1 r (Nat.zero_le _) (by decide) h).2 k hk
theorem refCell_no (s : ByteArray) (hs : s.size ≤ 100000) (m : Nat) (q : Int × Nat) (h : cellP headR s m 0 1 = some (.error q)) : q.1 = 2 ∨ q.1 = 3 :=
 ((par_all s hs m).1 0 1 _ (Nat.zero_le _) (by decide) h).1 q rfl
end Go.Proofs.YtkobpbbegalfpaaGreatDoor

/- Printed texts of this seat, cut to what is used. -/
namespace Go.Proofs.YtkobpbbegalfpaaGreatDoor
open Go.RowKit Go.Proofs.YtkobpbbegalfpaaGreatDoorW.PrintWords Go.Proofs.YtkobpbbegalfpaaGreatDoorW.PrintLast Go.Proofs.YtkobpbbegalfpaaGreatDoorW.PrintMore Go.Proofs.YtkobpbbegalfpaaGreatDoor.PParseBodies
set_option linter.unusedVariables false
set_option linter.unusedSimpArgs false

def GoodC (c : SC) : Prop := nodeOk c = true ∧ rectOk c.f1 = true ∧ (linesS c).isSome = true
def GoodT (c : SC) : Prop := ∀ x ∈ cells c, GoodC x
theorem GoodT.kid {c k : SC} (h : GoodT c) (hk : k ∈ c.f3) : GoodT k := fun x hx => h x (cells_kid hk x hx)

def leavesOf (c : SC) : List SC := (cells c).filter (fun x => decide (x.f0 = 1))
def lnR (c : SC) : List SR := (cells c).flatMap lnOf


/-- An inner cell that tiles. -/
structure Inner (c : SC) : Prop where
 kind : c.f0 = 2 ∨ c.f0 = 3
 two : 2 ≤ c.f3.length
 ok : rectOk c.f1 = true
 cut : cutOk (wholeR c.f1 (c.f0 - 1)) true 0 (sizesOf c) = true
 parts : c.f3.map (·.f1) = cutParts c.f1 (c.f0 - 1) true 0 (sizesOf c)
 lines : lnOf c = cutLines c.f1 (c.f0 - 1) true 0 (sizesOf c)
theorem Inner.ax {c : SC} (h : Inner c) : c.f0 - 1 = 1 ∨ c.f0 - 1 = 2 := by have := h.kind; omega
theorem Inner.whole {c : SC} (h : Inner c) : True := trivial




end Go.Proofs.YtkobpbbegalfpaaGreatDoor
