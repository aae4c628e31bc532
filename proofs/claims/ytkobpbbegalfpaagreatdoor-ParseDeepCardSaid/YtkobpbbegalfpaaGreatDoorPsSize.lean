/-
  Joined texts: PsRef2, TiGeo, PsSize.
-/
import Derived.Test.YtkobpbbegalfpaaGreatDoorPsRef
import Derived.Test.YtkobpbbegalfpaaGreatDoorPsCellW
/-
 The document's parser and the code's reader: one answer, at every cell. Pure.
-/
namespace Go.Proofs.YtkobpbbegalfpaaGreatDoor
open Go.RowKit Go.Proofs.YtkobpbbegalfpaaGreatDoorW.PrintWords Go.Proofs.YtkobpbbegalfpaaGreatDoorW.PrintLast Go.Proofs.YtkobpbbegalfpaaGreatDoorW.PrintMore Go.Proofs.YtkobpbbegalfpaaGreatDoor.PParseBodies
set_option linter.unusedVariables false
set_option linter.unusedSimpArgs false

/-- An error's number is none but 2 and 3. -/
theorem numP_no {s : ByteArray} {i : Nat} {q : Int × Nat} (h : numP headR s i = .error q) : q.1 = 2 ∨ q.1 = 3 := by
 unfold numP at h
 split at h
 ·cases h
 ·rename_i hn
  cases h
  rcases headR_range (s.extract i s.size) with h | h | h
  ·exact absurd h hn
  ·exact .inl h
  ·exact .inr h
theorem eatP_no {s : ByteArray} {i : Nat} {c : Int} {q : Int × Nat} (h : eatP s i c = .error q) : q.1 = 2 ∨ q.1 = 3 := by
 unfold eatP at h
 split at h
 ·cases h
 ·cases h; exact .inl rfl
theorem rectP_no {s : ByteArray} {i : Nat} {q : Int × Nat} (h : rectP headR s i = .error q) : q.1 = 2 ∨ q.1 = 3 := by
 unfold rectP at h
 cases h0 : numP headR s i with
 | error q0 => rw [h0] at h; cases h; exact numP_no h0
 | ok p0 =>
  rw [h0] at h
  cases h1 : eatP s p0.2 120 with
  | error q => simp only [bind, Except.bind, h1] at h; cases h; exact eatP_no h1
  | ok a1 =>
   simp only [bind, Except.bind, h1] at h
   cases h2 : numP headR s a1 with
   | error q => rw [h2] at h; cases h; exact numP_no h2
   | ok p2 =>
    simp only [h2] at h
    cases h3 : eatP s p2.2 44 with
    | error q => rw [h3] at h; cases h; exact eatP_no h3
    | ok a3 =>
     simp only [h3] at h
     cases h4 : numP headR s a3 with
     | error q => rw [h4] at h; cases h; exact numP_no h4
     | ok p4 =>
      simp only [h4] at h
      cases h5 : eatP s p4.2 44 with
      | error q => rw [h5] at h; cases h; exact eatP_no h5
      | ok a5 =>
       simp only [h5] at h
       cases h6 : numP headR s a5 with
       | error q => rw [h6] at h; cases h; exact numP_no h6
       | ok p6 => simp only [h6] at h; cases h
def kidT (kind x y w h id : Int) : Except (Int × Nat) (List SC × Nat) → RT
 | .error q => badT q
 | .ok p => okT ⟨kind, ⟨x, y, w, h⟩, id, p.1⟩ p.2
theorem leaf_eq (k : Nat) (s : ByteArray) (hs : s.size ≤ 100000) (i : Nat) (hi : i ≤ s.size) (hk : 2 * s.size + 2 < k) (deep a x y w h id : Int) :
  sashref11_cell.j3 (k + 1) s (i : Int) deep true a x y w h id = onR (eatP s i 44) fun q => onR (numP headR s q) fun n => some (okT ⟨1, ⟨x, y, w, h⟩, n.1, []⟩ n.2) := by
 rw [sashref11_cell.j3, if_pos rfl, is_f s i 44 (by decide), Option.bind_some]
 unfold eatP
 by_cases hc : aheadI s i = 44
 ·have hl := aheadI_lt (by decide) hc
  have hz : (s.extract (i + 1) s.size).size ≤ s.size := by rw [ByteArray.size_extract]; omega
  have hH := rdHead_pure (s.extract (i + 1) s.size) (by omega) k (by omega)
  have hB := headB_headR (s.extract (i + 1) s.size)
  have ht : (((i + 1 : Nat) : Int)).toNat = i + 1 := rfl
  rw [if_pos (by simp [hc]), if_pos hc, winc i (by omega), if_pos (by omega), if_pos (by omega), ht, hH, Option.bind_some]
  unfold onR numP
  simp only
  by_cases he : (headR (s.extract (i + 1) s.size)).2.2 = 0
  ·rw [if_pos he, if_pos he, wadd (i + 1) _ (by omega) hB.1 (by omega)]
   rfl
  ·rw [if_neg he, if_neg he, bad_f]
   rfl
 ·rw [if_neg (by simp [hc]), if_neg hc, bad_f]
  rfl
theorem l0_4 (k : Nat) (s : ByteArray) (i : Nat) (deep a x y w h id : Int) :
  sashref11_cell.l0 (k + 2) s (i : Int) deep 4 a x y w h id = if aheadI s i = 123 then sashref11_cell.j4 k s (i : Int) deep 125 2 x y w h id else if aheadI s i = 91 then sashref11_cell.j4 k s (i : Int) deep 93 3 x y w h id else sashref11_cell.j3 (k + 1) s (i : Int) deep true a x y w h id := by
 rw [sashref11_cell.l0, if_neg (by decide), is_f s i 123 (by decide), Option.bind_some]
 by_cases h1 : aheadI s i = 123
 ·rw [if_pos (by simp [h1]), if_pos h1, sashref11_cell.j3, if_neg (by decide), is_f s i 91 (by decide), Option.bind_some, if_neg (by rw [h1]; decide)]
 ·rw [if_neg (by simp [h1]), if_neg h1, is_f s i 91 (by decide), Option.bind_some]
  by_cases h2 : aheadI s i = 91
  ·rw [if_pos h2, sashref11_cell.j3, if_neg (by simp [h2]), is_f s i 91 (by decide), Option.bind_some, if_pos (by simp [h2])]
  ·rw [if_neg h2, decide_eq_false h2]
   rfl
theorem j4_eq (k : Nat) (s : ByteArray) (i : Nat) (hi : i ≤ 1000000) (deep : Nat) (c kind x y w h id : Int) :
  sashref11_cell.j4 (k + 1) s (i : Int) (deep : Int) c kind x y w h id = if 1000 ≤ deep then some (badT (3, i)) else sashref11_cell.l1 k s ((i + 1 : Nat) : Int) (deep : Int) c [] kind x y w h id := by
 rw [sashref11_cell.j4]
 by_cases hd : 1000 ≤ deep
 ·rw [if_pos (by omega), if_pos hd, bad_f]
  rfl
 ·rw [if_neg (by omega), if_neg hd, winc i hi]
/-- What comes behind a kid. -/
theorem kid_eq (k : Nat) (s : ByteArray) (i : Nat) (deep : Nat) (hd : deep ≤ 1000000) (c kind x y w h id : Int) (out : List SC) (r : Except (Int × Nat) (SC × Nat)) (hq : ∀ q, r = .error q → q.1 = 2 ∨ q.1 = 3) (ho : out.length < 1000000)
  (hf : sashref11_cell.f k s (i : Int) ((deep + 1 : Nat) : Int) = some (cellT r)) :
  ((sashref11_cell.f k s (i : Int) (wrap64 ((deep : Int) + 1))).bind fun bt367 => (if bt367.2.2.2.2.2.2.2.2.1 = 0 then (if out.length < 1954687338268 then (sashref11_cell.l1 k s bt367.2.2.2.2.2.2.2.1 (deep : Int) c (out ++ [(⟨bt367.1, (⟨bt367.2.1, bt367.2.2.1, bt367.2.2.2.1, bt367.2.2.2.2.1⟩ : S24), bt367.2.2.2.2.2.1, bt367.2.2.2.2.2.2.1⟩ : SC)]) kind x y w h id) else (none)) else (some (bt367.1, bt367.2.1, bt367.2.2.1, bt367.2.2.2.1, bt367.2.2.2.2.1, bt367.2.2.2.2.2.1, bt367.2.2.2.2.2.2.1, bt367.2.2.2.2.2.2.2.1, bt367.2.2.2.2.2.2.2.2.1, bt367.2.2.2.2.2.2.2.2.2))))
   = onR r fun p => sashref11_cell.l1 k s (p.2 : Int) (deep : Int) c (out ++ [p.1]) kind x y w h id := by
 rw [winc deep hd, hf, Option.bind_some]
 cases r with
 | error q =>
  have := hq q rfl
  rw [if_neg (by show ¬ (q.1 = 0); omega)]
  rfl
 | ok p =>
  obtain ⟨⟨a1, ⟨a2, a3, a4, a5⟩, a6, a7⟩, j⟩ := p
  refine (if_pos (show (cellT (Except.ok (⟨a1, ⟨a2, a3, a4, a5⟩, a6, a7⟩, j))).2.2.2.2.2.2.2.2.1 = 0 from rfl)).trans ?_
  refine (if_pos (by omega)).trans ?_
  rfl
theorem par_all (s : ByteArray) (hs : s.size ≤ 100000) : ∀ m,
  (∀ i deep r, i ≤ s.size → deep ≤ 1001 → cellP headR s m i deep = some r → (∀ q, r = .error q → q.1 = 2 ∨ q.1 = 3) ∧ ∀ k, 20 * m + 2 * s.size + 20 ≤ k → sashref11_cell.f k s (i : Int) (deep : Int) = some (cellT r)) ∧
  (∀ c deep i r, i < s.size → deep ≤ 1001 → ¬ c = 0 → kidsP headR s m c deep i = some r → (∀ q, r = .error q → q.1 = 2 ∨ q.1 = 3) ∧ ∀ k, 20 * m + 2 * s.size + 10 ≤ k → ∀ kind x y w h id, sashref11_cell.j4 k s (i : Int) (deep : Int) c kind x y w h id = some (kidT kind x y w h id r)) ∧
  (∀ c deep out j r, j ≤ s.size → deep ≤ 1000 → ¬ c = 0 → 0 < out.length → out.length + (s.size - j) < 200000 → loopP headR s m c deep out j = some r → (∀ q, r = .error q → q.1 = 2 ∨ q.1 = 3) ∧ ∀ k, 20 * m + 2 * s.size + 10 ≤ k → ∀ kind x y w h id, sashref11_cell.l1 k s (j : Int) (deep : Int) c out kind x y w h id = some (kidT kind x y w h id r)) := by
 intro m
 induction m with
 | zero => exact ⟨fun i deep r _ _ h => (by rw [cellP] at h; cases h), fun c deep i r _ _ _ h => (by rw [kidsP] at h; cases h), fun c deep out j r _ _ _ _ _ h => (by rw [loopP] at h; cases h)⟩
 | succ m ih =>
  obtain ⟨ih1, ih2, ih3⟩ := ih
  refine ⟨?_, ?_, ?_⟩
  ·intro i deep r hi hd h
   rw [cellP] at h
   have key : ∀ k, 20 * (m + 1) + 2 * s.size + 20 ≤ k → ∃ k', k = k' + 15 ∧ 20 * m + 2 * s.size + 20 ≤ k' := fun k hk => ⟨k - 15, by omega, by omega⟩
   have hfold : ∀ k', 20 * m + 2 * s.size + 20 ≤ k' → sashref11_cell.f (k' + 15) s (i : Int) (deep : Int) = onR (rectP headR s i) fun r => sashref11_cell.l0 (k' + 2) s (r.2 : Int) (deep : Int) 4 0 r.1.1 r.1.2.1 r.1.2.2.1 r.1.2.2.2 0 := fun k' hk' => by
    show sashref11_cell.l0 (k' + 2 + 12) s (i : Int) (deep : Int) 0 0 0 0 0 0 0 = _
    exact rect_eq (k' + 2) s hs i hi (by omega) _
   cases hr : rectP headR s i with
   | error q =>
    rw [hr] at h hfold
    cases h
    exact ⟨fun q' hq => by cases hq; exact rectP_no hr, fun k hk => by
     obtain ⟨k', rfl, hk'⟩ := key k hk
     rw [hfold k' hk']
     rfl⟩
   | ok p =>
    have hle := rectP_le headB_R hi hr
    have hgt := rectP_gt hr
    rw [hr] at h hfold
    simp only at h
    simp only [onR, l0_4] at hfold
    by_cases h1 : aheadI s p.2 = 123
    ·rw [if_pos h1] at h
     simp only [if_pos h1] at hfold
     have hl := aheadI_lt (by decide) h1
     cases hkid : kidsP headR s m 125 deep p.2 with
     | none => rw [hkid] at h; cases h
     | some x =>
      obtain ⟨hq, hf⟩ := ih2 125 deep p.2 x hl hd (by decide) hkid
      rw [hkid] at h
      cases x with
      | error q =>
       cases h
       exact ⟨fun q' e => by cases e; exact hq q rfl, fun k hk => by obtain ⟨k', rfl, hk'⟩ := key k hk; rw [hfold k' hk', hf k' (by omega)]; rfl⟩
      | ok y =>
       cases h
       exact ⟨fun q' e => (by cases e), fun k hk => by obtain ⟨k', rfl, hk'⟩ := key k hk; rw [hfold k' hk', hf k' (by omega)]; rfl⟩
    ·rw [if_neg h1] at h
     simp only [if_neg h1] at hfold
     by_cases h2 : aheadI s p.2 = 91
     ·rw [if_pos h2] at h
      simp only [if_pos h2] at hfold
      have hl := aheadI_lt (by decide) h2
      cases hkid : kidsP headR s m 93 deep p.2 with
      | none => rw [hkid] at h; cases h
      | some x =>
       obtain ⟨hq, hf⟩ := ih2 93 deep p.2 x hl hd (by decide) hkid
       rw [hkid] at h
       cases x with
       | error q =>
        cases h
        exact ⟨fun q' e => by cases e; exact hq q rfl, fun k hk => by obtain ⟨k', rfl, hk'⟩ := key k hk; rw [hfold k' hk', hf k' (by omega)]; rfl⟩
       | ok y =>
        cases h
        exact ⟨fun q' e => (by cases e), fun k hk => by obtain ⟨k', rfl, hk'⟩ := key k hk; rw [hfold k' hk', hf k' (by omega)]; rfl⟩
     ·rw [if_neg h2] at h
      simp only [if_neg h2] at hfold
      have hlf : ∀ k', 20 * m + 2 * s.size + 20 ≤ k' → sashref11_cell.f (k' + 15) s (i : Int) (deep : Int) = onR (eatP s p.2 44) fun q => onR (numP headR s q) fun n => some (okT ⟨1, ⟨p.1.1, p.1.2.1, p.1.2.2.1, p.1.2.2.2⟩, n.1, []⟩ n.2) := fun k' hk' => by
       rw [hfold k' hk', leaf_eq k' s hs p.2 hle (by omega)]
      cases he : eatP s p.2 44 with
      | error q =>
       rw [he] at h hlf
       cases h
       exact ⟨fun q' e => by cases e; exact eatP_no he, fun k hk => by obtain ⟨k', rfl, hk'⟩ := key k hk; rw [hlf k' hk']; rfl⟩
      | ok a =>
       rw [he] at h hlf
       simp only [onR] at h hlf
       cases hn : numP headR s a with
       | error q =>
        rw [hn] at h hlf
        cases h
        exact ⟨fun q' e => by cases e; exact numP_no hn, fun k hk => by obtain ⟨k', rfl, hk'⟩ := key k hk; rw [hlf k' hk']; rfl⟩
       | ok n =>
        rw [hn] at h hlf
        cases h
        exact ⟨fun q' e => (by cases e), fun k hk => by obtain ⟨k', rfl, hk'⟩ := key k hk; rw [hlf k' hk']; rfl⟩
  ·intro c deep i r hi hd hc h
   rw [kidsP] at h
   have key : ∀ k, 20 * (m + 1) + 2 * s.size + 10 ≤ k → ∃ k', k = k' + 3 ∧ 20 * m + 2 * s.size + 20 ≤ k' := fun k hk => ⟨k - 3, by omega, by omega⟩
   by_cases hdp : 1000 ≤ deep
   ·rw [if_pos hdp] at h
    cases h
    refine ⟨fun q' e => by cases e; exact .inr rfl, fun k hk kind x y w h id => ?_⟩
    obtain ⟨k', rfl, hk'⟩ := key k hk
    rw [j4_eq (k' + 2) s i (by omega), if_pos hdp]
    rfl
   ·rw [if_neg hdp] at h
    cases hcl : cellP headR s m (i + 1) (deep + 1) with
    | none => rw [hcl] at h; cases h
    | some x =>
     obtain ⟨hq, hf⟩ := ih1 (i + 1) (deep + 1) x (by omega) (by omega) hcl
     have hgo : ∀ k', 20 * m + 2 * s.size + 20 ≤ k' → ∀ kind x0 y w h id, sashref11_cell.j4 (k' + 3) s (i : Int) (deep : Int) c kind x0 y w h id = onR x fun p => sashref11_cell.l1 k' s (p.2 : Int) (deep : Int) c ([] ++ [p.1]) kind x0 y w h id := fun k' hk' kind x0 y w h id => by
      rw [j4_eq (k' + 2) s i (by omega), if_neg hdp, sashref11_cell.l1, if_pos (by decide), sashref11_cell.j6, if_pos rfl, if_neg (by decide)]
      exact kid_eq k' s (i + 1) deep (by omega) c kind x0 y w h id [] x hq (by decide) (hf k' hk')
     rw [hcl] at h
     cases x with
     | error q =>
      cases h
      exact ⟨fun q' e => by cases e; exact hq q rfl, fun k hk kind x y w h id => by obtain ⟨k', rfl, hk'⟩ := key k hk; rw [hgo k' hk']; rfl⟩
     | ok p =>
      have hp := (places headR headB_R s m).1 (i + 1) (deep + 1) p (by omega) hcl
      obtain ⟨hq3, hf3⟩ := ih3 c deep [p.1] p.2 r hp.2 (by omega) hc (by simp) (by simp; omega) h
      exact ⟨hq3, fun k hk kind x y w h id => by obtain ⟨k', rfl, hk'⟩ := key k hk; rw [hgo k' hk']; exact hf3 k' (by omega) kind x y w h id⟩
  ·intro c deep out j r hj hd hc ho0 hol h
   rw [loopP] at h
   have key : ∀ k, 20 * (m + 1) + 2 * s.size + 10 ≤ k → ∃ k', k = k' + 2 ∧ 20 * m + 2 * s.size + 20 ≤ k' := fun k hk => ⟨k - 2, by omega, by omega⟩
   by_cases hcn : out.length < 2 ∨ ¬ aheadI s j = c
   ·rw [if_pos hcn] at h
    have hjump : ∀ k' kind x y w h id, sashref11_cell.l1 (k' + 2) s (j : Int) (deep : Int) c out kind x y w h id = sashref11_cell.j6 (k' + 1) s (j : Int) (deep : Int) c out true kind x y w h id := fun k' kind x y w h id => by
     rw [sashref11_cell.l1]
     by_cases h2 : out.length < 2
     ·rw [if_pos (by omega)]
     ·rw [if_neg (by omega), is_f s j c hc, Option.bind_some, decide_eq_false (hcn.resolve_left h2)]
      rfl
    cases he : eatP s j 44 with
    | error q =>
     rw [he] at h
     cases h
     refine ⟨fun q' e => by cases e; exact eatP_no he, fun k hk kind x y w h id => ?_⟩
     obtain ⟨k', rfl, hk'⟩ := key k hk
     have hne : ¬ aheadI s j = 44 := by intro h; unfold eatP at he; rw [if_pos h] at he; cases he
     have hq : q = (2, j) := by unfold eatP at he; rw [if_neg hne] at he; cases he; rfl
     subst hq
     rw [hjump, sashref11_cell.j6, if_pos rfl, if_pos (by omega), is_f s j 44 (by decide), Option.bind_some, if_neg (by simp [hne]), bad_f]
     rfl
    | ok a =>
     obtain ⟨rfl, hl, hb⟩ := eatP_le (by decide) he
     have hc44 : aheadI s j = 44 := by unfold eatP at he; split at he; assumption; cases he
     rw [he] at h
     simp only at h
     cases hcl : cellP headR s m (j + 1) (deep + 1) with
     | none => rw [hcl] at h; cases h
     | some x =>
      obtain ⟨hq, hf⟩ := ih1 (j + 1) (deep + 1) x (by omega) (by omega) hcl
      have hgo : ∀ k', 20 * m + 2 * s.size + 20 ≤ k' → ∀ kind x0 y w h id, sashref11_cell.l1 (k' + 2) s (j : Int) (deep : Int) c out kind x0 y w h id = onR x fun p => sashref11_cell.l1 k' s (p.2 : Int) (deep : Int) c (out ++ [p.1]) kind x0 y w h id := fun k' hk' kind x0 y w h id => by
       rw [hjump, sashref11_cell.j6, if_pos rfl, if_pos (by omega), is_f s j 44 (by decide), Option.bind_some, if_pos (by simp [hc44]), winc j (by omega)]
       exact kid_eq k' s (j + 1) deep (by omega) c kind x0 y w h id out x hq (by omega) (hf k' hk')
      rw [hcl] at h
      cases x with
      | error q =>
       cases h
       exact ⟨fun q' e => by cases e; exact hq q rfl, fun k hk kind x y w h id => by obtain ⟨k', rfl, hk'⟩ := key k hk; rw [hgo k' hk']; rfl⟩
      | ok p =>
       have hp := (places headR headB_R s m).1 (j + 1) (deep + 1) p (by omega) hcl
       obtain ⟨hq3, hf3⟩ := ih3 c deep (out ++ [p.1]) p.2 r hp.2 hd hc (by simp) (by simp; omega) h
       exact ⟨hq3, fun k hk kind x y w h id => by obtain ⟨k', rfl, hk'⟩ := key k hk; rw [hgo k' hk']; exact hf3 k' (by omega) kind x y w h id⟩
   ·rw [if_neg hcn] at h
    cases h
    refine ⟨fun q' e => (by cases e), fun k hk kind x y w h id => ?_⟩
    obtain ⟨k', rfl, hk'⟩ := key k hk
    have h2 : ¬ out.length < 2 := fun h => hcn (.inl h)
    have h3 : aheadI s j = c := Classical.byContradiction fun h => hcn (.inr h)
    rw [sashref11_cell.l1, if_neg (by omega), is_f s j c hc, Option.bind_some, decide_eq_true h3, sashref11_cell.j6, if_neg (by decide), winc j (by omega)]
    rfl
/-- The document's parser answers as the reader. -/
theorem refCell_pure (s : ByteArray) (hs : s.size ≤ 100000) (m : Nat) (r : Except (Int × Nat) (SC × Nat)) (h : cellP headR s m 0 1 = some r) (k : Nat) (hk : 20 * m + 2 * s.size + 20 ≤ k) : sashref11_cell.f k s 0 1 = some (cellT r) :=
 ((par_all s hs m).1 0 1 r (Nat.zero_le _) (by decide) h).2 k hk
theorem refCell_no (s : ByteArray) (hs : s.size ≤ 100000) (m : Nat) (q : Int × Nat) (h : cellP headR s m 0 1 = some (.error q)) : q.1 = 2 ∨ q.1 = 3 :=
 ((par_all s hs m).1 0 1 _ (Nat.zero_le _) (by decide) h).1 q rfl
end Go.Proofs.YtkobpbbegalfpaaGreatDoor

/- Printed texts of this seat, cut to what is used. -/
namespace Go.Proofs.YtkobpbbegalfpaaGreatDoor
open Go.RowKit Go.Proofs.YtkobpbbegalfpaaGreatDoorW.PrintWords Go.Proofs.YtkobpbbegalfpaaGreatDoorW.PrintLast Go.Proofs.YtkobpbbegalfpaaGreatDoorW.PrintMore Go.Proofs.YtkobpbbegalfpaaGreatDoor.PParseBodies
set_option linter.unusedVariables false
set_option linter.unusedSimpArgs false

def GoodC (c : SC) : Prop := nodeOk c = true ∧ rectOk c.f1 = true ∧ (linesS c).isSome = true
def GoodT (c : SC) : Prop := ∀ x ∈ cells c, GoodC x
theorem GoodT.kid {c k : SC} (h : GoodT c) (hk : k ∈ c.f3) : GoodT k := fun x hx => h x (cells_kid hk x hx)
theorem tilesB_iff (c : SC) : tilesB c = true ↔ mayB c = true ∧ ∀ x ∈ cells c, (linesS x).isSome = true := by
 unfold tilesB walkV
 rw [Bool.and_eq_true, walk_visit]

def leavesOf (c : SC) : List SC := (cells c).filter (fun x => decide (x.f0 = 1))
def lnR (c : SC) : List SR := (cells c).flatMap lnOf


/-- An inner cell that tiles. -/
structure Inner (c : SC) : Prop where
 kind : c.f0 = 2 ∨ c.f0 = 3
 two : 2 ≤ c.f3.length
 ok : rectOk c.f1 = true
 cut : cutOk (wholeR c.f1 (c.f0 - 1)) true 0 (sizesOf c) = true
 parts : c.f3.map (·.f1) = cutParts c.f1 (c.f0 - 1) true 0 (sizesOf c)
 lines : lnOf c = cutLines c.f1 (c.f0 - 1) true 0 (sizesOf c)
theorem Inner.ax {c : SC} (h : Inner c) : c.f0 - 1 = 1 ∨ c.f0 - 1 = 2 := by have := h.kind; omega
theorem Inner.whole {c : SC} (h : Inner c) : True := trivial




end Go.Proofs.YtkobpbbegalfpaaGreatDoor

/-
 How many cells a text's tree has. Pure.
-/
namespace Go.Proofs.YtkobpbbegalfpaaGreatDoor
open Go.RowKit Go.Proofs.YtkobpbbegalfpaaGreatDoorW.PrintWords Go.Proofs.YtkobpbbegalfpaaGreatDoorW.PrintLast Go.Proofs.YtkobpbbegalfpaaGreatDoorW.PrintMore Go.Proofs.YtkobpbbegalfpaaGreatDoor.PParseBodies
set_option linter.unusedVariables false
set_option linter.unusedSimpArgs false

theorem numP_gt {s : ByteArray} {i : Nat} {p : Int × Nat} (h : numP headR s i = .ok p) : i + 1 ≤ p.2 := by
 unfold numP at h
 split at h
 ·rename_i he
  obtain ⟨_, e, hp⟩ := head_ok he
  cases h
  show i + 1 ≤ i + ((headR (s.extract i s.size)).2.1).toNat
  omega
 ·cases h
theorem rectP7 {s : ByteArray} {i : Nat} {r : (Int × Int × Int × Int) × Nat} (h : rectP headR s i = .ok r) : i + 7 ≤ r.2 := by
 unfold rectP at h
 cases h0 : numP headR s i with
 | error q => rw [h0] at h; cases h
 | ok p0 =>
  rw [h0] at h
  have l0 := numP_gt h0
  cases h1 : eatP s p0.2 120 with
  | error q => simp only [bind, Except.bind, h1] at h; cases h
  | ok a1 =>
   simp only [bind, Except.bind, h1] at h
   obtain ⟨e1, g1, _⟩ := eatP_le (by decide) h1
   cases h2 : numP headR s a1 with
   | error q => rw [h2] at h; cases h
   | ok p2 =>
    simp only [h2] at h
    have l2 := numP_gt h2
    cases h3 : eatP s p2.2 44 with
    | error q => rw [h3] at h; cases h
    | ok a3 =>
     simp only [h3] at h
     obtain ⟨e3, g3, _⟩ := eatP_le (by decide) h3
     cases h4 : numP headR s a3 with
     | error q => rw [h4] at h; cases h
     | ok p4 =>
      simp only [h4] at h
      have l4 := numP_gt h4
      cases h5 : eatP s p4.2 44 with
      | error q => rw [h5] at h; cases h
      | ok a5 =>
       simp only [h5] at h
       obtain ⟨e5, g5, _⟩ := eatP_le (by decide) h5
       cases h6 : numP headR s a5 with
       | error q => rw [h6] at h; cases h
       | ok p6 =>
        simp only [h6] at h
        have l6 := numP_gt h6
        cases h
        show i + 7 ≤ p6.2
        omega
theorem cellsL_snoc (l : List SC) (c : SC) : (cellsL (l ++ [c])).length = (cellsL l).length + (cells c).length := by
 rw [cellsL_flat, cellsL_flat]
 simp
theorem cells_mk (k : Int) (r : SR) (id : Int) (l : List SC) : (cells ⟨k, r, id, l⟩).length = 1 + (cellsL l).length := by
 rw [cells_eq]
 simp
 omega
theorem size_all (s : ByteArray) : ∀ m,
  (∀ i deep p, i ≤ s.size → cellP headR s m i deep = some (.ok p) → 7 * (cells p.1).length + i ≤ p.2) ∧
  (∀ c deep i p, i < s.size → ¬ c = 0 → kidsP headR s m c deep i = some (.ok p) → 7 * (cellsL p.1).length + i ≤ p.2) ∧
  (∀ c deep out j p, j ≤ s.size → ¬ c = 0 → loopP headR s m c deep out j = some (.ok p) → 7 * (cellsL p.1).length + j ≤ p.2 + 7 * (cellsL out).length) := by
 intro m
 induction m with
 | zero => exact ⟨fun i deep p _ h => (by rw [cellP] at h; cases h), fun c deep i p _ _ h => (by rw [kidsP] at h; cases h), fun c deep out j p _ _ h => (by rw [loopP] at h; cases h)⟩
 | succ m ih =>
  obtain ⟨ih1, ih2, ih3⟩ := ih
  refine ⟨?_, ?_, ?_⟩
  ·intro i deep p hi h
   rw [cellP] at h
   cases hr : rectP headR s i with
   | error q => rw [hr] at h; cases h
   | ok r =>
    have g7 := rectP7 hr
    have hle := rectP_le headB_R hi hr
    rw [hr] at h
    simp only at h
    by_cases h1 : aheadI s r.2 = 123
    ·rw [if_pos h1] at h
     have hl := aheadI_lt (by decide) h1
     cases hk : kidsP headR s m 125 deep r.2 with
     | none => rw [hk] at h; cases h
     | some x =>
      rw [hk] at h
      cases x with
      | error q => cases h
      | ok y =>
       have := ih2 125 deep r.2 y hl (by decide) hk
       cases h
       simp only [cells_mk]
       omega
    ·rw [if_neg h1] at h
     by_cases h2 : aheadI s r.2 = 91
     ·rw [if_pos h2] at h
      have hl := aheadI_lt (by decide) h2
      cases hk : kidsP headR s m 93 deep r.2 with
      | none => rw [hk] at h; cases h
      | some x =>
       rw [hk] at h
       cases x with
       | error q => cases h
       | ok y =>
        have := ih2 93 deep r.2 y hl (by decide) hk
        cases h
        simp only [cells_mk]
        omega
     ·rw [if_neg h2] at h
      cases he : eatP s r.2 44 with
      | error q => rw [he] at h; cases h
      | ok a =>
       obtain ⟨e1, _, _⟩ := eatP_le (by decide) he
       rw [he] at h
       simp only at h
       cases hn : numP headR s a with
       | error q => rw [hn] at h; cases h
       | ok n =>
        have := numP_gt hn
        rw [hn] at h
        cases h
        simp only [cells_mk, cellsL_nil, List.length_nil]
        omega
  ·intro c deep i p hi hc h
   rw [kidsP] at h
   by_cases hdp : 1000 ≤ deep
   ·rw [if_pos hdp] at h; cases h
   ·rw [if_neg hdp] at h
    cases hcl : cellP headR s m (i + 1) (deep + 1) with
    | none => rw [hcl] at h; cases h
    | some x =>
     rw [hcl] at h
     cases x with
     | error q => cases h
     | ok y =>
      simp only at h
      have hp := (places headR headB_R s m).1 (i + 1) (deep + 1) y (by omega) hcl
      have h1 := ih1 (i + 1) (deep + 1) y (by omega) hcl
      have h3 := ih3 c deep [y.1] y.2 p hp.2 hc h
      have e : (cellsL [y.1]).length = (cells y.1).length := by rw [cellsL_cons, cellsL_nil]; simp
      omega
  ·intro c deep out j p hj hc h
   rw [loopP] at h
   by_cases hcn : out.length < 2 ∨ ¬ aheadI s j = c
   ·rw [if_pos hcn] at h
    cases he : eatP s j 44 with
    | error q => rw [he] at h; cases h
    | ok a =>
     obtain ⟨rfl, hl, _⟩ := eatP_le (by decide) he
     rw [he] at h
     simp only at h
     cases hcl : cellP headR s m (j + 1) (deep + 1) with
     | none => rw [hcl] at h; cases h
     | some x =>
      rw [hcl] at h
      cases x with
      | error q => cases h
      | ok y =>
       simp only at h
       have hp := (places headR headB_R s m).1 (j + 1) (deep + 1) y (by omega) hcl
       have h1 := ih1 (j + 1) (deep + 1) y (by omega) hcl
       have h3 := ih3 c deep (out ++ [y.1]) y.2 p hp.2 hc h
       have e := cellsL_snoc out y.1
       omega
   ·rw [if_neg hcn] at h
    cases h
    show 7 * (cellsL out).length + j ≤ j + 1 + 7 * (cellsL out).length
    omega
/-- What a text's first cell comes to. -/
def cellR (s : ByteArray) : Except (Int × Nat) (SC × Nat) := (cellP headR s (2 * s.size + 3) 0 1).getD (.error (0, 0))
theorem cellR_eq (s : ByteArray) : cellP headR s (2 * s.size + 3) 0 1 = some (cellR s) := by
 obtain ⟨r, h⟩ := cellP_some headR headB_R s
 unfold cellR
 rw [h]
 rfl
theorem cellR_size {s : ByteArray} {p : SC × Nat} (h : cellR s = .ok p) : 7 * (cells p.1).length ≤ s.size := by
 have e := cellR_eq s
 rw [h] at e
 have h1 := (size_all s _).1 0 1 p (Nat.zero_le _) e
 have h2 := ((places headR headB_R s _).1 0 1 p (Nat.zero_le _) e).2
 omega
theorem cellR_no {s : ByteArray} (hs : s.size ≤ 100000) {q : Int × Nat} (h : cellR s = .error q) : q.1 = 2 ∨ q.1 = 3 := by
 have e := cellR_eq s
 rw [h] at e
 exact refCell_no s hs _ q e
/-- The document's: one answer. -/
theorem cellR_f (s : ByteArray) (hs : s.size ≤ 100000) (k : Nat) (hk : 42 * s.size + 80 ≤ k) : sashref11_cell.f k s 0 1 = some (cellT (cellR s)) :=
 refCell_pure s hs _ _ (cellR_eq s) k (by omega)
theorem numP_site {s : ByteArray} {i : Nat} {q : Int × Nat} (h : numP headR s i = .error q) : q.2 = i := by
 unfold numP at h
 split at h
 ·cases h
 ·cases h; rfl
theorem eatP_site {s : ByteArray} {i : Nat} {c : Int} {q : Int × Nat} (h : eatP s i c = .error q) : q.2 = i := by
 unfold eatP at h
 split at h
 ·cases h
 ·cases h; rfl
theorem rectP_site {s : ByteArray} {i : Nat} (hi : i ≤ s.size) {q : Int × Nat} (h : rectP headR s i = .error q) : q.2 ≤ s.size := by
 unfold rectP at h
 cases h0 : numP headR s i with
 | error q0 => rw [h0] at h; cases h; rw [numP_site h0]; exact hi
 | ok p0 =>
  rw [h0] at h
  have g0 := numP_le headB_R hi h0
  cases h1 : eatP s p0.2 120 with
  | error q => simp only [bind, Except.bind, h1] at h; cases h; rw [eatP_site h1]; exact g0
  | ok a1 =>
   simp only [bind, Except.bind, h1] at h
   obtain ⟨e1, l1, _⟩ := eatP_le (by decide) h1
   cases h2 : numP headR s a1 with
   | error q => rw [h2] at h; cases h; rw [numP_site h2]; omega
   | ok p2 =>
    simp only [h2] at h
    have g2 := numP_le headB_R (by omega) h2
    cases h3 : eatP s p2.2 44 with
    | error q => rw [h3] at h; cases h; rw [eatP_site h3]; exact g2
    | ok a3 =>
     simp only [h3] at h
     obtain ⟨e3, l3, _⟩ := eatP_le (by decide) h3
     cases h4 : numP headR s a3 with
     | error q => rw [h4] at h; cases h; rw [numP_site h4]; omega
     | ok p4 =>
      simp only [h4] at h
      have g4 := numP_le headB_R (by omega) h4
      cases h5 : eatP s p4.2 44 with
      | error q => rw [h5] at h; cases h; rw [eatP_site h5]; exact g4
      | ok a5 =>
       simp only [h5] at h
       obtain ⟨e5, l5, _⟩ := eatP_le (by decide) h5
       cases h6 : numP headR s a5 with
       | error q => rw [h6] at h; cases h; rw [numP_site h6]; omega
       | ok p6 => simp only [h6] at h; cases h
theorem site_all (s : ByteArray) : ∀ m,
  (∀ i deep q, i ≤ s.size → cellP headR s m i deep = some (.error q) → q.2 ≤ s.size) ∧
  (∀ c deep i q, i < s.size → ¬ c = 0 → kidsP headR s m c deep i = some (.error q) → q.2 ≤ s.size) ∧
  (∀ c deep out j q, j ≤ s.size → ¬ c = 0 → loopP headR s m c deep out j = some (.error q) → q.2 ≤ s.size) := by
 intro m
 induction m with
 | zero => exact ⟨fun i deep p _ h => (by rw [cellP] at h; cases h), fun c deep i p _ _ h => (by rw [kidsP] at h; cases h), fun c deep out j p _ _ h => (by rw [loopP] at h; cases h)⟩
 | succ m ih =>
  obtain ⟨ih1, ih2, ih3⟩ := ih
  refine ⟨?_, ?_, ?_⟩
  ·intro i deep q hi h
   rw [cellP] at h
   cases hr : rectP headR s i with
   | error q => rw [hr] at h; cases h; exact rectP_site hi hr
   | ok r =>
    have hle := rectP_le headB_R hi hr
    rw [hr] at h
    simp only at h
    by_cases h1 : aheadI s r.2 = 123
    ·rw [if_pos h1] at h
     have hl := aheadI_lt (by decide) h1
     cases hk : kidsP headR s m 125 deep r.2 with
     | none => rw [hk] at h; cases h
     | some x =>
      rw [hk] at h
      cases x with
      | error q => cases h; exact ih2 125 deep r.2 _ hl (by decide) hk
      | ok y => cases h
    ·rw [if_neg h1] at h
     by_cases h2 : aheadI s r.2 = 91
     ·rw [if_pos h2] at h
      have hl := aheadI_lt (by decide) h2
      cases hk : kidsP headR s m 93 deep r.2 with
      | none => rw [hk] at h; cases h
      | some x =>
       rw [hk] at h
       cases x with
       | error q => cases h; exact ih2 93 deep r.2 _ hl (by decide) hk
       | ok y => cases h
     ·rw [if_neg h2] at h
      cases he : eatP s r.2 44 with
      | error q => rw [he] at h; cases h; rw [eatP_site he]; exact hle
      | ok a =>
       obtain ⟨e1, l1, _⟩ := eatP_le (by decide) he
       rw [he] at h
       simp only at h
       cases hn : numP headR s a with
       | error q => rw [hn] at h; cases h; rw [numP_site hn]; omega
       | ok n => rw [hn] at h; cases h
  ·intro c deep i q hi hc h
   rw [kidsP] at h
   by_cases hdp : 1000 ≤ deep
   ·rw [if_pos hdp] at h; cases h; exact Nat.le_of_lt hi
   ·rw [if_neg hdp] at h
    cases hcl : cellP headR s m (i + 1) (deep + 1) with
    | none => rw [hcl] at h; cases h
    | some x =>
     rw [hcl] at h
     cases x with
     | error q => cases h; exact ih1 (i + 1) (deep + 1) _ (by omega) hcl
     | ok y =>
      simp only at h
      have hp := (places headR headB_R s m).1 (i + 1) (deep + 1) y (by omega) hcl
      exact ih3 c deep [y.1] y.2 q hp.2 hc h
  ·intro c deep out j q hj hc h
   rw [loopP] at h
   by_cases hcn : out.length < 2 ∨ ¬ aheadI s j = c
   ·rw [if_pos hcn] at h
    cases he : eatP s j 44 with
    | error q => rw [he] at h; cases h; rw [eatP_site he]; exact hj
    | ok a =>
     obtain ⟨rfl, hl, _⟩ := eatP_le (by decide) he
     rw [he] at h
     simp only at h
     cases hcl : cellP headR s m (j + 1) (deep + 1) with
     | none => rw [hcl] at h; cases h
     | some x =>
      rw [hcl] at h
      cases x with
      | error q => cases h; exact ih1 (j + 1) (deep + 1) _ (by omega) hcl
      | ok y =>
       simp only at h
       have hp := (places headR headB_R s m).1 (j + 1) (deep + 1) y (by omega) hcl
       exact ih3 c deep (out ++ [y.1]) y.2 q hp.2 hc h
   ·rw [if_neg hcn] at h
    cases h
theorem cellR_site {s : ByteArray} {q : Int × Nat} (h : cellR s = .error q) : q.2 ≤ s.size := by
 have e := cellR_eq s
 rw [h] at e
 exact (site_all s _).1 0 1 q (Nat.zero_le _) e
end Go.Proofs.YtkobpbbegalfpaaGreatDoor
