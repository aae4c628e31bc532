/-
 The document's answers about trees: what tiles, and the rest. Pure.
-/
import Derived.Test.YtkobpbbegalfpaaGreatDoorTiRef
namespace Go.Proofs.YtkobpbbegalfpaaGreatDoor
open Go.RowKit Go.Proofs.YtkobpbbegalfpaaGreatDoorW.PrintWords Go.Proofs.YtkobpbbegalfpaaGreatDoorW.PrintLast Go.Proofs.YtkobpbbegalfpaaGreatDoorW.PrintMore Go.Proofs.YtkobpbbegalfpaaGreatDoor.PParseBodies
set_option linter.unusedVariables false
set_option linter.unusedSimpArgs false

theorem RCut_l0 (r : SR) (ax : Int) (hr : rectOk r = true) (hax : ax = 1 ∨ ax = 2) (l : List Int) (hl : l.length ≤ 100000) : ∀ (d k i : Nat) (off : Int) (P L : List SR), l.length - i = d → i ≤ l.length → 3 * d < k → 0 ≤ off → off ≤ wholeR r ax → P.length ≤ i → L.length ≤ i →
  sashref04_Cut.l0 k ax l [] (wholeR r ax) P L off (l.length : Int) (i : Int) r.f0 r.f1 r.f2 r.f3 = some (cutRes r ax (decide (i = 0)) off (l.drop i) P L) := by
 obtain ⟨x0, w0, xw⟩ := rXW_bd r ax hr hax
 have hro := (rectOk_iff r).1 hr
 have hw : wholeR r ax ≤ 10000 := by omega
 intro d
 induction d with
 | zero =>
  intro k i off P L hd hi hk h0 h1 hP hL
  obtain ⟨k, rfl⟩ : ∃ m, k = m + 1 := ⟨k - 1, by omega⟩
  have hn : l.drop i = [] := List.drop_eq_nil_of_le (by omega)
  simp only [sashref04_Cut.l0]
  rw [if_neg (by omega), hn]
  unfold cutRes cutOk
  by_cases h : off = wholeR r ax
  ·rw [if_pos h, if_pos (by simpa using h)]; simp [cutParts, cutLines]
  ·rw [if_neg h, if_neg (by simpa using h)]
 | succ d ih =>
  intro k i off P L hd hi hk h0 h1 hP hL
  obtain ⟨k, rfl⟩ : ∃ m, k = m + 3 := ⟨k - 3, by omega⟩
  have hlt : i < l.length := by omega
  rw [drop_getD l i hlt]
  have e5 := Aside0.mk (wi i (by omega))
  have e1 := Aside0.mk (w64s (n := off + 1) (by omega) (by omega))
  have e2 := Aside0.mk (w64s (n := r.f0 + off) (by omega) (by omega))
  have e3 := Aside0.mk (w64s (n := r.f1 + off) (by omega) (by omega))
  have e2' := Aside0.mk (w64s (n := r.f0 + (off + 1)) (by omega) (by omega))
  have e3' := Aside0.mk (w64s (n := r.f1 + (off + 1)) (by omega) (by omega))
  have mk1 : ∀ o n : Int, (if ax = 1 then (⟨r.f0 + o, r.f1, n, r.f3⟩ : SR) else ⟨r.f0, r.f1 + o, r.f2, n⟩) = mkR r ax o n := fun o n => rfl
  -- one step behind the line, at offset o
  have step : ∀ (o : Int) (L' : List SR), 0 ≤ o → o ≤ wholeR r ax + 1 → o = offA (decide (i = 0)) off → L'.length ≤ i + 1 →
    sashref04_Cut.j3 (k + 2) ax l [] (wholeR r ax) P L' o (i : Int) (l.length : Int) (i : Int) r.f0 r.f1 r.f2 r.f3 =
     if 1 ≤ l.getD i 0 ∧ l.getD i 0 ≤ wholeR r ax - o then sashref04_Cut.l0 k ax l [] (wholeR r ax) (P ++ [mkR r ax o (l.getD i 0)]) L' (o + l.getD i 0) (l.length : Int) ((i + 1 : Nat) : Int) r.f0 r.f1 r.f2 r.f3 else some ([], [], false) := by
   intro o L' ho0 ho1 _ _
   have f2 := Aside0.mk (w64s (n := r.f0 + o) (by omega) (by omega))
   have f3 := Aside0.mk (w64s (n := r.f1 + o) (by omega) (by omega))
   simp only [sashref04_Cut.j3, sashref04_Cut.j4]
   rw [if_pos (by omega), if_pos (by omega), rd_getD, e5.out]
   generalize l.getD i 0 = n
   have hp : 0 ≤ (i : Int) := by omega
   have hq : (i : Int) < (l.length : Int) := by omega
   have hpl : P.length < 4398046511104 := by omega
   simp only [if_pos hp, if_pos hq, if_pos hpl, f2.out, f3.out]
   by_cases a : n < 1
   ·rw [if_pos a, if_pos trivial, if_neg (by omega)]
   ·rw [if_neg a]
    by_cases b : n > wholeR r ax
    ·rw [if_pos b, if_pos trivial, if_neg (by omega)]
    ·rw [if_neg b]
     have f4 := Aside0.mk (w64s (n := o + n) (by omega) (by omega))
     rw [f4.out]
     by_cases c : o + n > wholeR r ax
     ·rw [decide_eq_true c, if_pos rfl, if_neg (by omega)]
     ·rw [decide_eq_false c, if_neg (by decide), if_pos (show 1 ≤ n ∧ n ≤ wholeR r ax - o by omega), ← mk1]
      rcases hax with rfl | rfl
      ·simp
      ·simp
  simp only [sashref04_Cut.l0]
  rw [if_pos (by omega)]
  generalize hg : l.getD i 0 = n at step ⊢
  have hdec : cutRes r ax (decide (i = 0)) off (n :: l.drop (i + 1)) P L = if 1 ≤ n ∧ n ≤ wholeR r ax - offA (decide (i = 0)) off then cutRes r ax false (offA (decide (i = 0)) off + n) (l.drop (i + 1)) (P ++ [mkR r ax (offA (decide (i = 0)) off) n]) (L ++ if i = 0 then [] else [mkR r ax off 1]) else ([], [], false) := by
   unfold cutRes
   simp only [cutOk, cutParts, cutLines]
   by_cases h : 1 ≤ n ∧ n ≤ wholeR r ax - offA (decide (i = 0)) off
   ·have hb := decide_eq_true h
    simp only [hb, Bool.true_and]
    rw [if_pos h]
    by_cases h00 : i = 0 <;> simp [h00]
   ·have hb := decide_eq_false h
    simp only [hb, Bool.false_and]
    rw [if_neg h]; simp
  rw [hdec]
  by_cases h00 : i = 0
  ·subst h00
   have hoff : offA (decide ((0 : Nat) = 0)) off = off := rfl
   rw [if_neg (by omega), step off L h0 (by omega) rfl (by omega), hoff]
   by_cases h : 1 ≤ n ∧ n ≤ wholeR r ax - off
   ·rw [if_pos h, if_pos h, if_pos rfl, List.append_nil]
    have := ih k 1 (off + n) (P ++ [mkR r ax off n]) L (by omega) (by omega) (by omega) (by omega) (by omega) (by rw [List.length_append]; simp only [List.length_cons, List.length_nil]; omega) (by omega)
    have hd1 : decide ((1 : Nat) = 0) = false := rfl
    rw [hd1] at this
    exact this
   ·rw [if_neg h, if_neg h]
  ·have hoff : offA (decide (i = 0)) off = off + 1 := by rw [decide_eq_false h00]; rfl
   rw [if_pos (by omega), e1.out, e2.out, e3.out, hoff, if_neg h00]
   have hLl : L.length < 4398046511104 := by omega
   simp only [if_pos hLl]
   have hboth : (if ax = 1 then sashref04_Cut.j3 (k + 2) ax l [] (wholeR r ax) P (L ++ [(⟨r.f0 + off, r.f1, 1, r.f3⟩ : SR)]) (off + 1) (i : Int) (l.length : Int) (i : Int) r.f0 r.f1 r.f2 r.f3 else sashref04_Cut.j3 (k + 2) ax l [] (wholeR r ax) P (L ++ [(⟨r.f0, r.f1 + off, r.f2, 1⟩ : SR)]) (off + 1) (i : Int) (l.length : Int) (i : Int) r.f0 r.f1 r.f2 r.f3) = sashref04_Cut.j3 (k + 2) ax l [] (wholeR r ax) P (L ++ [mkR r ax off 1]) (off + 1) (i : Int) (l.length : Int) (i : Int) r.f0 r.f1 r.f2 r.f3 := by
    rw [← mk1]
    rcases hax with rfl | rfl <;> simp
   rw [hboth, step (off + 1) (L ++ [mkR r ax off 1]) (by omega) (by omega) hoff.symm (by rw [List.length_append]; simp only [List.length_cons, List.length_nil]; omega)]
   by_cases h : 1 ≤ n ∧ n ≤ wholeR r ax - (off + 1)
   ·rw [if_pos h, if_pos h]
    have := ih k (i + 1) (off + 1 + n) (P ++ [mkR r ax (off + 1) n]) (L ++ [mkR r ax off 1]) (by omega) (by omega) (by omega) (by omega) (by omega) (by rw [List.length_append]; simp only [List.length_cons, List.length_nil]; omega) (by rw [List.length_append]; simp only [List.length_cons, List.length_nil]; omega)
    have hd1 : decide (i + 1 = 0) = false := rfl
    rw [hd1] at this
    exact this
   ·rw [if_neg h, if_neg h]

theorem RCut_f (r : SR) (ax : Int) (hr : rectOk r = true) (hax : ax = 1 ∨ ax = 2) (l : List Int) (hl : l.length ≤ 100000) (hne : l ≠ []) (k : Nat) (hk : 3 * l.length + 3 < k) :
  sashref04_Cut.f k r.f0 r.f1 r.f2 r.f3 ax l = some (cutRes r ax true 0 l [] []) := by
 obtain ⟨k, rfl⟩ : ∃ m, k = m + 2 := ⟨k - 2, by omega⟩
 have hp := List.length_pos_iff.2 hne
 unfold sashref04_Cut.f
 rw [ref04_May_eq, hr]
 simp only [Option.bind_some, if_true]
 rw [if_neg (by omega), if_neg (by omega)]
 have : ((l.length : Int) == 0) = false := beq_eq_false_iff_ne.2 (by omega)
 rw [this]
 simp only [sashref04_Cut.j0, sashref04_Cut.j1]
 rw [if_neg (by decide)]
 have h := RCut_l0 r ax hr hax l hl l.length k 0 0 [] [] (by omega) (by omega) (by omega) (by omega) (by have := rXW_bd r ax hr hax; omega) (by simp) (by simp)
 rcases hax with rfl | rfl
 ·rw [if_neg (by decide)]
  simpa [wholeR] using h
 ·rw [if_pos rfl]
  simpa [wholeR] using h

theorem Sizes_f (c : SC) (hl : c.f3.length ≤ 100000) (k : Nat) (hk : c.f3.length < k) : sashref06_Sizes.f k c.f0 c.f1.f0 c.f1.f1 c.f1.f2 c.f1.f3 c.f2 c.f3 = some (sizesOf c) := by
 have hsl : (sizesOf c).length = c.f3.length := by simp [sizesOf]
 have loop : ∀ (d k i : Nat), c.f3.length - i = d → i ≤ c.f3.length → d < k → sashref06_Sizes.l0 k ((sizesOf c).take i) (c.f3.length : Int) (i : Int) c.f0 c.f1.f0 c.f1.f1 c.f1.f2 c.f1.f3 c.f2 c.f3 = some (sizesOf c) := by
  intro d
  induction d with
  | zero =>
   intro k i hd hi hk
   obtain ⟨k, rfl⟩ : ∃ m, k = m + 1 := ⟨k - 1, by omega⟩
   simp only [sashref06_Sizes.l0]
   rw [if_neg (by omega), List.take_of_length_le (by omega)]
  | succ d ih =>
   intro k i hd hi hk
   obtain ⟨k, rfl⟩ : ∃ m, k = m + 1 := ⟨k - 1, by omega⟩
   have hlt : i < c.f3.length := by omega
   have htk : (sizesOf c).take (i + 1) = (sizesOf c).take i ++ [if c.f0 = 2 then (rd_T27 c.f3 (i : Int)).f1.f2 else (rd_T27 c.f3 (i : Int)).f1.f3] := by
    rw [List.take_add_one, List.getElem?_eq_getElem (by omega)]
    simp [sizesOf, rd_T27, List.getD_eq_getElem?_getD, List.getElem?_eq_getElem hlt]
   have := ih k (i + 1) (by omega) (by omega) (by omega)
   rw [htk] at this
   simp only [sashref06_Sizes.l0]
   rw [if_pos (by omega), wi i (by omega)]
   by_cases h2 : c.f0 = 2
   ·rw [if_pos h2, if_pos (by omega), if_pos (by omega), if_pos (by rw [List.length_take]; omega)]
    rw [if_pos h2] at this
    exact this
   ·rw [if_neg h2, if_pos (by omega), if_pos (by omega), if_pos (by rw [List.length_take]; omega)]
    rw [if_neg h2] at this
    exact this
 unfold sashref06_Sizes.f
 have := loop c.f3.length k 0 (by omega) (by omega) hk
 simpa using this

theorem ne_sr (a b : SR) : (!(a.f0 == b.f0) || (!(a.f1 == b.f1) || (!(a.f2 == b.f2) || !(a.f3 == b.f3)))) = !decide (a = b) := by
 by_cases h : a = b
 ·subst h; simp
 ·rw [decide_eq_false h]
  by_cases h0 : a.f0 = b.f0
  ·by_cases h1 : a.f1 = b.f1
   ·by_cases h2 : a.f2 = b.f2
    ·by_cases h3 : a.f3 = b.f3
     ·exact absurd (sr_ext h0 h1 h2 h3) h
     ·simp [h3]
    ·simp [h2]
   ·simp [h1]
  ·simp [h0]
def oneOf (c : SC) : List SR × Bool := match linesS c with
 | some l => (l, true)
 | none => ([], false)
theorem one_f (c : SC) (hn : nodeOk c = true) (hr : rectOk c.f1 = true) (hl : c.f3.length ≤ 10000) (k : Nat) (hk : 5 * c.f3.length + 10 < k) : sashref06_one.f k c.f0 c.f1.f0 c.f1.f1 c.f1.f2 c.f1.f3 c.f2 c.f3 = some (oneOf c) := by
 unfold sashref06_one.f oneOf
 by_cases hk1 : c.f0 = 1
 ·have : linesS c = some [] := by simp [linesS, hk1]
  rw [if_pos hk1, this]
 ·have hk23 : c.f0 = 2 ∨ c.f0 = 3 := by
   unfold nodeOk at hn
   rw [if_neg hk1] at hn
   by_cases h : c.f0 = 2 ∨ c.f0 = 3
   ·exact h
   ·rw [if_neg h] at hn; cases hn
  have h2 : 2 ≤ c.f3.length := by
   unfold nodeOk at hn
   rw [if_neg hk1, if_pos hk23, decide_eq_true_eq] at hn
   exact hn.1
  have hsl : (sizesOf c).length = c.f3.length := by simp [sizesOf]
  have hm : (c.f0 - 1) % 256 = c.f0 - 1 := by omega
  rw [if_neg hk1, Sizes_f c (by omega) k (by omega)]
  simp only [Option.bind_some]
  rw [hm, RCut_f c.f1 (c.f0 - 1) hr (by omega) (sizesOf c) (by omega) (by intro h; rw [h] at hsl; simp at hsl; omega) k (by omega)]
  simp only [Option.bind_some]
  rw [linesS_cut c hr hk23 h2]
  have hres : (cutRes c.f1 (c.f0 - 1) true 0 (sizesOf c) [] []).2.2 = true → (cutRes c.f1 (c.f0 - 1) true 0 (sizesOf c) [] []).1.length = c.f3.length := by
   unfold cutRes
   split
   ·intro _; simp [cutParts_len, hsl]
   ·intro h; cases h
  have hres2 : (cutRes c.f1 (c.f0 - 1) true 0 (sizesOf c) [] []).2.2 = false → (cutRes c.f1 (c.f0 - 1) true 0 (sizesOf c) [] []).2.1 = [] := by
   unfold cutRes
   split
   ·intro h; cases h
   ·intro _; rfl
  generalize cutRes c.f1 (c.f0 - 1) true 0 (sizesOf c) [] [] = r at *
  obtain ⟨ps, ls, b⟩ := r
  simp only at hres hres2 ⊢
  cases b with
  | false => rw [hres2 rfl]; simp
  | true =>
   have hpl := hres rfl
   rw [if_pos rfl]
   have loop : ∀ (d k i : Nat), ps.length - i = d → i ≤ ps.length → d < k → (c.f3.take i).map (·.f1) = ps.take i →
     sashref06_one.l0 k ps ls (ps.length : Int) (i : Int) c.f0 c.f1.f0 c.f1.f1 c.f1.f2 c.f1.f3 c.f2 c.f3 = some (if c.f3.map (·.f1) = ps then (ls, true) else ([], false)) := by
    intro d
    induction d with
    | zero =>
     intro k i hd hi hk he
     obtain ⟨k, rfl⟩ : ∃ m, k = m + 1 := ⟨k - 1, by omega⟩
     rw [List.take_of_length_le (by omega), List.take_of_length_le (by omega)] at he
     simp only [sashref06_one.l0]
     rw [if_neg (by omega), if_pos he]
    | succ d ih =>
     intro k i hd hi hk he
     obtain ⟨k, rfl⟩ : ∃ m, k = m + 1 := ⟨k - 1, by omega⟩
     simp only [sashref06_one.l0]
     rw [if_pos (by omega), if_pos (by omega), if_pos (by omega), if_pos (by omega), rd_T_getD, rd_R_getD, ne_sr, wi i (by omega)]
     by_cases h : (c.f3.getD i z27).f1 = ps.getD i z24
     ·rw [decide_eq_true h.symm, if_neg (by decide)]
      exact ih k (i + 1) (by omega) (by omega) (by omega) (take_map_succ c.f3 ps i (by omega) (by omega) he h)
     ·rw [decide_eq_false (fun h' => h h'.symm), if_pos (by decide), if_neg (take_map_ne c.f3 ps i (by omega) (by omega) h)]
   have := loop ps.length k 0 (by omega) (by omega) (by omega) (by simp)
   have hz : ((0 : Nat) : Int) = 0 := rfl
   rw [hz] at this
   rw [this]
   by_cases h : c.f3.map (·.f1) = ps
   ·rw [if_pos h, if_pos ⟨rfl, h⟩]
   ·rw [if_neg h, if_neg (fun h' => h h'.2)]

theorem oneOf_none {c : SC} (h : linesS c = none) : oneOf c = ([], false) := by unfold oneOf; rw [h]
theorem oneOf_some {c : SC} {l : List SR} (h : linesS c = some l) : oneOf c = (l, true) := by unfold oneOf; rw [h]
theorem Check_l0 (l : List SC) (hl : l.length ≤ 10000) (hn : ∀ x ∈ l, nodeOk x = true ∧ rectOk x.f1 = true ∧ x.f3.length ≤ 10000) : ∀ (d k i : Nat) (acc : List SR), l.length - i = d → i ≤ l.length → d + 60000 < k → acc.length ≤ i * 10000 →
  sashref06_Check.l0 k [] l acc (l.length : Int) (i : Int) = some (if (visitL walkStep (i, acc) (l.drop i)).1 = true then ((visitL walkStep (i, acc) (l.drop i)).2.2, 0, 0) else ([], 5, ((visitL walkStep (i, acc) (l.drop i)).2.1 : Int))) := by
 intro d
 induction d with
 | zero =>
  intro k i acc hd hi hk ha
  obtain ⟨k, rfl⟩ : ∃ m, k = m + 1 := ⟨k - 1, by omega⟩
  simp only [sashref06_Check.l0]
  rw [if_neg (by omega), List.drop_eq_nil_of_le (by omega)]
  simp [visitL]
 | succ d ih =>
  intro k i acc hd hi hk ha
  obtain ⟨k, rfl⟩ : ∃ m, k = m + 1 := ⟨k - 1, by omega⟩
  have hlt : i < l.length := by omega
  obtain ⟨h1, h2, h3⟩ := hn _ (getT_mem l i hlt)
  simp only [sashref06_Check.l0]
  rw [if_pos (by omega), if_pos (by omega), if_pos (by omega), rd_T_getD, one_f _ h1 h2 (by omega) k (by omega), dropT l i hlt]
  simp only [Option.bind_some]
  generalize l.getD i z27 = x at *
  cases hs : linesS x with
  | none =>
   rw [oneOf_none hs]
   simp [visitL, walkStep_none hs]
  | some q =>
   have hq := linesS_len hs
   have hm : acc.length + q.length ≤ (i + 1) * 10000 := by rw [Nat.add_mul]; omega
   have hi3 : (i + 1) * 10000 ≤ 10001 * 10000 := Nat.mul_le_mul_right _ (by omega)
   rw [oneOf_some hs]
   simp only [if_true]
   rw [if_pos (by omega), wi i (by omega), ih k (i + 1) (acc ++ q) (by omega) (by omega) (by omega) (by rw [List.length_append]; exact hm)]
   simp [visitL, walkStep_some hs]

theorem Check_f (c : SC) (hl : (cells c).length ≤ 10000) (k : Nat) (hk : 200000000 < k) : sashref06_Check.f k c.f0 c.f1.f0 c.f1.f1 c.f1.f2 c.f1.f3 c.f2 c.f3 = some (linesAns c, chkNo c, chkAt c) := by
 have hA := All_f c (by omega) k (by omega)
 unfold AllF at hA
 unfold sashref06_Check.f
 simp only [Option.bind_some]
 rw [May_f c hl k hk]
 simp only [Option.bind_some]
 unfold linesAns chkNo chkAt tilesB
 cases hm : mayB c with
 | false => simp
 | true =>
  simp only [if_true, Bool.true_and]
  rw [hA]
  simp only [Option.bind_some]
  have hn : ∀ x ∈ cells c, nodeOk x = true ∧ rectOk x.f1 = true ∧ x.f3.length ≤ 10000 := fun x hx => by
   have h2 := ((may_iff c).1 hm).2.1 x hx
   have := kids_le x hx
   exact ⟨h2.1, h2.2, by omega⟩
  have h := Check_l0 (cells c) hl hn (cells c).length k 0 [] (by omega) (by omega) (by omega) (by simp)
  have hz : ((0 : Nat) : Int) = 0 := rfl
  rw [hz, List.drop_zero] at h
  rw [h]
  have hw : visitL walkStep (0, []) (cells c) = walkV c := rfl
  rw [hw]
  cases hq : (walkV c).1 with
  | false => simp
  | true => simp [lnR_walk c hq]
end Go.Proofs.YtkobpbbegalfpaaGreatDoor
