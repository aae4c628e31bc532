/-
  The line of words: what it is, and that it is cut into them. Pure.
-/
import Derived.Test.YtelmmcjlhjahcaaDoorWoCut
import Derived.Lib.Join
import Derived.Lib.SlTrimSet
namespace Go.Proofs.YtelmmcjlhjahcaaDoor
open Go.RowKit Go.Proofs.YtelmmcjlhjahcaaDoorW.PrintWords Go.Proofs.YtelmmcjlhjahcaaDoorW.PrintLast Go.Proofs.YtelmmcjlhjahcaaDoorW.PrintMore
set_option linter.unusedVariables false
set_option linter.unusedSimpArgs false

def escB (b : UInt8) : List UInt8 := if b.toNat = 34 ∨ b.toNat = 92 then [92, b] else [b]
def plainSet : ByteArray := ⟨#[97, 98, 99, 100, 101, 102, 103, 104, 105, 106, 107, 108, 109, 110, 111, 112, 113, 114, 115, 116, 117, 118, 119, 120, 121, 122, 65, 66, 67, 68, 69, 70, 71, 72, 73, 74, 75, 76, 77, 78, 79, 80, 81, 82, 83, 84, 85, 86, 87, 88, 89, 90, 48, 49, 50, 51, 52, 53, 54, 55, 56, 57, 45, 95, 46, 58, 47, 37, 64, 36, 43, 44, 61]⟩
def bareL (l : List UInt8) : Bool := !l.isEmpty && l.all (fun b => plainSet.data.toList.contains b)
def quotedL (l : List UInt8) : List UInt8 := if bareL l = true then l else 34 :: (l.flatMap escB ++ [34])
def lineL (xs : List (List UInt8)) : List UInt8 := Lib.join (xs.map quotedL) [32]

theorem plain_not : ∀ b : UInt8, plainSet.data.toList.contains b = true → b.toNat ≠ 92 ∧ b.toNat ≠ 34 ∧ b.toNat ≠ 59 ∧ b.toNat ≠ 9 ∧ b.toNat ≠ 32 := by
  intro b h
  have hm := List.contains_iff_mem.1 h
  have := (show ∀ x ∈ plainSet.data.toList, x.toNat ≠ 92 ∧ x.toNat ≠ 34 ∧ x.toNat ≠ 59 ∧ x.toNat ≠ 9 ∧ x.toNat ≠ 32 by decide)
  exact this b hm

theorem dropWhile_nil (p : UInt8 → Bool) : ∀ l : List UInt8, (l.dropWhile p = []) ↔ ∀ x ∈ l, p x = true := by
  intro l
  induction l with
  | nil => simp
  | cons b l ih =>
    rw [List.dropWhile_cons]
    by_cases h : p b = true
    · rw [if_pos h, ih]; simp [h]
    · rw [if_neg h]; simp [h]
theorem trimS_nil (l cs : List UInt8) : (Lib.trimS l cs = []) ↔ l.all (fun b => cs.contains b) = true := by
  unfold Lib.trimS Lib.trimLeftS Lib.trimRightS
  rw [dropWhile_nil, List.all_eq_true]
  constructor
  · intro h
    have key : ∀ m : List UInt8, (∀ x ∈ m.dropWhile (fun b => cs.contains b), cs.contains x = true) → ∀ x ∈ m, cs.contains x = true := by
      intro m
      induction m with
      | nil => simp
      | cons b m ih =>
        intro hm x hx
        rw [List.dropWhile_cons] at hm
        by_cases hb : cs.contains b = true
        · rw [if_pos hb] at hm
          rcases List.mem_cons.1 hx with e | e
          · rw [e]; exact hb
          · exact ih hm x e
        · rw [if_neg hb] at hm
          exact hm x hx
    exact fun x hx => key l.reverse (fun y hy => h y (List.mem_reverse.2 hy)) x (List.mem_reverse.2 hx)
  · intro h x hx
    exact h x (List.mem_reverse.1 ((List.dropWhile_sublist _).subset (List.mem_reverse.1 hx)))

def nums (l : List UInt8) : List Int := l.map (fun b => (b.toNat : Int))
/-- A state to which a word's bytes were put. -/
def CS.wordW (s : CS) (l : List UInt8) : CS := { s with word := s.word ++ nums l, begun := true }
theorem wordW_put (s : CS) (b : UInt8) (l : List UInt8) : (s.putW b.toNat).wordW l = s.wordW (b :: l) := by simp [CS.putW, CS.wordW, nums]
theorem wordW_begun (s : CS) (l : List UInt8) : ({ s with begun := true } : CS).wordW l = s.wordW l := rfl
theorem putW_self (s : CS) (b : UInt8) : s.putW b.toNat = s.wordW [b] := rfl

theorem cutL_at (i j : Nat) (l : List UInt8) (q : Int) (s : CS) (h : i = j) : cutL i l q s = cutL j l q s := by rw [h]

theorem plainW_put (s : CS) (b : UInt8) (h : plainSet.data.toList.contains b = true) : s.plainW (b.toNat : Int) = s.putW b.toNat := by
  obtain ⟨h1, h2, h3, h4, h5⟩ := plain_not b h
  unfold CS.plainW
  rw [if_neg (by omega), if_neg (by omega), if_neg (by omega)]

theorem cut_bare : ∀ (l t : List UInt8) (i : Nat) (s : CS), l.all (fun b => plainSet.data.toList.contains b) = true → l ≠ [] → cutL i (l ++ t) (-1) s = cutL (i + l.length) t (-1) (s.wordW l) := by
  intro l
  induction l with
  | nil => intro t i s _ h; exact absurd rfl h
  | cons b l ih =>
    intro t i s h _
    rw [List.all_cons, Bool.and_eq_true] at h
    obtain ⟨h1, h2, h3, h4, h5⟩ := plain_not b h.1
    rw [List.cons_append, cutL_out i (l ++ t) (-1) s b h1 h2 (by decide), plainW_put s b h.1]
    by_cases hl : l = []
    · subst hl; rfl
    · rw [ih t (i + 1) _ h.2 hl, wordW_put]
      exact cutL_at _ _ _ _ _ (by simp; omega)

theorem cut_esc : ∀ (l t : List UInt8) (i : Nat) (q : Int) (s : CS), 0 ≤ q → s.begun = true → cutL i (l.flatMap escB ++ t) q s = cutL (i + (l.flatMap escB).length) t q (s.wordW l) := by
  intro l
  induction l with
  | nil =>
    intro t i q s _ hb
    have e : s.wordW [] = s := by cases s; simp at hb; simp [CS.wordW, nums, hb]
    rw [e]; rfl
  | cons b l ih =>
    intro t i q s hq hb
    rw [List.flatMap_cons, List.append_assoc]
    unfold escB
    by_cases h : b.toNat = 34 ∨ b.toNat = 92
    · rw [if_pos h, List.cons_append, List.cons_append, List.nil_append, cutL_slash i b _ q s 92 (by decide), ← wordW_put]
      have := ih t (i + 2) q (s.putW b.toNat) hq rfl
      unfold escB at this
      rw [this]
      exact cutL_at _ _ _ _ _ (by simp; omega)
    · rw [if_neg h, List.cons_append, List.nil_append, cutL_in i _ q s b (by omega) (by omega) hq, ← wordW_put]
      have := ih t (i + 1) q (s.putW b.toNat) hq rfl
      unfold escB at this
      rw [this]
      exact cutL_at _ _ _ _ _ (by simp; omega)

theorem cut_quoted (l t : List UInt8) (i : Nat) (s : CS) : cutL i (quotedL l ++ t) (-1) s = cutL (i + (quotedL l).length) t (-1) (s.wordW l) := by
  unfold quotedL
  by_cases h : bareL l = true
  · rw [if_pos h]
    unfold bareL at h
    rw [Bool.and_eq_true] at h
    exact cut_bare l t i s h.2 (by intro e; subst e; simp at h)
  · rw [if_neg h, List.cons_append, List.append_assoc, List.cons_append, List.nil_append, cutL_open i _ (-1) s 34 (by decide) (by decide), cut_esc l (34 :: t) (i + 1) (i : Int) _ (by omega) rfl, cutL_close _ _ _ _ 34 (by decide) (by omega)]
    exact cutL_at _ _ _ _ _ (by simp; omega)

theorem cut_space (t : List UInt8) (i : Nat) (s : CS) : cutL i (32 :: t) (-1) s = cutL (i + 1) t (-1) s.endW := by
  rw [cutL_out i t (-1) s 32 (by decide) (by decide) (by decide)]
  rfl
theorem strOfNums_nums (w : ByteArray) : strOfNums (nums w.data.toList) = w := by
  have h : ∀ l : List UInt8, (nums l).map (fun n => UInt8.ofNat n.toNat) = l := by
    intro l
    induction l with
    | nil => rfl
    | cons b l ih =>
      show UInt8.ofNat (((b.toNat : Nat) : Int).toNat) :: (nums l).map (fun n => UInt8.ofNat n.toNat) = b :: l
      rw [ih, Int.toNat_natCast, UInt8.ofNat_toNat]
  apply ByteArray.ext
  apply Array.toList_inj.1
  show ((nums w.data.toList).map (fun n => UInt8.ofNat n.toNat)) = w.data.toList
  exact h _
theorem wordW_end (s : CS) (w : ByteArray) (h : s.word = []) : (s.wordW w.data.toList).endW = { s with words := s.words ++ [w], word := [], begun := false } := by
  simp [CS.wordW, CS.endW, h, strOfNums_nums]

theorem join_two (a b : List UInt8) (r : List (List UInt8)) (sep : List UInt8) : Lib.join (a :: b :: r) sep = a ++ (sep ++ Lib.join (b :: r) sep) := by
  simp [Lib.join, List.intercalate, List.intersperse]
theorem join_one (a sep : List UInt8) : Lib.join [a] sep = a := by simp [Lib.join, List.intercalate]

theorem cut_line : ∀ (xs : List ByteArray) (x : ByteArray) (i : Nat) (s : CS), s.word = [] →
    ∃ s', cutL i (lineL ((x :: xs).map (·.data.toList))) (-1) s = (-1, s') ∧ s'.commandW.cmds = s.cmds ++ [s.words ++ (x :: xs)] := by
  intro xs
  induction xs with
  | nil =>
    intro x i s hw
    refine ⟨s.wordW x.data.toList, ?_, ?_⟩
    · have h := cut_quoted x.data.toList [] i s
      rw [List.append_nil, cutL_nil] at h
      simpa [lineL, join_one] using h
    · unfold CS.commandW
      rw [wordW_end s x hw]
      simp [CS.flushW]
  | cons y ys ih =>
    intro x i s hw
    have e : lineL ((x :: y :: ys).map (·.data.toList)) = quotedL x.data.toList ++ (32 :: lineL ((y :: ys).map (·.data.toList))) := by
      simp only [lineL, List.map_cons, join_two]
      rfl
    rw [e, cut_quoted, cut_space, wordW_end s x hw]
    obtain ⟨s', h1, h2⟩ := ih y (i + (quotedL x.data.toList).length + 1) { s with words := s.words ++ [x], word := [], begun := false } rfl
    exact ⟨s', h1, by rw [h2]; simp⟩

/-- The line of words is cut into them. -/
theorem line_cut (xs : List ByteArray) : (cutL 0 (lineL (xs.map (·.data.toList))) (-1) CS.init).1 = -1 ∧ (cutL 0 (lineL (xs.map (·.data.toList))) (-1) CS.init).2.commandW.cmds = if xs = [] then [] else [xs] := by
  cases xs with
  | nil => exact ⟨rfl, rfl⟩
  | cons x xs =>
    obtain ⟨s', h1, h2⟩ := cut_line xs x 0 CS.init rfl
    rw [h1]
    exact ⟨rfl, by rw [h2]; simp [CS.init]⟩

theorem escB_len (l : List UInt8) : (l.flatMap escB).length ≤ 2 * l.length := by
  induction l with
  | nil => simp
  | cons b l ih =>
    rw [List.flatMap_cons, List.length_append, List.length_cons]
    have : (escB b).length ≤ 2 := by unfold escB; split <;> simp
    omega
theorem quotedL_len (l : List UInt8) : (quotedL l).length ≤ 2 * l.length + 2 := by
  unfold quotedL
  split
  · omega
  · have := escB_len l
    rw [List.length_cons, List.length_append, List.length_singleton]; omega
theorem lineL_len (B : Nat) : ∀ (xs : List (List UInt8)), (∀ x ∈ xs, x.length ≤ B) → (lineL xs).length ≤ xs.length * (2 * B + 3) := by
  intro xs
  induction xs with
  | nil => intro _; simp [lineL, Lib.join, List.intercalate]
  | cons x xs ih =>
    intro h
    have hx := quotedL_len x
    have hB := h x (by simp)
    cases xs with
    | nil => simp [lineL, join_one]; omega
    | cons y ys =>
      have h2 := ih (fun z hz => h z (by simp [hz]))
      have e : lineL (x :: y :: ys) = quotedL x ++ (32 :: lineL (y :: ys)) := by simp only [lineL, List.map_cons, join_two]; rfl
      rw [e, List.length_append, List.length_cons, List.length_cons, Nat.add_mul]
      omega
end Go.Proofs.YtelmmcjlhjahcaaDoor
