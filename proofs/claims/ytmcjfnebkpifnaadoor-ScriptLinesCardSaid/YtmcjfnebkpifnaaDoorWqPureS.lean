/-
  A word in quotes: what it is. Pure.
-/
import Derived.Test.YtmcjfnebkpifnaaDoorMem
import Derived.Lib.Join
import Derived.Lib.SlTrimSet
namespace Go.Proofs.YtmcjfnebkpifnaaDoor
open Go.RowKit Go.Proofs.YtmcjfnebkpifnaaDoorW.PrintWords Go.Proofs.YtmcjfnebkpifnaaDoorW.PrintLast Go.Proofs.YtmcjfnebkpifnaaDoorW.PrintMore
set_option linter.unusedVariables false
set_option linter.unusedSimpArgs false

def escB (b : UInt8) : List UInt8 := if b.toNat = 34 ∨ b.toNat = 92 then [92, b] else [b]
def plainSet : ByteArray := ⟨#[97, 98, 99, 100, 101, 102, 103, 104, 105, 106, 107, 108, 109, 110, 111, 112, 113, 114, 115, 116, 117, 118, 119, 120, 121, 122, 65, 66, 67, 68, 69, 70, 71, 72, 73, 74, 75, 76, 77, 78, 79, 80, 81, 82, 83, 84, 85, 86, 87, 88, 89, 90, 48, 49, 50, 51, 52, 53, 54, 55, 56, 57, 45, 95, 46, 58, 47, 37, 64, 36, 43, 44, 61]⟩
def bareL (l : List UInt8) : Bool := !l.isEmpty && l.all (fun b => plainSet.data.toList.contains b)
def quotedL (l : List UInt8) : List UInt8 := if bareL l = true then l else 34 :: (l.flatMap escB ++ [34])
def lineL (xs : List (List UInt8)) : List UInt8 := Lib.join (xs.map quotedL) [32]
theorem dropWhile_nil (p : UInt8 → Bool) : ∀ l : List UInt8, (l.dropWhile p = []) ↔ ∀ x ∈ l, p x = true := by
  intro l
  induction l with
  | nil => simp
  | cons b l ih =>
    rw [List.dropWhile_cons]
    by_cases h : p b = true
    · rw [if_pos h, ih]; simp [h]
    · rw [if_neg h]; simp [h]
theorem trimS_nil (l cs : List UInt8) : (Lib.trimS l cs = []) ↔ l.all (fun b => cs.contains b) = true := by
  unfold Lib.trimS Lib.trimLeftS Lib.trimRightS
  rw [dropWhile_nil, List.all_eq_true]
  constructor
  · intro h
    have key : ∀ m : List UInt8, (∀ x ∈ m.dropWhile (fun b => cs.contains b), cs.contains x = true) → ∀ x ∈ m, cs.contains x = true := by
      intro m
      induction m with
      | nil => simp
      | cons b m ih =>
        intro hm x hx
        rw [List.dropWhile_cons] at hm
        by_cases hb : cs.contains b = true
        · rw [if_pos hb] at hm
          rcases List.mem_cons.1 hx with e | e
          · rw [e]; exact hb
          · exact ih hm x e
        · rw [if_neg hb] at hm
          exact hm x hx
    exact fun x hx => key l.reverse (fun y hy => h y (List.mem_reverse.2 hy)) x (List.mem_reverse.2 hx)
  · intro h x hx
    exact h x (List.mem_reverse.1 ((List.dropWhile_sublist _).subset (List.mem_reverse.1 hx)))
def nums (l : List UInt8) : List Int := l.map (fun b => (b.toNat : Int))
theorem join_two (a b : List UInt8) (r : List (List UInt8)) (sep : List UInt8) : Lib.join (a :: b :: r) sep = a ++ (sep ++ Lib.join (b :: r) sep) := by
  simp [Lib.join, List.intercalate, List.intersperse]
theorem join_one (a sep : List UInt8) : Lib.join [a] sep = a := by simp [Lib.join, List.intercalate]
theorem escB_len (l : List UInt8) : (l.flatMap escB).length ≤ 2 * l.length := by
  induction l with
  | nil => simp
  | cons b l ih =>
    rw [List.flatMap_cons, List.length_append, List.length_cons]
    have : (escB b).length ≤ 2 := by unfold escB; split <;> simp
    omega
theorem quotedL_len (l : List UInt8) : (quotedL l).length ≤ 2 * l.length + 2 := by
  unfold quotedL
  split
  · omega
  · have := escB_len l
    rw [List.length_cons, List.length_append, List.length_singleton]; omega
theorem lineL_len (B : Nat) : ∀ (xs : List (List UInt8)), (∀ x ∈ xs, x.length ≤ B) → (lineL xs).length ≤ xs.length * (2 * B + 3) := by
  intro xs
  induction xs with
  | nil => intro _; simp [lineL, Lib.join, List.intercalate]
  | cons x xs ih =>
    intro h
    have hx := quotedL_len x
    have hB := h x (by simp)
    cases xs with
    | nil => simp [lineL, join_one]; omega
    | cons y ys =>
      have h2 := ih (fun z hz => h z (by simp [hz]))
      have e : lineL (x :: y :: ys) = quotedL x ++ (32 :: lineL (y :: ys)) := by simp only [lineL, List.map_cons, join_two]; rfl
      rw [e, List.length_append, List.length_cons, List.length_cons, Nat.add_mul]
      omega
end Go.Proofs.YtmcjfnebkpifnaaDoor
