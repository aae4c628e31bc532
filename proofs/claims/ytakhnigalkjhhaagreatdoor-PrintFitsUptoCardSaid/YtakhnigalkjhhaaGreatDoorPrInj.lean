/-
  Joined texts: PrPure, PrInj.
-/
import Derived.Test.YtakhnigalkjhhaaGreatDoorTiGeo
import Derived.Test.YtakhnigalkjhhaaGreatDoorNumPureP
/-
  A tree's text, in plain Lean.
-/
namespace Go.Proofs.YtakhnigalkjhhaaGreatDoor
open Go.RowKit Go.Proofs.YtakhnigalkjhhaaGreatDoorW.PrintWords Go.Proofs.YtakhnigalkjhhaaGreatDoorW.PrintLast Go.Proofs.YtakhnigalkjhhaaGreatDoorW.PrintMore Go.Proofs.YtakhnigalkjhhaaGreatDoor.PPrintFits
set_option linter.unusedVariables false
set_option linter.unusedSimpArgs false

def digL (n : Int) : List UInt8 := (digS n).data.toList
def headB (r : SR) : List UInt8 := digL r.f2 ++ [120] ++ digL r.f3 ++ [44] ++ digL r.f0 ++ [44] ++ digL r.f1
def opn (k : Int) : UInt8 := if k = 2 then 123 else 91
def cls (k : Int) : UInt8 := if k = 2 then 125 else 93
mutual
def bodyL : SC → List UInt8
  | ⟨k, r, i, kids⟩ => headB r ++ (if k = 1 then [44] ++ digL i else [opn k] ++ kidsL true kids ++ [cls k])
def kidsL : Bool → List SC → List UInt8
  | _, [] => []
  | first, c :: l => (if first = true then [] else [44]) ++ bodyL c ++ kidsL false l
end
theorem bodyL_eq (c : SC) : bodyL c = headB c.f1 ++ (if c.f0 = 1 then [44] ++ digL c.f2 else [opn c.f0] ++ kidsL true c.f3 ++ [cls c.f0]) := by cases c; simp [bodyL]
theorem kidsL_nil (f : Bool) : kidsL f [] = [] := by simp [kidsL]
theorem kidsL_cons (f : Bool) (c : SC) (l : List SC) : kidsL f (c :: l) = (if f = true then [] else [44]) ++ bodyL c ++ kidsL false l := by simp [kidsL]
def sepK (j : Nat) : List UInt8 := if j = 0 then [] else [44]
theorem kidsL_app (a b : List SC) : ∀ f, kidsL f (a ++ b) = kidsL f a ++ kidsL (f && a.isEmpty) b := by
  induction a with
  | nil => intro f; simp [kidsL_nil]
  | cons c a ih => intro f; rw [List.cons_append, kidsL_cons, kidsL_cons, ih]; simp
theorem kidsL_split (l : List SC) (j : Nat) (hj : j < l.length) : kidsL true l = kidsL true (l.take j) ++ sepK j ++ bodyL (l.getD j z30) ++ kidsL false (l.drop (j + 1)) := by
  have h : l = l.take j ++ l.getD j z30 :: l.drop (j + 1) := by
    rw [List.getD_eq_getElem?_getD, List.getElem?_eq_getElem hj]
    show l = l.take j ++ l[j] :: l.drop (j + 1)
    rw [← List.drop_eq_getElem_cons hj, List.take_append_drop]
  conv => lhs; rw [h]
  rw [kidsL_app, kidsL_cons]
  by_cases h0 : j = 0
  · subst h0; simp [sepK]
  · have : (l.take j).isEmpty = false := by
      cases l with
      | nil => simp at hj
      | cons x l => cases j with
        | zero => exact absurd rfl h0
        | succ j => simp
    simp [sepK, h0, this]
theorem kidsL_take (l : List SC) (j : Nat) (hj : j < l.length) : kidsL true (l.take (j + 1)) = kidsL true (l.take j) ++ sepK j ++ bodyL (l.getD j z30) := by
  have h := kidsL_split (l.take (j + 1)) j (by rw [List.length_take]; omega)
  rw [h, List.take_take, Nat.min_eq_left (by omega), List.drop_eq_nil_of_le (by rw [List.length_take]; omega), kidsL_nil, List.append_nil]
  congr 2
  rw [List.getD_eq_getElem?_getD, List.getD_eq_getElem?_getD, List.getElem?_take, if_pos (by omega)]

theorem digL_len (n : Int) : (digL n).length ≤ 21 := by
  have := digS_size n
  unfold digL
  simpa using this
theorem headB_len (r : SR) : (headB r).length ≤ 87 := by
  have h0 := digL_len r.f0; have h1 := digL_len r.f1; have h2 := digL_len r.f2; have h3 := digL_len r.f3
  unfold headB
  simp only [List.length_append, List.length_singleton]
  omega
theorem body_len (c : SC) : (bodyL c).length + 1 ≤ 111 * (cells c).length := by
  refine cell_ind (P := fun c => (bodyL c).length + 1 ≤ 111 * (cells c).length) (fun c ih => ?_) c
  have hk : ∀ (l : List SC) (f : Bool), (∀ k ∈ l, (bodyL k).length + 1 ≤ 111 * (cells k).length) → (kidsL f l).length ≤ 111 * (cellsL l).length := by
    intro l
    induction l with
    | nil => intro f _; simp [kidsL_nil]
    | cons k l ihl =>
      intro f h
      have h1 := h k List.mem_cons_self
      have h2 := ihl false (fun x hx => h x (List.mem_cons_of_mem _ hx))
      rw [kidsL_cons, cellsL_cons]
      simp only [List.length_append]
      have : (if f = true then ([] : List UInt8) else [44]).length ≤ 1 := by cases f <;> simp
      omega
  have h1 := hk c.f3 true ih
  have h2 := headB_len c.f1
  have h3 := digL_len c.f2
  rw [bodyL_eq, cells_eq]
  split
  · simp only [List.length_append, List.length_singleton, List.length_cons, List.length_nil]; omega
  · simp only [List.length_append, List.length_singleton, List.length_cons, List.length_nil]; omega
end Go.Proofs.YtakhnigalkjhhaaGreatDoor

/- Printed texts of this seat, cut to what is used. -/
namespace Go.Proofs.YtakhnigalkjhhaaGreatDoor
open Go.RowKit Go.Proofs.YtakhnigalkjhhaaGreatDoorW.PrintWords Go.Proofs.YtakhnigalkjhhaaGreatDoorW.PrintLast Go.Proofs.YtakhnigalkjhhaaGreatDoorW.PrintMore Go.Proofs.YtakhnigalkjhhaaGreatDoor.PPrintFits
open Go.Lib (parseUintM decDigits)
set_option linter.unusedVariables false
set_option linter.unusedSimpArgs false

def InR (n : Int) : Prop := 0 ≤ n ∧ n ≤ 2147483647
theorem digL_dec (n : Int) (h : InR n) : digL n = decDigits n.toNat := by
  have := digS_in n.toNat (by have := h.2; have := h.1; omega)
  rw [Int.toNat_of_nonneg h.1] at this
  exact this
def RIn (r : SR) : Prop := InR r.f0 ∧ InR r.f1 ∧ InR r.f2 ∧ InR r.f3

def CGood (c : SC) : Prop := ∀ x ∈ cells c, nodeOk x = true ∧ RIn x.f1
theorem CGood.kid {c k : SC} (h : CGood c) (hk : k ∈ c.f3) : CGood k := fun x hx => h x (cells_kid hk x hx)
theorem node_leaf {c : SC} (h : nodeOk c = true) (h1 : c.f0 = 1) : c.f3 = [] ∧ InR c.f2 := by
  unfold nodeOk at h
  rw [if_pos h1] at h
  simp only [Bool.and_eq_true, List.isEmpty_iff, decide_eq_true_eq] at h
  exact h
theorem node_node {c : SC} (h : nodeOk c = true) (h1 : c.f0 ≠ 1) : (c.f0 = 2 ∨ c.f0 = 3) ∧ c.f2 = 0 := by
  unfold nodeOk at h
  rw [if_neg h1] at h
  by_cases h2 : c.f0 = 2 ∨ c.f0 = 3
  · rw [if_pos h2] at h
    simp only [decide_eq_true_eq] at h
    exact ⟨h2, h.2⟩
  · rw [if_neg h2] at h; cases h
end Go.Proofs.YtakhnigalkjhhaaGreatDoor
