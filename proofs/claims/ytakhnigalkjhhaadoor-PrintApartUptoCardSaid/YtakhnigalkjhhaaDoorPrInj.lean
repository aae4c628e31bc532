/-
  Joined texts: PrPure, PrInj.
-/
import Derived.Test.YtakhnigalkjhhaaDoorTiGeo
import Derived.Test.YtakhnigalkjhhaaDoorNumPureP
/-
  A tree's text, in plain Lean.
-/
namespace Go.Proofs.YtakhnigalkjhhaaDoor
open Go.RowKit Go.Proofs.YtakhnigalkjhhaaDoorW.PrintWords Go.Proofs.YtakhnigalkjhhaaDoorW.PrintLast Go.Proofs.YtakhnigalkjhhaaDoorW.PrintMore Go.Proofs.YtakhnigalkjhhaaDoor.PTileChecks
set_option linter.unusedVariables false
set_option linter.unusedSimpArgs false

def digL (n : Int) : List UInt8 := (digS n).data.toList
def headB (r : SR) : List UInt8 := digL r.f2 ++ [120] ++ digL r.f3 ++ [44] ++ digL r.f0 ++ [44] ++ digL r.f1
def opn (k : Int) : UInt8 := if k = 2 then 123 else 91
def cls (k : Int) : UInt8 := if k = 2 then 125 else 93
mutual
def bodyL : SC → List UInt8
  | ⟨k, r, i, kids⟩ => headB r ++ (if k = 1 then [44] ++ digL i else [opn k] ++ kidsL true kids ++ [cls k])
def kidsL : Bool → List SC → List UInt8
  | _, [] => []
  | first, c :: l => (if first = true then [] else [44]) ++ bodyL c ++ kidsL false l
end
theorem bodyL_eq (c : SC) : bodyL c = headB c.f1 ++ (if c.f0 = 1 then [44] ++ digL c.f2 else [opn c.f0] ++ kidsL true c.f3 ++ [cls c.f0]) := by cases c; simp [bodyL]
theorem kidsL_nil (f : Bool) : kidsL f [] = [] := by simp [kidsL]
theorem kidsL_cons (f : Bool) (c : SC) (l : List SC) : kidsL f (c :: l) = (if f = true then [] else [44]) ++ bodyL c ++ kidsL false l := by simp [kidsL]
def sepK (j : Nat) : List UInt8 := if j = 0 then [] else [44]
theorem kidsL_app (a b : List SC) : ∀ f, kidsL f (a ++ b) = kidsL f a ++ kidsL (f && a.isEmpty) b := by
  induction a with
  | nil => intro f; simp [kidsL_nil]
  | cons c a ih => intro f; rw [List.cons_append, kidsL_cons, kidsL_cons, ih]; simp
theorem kidsL_split (l : List SC) (j : Nat) (hj : j < l.length) : kidsL true l = kidsL true (l.take j) ++ sepK j ++ bodyL (l.getD j z26) ++ kidsL false (l.drop (j + 1)) := by
  have h : l = l.take j ++ l.getD j z26 :: l.drop (j + 1) := by
    rw [List.getD_eq_getElem?_getD, List.getElem?_eq_getElem hj]
    show l = l.take j ++ l[j] :: l.drop (j + 1)
    rw [← List.drop_eq_getElem_cons hj, List.take_append_drop]
  conv => lhs; rw [h]
  rw [kidsL_app, kidsL_cons]
  by_cases h0 : j = 0
  · subst h0; simp [sepK]
  · have : (l.take j).isEmpty = false := by
      cases l with
      | nil => simp at hj
      | cons x l => cases j with
        | zero => exact absurd rfl h0
        | succ j => simp
    simp [sepK, h0, this]
theorem kidsL_take (l : List SC) (j : Nat) (hj : j < l.length) : kidsL true (l.take (j + 1)) = kidsL true (l.take j) ++ sepK j ++ bodyL (l.getD j z26) := by
  have h := kidsL_split (l.take (j + 1)) j (by rw [List.length_take]; omega)
  rw [h, List.take_take, Nat.min_eq_left (by omega), List.drop_eq_nil_of_le (by rw [List.length_take]; omega), kidsL_nil, List.append_nil]
  congr 2
  rw [List.getD_eq_getElem?_getD, List.getD_eq_getElem?_getD, List.getElem?_take, if_pos (by omega)]

theorem digL_len (n : Int) : (digL n).length ≤ 21 := by
  have := digS_size n
  unfold digL
  simpa using this
theorem headB_len (r : SR) : (headB r).length ≤ 87 := by
  have h0 := digL_len r.f0; have h1 := digL_len r.f1; have h2 := digL_len r.f2; have h3 := digL_len r.f3
  unfold headB
  simp only [List.length_append, List.length_singleton]
  omega
theorem body_len (c : SC) : (bodyL c).length + 1 ≤ 111 * (cells c).length := by
  refine cell_ind (P := fun c => (bodyL c).length + 1 ≤ 111 * (cells c).length) (fun c ih => ?_) c
  have hk : ∀ (l : List SC) (f : Bool), (∀ k ∈ l, (bodyL k).length + 1 ≤ 111 * (cells k).length) → (kidsL f l).length ≤ 111 * (cellsL l).length := by
    intro l
    induction l with
    | nil => intro f _; simp [kidsL_nil]
    | cons k l ihl =>
      intro f h
      have h1 := h k List.mem_cons_self
      have h2 := ihl false (fun x hx => h x (List.mem_cons_of_mem _ hx))
      rw [kidsL_cons, cellsL_cons]
      simp only [List.length_append]
      have : (if f = true then ([] : List UInt8) else [44]).length ≤ 1 := by cases f <;> simp
      omega
  have h1 := hk c.f3 true ih
  have h2 := headB_len c.f1
  have h3 := digL_len c.f2
  rw [bodyL_eq, cells_eq]
  split
  · simp only [List.length_append, List.length_singleton, List.length_cons, List.length_nil]; omega
  · simp only [List.length_append, List.length_singleton, List.length_cons, List.length_nil]; omega
end Go.Proofs.YtakhnigalkjhhaaDoor

/-
  Trees that may be have one text just if they are the same.
-/
namespace Go.Proofs.YtakhnigalkjhhaaDoor
open Go.RowKit Go.Proofs.YtakhnigalkjhhaaDoorW.PrintWords Go.Proofs.YtakhnigalkjhhaaDoorW.PrintLast Go.Proofs.YtakhnigalkjhhaaDoorW.PrintMore Go.Proofs.YtakhnigalkjhhaaDoor.PTileChecks
open Go.Lib (parseUintM decDigits)
set_option linter.unusedVariables false
set_option linter.unusedSimpArgs false

def Nd (s : List UInt8) : Prop := ∀ x r, s = x :: r → isD x = false
theorem nd_cons (x : UInt8) (r : List UInt8) (h : isD x = false) : Nd (x :: r) := fun y q e => by cases e; exact h
theorem nd_nil : Nd [] := fun y q e => by cases e
theorem takeWhile_app (a s : List UInt8) (ha : ∀ b ∈ a, isD b = true) (hs : Nd s) : (a ++ s).takeWhile isD = a := by
  induction a with
  | nil => cases s with
    | nil => rfl
    | cons x r => simp [hs x r rfl]
  | cons x a ih => simp [ha x List.mem_cons_self, ih (fun b hb => ha b (List.mem_cons_of_mem _ hb))]
theorem digs_split (a b s t : List UInt8) (ha : ∀ x ∈ a, isD x = true) (hb : ∀ x ∈ b, isD x = true) (hs : Nd s) (ht : Nd t) (h : a ++ s = b ++ t) : a = b ∧ s = t := by
  have h1 := takeWhile_app a s ha hs
  rw [h, takeWhile_app b t hb ht] at h1
  subst h1
  exact ⟨rfl, List.append_cancel_left h⟩
def InR (n : Int) : Prop := 0 ≤ n ∧ n ≤ 2147483647
theorem digL_dec (n : Int) (h : InR n) : digL n = decDigits n.toNat := by
  have := digS_in n.toNat (by have := h.2; have := h.1; omega)
  rw [Int.toNat_of_nonneg h.1] at this
  exact this
theorem digL_all (n : Int) (h : InR n) : ∀ b ∈ digL n, isD b = true := by rw [digL_dec n h]; exact dec_all _
theorem digL_ne (n : Int) (h : InR n) : digL n ≠ [] := by rw [digL_dec n h]; exact dec_ne _
theorem digL_inj (n m : Int) (hn : InR n) (hm : InR m) (h : digL n = digL m) : n = m := by
  rw [digL_dec n hn, digL_dec m hm] at h
  have h1 := parse_dec 2147483647 (by decide) n.toNat (by have := hn.2; have := hn.1; omega)
  have h2 := parse_dec 2147483647 (by decide) m.toNat (by have := hm.2; have := hm.1; omega)
  rw [h, h2] at h1
  have h3 : m.toNat = n.toNat := by injection h1
  have := hn.1
  have := hm.1
  omega
theorem digL_split (n m : Int) (s t : List UInt8) (hn : InR n) (hm : InR m) (hs : Nd s) (ht : Nd t) (h : digL n ++ s = digL m ++ t) : n = m ∧ s = t := by
  obtain ⟨h1, h2⟩ := digs_split _ _ s t (digL_all n hn) (digL_all m hm) hs ht h
  exact ⟨digL_inj n m hn hm h1, h2⟩
def RIn (r : SR) : Prop := InR r.f0 ∧ InR r.f1 ∧ InR r.f2 ∧ InR r.f3
theorem headB_split (r q : SR) (s t : List UInt8) (hr : RIn r) (hq : RIn q) (hs : Nd s) (ht : Nd t) (h : headB r ++ s = headB q ++ t) : r = q ∧ s = t := by
  unfold headB at h
  simp only [List.append_assoc, List.singleton_append] at h
  obtain ⟨e2, h⟩ := digL_split _ _ _ _ hr.2.2.1 hq.2.2.1 (nd_cons _ _ (by decide)) (nd_cons _ _ (by decide)) h
  obtain ⟨e3, h⟩ := digL_split _ _ _ _ hr.2.2.2 hq.2.2.2 (nd_cons _ _ (by decide)) (nd_cons _ _ (by decide)) (List.cons.inj h).2
  obtain ⟨e0, h⟩ := digL_split _ _ _ _ hr.1 hq.1 (nd_cons _ _ (by decide)) (nd_cons _ _ (by decide)) (List.cons.inj h).2
  obtain ⟨e1, h⟩ := digL_split _ _ _ _ hr.2.1 hq.2.1 hs ht (List.cons.inj h).2
  exact ⟨by cases r; cases q; simp_all, h⟩
theorem headB_first (r : SR) (hr : RIn r) (s : List UInt8) : ∃ x q, headB r ++ s = x :: q ∧ isD x = true := by
  unfold headB
  cases hd : digL r.f2 with
  | nil => exact absurd hd (digL_ne _ hr.2.2.1)
  | cons x q => exact ⟨x, _, rfl, digL_all _ hr.2.2.1 x (by rw [hd]; exact List.mem_cons_self)⟩

def CGood (c : SC) : Prop := ∀ x ∈ cells c, nodeOk x = true ∧ RIn x.f1
theorem CGood.kid {c k : SC} (h : CGood c) (hk : k ∈ c.f3) : CGood k := fun x hx => h x (cells_kid hk x hx)
theorem CGood.self {c : SC} (h : CGood c) : nodeOk c = true ∧ RIn c.f1 := h c (cells_self c)
theorem node_leaf {c : SC} (h : nodeOk c = true) (h1 : c.f0 = 1) : c.f3 = [] ∧ InR c.f2 := by
  unfold nodeOk at h
  rw [if_pos h1] at h
  simp only [Bool.and_eq_true, List.isEmpty_iff, decide_eq_true_eq] at h
  exact h
theorem node_node {c : SC} (h : nodeOk c = true) (h1 : c.f0 ≠ 1) : (c.f0 = 2 ∨ c.f0 = 3) ∧ c.f2 = 0 := by
  unfold nodeOk at h
  rw [if_neg h1] at h
  by_cases h2 : c.f0 = 2 ∨ c.f0 = 3
  · rw [if_pos h2] at h
    simp only [decide_eq_true_eq] at h
    exact ⟨h2, h.2⟩
  · rw [if_neg h2] at h; cases h
theorem body_first (c : SC) (h : CGood c) (s : List UInt8) : ∃ x q, bodyL c ++ s = x :: q ∧ isD x = true := by
  rw [bodyL_eq, List.append_assoc]
  exact headB_first _ h.self.2 _
theorem isD_z (z : UInt8) (hz : z = 125 ∨ z = 93) : isD z = false := by rcases hz with rfl | rfl <;> decide
theorem nd_kids (l : List SC) (z : UInt8) (hz : z = 125 ∨ z = 93) (s : List UInt8) : Nd (kidsL false l ++ z :: s) := by
  cases l with
  | nil => rw [kidsL_nil]; exact nd_cons _ _ (isD_z z hz)
  | cons c l => rw [kidsL_cons]; simp only [Bool.false_eq_true, if_false, List.append_assoc, List.singleton_append]; exact nd_cons _ _ (by decide)
def SplitsC (c : SC) : Prop := ∀ (d : SC) (s t : List UInt8), CGood c → CGood d → Nd s → Nd t → bodyL c ++ s = bodyL d ++ t → c = d ∧ s = t
theorem kids_split (z : UInt8) (hz : z = 125 ∨ z = 93) : ∀ (l l' : List SC) (f : Bool) (s t : List UInt8), (∀ c ∈ l, SplitsC c ∧ CGood c) → (∀ d ∈ l', CGood d) → kidsL f l ++ z :: s = kidsL f l' ++ z :: t → l = l' ∧ s = t := by
  intro l
  induction l with
  | nil =>
    intro l' f s t _ hd h
    cases l' with
    | nil => rw [kidsL_nil] at h; exact ⟨rfl, (List.cons.inj h).2⟩
    | cons d l' =>
      exfalso
      rw [kidsL_nil, kidsL_cons] at h
      cases f with
      | false =>
        simp only [Bool.false_eq_true, if_false, List.nil_append, List.append_assoc, List.singleton_append] at h
        have := (List.cons.inj h).1
        rcases hz with rfl | rfl <;> cases this
      | true =>
        simp only [if_true, List.nil_append, List.append_assoc] at h
        obtain ⟨x, q, hx, hD⟩ := body_first d (hd d List.mem_cons_self) (kidsL false l' ++ z :: t)
        rw [hx] at h
        rw [← (List.cons.inj h).1, isD_z z hz] at hD
        cases hD
  | cons c l ih =>
    intro l' f s t hc hd h
    cases l' with
    | nil =>
      exfalso
      rw [kidsL_nil, kidsL_cons] at h
      cases f with
      | false =>
        simp only [Bool.false_eq_true, if_false, List.nil_append, List.append_assoc, List.singleton_append] at h
        have := (List.cons.inj h).1
        rcases hz with rfl | rfl <;> cases this
      | true =>
        simp only [if_true, List.nil_append, List.append_assoc] at h
        obtain ⟨x, q, hx, hD⟩ := body_first c (hc c List.mem_cons_self).2 (kidsL false l ++ z :: s)
        rw [hx] at h
        rw [(List.cons.inj h).1, isD_z z hz] at hD
        cases hD
    | cons d l' =>
      rw [kidsL_cons, kidsL_cons, List.append_assoc, List.append_assoc, List.append_assoc, List.append_assoc] at h
      have h2 := List.append_cancel_left h
      obtain ⟨e, h3⟩ := (hc c List.mem_cons_self).1 d _ _ (hc c List.mem_cons_self).2 (hd d List.mem_cons_self) (nd_kids l z hz s) (nd_kids l' z hz t) h2
      obtain ⟨e2, h4⟩ := ih l' false s t (fun x hx => hc x (List.mem_cons_of_mem _ hx)) (fun x hx => hd x (List.mem_cons_of_mem _ hx)) h3
      exact ⟨by rw [e, e2], h4⟩
theorem opn_inj {k q : Int} (hk : k = 2 ∨ k = 3) (hq : q = 2 ∨ q = 3) (h : opn k = opn q) : k = q := by
  rcases hk with rfl | rfl <;> rcases hq with rfl | rfl <;> first | rfl | (exact absurd h (by decide))
theorem opn_cases (k : Int) : opn k = 123 ∨ opn k = 91 := by unfold opn; split <;> simp
theorem cls_cases (k : Int) : cls k = 125 ∨ cls k = 93 := by unfold cls; split <;> simp
theorem body_split (c : SC) : SplitsC c := by
  refine cell_ind (P := SplitsC) (fun c ih => ?_) c
  intro d s t hc hd hs ht h
  rw [bodyL_eq, bodyL_eq d, List.append_assoc (headB c.f1), List.append_assoc (headB d.f1)] at h
  have nd : ∀ (x : SC) (r : List UInt8), Nd ((if x.f0 = 1 then [44] ++ digL x.f2 else [opn x.f0] ++ kidsL true x.f3 ++ [cls x.f0]) ++ r) := fun x r => by
    split
    · simp only [List.append_assoc, List.singleton_append]; exact nd_cons _ _ (by decide)
    · simp only [List.append_assoc, List.singleton_append]; refine nd_cons _ _ ?_; rcases opn_cases x.f0 with e | e <;> rw [e] <;> decide
  obtain ⟨hr, h⟩ := headB_split _ _ _ _ hc.self.2 hd.self.2 (nd c s) (nd d t) h
  by_cases h1 : c.f0 = 1
  · by_cases h2 : d.f0 = 1
    · rw [if_pos h1, if_pos h2] at h
      simp only [List.append_assoc, List.singleton_append] at h
      obtain ⟨k1, i1⟩ := node_leaf hc.self.1 h1
      obtain ⟨k2, i2⟩ := node_leaf hd.self.1 h2
      obtain ⟨e, h⟩ := digL_split _ _ _ _ i1 i2 hs ht (List.cons.inj h).2
      refine ⟨?_, h⟩
      obtain ⟨c0, c1, c2, c3⟩ := c
      obtain ⟨d0, d1, d2, d3⟩ := d
      simp only at *
      subst h1 h2 hr e k1 k2
      rfl
    · exfalso
      rw [if_pos h1, if_neg h2] at h
      simp only [List.append_assoc, List.singleton_append] at h
      have := (List.cons.inj h).1
      rcases opn_cases d.f0 with e | e <;> rw [e] at this <;> cases this
  · by_cases h2 : d.f0 = 1
    · exfalso
      rw [if_neg h1, if_pos h2] at h
      simp only [List.append_assoc, List.singleton_append] at h
      have := (List.cons.inj h).1
      rcases opn_cases c.f0 with e | e <;> rw [e] at this <;> cases this
    · rw [if_neg h1, if_neg h2] at h
      simp only [List.append_assoc, List.singleton_append] at h
      obtain ⟨k1, i1⟩ := node_node hc.self.1 h1
      obtain ⟨k2, i2⟩ := node_node hd.self.1 h2
      have ek := opn_inj k1 k2 (List.cons.inj h).1
      have h3 := (List.cons.inj h).2
      rw [← ek] at h3
      obtain ⟨e, h4⟩ := kids_split (cls c.f0) (cls_cases _) c.f3 d.f3 true s t (fun k hk => ⟨ih k hk, hc.kid hk⟩) (fun k hk => hd.kid hk) h3
      refine ⟨?_, h4⟩
      obtain ⟨c0, c1, c2, c3⟩ := c
      obtain ⟨d0, d1, d2, d3⟩ := d
      simp only at *
      subst ek hr e i1 i2
      rfl
theorem body_inj (c d : SC) (hc : CGood c) (hd : CGood d) : bodyL c = bodyL d ↔ c = d :=
  ⟨fun h => (body_split c d [] [] hc hd nd_nil nd_nil (by rw [h])).1, fun h => by rw [h]⟩
end Go.Proofs.YtakhnigalkjhhaaDoor
