/-
  Joined texts: PsBk, PsDpP.
-/
import Derived.Test.YtkobpbbegalfpaaGreatDoorPrInj
import Derived.Test.YtkobpbbegalfpaaGreatDoorPsTop
import Derived.Test.YtkobpbbegalfpaaGreatDoorTiRef
import Derived.Test.YtkobpbbegalfpaaGreatDoorPsSize
/- Printed texts of this seat, cut to what is used. -/
namespace Go.Proofs.YtkobpbbegalfpaaGreatDoor
open Go.RowKit Go.Proofs.YtkobpbbegalfpaaGreatDoorW.PrintWords Go.Proofs.YtkobpbbegalfpaaGreatDoorW.PrintLast Go.Proofs.YtkobpbbegalfpaaGreatDoorW.PrintMore Go.Proofs.YtkobpbbegalfpaaGreatDoor.PParseBodies
open Go.Lib (parseUintM decDigits)
set_option linter.unusedVariables false
set_option linter.unusedSimpArgs false

/-- From a place on, a text is these bytes. -/
def Tx (s : ByteArray) (i : Nat) (l : List UInt8) : Prop := s.data.toList.drop i = l
theorem Tx.app {s : ByteArray} {i : Nat} {a r : List UInt8} (h : Tx s i (a ++ r)) : Tx s (i + a.length) r := by
 unfold Tx at *
 rw [← List.drop_drop, h, List.drop_left]
theorem Tx.next {s : ByteArray} {i : Nat} {x : UInt8} {r : List UInt8} (h : Tx s i (x :: r)) : Tx s (i + 1) r := Tx.app (a := [x]) h
theorem Tx.lt {s : ByteArray} {i : Nat} {x : UInt8} {r : List UInt8} (h : Tx s i (x :: r)) : i < s.size := by
 have hl : (s.data.toList.drop i).length = (x :: r).length := congrArg List.length h
 rw [List.length_drop, List.length_cons] at hl
 have e : s.data.toList.length = s.size := by simp
 omega
theorem Tx.ahead {s : ByteArray} {i : Nat} {x : UInt8} {r : List UInt8} (h : Tx s i (x :: r)) : aheadI s i = (x.toNat : Int) := by
 have hl := h.lt
 have hd := drop_cons s i hl
 unfold Tx at h
 rw [h] at hd
 injection hd with e _
 unfold aheadI
 rw [dif_pos hl, e]
theorem Tx.eat {s : ByteArray} {i : Nat} {x : UInt8} {r : List UInt8} (h : Tx s i (x :: r)) {c : Int} (hc : (x.toNat : Int) = c) : eatP s i c = .ok (i + 1) := if_pos (h.ahead.trans hc)
theorem Tx.ext {s : ByteArray} {i : Nat} {l : List UInt8} (h : Tx s i l) : (s.extract i s.size).data.toList = l := by
 unfold Tx at h
 rw [← h]
 simp only [ByteArray.data_extract, Array.toList_extract, List.extract_eq_take_drop]
 refine List.take_of_length_le ?_
 rw [List.length_drop]
 have e : s.data.toList.length = s.size := by simp
 omega
theorem headR_dig {a : ByteArray} {n : Int} {r : List UInt8} (h : a.data.toList = digL n ++ r) (hn : InR n) (hr : Nd r) : headR a = (n, ((digL n).length : Int), 0) := by
 have hL : headL a = digL n := by
  unfold headL
  rw [h]
  exact takeWhile_app _ _ (digL_all n hn) hr
 have hne := digL_ne n hn
 have h0 := hn.1
 have h1 := hn.2
 have hp : (digL n).length ≠ 0 := fun e => hne (List.length_eq_zero_iff.1 e)
 unfold headR
 rw [hL, if_neg hp, if_neg, digL_dec n hn, parse_dec 2147483647 (by decide) n.toNat (by omega)]
 ·simp only [Int.toNat_of_nonneg h0]
 ·rintro ⟨h2, h3⟩
  rw [digL_dec n hn] at h2 h3
  by_cases hz : 1 ≤ n.toNat
  ·exact dec_first _ hz h3
  ·have e : n.toNat = 0 := by omega
   rw [e, dec_one 0 (by decide)] at h2
   simp at h2
theorem Tx.num {s : ByteArray} {i : Nat} {n : Int} {r : List UInt8} (h : Tx s i (digL n ++ r)) (hn : InR n) (hr : Nd r) : numP headR s i = .ok (n, i + (digL n).length) := by
 unfold numP
 rw [headR_dig h.ext hn hr, if_pos rfl]
 rfl
theorem rectP_ok {hd : ByteArray → Int × Int × Int} {s : ByteArray} {i a b c : Nat} {w h x y : Int × Nat} (e1 : numP hd s i = .ok w) (e2 : eatP s w.2 120 = .ok a) (e3 : numP hd s a = .ok h) (e4 : eatP s h.2 44 = .ok b) (e5 : numP hd s b = .ok x) (e6 : eatP s x.2 44 = .ok c) (e7 : numP hd s c = .ok y) : rectP hd s i = .ok ((x.1, y.1, w.1, h.1), y.2) := by
 unfold rectP
 rw [e1]
 simp only [bind, Except.bind]
 rw [e2]
 simp only
 rw [e3]
 simp only
 rw [e4]
 simp only
 rw [e5]
 simp only
 rw [e6]
 simp only
 rw [e7]
 rfl
theorem Tx.rect {s : ByteArray} {i : Nat} {q : SR} {r : List UInt8} (h : Tx s i (headB q ++ r)) (hq : RIn q) (hr : Nd r) : rectP headR s i = .ok ((q.f0, q.f1, q.f2, q.f3), i + (headB q).length) := by
 have hlen : (headB q).length = (digL q.f2).length + 1 + (digL q.f3).length + 1 + (digL q.f0).length + 1 + (digL q.f1).length := by
  unfold headB
  simp only [List.length_append, List.length_singleton]
 unfold headB at h
 simp only [List.append_assoc, List.singleton_append] at h
 have e1 := h.num hq.2.2.1 (nd_cons _ _ (by decide))
 have h1 := h.app
 have e2 := h1.eat (c := 120) (by decide)
 have h2 := h1.next
 have e3 := h2.num hq.2.2.2 (nd_cons _ _ (by decide))
 have h3 := h2.app
 have e4 := h3.eat (c := 44) (by decide)
 have h4 := h3.next
 have e5 := h4.num hq.1 (nd_cons _ _ (by decide))
 have h5 := h4.app
 have e6 := h5.eat (c := 44) (by decide)
 have h6 := h5.next
 have e7 := h6.num hq.2.1 hr
 have e := rectP_ok (hd := headR) (w := (q.f2, _)) (h := (q.f3, _)) (x := (q.f0, _)) (y := (q.f1, _)) e1 e2 e3 e4 e5 e6 e7
 rw [e]
 have hp : i + (digL q.f2).length + 1 + (digL q.f3).length + 1 + (digL q.f0).length + 1 + (digL q.f1).length = i + (headB q).length := by rw [hlen]; omega
 show Except.ok ((q.f0, q.f1, q.f2, q.f3), i + (digL q.f2).length + 1 + (digL q.f3).length + 1 + (digL q.f0).length + 1 + (digL q.f1).length) = _
 rw [hp]
mutual
/-- How deep a tree is. -/
def dep : SC → Nat
 | ⟨_, _, _, l⟩ => 1 + depL l
def depL : List SC → Nat
 | [] => 0
 | c :: l => max (dep c) (depL l)
end
theorem dep_eq (c : SC) : dep c = 1 + depL c.f3 := by cases c; simp [dep]
theorem depL_mem : ∀ {l : List SC} {c : SC}, c ∈ l → dep c ≤ depL l
 | x :: l, c, h => by
  rw [depL]
  rcases List.mem_cons.1 h with rfl | h
  ·exact Nat.le_max_left _ _
  ·exact Nat.le_trans (depL_mem h) (Nat.le_max_right _ _)
def Reads (s : ByteArray) (c : SC) : Prop := ∀ (i deep k : Nat) (r : List UInt8), Tx s i (bodyL c ++ r) → Nd r → deep + dep c ≤ 1001 → 2 * (cells c).length ≤ k → cellP headR s k i deep = some (.ok (c, i + (bodyL c).length))
theorem loop_reads (s : ByteArray) (z : UInt8) (hz : z = 125 ∨ z = 93) (c : Int) (hc : (z.toNat : Int) = c) (deep : Nat) : ∀ (l out : List SC) (j k : Nat) (r : List UInt8), (∀ x ∈ l, Reads s x ∧ deep + 1 + dep x ≤ 1001) → 1 ≤ out.length → 2 ≤ out.length + l.length → Tx s j (kidsL false l ++ z :: r) → 2 * (cellsL l).length + 1 ≤ k →
  loopP headR s k c deep out j = some (.ok (out ++ l, j + (kidsL false l).length + 1)) := by
 intro l
 induction l with
 | nil =>
  intro out j k r hl ho h2 h hk
  obtain ⟨k, rfl⟩ : ∃ m, k = m + 1 := ⟨k - 1, by omega⟩
  rw [kidsL_nil] at h
  have ha := Tx.ahead (x := z) h
  simp only [List.length_nil] at h2
  rw [loopP, if_neg (by rintro (h3 | h3); · omega
                        · exact h3 (ha.trans hc))]
  simp [kidsL_nil]
 | cons x l ih =>
  intro out j k r hl ho h2 h hk
  obtain ⟨k, rfl⟩ : ∃ m, k = m + 1 := ⟨k - 1, by omega⟩
  rw [kidsL_cons] at h
  simp only [Bool.false_eq_true, if_false, List.append_assoc, List.singleton_append] at h
  have ha := Tx.ahead (x := 44) h
  have he := h.eat (c := 44) (by decide)
  have hn := h.next
  rw [cellsL_cons, List.length_append] at hk
  have hp := cells_pos x
  obtain ⟨hx, hd⟩ := hl x List.mem_cons_self
  have hcell := hx (j + 1) (deep + 1) k (kidsL false l ++ z :: r) hn (nd_kids l z hz r) hd (by omega)
  have hih := ih (out ++ [x]) (j + 1 + (bodyL x).length) k r (fun y hy => hl y (List.mem_cons_of_mem _ hy)) (by rw [List.length_append]; simp only [List.length_singleton]; omega) (by rw [List.length_append]; simp only [List.length_singleton, List.length_cons] at h2 ⊢; omega) hn.app (by omega)
  rw [loopP, if_pos (Or.inr (by rw [ha, ← hc]; rcases hz with rfl | rfl <;> decide)), he]
  simp only
  rw [hcell]
  simp only
  rw [hih, kidsL_cons]
  simp only [Bool.false_eq_true, if_false, List.append_assoc, List.singleton_append, List.length_append, List.length_cons]
  congr 3
  omega
theorem opn_nd (k : Int) (r : List UInt8) : Nd (opn k :: r) := nd_cons _ _ (by rcases opn_cases k with h | h <;> rw [h] <;> decide)
theorem body_reads (s : ByteArray) (c : SC) : CGood c → Reads s c := by
 refine cell_ind (P := fun c => CGood c → Reads s c) (fun c ih hg => ?_) c
 intro i deep k r h hr hd hk
 obtain ⟨hno, hri⟩ := hg.self
 have hcl : (cells c).length = 1 + (cellsL c.f3).length := by rw [cells_eq]; simp; omega
 have hbl := congrArg List.length (bodyL_eq c)
 rw [bodyL_eq, List.append_assoc] at h
 obtain ⟨k, rfl⟩ : ∃ m, k = m + 1 := ⟨k - 1, by omega⟩
 by_cases h1 : c.f0 = 1
 ·obtain ⟨hk0, hid⟩ := node_leaf hno h1
  rw [if_pos h1] at h hbl
  simp only [List.append_assoc, List.singleton_append, List.cons_append] at h
  have er := h.rect hri (nd_cons _ _ (by decide))
  have h2 := h.app
  have ha := h2.ahead
  have he := h2.eat (c := 44) (by decide)
  have en := h2.next.num hid hr
  rw [cellP, er]
  simp only
  rw [if_neg (by rw [ha]; decide), if_neg (by rw [ha]; decide), he]
  simp only
  rw [en]
  simp only
  have ec : c = ⟨1, ⟨c.f1.f0, c.f1.f1, c.f1.f2, c.f1.f3⟩, c.f2, []⟩ := by
   have e := (SC.eta c).symm
   rw [h1, hk0] at e
   exact e
  have hp : i + (headB c.f1).length + 1 + (digL c.f2).length = i + (bodyL c).length := by rw [hbl]; simp only [List.length_append, List.length_singleton]; omega
  exact congrArg some (congrArg Except.ok (Prod.ext ec.symm hp))
 ·obtain ⟨hkk, hid⟩ := node_node hno h1
  have hk2 : 2 ≤ c.f3.length := by
   unfold nodeOk at hno
   rw [if_neg h1, if_pos hkk, decide_eq_true_eq] at hno
   exact hno.1
  rw [if_neg h1] at h hbl
  simp only [List.append_assoc, List.singleton_append, List.cons_append, List.nil_append] at h
  have er := h.rect hri (opn_nd _ _)
  have h2 := h.app
  have ha := h2.ahead
  have hn := h2.next
  obtain ⟨x, l, hxl⟩ : ∃ x l, c.f3 = x :: l := by
   cases hq : c.f3 with
   | nil => rw [hq] at hk2; simp at hk2
   | cons x l => exact ⟨x, l, rfl⟩
  have hxm : x ∈ c.f3 := by rw [hxl]; exact List.mem_cons_self
  have hdd : ∀ y ∈ c.f3, deep + 1 + dep y ≤ 1001 := fun y hy => by
   have := depL_mem hy
   rw [dep_eq] at hd
   omega
  have hz : cls c.f0 = 125 ∨ cls c.f0 = 93 := cls_cases _
  rw [hxl, kidsL_cons] at hn
  simp only [if_true, List.nil_append, List.append_assoc] at hn
  rw [hxl, cellsL_cons, List.length_append] at hcl
  have hp := cells_pos x
  obtain ⟨k, rfl⟩ : ∃ m, k = m + 1 := ⟨k - 1, by omega⟩
  have hcell := ih x hxm (hg.kid hxm) _ (deep + 1) k _ hn (nd_kids l _ hz r) (hdd x hxm) (by omega)
  have hlp : ∀ cc : Int, ((cls c.f0).toNat : Int) = cc → kidsP headR s (k + 1) cc deep (i + (headB c.f1).length) = some (.ok (c.f3, i + (bodyL c).length)) := by
   intro cc hcc
   have hlo := loop_reads s (cls c.f0) hz cc hcc deep l [x] _ k r (fun y hy => ⟨ih y (by rw [hxl]; exact List.mem_cons_of_mem _ hy) (hg.kid (by rw [hxl]; exact List.mem_cons_of_mem _ hy)), hdd y (by rw [hxl]; exact List.mem_cons_of_mem _ hy)⟩) (by simp) (by rw [hxl] at hk2; simpa [Nat.add_comm] using hk2) hn.app (by omega)
   have hdp : ¬ 1000 ≤ deep := by have := hdd x hxm; have := dep_eq x; omega
   have hp : i + (headB c.f1).length + 1 + (bodyL x).length + (kidsL false l).length + 1 = i + (bodyL c).length := by
    rw [hbl, hxl, kidsL_cons]
    simp only [if_true, List.nil_append, List.length_append, List.length_singleton]
    omega
   rw [kidsP, if_neg hdp, hcell]
   simp only
   rw [hlo]
   exact congrArg some (congrArg Except.ok (Prod.ext hxl.symm hp))
  rw [cellP, er]
  simp only
  rcases hkk with h3 | h3
  ·rw [if_pos (by rw [ha]; unfold opn; rw [if_pos h3]; decide), hlp 125 (by unfold cls; rw [if_pos h3]; decide)]
   simp only
   have ec : c = ⟨2, ⟨c.f1.f0, c.f1.f1, c.f1.f2, c.f1.f3⟩, 0, c.f3⟩ := by
    have e := (SC.eta c).symm
    rw [h3, hid] at e
    exact e
   exact congrArg (fun q => some (Except.ok (q, i + (bodyL c).length))) ec.symm
  ·have h4 : ¬ c.f0 = 2 := by omega
   rw [if_neg (by rw [ha]; unfold opn; rw [if_neg h4]; decide), if_pos (by rw [ha]; unfold opn; rw [if_neg h4]; decide), hlp 93 (by unfold cls; rw [if_neg h4]; decide)]
   simp only
   have ec : c = ⟨3, ⟨c.f1.f0, c.f1.f1, c.f1.f2, c.f1.f3⟩, 0, c.f3⟩ := by
    have e := (SC.eta c).symm
    rw [h3, hid] at e
    exact e
   exact congrArg (fun q => some (Except.ok (q, i + (bodyL c).length))) ec.symm
theorem body_ge (c : SC) : CGood c → (cells c).length ≤ (bodyL c).length := by
 refine cell_ind (P := fun c => CGood c → (cells c).length ≤ (bodyL c).length) (fun c ih hg => ?_) c
 have hk : ∀ (l : List SC) (f : Bool), (∀ k ∈ l, (cells k).length ≤ (bodyL k).length) → (cellsL l).length ≤ (kidsL f l).length := by
  intro l
  induction l with
  | nil => intro f _; simp [cellsL_nil]
  | cons k l ihl =>
   intro f h
   have h1 := h k List.mem_cons_self
   have h2 := ihl false (fun x hx => h x (List.mem_cons_of_mem _ hx))
   rw [kidsL_cons, cellsL_cons]
   simp only [List.length_append]
   omega
 have h1 := hk c.f3 true (fun k hk => ih k hk (hg.kid hk))
 have h2 : 3 ≤ (headB c.f1).length := by unfold headB; simp only [List.length_append, List.length_singleton]; omega
 rw [bodyL_eq, cells_eq]
 by_cases h : c.f0 = 1
 ·obtain ⟨e, _⟩ := node_leaf hg.self.1 h
  rw [if_pos h, e, cellsL_nil]
  simp only [List.length_append, List.length_cons, List.length_nil]
  omega
 ·rw [if_neg h]
  simp only [List.length_append, List.length_cons, List.length_singleton]
  omega
/-- The reader takes a tree's text whole. -/
theorem body_back (c : SC) (hg : CGood c) (hd : dep c ≤ 1000) : cellR (⟨(bodyL c).toArray⟩ : ByteArray) = .ok (c, (bodyL c).length) := by
 have hs : (⟨(bodyL c).toArray⟩ : ByteArray).size = (bodyL c).length := by simp [ByteArray.size]
 have h := body_reads (⟨(bodyL c).toArray⟩ : ByteArray) c hg 0 1 (2 * (⟨(bodyL c).toArray⟩ : ByteArray).size + 3) [] (by unfold Tx; simp) nd_nil (by omega) (by have := body_ge c hg; omega)
 rw [cellR_eq] at h
 rw [Option.some.inj h, Nat.zero_add]
theorem whole_back (c : SC) (hg : CGood c) (hd : dep c ≤ 1000) (hm : mayB c = true) (ht : tilesB c = true) (off : Int) : wholeA (⟨(bodyL c).toArray⟩ : ByteArray) off = .ok c := by
 have hs : (⟨(bodyL c).toArray⟩ : ByteArray).size = (bodyL c).length := by simp [ByteArray.size]
 unfold wholeA wholeP
 rw [body_back c hg hd]
 simp only
 rw [if_neg (by omega), if_neg (by rw [hm]; decide), if_neg (by rw [ht]; decide)]
end Go.Proofs.YtkobpbbegalfpaaGreatDoor

/-
 Columns in columns: the trees, their texts, what is read of them. Pure.
-/
namespace Go.Proofs.YtkobpbbegalfpaaGreatDoor
open Go.RowKit Go.Proofs.YtkobpbbegalfpaaGreatDoorW.PrintWords Go.Proofs.YtkobpbbegalfpaaGreatDoorW.PrintLast Go.Proofs.YtkobpbbegalfpaaGreatDoorW.PrintMore Go.Proofs.YtkobpbbegalfpaaGreatDoor.PParseBodies
open Go.Lib (decDigits)
set_option linter.unusedVariables false
set_option linter.unusedSimpArgs false

def lf (id y : Int) : SC := ⟨1, ⟨0, y, 1, 1⟩, id, []⟩
/-- So many columns in one another, of n. -/
def chn (n : Nat) : Nat → SC
 | 0 => lf 0 0
 | m + 1 => ⟨3, ⟨0, 0, 1, 2 * (m : Int) + 3⟩, 0, [chn n m, lf ((n : Int) - m) (2 * (m : Int) + 2)]⟩
theorem chn_rect (n : Nat) : ∀ m, (chn n m).f1 = ⟨0, 0, 1, 2 * (m : Int) + 1⟩
 | 0 => rfl
 | m + 1 => by
  show (⟨0, 0, 1, 2 * (m : Int) + 3⟩ : SR) = _
  rw [show 2 * ((m + 1 : Nat) : Int) + 1 = 2 * (m : Int) + 3 by omega]
theorem cells_lf (id y : Int) : cells (lf id y) = [lf id y] := by rw [cells_eq]; show lf id y :: cellsL [] = _; rw [cellsL_nil]
theorem cells_chn (n m : Nat) : cells (chn n (m + 1)) = chn n (m + 1) :: (cells (chn n m) ++ [lf ((n : Int) - m) (2 * (m : Int) + 2)]) := by
 rw [cells_eq]
 show chn n (m + 1) :: cellsL [chn n m, lf ((n : Int) - m) (2 * (m : Int) + 2)] = _
 rw [cellsL_cons, cellsL_cons, cellsL_nil, cells_lf, List.append_nil]
theorem chn_len (n : Nat) : ∀ m, (cells (chn n m)).length = 2 * m + 1
 | 0 => by show (cells (lf 0 0)).length = _; rw [cells_lf]; rfl
 | m + 1 => by rw [cells_chn, List.length_cons, List.length_append, chn_len n m]; simp only [List.length_singleton]; omega
theorem chn_dep (n : Nat) : ∀ m, dep (chn n m) = m + 1
 | 0 => by rw [dep_eq]; show 1 + depL [] = _; simp [depL]
 | m + 1 => by
  have h := chn_dep n m
  rw [dep_eq]
  show 1 + depL [chn n m, lf ((n : Int) - m) (2 * (m : Int) + 2)] = _
  have e : dep (lf ((n : Int) - m) (2 * (m : Int) + 2)) = 1 := by rw [dep_eq]; show 1 + depL [] = _; simp [depL]
  rw [depL, depL, depL, h, e]
  have h2 : max 1 0 = 1 := rfl
  rw [h2, Nat.max_eq_left (by omega)]
  omega
theorem lf_good (id y : Int) (h : 0 ≤ id ∧ id ≤ 2147483647) (hy : 0 ≤ y ∧ y ≤ 9999) : nodeOk (lf id y) = true ∧ rectOk (lf id y).f1 = true ∧ (linesS (lf id y)).isSome = true := by
 refine ⟨?_, ?_, ?_⟩
 ·unfold nodeOk
  rw [if_pos (show (lf id y).f0 = 1 from rfl)]
  show (List.isEmpty ([] : List SC) && decide (0 ≤ id ∧ id ≤ 2147483647)) = true
  rw [decide_eq_true h]
  rfl
 ·rw [rectOk_iff]
  show 0 ≤ (0 : Int) ∧ 1 ≤ (1 : Int) ∧ (1 : Int) ≤ 10000 ∧ (0 : Int) ≤ 10000 - 1 ∧ 0 ≤ y ∧ 1 ≤ (1 : Int) ∧ (1 : Int) ≤ 10000 ∧ y ≤ 10000 - 1
  omega
 ·unfold linesS
  rw [if_pos (show (lf id y).f0 = 1 from rfl)]
  rfl
theorem col_good (n m : Nat) (hm : m ≤ 4000) : nodeOk (chn n (m + 1)) = true ∧ rectOk (chn n (m + 1)).f1 = true ∧ (linesS (chn n (m + 1))).isSome = true := by
 have hr : rectOk (⟨0, 0, 1, 2 * (m : Int) + 3⟩ : SR) = true := by
  rw [rectOk_iff]
  show 0 ≤ (0 : Int) ∧ 1 ≤ (1 : Int) ∧ (1 : Int) ≤ 10000 ∧ (0 : Int) ≤ 10000 - 1 ∧ 0 ≤ (0 : Int) ∧ 1 ≤ 2 * (m : Int) + 3 ∧ 2 * (m : Int) + 3 ≤ 10000 ∧ (0 : Int) ≤ 10000 - (2 * (m : Int) + 3)
  omega
 refine ⟨?_, hr, ?_⟩
 ·unfold nodeOk
  rw [if_neg (show ¬ (chn n (m + 1)).f0 = 1 by show ¬ (3 : Int) = 1; decide), if_pos (show (chn n (m + 1)).f0 = 2 ∨ (chn n (m + 1)).f0 = 3 from Or.inr rfl)]
  exact decide_eq_true ⟨Nat.le_refl 2, rfl⟩
 ·have hsz : sizesOf (chn n (m + 1)) = [2 * (m : Int) + 1, 1] := by
   unfold sizesOf
   show List.map (fun k : SC => if (3 : Int) = 2 then k.f1.f2 else k.f1.f3) [chn n m, lf ((n : Int) - m) (2 * (m : Int) + 2)] = _
   simp only [List.map_cons, List.map_nil]
   rw [if_neg (by decide), if_neg (by decide), chn_rect]
   rfl
  unfold linesS
  rw [if_neg (show ¬ (chn n (m + 1)).f0 = 1 by show ¬ (3 : Int) = 1; decide), hsz, if_pos]
  ·rfl
  ·refine ⟨?_, ?_⟩
   ·unfold cutGood
    show (rectOk (⟨0, 0, 1, 2 * (m : Int) + 3⟩ : SR) && decide ((3 - 1 : Int) = 1 ∨ (3 - 1 : Int) = 2) && !(List.isEmpty [2 * (m : Int) + 1, 1]) && cutOk (wholeR (⟨0, 0, 1, 2 * (m : Int) + 3⟩ : SR) (3 - 1)) true 0 [2 * (m : Int) + 1, 1]) = true
    rw [hr]
    have hw : wholeR (⟨0, 0, 1, 2 * (m : Int) + 3⟩ : SR) (3 - 1) = 2 * (m : Int) + 3 := rfl
    rw [hw]
    simp only [cutOk, offA, if_true, Bool.false_eq_true, if_false]
    rw [decide_eq_true (show 1 ≤ 2 * (m : Int) + 1 ∧ 2 * (m : Int) + 1 ≤ 2 * (m : Int) + 3 - 0 by omega), decide_eq_true (show 1 ≤ (1 : Int) ∧ (1 : Int) ≤ 2 * (m : Int) + 3 - (0 + (2 * (m : Int) + 1) + 1) by omega), decide_eq_true (show 0 + (2 * (m : Int) + 1) + 1 + 1 = 2 * (m : Int) + 3 by omega)]
    rfl
   ·show [(chn n m).f1, (lf ((n : Int) - m) (2 * (m : Int) + 2)).f1] = cutParts (⟨0, 0, 1, 2 * (m : Int) + 3⟩ : SR) (3 - 1) true 0 [2 * (m : Int) + 1, 1]
    rw [chn_rect]
    simp only [cutParts, offA, if_true, Bool.false_eq_true, if_false, mkR]
    rw [if_neg (by decide)]
    show [(⟨0, 0, 1, 2 * (m : Int) + 1⟩ : SR), (⟨0, 2 * (m : Int) + 2, 1, 1⟩ : SR)] = [(⟨0, 0 + 0, 1, 2 * (m : Int) + 1⟩ : SR), (⟨0, 0 + (0 + (2 * (m : Int) + 1) + 1), 1, 1⟩ : SR)]
    rw [show (0 : Int) + (0 + (2 * (m : Int) + 1) + 1) = 2 * (m : Int) + 2 by omega]
    rfl
theorem chn_good (n : Nat) (hn : n ≤ 4000) : ∀ m, m ≤ n → ∀ x ∈ cells (chn n m), nodeOk x = true ∧ rectOk x.f1 = true ∧ (linesS x).isSome = true
 | 0, _, x, hx => by
  have hx : x ∈ cells (lf 0 0) := hx
  rw [cells_lf] at hx
  obtain rfl : x = lf 0 0 := by simpa using hx
  exact lf_good 0 0 (by decide) (by decide)
 | m + 1, hm, x, hx => by
  rw [cells_chn] at hx
  rcases List.mem_cons.1 hx with rfl | hx
  ·exact col_good n m (by omega)
  ·rcases List.mem_append.1 hx with hx | hx
   ·exact chn_good n hn m (by omega) x hx
   ·obtain rfl : x = lf ((n : Int) - m) (2 * (m : Int) + 2) := by simpa using hx
    exact lf_good _ _ (by omega) (by omega)
theorem leafIds_app' (a b : List SC) : leafIds (a ++ b) = leafIds a ++ leafIds b := by simp [leafIds]
theorem chn_ids (n m : Nat) : leafIds (cells (chn n (m + 1))) = leafIds (cells (chn n m)) ++ [(n : Int) - m] := by
 rw [cells_chn]
 have h1 : leafIds (chn n (m + 1) :: (cells (chn n m) ++ [lf ((n : Int) - m) (2 * (m : Int) + 2)])) = leafIds (cells (chn n m) ++ [lf ((n : Int) - m) (2 * (m : Int) + 2)]) := by
  unfold leafIds
  rw [List.filter_cons, if_neg (by show ¬ decide ((3 : Int) = 1) = true; decide)]
 rw [h1, leafIds_app']
 rfl
theorem chn_nodup (n : Nat) : ∀ m, m ≤ n → (leafIds (cells (chn n m))).Nodup ∧ ∀ y ∈ leafIds (cells (chn n m)), y = 0 ∨ ((n : Int) - m + 1 ≤ y ∧ y ≤ n)
 | 0, _ => by
  have e : leafIds (cells (chn n 0)) = [0] := by show leafIds (cells (lf 0 0)) = _; rw [cells_lf]; rfl
  rw [e]
  exact ⟨by simp, fun y hy => .inl (by simpa using hy)⟩
 | m + 1, hm => by
  obtain ⟨h1, h2⟩ := chn_nodup n m (by omega)
  rw [chn_ids]
  refine ⟨?_, ?_⟩
  ·rw [List.nodup_append]
   refine ⟨h1, by simp, ?_⟩
   intro a ha b hb e
   obtain rfl : b = (n : Int) - m := by simpa using hb
   subst e
   rcases h2 _ ha with h | h
   ·omega
   ·omega
  ·intro y hy
   rcases List.mem_append.1 hy with hy | hy
   ·rcases h2 y hy with h | h
    ·exact .inl h
    ·refine .inr ⟨?_, h.2⟩
     have := h.1
     omega
   ·obtain rfl : y = (n : Int) - m := by simpa using hy
    refine .inr ⟨?_, ?_⟩ <;> omega
theorem chn_may (n : Nat) (hn : n ≤ 4000) : mayB (chn n n) = true := by
 rw [may_iff, chn_len]
 exact ⟨by omega, fun x hx => ⟨(chn_good n hn n (Nat.le_refl _) x hx).1, (chn_good n hn n (Nat.le_refl _) x hx).2.1⟩, (chn_nodup n n (Nat.le_refl _)).1⟩
theorem chn_tiles (n : Nat) (hn : n ≤ 4000) : tilesB (chn n n) = true := (tilesB_iff _).2 ⟨chn_may n hn, fun x hx => (chn_good n hn n (Nat.le_refl _) x hx).2.2⟩
theorem chn_cgood (n : Nat) (hn : n ≤ 4000) (m : Nat) (hm : m ≤ n) : CGood (chn n m) := fun x hx => by
 obtain ⟨h1, h2, _⟩ := chn_good n hn m hm x hx
 rw [rectOk_iff] at h2
 exact ⟨h1, ⟨by unfold InR; omega, by unfold InR; omega, by unfold InR; omega, by unfold InR; omega⟩⟩
/-! the text -/
def opnL (n : Nat) : Nat → List UInt8
 | 0 => []
 | i + 1 => opnL n i ++ (headB ⟨0, 0, 1, 2 * ((n : Int) - i) + 1⟩ ++ [91])
def shtL (n : Nat) : Nat → List UInt8
 | 0 => []
 | i + 1 => [44] ++ headB ⟨0, 2 * ((n : Int) - i), 1, 1⟩ ++ [44] ++ digL ((i : Int) + 1) ++ [93] ++ shtL n i
theorem body_chn (n m : Nat) : bodyL (chn n (m + 1)) = headB ⟨0, 0, 1, 2 * (m : Int) + 3⟩ ++ [91] ++ (bodyL (chn n m) ++ ([44] ++ headB ⟨0, 2 * (m : Int) + 2, 1, 1⟩ ++ [44] ++ digL ((n : Int) - m) ++ [93])) := by
 rw [bodyL_eq]
 show headB ⟨0, 0, 1, 2 * (m : Int) + 3⟩ ++ (if (3 : Int) = 1 then [44] ++ digL 0 else [opn 3] ++ kidsL true [chn n m, lf ((n : Int) - m) (2 * (m : Int) + 2)] ++ [cls 3]) = _
 rw [if_neg (by decide), kidsL_cons, kidsL_cons, kidsL_nil, bodyL_eq (lf _ _)]
 show headB ⟨0, 0, 1, 2 * (m : Int) + 3⟩ ++ ([91] ++ ((if true = true then [] else [44]) ++ bodyL (chn n m) ++ ((if false = true then [] else [44]) ++ (headB ⟨0, 2 * (m : Int) + 2, 1, 1⟩ ++ (if (1 : Int) = 1 then [44] ++ digL ((n : Int) - m) else _)) ++ [])) ++ [93]) = _
 simp
theorem text_chn (n : Nat) : ∀ i, i ≤ n → opnL n i ++ bodyL (chn n (n - i)) ++ shtL n i = bodyL (chn n n)
 | 0, _ => by simp [opnL, shtL]
 | i + 1, hi => by
  have h := text_chn n i (by omega)
  obtain ⟨m, hm⟩ : ∃ m, n - i = m + 1 := ⟨n - i - 1, by omega⟩
  have hm2 : n - (i + 1) = m := by omega
  rw [hm, body_chn] at h
  rw [hm2, ← h, opnL, shtL]
  have e1 : 2 * ((n : Int) - i) + 1 = 2 * (m : Int) + 3 := by omega
  have e2 : 2 * ((n : Int) - i) = 2 * (m : Int) + 2 := by omega
  have e3 : (i : Int) + 1 = (n : Int) - m := by omega
  rw [e1, e2, e3]
  simp only [List.append_assoc]
theorem dec_len4 (n : Nat) (h : n < 10000) : (decDigits n).length ≤ 4 := by
 have one : ∀ m : Nat, m < 10 → (decDigits m).length = 1 := fun m hm => by rw [dec_one m hm]; rfl
 have two : ∀ m : Nat, m < 100 → (decDigits m).length ≤ 2 := fun m hm => by
  by_cases h : m < 10
  ·rw [one m h]; decide
  ·rw [dec_step m h, List.length_append, one _ (by omega)]; exact Nat.le_refl 2
 have three : ∀ m : Nat, m < 1000 → (decDigits m).length ≤ 3 := fun m hm => by
  by_cases h : m < 10
  ·rw [one m h]; decide
  ·have := two (m / 10) (by omega)
   rw [dec_step m h, List.length_append, List.length_singleton]; omega
 by_cases h9 : n < 10
 ·rw [one n h9]; decide
 ·have := three (n / 10) (by omega)
  rw [dec_step n h9, List.length_append, List.length_singleton]; omega
theorem digL_len4 (n : Int) (h0 : 0 ≤ n) (h1 : n < 10000) : (digL n).length ≤ 4 := by
 rw [digL_dec n ⟨h0, by omega⟩]
 exact dec_len4 _ (by omega)
theorem headB_len4 (y h : Int) (hy : 0 ≤ y ∧ y < 10000) (hh : 0 ≤ h ∧ h < 10000) : (headB ⟨0, y, 1, h⟩).length ≤ 19 := by
 have h0 := digL_len4 0 (by decide) (by decide)
 have h1 := digL_len4 1 (by decide) (by decide)
 have h2 := digL_len4 y hy.1 hy.2
 have h3 := digL_len4 h hh.1 hh.2
 unfold headB
 simp only [List.length_append, List.length_singleton]
 omega
theorem opn_len (n : Nat) (hn : n ≤ 1100) : ∀ i, i ≤ n → (opnL n i).length ≤ 20 * i
 | 0, _ => by simp [opnL]
 | i + 1, hi => by
  have h := opn_len n hn i (by omega)
  have h2 := headB_len4 0 (2 * ((n : Int) - i) + 1) (by decide) (by omega)
  rw [opnL]
  simp only [List.length_append, List.length_singleton]
  omega
theorem sht_len (n : Nat) (hn : n ≤ 1100) : ∀ i, i ≤ n → (shtL n i).length ≤ 26 * i
 | 0, _ => by simp [shtL]
 | i + 1, hi => by
  have h := sht_len n hn i (by omega)
  have h2 := headB_len4 (2 * ((n : Int) - i)) 1 (by omega) (by decide)
  have h3 := digL_len4 ((i : Int) + 1) (by omega) (by omega)
  rw [shtL]
  simp only [List.length_append, List.length_singleton]
  omega
/-! what is read -/
theorem chn_deep (s : ByteArray) (n : Nat) (hn : n ≤ 4000) : ∀ (m : Nat), m ≤ n → ∀ (i deep k : Nat) (r : List UInt8), Tx s i (bodyL (chn n m) ++ r) → Nd r → 1001 ≤ deep + m → 1 ≤ m → deep ≤ 1000 → 2 * (cells (chn n m)).length ≤ k → ∃ j, cellP headR s k i deep = some (.error (3, j))
 | 0, _, _, _, _, _, _, _, _, h, _, _ => absurd h (by decide)
 | m + 1, hm, i, deep, k, r, h, hr, hd, _, hde, hk => by
  rw [chn_len] at hk
  obtain ⟨k, rfl⟩ : ∃ q, k = q + 1 := ⟨k - 1, by omega⟩
  obtain ⟨k, rfl⟩ : ∃ q, k = q + 1 := ⟨k - 1, by omega⟩
  rw [body_chn] at h
  simp only [List.append_assoc, List.singleton_append, List.cons_append, List.nil_append] at h
  have er := h.rect (q := ⟨0, 0, 1, 2 * (m : Int) + 3⟩) ⟨⟨by show (0 : Int) ≤ 0; decide, by show (0 : Int) ≤ 2147483647; decide⟩, ⟨by show (0 : Int) ≤ 0; decide, by show (0 : Int) ≤ 2147483647; decide⟩, ⟨by show (0 : Int) ≤ 1; decide, by show (1 : Int) ≤ 2147483647; decide⟩, ⟨by show (0 : Int) ≤ 2 * (m : Int) + 3; omega, by show 2 * (m : Int) + 3 ≤ 2147483647; omega⟩⟩ (nd_cons _ _ (by decide))
  have h2 := h.app
  have ha := h2.ahead
  have hn2 := h2.next
  rw [cellP, er]
  simp only
  rw [if_neg (by rw [ha]; decide), if_pos (by rw [ha]; decide), kidsP]
  by_cases h9 : 1000 ≤ deep
  ·rw [if_pos h9]
   exact ⟨_, rfl⟩
  ·rw [if_neg h9]
   obtain ⟨j, hj⟩ := chn_deep s n hn m (by omega) _ (deep + 1) k _ hn2 (nd_cons _ _ (by decide)) (by omega) (by omega) (by omega) (by rw [chn_len]; omega)
   rw [hj]
   exact ⟨j, rfl⟩
/-- The body of so many columns. -/
def deepS (n : Nat) : ByteArray := ⟨(bodyL (chn n n)).toArray⟩
theorem deep_size (n : Nat) (hn : n ≤ 1100) : (deepS n).size ≤ 60000 := by
 have hs : (deepS n).size = (bodyL (chn n n)).length := by simp [deepS, ByteArray.size]
 have h := congrArg List.length (text_chn n n (Nat.le_refl _))
 rw [Nat.sub_self, List.length_append, List.length_append] at h
 have h1 := opn_len n hn n (Nat.le_refl _)
 have h2 := sht_len n hn n (Nat.le_refl _)
 have h3 := body_len (chn n 0)
 rw [chn_len] at h3
 omega
theorem deep_ok (n : Nat) (hn : n ≤ 999) : bodyA (deepS n) = .ok (chn n n) := by
 have hz := deep_size n (by omega)
 have e : bodyA (deepS n) = wholeA (deepS n) 0 := if_neg (by omega)
 rw [e]
 exact whole_back (chn n n) (chn_cgood n (by omega) n (Nat.le_refl _)) (by rw [chn_dep]; omega) (chn_may n (by omega)) (chn_tiles n (by omega)) 0
theorem deep_no (n : Nat) (h1 : 1000 ≤ n) (hn : n ≤ 1100) : ∃ at_, bodyA (deepS n) = .error (3, at_) := by
 have hz := deep_size n hn
 have hs : (deepS n).size = (bodyL (chn n n)).length := by simp [deepS, ByteArray.size]
 have e : bodyA (deepS n) = wholeA (deepS n) 0 := if_neg (by omega)
 obtain ⟨j, hj⟩ := chn_deep (deepS n) n (by omega) n (Nat.le_refl _) 0 1 (2 * (deepS n).size + 3) [] (by unfold Tx deepS; simp) nd_nil (by omega) (by omega) (by omega) (by have := body_ge (chn n n) (chn_cgood n (by omega) n (Nat.le_refl _)); omega)
 rw [cellR_eq] at hj
 rw [e]
 unfold wholeA wholeP
 rw [Option.some.inj hj]
 exact ⟨_, rfl⟩
end Go.Proofs.YtkobpbbegalfpaaGreatDoor
