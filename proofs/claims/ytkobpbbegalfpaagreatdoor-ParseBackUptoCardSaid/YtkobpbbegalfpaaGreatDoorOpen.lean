/-
  Joined texts: PsBk, PsPan, PxBack, TiCount, PsBackL, Open.
-/
import Derived.Test.YtkobpbbegalfpaaGreatDoorPrBuild
import Derived.Test.YtkobpbbegalfpaaGreatDoorPsTop
import Derived.Test.YtkobpbbegalfpaaGreatDoorPrPure
import Derived.Test.YtkobpbbegalfpaaGreatDoorPParseBodiesx2
import Derived.Test.YtkobpbbegalfpaaGreatDoorPsBase
import Derived.Test.YtkobpbbegalfpaaGreatDoorPsWhole2
import Derived.Test.YtkobpbbegalfpaaGreatDoorPParseBodiesx13
import Derived.Test.YtkobpbbegalfpaaGreatDoorPsRnd
import Derived.ProofKit
import Derived.OpenShut
import Derived.ShutString
import Derived.Below
import Derived.SizedLaws
import Derived.ChangeOld
import Derived.Deep.Slices
namespace Go.Proofs.YtkobpbbegalfpaaGreatDoor
open Go.RowKit YtkobpbbegalfpaaGreatDoorW.PrintWords YtkobpbbegalfpaaGreatDoorW.PrintLast YtkobpbbegalfpaaGreatDoorW.PrintMore PParseBodies
open Go.Lib (parseUintM decDigits)
set_option linter.unusedVariables false
set_option linter.unusedSimpArgs false
def Tx (s : ByteArray) (i : Nat) (l : List UInt8) : Prop := s.data.toList.drop i = l
theorem Tx.app {s : ByteArray} {i : Nat} {a r : List UInt8} (h : Tx s i (a ++ r)) : Tx s (i + a.length) r := by
 unfold Tx at *
 rw [← List.drop_drop, h, List.drop_left]
theorem Tx.next {s : ByteArray} {i : Nat} {x : UInt8} {r : List UInt8} (h : Tx s i (x :: r)) : Tx s (i + 1) r := Tx.app (a := [x]) h
theorem Tx.lt {s : ByteArray} {i : Nat} {x : UInt8} {r : List UInt8} (h : Tx s i (x :: r)) : i < s.size := by
 have hl : (s.data.toList.drop i).length = (x :: r).length := congrArg List.length h
 rw [List.length_drop, List.length_cons] at hl
 have e : s.data.toList.length = s.size := by simp
 omega
theorem Tx.ahead {s : ByteArray} {i : Nat} {x : UInt8} {r : List UInt8} (h : Tx s i (x :: r)) : aheadI s i = (x.toNat : Int) := by
 have hl := h.lt
 have hd := drop_cons s i hl
 unfold Tx at h
 rw [h] at hd
 injection hd with e _
 unfold aheadI
 rw [dif_pos hl, e]
theorem Tx.eat {s : ByteArray} {i : Nat} {x : UInt8} {r : List UInt8} (h : Tx s i (x :: r)) {c : Int} (hc : (x.toNat : Int) = c) : eatP s i c = .ok (i + 1) := if_pos (h.ahead.trans hc)
theorem Tx.ext {s : ByteArray} {i : Nat} {l : List UInt8} (h : Tx s i l) : (s.extract i s.size).data.toList = l := by
 unfold Tx at h
 rw [← h]
 simp only [ByteArray.data_extract, Array.toList_extract, List.extract_eq_take_drop]
 refine List.take_of_length_le ?_
 rw [List.length_drop]
 have e : s.data.toList.length = s.size := by simp
 omega
theorem headR_dig {a : ByteArray} {n : Int} {r : List UInt8} (h : a.data.toList = digL n ++ r) (hn : InR n) (hr : Nd r) : headR a = (n, ((digL n).length : Int), 0) := by
 have hL : headL a = digL n := by
  unfold headL
  rw [h]
  exact takeWhile_app _ _ (digL_all n hn) hr
 have hne := digL_ne n hn
 have h0 := hn.1
 have h1 := hn.2
 have hp : (digL n).length ≠ 0 := fun e => hne (List.length_eq_zero_iff.1 e)
 unfold headR
 rw [hL, if_neg hp, if_neg, digL_dec n hn, parse_dec 2147483647 (by decide) n.toNat (by omega)]
 ·simp only [Int.toNat_of_nonneg h0]
 ·rintro ⟨h2, h3⟩
  rw [digL_dec n hn] at h2 h3
  by_cases hz : 1 ≤ n.toNat
  ·exact dec_first _ hz h3
  ·have e : n.toNat = 0 := by omega
   rw [e, dec_one 0 (by decide)] at h2
   simp at h2
theorem Tx.num {s : ByteArray} {i : Nat} {n : Int} {r : List UInt8} (h : Tx s i (digL n ++ r)) (hn : InR n) (hr : Nd r) : numP headR s i = .ok (n, i + (digL n).length) := by
 unfold numP
 rw [headR_dig h.ext hn hr, if_pos rfl]
 rfl
theorem rectP_ok {hd : ByteArray → Int × Int × Int} {s : ByteArray} {i a b c : Nat} {w h x y : Int × Nat} (e1 : numP hd s i = .ok w) (e2 : eatP s w.2 120 = .ok a) (e3 : numP hd s a = .ok h) (e4 : eatP s h.2 44 = .ok b) (e5 : numP hd s b = .ok x) (e6 : eatP s x.2 44 = .ok c) (e7 : numP hd s c = .ok y) : rectP hd s i = .ok ((x.1, y.1, w.1, h.1), y.2) := by
 unfold rectP
 rw [e1]
 simp only [bind, Except.bind]
 rw [e2]
 simp only
 rw [e3]
 simp only
 rw [e4]
 simp only
 rw [e5]
 simp only
 rw [e6]
 simp only
 rw [e7]
 rfl
theorem Tx.rect {s : ByteArray} {i : Nat} {q : SR} {r : List UInt8} (h : Tx s i (headB q ++ r)) (hq : RIn q) (hr : Nd r) : rectP headR s i = .ok ((q.f0, q.f1, q.f2, q.f3), i + (headB q).length) := by
 have hlen : (headB q).length = (digL q.f2).length + 1 + (digL q.f3).length + 1 + (digL q.f0).length + 1 + (digL q.f1).length := by
  unfold headB
  simp only [List.length_append, List.length_singleton]
 unfold headB at h
 simp only [List.append_assoc, List.singleton_append] at h
 have e1 := h.num hq.2.2.1 (nd_cons _ _ (by decide))
 have h1 := h.app
 have e2 := h1.eat (c := 120) (by decide)
 have h2 := h1.next
 have e3 := h2.num hq.2.2.2 (nd_cons _ _ (by decide))
 have h3 := h2.app
 have e4 := h3.eat (c := 44) (by decide)
 have h4 := h3.next
 have e5 := h4.num hq.1 (nd_cons _ _ (by decide))
 have h5 := h4.app
 have e6 := h5.eat (c := 44) (by decide)
 have h6 := h5.next
 have e7 := h6.num hq.2.1 hr
 have e := rectP_ok (hd := headR) (w := (q.f2, _)) (h := (q.f3, _)) (x := (q.f0, _)) (y := (q.f1, _)) e1 e2 e3 e4 e5 e6 e7
 rw [e]
 have hp : i + (digL q.f2).length + 1 + (digL q.f3).length + 1 + (digL q.f0).length + 1 + (digL q.f1).length = i + (headB q).length := by rw [hlen]; omega
 show Except.ok ((q.f0, q.f1, q.f2, q.f3), i + (digL q.f2).length + 1 + (digL q.f3).length + 1 + (digL q.f0).length + 1 + (digL q.f1).length) = _
 rw [hp]
mutual
def dep : SC → Nat
 | ⟨_, _, _, l⟩ => 1 + depL l
def depL : List SC → Nat
 | [] => 0
 | c :: l => max (dep c) (depL l)
end
theorem dep_eq (c : SC) : dep c = 1 + depL c.f3 := by cases c; simp [dep]
theorem depL_mem : ∀ {l : List SC} {c : SC}, c ∈ l → dep c ≤ depL l
 | x :: l, c, h => by
  rw [depL]
  rcases List.mem_cons.1 h with rfl | h
  ·exact Nat.le_max_left _ _
  ·exact Nat.le_trans (depL_mem h) (Nat.le_max_right _ _)
def Reads (s : ByteArray) (c : SC) : Prop := ∀ (i deep k : Nat) (r : List UInt8), Tx s i (bodyL c ++ r) → Nd r → deep + dep c ≤ 1001 → 2 * (cells c).length ≤ k → cellP headR s k i deep = some (.ok (c, i + (bodyL c).length))
theorem loop_reads (s : ByteArray) (z : UInt8) (hz : z = 125 ∨ z = 93) (c : Int) (hc : (z.toNat : Int) = c) (deep : Nat) : ∀ (l out : List SC) (j k : Nat) (r : List UInt8), (∀ x ∈ l, Reads s x ∧ deep + 1 + dep x ≤ 1001) → 1 ≤ out.length → 2 ≤ out.length + l.length → Tx s j (kidsL false l ++ z :: r) → 2 * (cellsL l).length + 1 ≤ k →
  loopP headR s k c deep out j = some (.ok (out ++ l, j + (kidsL false l).length + 1)) := by
 intro l
 induction l with
 | nil =>
  intro out j k r hl ho h2 h hk
  obtain ⟨k, rfl⟩ : ∃ m, k = m + 1 := ⟨k - 1, by omega⟩
  rw [kidsL_nil] at h
  have ha := Tx.ahead (x := z) h
  simp only [List.length_nil] at h2
  rw [loopP, if_neg (by rintro (h3 | h3); · omega
                        · exact h3 (ha.trans hc))]
  simp [kidsL_nil]
 | cons x l ih =>
  intro out j k r hl ho h2 h hk
  obtain ⟨k, rfl⟩ : ∃ m, k = m + 1 := ⟨k - 1, by omega⟩
  rw [kidsL_cons] at h
  simp only [Bool.false_eq_true, if_false, List.append_assoc, List.singleton_append] at h
  have ha := Tx.ahead (x := 44) h
  have he := h.eat (c := 44) (by decide)
  have hn := h.next
  rw [cellsL_cons, List.length_append] at hk
  have hp := cells_pos x
  obtain ⟨hx, hd⟩ := hl x List.mem_cons_self
  have hcell := hx (j + 1) (deep + 1) k (kidsL false l ++ z :: r) hn (nd_kids l z hz r) hd (by omega)
  have hih := ih (out ++ [x]) (j + 1 + (bodyL x).length) k r (fun y hy => hl y (List.mem_cons_of_mem _ hy)) (by rw [List.length_append]; simp only [List.length_singleton]; omega) (by rw [List.length_append]; simp only [List.length_singleton, List.length_cons] at h2 ⊢; omega) hn.app (by omega)
  rw [loopP, if_pos (Or.inr (by rw [ha, ← hc]; rcases hz with rfl | rfl <;> decide)), he]
  simp only
  rw [hcell]
  simp only
  rw [hih, kidsL_cons]
  simp only [Bool.false_eq_true, if_false, List.append_assoc, List.singleton_append, List.length_append, List.length_cons]
  congr 3
  omega
theorem opn_nd (k : Int) (r : List UInt8) : Nd (opn k :: r) := nd_cons _ _ (by rcases opn_cases k with h | h <;> rw [h] <;> decide)
theorem body_reads (s : ByteArray) (c : SC) : CGood c → Reads s c := by
 refine cell_ind (P := fun c => CGood c → Reads s c) (fun c ih hg => ?_) c
 intro i deep k r h hr hd hk
 obtain ⟨hno, hri⟩ := hg.self
 have hcl : (cells c).length = 1 + (cellsL c.f3).length := by rw [cells_eq]; simp; omega
 have hbl := congrArg List.length (bodyL_eq c)
 rw [bodyL_eq, List.append_assoc] at h
 obtain ⟨k, rfl⟩ : ∃ m, k = m + 1 := ⟨k - 1, by omega⟩
 by_cases h1 : c.f0 = 1
 ·obtain ⟨hk0, hid⟩ := node_leaf hno h1
  rw [if_pos h1] at h hbl
  simp only [List.append_assoc, List.singleton_append, List.cons_append] at h
  have er := h.rect hri (nd_cons _ _ (by decide))
  have h2 := h.app
  have ha := h2.ahead
  have he := h2.eat (c := 44) (by decide)
  have en := h2.next.num hid hr
  rw [cellP, er]
  simp only
  rw [if_neg (by rw [ha]; decide), if_neg (by rw [ha]; decide), he]
  simp only
  rw [en]
  simp only
  have ec : c = ⟨1, ⟨c.f1.f0, c.f1.f1, c.f1.f2, c.f1.f3⟩, c.f2, []⟩ := by
   have e := (SC.eta c).symm
   rw [h1, hk0] at e
   exact e
  have hp : i + (headB c.f1).length + 1 + (digL c.f2).length = i + (bodyL c).length := by rw [hbl]; simp only [List.length_append, List.length_singleton]; omega
  exact congrArg some (congrArg Except.ok (Prod.ext ec.symm hp))
 ·obtain ⟨hkk, hid⟩ := node_node hno h1
  have hk2 : 2 ≤ c.f3.length := by
   unfold nodeOk at hno
   rw [if_neg h1, if_pos hkk, decide_eq_true_eq] at hno
   exact hno.1
  rw [if_neg h1] at h hbl
  simp only [List.append_assoc, List.singleton_append, List.cons_append, List.nil_append] at h
  have er := h.rect hri (opn_nd _ _)
  have h2 := h.app
  have ha := h2.ahead
  have hn := h2.next
  obtain ⟨x, l, hxl⟩ : ∃ x l, c.f3 = x :: l := by
   cases hq : c.f3 with
   | nil => rw [hq] at hk2; simp at hk2
   | cons x l => exact ⟨x, l, rfl⟩
  have hxm : x ∈ c.f3 := by rw [hxl]; exact List.mem_cons_self
  have hdd : ∀ y ∈ c.f3, deep + 1 + dep y ≤ 1001 := fun y hy => by
   have := depL_mem hy
   rw [dep_eq] at hd
   omega
  have hz : cls c.f0 = 125 ∨ cls c.f0 = 93 := cls_cases _
  rw [hxl, kidsL_cons] at hn
  simp only [if_true, List.nil_append, List.append_assoc] at hn
  rw [hxl, cellsL_cons, List.length_append] at hcl
  have hp := cells_pos x
  obtain ⟨k, rfl⟩ : ∃ m, k = m + 1 := ⟨k - 1, by omega⟩
  have hcell := ih x hxm (hg.kid hxm) _ (deep + 1) k _ hn (nd_kids l _ hz r) (hdd x hxm) (by omega)
  have hlp : ∀ cc : Int, ((cls c.f0).toNat : Int) = cc → kidsP headR s (k + 1) cc deep (i + (headB c.f1).length) = some (.ok (c.f3, i + (bodyL c).length)) := by
   intro cc hcc
   have hlo := loop_reads s (cls c.f0) hz cc hcc deep l [x] _ k r (fun y hy => ⟨ih y (by rw [hxl]; exact List.mem_cons_of_mem _ hy) (hg.kid (by rw [hxl]; exact List.mem_cons_of_mem _ hy)), hdd y (by rw [hxl]; exact List.mem_cons_of_mem _ hy)⟩) (by simp) (by rw [hxl] at hk2; simpa [Nat.add_comm] using hk2) hn.app (by omega)
   have hdp : ¬ 1000 ≤ deep := by have := hdd x hxm; have := dep_eq x; omega
   have hp : i + (headB c.f1).length + 1 + (bodyL x).length + (kidsL false l).length + 1 = i + (bodyL c).length := by
    rw [hbl, hxl, kidsL_cons]
    simp only [if_true, List.nil_append, List.length_append, List.length_singleton]
    omega
   rw [kidsP, if_neg hdp, hcell]
   simp only
   rw [hlo]
   exact congrArg some (congrArg Except.ok (Prod.ext hxl.symm hp))
  rw [cellP, er]
  simp only
  rcases hkk with h3 | h3
  ·rw [if_pos (by rw [ha]; unfold opn; rw [if_pos h3]; decide), hlp 125 (by unfold cls; rw [if_pos h3]; decide)]
   simp only
   have ec : c = ⟨2, ⟨c.f1.f0, c.f1.f1, c.f1.f2, c.f1.f3⟩, 0, c.f3⟩ := by
    have e := (SC.eta c).symm
    rw [h3, hid] at e
    exact e
   exact congrArg (fun q => some (Except.ok (q, i + (bodyL c).length))) ec.symm
  ·have h4 : ¬ c.f0 = 2 := by omega
   rw [if_neg (by rw [ha]; unfold opn; rw [if_neg h4]; decide), if_pos (by rw [ha]; unfold opn; rw [if_neg h4]; decide), hlp 93 (by unfold cls; rw [if_neg h4]; decide)]
   simp only
   have ec : c = ⟨3, ⟨c.f1.f0, c.f1.f1, c.f1.f2, c.f1.f3⟩, 0, c.f3⟩ := by
    have e := (SC.eta c).symm
    rw [h3, hid] at e
    exact e
   exact congrArg (fun q => some (Except.ok (q, i + (bodyL c).length))) ec.symm
theorem body_ge (c : SC) : CGood c → (cells c).length ≤ (bodyL c).length := by
 refine cell_ind (P := fun c => CGood c → (cells c).length ≤ (bodyL c).length) (fun c ih hg => ?_) c
 have hk : ∀ (l : List SC) (f : Bool), (∀ k ∈ l, (cells k).length ≤ (bodyL k).length) → (cellsL l).length ≤ (kidsL f l).length := by
  intro l
  induction l with
  | nil => intro f _; simp [cellsL_nil]
  | cons k l ihl =>
   intro f h
   have h1 := h k List.mem_cons_self
   have h2 := ihl false (fun x hx => h x (List.mem_cons_of_mem _ hx))
   rw [kidsL_cons, cellsL_cons]
   simp only [List.length_append]
   omega
 have h1 := hk c.f3 true (fun k hk => ih k hk (hg.kid hk))
 have h2 : 3 ≤ (headB c.f1).length := by unfold headB; simp only [List.length_append, List.length_singleton]; omega
 rw [bodyL_eq, cells_eq]
 by_cases h : c.f0 = 1
 ·obtain ⟨e, _⟩ := node_leaf hg.self.1 h
  rw [if_pos h, e, cellsL_nil]
  simp only [List.length_append, List.length_cons, List.length_nil]
  omega
 ·rw [if_neg h]
  simp only [List.length_append, List.length_cons, List.length_singleton]
  omega
theorem body_back (c : SC) (hg : CGood c) (hd : dep c ≤ 1000) : cellR (⟨(bodyL c).toArray⟩ : ByteArray) = .ok (c, (bodyL c).length) := by
 have hs : (⟨(bodyL c).toArray⟩ : ByteArray).size = (bodyL c).length := by simp [ByteArray.size]
 have h := body_reads (⟨(bodyL c).toArray⟩ : ByteArray) c hg 0 1 (2 * (⟨(bodyL c).toArray⟩ : ByteArray).size + 3) [] (by unfold Tx; simp) nd_nil (by omega) (by have := body_ge c hg; omega)
 rw [cellR_eq] at h
 rw [Option.some.inj h, Nat.zero_add]
theorem whole_back (c : SC) (hg : CGood c) (hd : dep c ≤ 1000) (hm : mayB c = true) (ht : tilesB c = true) (off : Int) : wholeA (⟨(bodyL c).toArray⟩ : ByteArray) off = .ok c := by
 have hs : (⟨(bodyL c).toArray⟩ : ByteArray).size = (bodyL c).length := by simp [ByteArray.size]
 unfold wholeA wholeP
 rw [body_back c hg hd]
 simp only
 rw [if_neg (by omega), if_neg (by rw [hm]; decide), if_neg (by rw [ht]; decide)]
theorem dep_le (c : SC) : dep c ≤ (cells c).length := by
 refine cell_ind (P := fun c => dep c ≤ (cells c).length) (fun c ih => ?_) c
 have hk : ∀ (l : List SC), (∀ k ∈ l, dep k ≤ (cells k).length) → depL l ≤ (cellsL l).length := by
  intro l
  induction l with
  | nil => intro _; simp [depL]
  | cons k l ihl =>
   intro h
   have h1 := h k List.mem_cons_self
   have h2 := ihl (fun x hx => h x (List.mem_cons_of_mem _ hx))
   rw [depL, cellsL_cons, List.length_append]
   exact Nat.max_le.2 ⟨by omega, by omega⟩
 have h1 := hk c.f3 ih
 rw [dep_eq, cells_eq, List.length_cons]
 omega
set_option maxRecDepth 100000
theorem leafIds_len (l : List SC) : (leafIds l).length ≤ l.length := by unfold leafIds; rw [List.length_map]; exact List.length_filter_le _ _
theorem leafIds_app (a b : List SC) : leafIds (a ++ b) = leafIds a ++ leafIds b := by simp [leafIds]
theorem leafIds_cons (c : SC) (l : List SC) : leafIds (c :: l) = if c.f0 = 1 then c.f2 :: leafIds l else leafIds l := by
 unfold leafIds
 by_cases h : c.f0 = 1 <;> simp [h]
theorem LvL (l : List SC) (hP : ∀ c ∈ l, ∀ k, 2 * (cellsL c.f3).length + 2 < k → cell_Leaves.f k c.f3 = some (leafIds (cellsL c.f3))) : ∀ (d k i : Nat) (acc : List Int), l.length - i = d → i ≤ l.length → 2 * (cellsL (l.drop i)).length + 1 < k → acc.length + (cellsL (l.drop i)).length ≤ 1000000 →
  l.length ≤ 100000 → cell_Leaves.l0 k acc l (l.length : Int) (i : Int) = some (acc ++ leafIds (cellsL (l.drop i))) := by
 intro d
 induction d with
 | zero =>
  intro k i acc hd hi hk ha hl
  obtain ⟨k, rfl⟩ : ∃ m, k = m + 1 := ⟨k - 1, by omega⟩
  simp only [cell_Leaves.l0]
  rw [if_neg (by omega), List.drop_eq_nil_of_le (by omega), cellsL_nil]
  simp [leafIds]
 | succ d ih =>
  intro k i acc hd hi hk ha hl
  obtain ⟨k, rfl⟩ : ∃ m, k = m + 1 := ⟨k - 1, by omega⟩
  have hlt : i < l.length := by omega
  have h1 := cellsL_drop l i hlt
  have hcl : (cells (l.getD i z27)).length = 1 + (cellsL (l.getD i z27).f3).length := by rw [cells_eq]; simp; omega
  have hk1 := hP _ (getT_mem l i hlt) k (by omega)
  have hdr : cellsL (l.drop i) = l.getD i z27 :: (cellsL (l.getD i z27).f3 ++ cellsL (l.drop (i + 1))) := by rw [dropT l i hlt, cellsL_cons, cells_eq]; rfl
  rw [hdr, leafIds_cons, leafIds_app]
  have hle := leafIds_len (cellsL (l.getD i z27).f3)
  simp only [cell_Leaves.l0]
  rw [if_pos (by omega), if_pos (by omega), if_pos (by omega), rd_T_getD, wi i (by omega)]
  generalize l.getD i z27 = x at *
  by_cases h : x.f0 = 1
  ·rw [if_pos h, if_pos h, if_pos (by omega), Option.bind_some, hk1, Option.bind_some, if_pos (by rw [List.length_append]; simp only [List.length_cons, List.length_nil]; omega), ih k (i + 1) _ (by omega) (by omega) (by omega) (by rw [List.length_append, List.length_append]; simp only [List.length_cons, List.length_nil]; omega) hl]
   simp
  ·rw [if_neg h, if_neg h, hk1, Option.bind_some, if_pos (by omega), ih k (i + 1) _ (by omega) (by omega) (by omega) (by rw [List.length_append]; omega) hl]
   simp
theorem LvF (l : List SC) (hP : ∀ c ∈ l, ∀ k, 2 * (cellsL c.f3).length + 2 < k → cell_Leaves.f k c.f3 = some (leafIds (cellsL c.f3))) (hs : (cellsL l).length ≤ 100000) (k : Nat) (hk : 2 * (cellsL l).length + 2 < k) : cell_Leaves.f k l = some (leafIds (cellsL l)) := by
 obtain ⟨k, rfl⟩ : ∃ m, k = m + 1 := ⟨k - 1, by omega⟩
 have hge := cellsL_ge l
 simp only [cell_Leaves.f]
 have := LvL l hP l.length k 0 [] (by omega) (by omega) (by rw [List.drop_zero]; omega) (by rw [List.drop_zero]; simp only [List.length_nil]; omega) (by omega)
 simpa using this
theorem Lv_f (c : SC) : (cells c).length ≤ 100000 → ∀ k, 2 * (cellsL c.f3).length + 2 < k → cell_Leaves.f k c.f3 = some (leafIds (cellsL c.f3)) := by
 refine cell_ind (P := fun c => (cells c).length ≤ 100000 → ∀ k, 2 * (cellsL c.f3).length + 2 < k → cell_Leaves.f k c.f3 = some (leafIds (cellsL c.f3))) (fun c ih hs k hk => ?_) c
 have hcl : (cells c).length = 1 + (cellsL c.f3).length := by rw [cells_eq]; simp; omega
 exact LvF c.f3 (fun x hx => ih x hx (by have := kid_le _ c.f3 hx; omega)) (by omega) k hk
theorem leaves_one (x : SC) (hs : (cells x).length ≤ 100000) (W : World) (A : Option Addr) (c : Nat) (hC : (k27).C W A 1 [x]) (hc : 1 ≤ c) :
  Calls Tryz.prog 34 #[.slice A 1 c] W fun e w' => ∃ v, e = .returned v ∧ Kd.R (Kd.int .i64) 3 w' W.heap.size (fun _ => True) v (leafIds (cells x)) ∧ Below W.heap.size W w' := by
 have hcl : cellsL [x] = cells x := by rw [cellsL_cons, cellsL_nil, List.append_nil]
 have h := LvF [x] (fun y hy => by obtain rfl : y = x := by simpa using hy
                                   exact Lv_f y hs) (by rw [hcl]; exact hs) (2 * (cells x).length + 3) (by rw [hcl]; omega)
 rw [hcl] at h
 exact cell_Leaves.calls _ A c [x] _ W hC hc h
theorem IDs_f (c : SC) (hl : (cells c).length ≤ 100000) (k : Nat) (hk : 2 * (cells c).length < k) : sashref05_IDs.f k c.f0 c.f1.f0 c.f1.f1 c.f1.f2 c.f1.f3 c.f2 c.f3 = some (leafIds (cells c)) := by
 have hlv : (leavesOf c).length ≤ (cells c).length := List.length_filter_le _ _
 have loop : ∀ (d k i : Nat), (leavesOf c).length - i = d → i ≤ (leavesOf c).length → d < k → sashref05_IDs.l0 k (((leavesOf c).map (·.f2)).take i) (leavesOf c) ((leavesOf c).length : Int) (i : Int) = some ((leavesOf c).map (·.f2)) := by
  intro d
  induction d with
  | zero =>
   intro k i hd hi hk
   obtain ⟨k, rfl⟩ : ∃ m, k = m + 1 := ⟨k - 1, by omega⟩
   simp only [sashref05_IDs.l0]
   rw [if_neg (by omega), List.take_of_length_le (by rw [List.length_map]; omega)]
  | succ d ih =>
   intro k i hd hi hk
   obtain ⟨k, rfl⟩ : ∃ m, k = m + 1 := ⟨k - 1, by omega⟩
   have hlt : i < (leavesOf c).length := by omega
   have := ih k (i + 1) (by omega) (by omega) (by omega)
   rw [ids_take (leavesOf c) i hlt] at this
   simp only [sashref05_IDs.l0]
   rw [if_pos (by omega), if_pos (by omega), if_pos (by omega), if_pos (by rw [List.length_take, List.length_map]; omega), rd_T_getD, wi i (by omega)]
   exact this
 unfold sashref05_IDs.f
 rw [Leaves_f c hl k hk, Option.bind_some]
 have e : leafIds (cells c) = (leavesOf c).map (·.f2) := rfl
 have := loop (leavesOf c).length k 0 (by omega) (by omega) (by omega)
 rw [e]
 simpa using this
theorem ids_calls (x : SC) (hs : (cells x).length ≤ 100000) (W : World) (A : Option Addr) (c : Nat) (hC : (k27).C W A x.f3.length x.f3) (hc : x.f3.length ≤ c) :
  Calls Tryz.prog 19 #[.agg #[.int .u8 x.f0, .int .i64 x.f1.f0, .int .i64 x.f1.f1, .int .i64 x.f1.f2, .int .i64 x.f1.f3, .int .i64 x.f2, .slice A x.f3.length c]] W fun e w' => ∃ A' c', e = .returned (.slice A' (leafIds (cells x)).length c') ∧ Below W.heap.size W w' := by
 refine (sashref05_IDs.calls _ _ _ _ _ _ _ A c x.f3 _ W hC hc (IDs_f x hs (2 * (cells x).length + 1) (by omega))).mono ?_
 rintro e w' ⟨v, rfl, hR, hb⟩
 obtain ⟨A', c', rfl⟩ := Kd.R_slice hR
 exact ⟨A', c', rfl, hb⟩
theorem code_uni (W : World) (ev : Value) (R : Except (Int × Int) SC) (h : ErrIs W ev (errR R)) (hg : As.ErrT W) : Calls Tryz.prog 24 #[ev] W fun e w' => e = .returned (.int .i64 (noR R)) ∧ Below W.heap.size W w' := by
 cases R with
 | error q => obtain ⟨t, p, rfl, hev⟩ := h; exact As.code_calls _ _ _ W hev hg
 | ok x => obtain rfl : ev = .nilIface := h; exact As.code_nil W
set_option maxHeartbeats 4000000 in
theorem panes_calls (w : World) (s : ByteArray) (hs : s.size ≤ 1000000) (hT : NumT w) (hE : NumE w) (hg : As.ErrT w) :
  Calls Tryz.prog 17 #[.string s] w fun e w' => e = .returned (.tuple #[.int .i64 ((leafIds (cells (treeR (textA s)))).length : Int), .int .i64 (noR (textA s))]) ∧ Below w.heap.size w w' := by
 have HB1 := text_uni w s hs hT hE
 unfold UniPost at HB1
 have hsm := textA_small (s := s)
 have HC : ∀ W ev, Below w.heap.size w W → ErrIs W ev (errR (textA s)) → Calls Tryz.prog 24 #[ev] W fun e w' => e = .returned (.int .i64 (noR (textA s))) ∧ Below W.heap.size W w' := fun W ev hb h => code_uni W ev _ h (hg.below hb)
 generalize noR (textA s) = no at *
 generalize errR (textA s) = o1 at *
 have HL : ∀ W A c, (k27).C W A 1 [treeR (textA s)] → 1 ≤ c → Calls Tryz.prog 34 #[.slice A 1 c] W fun e w' => ∃ A' c', e = .returned (.slice A' (leafIds (cells (treeR (textA s)))).length c') ∧ Below W.heap.size W w' := fun W A c h1 h2 => by
  refine (leaves_one _ hsm W A c h1 h2).mono ?_
  rintro e w' ⟨v, rfl, hR, hb⟩
  obtain ⟨A', c', rfl⟩ := Kd.R_slice hR
  exact ⟨A', c', rfl, hb⟩
 generalize (leafIds (cells (treeR (textA s)))).length = n at *
 generalize treeR (textA s) = x at *
 replace HB1 := ak HB1
 replace HC := ak HC
 replace HL := ak HL
 clear hT hE hg hsm hs
 go_enter Tryz.func17, Tryz.ntmps17
 go_wp2_with fail
 refine HB1.out.mono ?_
 rintro e w1 ⟨A1, c1, ev1, rfl, hr1, he1, hb1⟩
 obtain ⟨W2, hW2⟩ : ∃ W2, W2 = w1.alloc (.cells #[.int .u8 x.f0, .int .i64 x.f1.f0, .int .i64 x.f1.f1, .int .i64 x.f1.f2, .int .i64 x.f1.f3, .int .i64 x.f2, .slice A1 x.f3.length c1] 27) := ⟨_, rfl⟩
 have HBB2 : Aside0 (Below w.heap.size w W2) := ⟨by rw [hW2]; exact Below.alloc hb1 hb1.size _⟩
 have HX2 : Aside0 (TreeAt W2 w1.heap.size x A1 c1) := ⟨by rw [hW2]; exact tree_new hr1⟩
 have HE2 : Aside0 (ErrIs W2 ev1 o1) := ⟨he1.below (by rw [hW2]; exact below_alloc (Below.refl _ _) _)⟩
 have HK2 : Aside0 (Kd.R k27 27 W2 w.heap.size (fun _ => True) (.slice A1 x.f3.length c1) x.f3) := ⟨Kd.R_below hr1 (by rw [hW2]; exact below_alloc (Below.refl _ _) _)⟩
 have HW2 := ak hW2
 clear hr1 he1 hb1 hW2
 obtain ⟨y0, y1, y2, y3, y4, y5, y6⟩ := tree_cells HX2.out
 go_upto_region 2 with (fail)
 rw [← HW2.out]
 go_wp2_with fail
 obtain ⟨W3, hW3⟩ : ∃ W3, W3 = W2.alloc (.cells #[.int .u8 x.f0, .int .i64 x.f1.f0, .int .i64 x.f1.f1, .int .i64 x.f1.f2, .int .i64 x.f1.f3, .int .i64 x.f2, .slice A1 x.f3.length c1] 27) := ⟨_, rfl⟩
 have HC3 : Aside0 ((k27).C W3 (some ⟨W2.heap.size, 0, none⟩) 1 [x]) := ⟨by rw [hW3]; exact (Kd.R_reads' (R_one (Nat.zero_le _) x (Kd.R_lower HK2.out (Nat.zero_le _)))).2.2⟩
 have hb23 : Below W2.heap.size W2 W3 := by rw [hW3]; exact below_alloc (Below.refl _ _) _
 have HB3 : Aside0 (Below w.heap.size w W3) := ⟨HBB2.out.trans (hb23.mono HBB2.out.size)⟩
 have HE3 : Aside0 (ErrIs W3 ev1 o1) := ⟨HE2.out.below hb23⟩
 have HW3 := ak hW3
 clear hW3 hb23 y0 y1 y2 y3 y4 y5 y6
 rw [← HW3.out]
 refine (HL.out W3 _ 1 HC3.out (Nat.le_refl _)).mono ?_
 rintro e w4 ⟨A4, c4, rfl, hb4⟩
 have HB4 : Aside0 (Below w.heap.size w w4) := ⟨HB3.out.trans (hb4.mono HB3.out.size)⟩
 have HE4 : Aside0 (ErrIs w4 ev1 o1) := ⟨HE3.out.below hb4⟩
 clear hb4
 go_wp2_with fail
 refine (HC.out w4 ev1 HB4.out HE4.out).mono ?_
 rintro e w5 ⟨rfl, hb5⟩
 have HB5 : Aside0 (Below w.heap.size w w5) := ⟨HB4.out.trans (hb5.mono HB4.out.size)⟩
 clear hb5
 go_wp2
 go_ret2
 exact ⟨rfl, HB5.out⟩
end Go.Proofs.YtkobpbbegalfpaaGreatDoor
namespace Go.Proofs.YtkobpbbegalfpaaGreatDoor.PParseBodies
open Go.RowKit YtkobpbbegalfpaaGreatDoorW.PrintWords YtkobpbbegalfpaaGreatDoorW.PrintLast YtkobpbbegalfpaaGreatDoorW.PrintMore
attribute [local go_sem] max2_int min2_int max_two min_two max_three min_three max_four min_four
set_option linter.unusedVariables false
set_option linter.unusedSimpArgs false
mutual
def sashref05_count.l0 : Nat → Int → Int → Int → Int → Int → Int → Int → Int → Int → Int → List (S27) → Option (Int)
 | 0, _, _, _, _, _, _, _, _, _, _, _ => none
 | k + 1, x1, x5, x9, x10, x228000, x228001, x228002, x228003, x228004, x228005, x228006 => if x10 < x9 then (if x5 > x1 then (some x5) else (if 0 ≤ x10 then (if x10 < (x228006.length : Int) then ((sashref05_count.f k ((rd_T27 x228006 x10).f0) ((rd_T27 x228006 x10).f1.f0) ((rd_T27 x228006 x10).f1.f1) ((rd_T27 x228006 x10).f1.f2) ((rd_T27 x228006 x10).f1.f3) ((rd_T27 x228006 x10).f2) ((rd_T27 x228006 x10).f3) x1).bind fun t229 => (sashref05_count.l0 k x1 (wrap64 (x5 + t229)) x9 (wrap64 (x10 + 1)) x228000 x228001 x228002 x228003 x228004 x228005 x228006)) else (none)) else (none))) else (some x5)
def sashref05_count.f : Nat → Int → Int → Int → Int → Int → Int → List (S27) → Int → Option (Int)
 | 0, _, _, _, _, _, _, _, _ => none
 | k + 1, a0_0, a0_1, a0_2, a0_3, a0_4, a0_5, l0_6, a1 => sashref05_count.l0 k a1 1 (l0_6.length : Int) 0 a0_0 a0_1 a0_2 a0_3 a0_4 a0_5 l0_6
end
set_option maxHeartbeats 8000000 in
set_option maxRecDepth 100000 in
theorem sashref05_count.calls (k : Nat) : ∀ (a0_0 : Int) (a0_1 : Int) (a0_2 : Int) (a0_3 : Int) (a0_4 : Int) (a0_5 : Int) (A0_6 : Option Addr) (c0_6 : Nat) (l0_6 : List (S27)) (a1 : Int) (r : Int) (w : World) (hr0_6 : Kd.C k27 w A0_6 l0_6.length l0_6) (hc0_6 : l0_6.length ≤ c0_6) (h : sashref05_count.f k a0_0 a0_1 a0_2 a0_3 a0_4 a0_5 l0_6 a1 = some r),
  Calls Tryz.prog 42 #[.agg #[.int .u8 a0_0, .int .i64 a0_1, .int .i64 a0_2, .int .i64 a0_3, .int .i64 a0_4, .int .i64 a0_5, .slice A0_6 l0_6.length c0_6], .int .i64 a1] w fun e w' => e = .returned (.int .i64 r) ∧ Below w.heap.size w w' := by
 induction k using Nat.strongRecOn with
 | _ k ih =>
 intro a0_0 a0_1 a0_2 a0_3 a0_4 a0_5 A0_6 c0_6 l0_6 a1 r w hr0_6 hc0_6 h
 cases k with
 | zero => exact absurd h (by simp [sashref05_count.f])
 | succ k =>
 simp only [sashref05_count.f] at h
 have hu27 := Tryz.underlying27
 have HR0_6 := ak hr0_6
 have HC0_6 := ak hc0_6
 clear hr0_6 hc0_6
 have HB := ak (Below.refl w.heap.size w)
 have H : (sashref05_count.l0 k a1 1 (l0_6.length : Int) 0 a0_0 a0_1 a0_2 a0_3 a0_4 a0_5 l0_6) = some r := h
 clear h
 have H' := ak H
 clear H
 go_enter Tryz.func42, Tryz.ntmps42
 go_wp2_with (first | ((with_reducible refine gate_dst (N := 2) rfl ?_); refine bxe 2 #[.int .u8 a0_0, .int .i64 a0_1, .int .i64 a0_2, .int .i64 a0_3, .int .i64 a0_4, .int .i64 a0_5, .slice A0_6 l0_6.length c0_6] 27 (h := ?_); intro gb227 hg w3 hbox hb; have BK227 := ak (hbox); have GW227 := ak ((mq53 : w.heap.size ≤ gb227)); have GE227 := ak ((mq53 : w.heap.size ≤ gb227)); replace HB := ak (below_step kW hb); clear hb hbox hg; obtain ⟨hcz4_0, hcz4_1, hcz4_2, hcz4_3, hcz4_4, hcz4_5, hcz4_6⟩ := cz7 BK227; obtain ⟨hfz4_0, hfz4_1, hfz4_2, hfz4_3, hfz4_4, hfz4_5, hfz4_6⟩ := fz7 BK227))
 go_loopg [5, 10] k (fun kq v5 v10 w' => ∃ (x5_1 : Int) (x10_1 : Int), v5 = .int .i64 x5_1 ∧ v10 = .int .i64 x10_1 ∧ Aside0 (sashref05_count.l0 kq a1 x5_1 (l0_6.length : Int) x10_1 a0_0 a0_1 a0_2 a0_3 a0_4 a0_5 l0_6 = some r) ∧ Aside0 (kq ≤ k) ∧ Aside0 (w'.heap[gb227]? = some (.cells #[.int .u8 a0_0, .int .i64 a0_1, .int .i64 a0_2, .int .i64 a0_3, .int .i64 a0_4, .int .i64 a0_5, (.slice A0_6 l0_6.length c0_6)] 27 (0, 0))) ∧ Aside0 (Below w.heap.size w w'))
 case atStart => exact ⟨(1), (0), mq39, mq39, H', ⟨Nat.le_refl _⟩, ⟨mq28 BK227⟩, ⟨kW⟩⟩
 case round =>
  clear H'
  clear hcz4_0 hcz4_1 hcz4_2 hcz4_3 hcz4_4 hcz4_5 hcz4_6 hfz4_0 hfz4_1 hfz4_2 hfz4_3 hfz4_4 hfz4_5 hfz4_6
  obtain ⟨x5_1, x10_1, rfl, rfl, HA, HK1, BK227, HB⟩ := hrel
  cases gk with
  | zero => exact absurd HA.out (by simp [sashref05_count.l0])
  | succ k1 =>
   have H := HA.out
   clear HA
   simp only [sashref05_count.l0] at H
   by_cases c5 : x10_1 < (l0_6.length : Int)
   ·rw [if_pos c5] at H
    have c5b0 : decide (x10_1 < (l0_6.length : Int)) = true := decide_eq_true c5
    clear c5
    by_cases c6 : x5_1 > a1
    ·rw [if_pos c6] at H
     have c6b0 : decide (a1 < x5_1) = true := decide_eq_true c6
     clear c6
     obtain rfl := Option.some.inj H
     go_wp2
     go_ret
     exact ⟨mq37, kW⟩
    ·rw [if_neg c6] at H
     have c6b0 : decide (a1 < x5_1) = false := decide_eq_false c6
     clear c6
     by_cases c7 : 0 ≤ x10_1
     ·rw [if_pos c7] at H
      have c7b0 : decide (0 ≤ x10_1) = true := decide_eq_true c7
      clear c7
      by_cases c8 : x10_1 < (l0_6.length : Int)
      ·rw [if_pos c8] at H
       have c8b0 : decide (x10_1 < (l0_6.length : Int)) = true := decide_eq_true c8
       clear c8
       replace H := Option.bind_eq_some_iff.mp H
       obtain ⟨t229, A90, H⟩ := H
       replace H : (sashref05_count.l0 k1 a1 (wrap64 (x5_1 + t229)) (l0_6.length : Int) (wrap64 (x10_1 + 1)) a0_0 a0_1 a0_2 a0_3 a0_4 a0_5 l0_6) = some r := H
       have A9 := ak A90
       clear A90
       have H' := ak H
       clear H
       obtain ⟨hcz10_0, hcz10_1, hcz10_2, hcz10_3, hcz10_4, hcz10_5, hcz10_6⟩ := cz7 BK227
       obtain ⟨hfz10_0, hfz10_1, hfz10_2, hfz10_3, hfz10_4, hfz10_5, hfz10_6⟩ := fz7 BK227
       have p228 : 0 ≤ (x10_1 : Int) := of_decide_eq_true mq34
       have q228 : x10_1 < (l0_6.length : Int) := of_decide_eq_true mq34
       obtain ⟨ad228, A228_6, c228_6, e228, hx228_0, hx228_1, hx228_2, hx228_3, hx228_4, hx228_5, hx228_6, HC228_6, HR228_6⟩ := elC27 HB HR0_6 x10_1 p228 q228
       cases e228
       replace p228 := eq_true p228
       replace q228 := eq_true q228
       go_wp2_with (first | ((with_reducible refine gate_callee (f := 42) rfl ?_); refine gol (some 24) Tryz.func42 #[.agg #[.int .u8 ((rd_T27 l0_6 x10_1).f0), .int .i64 ((rd_T27 l0_6 x10_1).f1.f0), .int .i64 ((rd_T27 l0_6 x10_1).f1.f1), .int .i64 ((rd_T27 l0_6 x10_1).f1.f2), .int .i64 ((rd_T27 l0_6 x10_1).f1.f3), .int .i64 ((rd_T27 l0_6 x10_1).f2), .slice A228_6 ((rd_T27 l0_6 x10_1).f3).length c228_6], .int .i64 a1] (h := ?_); (with_reducible refine (ih k1 (mq47 HK1) ((rd_T27 l0_6 x10_1).f0) ((rd_T27 l0_6 x10_1).f1.f0) ((rd_T27 l0_6 x10_1).f1.f1) ((rd_T27 l0_6 x10_1).f1.f2) ((rd_T27 l0_6 x10_1).f1.f3) ((rd_T27 l0_6 x10_1).f2) _ _ ((rd_T27 l0_6 x10_1).f3) a1 t229 _ ?side1 ?side2 A9.out).mono ?_); (case side1 => repeat (first | exact (Kd.C_below HR228_6.out HB.out) | (with_reducible refine Kd.C_alloc ?_ _) | (with_reducible refine Kd.C_drewN ?_ _) | (with_reducible refine Kd.C_drew ?_))); (case side2 => exact HC228_6.out); rintro e w11 ⟨rfl, hb⟩; refine ⟨_, rfl, ?_⟩; replace BK227 := (kB BK227 hb); replace HB := ak (below_step kW hb); (try clear hb); (try clear hb2); (try clear hk); (try clear hi)))
       go_roundg k1
       case measure => have := HK1.out; omega
       case rel => exact ⟨(wrap64 (x5_1 + t229)), (wrap64 (x10_1 + 1)), mq39, mq39, H', ⟨mq47 HK1⟩, ⟨mq28 BK227⟩, ⟨kW⟩⟩
      ·rw [if_neg c8] at H
       exact absurd H (by simp)
     ·rw [if_neg c7] at H
      exact absurd H (by simp)
   ·rw [if_neg c5] at H
    have c5b0 : decide (x10_1 < (l0_6.length : Int)) = false := decide_eq_false c5
    clear c5
    obtain rfl := Option.some.inj H
    go_wp2
    go_ret
    exact ⟨mq37, kW⟩
def sashref05_Great.f (k : Nat) (a0_0 : Int) (a0_1 : Int) (a0_2 : Int) (a0_3 : Int) (a0_4 : Int) (a0_5 : Int) (l0_6 : List (S27)) : Option (Bool) := (sashref05_count.f k a0_0 a0_1 a0_2 a0_3 a0_4 a0_5 l0_6 200).bind fun t231 => (some (decide (t231 > 200)))
set_option maxHeartbeats 8000000 in
set_option maxRecDepth 100000 in
theorem sashref05_Great.calls (k : Nat) (a0_0 : Int) (a0_1 : Int) (a0_2 : Int) (a0_3 : Int) (a0_4 : Int) (a0_5 : Int) (A0_6 : Option Addr) (c0_6 : Nat) (l0_6 : List (S27)) (r : Bool) (w : World) (hr0_6 : Kd.C k27 w A0_6 l0_6.length l0_6) (hc0_6 : l0_6.length ≤ c0_6) (h : sashref05_Great.f k a0_0 a0_1 a0_2 a0_3 a0_4 a0_5 l0_6 = some r) :
  Calls Tryz.prog 22 #[.agg #[.int .u8 a0_0, .int .i64 a0_1, .int .i64 a0_2, .int .i64 a0_3, .int .i64 a0_4, .int .i64 a0_5, .slice A0_6 l0_6.length c0_6]] w fun e w' => e = .returned (.bool r) ∧ Below w.heap.size w w' := by
 have hu27 := Tryz.underlying27
 have HR0_6 := ak hr0_6
 have HC0_6 := ak hc0_6
 clear hr0_6 hc0_6
 have HB := ak (Below.refl w.heap.size w)
 have H : ((sashref05_count.f k a0_0 a0_1 a0_2 a0_3 a0_4 a0_5 l0_6 200).bind fun t231 => (some (decide (t231 > 200)))) = some r := h
 clear h
 replace H := Option.bind_eq_some_iff.mp H
 obtain ⟨t231, A20, H⟩ := H
 replace H : (some (decide (t231 > 200))) = some r := H
 have A2 := ak A20
 clear A20
 obtain rfl := Option.some.inj H
 go_enter Tryz.func22, Tryz.ntmps22
 go_wp2_with (first | ((with_reducible refine gate_dst (N := 1) rfl ?_); refine bxe 1 #[.int .u8 a0_0, .int .i64 a0_1, .int .i64 a0_2, .int .i64 a0_3, .int .i64 a0_4, .int .i64 a0_5, .slice A0_6 l0_6.length c0_6] 27 (h := ?_); intro gb230 hg w3 hbox hb; have BK230 := ak (hbox); have GW230 := ak ((mq53 : w.heap.size ≤ gb230)); have GE230 := ak ((mq53 : w.heap.size ≤ gb230)); replace HB := ak (below_step kW hb); clear hb hbox hg; obtain ⟨hcz4_0, hcz4_1, hcz4_2, hcz4_3, hcz4_4, hcz4_5, hcz4_6⟩ := cz7 BK230; obtain ⟨hfz4_0, hfz4_1, hfz4_2, hfz4_3, hfz4_4, hfz4_5, hfz4_6⟩ := fz7 BK230) | ((with_reducible refine gate_callee (f := 42) rfl ?_); refine gol (some 4) Tryz.func42 #[.agg #[.int .u8 a0_0, .int .i64 a0_1, .int .i64 a0_2, .int .i64 a0_3, .int .i64 a0_4, .int .i64 a0_5, .slice A0_6 l0_6.length c0_6], .int .i64 200] (h := ?_); (with_reducible refine (sashref05_count.calls k a0_0 a0_1 a0_2 a0_3 a0_4 a0_5 _ _ l0_6 200 t231 _ ?side1 ?side2 A2.out).mono ?_); (case side1 => repeat (first | exact (Kd.C_below HR0_6.out HB.out) | (with_reducible refine Kd.C_alloc ?_ _) | (with_reducible refine Kd.C_drewN ?_ _) | (with_reducible refine Kd.C_drew ?_))); (case side2 => exact HC0_6.out); rintro e w5 ⟨rfl, hb⟩; refine ⟨_, rfl, ?_⟩; replace BK230 := (kB BK230 hb); replace HB := ak (below_step kW hb); (try clear hb); (try clear hb2); (try clear hk); (try clear hi)))
 go_ret
 exact ⟨mq37, kW⟩
end Go.Proofs.YtkobpbbegalfpaaGreatDoor.PParseBodies
namespace Go.Proofs.YtkobpbbegalfpaaGreatDoor
open Go.RowKit YtkobpbbegalfpaaGreatDoorW.PrintWords YtkobpbbegalfpaaGreatDoorW.PrintLast YtkobpbbegalfpaaGreatDoorW.PrintMore PParseBodies
set_option linter.unusedVariables false
set_option linter.unusedSimpArgs false
theorem count_f (c : SC) : (cells c).length ≤ 2000000 → ∀ (k : Nat), 2 * (cells c).length < k → ∃ n : Int, sashref05_count.f k c.f0 c.f1.f0 c.f1.f1 c.f1.f2 c.f1.f3 c.f2 c.f3 200 = some n ∧ 1 ≤ n ∧ n ≤ (cells c).length ∧ (n ≤ 200 → n = (cells c).length) := by
 refine cell_ind (P := fun c => (cells c).length ≤ 2000000 → ∀ (k : Nat), 2 * (cells c).length < k → ∃ n : Int, sashref05_count.f k c.f0 c.f1.f0 c.f1.f1 c.f1.f2 c.f1.f3 c.f2 c.f3 200 = some n ∧ 1 ≤ n ∧ n ≤ (cells c).length ∧ (n ≤ 200 → n = (cells c).length)) (fun c ih hs k hk => ?_) c
 have hcl : (cells c).length = 1 + (cellsL c.f3).length := by rw [cells_eq]; simp; omega
 have hge := cellsL_ge c.f3
 obtain ⟨k, rfl⟩ : ∃ m, k = m + 1 := ⟨k - 1, by omega⟩
 have loop : ∀ (d k i : Nat) (a : Int), c.f3.length - i = d → i ≤ c.f3.length → 2 * (cellsL (c.f3.drop i)).length + 1 < k → 1 ≤ a → a ≤ 1 + (cellsL (c.f3.take i)).length → (a ≤ 200 → a = 1 + (cellsL (c.f3.take i)).length) →
   ∃ n : Int, sashref05_count.l0 k 200 a (c.f3.length : Int) (i : Int) c.f0 c.f1.f0 c.f1.f1 c.f1.f2 c.f1.f3 c.f2 c.f3 = some n ∧ 1 ≤ n ∧ n ≤ (cells c).length ∧ (n ≤ 200 → n = (cells c).length) := by
  intro d
  induction d with
  | zero =>
   intro k i a hd hi hk h1 h2 h3
   obtain ⟨k, rfl⟩ : ∃ m, k = m + 1 := ⟨k - 1, by omega⟩
   rw [List.take_of_length_le (by omega)] at h2 h3
   refine ⟨a, ?_, h1, by omega, fun h => by have := h3 h; omega⟩
   simp only [sashref05_count.l0]
   rw [if_neg (by omega)]
  | succ d ihd =>
   intro k i a hd hi hk h1 h2 h3
   obtain ⟨k, rfl⟩ : ∃ m, k = m + 1 := ⟨k - 1, by omega⟩
   have hlt : i < c.f3.length := by omega
   have q1 := cellsL_drop c.f3 i hlt
   have q2 := cells_pos (c.f3.getD i z27)
   have q3 := cellsL_td c.f3 i
   have q4 := kid_le _ c.f3 (getT_mem c.f3 i hlt)
   have q5 : (cellsL (c.f3.take (i + 1))).length = (cellsL (c.f3.take i)).length + (cells (c.f3.getD i z27)).length := by rw [cellsL_split c.f3 i hlt, List.length_append]
   by_cases ha : a > 200
   ·refine ⟨a, ?_, h1, by omega, fun h => by omega⟩
    simp only [sashref05_count.l0]
    rw [if_pos (by omega), if_pos ha]
   ·have h3' := h3 (by omega)
    obtain ⟨m, hm, m1, m2, m3⟩ := ih _ (getT_mem c.f3 i hlt) (by omega) k (by omega)
    have hw := w64s (n := a + m) (by omega) (by omega)
    obtain ⟨n, hn, n1⟩ := ihd k (i + 1) (a + m) (by omega) (by omega) (by omega) (by omega) (by omega) (fun h => by have := m3 (by omega); omega)
    refine ⟨n, ?_, n1⟩
    simp only [sashref05_count.l0]
    rw [if_pos (by omega), if_neg ha, if_pos (by omega), if_pos (by omega), rd_T_getD, hm]
    simp only [Option.bind_some]
    rw [hw, wi i (by omega)]
    exact hn
 have hz : ((0 : Nat) : Int) = 0 := rfl
 obtain ⟨n, hn, n1⟩ := loop c.f3.length k 0 1 (by omega) (by omega) (by rw [List.drop_zero]; omega) (by omega) (by omega) (fun _ => by simp [cellsL_nil])
 refine ⟨n, ?_, n1⟩
 simp only [sashref05_count.f]
 rw [hz] at hn
 exact hn
set_option maxRecDepth 100000
theorem great_f (c : SC) (hl : (cells c).length ≤ 2000000) (k : Nat) (hk : 2 * (cells c).length < k) : sashref05_Great.f k c.f0 c.f1.f0 c.f1.f1 c.f1.f2 c.f1.f3 c.f2 c.f3 = some (decide (200 < (cells c).length)) := by
 obtain ⟨n, hn, h1, h2, h3⟩ := count_f c hl k hk
 unfold sashref05_Great.f
 rw [hn]
 simp only [Option.bind_some]
 congr 1
 rw [decide_eq_decide]
 constructor
 ·intro h; omega
 ·intro h
  by_cases hq : n ≤ 200
  ·have := h3 hq; omega
  ·omega
theorem text_back (c : SC) (hl : (cells c).length ≤ 500) (ht : tilesB c = true) : textA (putS (bsOf (bodyL c))) = .ok c := by
 have hbl := body_len c
 have hz : (bsOf (bodyL c)).size ≤ 65530 := by rw [bs_size]; omega
 have hc := cut_put (bsOf (bodyL c)) hz
 have hm : mayB c = true := ((tilesB_iff c).1 ht).1
 unfold textA
 rw [hc, if_pos rfl]
 exact whole_back c (tiles_cgood ht) (Nat.le_trans (dep_le c) (by omega)) hm ht 5
set_option maxHeartbeats 16000000 in
theorem parseBack_calls (w : World) (c : SC) (A : Option Addr) (cap : Nat) (hl : (cells c).length ≤ 2000000) (hC : (k27).C w A c.f3.length c.f3) (hcap : c.f3.length ≤ cap) (hT : NumT w) (hE : NumE w) (hg : As.ErrT w) :
  Calls Tryz.prog 7 #[.agg #[.int .u8 c.f0, .int .i64 c.f1.f0, .int .i64 c.f1.f1, .int .i64 c.f1.f2, .int .i64 c.f1.f3, .int .i64 c.f2, .slice A c.f3.length cap]] w fun e w' => e = .returned (.bool true) ∧ Below w.heap.size w w' := by
 obtain ⟨W1, hW1⟩ : ∃ W1, W1 = w.alloc (.cells #[.int .u8 c.f0, .int .i64 c.f1.f0, .int .i64 c.f1.f1, .int .i64 c.f1.f2, .int .i64 c.f1.f3, .int .i64 c.f2, .slice A c.f3.length cap] 27) := ⟨_, rfl⟩
 have hb1 : Below w.heap.size w W1 := by rw [hW1]; exact below_alloc (Below.refl _ _) _
 have HB1 := ak hb1
 have HX1 : Aside0 (TreeAt W1 w.heap.size c A cap) := ⟨⟨by rw [hW1]; exact heap_alloc_new w _, Kd.C_below hC hb1, hcap⟩⟩
 have HA : Aside0 (∀ W, Below w.heap.size w W → Calls Tryz.prog 8 #[] W fun e w' => e = .returned (.bool true) ∧ Below W.heap.size W w') := ⟨fun W hb => awake_calls W (hT.below hb) (hE.below hb) (hg.below hb)⟩
 have HG := ak (sashref05_Great.calls (2 * (cells c).length + 1) _ _ _ _ _ _ A cap c.f3 _ W1 HX1.out.row hcap (great_f c hl _ (by omega)))
 have HW1 := ak hW1
 obtain ⟨y0, y1, y2, y3, y4, y5, y6⟩ := tree_cells HX1.out
 by_cases hgr : 200 < (cells c).length
 ·rw [decide_eq_true hgr] at HG
  clear hl hC hcap hT hE hg hb1 hW1 hgr
  go_enter Tryz.func7, Tryz.ntmps7
  go_upto_region 1 with (fail)
  rw [← HW1.out]
  go_wp2_with (first | (go_at_call 22; refine HG.out.mono ?_; rintro e w2 ⟨rfl, hb2⟩; replace hb2 := ak (HB1.out.trans (hb2.mono HB1.out.size))) | (go_at_call 8; refine (HA.out _ hb2.out).mono ?_; rintro e w3 ⟨rfl, hb3⟩))
  go_ret
  exact ⟨rfl, hb2.out.trans (hb3.mono hb2.out.size)⟩
 ·rw [decide_eq_false hgr] at HG
  have hl2 : (cells c).length ≤ 200 := by omega
  have HP : Aside0 (∀ W, Below W1.heap.size W1 W → Calls Tryz.prog 21 #[.agg #[.int .u8 c.f0, .int .i64 c.f1.f0, .int .i64 c.f1.f1, .int .i64 c.f1.f2, .int .i64 c.f1.f3, .int .i64 c.f2, .slice A c.f3.length cap]] W fun e w' => e = .returned (.tuple #[.string (textAns c).1, .int .i64 (textAns c).2]) ∧ Below W.heap.size W w') :=
   ⟨fun W hb => ptext_calls c W A cap (by omega) hcap (Kd.C_below HX1.out.row hb) (hT.below (hb1.trans (hb.mono hb1.size)))⟩
  cases ht : tilesB c with
  | false =>
   have hta : textAns c = (⟨#[]⟩, 1) := by unfold textAns; rw [ht]; rfl
   rw [hta] at HP
   have HTI : Aside0 (∀ W, Below W1.heap.size W1 W → Calls Tryz.prog 23 #[.agg #[.int .u8 c.f0, .int .i64 c.f1.f0, .int .i64 c.f1.f1, .int .i64 c.f1.f2, .int .i64 c.f1.f3, .int .i64 c.f2, .slice A c.f3.length cap]] W fun e w' => e = .returned (.bool false) ∧ Below W.heap.size W w') :=
    ⟨fun W hb => (sashref06_Tiles.calls 200000001 _ _ _ _ _ _ A cap c.f3 _ W (Kd.C_below HX1.out.row hb) hcap (by have := tiles_f c (by omega) 200000001 (by omega); rw [ht] at this; exact this)).mono fun e w' h => h⟩
   clear hl hC hcap hT hE hg hb1 hW1 hgr hl2 ht hta
   go_enter Tryz.func7, Tryz.ntmps7
   go_upto_region 1 with (fail)
   rw [← HW1.out]
   go_wp2_with fail
   refine HG.out.mono ?_
   rintro e w2 ⟨rfl, hb2⟩
   have HX2 := ak (HX1.out.below hb2)
   have HB2 := ak hb2
   clear hb2 y0 y1 y2 y3 y4 y5 y6
   obtain ⟨y0, y1, y2, y3, y4, y5, y6⟩ := tree_cells HX2.out
   go_wp2_with fail
   refine (HP.out w2 HB2.out).mono ?_
   rintro e w3 ⟨rfl, hb3⟩
   have HX3 := ak (HX2.out.below hb3)
   have HB3 := ak (HB2.out.trans (hb3.mono HB2.out.size))
   clear hb3 y0 y1 y2 y3 y4 y5 y6
   obtain ⟨y0, y1, y2, y3, y4, y5, y6⟩ := tree_cells HX3.out
   go_wp2_with (first | (go_at_call 23; refine (HTI.out w3 HB3.out).mono ?_; rintro e w4 ⟨rfl, hb4⟩; replace hb4 := ak (HB1.out.trans ((HB3.out.trans (hb4.mono HB3.out.size)).mono HB1.out.size))) | (go_at_call 8; refine (HA.out _ hb4.out).mono ?_; rintro e w5 ⟨rfl, hb5⟩))
   go_ret
   exact ⟨rfl, hb4.out.trans (hb5.mono hb4.out.size)⟩
  | true =>
   have hta : textAns c = (putS (bsOf (bodyL c)), 0) := by unfold textAns; rw [ht]; rfl
   rw [hta] at HP
   have htb := text_back c (by omega) ht
   have hbl := body_len c
   have hsz : (putS (bsOf (bodyL c))).size ≤ 1000000 := by rw [put_size, bs_size]; omega
   generalize putS (bsOf (bodyL c)) = s at *
   have hok : okB s = true := by unfold okB; rw [htb]
   have htr : treeR (textA s) = c := by rw [htb]; rfl
   have HTX : Aside0 (∀ W, Below w.heap.size w W → Calls Tryz.prog 11 #[.string s] W (UniPost W (.ok c))) := ⟨fun W hb => by have := text_uni W s hsz (hT.below hb) (hE.below hb); rw [htb] at this; exact this⟩
   have HPA : Aside0 (∀ W, Below w.heap.size w W → Calls Tryz.prog 17 #[.string s] W fun e w' => e = .returned (.tuple #[.int .i64 ((leafIds (cells c)).length : Int), .int .i64 0]) ∧ Below W.heap.size W w') := ⟨fun W hb => by have := panes_calls W s hsz (hT.below hb) (hE.below hb) (hg.below hb); rw [htb] at this; exact this⟩
   have HS : Aside0 (∀ W A2 c2 b1 b2, TreeAt W b1 c A cap → TreeAt W b2 c A2 c2 → Calls Tryz.prog 14 #[.agg #[.int .u8 c.f0, .int .i64 c.f1.f0, .int .i64 c.f1.f1, .int .i64 c.f1.f2, .int .i64 c.f1.f3, .int .i64 c.f2, .slice A c.f3.length cap], .agg #[.int .u8 c.f0, .int .i64 c.f1.f0, .int .i64 c.f1.f1, .int .i64 c.f1.f2, .int .i64 c.f1.f3, .int .i64 c.f2, .slice A2 c.f3.length c2]] W fun e w' => e = .returned (.bool true) ∧ Below W.heap.size W w') := ⟨fun W A2 c2 b1 b2 h1 h2 => by
    have := rsame_calls c c A A2 cap c2 W (by omega) h1.row h1.cap h2.row h2.cap
    rwa [eqB_yes rfl] at this⟩
   have HI : Aside0 (∀ W, (k27).C W A c.f3.length c.f3 → c.f3.length ≤ cap → Calls Tryz.prog 19 #[.agg #[.int .u8 c.f0, .int .i64 c.f1.f0, .int .i64 c.f1.f1, .int .i64 c.f1.f2, .int .i64 c.f1.f3, .int .i64 c.f2, .slice A c.f3.length cap]] W fun e w' => ∃ A' c', e = .returned (.slice A' (leafIds (cells c)).length c') ∧ Below W.heap.size W w') := ⟨fun W h1 h2 => ids_calls c (by omega) W A cap h1 h2⟩
   have HRO : Aside0 (∀ W, Below w.heap.size w W → Calls Tryz.prog 20 #[.slice (some ⟨W.heap.size, 0, none⟩) 1 1] (W.alloc (.cells #[.string s] 9)) fun e w' => e = .returned (.bool true) ∧ Below W.heap.size W w') := ⟨fun W hb =>
    (round_calls _ 1 1 [s] _ (by decide) (fun x hx => by obtain rfl : x = s := by simpa using hx
                                                         exact ⟨hsz, by rw [htr]; omega⟩) (nlitC W 9 [s] (by simp)) (hT.below (below_alloc hb _)) (hE.below (below_alloc hb _)) true (by simp [hok])).mono fun e w' ⟨h1, h2⟩ => ⟨h1, (below_alloc (Below.refl _ _) _).trans (h2.mono (by simp))⟩⟩
   unfold UniPost at HTX
   generalize (leafIds (cells c)).length = n at *
   clear hl hC hcap hT hE hg hb1 hW1 hgr hl2 ht hta htb hbl hsz hok htr
   have tx : treeR (Except.ok c : Except (Int × Int) SC) = c := rfl
   rw [tx] at HTX
   clear tx
   go_enter Tryz.func7, Tryz.ntmps7
   go_upto_region 1 with (fail)
   rw [← HW1.out]
   go_wp2_with fail
   refine HG.out.mono ?_
   rintro e w2 ⟨rfl, hb2⟩
   have HX2 := ak (HX1.out.below hb2)
   have HB2 := ak hb2
   clear hb2 y0 y1 y2 y3 y4 y5 y6
   obtain ⟨y0, y1, y2, y3, y4, y5, y6⟩ := tree_cells HX2.out
   go_wp2_with fail
   refine (HP.out w2 HB2.out).mono ?_
   rintro e w3 ⟨rfl, hb3⟩
   have HX3 := ak (HX2.out.below hb3)
   have HB3 : Aside0 (Below w.heap.size w w3) := ⟨HB1.out.trans ((HB2.out.trans (hb3.mono HB2.out.size)).mono HB1.out.size)⟩
   clear hb3 y0 y1 y2 y3 y4 y5 y6 HX2 HB2
   go_wp2_with fail
   refine (HTX.out w3 HB3.out).mono ?_
   rintro e w4 ⟨A4, c4, ev, rfl, hr4, he4, hb4⟩
   obtain rfl : ev = .nilIface := he4
   obtain ⟨W5, hW5⟩ : ∃ W5, W5 = w4.alloc (.cells #[.int .u8 c.f0, .int .i64 c.f1.f0, .int .i64 c.f1.f1, .int .i64 c.f1.f2, .int .i64 c.f1.f3, .int .i64 c.f2, .slice A4 c.f3.length c4] 27) := ⟨_, rfl⟩
   have hb45 : Below w4.heap.size w4 W5 := by rw [hW5]; exact below_alloc (Below.refl _ _) _
   have HB5 : Aside0 (Below w.heap.size w W5) := ⟨HB3.out.trans ((hb4.trans (hb45.mono hb4.size)).mono HB3.out.size)⟩
   have HX5 : Aside0 (TreeAt W5 w.heap.size c A cap) := ⟨(HX3.out.below hb4).below hb45⟩
   have HZ5 : Aside0 (TreeAt W5 w4.heap.size c A4 c4) := ⟨by rw [hW5]; exact tree_new hr4⟩
   have HW5 := ak hW5
   clear hr4 hb4 hb45 hW5 HX3 HB3
   go_wp2_with fail
   rw [← HW5.out]
   refine (HPA.out W5 HB5.out).mono ?_
   rintro e w6 ⟨rfl, hb6⟩
   have HB6 : Aside0 (Below w.heap.size w w6) := ⟨HB5.out.trans (hb6.mono HB5.out.size)⟩
   have HX6 : Aside0 (TreeAt w6 w.heap.size c A cap) := ⟨HX5.out.below hb6⟩
   have HZ6 : Aside0 (TreeAt w6 w4.heap.size c A4 c4) := ⟨HZ5.out.below hb6⟩
   clear hb6 HX5 HZ5 HB5
   obtain ⟨y0, y1, y2, y3, y4, y5, y6⟩ := tree_cells HX6.out
   obtain ⟨z0, z1, z2, z3, z4, z5, z6⟩ := tree_cells HZ6.out
   go_wp2_with fail
   refine (HS.out w6 A4 c4 _ _ HX6.out HZ6.out).mono ?_
   rintro e w7 ⟨rfl, hb7⟩
   have HB7 : Aside0 (Below w.heap.size w w7) := ⟨HB6.out.trans (hb7.mono HB6.out.size)⟩
   have HX7 : Aside0 (TreeAt w7 w.heap.size c A cap) := ⟨HX6.out.below hb7⟩
   clear hb7 HX6 HZ6 HB6 y0 y1 y2 y3 y4 y5 y6 z0 z1 z2 z3 z4 z5 z6
   obtain ⟨y0, y1, y2, y3, y4, y5, y6⟩ := tree_cells HX7.out
   have q4 : ((n : Int) == (n : Int)) = true := beq_self_eq_true _
   go_wp2_with fail
   refine (HI.out w7 HX7.out.row HX7.out.cap).mono ?_
   rintro e w8 ⟨A8, c8, rfl, hb8⟩
   have HB8 : Aside0 (Below w.heap.size w w8) := ⟨HB7.out.trans (hb8.mono HB7.out.size)⟩
   have HQ := ak (HRO.out w8 HB8.out)
   clear hb8 y0 y1 y2 y3 y4 y5 y6
   go_wp2_with (first | (go_at_call 20; refine HQ.out.mono ?_; rintro e w9 ⟨rfl, hb9⟩; replace hb9 := ak (HB8.out.trans (hb9.mono HB8.out.size))) | (go_at_call 8; refine (HA.out _ hb9.out).mono ?_; rintro e w10 ⟨rfl, hb10⟩))
   go_ret
   exact ⟨rfl, hb9.out.trans (hb10.mono hb9.out.size)⟩
end Go.Proofs.YtkobpbbegalfpaaGreatDoor
namespace Go.Proofs.YtkobpbbegalfpaaGreatDoor
open Go.RowKit Go.Deep Go.ChangeShapes Go.ChangeMaps YtkobpbbegalfpaaGreatDoorW.PrintWords YtkobpbbegalfpaaGreatDoorW.PrintMore
set_option linter.unusedVariables false
section
variable {H : Type} {enc : TypeId × Value → H} {P : Program} {w : World} {base : Nat} {spare : Nat → Bool} {held : Bool}
theorem cells?_at {a : Addr} {n : Nat} {cs : List Value} (h : w.cells? base a n = some cs) : cs.length = n ∧ ∀ (i : Nat) u, cs[i]? = some u → w.cell? (a.add i) = some u := by
 obtain ⟨h1, h2, h3⟩ := World.cells?_some h
 exact ⟨h2, fun i u hu => (h3 i (by rw [← h2]; exact (List.getElem?_eq_some_iff.1 hu).1)).trans hu⟩
end
end Go.Proofs.YtkobpbbegalfpaaGreatDoor
