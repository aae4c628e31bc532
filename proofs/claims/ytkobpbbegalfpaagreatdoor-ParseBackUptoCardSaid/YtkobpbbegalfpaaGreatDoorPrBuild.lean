/-
  Joined texts: PrInj, PrBs, PsTb, PrHead, PrBuild.
-/
import Derived.Test.YtkobpbbegalfpaaGreatDoorPrPure
import Derived.Test.YtkobpbbegalfpaaGreatDoorNuUint
import Derived.Test.YtkobpbbegalfpaaGreatDoorPsTop
import Derived.Deep.RegionHeld3
import Derived.Test.YtkobpbbegalfpaaGreatDoorPsBase
import Derived.Lib.Builder
import Derived.Lib.AppendStr
import Derived.Shelf.Strings.Builder1
namespace Go.Proofs.YtkobpbbegalfpaaGreatDoor
open Go.RowKit YtkobpbbegalfpaaGreatDoorW.PrintWords YtkobpbbegalfpaaGreatDoorW.PrintLast YtkobpbbegalfpaaGreatDoorW.PrintMore PParseBodies
open Go.Lib (parseUintM decDigits)
set_option linter.unusedVariables false
set_option linter.unusedSimpArgs false
def Nd (s : List UInt8) : Prop := ∀ x r, s = x :: r → isD x = false
theorem nd_cons (x : UInt8) (r : List UInt8) (h : isD x = false) : Nd (x :: r) := fun y q e => by cases e; exact h
theorem nd_nil : Nd [] := fun y q e => by cases e
theorem takeWhile_app (a s : List UInt8) (ha : ∀ b ∈ a, isD b = true) (hs : Nd s) : (a ++ s).takeWhile isD = a := by
 induction a with
 | nil => cases s with
  | nil => rfl
  | cons x r => simp [hs x r rfl]
 | cons x a ih => simp [ha x List.mem_cons_self, ih (fun b hb => ha b (List.mem_cons_of_mem _ hb))]
def InR (n : Int) : Prop := 0 ≤ n ∧ n ≤ 2147483647
theorem digL_dec (n : Int) (h : InR n) : digL n = decDigits n.toNat := by
 have := digS_in n.toNat (by have := h.2; have := h.1; omega)
 rw [Int.toNat_of_nonneg h.1] at this
 exact this
theorem digL_all (n : Int) (h : InR n) : ∀ b ∈ digL n, isD b = true := by rw [digL_dec n h]; exact dec_all _
theorem digL_ne (n : Int) (h : InR n) : digL n ≠ [] := by rw [digL_dec n h]; exact dec_ne _
def RIn (r : SR) : Prop := InR r.f0 ∧ InR r.f1 ∧ InR r.f2 ∧ InR r.f3
def CGood (c : SC) : Prop := ∀ x ∈ cells c, nodeOk x = true ∧ RIn x.f1
theorem CGood.kid {c k : SC} (h : CGood c) (hk : k ∈ c.f3) : CGood k := fun x hx => h x (cells_kid hk x hx)
theorem CGood.self {c : SC} (h : CGood c) : nodeOk c = true ∧ RIn c.f1 := h c (cells_self c)
theorem node_leaf {c : SC} (h : nodeOk c = true) (h1 : c.f0 = 1) : c.f3 = [] ∧ InR c.f2 := by
 unfold nodeOk at h
 rw [if_pos h1] at h
 simp only [Bool.and_eq_true, List.isEmpty_iff, decide_eq_true_eq] at h
 exact h
theorem node_node {c : SC} (h : nodeOk c = true) (h1 : c.f0 ≠ 1) : (c.f0 = 2 ∨ c.f0 = 3) ∧ c.f2 = 0 := by
 unfold nodeOk at h
 rw [if_neg h1] at h
 by_cases h2 : c.f0 = 2 ∨ c.f0 = 3
 ·rw [if_pos h2] at h
  simp only [decide_eq_true_eq] at h
  exact ⟨h2, h.2⟩
 ·rw [if_neg h2] at h; cases h
theorem isD_z (z : UInt8) (hz : z = 125 ∨ z = 93) : isD z = false := by rcases hz with rfl | rfl <;> decide
theorem nd_kids (l : List SC) (z : UInt8) (hz : z = 125 ∨ z = 93) (s : List UInt8) : Nd (kidsL false l ++ z :: s) := by
 cases l with
 | nil => rw [kidsL_nil]; exact nd_cons _ _ (isD_z z hz)
 | cons c l => rw [kidsL_cons]; simp only [Bool.false_eq_true, if_false, List.append_assoc, List.singleton_append]; exact nd_cons _ _ (by decide)
theorem opn_cases (k : Int) : opn k = 123 ∨ opn k = 91 := by unfold opn; split <;> simp
theorem cls_cases (k : Int) : cls k = 125 ∨ cls k = 93 := by unfold cls; split <;> simp
theorem data_ext' {a b : ByteArray} (h : a.data.toList = b.data.toList) : a = b := by
 apply ByteArray.ext
 exact Array.ext' h
def bsOf (l : List UInt8) : ByteArray := ⟨l.toArray⟩
theorem bs_list (l : List UInt8) : (bsOf l).data.toList = l := rfl
theorem bs_size (l : List UInt8) : (bsOf l).size = l.length := by simp [bsOf, ByteArray.size]
def IR (n : Int) : Prop := -9223372036854775808 ≤ n ∧ n ≤ 9223372036854775807
def RIR (r : SR) : Prop := IR r.f0 ∧ IR r.f1 ∧ IR r.f2 ∧ IR r.f3
def CIR (c : SC) : Prop := ∀ x ∈ cells c, RIR x.f1 ∧ IR x.f2
theorem CIR.kid {c k : SC} (h : CIR c) (hk : k ∈ c.f3) : CIR k := fun x hx => h x (cells_kid hk x hx)
def Sg (s : ByteArray) (i j : Nat) (l : List UInt8) : Prop := i ≤ j ∧ j ≤ s.size ∧ s.data.toList.drop i = l ++ s.data.toList.drop j
theorem Sg.trans {s : ByteArray} {i j k : Nat} {a b : List UInt8} (h : Sg s i j a) (g : Sg s j k b) : Sg s i k (a ++ b) :=
 ⟨Nat.le_trans h.1 g.1, g.2.1, by rw [h.2.2, g.2.2, List.append_assoc]⟩
theorem ahead_sg {s : ByteArray} {i : Nat} {x : UInt8} (hx : x ≠ 0) (h : aheadI s i = (x.toNat : Int)) : Sg s i (i + 1) [x] := by
 have h0 : ¬ (x.toNat : Int) = 0 := fun e => hx (UInt8.toNat_inj.1 (by show x.toNat = 0; omega))
 have hl := aheadI_lt h0 h
 unfold aheadI at h
 rw [dif_pos hl] at h
 have e : s[i] = x := UInt8.toNat_inj.1 (by omega)
 refine ⟨Nat.le_succ _, hl, ?_⟩
 rw [drop_cons s i hl, e]
 rfl
theorem eat_sg {s : ByteArray} {i j : Nat} {x : UInt8} (hx : x ≠ 0) {c : Int} (hc : (x.toNat : Int) = c) (h : eatP s i c = .ok j) : Sg s i j [x] := by
 unfold eatP at h
 by_cases ha : aheadI s i = c
 ·rw [if_pos ha] at h
  obtain rfl : i + 1 = j := by injection h
  exact ahead_sg hx (ha.trans hc.symm)
 ·rw [if_neg ha] at h
  cases h
theorem num_sg {s : ByteArray} {i : Nat} (hi : i ≤ s.size) {p : Int × Nat} (h : numP headR s i = .ok p) : Sg s i p.2 (digL p.1) := by
 unfold numP at h
 by_cases h0 : (headR (s.extract i s.size)).2.2 = 0
 ·rw [if_pos h0] at h
  have hb := headB_headR (s.extract i s.size)
  rw [ByteArray.size_extract] at hb
  have hk := head_back h0
  injection h with h
  subst h
  show Sg s i (i + (headR (s.extract i s.size)).2.1.toNat) (digL (headR (s.extract i s.size)).1)
  have e : digL (headR (s.extract i s.size)).1 = ((s.extract i s.size).extract 0 (headR (s.extract i s.size)).2.1.toNat).data.toList := by
   unfold digL
   rw [hk]
  obtain ⟨m, hm⟩ : ∃ m, m = (headR (s.extract i s.size)).2.1.toNat := ⟨_, rfl⟩
  rw [e, ← hm]
  have hms : i + m ≤ s.size := by omega
  refine ⟨by omega, hms, ?_⟩
  have e2 : ((s.extract i s.size).extract 0 m).data.toList = (s.data.toList.drop i).take m := by
   simp only [ByteArray.data_extract, Array.toList_extract, List.extract_eq_take_drop, List.drop_zero, Nat.sub_zero]
   rw [List.take_take, Nat.min_eq_left (by omega)]
  rw [e2, ← List.drop_drop, List.take_append_drop]
 ·rw [if_neg h0] at h
  cases h
theorem rect_sg {s : ByteArray} {i : Nat} (hi : i ≤ s.size) {r : (Int × Int × Int × Int) × Nat} (h : rectP headR s i = .ok r) : Sg s i r.2 (headB ⟨r.1.1, r.1.2.1, r.1.2.2.1, r.1.2.2.2⟩) := by
 unfold rectP at h
 cases h0 : numP headR s i with
 | error q => rw [h0] at h; cases h
 | ok p0 =>
  have s0 := num_sg hi h0
  rw [h0] at h
  cases h1 : eatP s p0.2 120 with
  | error q => simp only [bind, Except.bind, h1] at h; cases h
  | ok a1 =>
   have s1 := eat_sg (x := 120) (by decide) (by decide) h1
   simp only [bind, Except.bind, h1] at h
   cases h2 : numP headR s a1 with
   | error q => rw [h2] at h; cases h
   | ok p2 =>
    have s2 := num_sg s1.2.1 h2
    simp only [h2] at h
    cases h3 : eatP s p2.2 44 with
    | error q => rw [h3] at h; cases h
    | ok a3 =>
     have s3 := eat_sg (x := 44) (by decide) (by decide) h3
     simp only [h3] at h
     cases h4 : numP headR s a3 with
     | error q => rw [h4] at h; cases h
     | ok p4 =>
      have s4 := num_sg s3.2.1 h4
      simp only [h4] at h
      cases h5 : eatP s p4.2 44 with
      | error q => rw [h5] at h; cases h
      | ok a5 =>
       have s5 := eat_sg (x := 44) (by decide) (by decide) h5
       simp only [h5] at h
       cases h6 : numP headR s a5 with
       | error q => rw [h6] at h; cases h
       | ok p6 =>
        have s6 := num_sg s5.2.1 h6
        simp only [h6, pure, Except.pure] at h
        injection h with h
        subst h
        exact (((((s0.trans s1).trans s2).trans s3).trans s4).trans s5).trans s6
theorem back_all (s : ByteArray) : ∀ m,
  (∀ i deep p, i ≤ s.size → cellP headR s m i deep = some (.ok p) → Sg s i p.2 (bodyL p.1)) ∧
  (∀ (z : UInt8) deep i p, (z = 125 ∨ z = 93) → i < s.size → kidsP headR s m (z.toNat : Int) deep i = some (.ok p) → Sg s (i + 1) p.2 (kidsL true p.1 ++ [z])) ∧
  (∀ (z : UInt8) deep out j p, (z = 125 ∨ z = 93) → j ≤ s.size → loopP headR s m (z.toNat : Int) deep out j = some (.ok p) → ∃ l, p.1 = out ++ l ∧ Sg s j p.2 (kidsL false l ++ [z])) := by
 intro m
 induction m with
 | zero => exact ⟨fun _ _ _ _ h => (by simp [cellP] at h), fun _ _ _ _ _ _ h => (by simp [kidsP] at h), fun _ _ _ _ _ _ _ h => (by simp [loopP] at h)⟩
 | succ m ih =>
  obtain ⟨ih1, ih2, ih3⟩ := ih
  refine ⟨?_, ?_, ?_⟩
  ·intro i deep p hi h
   rw [cellP] at h
   cases hr : rectP headR s i with
   | error q => rw [hr] at h; simp at h
   | ok r =>
    have sr := rect_sg hi hr
    rw [hr] at h
    simp only at h
    by_cases h3 : aheadI s r.2 = 123
    ·rw [if_pos h3] at h
     have sb := ahead_sg (x := 123) (by decide) h3
     cases hk : kidsP headR s m 125 deep r.2 with
     | none => rw [hk] at h; simp at h
     | some e =>
      cases e with
      | error q => rw [hk] at h; simp at h
      | ok q =>
       have sk := ih2 125 deep r.2 q (Or.inl rfl) sb.2.1 hk
       rw [hk] at h
       simp only [Option.some.injEq, Except.ok.injEq] at h
       subst h
       rw [bodyL_eq]
       have := sr.trans (sb.trans sk)
       simpa [opn, cls] using this
    ·rw [if_neg h3] at h
     by_cases h4 : aheadI s r.2 = 91
     ·rw [if_pos h4] at h
      have sb := ahead_sg (x := 91) (by decide) h4
      cases hk : kidsP headR s m 93 deep r.2 with
      | none => rw [hk] at h; simp at h
      | some e =>
       cases e with
       | error q => rw [hk] at h; simp at h
       | ok q =>
        have sk := ih2 93 deep r.2 q (Or.inr rfl) sb.2.1 hk
        rw [hk] at h
        simp only [Option.some.injEq, Except.ok.injEq] at h
        subst h
        rw [bodyL_eq]
        have := sr.trans (sb.trans sk)
        simpa [opn, cls] using this
     ·rw [if_neg h4] at h
      cases he : eatP s r.2 44 with
      | error q => rw [he] at h; simp at h
      | ok a =>
       have sa := eat_sg (x := 44) (by decide) (by decide) he
       rw [he] at h
       simp only at h
       cases hn : numP headR s a with
       | error q => rw [hn] at h; simp at h
       | ok n =>
        have sn := num_sg sa.2.1 hn
        rw [hn] at h
        simp only [Option.some.injEq, Except.ok.injEq] at h
        subst h
        rw [bodyL_eq]
        have := sr.trans (sa.trans sn)
        simpa using this
  ·intro z deep i p hz hi h
   rw [kidsP] at h
   by_cases h9 : 1000 ≤ deep
   ·rw [if_pos h9] at h; simp at h
   ·rw [if_neg h9] at h
    cases hc : cellP headR s m (i + 1) (deep + 1) with
    | none => rw [hc] at h; simp at h
    | some e =>
     cases e with
     | error q => rw [hc] at h; simp at h
     | ok q =>
      have sc := ih1 (i + 1) (deep + 1) q hi hc
      rw [hc] at h
      simp only at h
      obtain ⟨l, hl, sl⟩ := ih3 z deep [q.1] q.2 p hz sc.2.1 h
      rw [hl]
      have := sc.trans sl
      simpa [kidsL_cons] using this
  ·intro z deep out j p hz hj h
   rw [loopP] at h
   by_cases h2 : out.length < 2 ∨ ¬ aheadI s j = (z.toNat : Int)
   ·rw [if_pos h2] at h
    cases he : eatP s j 44 with
    | error q => rw [he] at h; simp at h
    | ok a =>
     have sa := eat_sg (x := 44) (by decide) (by decide) he
     rw [he] at h
     simp only at h
     cases hc : cellP headR s m a (deep + 1) with
     | none => rw [hc] at h; simp at h
     | some e =>
      cases e with
      | error q => rw [hc] at h; simp at h
      | ok q =>
       have sc := ih1 a (deep + 1) q sa.2.1 hc
       rw [hc] at h
       simp only at h
       obtain ⟨l, hl, sl⟩ := ih3 z deep (out ++ [q.1]) q.2 p hz sc.2.1 h
       refine ⟨q.1 :: l, by rw [hl]; simp, ?_⟩
       have := sa.trans (sc.trans sl)
       simpa [kidsL_cons] using this
   ·rw [if_neg h2] at h
    simp only [Option.some.injEq, Except.ok.injEq] at h
    subst h
    have ha : aheadI s j = (z.toNat : Int) := Classical.not_not.1 (fun h => h2 (Or.inr h))
    refine ⟨[], by simp, ?_⟩
    have := ahead_sg (x := z) (by rcases hz with rfl | rfl <;> decide) ha
    simpa [kidsL_nil] using this
theorem whole_text {s : ByteArray} {off : Int} {x : SC} (h : wholeA s off = .ok x) : s = bsOf (bodyL x) ∧ mayB x = true ∧ tilesB x = true := by
 unfold wholeA wholeP at h
 cases hr : cellR s with
 | error p => rw [hr] at h; cases h
 | ok p =>
  have hc := cellR_eq s
  rw [hr] at h hc
  simp only at h
  have sg := (back_all s _).1 0 1 p (Nat.zero_le _) hc
  by_cases h1 : p.2 < s.size
  ·rw [if_pos h1] at h; cases h
  ·rw [if_neg h1] at h
   by_cases h2 : mayB p.1 = false
   ·rw [if_pos h2] at h; cases h
   ·rw [if_neg h2] at h
    by_cases h3 : tilesB p.1 = false
    ·rw [if_pos h3] at h; cases h
    ·rw [if_neg h3] at h
     obtain rfl : p.1 = x := by injection h
     refine ⟨?_, by simpa using h2, by simpa using h3⟩
     apply data_ext'
     rw [bs_list]
     have h4 := sg.2.2
     have h5 := sg.2.1
     have e : s.data.toList.length = s.size := by simp
     rw [List.drop_zero, List.drop_eq_nil_of_le (by omega), List.append_nil] at h4
     exact h4
set_option maxRecDepth 100000
theorem joinS1 (a : ByteArray) : (joinS [a]).data.toList = a.data.toList := by simp [joinS, Lib.join, Lib.joinTail]
theorem joinS3 (a b c : ByteArray) : (joinS [a, b, c]).data.toList = a.data.toList ++ [44] ++ b.data.toList ++ [44] ++ c.data.toList := by simp [joinS, Lib.join, Lib.joinTail]
theorem headS_eq (r : SR) : ((joinS [digS r.f2] ++ (⟨#[120]⟩ : ByteArray)) ++ joinS [digS r.f3, digS r.f0, digS r.f1]) = (⟨(headB r).toArray⟩ : ByteArray) := by
 have h : ((joinS [digS r.f2] ++ (⟨#[120]⟩ : ByteArray)) ++ joinS [digS r.f3, digS r.f0, digS r.f1]).data.toList = headB r := by
  simp only [ByteArray.data_append, Array.toList_append, joinS1, joinS3]
  simp [headB, digL]
 cases hq : ((joinS [digS r.f2] ++ (⟨#[120]⟩ : ByteArray)) ++ joinS [digS r.f3, digS r.f0, digS r.f1]) with
 | mk d => rw [hq] at h; simp only at h; rw [← h]
set_option maxHeartbeats 4000000 in
theorem phead_calls (r : SR) (w : World) (hT : NumT w) :
  Calls Tryz.prog 85 #[.agg #[.int .i64 r.f0, .int .i64 r.f1, .int .i64 r.f2, .int .i64 r.f3]] w fun e w' => e = .returned (.string ⟨(headB r).toArray⟩) ∧ Below w.heap.size w w' := by
 have hz1 : (joinS [digS r.f2]).size ≤ 1000 := by have := joinS_len [r.f2] [44] rfl; have e : (joinS [digS r.f2]).size = _ := rfl; simp only [joinS, List.map_cons, List.map_nil, List.length_cons, List.length_nil] at this ⊢; simpa [ByteArray.size] using (by omega : _ ≤ 1000)
 have hz3 : (joinS [digS r.f3, digS r.f0, digS r.f1]).size ≤ 1000 := by have := joinS_len [r.f3, r.f0, r.f1] [44] rfl; simp only [joinS, List.map_cons, List.map_nil, List.length_cons, List.length_nil] at this ⊢; simpa [ByteArray.size] using (by omega : _ ≤ 1000)
 rw [← headS_eq]
 obtain ⟨wB, hwB⟩ : ∃ wB, wB = w.alloc (.cells #[.int .i64 r.f0, .int .i64 r.f1, .int .i64 r.f2, .int .i64 r.f3] 24) := ⟨_, rfl⟩
 have hbB : Below w.heap.size w wB := by rw [hwB]; exact below_alloc (Below.refl _ _) _
 have hsB : wB.heap.size = w.heap.size + 1 := by rw [hwB]; simp
 have hblk : wB.heap[w.heap.size]? = some (.cells #[.int .i64 r.f0, .int .i64 r.f1, .int .i64 r.f2, .int .i64 r.f3] 24 (0, 0)) := by rw [hwB]; exact heap_alloc_new w _
 have CE : ∀ w', Below wB.heap.size wB w' → w'.cell? ⟨w.heap.size, 0, none⟩ = some (.int .i64 r.f0) ∧ w'.cell? ⟨w.heap.size, 1, none⟩ = some (.int .i64 r.f1) ∧ w'.cell? ⟨w.heap.size, 2, none⟩ = some (.int .i64 r.f2) ∧ w'.cell? ⟨w.heap.size, 3, none⟩ = some (.int .i64 r.f3) := fun w' hb => by
  have h := (hb.block _ (blk_lt hblk)).trans hblk
  exact ⟨(blk_cell h 0).trans rfl, (blk_cell h 1).trans rfl, (blk_cell h 2).trans rfl, (blk_cell h 3).trans rfl⟩
 have HD1 : ∀ W A, Below wB.heap.size wB W → (Kd.int .i64).C W A 1 [r.f2] → Calls Tryz.prog 86 #[.slice A 1 1] W fun e w' => e = .returned (.string (joinS [digS r.f2])) ∧ Below wB.heap.size wB w' ∧ Below W.heap.size W w' :=
  fun W A hb hC => (digits_all W A 1 1 [r.f2] hC (by decide) (hT.below (hbB.trans (hb.mono hbB.size)))).mono fun e w' ⟨h1, h2⟩ => ⟨h1, hb.trans (h2.mono hb.size), h2⟩
 have HD3 : Aside0 (∀ W A, Below wB.heap.size wB W → (Kd.int .i64).C W A 3 [r.f3, r.f0, r.f1] → Calls Tryz.prog 86 #[.slice A 3 3] W fun e w' => e = .returned (.string (joinS [digS r.f3, digS r.f0, digS r.f1])) ∧ Below wB.heap.size wB w') :=
  ⟨fun W A hb hC => (digits_all W A 3 3 [r.f3, r.f0, r.f1] hC (by decide) (hT.below (hbB.trans (hb.mono hbB.size)))).mono fun e w' ⟨h1, h2⟩ => ⟨h1, hb.trans (h2.mono hb.size)⟩⟩
 have H3 : Aside0 (∀ W, Below wB.heap.size wB W → Calls Tryz.prog 86 #[.slice (some ⟨W.heap.size, 0, none⟩) 3 3] (W.alloc (.cells #[.int .i64 r.f3, .int .i64 r.f0, .int .i64 r.f1] 3)) fun e w' => e = .returned (.string (joinS [digS r.f3, digS r.f0, digS r.f1])) ∧ Below wB.heap.size wB w') :=
  ⟨fun W hb => HD3.out _ _ (below_alloc hb _) (nlitI W 3 [r.f3, r.f0, r.f1] (by simp))⟩
 have bA : Below wB.heap.size wB (wB.alloc (.cells #[.int .i64 r.f2] 3)).drew := below_drew (below_alloc (Below.refl _ _) _)
 have bB : Below wB.heap.size wB ((wB.alloc (.cells #[.int .i64 r.f3, .int .i64 r.f0, .int .i64 r.f1] 3)).alloc (.cells #[.int .i64 r.f2] 3)).drew := below_drew (below_alloc (below_alloc (Below.refl _ _) _) _)
 have bC : Below wB.heap.size wB ((wB.alloc (.cells #[.int .i64 r.f2] 3)).alloc (.cells #[.int .i64 r.f3, .int .i64 r.f0, .int .i64 r.f1] 3)).drew := below_drew (below_alloc (below_alloc (Below.refl _ _) _) _)
 have HA := HD1 _ (some ⟨w.heap.size + 1, 0, none⟩) bA (Kd.C_drew (by have h := nlitI wB 3 [r.f2] (by simp); rw [hsB] at h; exact h))
 have HB := HD1 _ (some ⟨w.heap.size + 2, 0, none⟩) bB (Kd.C_drew (by have h := nlitI (wB.alloc (.cells #[.int .i64 r.f3, .int .i64 r.f0, .int .i64 r.f1] 3)) 3 [r.f2] (by simp); rw [show (wB.alloc (.cells #[.int .i64 r.f3, .int .i64 r.f0, .int .i64 r.f1] 3)).heap.size = w.heap.size + 2 by simp [hsB]] at h; exact h))
 have HC := HD1 _ (some ⟨w.heap.size + 1, 0, none⟩) bC (Kd.C_drew (Kd.C_alloc (by have h := nlitI wB 3 [r.f2] (by simp); rw [hsB] at h; exact h) _))
 have cB : (Kd.int .i64).C ((wB.alloc (.cells #[.int .i64 r.f3, .int .i64 r.f0, .int .i64 r.f1] 3)).alloc (.cells #[.int .i64 r.f2] 3)).drew (some ⟨w.heap.size + 1, 0, none⟩) 3 [r.f3, r.f0, r.f1] := Kd.C_drew (Kd.C_alloc (by have h := nlitI wB 3 [r.f3, r.f0, r.f1] (by simp); rw [hsB] at h; exact h) _)
 have cC : (Kd.int .i64).C ((wB.alloc (.cells #[.int .i64 r.f2] 3)).alloc (.cells #[.int .i64 r.f3, .int .i64 r.f0, .int .i64 r.f1] 3)).drew (some ⟨w.heap.size + 2, 0, none⟩) 3 [r.f3, r.f0, r.f1] := Kd.C_drew (by have h := nlitI (wB.alloc (.cells #[.int .i64 r.f2] 3)) 3 [r.f3, r.f0, r.f1] (by simp); rw [show (wB.alloc (.cells #[.int .i64 r.f2] 3)).heap.size = w.heap.size + 2 by simp [hsB]] at h; exact h)
 have KA := ak (HA.mono fun e w' (h : e = .returned (.string (joinS [digS r.f2])) ∧ _ ∧ _) => (⟨h.1, h.2.1, CE _ h.2.1⟩ : e = .returned (.string (joinS [digS r.f2])) ∧ Below wB.heap.size wB w' ∧ _ ∧ _ ∧ _ ∧ _))
 have KB := ak (HB.mono fun e w' (h : e = .returned (.string (joinS [digS r.f2])) ∧ _ ∧ _) => (⟨h.1, h.2.1, CE _ h.2.1, HD3.out _ _ h.2.1 (Kd.C_below cB h.2.2)⟩ : e = .returned (.string (joinS [digS r.f2])) ∧ Below wB.heap.size wB w' ∧ (_ ∧ _ ∧ _ ∧ _) ∧ _))
 have KC := ak (HC.mono fun e w' (h : e = .returned (.string (joinS [digS r.f2])) ∧ _ ∧ _) => (⟨h.1, h.2.1, CE _ h.2.1, HD3.out _ _ h.2.1 (Kd.C_below cC h.2.2)⟩ : e = .returned (.string (joinS [digS r.f2])) ∧ Below wB.heap.size wB w' ∧ (_ ∧ _ ∧ _ ∧ _) ∧ _))
 obtain ⟨x0, x1, x2, x3⟩ := CE wB.drew (below_drew (Below.refl _ _))
 have CEE := ak CE
 have HBB := ak hbB
 have HWB := ak hwB
 clear HA HB HC cB cC HD1 HD3 hT CE hblk hbB hwB
 generalize joinS [digS r.f2] = s1 at *
 generalize joinS [digS r.f3, digS r.f0, digS r.f1] = s3 at *
 have z1 : s1.size + 1 ≤ 9223372036854775807 := by omega
 have z2 : (s1 ++ (⟨#[120]⟩ : ByteArray)).size + s3.size ≤ 9223372036854775807 := by rw [ByteArray.size_append]; have : (⟨#[120]⟩ : ByteArray).size = 1 := rfl; omega
 have z1b : (9223372036854775807 < s1.size + 1) = False := eq_false (by omega)
 have z2s : s1.size + 1 + s3.size ≤ 9223372036854775807 := by omega
 have z2b : (9223372036854775807 < s1.size + 1 + s3.size) = False := eq_false (by omega)
 have z2c : (9223372036854775807 < (s1 ++ (⟨#[120]⟩ : ByteArray)).size + s3.size) = False := eq_false (by omega)
 go_enter Tryz.func85, Tryz.ntmps85
 go_upto_region 1 with fail
 rw [← HWB.out]
 go_region_held3 (fun w' => w'.cell? ⟨w.heap.size, 0, none⟩ = some (.int .i64 r.f0) ∧ w'.cell? ⟨w.heap.size, 1, none⟩ = some (.int .i64 r.f1) ∧ w'.cell? ⟨w.heap.size, 2, none⟩ = some (.int .i64 r.f2) ∧ w'.cell? ⟨w.heap.size, 3, none⟩ = some (.int .i64 r.f3)) (first | exact ⟨x0, x1, x2, x3⟩ | exact CEE.out _ (by assumption) | exact CEE.out _ (below_alloc (by assumption) _) | exact CEE.out _ (below_drew (below_alloc (Below.refl _ _) _))) (first
  | (go_at_call 86; with_reducible refine KA.out.mono ?_; rintro e w3 ⟨rfl, hb3, y0, y1, y2, y3⟩)
  | (go_at_call 86; with_reducible refine KB.out.mono ?_; rintro e w3 ⟨rfl, hb3, ⟨y0, y1, y2, y3⟩, K15⟩)
  | (go_at_call 86; with_reducible refine KC.out.mono ?_; rintro e w3 ⟨rfl, hb3, ⟨y0, y1, y2, y3⟩, K15⟩)
  | (go_at_call 86; with_reducible refine K15.mono ?_; rintro e w4 ⟨rfl, hb4⟩)
  | (go_at_call 86; with_reducible refine (H3.out _ hb3).mono ?_; rintro e w4 ⟨rfl, hb4⟩))
 all_goals (go_wp2; go_ret; exact ⟨rfl, HBB.out.trans (hb4.mono HBB.out.size)⟩)
end Go.Proofs.YtkobpbbegalfpaaGreatDoor
namespace Go.Proofs.YtkobpbbegalfpaaGreatDoor
open Go.RowKit YtkobpbbegalfpaaGreatDoorW.PrintWords YtkobpbbegalfpaaGreatDoorW.PrintLast YtkobpbbegalfpaaGreatDoorW.PrintMore
set_option linter.unusedVariables false
set_option linter.unusedSimpArgs false
set_option maxRecDepth 100000
def TextAt (B b : Nat) (p : Value) (l : List UInt8) (w : World) : Prop := Lib.BuilderAt 105 5 B b p (Lib.byteCells l) w
def TextIs (B b : Nat) (l : List UInt8) (w : World) : Prop := TextAt B b (.pointer none) l w ∨ TextAt B b (.pointer (some ⟨b, 0, none⟩)) l w
def KeepT (b : Nat) (w w' : World) : Prop := ∀ (x : Nat) (cs : Array Value) (t : Nat), w.heap[x]? = some (.cells cs t (0, 0)) → x ≠ b → t ≠ 5 → w'.heap[x]? = some (.cells cs t (0, 0))
theorem KeepT.trans {b : Nat} {w w' w'' : World} (h : KeepT b w w') (k : KeepT b w' w'') : KeepT b w w'' := fun x cs t h1 h2 h3 => k x cs t (h x cs t h1 h2 h3) h2 h3
theorem KeepT.ofBelow {b : Nat} {w w' : World} (h : Below w.heap.size w w') : KeepT b w w' := fun x cs t h1 _ _ => (h.block x (blk_lt h1)).trans h1
theorem KeepT.set {b : Nat} {w w' : World} (h : KeepT b w w') (i : Nat) (v : Value) : KeepT b w (w'.setCell ⟨b, i, none⟩ v) := fun x cs t h1 h2 h3 => (Below.heap_setCell _ _ _ _ h2).trans (h x cs t h1 h2 h3)
theorem KeepT.own {b B : Nat} {w w1 w2 : World} {v : Value} {n : Nat} {xs : List Value} (h : KeepT b w w1) (hown : w1.ownsRow B 5 1 v n xs) (hg : w1.grownBy w2 v.ownBlock) : KeepT b w w2 := fun x cs t h1 h2 h3 => by
 have h4 := h x cs t h1 h2 h3
 exact (hg.block x (blk_lt h4) (fun e => Lib.ownBlock_ne hown h4 h3 e.symm)).trans h4
theorem sizeText : (Tryz.prog.info? 103).map (fun i => i.size) = some 2 := by kernel_rfl
set_option maxHeartbeats 1000000 in
theorem copy_used (b : Nat) (w : World) (h0 : w.cell? ⟨b, 0, none⟩ = some (.pointer (some ⟨b, 0, none⟩))) :
  Calls Tryz.prog 105 #[.pointer (some ⟨b, 0, none⟩)] w fun e w' => e = .returned (.tuple #[]) ∧ w' = w := by
 obtain ⟨j, hj, _⟩ := Option.map_eq_some_iff.1 sizeText
 go_enter Tryz.func105, Tryz.ntmps105
 go_wp2
 try rw [Lib.run_neq_ptr_same w _ Tryz.underlying101 hj]
 go_wp2
 go_end0
 exact ⟨rfl, rfl⟩
set_option maxHeartbeats 1000000 in
theorem copy_fresh (b : Nat) (w : World) (h0 : w.cell? ⟨b, 0, none⟩ = some (.pointer none)) (hsh : w.shape? b = some (105, 2)) (hfz : w.frozen? ⟨b, 0, none⟩ = false) :
  Calls Tryz.prog 105 #[.pointer (some ⟨b, 0, none⟩)] w fun e w' => e = .returned (.tuple #[]) ∧ w' = w.setCell ⟨b, 0, none⟩ (.pointer (some ⟨b, 0, none⟩)) := by
 obtain ⟨j, hj, hjs⟩ := Option.map_eq_some_iff.1 sizeText
 go_enter Tryz.func105, Tryz.ntmps105
 go_wp2
 rw [Lib.run_to_unsafe w ⟨b, 0, none⟩ Tryz.underlying101 Tryz.underlying110 hj (by rw [hjs]; decide) hsh (Nat.zero_lt_succ 1)]
 simp only [Result.andThen]
 rw [Oper.upon_value]
 go_wp2
 rw [run_callFunc_extern Tryz.func126 (by kernel_rfl) (by kernel_rfl) (by kernel_rfl) (e := Extern.AbiNoEscape.same) (by kernel_rfl)]
 rw [Lib.run_noEscape]
 simp only [Result.andThen]
 rw [Oper.upon_value]
 go_wp2
 rw [Lib.run_from_unsafe w ⟨b, 0, none⟩ Tryz.underlying110 Tryz.underlying101 hj hsh (by kernel_rfl)]
 simp only [Result.andThen]
 rw [Oper.upon_value]
 go_wp2
 go_end0
 exact ⟨rfl, rfl⟩
theorem copy_calls (B b : Nat) (l : List UInt8) (w : World) (h : TextIs B b l w) :
  Calls Tryz.prog 105 #[.pointer (some ⟨b, 0, none⟩)] w fun e w' => e = .returned (.tuple #[]) ∧ (TextAt B b (.pointer (some ⟨b, 0, none⟩)) l w' ∧ Below B w w' ∧ KeepT b w w') := by
 rcases h with h | h
 ·refine (copy_fresh b w h.cell0 h.shape h.frozen0).mono ?_
  rintro e w' ⟨rfl, rfl⟩
  exact ⟨rfl, h.used _, (Below.refl B w).setCell (p := ⟨b, 0, none⟩) h.1 _, (KeepT.ofBelow (Below.refl _ _)).set 0 _⟩
 ·refine (copy_used b w h.cell0).mono ?_
  rintro e w' ⟨rfl, rfl⟩
  exact ⟨rfl, h, Below.refl B _, KeepT.ofBelow (Below.refl _ _)⟩
theorem byteCells_snoc (l : List UInt8) (c : UInt8) : Lib.byteCells (l ++ [c]) = Lib.byteCells l ++ [.int .u8 c.toNat] := by simp [Lib.byteCells]
theorem byteCells_str (l : List UInt8) (s : ByteArray) : Lib.byteCells (l ++ s.data.toList) = Lib.byteCells l ++ Lib.strCells s := by
 simp [Lib.byteCells, Lib.strCells]
set_option maxHeartbeats 2000000 in
theorem wbyte_calls (B b : Nat) (l : List UInt8) (c : UInt8) (w : World) (h : TextIs B b l w) (hlen : l.length + 1 ≤ 140737488355328) (hBw : B ≤ w.heap.size) :
  Calls Tryz.prog 87 #[.pointer (some ⟨b, 0, none⟩), .int .u8 c.toNat] w fun e w' => e = .returned .nilIface ∧ (TextAt B b (.pointer (some ⟨b, 0, none⟩)) (l ++ [c]) w' ∧ Below B w w' ∧ KeepT b w w') := by
 obtain ⟨i0, hi, hz⟩ := Option.map_eq_some_iff.1 (show (Tryz.prog.info? 5).map (fun i => (i.zero, i.size, i.bytes)) = some (some (.int .u8 0), 1, 1) by kernel_rfl)
 obtain ⟨hz0, hz1, hz2⟩ : i0.zero = some (.int .u8 0) ∧ i0.size = 1 ∧ i0.bytes = 1 := by simpa using hz
 have hbl : (Lib.byteCells l).length = l.length := Lib.byteCells_length l
 have HCC := ak (copy_calls B b l w h)
 go_enter Tryz.func87, Tryz.ntmps87
 go_wp2_with (go_at_call 105; refine HCC.out.mono ?_)
 rintro e w1 ⟨rfl, h1, hb1, hk1⟩
 obtain ⟨hB, v, hbk, hown, hne⟩ := h1
 have c0 : w1.cell? ⟨b, 0, none⟩ = some (.pointer (some ⟨b, 0, none⟩)) := by rw [Lib.cell_of_heap hbk]; rfl
 have c1 : w1.cell? ⟨b, 1, none⟩ = some v := by rw [Lib.cell_of_heap hbk]; rfl
 go_wp2_with (at_builtin; refine wpList_append_own _ rfl _ _ 64 rfl B 5 i0 (.int .u8 0) 1 1 Tryz.underlying64 hi hz0 hz1 hz2 rfl (by decide) _ _ _ rfl (hown.alloc _) ⟨w1.heap.size, 0, none⟩ 1 1 [.int .u8 c.toNat] rfl rfl ?c1 ?c2 ?c3 ?c4 ?c5 ?_)
 case c1 =>
  intro j u hj
  match j, hj with
  | 0, hj => simp at hj; subst hj; simp [Addr.add]
 case c2 => intro u hu; simp at hu; subst hu; rfl
 case c3 => unfold maxLen; omega
 case c4 => omega
 case c5 => have := hb1.size; simp; omega
 intro v' w2 hown' hgrow _
 have hlt : b < w1.heap.size := by
  rcases Nat.lt_or_ge b w1.heap.size with h' | h'
  ·exact h'
  ·simp [Array.getElem?_eq_none h'] at hbk
 have hb2 : w2.heap[b]? = some (.cells #[.pointer (some ⟨b, 0, none⟩), v] 105 (0, 0)) := by
  rw [hgrow.block b (by simp; omega) (fun e => hne e.symm), Lib.alloc_old w1 _ b hlt]
  exact hbk
 have d0 : w2.cell? ⟨b, 0, none⟩ = some (.pointer (some ⟨b, 0, none⟩)) := by rw [Lib.cell_of_heap hb2]; rfl
 have d1 : w2.cell? ⟨b, 1, none⟩ = some v := by rw [Lib.cell_of_heap hb2]; rfl
 have f1 : w2.frozen? ⟨b, 1, none⟩ = false := Lib.frozen_of_heap hb2 1
 obtain ⟨g, cap, rfl⟩ : ∃ g cap, v' = .slice (some ⟨g, 0, none⟩) (l.length + 1) cap := by
  rcases hown'.2 with ⟨_, h0⟩ | ⟨g, cap, cur, hv, _⟩
  ·omega
  ·exact ⟨g, cap, hv⟩
 go_wp2
 go_ret
 refine ⟨rfl, ?_, ?_, ?_⟩
 ·unfold TextAt
  rw [byteCells_snoc]
  exact Lib.BuilderAt.put (T := 105) (e := 5) hB hb2 (bs' := Lib.byteCells l ++ [.int .u8 c.toNat]) (by simpa [hbl] using hown') (by decide)
 ·exact ((hb1.alloc (by have := hb1.size; omega) _).grown hgrow (by have := hb1.size; simp; omega) (fun k hk => (hown.lt k hk).1)).setCell (p := ⟨b, 1, none⟩) hB _
 ·exact ((hk1.trans (KeepT.ofBelow (below_alloc (Below.refl _ _) _))).own (hown.alloc _) hgrow).set 1 _
set_option maxHeartbeats 2000000 in
theorem wstr_calls (B b : Nat) (l : List UInt8) (s : ByteArray) (w : World) (h : TextIs B b l w) (hlen : l.length + s.size ≤ 140737488355328) (hBw : B ≤ w.heap.size) :
  Calls Tryz.prog 84 #[.pointer (some ⟨b, 0, none⟩), .string s] w fun e w' => e = .returned (.tuple #[.int .i64 s.size, .nilIface]) ∧ (TextAt B b (.pointer (some ⟨b, 0, none⟩)) (l ++ s.data.toList) w' ∧ Below B w w' ∧ KeepT b w w') := by
 obtain ⟨i0, hi, hz⟩ := Option.map_eq_some_iff.1 (show (Tryz.prog.info? 5).map (fun i => (i.zero, i.size, i.bytes)) = some (some (.int .u8 0), 1, 1) by kernel_rfl)
 obtain ⟨hz0, hz1, hz2⟩ : i0.zero = some (.int .u8 0) ∧ i0.size = 1 ∧ i0.bytes = 1 := by simpa using hz
 have hbl : (Lib.byteCells l).length = l.length := Lib.byteCells_length l
 have HCC := ak (copy_calls B b l w h)
 go_enter Tryz.func84, Tryz.ntmps84
 go_wp2_with (go_at_call 105; refine HCC.out.mono ?_)
 rintro e w1 ⟨rfl, h1, hb1, hk1⟩
 obtain ⟨hB, v, hbk, hown, hne⟩ := h1
 have c0 : w1.cell? ⟨b, 0, none⟩ = some (.pointer (some ⟨b, 0, none⟩)) := by rw [Lib.cell_of_heap hbk]; rfl
 have c1 : w1.cell? ⟨b, 1, none⟩ = some v := by rw [Lib.cell_of_heap hbk]; rfl
 go_wp2_with (at_builtin; refine Lib.wpList_append_own_string _ rfl _ _ 64 9 rfl B 5 i0 Tryz.underlying64 Tryz.underlying9 hi hz0 hz1 hz2 _ _ _ rfl hown s rfl ?c3 ?c4 ?c5 ?_)
 case c3 => unfold maxLen; omega
 case c4 => omega
 case c5 => have := hb1.size; omega
 intro v' w2 hown' hgrow _
 have hlt : b < w1.heap.size := by
  rcases Nat.lt_or_ge b w1.heap.size with h' | h'
  ·exact h'
  ·simp [Array.getElem?_eq_none h'] at hbk
 have hb2 : w2.heap[b]? = some (.cells #[.pointer (some ⟨b, 0, none⟩), v] 105 (0, 0)) := by
  rw [hgrow.block b hlt (fun e => hne e.symm)]
  exact hbk
 have d0 : w2.cell? ⟨b, 0, none⟩ = some (.pointer (some ⟨b, 0, none⟩)) := by rw [Lib.cell_of_heap hb2]; rfl
 have d1 : w2.cell? ⟨b, 1, none⟩ = some v := by rw [Lib.cell_of_heap hb2]; rfl
 have f1 : w2.frozen? ⟨b, 1, none⟩ = false := Lib.frozen_of_heap hb2 1
 obtain ⟨ao, n', cap, rfl⟩ : ∃ ao n' cap, v' = .slice ao n' cap := by
  rcases hown'.2 with ⟨hv, _⟩ | ⟨g, cap, cur, hv, _⟩
  ·exact ⟨_, _, _, hv⟩
  ·exact ⟨_, _, _, hv⟩
 go_wp2
 go_ret2
 refine ⟨rfl, ?_, ?_, ?_⟩
 ·unfold TextAt
  rw [byteCells_str]
  exact Lib.BuilderAt.put (T := 105) (e := 5) hB hb2 (bs' := Lib.byteCells l ++ Lib.strCells s) (by simpa [Lib.strCells_length, hbl] using hown') (by decide)
 ·exact (hb1.grown hgrow (by have := hb1.size; omega) (fun k hk => (hown.lt k hk).1)).setCell (p := ⟨b, 1, none⟩) hB _
 ·exact (hk1.own hown hgrow).set 1 _
set_option maxHeartbeats 2000000 in
theorem bstr_calls (B b : Nat) (l : List UInt8) (w : World) (h : TextIs B b l w) (h0 : l ≠ []) :
  Calls Tryz.prog 60 #[.pointer (some ⟨b, 0, none⟩)] w fun e w' => e = .returned (.string ⟨l.toArray⟩) ∧ Below B w w' := by
 obtain ⟨p, hB, v, hbk, hown, hne⟩ : ∃ p, TextAt B b p l w := by
  rcases h with h | h
  ·exact ⟨_, h⟩
  ·exact ⟨_, h⟩
 have hl0 : l.length ≠ 0 := by simpa using h0
 rw [Lib.byteCells_length] at hown
 obtain ⟨g, cap, cur, rfl, hbg, hg, hnc, hcm, hcs, htake⟩ : ∃ g cap cur, v = .slice (some ⟨g, 0, none⟩) l.length cap ∧ B ≤ g ∧ w.heap[g]? = some (.cells cur 5 (0, 0)) ∧ l.length ≤ cap ∧ cap ≤ maxLen ∧ cur.size = cap * 1 ∧ cur.toList.take (l.length * 1) = Lib.byteCells l := by
  rcases hown.2 with ⟨_, hz⟩ | ⟨g, cap, cur, hv, r⟩
  ·exact absurd hz hl0
  ·exact ⟨g, cap, cur, hv, r⟩
 have c1 : w.drew.cell? ⟨b, 1, none⟩ = some (.slice (some ⟨g, 0, none⟩) l.length cap) := by
  have : w.drew.heap[b]? = some (.cells #[p, .slice (some ⟨g, 0, none⟩) l.length cap] 105 (0, 0)) := hbk
  rw [Lib.cell_of_heap this]; rfl
 have hSD : (Builtin.unsafeSliceData_ #[64] 142 #[.slice (some ⟨g, 0, none⟩) l.length cap]).run Tryz.prog w.drew = .ok (.pointer (some ⟨g, 0, none⟩)) w.drew :=
  Lib.run_unsafeSliceData_row _ _ _ _ _ _ (by omega)
 have hUS : (Builtin.unsafeString_ #[142, 3] 9 #[.pointer (some ⟨g, 0, none⟩), .int .i64 l.length]).run Tryz.prog w.drew = .ok (.string ⟨l.toArray⟩) (w.drew.freeze ⟨g, 0, none⟩ l.length) := by
  refine Lib.run_unsafeString_row w.drew 142 3 9 5 Tryz.underlying142 (by kernel_rfl) g cur.size (by have hg' : w.drew.heap[g]? = some (.cells cur 5 (0, 0)) := hg; simp [World.shape?, hg']) l h0 (by omega) (by unfold maxLen at hcm; omega) ?_
  intro j x hx
  have := hown.cells (g := g) rfl j (.int .u8 x.toNat) (by simp [Lib.byteCells, hx])
  exact this
 have mixed : Tryz.prog.follows Departure.mixedOrders = true := by kernel_rfl
 go_enter Tryz.func60, Tryz.ntmps60
 go_wp2
 go_region_o
 all_goals (go_wp2; go_ret; exact ⟨rfl, Lib.below_freeze (Below.drew (Below.refl B w)) (p := ⟨g, 0, none⟩) hbg _⟩)
end Go.Proofs.YtkobpbbegalfpaaGreatDoor
