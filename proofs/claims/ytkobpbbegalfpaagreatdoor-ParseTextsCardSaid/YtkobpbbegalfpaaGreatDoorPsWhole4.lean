/-
  Joined texts: PsSize, PsCatch, PsWhole, PsWhole2, PsWhole3, PsWhole4.
-/
import Derived.Test.YtkobpbbegalfpaaGreatDoorTiGeo
import Derived.Test.YtkobpbbegalfpaaGreatDoorPsTot
import Derived.Defers
import Derived.Recover
namespace Go.Proofs.YtkobpbbegalfpaaGreatDoor
open Go.RowKit YtkobpbbegalfpaaGreatDoorW.PrintWords YtkobpbbegalfpaaGreatDoorW.PrintLast YtkobpbbegalfpaaGreatDoorW.PrintMore PParseBodies
set_option linter.unusedVariables false
set_option linter.unusedSimpArgs false
theorem numP_gt {s : ByteArray} {i : Nat} {p : Int × Nat} (h : numP headR s i = .ok p) : i + 1 ≤ p.2 := by
 unfold numP at h
 split at h
 ·rename_i he
  obtain ⟨_, e, hp⟩ := head_ok he
  cases h
  show i + 1 ≤ i + ((headR (s.extract i s.size)).2.1).toNat
  omega
 ·cases h
theorem rectP7 {s : ByteArray} {i : Nat} {r : (Int × Int × Int × Int) × Nat} (h : rectP headR s i = .ok r) : i + 7 ≤ r.2 := by
 unfold rectP at h
 cases h0 : numP headR s i with
 | error q => rw [h0] at h; cases h
 | ok p0 =>
  rw [h0] at h
  have l0 := numP_gt h0
  cases h1 : eatP s p0.2 120 with
  | error q => simp only [bind, Except.bind, h1] at h; cases h
  | ok a1 =>
   simp only [bind, Except.bind, h1] at h
   obtain ⟨e1, g1, _⟩ := eatP_le (by decide) h1
   cases h2 : numP headR s a1 with
   | error q => rw [h2] at h; cases h
   | ok p2 =>
    simp only [h2] at h
    have l2 := numP_gt h2
    cases h3 : eatP s p2.2 44 with
    | error q => rw [h3] at h; cases h
    | ok a3 =>
     simp only [h3] at h
     obtain ⟨e3, g3, _⟩ := eatP_le (by decide) h3
     cases h4 : numP headR s a3 with
     | error q => rw [h4] at h; cases h
     | ok p4 =>
      simp only [h4] at h
      have l4 := numP_gt h4
      cases h5 : eatP s p4.2 44 with
      | error q => rw [h5] at h; cases h
      | ok a5 =>
       simp only [h5] at h
       obtain ⟨e5, g5, _⟩ := eatP_le (by decide) h5
       cases h6 : numP headR s a5 with
       | error q => rw [h6] at h; cases h
       | ok p6 =>
        simp only [h6] at h
        have l6 := numP_gt h6
        cases h
        show i + 7 ≤ p6.2
        omega
theorem cellsL_snoc (l : List SC) (c : SC) : (cellsL (l ++ [c])).length = (cellsL l).length + (cells c).length := by
 rw [cellsL_flat, cellsL_flat]
 simp
theorem cells_mk (k : Int) (r : SR) (id : Int) (l : List SC) : (cells ⟨k, r, id, l⟩).length = 1 + (cellsL l).length := by
 rw [cells_eq]
 simp
 omega
theorem size_all (s : ByteArray) : ∀ m,
  (∀ i deep p, i ≤ s.size → cellP headR s m i deep = some (.ok p) → 7 * (cells p.1).length + i ≤ p.2) ∧
  (∀ c deep i p, i < s.size → ¬ c = 0 → kidsP headR s m c deep i = some (.ok p) → 7 * (cellsL p.1).length + i ≤ p.2) ∧
  (∀ c deep out j p, j ≤ s.size → ¬ c = 0 → loopP headR s m c deep out j = some (.ok p) → 7 * (cellsL p.1).length + j ≤ p.2 + 7 * (cellsL out).length) := by
 intro m
 induction m with
 | zero => exact ⟨fun i deep p _ h => (by rw [cellP] at h; cases h), fun c deep i p _ _ h => (by rw [kidsP] at h; cases h), fun c deep out j p _ _ h => (by rw [loopP] at h; cases h)⟩
 | succ m ih =>
  obtain ⟨ih1, ih2, ih3⟩ := ih
  refine ⟨?_, ?_, ?_⟩
  ·intro i deep p hi h
   rw [cellP] at h
   cases hr : rectP headR s i with
   | error q => rw [hr] at h; cases h
   | ok r =>
    have g7 := rectP7 hr
    have hle := rectP_le headB_R hi hr
    rw [hr] at h
    simp only at h
    by_cases h1 : aheadI s r.2 = 123
    ·rw [if_pos h1] at h
     have hl := aheadI_lt (by decide) h1
     cases hk : kidsP headR s m 125 deep r.2 with
     | none => rw [hk] at h; cases h
     | some x =>
      rw [hk] at h
      cases x with
      | error q => cases h
      | ok y =>
       have := ih2 125 deep r.2 y hl (by decide) hk
       cases h
       simp only [cells_mk]
       omega
    ·rw [if_neg h1] at h
     by_cases h2 : aheadI s r.2 = 91
     ·rw [if_pos h2] at h
      have hl := aheadI_lt (by decide) h2
      cases hk : kidsP headR s m 93 deep r.2 with
      | none => rw [hk] at h; cases h
      | some x =>
       rw [hk] at h
       cases x with
       | error q => cases h
       | ok y =>
        have := ih2 93 deep r.2 y hl (by decide) hk
        cases h
        simp only [cells_mk]
        omega
     ·rw [if_neg h2] at h
      cases he : eatP s r.2 44 with
      | error q => rw [he] at h; cases h
      | ok a =>
       obtain ⟨e1, _, _⟩ := eatP_le (by decide) he
       rw [he] at h
       simp only at h
       cases hn : numP headR s a with
       | error q => rw [hn] at h; cases h
       | ok n =>
        have := numP_gt hn
        rw [hn] at h
        cases h
        simp only [cells_mk, cellsL_nil, List.length_nil]
        omega
  ·intro c deep i p hi hc h
   rw [kidsP] at h
   by_cases hdp : 1000 ≤ deep
   ·rw [if_pos hdp] at h; cases h
   ·rw [if_neg hdp] at h
    cases hcl : cellP headR s m (i + 1) (deep + 1) with
    | none => rw [hcl] at h; cases h
    | some x =>
     rw [hcl] at h
     cases x with
     | error q => cases h
     | ok y =>
      simp only at h
      have hp := (places headR headB_R s m).1 (i + 1) (deep + 1) y (by omega) hcl
      have h1 := ih1 (i + 1) (deep + 1) y (by omega) hcl
      have h3 := ih3 c deep [y.1] y.2 p hp.2 hc h
      have e : (cellsL [y.1]).length = (cells y.1).length := by rw [cellsL_cons, cellsL_nil]; simp
      omega
  ·intro c deep out j p hj hc h
   rw [loopP] at h
   by_cases hcn : out.length < 2 ∨ ¬ aheadI s j = c
   ·rw [if_pos hcn] at h
    cases he : eatP s j 44 with
    | error q => rw [he] at h; cases h
    | ok a =>
     obtain ⟨rfl, hl, _⟩ := eatP_le (by decide) he
     rw [he] at h
     simp only at h
     cases hcl : cellP headR s m (j + 1) (deep + 1) with
     | none => rw [hcl] at h; cases h
     | some x =>
      rw [hcl] at h
      cases x with
      | error q => cases h
      | ok y =>
       simp only at h
       have hp := (places headR headB_R s m).1 (j + 1) (deep + 1) y (by omega) hcl
       have h1 := ih1 (j + 1) (deep + 1) y (by omega) hcl
       have h3 := ih3 c deep (out ++ [y.1]) y.2 p hp.2 hc h
       have e := cellsL_snoc out y.1
       omega
   ·rw [if_neg hcn] at h
    cases h
    show 7 * (cellsL out).length + j ≤ j + 1 + 7 * (cellsL out).length
    omega
def cellR (s : ByteArray) : Except (Int × Nat) (SC × Nat) := (cellP headR s (2 * s.size + 3) 0 1).getD (.error (0, 0))
theorem cellR_eq (s : ByteArray) : cellP headR s (2 * s.size + 3) 0 1 = some (cellR s) := by
 obtain ⟨r, h⟩ := cellP_some headR headB_R s
 unfold cellR
 rw [h]
 rfl
theorem cellR_size {s : ByteArray} {p : SC × Nat} (h : cellR s = .ok p) : 7 * (cells p.1).length ≤ s.size := by
 have e := cellR_eq s
 rw [h] at e
 have h1 := (size_all s _).1 0 1 p (Nat.zero_le _) e
 have h2 := ((places headR headB_R s _).1 0 1 p (Nat.zero_le _) e).2
 omega
theorem cellR_no {s : ByteArray} (hs : s.size ≤ 100000) {q : Int × Nat} (h : cellR s = .error q) : q.1 = 2 ∨ q.1 = 3 := by
 have e := cellR_eq s
 rw [h] at e
 exact refCell_no s hs _ q e
theorem cellR_f (s : ByteArray) (hs : s.size ≤ 100000) (k : Nat) (hk : 42 * s.size + 80 ≤ k) : sashref11_cell.f k s 0 1 = some (cellT (cellR s)) :=
 refCell_pure s hs _ _ (cellR_eq s) k (by omega)
theorem numP_site {s : ByteArray} {i : Nat} {q : Int × Nat} (h : numP headR s i = .error q) : q.2 = i := by
 unfold numP at h
 split at h
 ·cases h
 ·cases h; rfl
theorem eatP_site {s : ByteArray} {i : Nat} {c : Int} {q : Int × Nat} (h : eatP s i c = .error q) : q.2 = i := by
 unfold eatP at h
 split at h
 ·cases h
 ·cases h; rfl
theorem rectP_site {s : ByteArray} {i : Nat} (hi : i ≤ s.size) {q : Int × Nat} (h : rectP headR s i = .error q) : q.2 ≤ s.size := by
 unfold rectP at h
 cases h0 : numP headR s i with
 | error q0 => rw [h0] at h; cases h; rw [numP_site h0]; exact hi
 | ok p0 =>
  rw [h0] at h
  have g0 := numP_le headB_R hi h0
  cases h1 : eatP s p0.2 120 with
  | error q => simp only [bind, Except.bind, h1] at h; cases h; rw [eatP_site h1]; exact g0
  | ok a1 =>
   simp only [bind, Except.bind, h1] at h
   obtain ⟨e1, l1, _⟩ := eatP_le (by decide) h1
   cases h2 : numP headR s a1 with
   | error q => rw [h2] at h; cases h; rw [numP_site h2]; omega
   | ok p2 =>
    simp only [h2] at h
    have g2 := numP_le headB_R (by omega) h2
    cases h3 : eatP s p2.2 44 with
    | error q => rw [h3] at h; cases h; rw [eatP_site h3]; exact g2
    | ok a3 =>
     simp only [h3] at h
     obtain ⟨e3, l3, _⟩ := eatP_le (by decide) h3
     cases h4 : numP headR s a3 with
     | error q => rw [h4] at h; cases h; rw [numP_site h4]; omega
     | ok p4 =>
      simp only [h4] at h
      have g4 := numP_le headB_R (by omega) h4
      cases h5 : eatP s p4.2 44 with
      | error q => rw [h5] at h; cases h; rw [eatP_site h5]; exact g4
      | ok a5 =>
       simp only [h5] at h
       obtain ⟨e5, l5, _⟩ := eatP_le (by decide) h5
       cases h6 : numP headR s a5 with
       | error q => rw [h6] at h; cases h; rw [numP_site h6]; omega
       | ok p6 => simp only [h6] at h; cases h
theorem site_all (s : ByteArray) : ∀ m,
  (∀ i deep q, i ≤ s.size → cellP headR s m i deep = some (.error q) → q.2 ≤ s.size) ∧
  (∀ c deep i q, i < s.size → ¬ c = 0 → kidsP headR s m c deep i = some (.error q) → q.2 ≤ s.size) ∧
  (∀ c deep out j q, j ≤ s.size → ¬ c = 0 → loopP headR s m c deep out j = some (.error q) → q.2 ≤ s.size) := by
 intro m
 induction m with
 | zero => exact ⟨fun i deep p _ h => (by rw [cellP] at h; cases h), fun c deep i p _ _ h => (by rw [kidsP] at h; cases h), fun c deep out j p _ _ h => (by rw [loopP] at h; cases h)⟩
 | succ m ih =>
  obtain ⟨ih1, ih2, ih3⟩ := ih
  refine ⟨?_, ?_, ?_⟩
  ·intro i deep q hi h
   rw [cellP] at h
   cases hr : rectP headR s i with
   | error q => rw [hr] at h; cases h; exact rectP_site hi hr
   | ok r =>
    have hle := rectP_le headB_R hi hr
    rw [hr] at h
    simp only at h
    by_cases h1 : aheadI s r.2 = 123
    ·rw [if_pos h1] at h
     have hl := aheadI_lt (by decide) h1
     cases hk : kidsP headR s m 125 deep r.2 with
     | none => rw [hk] at h; cases h
     | some x =>
      rw [hk] at h
      cases x with
      | error q => cases h; exact ih2 125 deep r.2 _ hl (by decide) hk
      | ok y => cases h
    ·rw [if_neg h1] at h
     by_cases h2 : aheadI s r.2 = 91
     ·rw [if_pos h2] at h
      have hl := aheadI_lt (by decide) h2
      cases hk : kidsP headR s m 93 deep r.2 with
      | none => rw [hk] at h; cases h
      | some x =>
       rw [hk] at h
       cases x with
       | error q => cases h; exact ih2 93 deep r.2 _ hl (by decide) hk
       | ok y => cases h
     ·rw [if_neg h2] at h
      cases he : eatP s r.2 44 with
      | error q => rw [he] at h; cases h; rw [eatP_site he]; exact hle
      | ok a =>
       obtain ⟨e1, l1, _⟩ := eatP_le (by decide) he
       rw [he] at h
       simp only at h
       cases hn : numP headR s a with
       | error q => rw [hn] at h; cases h; rw [numP_site hn]; omega
       | ok n => rw [hn] at h; cases h
  ·intro c deep i q hi hc h
   rw [kidsP] at h
   by_cases hdp : 1000 ≤ deep
   ·rw [if_pos hdp] at h; cases h; exact Nat.le_of_lt hi
   ·rw [if_neg hdp] at h
    cases hcl : cellP headR s m (i + 1) (deep + 1) with
    | none => rw [hcl] at h; cases h
    | some x =>
     rw [hcl] at h
     cases x with
     | error q => cases h; exact ih1 (i + 1) (deep + 1) _ (by omega) hcl
     | ok y =>
      simp only at h
      have hp := (places headR headB_R s m).1 (i + 1) (deep + 1) y (by omega) hcl
      exact ih3 c deep [y.1] y.2 q hp.2 hc h
  ·intro c deep out j q hj hc h
   rw [loopP] at h
   by_cases hcn : out.length < 2 ∨ ¬ aheadI s j = c
   ·rw [if_pos hcn] at h
    cases he : eatP s j 44 with
    | error q => rw [he] at h; cases h; rw [eatP_site he]; exact hj
    | ok a =>
     obtain ⟨rfl, hl, _⟩ := eatP_le (by decide) he
     rw [he] at h
     simp only at h
     cases hcl : cellP headR s m (j + 1) (deep + 1) with
     | none => rw [hcl] at h; cases h
     | some x =>
      rw [hcl] at h
      cases x with
      | error q => cases h; exact ih1 (j + 1) (deep + 1) _ (by omega) hcl
      | ok y =>
       simp only at h
       have hp := (places headR headB_R s m).1 (j + 1) (deep + 1) y (by omega) hcl
       exact ih3 c deep (out ++ [y.1]) y.2 q hp.2 hc h
   ·rw [if_neg hcn] at h
    cases h
theorem cellR_site {s : ByteArray} {q : Int × Nat} (h : cellR s = .error q) : q.2 ≤ s.size := by
 have e := cellR_eq s
 rw [h] at e
 exact (site_all s _).1 0 1 q (Nat.zero_le _) e
set_option maxRecDepth 100000
theorem catch_idle (p q : Addr) (w : World) :
  CallsD Tryz.prog 46 #[.pointer (some p), .pointer (some q)] .returning w fun e u' w' => e = .returned (.tuple #[]) ∧ u' = .returning ∧ w' = w := by
 refine callsD_of_wpS Tryz.func46 rfl fun c₀ cs hu => ?_
 apply wpS_seq
 apply wpS_region
 simp [wpOpsS, go_sem, recoverD, hu, Tryz.ntmps46, Exit.thenS]
 refine wpS_of_wp ?_
 go_wp2
 cases c₀
 simp_all [bodyPostS, results, Tryz.results46]
def layB : ByteArray := ⟨#[108, 97, 121, 111, 117, 116]⟩
abbrev CaughtW (w3 : World) (cb eb g' : Nat) : World := (((((((w3.setCell ⟨cb, 0, none⟩ (.int .u8 0)).setCell ⟨cb, 1, none⟩ (.int .i64 0)).setCell ⟨cb, 2, none⟩ (.int .i64 0)).setCell ⟨cb, 3, none⟩ (.int .i64 0)).setCell ⟨cb, 4, none⟩ (.int .i64 0)).setCell ⟨cb, 5, none⟩ (.int .i64 0)).setCell ⟨cb, 6, none⟩ (.slice none 0 0)).setCell ⟨eb, 0, none⟩ (.iface 78 (.pointer (some ⟨g', 0, none⟩)))
set_option maxHeartbeats 4000000 in
theorem catch_panicking (cb eb g : Nat) (w : World) (cs0 : Array Value) (e0 : Value) (hcs : cs0.size = 7) (hc : w.heap[cb]? = some (.cells cs0 27 (0, 0))) (he : w.heap[eb]? = some (.cells #[e0] 29 (0, 0))) (hne : ¬ cb = eb) :
  CallsD Tryz.prog 46 #[.pointer (some ⟨cb, 0, none⟩), .pointer (some ⟨eb, 0, none⟩)] (.panicking [{ v := .iface 86 (.agg #[.iface 82 (.pointer (some ⟨g, 0, none⟩))]), recovered := false }]) w fun e u' w' =>
   e = .returned (.tuple #[]) ∧ u' = .panicking [{ v := .iface 86 (.agg #[.iface 82 (.pointer (some ⟨g, 0, none⟩))]), recovered := true }] ∧
    ∃ w3 g', Below w.heap.size w w3 ∧ Inside w3 w.heap.size g' (.iface 82 (.pointer (some ⟨g, 0, none⟩))) [layB] ∧ w' = CaughtW w3 cb eb g' := by
 obtain ⟨W1, hW1⟩ : ∃ W1, W1 = w.alloc (.cells #[.iface 82 (.pointer (some ⟨g, 0, none⟩))] 86) := ⟨_, rfl⟩
 obtain ⟨W2, hW2⟩ : ∃ W2, W2 = W1.alloc (.cells #[.string layB] 9) := ⟨_, rfl⟩
 have hC : Kd.string.C W2 (some ⟨W1.heap.size, 0, none⟩) 1 [layB] := by rw [hW2]; exact litC W1 9 [layB] (by decide)
 have e1 : W1.heap.size = w.heap.size + 1 := by rw [hW1]; simp
 rw [e1] at hC
 have HI := ak (in_calls 82 (.pointer (some ⟨g, 0, none⟩)) ⟨w.heap.size + 1, 0, none⟩ 1 1 [layB] W2 rfl (by decide) (Nat.le_refl _) (by decide) hC)
 have HB2 : Aside0 (Below w.heap.size w W2) := ⟨by rw [hW2, hW1]; exact below_alloc (below_alloc (Below.refl _ _) _) _⟩
 have hE : ((w.alloc (.cells #[.iface 82 (.pointer (some ⟨g, 0, none⟩))] 86)).alloc (.cells #[.string (⟨#[108, 97, 121, 111, 117, 116]⟩ : ByteArray)] 9)) = W2 := by rw [hW2, hW1]; rfl
 have HE := ak hE
 have HC := ak hc
 have HH := ak he
 clear hW1 hW2 hC e1 hE hc he
 have hta : ∀ w : World, (Instr.typeAssert (.iface 86 (.agg #[.iface 82 (.pointer (some ⟨g, 0, none⟩))])) 20 86 true).run Tryz.prog w = .ok (.tuple #[.agg #[.iface 82 (.pointer (some ⟨g, 0, none⟩))], .bool true]) w := fun _ => by first | rfl | kernel_rfl
 refine callsD_of_wpS Tryz.func46 rfl fun c₀ cs hu => ?_
 simp only [Tryz.ntmps46, List.size_toArray, List.length_cons, List.length_nil, Nat.reduceAdd, Nat.reduceSub, Array.replicate_succ, Array.replicate_zero, List.push_toArray, List.append_toArray, List.nil_append, List.cons_append]
 apply wpS_seq
 apply wpS_region
 simp [wpOpsS, go_sem, recoverD, hu, Exit.thenS]
 refine wpS_of_wp ?_
 go_wp2_with fail
 rw [HE.out]
 with_reducible refine HI.out.mono ?_
 rintro e w3 ⟨g', rfl, hin, hb3⟩
 have HB3 := ak (HB2.out.trans (hb3.mono HB2.out.size))
 have HIN : Aside0 (Inside w3 w.heap.size g' (.iface 82 (.pointer (some ⟨g, 0, none⟩))) [layB]) := ⟨Nat.le_trans HB2.out.size hin.1, by obtain ⟨_, v, q1, q2⟩ := hin; exact ⟨v, q1, Kd.R_lower q2 HB2.out.size⟩⟩
 have hcb := (HB3.out.block cb (blk_lt HC.out)).trans HC.out
 have heb := (HB3.out.block eb (blk_lt HH.out)).trans HH.out
 have c0 : w3.cell? ⟨cb, 0, none⟩ = some (cs0[0]'(by omega)) := by simp [World.cell?, hcb, hcs]
 have f0 := blk_frozen hcb 0
 have c1 : w3.cell? ⟨cb, 1, none⟩ = some (cs0[1]'(by omega)) := by simp [World.cell?, hcb, hcs]
 have f1 := blk_frozen hcb 1
 have c2 : w3.cell? ⟨cb, 2, none⟩ = some (cs0[2]'(by omega)) := by simp [World.cell?, hcb, hcs]
 have f2 := blk_frozen hcb 2
 have c3 : w3.cell? ⟨cb, 3, none⟩ = some (cs0[3]'(by omega)) := by simp [World.cell?, hcb, hcs]
 have f3 := blk_frozen hcb 3
 have c4 : w3.cell? ⟨cb, 4, none⟩ = some (cs0[4]'(by omega)) := by simp [World.cell?, hcb, hcs]
 have f4 := blk_frozen hcb 4
 have c5 : w3.cell? ⟨cb, 5, none⟩ = some (cs0[5]'(by omega)) := by simp [World.cell?, hcb, hcs]
 have f5 := blk_frozen hcb 5
 have c6 : w3.cell? ⟨cb, 6, none⟩ = some (cs0[6]'(by omega)) := by simp [World.cell?, hcb, hcs]
 have f6 := blk_frozen hcb 6
 have x0 : w3.cell? ⟨eb, 0, none⟩ = some e0 := by simp [World.cell?, heb]
 have y0 := blk_frozen heb 0
 have hne2 : ¬ eb = cb := fun h => hne h.symm
 clear hin hb3 hcb heb HI HE hta
 go_wp2
 exact ⟨rfl, _, rfl, .tuple #[], by simp [results, Tryz.results46], rfl, rfl, w3, HB3.out, g', HIN.out, rfl⟩
structure WSt (w W : World) (b : Nat) (s : ByteArray) (off : Int) (j : Nat) (cs : Array Value) : Prop where
 st : Step w b (j : Int) W
 rd : RdA W b s j off
 res : W.heap[w.heap.size]? = some (.cells cs 27 (0, 0))
 err : W.heap[w.heap.size + 1]? = some (.cells #[.nilIface] 29 (0, 0))
theorem WSt.new {w : World} {b : Nat} {s : ByteArray} {off : Int} {i : Nat} (k : RdA w b s i off) : WSt w ((w.alloc (.cells zeroA 27)).alloc (.cells #[.nilIface] 29)) b s off i zeroA := by
 have e : (w.alloc (.cells zeroA 27)).heap.size = w.heap.size + 1 := by simp
 refine ⟨Step.of_below k (below_alloc (below_alloc (Below.refl _ _) _) _), k.below (below_alloc (below_alloc (Below.refl _ _) _) _), blk_alloc (heap_alloc_new w _) _, ?_⟩
 have := heap_alloc_new (w.alloc (.cells zeroA 27)) (.cells #[.nilIface] 29)
 rw [e] at this
 exact this
theorem WSt.step {w W W' : World} {b : Nat} {s : ByteArray} {off i0 : Int} {i : Nat} {j : Int} {cs : Array Value} (p : WSt w W b s off i cs) (k : RdA w b s i0 off) (h : Step W b j W') :
  Step w b j W' ∧ W'.heap[w.heap.size]? = some (.cells cs 27 (0, 0)) ∧ W'.heap[w.heap.size + 1]? = some (.cells #[.nilIface] 29 (0, 0)) :=
 ⟨Step.trans k p.st h,
  (h.block _ (blk_lt p.res)).trans ((Below.heap_setCell W ⟨b, 1, none⟩ _ _ (Nat.ne_of_gt k.lt)).trans p.res),
  (h.block _ (blk_lt p.err)).trans ((Below.heap_setCell W ⟨b, 1, none⟩ _ _ (Nat.ne_of_gt (Nat.lt_succ_of_lt k.lt))).trans p.err)⟩
theorem caught_c {w3 : World} {cb eb g' : Nat} {cs0 : Array Value} (h : w3.heap[cb]? = some (.cells cs0 27 (0, 0))) (hne : ¬ cb = eb) (hz : (((((((cs0.setIfInBounds 0 (.int .u8 0)).setIfInBounds 1 (.int .i64 0)).setIfInBounds 2 (.int .i64 0)).setIfInBounds 3 (.int .i64 0)).setIfInBounds 4 (.int .i64 0)).setIfInBounds 5 (.int .i64 0)).setIfInBounds 6 (.slice none 0 0)) = zeroA) : (CaughtW w3 cb eb g').heap[cb]? = some (.cells zeroA 27 (0, 0)) := by
 have h7 := (blk_set (blk_set (blk_set (blk_set (blk_set (blk_set (blk_set h 0 (.int .u8 0)) 1 (.int .i64 0)) 2 (.int .i64 0)) 3 (.int .i64 0)) 4 (.int .i64 0)) 5 (.int .i64 0)) 6 (.slice none 0 0))
 rw [hz] at h7
 exact blk_far h7 (p := ⟨eb, 0, none⟩) hne _
theorem caught_e {w3 : World} {cb eb g' : Nat} {e0 : Value} (he : w3.heap[eb]? = some (.cells #[e0] 29 (0, 0))) (hne : ¬ cb = eb) : (CaughtW w3 cb eb g').heap[eb]? = some (.cells #[.iface 78 (.pointer (some ⟨g', 0, none⟩))] 29 (0, 0)) :=
 blk_set (blk_far (blk_far (blk_far (blk_far (blk_far (blk_far (blk_far he (p := ⟨cb, 0, none⟩) (fun e => hne e.symm) (.int .u8 0)) (p := ⟨cb, 1, none⟩) (fun e => hne e.symm) (.int .i64 0)) (p := ⟨cb, 2, none⟩) (fun e => hne e.symm) (.int .i64 0)) (p := ⟨cb, 3, none⟩) (fun e => hne e.symm) (.int .i64 0)) (p := ⟨cb, 4, none⟩) (fun e => hne e.symm) (.int .i64 0)) (p := ⟨cb, 5, none⟩) (fun e => hne e.symm) (.int .i64 0)) (p := ⟨cb, 6, none⟩) (fun e => hne e.symm) (.slice none 0 0)) 0 _
theorem caught_far {w3 : World} {cb eb g' g : Nat} {t : TypeId} {cs : Array Value} (h : w3.heap[g]? = some (.cells cs t (0, 0))) (h1 : g ≠ cb) (h2 : g ≠ eb) : (CaughtW w3 cb eb g').heap[g]? = some (.cells cs t (0, 0)) :=
 blk_far (blk_far (blk_far (blk_far (blk_far (blk_far (blk_far (blk_far h (p := ⟨cb, 0, none⟩) h1 (.int .u8 0)) (p := ⟨cb, 1, none⟩) h1 (.int .i64 0)) (p := ⟨cb, 2, none⟩) h1 (.int .i64 0)) (p := ⟨cb, 3, none⟩) h1 (.int .i64 0)) (p := ⟨cb, 4, none⟩) h1 (.int .i64 0)) (p := ⟨cb, 5, none⟩) h1 (.int .i64 0)) (p := ⟨cb, 6, none⟩) h1 (.slice none 0 0)) (p := ⟨eb, 0, none⟩) h2 _
theorem ins_set {w : World} {base g : Nat} {err : Value} {xs : List ByteArray} (h : Inside w base g err xs) {p : Addr} (hp : p.block < base) (u : Value) : Inside (w.setCell p u) base g err xs := by
 obtain ⟨h1, v, h2, h3⟩ := h
 exact ⟨h1, v, blk_far h2 (by omega) u, Kd.R_mono (Kd.R_step (Kd.R_bound h3) (fun k hk _ => Below.heap_setCell w p u k (by have := hk.2.1; omega))) (fun _ _ => trivial)⟩
theorem caught_in {w3 : World} {cb eb g' g base : Nat} {err : Value} {xs : List ByteArray} (h : Inside w3 base g err xs) (h1 : cb < base) (h2 : eb < base) : Inside (CaughtW w3 cb eb g') base g err xs :=
 ins_set (ins_set (ins_set (ins_set (ins_set (ins_set (ins_set (ins_set h (p := ⟨cb, 0, none⟩) h1 (.int .u8 0)) (p := ⟨cb, 1, none⟩) h1 (.int .i64 0)) (p := ⟨cb, 2, none⟩) h1 (.int .i64 0)) (p := ⟨cb, 3, none⟩) h1 (.int .i64 0)) (p := ⟨cb, 4, none⟩) h1 (.int .i64 0)) (p := ⟨cb, 5, none⟩) h1 (.int .i64 0)) (p := ⟨cb, 6, none⟩) h1 (.slice none 0 0)) (p := ⟨eb, 0, none⟩) h2 _
theorem caught_st {B w3 : World} {cb eb g' n : Nat} (h : Below n B w3) (h1 : n ≤ cb) (h2 : n ≤ eb) : Below n B (CaughtW w3 cb eb g') :=
 Below.setCell (((((((h.setCell (p := ⟨cb, 0, none⟩) h1 (.int .u8 0)).setCell (p := ⟨cb, 1, none⟩) h1 (.int .i64 0)).setCell (p := ⟨cb, 2, none⟩) h1 (.int .i64 0)).setCell (p := ⟨cb, 3, none⟩) h1 (.int .i64 0)).setCell (p := ⟨cb, 4, none⟩) h1 (.int .i64 0)).setCell (p := ⟨cb, 5, none⟩) h1 (.int .i64 0)).setCell (p := ⟨cb, 6, none⟩) h1 (.slice none 0 0)) (p := ⟨eb, 0, none⟩) h2 _
def BadPost (w : World) (b : Nat) (no pl : Int) (e : Ending) (w' : World) : Prop :=
 ∃ g' g, e = .returned (.tuple #[.agg zeroA, .iface 78 (.pointer (some ⟨g', 0, none⟩))]) ∧ Inside w' w.heap.size g' (.iface 82 (.pointer (some ⟨g, 0, none⟩))) [layB] ∧
  w'.heap[g]? = some (.cells #[.int .i64 no, .int .i64 pl] 84 (0, 0)) ∧ ∃ j, Step w b j w'
set_option maxHeartbeats 8000000 in
theorem whole_bad (hd : ByteArray → Int × Int × Int) (I : World → Prop) (w : World) (b : Nat) (s : ByteArray) (m : Nat) (off : Int) (hs : s.size ≤ 100000) (ho : 0 ≤ off ∧ off ≤ 1000) (hb : HeadB hd) (hc : HeadC hd b I) (hI : I w) (k : RdA w b s ((0 : Nat) : Int) off)
  (q : Int × Nat) (hr : cellP hd s m 0 1 = some (.error q)) :
  Calls Tryz.prog 27 #[.pointer (some ⟨b, 0, none⟩)] w (BadPost w b q.1 (off + q.2)) := by
 have hmf : ∀ (fn : Fn) (first cap : Array Value) (w : World), (Instr.makeFunc fn first cap).run Tryz.prog w = .ok (.func fn first cap) w := fun _ _ _ _ => rfl
 obtain ⟨W0, hW0⟩ : ∃ W0, W0 = (w.alloc (.cells zeroA 27)).alloc (.cells #[.nilIface] 29) := ⟨_, rfl⟩
 have HP0 : Aside0 (WSt w W0 b s off 0 zeroA) := ⟨by rw [hW0]; exact WSt.new k⟩
 have HK := ak k
 have HI0 : Aside0 (I W0) := ⟨hc.step hI HP0.out.st⟩
 have HW := ak hW0
 have HN : Aside0 (Calls Tryz.prog 47 #[.pointer (some ⟨b, 0, none⟩), .int .i64 1] W0 (CellPost W0 b off (.error q))) := ⟨cell_calls hd I W0 b s 0 1 m off hs ho (Nat.zero_le _) (by decide) hb hc HI0.out HP0.out.rd _ hr⟩
 clear hW0 k hI hr
 go_enter_defers Tryz.func27, Tryz.ntmps27
 go_wp2_with fail
 rw [← HW.out]
 with_reducible refine HN.out.mono ?_
 rintro e w1 ⟨⟨g, rfl, hg, hg2⟩, jj, hst⟩
 obtain ⟨h1, h2, h3⟩ := HP0.out.step HK.out hst
 have HS := ak h1
 have H2 := ak h2
 have H3 := ak h3
 have HG := ak hg2
 clear hst h1 h2 h3 hg2
 refine leaves_cons (f := 46) (args := #[.pointer (some ⟨w.heap.size, 0, none⟩), .pointer (some ⟨w.heap.size + 1, 0, none⟩)]) (by simp) (by simp [go_sem]) ?_
 refine (catch_panicking w.heap.size (w.heap.size + 1) g w1 _ _ (by decide) H2.out H3.out (by omega)).mono ?_
 rintro e u' w'' ⟨rfl, rfl, w3, g', hb3, hin, rfl⟩
 have HC := ak (caught_c (g' := g') (eb := w.heap.size + 1) ((hb3.block _ (blk_lt H2.out)).trans H2.out) (by omega) rfl)
 have HE := ak (caught_e (g' := g') (cb := w.heap.size) ((hb3.block _ (blk_lt H3.out)).trans H3.out) (by omega))
 have HSZ := HS.out.size
 have hlt : w.heap.size + 1 < w1.heap.size := blk_lt H3.out
 have hlt0 : w.heap.size + 1 < W0.heap.size := blk_lt HP0.out.err
 have HI := ak (caught_in (g' := g') (cb := w.heap.size) (eb := w.heap.size + 1) hin (by omega) hlt)
 have HF := ak (caught_far (g' := g') (cb := w.heap.size) (eb := w.heap.size + 1) ((hb3.block _ (blk_lt HG.out)).trans HG.out) (by omega) (by omega))
 have HT : Aside0 (Step w b jj (CaughtW w3 w.heap.size (w.heap.size + 1) g')) := ⟨caught_st (Below.trans HS.out (hb3.mono HS.out.size)) (Nat.le_refl _) (Nat.le_succ _)⟩
 generalize CaughtW w3 w.heap.size (w.heap.size + 1) g' = WF at *
 have hc1 := HC.out
 have he1 := HE.out
 have z0 : WF.cell? ⟨w.heap.size + 1, 0, none⟩ = some (.iface 78 (.pointer (some ⟨g', 0, none⟩))) := by simp [World.cell?, he1]
 have y0 : WF.cell? ⟨w.heap.size, 0, none⟩ = some (.int .u8 0) := by simp [World.cell?, hc1]
 have y1 : WF.cell? ⟨w.heap.size, 1, none⟩ = some (.int .i64 0) := by simp [World.cell?, hc1]
 have y2 : WF.cell? ⟨w.heap.size, 2, none⟩ = some (.int .i64 0) := by simp [World.cell?, hc1]
 have y3 : WF.cell? ⟨w.heap.size, 3, none⟩ = some (.int .i64 0) := by simp [World.cell?, hc1]
 have y4 : WF.cell? ⟨w.heap.size, 4, none⟩ = some (.int .i64 0) := by simp [World.cell?, hc1]
 have y5 : WF.cell? ⟨w.heap.size, 5, none⟩ = some (.int .i64 0) := by simp [World.cell?, hc1]
 have y6 : WF.cell? ⟨w.heap.size, 6, none⟩ = some (.slice none 0 0) := by simp [World.cell?, hc1]
 clear hc1 he1 hin hb3
 have key : BadPost w b q.1 (off + q.2) (.returned (.tuple #[.agg zeroA, .iface 78 (.pointer (some ⟨g', 0, none⟩))])) WF :=
  ⟨g', g, rfl, ⟨Nat.le_trans HSZ HI.out.1, by obtain ⟨_, v, q1, q2⟩ := HI.out; exact ⟨v, q1, Kd.R_lower q2 HSZ⟩⟩, HF.out, _, HT.out⟩
 have HKEY := ak key
 clear key
 simp [Leaves, settle, results, Tryz.results27, go_sem, y0, y1, y2, y3, y4, y5, y6, z0]
 exact HKEY.out
abbrev cellV (x : SC) (v : Value) : Array Value := #[.int .u8 x.f0, .int .i64 x.f1.f0, .int .i64 x.f1.f1, .int .i64 x.f1.f2, .int .i64 x.f1.f3, .int .i64 x.f2, v]
abbrev PutC (W : World) (n : Nat) (x : SC) (v : Value) : World := (((((((W.setCell ⟨n, 0, none⟩ (.int .u8 x.f0)).setCell ⟨n, 1, none⟩ (.int .i64 x.f1.f0)).setCell ⟨n, 2, none⟩ (.int .i64 x.f1.f1)).setCell ⟨n, 3, none⟩ (.int .i64 x.f1.f2)).setCell ⟨n, 4, none⟩ (.int .i64 x.f1.f3)).setCell ⟨n, 5, none⟩ (.int .i64 x.f2)).setCell ⟨n, 6, none⟩ (v))
theorem put_c {W : World} {n : Nat} (x : SC) (v : Value) (h : W.heap[n]? = some (.cells zeroA 27 (0, 0))) : (PutC W n x v).heap[n]? = some (.cells (cellV x v) 27 (0, 0)) := (blk_set (blk_set (blk_set (blk_set (blk_set (blk_set (blk_set h 0 (.int .u8 x.f0)) 1 (.int .i64 x.f1.f0)) 2 (.int .i64 x.f1.f1)) 3 (.int .i64 x.f1.f2)) 4 (.int .i64 x.f1.f3)) 5 (.int .i64 x.f2)) 6 (v))
theorem put_far {W : World} {n g : Nat} {t : TypeId} {cs : Array Value} (x : SC) (v : Value) (h : W.heap[g]? = some (.cells cs t (0, 0))) (h1 : g ≠ n) : (PutC W n x v).heap[g]? = some (.cells cs t (0, 0)) := (blk_far (blk_far (blk_far (blk_far (blk_far (blk_far (blk_far h (p := ⟨n, 0, none⟩) h1 (.int .u8 x.f0)) (p := ⟨n, 1, none⟩) h1 (.int .i64 x.f1.f0)) (p := ⟨n, 2, none⟩) h1 (.int .i64 x.f1.f1)) (p := ⟨n, 3, none⟩) h1 (.int .i64 x.f1.f2)) (p := ⟨n, 4, none⟩) h1 (.int .i64 x.f1.f3)) (p := ⟨n, 5, none⟩) h1 (.int .i64 x.f2)) (p := ⟨n, 6, none⟩) h1 (v))
structure WGd (w W : World) (b : Nat) (s : ByteArray) (off : Int) (j : Nat) (x : SC) (v : Value) : Prop where
 st : Step w b (j : Int) W
 rd : RdA W b s j off
 res : W.heap[w.heap.size]? = some (.cells (cellV x v) 27 (0, 0))
 err : W.heap[w.heap.size + 1]? = some (.cells #[.nilIface] 29 (0, 0))
 kids : Kd.R k27 27 W (w.heap.size + 2) (fun _ => True) v x.f3
theorem WGd.put {w W : World} {b : Nat} {s : ByteArray} {off i0 : Int} {j : Nat} {x : SC} {v : Value} (k : RdA w b s i0 off) (h1 : Step w b (j : Int) W) (h2 : RdA W b s j off) (h3 : W.heap[w.heap.size]? = some (.cells zeroA 27 (0, 0))) (h4 : W.heap[w.heap.size + 1]? = some (.cells #[.nilIface] 29 (0, 0)))
  (h5 : Kd.R k27 27 W (w.heap.size + 2) (fun _ => True) v x.f3) : WGd w (PutC W w.heap.size x v) b s off j x v :=
 ⟨step7 h1 _ _ _ _ _ _ _, put_far x v h2 (Nat.ne_of_lt k.lt), put_c x v h3, put_far x v h4 (by omega), R_set7 h5 (by omega) _ _ _ _ _ _ _⟩
theorem WGd.below {w W W' : World} {b : Nat} {s : ByteArray} {off : Int} {j : Nat} {x : SC} {v : Value} (p : WGd w W b s off j x v) (h : Below W.heap.size W W') : WGd w W' b s off j x v :=
 ⟨Below.trans p.st (h.mono p.st.size), p.rd.below h, (h.block _ (blk_lt p.res)).trans p.res, (h.block _ (blk_lt p.err)).trans p.err, Kd.R_below p.kids h⟩
set_option maxHeartbeats 8000000 in
theorem whole_rest (hd : ByteArray → Int × Int × Int) (I : World → Prop) (w : World) (b : Nat) (s : ByteArray) (m : Nat) (off : Int) (hs : s.size ≤ 100000) (ho : 0 ≤ off ∧ off ≤ 1000) (hb : HeadB hd) (hc : HeadC hd b I) (hI : I w) (k : RdA w b s ((0 : Nat) : Int) off)
  (p : SC × Nat) (hr : cellP hd s m 0 1 = some (.ok p)) (hp : p.2 < s.size) :
  Calls Tryz.prog 27 #[.pointer (some ⟨b, 0, none⟩)] w (BadPost w b 2 (off + p.2)) := by
 have hmf : ∀ (fn : Fn) (first cap : Array Value) (w : World), (Instr.makeFunc fn first cap).run Tryz.prog w = .ok (.func fn first cap) w := fun _ _ _ _ => rfl
 obtain ⟨W0, hW0⟩ : ∃ W0, W0 = (w.alloc (.cells zeroA 27)).alloc (.cells #[.nilIface] 29) := ⟨_, rfl⟩
 have HP0 : Aside0 (WSt w W0 b s off 0 zeroA) := ⟨by rw [hW0]; exact WSt.new k⟩
 have HK := ak k
 have HI0 : Aside0 (I W0) := ⟨hc.step hI HP0.out.st⟩
 have HW := ak hW0
 have HN : Aside0 (Calls Tryz.prog 47 #[.pointer (some ⟨b, 0, none⟩), .int .i64 1] W0 (CellPost W0 b off (.ok p))) := ⟨cell_calls hd I W0 b s 0 1 m off hs ho (Nat.zero_le _) (by decide) hb hc HI0.out HP0.out.rd _ hr⟩
 clear hW0 k hI hr
 go_enter_defers Tryz.func27, Tryz.ntmps27
 go_wp2_with fail
 rw [← HW.out]
 with_reducible refine HN.out.mono ?_
 rintro e w1 ⟨v, rfl, hR, hst⟩
 obtain ⟨h1, h2, h3⟩ := HP0.out.step HK.out hst
 have HRD := ak (hst.rd HP0.out.rd)
 have HS := ak h1
 have H2 := ak h2
 have H3 := ak h3
 obtain ⟨A, cp, rfl⟩ := Kd.R_slice hR
 obtain ⟨c0, c1, c2⟩ := HRD.out.cells
 have y0 : w1.cell? ⟨w.heap.size, 0, none⟩ = some (.int .u8 0) := by simp [World.cell?, h2]
 have f0 := blk_frozen h2 0
 have y1 : w1.cell? ⟨w.heap.size, 1, none⟩ = some (.int .i64 0) := by simp [World.cell?, h2]
 have f1 := blk_frozen h2 1
 have y2 : w1.cell? ⟨w.heap.size, 2, none⟩ = some (.int .i64 0) := by simp [World.cell?, h2]
 have f2 := blk_frozen h2 2
 have y3 : w1.cell? ⟨w.heap.size, 3, none⟩ = some (.int .i64 0) := by simp [World.cell?, h2]
 have f3 := blk_frozen h2 3
 have y4 : w1.cell? ⟨w.heap.size, 4, none⟩ = some (.int .i64 0) := by simp [World.cell?, h2]
 have f4 := blk_frozen h2 4
 have y5 : w1.cell? ⟨w.heap.size, 5, none⟩ = some (.int .i64 0) := by simp [World.cell?, h2]
 have f5 := blk_frozen h2 5
 have y6 : w1.cell? ⟨w.heap.size, 6, none⟩ = some (.slice none 0 0) := by simp [World.cell?, h2]
 have f6 := blk_frozen h2 6
 clear hst h1 h2 h3
 have hsz0 : W0.heap.size = w.heap.size + 2 := by rw [HW.out]; simp
 rw [hsz0] at hR
 have HD1 := ak (WGd.put (x := p.1) (v := .slice A p.1.f3.length cp) HK.out HS.out HRD.out H2.out H3.out hR)
 have HPI : Aside0 ((p.2 : Int) < (s.size : Int)) := ⟨by omega⟩
 clear hR
 go_upto_region 3 with fail
 obtain ⟨W1, hW1⟩ : ∃ W1, W1 = (((((((w1.setCell ⟨w.heap.size, 0, none⟩ (.int .u8 p.1.f0)).setCell ⟨w.heap.size, 1, none⟩ (.int .i64 p.1.f1.f0)).setCell ⟨w.heap.size, 2, none⟩ (.int .i64 p.1.f1.f1)).setCell ⟨w.heap.size, 3, none⟩ (.int .i64 p.1.f1.f2)).setCell ⟨w.heap.size, 4, none⟩ (.int .i64 p.1.f1.f3)).setCell ⟨w.heap.size, 5, none⟩ (.int .i64 p.1.f2)).setCell ⟨w.heap.size, 6, none⟩ (.slice A p.1.f3.length cp)) := ⟨_, rfl⟩
 have HD1 : Aside0 (WGd w W1 b s off p.2 p.1 (.slice A p.1.f3.length cp)) := ⟨by rw [hW1]; exact HD1.out⟩
 rw [← hW1]
 clear hW1
 obtain ⟨c0, c1, c2⟩ := HD1.out.rd.cells
 have hpi := HPI.out
 clear y0 y1 y2 y3 y4 y5 y6 f0 f1 f2 f3 f4 f5 f6
 go_quiet (fail)
 go_wp2_with fail
 have HD2 := ak (HD1.out.below (pw_below_drewN (Below.refl _ _) nq))
 have hsz2 : w.heap.size + 2 ≤ (W1.drewN nq).heap.size := blk_lt HD2.out.err
 have hw : IntKind.i64.wrap (off + (p.2 : Int)) = off + (p.2 : Int) := by rw [i64_w]; unfold wrap64; omega
 with_reducible refine (fail_calls (W1.drewN nq) b s p.2 off 2 p.2 (by decide) hw HD2.out.rd).mono ?_
 rintro e w2 ⟨⟨g, rfl, hg, hg2⟩, hb2⟩
 have HD9 := ak (HD2.out.below hb2)
 have HG : Aside0 (w.heap.size + 2 ≤ g ∧ w2.heap[g]? = some (.cells #[.int .i64 2, .int .i64 (off + (p.2 : Int))] 84 (0, 0))) := ⟨Nat.le_trans hsz2 hg, hg2⟩
 clear hw hg hg2 hb2
 refine leaves_cons (f := 46) (args := #[.pointer (some ⟨w.heap.size, 0, none⟩), .pointer (some ⟨w.heap.size + 1, 0, none⟩)]) (by simp) (by simp [go_sem]) ?_
 refine (catch_panicking w.heap.size (w.heap.size + 1) g w2 _ _ (by rfl) HD9.out.res HD9.out.err (by omega)).mono ?_
 rintro e u' w'' ⟨rfl, rfl, w3, g', hb3, hin, rfl⟩
 have HCC := ak (caught_c (g' := g') (eb := w.heap.size + 1) ((hb3.block _ (blk_lt HD9.out.res)).trans HD9.out.res) (by omega) rfl)
 have HEE := ak (caught_e (g' := g') (cb := w.heap.size) ((hb3.block _ (blk_lt HD9.out.err)).trans HD9.out.err) (by omega))
 have HSZ := HD9.out.st.size
 have hlt : w.heap.size + 1 < w2.heap.size := blk_lt HD9.out.err
 have HII := ak (caught_in (g' := g') (cb := w.heap.size) (eb := w.heap.size + 1) hin (by omega) hlt)
 have HFF := ak (caught_far (g' := g') (cb := w.heap.size) (eb := w.heap.size + 1) ((hb3.block _ (blk_lt HG.out.2)).trans HG.out.2) (by have := HG.out.1; omega) (by have := HG.out.1; omega))
 have HTT : Aside0 (Step w b _ (CaughtW w3 w.heap.size (w.heap.size + 1) g')) := ⟨caught_st (Below.trans HD9.out.st (hb3.mono HD9.out.st.size)) (Nat.le_refl _) (Nat.le_succ _)⟩
 generalize CaughtW w3 w.heap.size (w.heap.size + 1) g' = WF at *
 have hc1 := HCC.out
 have he1 := HEE.out
 have z0 : WF.cell? ⟨w.heap.size + 1, 0, none⟩ = some (.iface 78 (.pointer (some ⟨g', 0, none⟩))) := by simp [World.cell?, he1]
 have y0 : WF.cell? ⟨w.heap.size, 0, none⟩ = some (.int .u8 0) := by simp [World.cell?, hc1]
 have y1 : WF.cell? ⟨w.heap.size, 1, none⟩ = some (.int .i64 0) := by simp [World.cell?, hc1]
 have y2 : WF.cell? ⟨w.heap.size, 2, none⟩ = some (.int .i64 0) := by simp [World.cell?, hc1]
 have y3 : WF.cell? ⟨w.heap.size, 3, none⟩ = some (.int .i64 0) := by simp [World.cell?, hc1]
 have y4 : WF.cell? ⟨w.heap.size, 4, none⟩ = some (.int .i64 0) := by simp [World.cell?, hc1]
 have y5 : WF.cell? ⟨w.heap.size, 5, none⟩ = some (.int .i64 0) := by simp [World.cell?, hc1]
 have y6 : WF.cell? ⟨w.heap.size, 6, none⟩ = some (.slice none 0 0) := by simp [World.cell?, hc1]
 clear hc1 he1 hin hb3
 have key : BadPost w b 2 (off + (p.2 : Int)) (.returned (.tuple #[.agg zeroA, .iface 78 (.pointer (some ⟨g', 0, none⟩))])) WF :=
  ⟨g', g, rfl, ⟨Nat.le_trans HSZ HII.out.1, by obtain ⟨_, v, q1, q2⟩ := HII.out; exact ⟨v, q1, Kd.R_lower q2 HSZ⟩⟩, HFF.out, _, HTT.out⟩
 have HKEY := ak key
 clear key
 simp [Leaves, settle, results, Tryz.results27, go_sem, y0, y1, y2, y3, y4, y5, y6, z0]
 exact HKEY.out
set_option maxHeartbeats 8000000 in
theorem whole_may (hd : ByteArray → Int × Int × Int) (I : World → Prop) (w : World) (b : Nat) (s : ByteArray) (m : Nat) (off : Int) (hs : s.size ≤ 100000) (ho : 0 ≤ off ∧ off ≤ 1000) (hb : HeadB hd) (hc : HeadC hd b I) (hI : I w) (k : RdA w b s ((0 : Nat) : Int) off)
  (p : SC × Nat) (hr : cellP hd s m 0 1 = some (.ok p)) (hp : p.2 = s.size) (HMAY : ∀ W A, Kd.C k27 W (some A) 1 [p.1] → Calls Tryz.prog 49 #[.slice (some A) 1 1] W fun e w' => e = .returned (.bool false) ∧ Below W.heap.size W w') :
  Calls Tryz.prog 27 #[.pointer (some ⟨b, 0, none⟩)] w (BadPost w b 1 0) := by
 have hmf : ∀ (fn : Fn) (first cap : Array Value) (w : World), (Instr.makeFunc fn first cap).run Tryz.prog w = .ok (.func fn first cap) w := fun _ _ _ _ => rfl
 obtain ⟨W0, hW0⟩ : ∃ W0, W0 = (w.alloc (.cells zeroA 27)).alloc (.cells #[.nilIface] 29) := ⟨_, rfl⟩
 have HP0 : Aside0 (WSt w W0 b s off 0 zeroA) := ⟨by rw [hW0]; exact WSt.new k⟩
 have HK := ak k
 have HMM := ak HMAY
 have HI0 : Aside0 (I W0) := ⟨hc.step hI HP0.out.st⟩
 have HW := ak hW0
 have HN : Aside0 (Calls Tryz.prog 47 #[.pointer (some ⟨b, 0, none⟩), .int .i64 1] W0 (CellPost W0 b off (.ok p))) := ⟨cell_calls hd I W0 b s 0 1 m off hs ho (Nat.zero_le _) (by decide) hb hc HI0.out HP0.out.rd _ hr⟩
 clear hW0 k hI hr HMAY
 go_enter_defers Tryz.func27, Tryz.ntmps27
 go_wp2_with fail
 rw [← HW.out]
 with_reducible refine HN.out.mono ?_
 rintro e w1 ⟨v, rfl, hR, hst⟩
 obtain ⟨h1, h2, h3⟩ := HP0.out.step HK.out hst
 have HRD := ak (hst.rd HP0.out.rd)
 have HS := ak h1
 have H2 := ak h2
 have H3 := ak h3
 obtain ⟨A, cp, rfl⟩ := Kd.R_slice hR
 obtain ⟨c0, c1, c2⟩ := HRD.out.cells
 have y0 : w1.cell? ⟨w.heap.size, 0, none⟩ = some (.int .u8 0) := by simp [World.cell?, h2]
 have f0 := blk_frozen h2 0
 have y1 : w1.cell? ⟨w.heap.size, 1, none⟩ = some (.int .i64 0) := by simp [World.cell?, h2]
 have f1 := blk_frozen h2 1
 have y2 : w1.cell? ⟨w.heap.size, 2, none⟩ = some (.int .i64 0) := by simp [World.cell?, h2]
 have f2 := blk_frozen h2 2
 have y3 : w1.cell? ⟨w.heap.size, 3, none⟩ = some (.int .i64 0) := by simp [World.cell?, h2]
 have f3 := blk_frozen h2 3
 have y4 : w1.cell? ⟨w.heap.size, 4, none⟩ = some (.int .i64 0) := by simp [World.cell?, h2]
 have f4 := blk_frozen h2 4
 have y5 : w1.cell? ⟨w.heap.size, 5, none⟩ = some (.int .i64 0) := by simp [World.cell?, h2]
 have f5 := blk_frozen h2 5
 have y6 : w1.cell? ⟨w.heap.size, 6, none⟩ = some (.slice none 0 0) := by simp [World.cell?, h2]
 have f6 := blk_frozen h2 6
 clear hst h1 h2 h3
 have hsz0 : W0.heap.size = w.heap.size + 2 := by rw [HW.out]; simp
 rw [hsz0] at hR
 have HD1 := ak (WGd.put (x := p.1) (v := .slice A p.1.f3.length cp) HK.out HS.out HRD.out H2.out H3.out hR)
 have HPI : Aside0 (((p.2 : Int) < (s.size : Int)) = False ∧ decide ((p.2 : Int) < (s.size : Int)) = false) := ⟨eq_false (by omega), decide_eq_false (by omega)⟩
 clear hR
 go_upto_region 3 with fail
 obtain ⟨W1, hW1⟩ : ∃ W1, W1 = (((((((w1.setCell ⟨w.heap.size, 0, none⟩ (.int .u8 p.1.f0)).setCell ⟨w.heap.size, 1, none⟩ (.int .i64 p.1.f1.f0)).setCell ⟨w.heap.size, 2, none⟩ (.int .i64 p.1.f1.f1)).setCell ⟨w.heap.size, 3, none⟩ (.int .i64 p.1.f1.f2)).setCell ⟨w.heap.size, 4, none⟩ (.int .i64 p.1.f1.f3)).setCell ⟨w.heap.size, 5, none⟩ (.int .i64 p.1.f2)).setCell ⟨w.heap.size, 6, none⟩ (.slice A p.1.f3.length cp)) := ⟨_, rfl⟩
 have HD1 : Aside0 (WGd w W1 b s off p.2 p.1 (.slice A p.1.f3.length cp)) := ⟨by rw [hW1]; exact HD1.out⟩
 rw [← hW1]
 clear hW1
 obtain ⟨c0, c1, c2⟩ := HD1.out.rd.cells
 obtain ⟨hpi, hpi2⟩ := HPI.out
 clear y0 y1 y2 y3 y4 y5 y6 f0 f1 f2 f3 f4 f5 f6
 go_quiet (fail)
 go_upto_region 5 with fail
 have HD2 := ak (HD1.out.below (pw_below_drewN (Below.refl _ _) nq))
 generalize W1.drewN nq = W2 at *
 have hcc := HD2.out.res
 have y0 : W2.cell? ⟨w.heap.size, 0, none⟩ = some (.int .u8 p.1.f0) := by simp [World.cell?, hcc]
 have y1 : W2.cell? ⟨w.heap.size, 1, none⟩ = some (.int .i64 p.1.f1.f0) := by simp [World.cell?, hcc]
 have y2 : W2.cell? ⟨w.heap.size, 2, none⟩ = some (.int .i64 p.1.f1.f1) := by simp [World.cell?, hcc]
 have y3 : W2.cell? ⟨w.heap.size, 3, none⟩ = some (.int .i64 p.1.f1.f2) := by simp [World.cell?, hcc]
 have y4 : W2.cell? ⟨w.heap.size, 4, none⟩ = some (.int .i64 p.1.f1.f3) := by simp [World.cell?, hcc]
 have y5 : W2.cell? ⟨w.heap.size, 5, none⟩ = some (.int .i64 p.1.f2) := by simp [World.cell?, hcc]
 have y6 : W2.cell? ⟨w.heap.size, 6, none⟩ = some (.slice A p.1.f3.length cp) := by simp [World.cell?, hcc]
 clear hcc
 obtain ⟨W3, hW3⟩ : ∃ W3, W3 = W2.alloc (.cells #[.int .u8 p.1.f0, .int .i64 p.1.f1.f0, .int .i64 p.1.f1.f1, .int .i64 p.1.f1.f2, .int .i64 p.1.f1.f3, .int .i64 p.1.f2, .slice A p.1.f3.length cp] 27) := ⟨_, rfl⟩
 have HD3 : Aside0 (WGd w W3 b s off p.2 p.1 (.slice A p.1.f3.length cp)) := ⟨by rw [hW3]; exact HD2.out.below (below_alloc (Below.refl _ _) _)⟩
 have HMC : Aside0 (Calls Tryz.prog 49 #[.slice (some ⟨W2.heap.size, 0, none⟩) 1 1] W3 fun e w' => e = .returned (.bool false) ∧ Below W3.heap.size W3 w') := ⟨HMM.out W3 _ (by rw [hW3]; exact (Kd.R_reads' (R_one (Nat.zero_le _) p.1 (Kd.R_lower HD2.out.kids (Nat.zero_le _)))).2.2)⟩
 have HW3 := ak hW3
 clear hW3
 go_wp2_with fail
 rw [← HW3.out]
 with_reducible refine HMC.out.mono ?_
 rintro e w4 ⟨rfl, hb4⟩
 have HD4 := ak (HD3.out.below hb4)
 clear hb4
 go_wp2_with fail
 with_reducible refine (new_calls 1 0 w4 (by decide)).mono ?_
 rintro e w5 ⟨rfl, rfl⟩
 obtain ⟨W5, hW5⟩ : ∃ W5, W5 = w4.alloc (.cells #[.int .i64 1, .int .i64 0] 84) := ⟨_, rfl⟩
 have HD9 : Aside0 (WGd w W5 b s off p.2 p.1 (.slice A p.1.f3.length cp)) := ⟨by rw [hW5]; exact HD4.out.below (below_alloc (Below.refl _ _) _)⟩
 obtain ⟨g, hgg⟩ : ∃ g, g = w4.heap.size := ⟨_, rfl⟩
 have HG : Aside0 (w.heap.size + 2 ≤ g ∧ W5.heap[g]? = some (.cells #[.int .i64 1, .int .i64 0] 84 (0, 0))) := ⟨by rw [hgg]; exact blk_lt HD4.out.err, by rw [hW5, hgg]; exact heap_alloc_new w4 _⟩
 go_wp2
 rw [← hW5, ← hgg]
 clear hW5 hgg
 refine leaves_cons (f := 46) (args := #[.pointer (some ⟨w.heap.size, 0, none⟩), .pointer (some ⟨w.heap.size + 1, 0, none⟩)]) (by simp) (by simp [go_sem]) ?_
 refine (catch_panicking w.heap.size (w.heap.size + 1) g W5 _ _ (by rfl) HD9.out.res HD9.out.err (by omega)).mono ?_
 rintro e u' w'' ⟨rfl, rfl, w3, g', hb3, hin, rfl⟩
 have HCC := ak (caught_c (g' := g') (eb := w.heap.size + 1) ((hb3.block _ (blk_lt HD9.out.res)).trans HD9.out.res) (by omega) rfl)
 have HEE := ak (caught_e (g' := g') (cb := w.heap.size) ((hb3.block _ (blk_lt HD9.out.err)).trans HD9.out.err) (by omega))
 have HSZ := HD9.out.st.size
 have hlt : w.heap.size + 1 < W5.heap.size := blk_lt HD9.out.err
 have HII := ak (caught_in (g' := g') (cb := w.heap.size) (eb := w.heap.size + 1) hin (by omega) hlt)
 have HFF := ak (caught_far (g' := g') (cb := w.heap.size) (eb := w.heap.size + 1) ((hb3.block _ (blk_lt HG.out.2)).trans HG.out.2) (by have := HG.out.1; omega) (by have := HG.out.1; omega))
 have HTT : Aside0 (Step w b _ (CaughtW w3 w.heap.size (w.heap.size + 1) g')) := ⟨caught_st (Below.trans HD9.out.st (hb3.mono HD9.out.st.size)) (Nat.le_refl _) (Nat.le_succ _)⟩
 generalize CaughtW w3 w.heap.size (w.heap.size + 1) g' = WF at *
 have hc1 := HCC.out
 have he1 := HEE.out
 have z0 : WF.cell? ⟨w.heap.size + 1, 0, none⟩ = some (.iface 78 (.pointer (some ⟨g', 0, none⟩))) := by simp [World.cell?, he1]
 have y0 : WF.cell? ⟨w.heap.size, 0, none⟩ = some (.int .u8 0) := by simp [World.cell?, hc1]
 have y1 : WF.cell? ⟨w.heap.size, 1, none⟩ = some (.int .i64 0) := by simp [World.cell?, hc1]
 have y2 : WF.cell? ⟨w.heap.size, 2, none⟩ = some (.int .i64 0) := by simp [World.cell?, hc1]
 have y3 : WF.cell? ⟨w.heap.size, 3, none⟩ = some (.int .i64 0) := by simp [World.cell?, hc1]
 have y4 : WF.cell? ⟨w.heap.size, 4, none⟩ = some (.int .i64 0) := by simp [World.cell?, hc1]
 have y5 : WF.cell? ⟨w.heap.size, 5, none⟩ = some (.int .i64 0) := by simp [World.cell?, hc1]
 have y6 : WF.cell? ⟨w.heap.size, 6, none⟩ = some (.slice none 0 0) := by simp [World.cell?, hc1]
 clear hc1 he1 hin hb3
 have key : BadPost w b 1 0 (.returned (.tuple #[.agg zeroA, .iface 78 (.pointer (some ⟨g', 0, none⟩))])) WF :=
  ⟨g', g, rfl, ⟨Nat.le_trans HSZ HII.out.1, by obtain ⟨_, v, q1, q2⟩ := HII.out; exact ⟨v, q1, Kd.R_lower q2 HSZ⟩⟩, HFF.out, _, HTT.out⟩
 have HKEY := ak key
 clear key
 simp [Leaves, settle, results, Tryz.results27, go_sem, y0, y1, y2, y3, y4, y5, y6, z0]
 exact HKEY.out
set_option maxHeartbeats 8000000 in
theorem whole_tiles (hd : ByteArray → Int × Int × Int) (I : World → Prop) (w : World) (b : Nat) (s : ByteArray) (m : Nat) (off : Int) (hs : s.size ≤ 100000) (ho : 0 ≤ off ∧ off ≤ 1000) (hb : HeadB hd) (hc : HeadC hd b I) (hI : I w) (k : RdA w b s ((0 : Nat) : Int) off)
  (p : SC × Nat) (hr : cellP hd s m 0 1 = some (.ok p)) (hp : p.2 = s.size) (HMAY : ∀ W A, Kd.C k27 W (some A) 1 [p.1] → Calls Tryz.prog 49 #[.slice (some A) 1 1] W fun e w' => e = .returned (.bool true) ∧ Below W.heap.size W w') (HTIL : ∀ W A, Kd.C k27 W (some A) 1 [p.1] → Calls Tryz.prog 50 #[.slice (some A) 1 1] W fun e w' => e = .returned (.bool false) ∧ Below W.heap.size W w') :
  Calls Tryz.prog 27 #[.pointer (some ⟨b, 0, none⟩)] w (BadPost w b 5 0) := by
 have hmf : ∀ (fn : Fn) (first cap : Array Value) (w : World), (Instr.makeFunc fn first cap).run Tryz.prog w = .ok (.func fn first cap) w := fun _ _ _ _ => rfl
 obtain ⟨W0, hW0⟩ : ∃ W0, W0 = (w.alloc (.cells zeroA 27)).alloc (.cells #[.nilIface] 29) := ⟨_, rfl⟩
 have HP0 : Aside0 (WSt w W0 b s off 0 zeroA) := ⟨by rw [hW0]; exact WSt.new k⟩
 have HK := ak k
 have HMM := ak HMAY
 have HTL := ak HTIL
 have HI0 : Aside0 (I W0) := ⟨hc.step hI HP0.out.st⟩
 have HW := ak hW0
 have HN : Aside0 (Calls Tryz.prog 47 #[.pointer (some ⟨b, 0, none⟩), .int .i64 1] W0 (CellPost W0 b off (.ok p))) := ⟨cell_calls hd I W0 b s 0 1 m off hs ho (Nat.zero_le _) (by decide) hb hc HI0.out HP0.out.rd _ hr⟩
 clear hW0 k hI hr HMAY HTIL
 go_enter_defers Tryz.func27, Tryz.ntmps27
 go_wp2_with fail
 rw [← HW.out]
 with_reducible refine HN.out.mono ?_
 rintro e w1 ⟨v, rfl, hR, hst⟩
 obtain ⟨h1, h2, h3⟩ := HP0.out.step HK.out hst
 have HRD := ak (hst.rd HP0.out.rd)
 have HS := ak h1
 have H2 := ak h2
 have H3 := ak h3
 obtain ⟨A, cp, rfl⟩ := Kd.R_slice hR
 obtain ⟨c0, c1, c2⟩ := HRD.out.cells
 have y0 : w1.cell? ⟨w.heap.size, 0, none⟩ = some (.int .u8 0) := by simp [World.cell?, h2]
 have f0 := blk_frozen h2 0
 have y1 : w1.cell? ⟨w.heap.size, 1, none⟩ = some (.int .i64 0) := by simp [World.cell?, h2]
 have f1 := blk_frozen h2 1
 have y2 : w1.cell? ⟨w.heap.size, 2, none⟩ = some (.int .i64 0) := by simp [World.cell?, h2]
 have f2 := blk_frozen h2 2
 have y3 : w1.cell? ⟨w.heap.size, 3, none⟩ = some (.int .i64 0) := by simp [World.cell?, h2]
 have f3 := blk_frozen h2 3
 have y4 : w1.cell? ⟨w.heap.size, 4, none⟩ = some (.int .i64 0) := by simp [World.cell?, h2]
 have f4 := blk_frozen h2 4
 have y5 : w1.cell? ⟨w.heap.size, 5, none⟩ = some (.int .i64 0) := by simp [World.cell?, h2]
 have f5 := blk_frozen h2 5
 have y6 : w1.cell? ⟨w.heap.size, 6, none⟩ = some (.slice none 0 0) := by simp [World.cell?, h2]
 have f6 := blk_frozen h2 6
 clear hst h1 h2 h3
 have hsz0 : W0.heap.size = w.heap.size + 2 := by rw [HW.out]; simp
 rw [hsz0] at hR
 have HD1 := ak (WGd.put (x := p.1) (v := .slice A p.1.f3.length cp) HK.out HS.out HRD.out H2.out H3.out hR)
 have HPI : Aside0 (((p.2 : Int) < (s.size : Int)) = False ∧ decide ((p.2 : Int) < (s.size : Int)) = false) := ⟨eq_false (by omega), decide_eq_false (by omega)⟩
 clear hR
 go_upto_region 3 with fail
 obtain ⟨W1, hW1⟩ : ∃ W1, W1 = (((((((w1.setCell ⟨w.heap.size, 0, none⟩ (.int .u8 p.1.f0)).setCell ⟨w.heap.size, 1, none⟩ (.int .i64 p.1.f1.f0)).setCell ⟨w.heap.size, 2, none⟩ (.int .i64 p.1.f1.f1)).setCell ⟨w.heap.size, 3, none⟩ (.int .i64 p.1.f1.f2)).setCell ⟨w.heap.size, 4, none⟩ (.int .i64 p.1.f1.f3)).setCell ⟨w.heap.size, 5, none⟩ (.int .i64 p.1.f2)).setCell ⟨w.heap.size, 6, none⟩ (.slice A p.1.f3.length cp)) := ⟨_, rfl⟩
 have HD1 : Aside0 (WGd w W1 b s off p.2 p.1 (.slice A p.1.f3.length cp)) := ⟨by rw [hW1]; exact HD1.out⟩
 rw [← hW1]
 clear hW1
 obtain ⟨c0, c1, c2⟩ := HD1.out.rd.cells
 obtain ⟨hpi, hpi2⟩ := HPI.out
 clear y0 y1 y2 y3 y4 y5 y6 f0 f1 f2 f3 f4 f5 f6
 go_quiet (fail)
 go_upto_region 5 with fail
 have HD2 := ak (HD1.out.below (pw_below_drewN (Below.refl _ _) nq))
 generalize W1.drewN nq = W2 at *
 have hcc := HD2.out.res
 have y0 : W2.cell? ⟨w.heap.size, 0, none⟩ = some (.int .u8 p.1.f0) := by simp [World.cell?, hcc]
 have y1 : W2.cell? ⟨w.heap.size, 1, none⟩ = some (.int .i64 p.1.f1.f0) := by simp [World.cell?, hcc]
 have y2 : W2.cell? ⟨w.heap.size, 2, none⟩ = some (.int .i64 p.1.f1.f1) := by simp [World.cell?, hcc]
 have y3 : W2.cell? ⟨w.heap.size, 3, none⟩ = some (.int .i64 p.1.f1.f2) := by simp [World.cell?, hcc]
 have y4 : W2.cell? ⟨w.heap.size, 4, none⟩ = some (.int .i64 p.1.f1.f3) := by simp [World.cell?, hcc]
 have y5 : W2.cell? ⟨w.heap.size, 5, none⟩ = some (.int .i64 p.1.f2) := by simp [World.cell?, hcc]
 have y6 : W2.cell? ⟨w.heap.size, 6, none⟩ = some (.slice A p.1.f3.length cp) := by simp [World.cell?, hcc]
 clear hcc
 obtain ⟨W3, hW3⟩ : ∃ W3, W3 = W2.alloc (.cells #[.int .u8 p.1.f0, .int .i64 p.1.f1.f0, .int .i64 p.1.f1.f1, .int .i64 p.1.f1.f2, .int .i64 p.1.f1.f3, .int .i64 p.1.f2, .slice A p.1.f3.length cp] 27) := ⟨_, rfl⟩
 have HD3 : Aside0 (WGd w W3 b s off p.2 p.1 (.slice A p.1.f3.length cp)) := ⟨by rw [hW3]; exact HD2.out.below (below_alloc (Below.refl _ _) _)⟩
 have HMC : Aside0 (Calls Tryz.prog 49 #[.slice (some ⟨W2.heap.size, 0, none⟩) 1 1] W3 fun e w' => e = .returned (.bool true) ∧ Below W3.heap.size W3 w') := ⟨HMM.out W3 _ (by rw [hW3]; exact (Kd.R_reads' (R_one (Nat.zero_le _) p.1 (Kd.R_lower HD2.out.kids (Nat.zero_le _)))).2.2)⟩
 have HW3 := ak hW3
 clear hW3
 go_wp2_with fail
 rw [← HW3.out]
 with_reducible refine HMC.out.mono ?_
 rintro e w4 ⟨rfl, hb4⟩
 have HD4 := ak (HD3.out.below hb4)
 clear hb4
 have hcc := HD4.out.res
 clear y0 y1 y2 y3 y4 y5 y6
 have y0 : w4.cell? ⟨w.heap.size, 0, none⟩ = some (.int .u8 p.1.f0) := by simp [World.cell?, hcc]
 have y1 : w4.cell? ⟨w.heap.size, 1, none⟩ = some (.int .i64 p.1.f1.f0) := by simp [World.cell?, hcc]
 have y2 : w4.cell? ⟨w.heap.size, 2, none⟩ = some (.int .i64 p.1.f1.f1) := by simp [World.cell?, hcc]
 have y3 : w4.cell? ⟨w.heap.size, 3, none⟩ = some (.int .i64 p.1.f1.f2) := by simp [World.cell?, hcc]
 have y4 : w4.cell? ⟨w.heap.size, 4, none⟩ = some (.int .i64 p.1.f1.f3) := by simp [World.cell?, hcc]
 have y5 : w4.cell? ⟨w.heap.size, 5, none⟩ = some (.int .i64 p.1.f2) := by simp [World.cell?, hcc]
 have y6 : w4.cell? ⟨w.heap.size, 6, none⟩ = some (.slice A p.1.f3.length cp) := by simp [World.cell?, hcc]
 clear hcc
 obtain ⟨W5, hW5⟩ : ∃ W5, W5 = w4.alloc (.cells #[.int .u8 p.1.f0, .int .i64 p.1.f1.f0, .int .i64 p.1.f1.f1, .int .i64 p.1.f1.f2, .int .i64 p.1.f1.f3, .int .i64 p.1.f2, .slice A p.1.f3.length cp] 27) := ⟨_, rfl⟩
 have HD5 : Aside0 (WGd w W5 b s off p.2 p.1 (.slice A p.1.f3.length cp)) := ⟨by rw [hW5]; exact HD4.out.below (below_alloc (Below.refl _ _) _)⟩
 have HTC : Aside0 (Calls Tryz.prog 50 #[.slice (some ⟨w4.heap.size, 0, none⟩) 1 1] W5 fun e w' => e = .returned (.bool false) ∧ Below W5.heap.size W5 w') := ⟨HTL.out W5 _ (by rw [hW5]; exact (Kd.R_reads' (R_one (Nat.zero_le _) p.1 (Kd.R_lower HD4.out.kids (Nat.zero_le _)))).2.2)⟩
 have HW5 := ak hW5
 clear hW5
 go_wp2_with fail
 rw [← HW5.out]
 with_reducible refine HTC.out.mono ?_
 rintro e w6 ⟨rfl, hb6⟩
 have HD6 := ak (HD5.out.below hb6)
 clear hb6
 go_wp2_with fail
 with_reducible refine (new_calls 5 0 w6 (by decide)).mono ?_
 rintro e w7 ⟨rfl, rfl⟩
 obtain ⟨W7, hW7⟩ : ∃ W7, W7 = w6.alloc (.cells #[.int .i64 5, .int .i64 0] 84) := ⟨_, rfl⟩
 have HD9 : Aside0 (WGd w W7 b s off p.2 p.1 (.slice A p.1.f3.length cp)) := ⟨by rw [hW7]; exact HD6.out.below (below_alloc (Below.refl _ _) _)⟩
 obtain ⟨g, hgg⟩ : ∃ g, g = w6.heap.size := ⟨_, rfl⟩
 have HG : Aside0 (w.heap.size + 2 ≤ g ∧ W7.heap[g]? = some (.cells #[.int .i64 5, .int .i64 0] 84 (0, 0))) := ⟨by rw [hgg]; exact blk_lt HD6.out.err, by rw [hW7, hgg]; exact heap_alloc_new w6 _⟩
 clear y0 y1 y2 y3 y4 y5 y6
 go_wp2
 rw [← hW7, ← hgg]
 clear hW7 hgg
 refine leaves_cons (f := 46) (args := #[.pointer (some ⟨w.heap.size, 0, none⟩), .pointer (some ⟨w.heap.size + 1, 0, none⟩)]) (by simp) (by simp [go_sem]) ?_
 refine (catch_panicking w.heap.size (w.heap.size + 1) g W7 _ _ (by rfl) HD9.out.res HD9.out.err (by omega)).mono ?_
 rintro e u' w'' ⟨rfl, rfl, w3, g', hb3, hin, rfl⟩
 have HCC := ak (caught_c (g' := g') (eb := w.heap.size + 1) ((hb3.block _ (blk_lt HD9.out.res)).trans HD9.out.res) (by omega) rfl)
 have HEE := ak (caught_e (g' := g') (cb := w.heap.size) ((hb3.block _ (blk_lt HD9.out.err)).trans HD9.out.err) (by omega))
 have HSZ := HD9.out.st.size
 have hlt : w.heap.size + 1 < W7.heap.size := blk_lt HD9.out.err
 have HII := ak (caught_in (g' := g') (cb := w.heap.size) (eb := w.heap.size + 1) hin (by omega) hlt)
 have HFF := ak (caught_far (g' := g') (cb := w.heap.size) (eb := w.heap.size + 1) ((hb3.block _ (blk_lt HG.out.2)).trans HG.out.2) (by have := HG.out.1; omega) (by have := HG.out.1; omega))
 have HTT : Aside0 (Step w b _ (CaughtW w3 w.heap.size (w.heap.size + 1) g')) := ⟨caught_st (Below.trans HD9.out.st (hb3.mono HD9.out.st.size)) (Nat.le_refl _) (Nat.le_succ _)⟩
 generalize CaughtW w3 w.heap.size (w.heap.size + 1) g' = WF at *
 have hc1 := HCC.out
 have he1 := HEE.out
 have z0 : WF.cell? ⟨w.heap.size + 1, 0, none⟩ = some (.iface 78 (.pointer (some ⟨g', 0, none⟩))) := by simp [World.cell?, he1]
 have y0 : WF.cell? ⟨w.heap.size, 0, none⟩ = some (.int .u8 0) := by simp [World.cell?, hc1]
 have y1 : WF.cell? ⟨w.heap.size, 1, none⟩ = some (.int .i64 0) := by simp [World.cell?, hc1]
 have y2 : WF.cell? ⟨w.heap.size, 2, none⟩ = some (.int .i64 0) := by simp [World.cell?, hc1]
 have y3 : WF.cell? ⟨w.heap.size, 3, none⟩ = some (.int .i64 0) := by simp [World.cell?, hc1]
 have y4 : WF.cell? ⟨w.heap.size, 4, none⟩ = some (.int .i64 0) := by simp [World.cell?, hc1]
 have y5 : WF.cell? ⟨w.heap.size, 5, none⟩ = some (.int .i64 0) := by simp [World.cell?, hc1]
 have y6 : WF.cell? ⟨w.heap.size, 6, none⟩ = some (.slice none 0 0) := by simp [World.cell?, hc1]
 clear hc1 he1 hin hb3
 have key : BadPost w b 5 0 (.returned (.tuple #[.agg zeroA, .iface 78 (.pointer (some ⟨g', 0, none⟩))])) WF :=
  ⟨g', g, rfl, ⟨Nat.le_trans HSZ HII.out.1, by obtain ⟨_, v, q1, q2⟩ := HII.out; exact ⟨v, q1, Kd.R_lower q2 HSZ⟩⟩, HFF.out, _, HTT.out⟩
 have HKEY := ak key
 clear key
 simp [Leaves, settle, results, Tryz.results27, go_sem, y0, y1, y2, y3, y4, y5, y6, z0]
 exact HKEY.out
end Go.Proofs.YtkobpbbegalfpaaGreatDoor
