/-
  Joined texts: PsCellW, PsCellK, PsKids, PsAll, PsTot.
-/
import Derived.Test.YtkobpbbegalfpaaGreatDoorPsCell
namespace Go.Proofs.YtkobpbbegalfpaaGreatDoor
open Go.RowKit YtkobpbbegalfpaaGreatDoorW.PrintWords YtkobpbbegalfpaaGreatDoorW.PrintLast YtkobpbbegalfpaaGreatDoorW.PrintMore PParseBodies
set_option linter.unusedVariables false
set_option linter.unusedSimpArgs false
set_option maxRecDepth 100000
abbrev cellA (k : Int) (p : Int × Int × Int × Int) (n : Int) (v : Value) : Array Value := #[.int .u8 k, .int .i64 p.1, .int .i64 p.2.1, .int .i64 p.2.2.1, .int .i64 p.2.2.2, .int .i64 n, v]
abbrev zeroA : Array Value := #[.int .u8 0, .int .i64 0, .int .i64 0, .int .i64 0, .int .i64 0, .int .i64 0, .slice none 0 0]
structure CSt (w W : World) (b : Nat) (s : ByteArray) (off : Int) (j : Nat) (g : Nat) (cs : Array Value) : Prop where
 st : Step w b (j : Int) W
 rd : RdA W b s j off
 res : W.heap[w.heap.size]? = some (.cells zeroA 27 (0, 0))
 loc : W.heap[g]? = some (.cells cs 27 (0, 0))
 lt : w.heap.size < g
theorem CSt.new {w W : World} {b : Nat} {s : ByteArray} {off : Int} {j : Nat} (p : PS w W b s off j zeroA 27) (cs : Array Value) : CSt w (W.alloc (.cells cs 27)) b s off j W.heap.size cs :=
 ⟨Below.alloc p.st (by have := p.st.size; exact this) _, p.rd.below (below_alloc (Below.refl _ _) _), blk_alloc p.res _, heap_alloc_new W _, blk_lt p.res⟩
theorem CSt.step {w W W' : World} {b : Nat} {s : ByteArray} {off : Int} {i : Nat} {i0 : Int} {j : Nat} {g : Nat} {cs : Array Value} (p : CSt w W b s off i g cs) (k : RdA w b s i0 off) (h : Step W b (j : Int) W') : CSt w W' b s off j g cs :=
 ⟨Step.trans k p.st h, h.rd p.rd,
  (h.block _ (blk_lt p.res)).trans ((Below.heap_setCell W ⟨b, 1, none⟩ _ _ (Nat.ne_of_gt k.lt)).trans p.res),
  (h.block _ (blk_lt p.loc)).trans ((Below.heap_setCell W ⟨b, 1, none⟩ _ _ (Nat.ne_of_gt (Nat.lt_trans k.lt p.lt))).trans p.loc), p.lt⟩
theorem step7 {w W : World} {b : Nat} {j : Int} (h : Below w.heap.size (w.setCell ⟨b, 1, none⟩ (.int .i64 j)) W) (v0 v1 v2 v3 v4 v5 v6 : Value) : Step w b j (((((((W.setCell ⟨w.heap.size, 0, none⟩ v0).setCell ⟨w.heap.size, 1, none⟩ v1).setCell ⟨w.heap.size, 2, none⟩ v2).setCell ⟨w.heap.size, 3, none⟩ v3).setCell ⟨w.heap.size, 4, none⟩ v4).setCell ⟨w.heap.size, 5, none⟩ v5).setCell ⟨w.heap.size, 6, none⟩ v6) :=
 (((((((h.setCell (p := ⟨w.heap.size, 0, none⟩) (Nat.le_refl _) v0).setCell (p := ⟨w.heap.size, 1, none⟩) (Nat.le_refl _) v1).setCell (p := ⟨w.heap.size, 2, none⟩) (Nat.le_refl _) v2).setCell (p := ⟨w.heap.size, 3, none⟩) (Nat.le_refl _) v3).setCell (p := ⟨w.heap.size, 4, none⟩) (Nat.le_refl _) v4).setCell (p := ⟨w.heap.size, 5, none⟩) (Nat.le_refl _) v5).setCell (p := ⟨w.heap.size, 6, none⟩) (Nat.le_refl _) v6)
set_option maxHeartbeats 8000000 in
theorem cell_leaf (hd : ByteArray → Int × Int × Int) (I : World → Prop) (w : World) (b : Nat) (s : ByteArray) (i : Nat) (off deep : Int) (hs : s.size ≤ 100000) (ho : 0 ≤ off ∧ off ≤ 1000) (hi : i ≤ s.size) (hb : HeadB hd) (hc : HeadC hd b I) (hI : I w) (k : RdA w b s i off)
  (r : (Int × Int × Int × Int) × Nat) (hr : rectP hd s i = .ok r) (h1 : ¬ aheadI s r.2 = 123) (h2 : ¬ aheadI s r.2 = 91) (R : Except (Int × Nat) (SC × Nat))
  (hR : R = match eatP s r.2 44 with
   | .error q => .error q
   | .ok a => match numP hd s a with
    | .error q => .error q
    | .ok n => .ok (⟨1, ⟨r.1.1, r.1.2.1, r.1.2.2.1, r.1.2.2.2⟩, n.1, []⟩, n.2)) :
  Calls Tryz.prog 47 #[.pointer (some ⟨b, 0, none⟩), .int .i64 deep] w (CellPost w b off R) := by
 obtain ⟨W0, hW0⟩ : ∃ W0, W0 = w.alloc (.cells zeroA 27) := ⟨_, rfl⟩
 have HP0 : Aside0 (PS w W0 b s off i zeroA 27) := ⟨by rw [hW0]; exact PS.new k _ _⟩
 have HK := ak k
 have HI0 : Aside0 (I W0) := ⟨hc.step hI HP0.out.st⟩
 have HW := ak hW0
 have HL := ak (rectP_le hb hi hr)
 have HN := ak (rect_calls hd I W0 b s i off hs ho hi hb hc HI0.out HP0.out.rd)
 rw [hr] at HN
 have HRR := ak hR
 clear hW0 hr k hI hR
 go_enter Tryz.func47, Tryz.ntmps47
 go_wp2_with fail
 rw [← HW.out]
 with_reducible refine HN.out.mono ?_
 rintro e w1 ⟨rfl, hst⟩
 obtain ⟨W1, hW1⟩ : ∃ W1, W1 = w1.alloc (.cells (cellA 0 r.1 0 (.slice none 0 0)) 27) := ⟨_, rfl⟩
 have HP1 := ak (HP0.out.step HK.out hst)
 have HC1 : Aside0 (CSt w W1 b s off r.2 w1.heap.size (cellA 0 r.1 0 (.slice none 0 0))) := ⟨by rw [hW1]; exact CSt.new HP1.out _⟩
 have HI1 : Aside0 (I W1) := ⟨hc.bel _ _ (hc.step HI0.out hst) (by rw [hW1]; exact below_alloc (Below.refl _ _) _)⟩
 have HA := ak (rahead_calls W1 b s r.2 off HL.out HC1.out.rd)
 have HW1 := ak hW1
 clear hW1 hst HN HW HP1
 go_wp2_with fail
 try rw [← HW1.out]
 with_reducible refine HA.out.mono ?_
 rintro e w2 ⟨rfl, hb2⟩
 have HC2 := ak (HC1.out.step HK.out (Step.of_below HC1.out.rd hb2))
 have HI2 : Aside0 (I w2) := ⟨hc.bel _ _ HI1.out hb2⟩
 have HN2 := ak (eat_calls w2 b s r.2 off 44 hs ho HL.out (by decide) HC2.out.rd)
 have x1 : (aheadI s r.2 == 123) = false := beq_eq_false_iff_ne.2 h1
 have x2 : (aheadI s r.2 == 91) = false := beq_eq_false_iff_ne.2 h2
 generalize w1.heap.size = g at *
 clear hb2 HA HC1 HI1 HW1
 generalize aheadI s r.2 = x at *
 clear h1 h2
 go_wp2_with fail
 with_reducible refine HN2.out.mono ?_
 rintro e w3 h3
 cases hn : eatP s r.2 44 with
 | error q =>
  rw [hn] at h3
  have hR := HRR.out
  rw [hn] at hR
  obtain ⟨⟨g1, rfl, hg, hg2⟩, jj, hst⟩ := h3
  rw [hR]
  exact ⟨rfl, ⟨g1, rfl, Nat.le_trans HC2.out.st.size hg, hg2⟩, jj, Step.trans HK.out HC2.out.st hst⟩
 | ok a =>
  rw [hn] at h3
  have hR := HRR.out
  rw [hn] at hR
  simp only at hR
  obtain ⟨rfl, hst⟩ := h3
  have HLA : Aside0 (a ≤ s.size) := ⟨by obtain ⟨e1, h1, _⟩ := eatP_le (by decide) hn; omega⟩
  have HC3 := ak (HC2.out.step HK.out hst)
  have HI3 : Aside0 (I w3) := ⟨hc.step HI2.out hst⟩
  have HN3 := ak (num_calls hd I w3 b s a off hs ho HLA.out hb hc HI3.out HC3.out.rd)
  have HR3 := ak hR
  clear hst hR HRR HN2 hn HC2 HI2
  go_wp2_with fail
  with_reducible refine HN3.out.mono ?_
  rintro e w4 h4
  cases hn : numP hd s a with
  | error q =>
   rw [hn] at h4
   have hR := HR3.out
   rw [hn] at hR
   obtain ⟨⟨g1, rfl, hg, hg2⟩, jj, hst⟩ := h4
   rw [hR]
   exact ⟨rfl, ⟨g1, rfl, Nat.le_trans HC3.out.st.size hg, hg2⟩, jj, Step.trans HK.out HC3.out.st hst⟩
  | ok n =>
   rw [hn] at h4
   have hR := HR3.out
   rw [hn] at hR
   simp only at hR
   obtain ⟨rfl, hst⟩ := h4
   have HC4 := ak (HC3.out.step HK.out hst)
   have HR4 := ak hR
   clear hst hR HR3 HN3 hn HC3 HI3
   have hres := HC4.out.res
   have hloc := HC4.out.loc
   have hne1 : ¬ w.heap.size = g := Nat.ne_of_lt HC4.out.lt
   have hne2 : ¬ g = w.heap.size := Nat.ne_of_gt HC4.out.lt
   have r0 : w4.cell? ⟨w.heap.size, 0, none⟩ = some (.int .u8 0) := by simp [World.cell?, hres]
   have fr0 := blk_frozen hres 0
   have l0 : w4.cell? ⟨g, 0, none⟩ = some (.int .u8 0) := by simp [World.cell?, hloc]
   have fl0 := blk_frozen hloc 0
   have r1 : w4.cell? ⟨w.heap.size, 1, none⟩ = some (.int .i64 0) := by simp [World.cell?, hres]
   have fr1 := blk_frozen hres 1
   have l1 : w4.cell? ⟨g, 1, none⟩ = some (.int .i64 r.1.1) := by simp [World.cell?, hloc]
   have fl1 := blk_frozen hloc 1
   have r2 : w4.cell? ⟨w.heap.size, 2, none⟩ = some (.int .i64 0) := by simp [World.cell?, hres]
   have fr2 := blk_frozen hres 2
   have l2 : w4.cell? ⟨g, 2, none⟩ = some (.int .i64 r.1.2.1) := by simp [World.cell?, hloc]
   have fl2 := blk_frozen hloc 2
   have r3 : w4.cell? ⟨w.heap.size, 3, none⟩ = some (.int .i64 0) := by simp [World.cell?, hres]
   have fr3 := blk_frozen hres 3
   have l3 : w4.cell? ⟨g, 3, none⟩ = some (.int .i64 r.1.2.2.1) := by simp [World.cell?, hloc]
   have fl3 := blk_frozen hloc 3
   have r4 : w4.cell? ⟨w.heap.size, 4, none⟩ = some (.int .i64 0) := by simp [World.cell?, hres]
   have fr4 := blk_frozen hres 4
   have l4 : w4.cell? ⟨g, 4, none⟩ = some (.int .i64 r.1.2.2.2) := by simp [World.cell?, hloc]
   have fl4 := blk_frozen hloc 4
   have r5 : w4.cell? ⟨w.heap.size, 5, none⟩ = some (.int .i64 0) := by simp [World.cell?, hres]
   have fr5 := blk_frozen hres 5
   have l5 : w4.cell? ⟨g, 5, none⟩ = some (.int .i64 0) := by simp [World.cell?, hloc]
   have fl5 := blk_frozen hloc 5
   have r6 : w4.cell? ⟨w.heap.size, 6, none⟩ = some (.slice none 0 0) := by simp [World.cell?, hres]
   have fr6 := blk_frozen hres 6
   have l6 : w4.cell? ⟨g, 6, none⟩ = some (.slice none 0 0) := by simp [World.cell?, hloc]
   have fl6 := blk_frozen hloc 6
   clear hres hloc
   go_wp2
   refine bodyPost_ret (v := .agg #[.int .u8 1, .int .i64 r.1.1, .int .i64 r.1.2.1, .int .i64 r.1.2.2.1, .int .i64 r.1.2.2.2, .int .i64 n.1, .slice none 0 0]) (by simp [results, Tryz.results47, go_sem, r0, r1, r2, r3, r4, r5, r6, hne1, hne2]) rfl ?_
   rw [HR4.out]
   exact ⟨_, rfl, Kd.R_nil _ _ _ _ _, step7 ((HC4.out.st.setCell (p := ⟨g, 0, none⟩) (Nat.le_of_lt HC4.out.lt) _).setCell (p := ⟨g, 5, none⟩) (Nat.le_of_lt HC4.out.lt) _) _ _ _ _ _ _ _⟩
set_option maxHeartbeats 4000000 in
theorem cell_norect (hd : ByteArray → Int × Int × Int) (I : World → Prop) (w : World) (b : Nat) (s : ByteArray) (i : Nat) (off deep : Int) (hs : s.size ≤ 100000) (ho : 0 ≤ off ∧ off ≤ 1000) (hi : i ≤ s.size) (hb : HeadB hd) (hc : HeadC hd b I) (hI : I w) (k : RdA w b s i off)
  (q : Int × Nat) (hr : rectP hd s i = .error q) :
  Calls Tryz.prog 47 #[.pointer (some ⟨b, 0, none⟩), .int .i64 deep] w (CellPost w b off (.error q)) := by
 obtain ⟨W0, hW0⟩ : ∃ W0, W0 = w.alloc (.cells zeroA 27) := ⟨_, rfl⟩
 have HP0 : Aside0 (PS w W0 b s off i zeroA 27) := ⟨by rw [hW0]; exact PS.new k _ _⟩
 have HK := ak k
 have HI0 : Aside0 (I W0) := ⟨hc.step hI HP0.out.st⟩
 have HW := ak hW0
 have HN := ak (rect_calls hd I W0 b s i off hs ho hi hb hc HI0.out HP0.out.rd)
 rw [hr] at HN
 clear hW0 hr k hI
 go_enter Tryz.func47, Tryz.ntmps47
 go_wp2_with fail
 rw [← HW.out]
 with_reducible refine HN.out.mono ?_
 rintro e w1 ⟨⟨g1, rfl, hg, hg2⟩, jj, hst⟩
 exact ⟨rfl, ⟨g1, rfl, Nat.le_trans HP0.out.st.size hg, hg2⟩, jj, Step.trans HK.out HP0.out.st hst⟩
def withKids (kd : Int) (r : Int × Int × Int × Int) : Except (Int × Nat) (List SC × Nat) → Except (Int × Nat) (SC × Nat)
 | .error q => .error q
 | .ok p => .ok (⟨kd, ⟨r.1, r.2.1, r.2.2.1, r.2.2.2⟩, 0, p.1⟩, p.2)
theorem R_setS {w : World} {base : Nat} {e : Nat} {v : Value} {xs : List SC} (h : Kd.R k27 e w base (fun _ => True) v xs) {p : Addr} (hb : p.block < base) (u : Value) : Kd.R k27 e (w.setCell p u) base (fun _ => True) v xs :=
 Kd.R_mono (Kd.R_step (Kd.R_bound h) (fun k hk hlt => Below.heap_setCell w p u k (by have := hk.2.1; omega))) (fun _ _ => trivial)
theorem R_set7 {W : World} {n base e : Nat} {v : Value} {xs : List SC} (h : Kd.R k27 e W base (fun _ => True) v xs) (hn : n < base) (v0 v1 v2 v3 v4 v5 v6 : Value) : Kd.R k27 e (((((((W.setCell ⟨n, 0, none⟩ v0).setCell ⟨n, 1, none⟩ v1).setCell ⟨n, 2, none⟩ v2).setCell ⟨n, 3, none⟩ v3).setCell ⟨n, 4, none⟩ v4).setCell ⟨n, 5, none⟩ v5).setCell ⟨n, 6, none⟩ v6) base (fun _ => True) v xs :=
 (R_setS (R_setS (R_setS (R_setS (R_setS (R_setS (R_setS h (p := ⟨n, 0, none⟩) hn v0) (p := ⟨n, 1, none⟩) hn v1) (p := ⟨n, 2, none⟩) hn v2) (p := ⟨n, 3, none⟩) hn v3) (p := ⟨n, 4, none⟩) hn v4) (p := ⟨n, 5, none⟩) hn v5) (p := ⟨n, 6, none⟩) hn v6)
set_option maxHeartbeats 8000000 in
theorem cell_row (hd : ByteArray → Int × Int × Int) (I : World → Prop) (w : World) (b : Nat) (s : ByteArray) (i : Nat) (off deep : Int) (hs : s.size ≤ 100000) (ho : 0 ≤ off ∧ off ≤ 1000) (hi : i ≤ s.size) (hb : HeadB hd) (hc : HeadC hd b I) (hI : I w) (k : RdA w b s i off)
  (r : (Int × Int × Int × Int) × Nat) (hr : rectP hd s i = .ok r) (h1 : aheadI s r.2 = 123) (Rk : Except (Int × Nat) (List SC × Nat))
  (HKD : ∀ W, I W → RdA W b s r.2 off → Calls Tryz.prog 69 #[.pointer (some ⟨b, 0, none⟩), .int .u8 125, .int .i64 deep] W (KidsPost W b off Rk))
  (R : Except (Int × Nat) (SC × Nat))
  (hR : R = withKids 2 r.1 Rk) :
  Calls Tryz.prog 47 #[.pointer (some ⟨b, 0, none⟩), .int .i64 deep] w (CellPost w b off R) := by
 obtain ⟨W0, hW0⟩ : ∃ W0, W0 = w.alloc (.cells zeroA 27) := ⟨_, rfl⟩
 have HP0 : Aside0 (PS w W0 b s off i zeroA 27) := ⟨by rw [hW0]; exact PS.new k _ _⟩
 have HK := ak k
 have HKK := ak HKD
 have HI0 : Aside0 (I W0) := ⟨hc.step hI HP0.out.st⟩
 have HW := ak hW0
 have HL := ak (rectP_le hb hi hr)
 have HN := ak (rect_calls hd I W0 b s i off hs ho hi hb hc HI0.out HP0.out.rd)
 rw [hr] at HN
 have HRR := ak hR
 clear hW0 hr k hI hR HKD
 go_enter Tryz.func47, Tryz.ntmps47
 go_wp2_with fail
 rw [← HW.out]
 with_reducible refine HN.out.mono ?_
 rintro e w1 ⟨rfl, hst⟩
 obtain ⟨W1, hW1⟩ : ∃ W1, W1 = w1.alloc (.cells (cellA 0 r.1 0 (.slice none 0 0)) 27) := ⟨_, rfl⟩
 have HP1 := ak (HP0.out.step HK.out hst)
 have HC1 : Aside0 (CSt w W1 b s off r.2 w1.heap.size (cellA 0 r.1 0 (.slice none 0 0))) := ⟨by rw [hW1]; exact CSt.new HP1.out _⟩
 have HI1 : Aside0 (I W1) := ⟨hc.bel _ _ (hc.step HI0.out hst) (by rw [hW1]; exact below_alloc (Below.refl _ _) _)⟩
 have HA := ak (rahead_calls W1 b s r.2 off HL.out HC1.out.rd)
 have HW1 := ak hW1
 clear hW1 hst HN HW HP1
 go_wp2_with fail
 try rw [← HW1.out]
 with_reducible refine HA.out.mono ?_
 rintro e w2 ⟨rfl, hb2⟩
 have HC2 := ak (HC1.out.step HK.out (Step.of_below HC1.out.rd hb2))
 have HI2 : Aside0 (I w2) := ⟨hc.bel _ _ HI1.out hb2⟩
 have HN2 := ak (HKK.out w2 HI2.out HC2.out.rd)
 have x1 : (aheadI s r.2 == 123) = true := beq_iff_eq.2 h1
 generalize w1.heap.size = g at *
 clear hb2 HA HC1 HI1 HW1 HKK
 generalize aheadI s r.2 = x at *
 clear h1
 go_wp2_with fail
 with_reducible refine HN2.out.mono ?_
 rintro e w3 h3
 cases Rk with
 | error q =>
  have hR : R = .error q := HRR.out
  obtain ⟨⟨g1, rfl, hg, hg2⟩, jj, hst⟩ := h3
  rw [hR]
  exact ⟨rfl, ⟨g1, rfl, Nat.le_trans HC2.out.st.size hg, hg2⟩, jj, Step.trans HK.out HC2.out.st hst⟩
 | ok p =>
  have hR : R = .ok (⟨2, ⟨r.1.1, r.1.2.1, r.1.2.2.1, r.1.2.2.2⟩, 0, p.1⟩, p.2) := HRR.out
  obtain ⟨v, rfl, hRv, hst⟩ := h3
  have HC4 := ak (HC2.out.step HK.out hst)
  have HRv := ak hRv
  have HGL := ak (blk_lt HC2.out.loc)
  have HR4 := ak hR
  obtain ⟨A', c', rfl⟩ := Kd.R_slice hRv
  clear hst hR HRR HN2 HC2 HI2 hRv
  have hres := HC4.out.res
  have hloc := HC4.out.loc
  have hne1 : ¬ w.heap.size = g := Nat.ne_of_lt HC4.out.lt
  have hne2 : ¬ g = w.heap.size := Nat.ne_of_gt HC4.out.lt
  have r0 : w3.cell? ⟨w.heap.size, 0, none⟩ = some (.int .u8 0) := by simp [World.cell?, hres]
  have fr0 := blk_frozen hres 0
  have l0 : w3.cell? ⟨g, 0, none⟩ = some (.int .u8 0) := by simp [World.cell?, hloc]
  have fl0 := blk_frozen hloc 0
  have r1 : w3.cell? ⟨w.heap.size, 1, none⟩ = some (.int .i64 0) := by simp [World.cell?, hres]
  have fr1 := blk_frozen hres 1
  have l1 : w3.cell? ⟨g, 1, none⟩ = some (.int .i64 r.1.1) := by simp [World.cell?, hloc]
  have fl1 := blk_frozen hloc 1
  have r2 : w3.cell? ⟨w.heap.size, 2, none⟩ = some (.int .i64 0) := by simp [World.cell?, hres]
  have fr2 := blk_frozen hres 2
  have l2 : w3.cell? ⟨g, 2, none⟩ = some (.int .i64 r.1.2.1) := by simp [World.cell?, hloc]
  have fl2 := blk_frozen hloc 2
  have r3 : w3.cell? ⟨w.heap.size, 3, none⟩ = some (.int .i64 0) := by simp [World.cell?, hres]
  have fr3 := blk_frozen hres 3
  have l3 : w3.cell? ⟨g, 3, none⟩ = some (.int .i64 r.1.2.2.1) := by simp [World.cell?, hloc]
  have fl3 := blk_frozen hloc 3
  have r4 : w3.cell? ⟨w.heap.size, 4, none⟩ = some (.int .i64 0) := by simp [World.cell?, hres]
  have fr4 := blk_frozen hres 4
  have l4 : w3.cell? ⟨g, 4, none⟩ = some (.int .i64 r.1.2.2.2) := by simp [World.cell?, hloc]
  have fl4 := blk_frozen hloc 4
  have r5 : w3.cell? ⟨w.heap.size, 5, none⟩ = some (.int .i64 0) := by simp [World.cell?, hres]
  have fr5 := blk_frozen hres 5
  have l5 : w3.cell? ⟨g, 5, none⟩ = some (.int .i64 0) := by simp [World.cell?, hloc]
  have fl5 := blk_frozen hloc 5
  have r6 : w3.cell? ⟨w.heap.size, 6, none⟩ = some (.slice none 0 0) := by simp [World.cell?, hres]
  have fr6 := blk_frozen hres 6
  have l6 : w3.cell? ⟨g, 6, none⟩ = some (.slice none 0 0) := by simp [World.cell?, hloc]
  have fl6 := blk_frozen hloc 6
  clear hres hloc
  go_wp2
  refine bodyPost_ret (v := .agg #[.int .u8 2, .int .i64 r.1.1, .int .i64 r.1.2.1, .int .i64 r.1.2.2.1, .int .i64 r.1.2.2.2, .int .i64 0, .slice A' p.1.length c']) (by simp [results, Tryz.results47, go_sem, r0, r1, r2, r3, r4, r5, r6, hne1, hne2]) rfl ?_
  rw [HR4.out]
  refine ⟨_, rfl, ?_, step7 ((HC4.out.st.setCell (p := ⟨g, 0, none⟩) (Nat.le_of_lt HC4.out.lt) _).setCell (p := ⟨g, 6, none⟩) (Nat.le_of_lt HC4.out.lt) _) _ _ _ _ _ _ _⟩
  exact Kd.R_lower (R_set7 (R_setS (R_setS HRv.out (p := ⟨g, 0, none⟩) HGL.out _) (p := ⟨g, 6, none⟩) HGL.out _) (Nat.lt_trans HC4.out.lt HGL.out) _ _ _ _ _ _ _) (Nat.le_of_lt (Nat.lt_trans HC4.out.lt HGL.out))
set_option maxHeartbeats 8000000 in
theorem cell_col (hd : ByteArray → Int × Int × Int) (I : World → Prop) (w : World) (b : Nat) (s : ByteArray) (i : Nat) (off deep : Int) (hs : s.size ≤ 100000) (ho : 0 ≤ off ∧ off ≤ 1000) (hi : i ≤ s.size) (hb : HeadB hd) (hc : HeadC hd b I) (hI : I w) (k : RdA w b s i off)
  (r : (Int × Int × Int × Int) × Nat) (hr : rectP hd s i = .ok r) (h1 : aheadI s r.2 = 91) (Rk : Except (Int × Nat) (List SC × Nat))
  (HKD : ∀ W, I W → RdA W b s r.2 off → Calls Tryz.prog 69 #[.pointer (some ⟨b, 0, none⟩), .int .u8 93, .int .i64 deep] W (KidsPost W b off Rk))
  (R : Except (Int × Nat) (SC × Nat))
  (hR : R = withKids 3 r.1 Rk) :
  Calls Tryz.prog 47 #[.pointer (some ⟨b, 0, none⟩), .int .i64 deep] w (CellPost w b off R) := by
 obtain ⟨W0, hW0⟩ : ∃ W0, W0 = w.alloc (.cells zeroA 27) := ⟨_, rfl⟩
 have HP0 : Aside0 (PS w W0 b s off i zeroA 27) := ⟨by rw [hW0]; exact PS.new k _ _⟩
 have HK := ak k
 have HKK := ak HKD
 have HI0 : Aside0 (I W0) := ⟨hc.step hI HP0.out.st⟩
 have HW := ak hW0
 have HL := ak (rectP_le hb hi hr)
 have HN := ak (rect_calls hd I W0 b s i off hs ho hi hb hc HI0.out HP0.out.rd)
 rw [hr] at HN
 have HRR := ak hR
 clear hW0 hr k hI hR HKD
 go_enter Tryz.func47, Tryz.ntmps47
 go_wp2_with fail
 rw [← HW.out]
 with_reducible refine HN.out.mono ?_
 rintro e w1 ⟨rfl, hst⟩
 obtain ⟨W1, hW1⟩ : ∃ W1, W1 = w1.alloc (.cells (cellA 0 r.1 0 (.slice none 0 0)) 27) := ⟨_, rfl⟩
 have HP1 := ak (HP0.out.step HK.out hst)
 have HC1 : Aside0 (CSt w W1 b s off r.2 w1.heap.size (cellA 0 r.1 0 (.slice none 0 0))) := ⟨by rw [hW1]; exact CSt.new HP1.out _⟩
 have HI1 : Aside0 (I W1) := ⟨hc.bel _ _ (hc.step HI0.out hst) (by rw [hW1]; exact below_alloc (Below.refl _ _) _)⟩
 have HA := ak (rahead_calls W1 b s r.2 off HL.out HC1.out.rd)
 have HW1 := ak hW1
 clear hW1 hst HN HW HP1
 go_wp2_with fail
 try rw [← HW1.out]
 with_reducible refine HA.out.mono ?_
 rintro e w2 ⟨rfl, hb2⟩
 have HC2 := ak (HC1.out.step HK.out (Step.of_below HC1.out.rd hb2))
 have HI2 : Aside0 (I w2) := ⟨hc.bel _ _ HI1.out hb2⟩
 have HN2 := ak (HKK.out w2 HI2.out HC2.out.rd)
 have x1 : (aheadI s r.2 == 123) = false := beq_eq_false_iff_ne.2 (by rw [h1]; decide)
 have x2 : (aheadI s r.2 == 91) = true := beq_iff_eq.2 h1
 generalize w1.heap.size = g at *
 clear hb2 HA HC1 HI1 HW1 HKK
 generalize aheadI s r.2 = x at *
 clear h1
 go_wp2_with fail
 with_reducible refine HN2.out.mono ?_
 rintro e w3 h3
 cases Rk with
 | error q =>
  have hR : R = .error q := HRR.out
  obtain ⟨⟨g1, rfl, hg, hg2⟩, jj, hst⟩ := h3
  rw [hR]
  exact ⟨rfl, ⟨g1, rfl, Nat.le_trans HC2.out.st.size hg, hg2⟩, jj, Step.trans HK.out HC2.out.st hst⟩
 | ok p =>
  have hR : R = .ok (⟨3, ⟨r.1.1, r.1.2.1, r.1.2.2.1, r.1.2.2.2⟩, 0, p.1⟩, p.2) := HRR.out
  obtain ⟨v, rfl, hRv, hst⟩ := h3
  have HC4 := ak (HC2.out.step HK.out hst)
  have HRv := ak hRv
  have HGL := ak (blk_lt HC2.out.loc)
  have HR4 := ak hR
  obtain ⟨A', c', rfl⟩ := Kd.R_slice hRv
  clear hst hR HRR HN2 HC2 HI2 hRv
  have hres := HC4.out.res
  have hloc := HC4.out.loc
  have hne1 : ¬ w.heap.size = g := Nat.ne_of_lt HC4.out.lt
  have hne2 : ¬ g = w.heap.size := Nat.ne_of_gt HC4.out.lt
  have r0 : w3.cell? ⟨w.heap.size, 0, none⟩ = some (.int .u8 0) := by simp [World.cell?, hres]
  have fr0 := blk_frozen hres 0
  have l0 : w3.cell? ⟨g, 0, none⟩ = some (.int .u8 0) := by simp [World.cell?, hloc]
  have fl0 := blk_frozen hloc 0
  have r1 : w3.cell? ⟨w.heap.size, 1, none⟩ = some (.int .i64 0) := by simp [World.cell?, hres]
  have fr1 := blk_frozen hres 1
  have l1 : w3.cell? ⟨g, 1, none⟩ = some (.int .i64 r.1.1) := by simp [World.cell?, hloc]
  have fl1 := blk_frozen hloc 1
  have r2 : w3.cell? ⟨w.heap.size, 2, none⟩ = some (.int .i64 0) := by simp [World.cell?, hres]
  have fr2 := blk_frozen hres 2
  have l2 : w3.cell? ⟨g, 2, none⟩ = some (.int .i64 r.1.2.1) := by simp [World.cell?, hloc]
  have fl2 := blk_frozen hloc 2
  have r3 : w3.cell? ⟨w.heap.size, 3, none⟩ = some (.int .i64 0) := by simp [World.cell?, hres]
  have fr3 := blk_frozen hres 3
  have l3 : w3.cell? ⟨g, 3, none⟩ = some (.int .i64 r.1.2.2.1) := by simp [World.cell?, hloc]
  have fl3 := blk_frozen hloc 3
  have r4 : w3.cell? ⟨w.heap.size, 4, none⟩ = some (.int .i64 0) := by simp [World.cell?, hres]
  have fr4 := blk_frozen hres 4
  have l4 : w3.cell? ⟨g, 4, none⟩ = some (.int .i64 r.1.2.2.2) := by simp [World.cell?, hloc]
  have fl4 := blk_frozen hloc 4
  have r5 : w3.cell? ⟨w.heap.size, 5, none⟩ = some (.int .i64 0) := by simp [World.cell?, hres]
  have fr5 := blk_frozen hres 5
  have l5 : w3.cell? ⟨g, 5, none⟩ = some (.int .i64 0) := by simp [World.cell?, hloc]
  have fl5 := blk_frozen hloc 5
  have r6 : w3.cell? ⟨w.heap.size, 6, none⟩ = some (.slice none 0 0) := by simp [World.cell?, hres]
  have fr6 := blk_frozen hres 6
  have l6 : w3.cell? ⟨g, 6, none⟩ = some (.slice none 0 0) := by simp [World.cell?, hloc]
  have fl6 := blk_frozen hloc 6
  clear hres hloc
  go_wp2
  refine bodyPost_ret (v := .agg #[.int .u8 3, .int .i64 r.1.1, .int .i64 r.1.2.1, .int .i64 r.1.2.2.1, .int .i64 r.1.2.2.2, .int .i64 0, .slice A' p.1.length c']) (by simp [results, Tryz.results47, go_sem, r0, r1, r2, r3, r4, r5, r6, hne1, hne2]) rfl ?_
  rw [HR4.out]
  refine ⟨_, rfl, ?_, step7 ((HC4.out.st.setCell (p := ⟨g, 0, none⟩) (Nat.le_of_lt HC4.out.lt) _).setCell (p := ⟨g, 6, none⟩) (Nat.le_of_lt HC4.out.lt) _) _ _ _ _ _ _ _⟩
  exact Kd.R_lower (R_set7 (R_setS (R_setS HRv.out (p := ⟨g, 0, none⟩) HGL.out _) (p := ⟨g, 6, none⟩) HGL.out _) (Nat.lt_trans HC4.out.lt HGL.out) _ _ _ _ _ _ _) (Nat.le_of_lt (Nat.lt_trans HC4.out.lt HGL.out))
set_option maxHeartbeats 4000000 in
theorem kids_deep (w : World) (b : Nat) (s : ByteArray) (i : Nat) (off c : Int) (deep : Nat) (hs : s.size ≤ 100000) (ho : 0 ≤ off ∧ off ≤ 1000) (hi : i ≤ s.size) (hd : 1000 ≤ deep) (hd2 : deep ≤ 100000) (k : RdA w b s i off) :
  Calls Tryz.prog 69 #[.pointer (some ⟨b, 0, none⟩), .int .u8 c, .int .i64 deep] w (KidsPost w b off (.error (3, i))) := by
 obtain ⟨c0, c1, c2⟩ := k.cells
 have hw : IntKind.i64.wrap (off + (i : Int)) = off + (i : Int) := by rw [i64_w]; unfold wrap64; omega
 have HF := ak (fail_calls w b s i off 3 i (by decide) hw k)
 have HK := ak k
 have d1 : ((deep : Int) ≥ 1000) = True := eq_true (by omega)
 have d2 : decide ((1000 : Int) ≤ (deep : Int)) = true := decide_eq_true (by omega)
 clear hw k hd
 go_enter Tryz.func69, Tryz.ntmps69
 go_wp2_with fail
 with_reducible refine HF.out.mono ?_
 rintro e w2 ⟨⟨g, rfl, hg, hg2⟩, hb2⟩
 exact ⟨rfl, ⟨g, rfl, hg, hg2⟩, _, Step.of_below HK.out hb2⟩
theorem infoC : (Tryz.prog.info? 27).map (fun i => (i.zero, i.size, i.bytes)) = some (some (.agg #[.int .u8 0, .int .i64 0, .int .i64 0, .int .i64 0, .int .i64 0, .int .i64 0, .slice none 0 0]), 7, 72) := by kernel_rfl
theorem R_one {W : World} {base : Nat} (hbase : base ≤ W.heap.size) (c : SC) {A : Option Addr} {cp : Nat} (h : Kd.R k27 27 W base (fun _ => True) (.slice A c.f3.length cp) c.f3) :
  Kd.R k27 27 (W.alloc (.cells #[.int .u8 c.f0, .int .i64 c.f1.f0, .int .i64 c.f1.f1, .int .i64 c.f1.f2, .int .i64 c.f1.f3, .int .i64 c.f2, .slice A c.f3.length cp] 27)) base (fun _ => True) (.slice (some ⟨W.heap.size, 0, none⟩) 1 1) [c] := by
 have hrep : Reps ((k27).M W base (fun _ => True)) (k27).sz [c] [.int .u8 c.f0, .int .i64 c.f1.f0, .int .i64 c.f1.f1, .int .i64 c.f1.f2, .int .i64 c.f1.f3, .int .i64 c.f2, .slice A c.f3.length cp] :=
  Reps.snoc (Reps.none _ _) (k27_mkM _ _ _ c h) rfl
 refine ⟨fun k hk => trivial, [.int .u8 c.f0, .int .i64 c.f1.f0, .int .i64 c.f1.f1, .int .i64 c.f1.f2, .int .i64 c.f1.f3, .int .i64 c.f2, .slice A c.f3.length cp], ?_, ?_⟩
 ·have h2 := World.ownsRow_lit (base := base) (e := 27) (size := (k27).sz) W #[.int .u8 c.f0, .int .i64 c.f1.f0, .int .i64 c.f1.f1, .int .i64 c.f1.f2, .int .i64 c.f1.f3, .int .i64 c.f2, .slice A c.f3.length cp] 1 hbase (by decide) rfl
  simpa using h2
 ·refine hrep.imp_ (fun p c hp => (k27).M_mono (fun k hk => ⟨trivial, fun he => ?_⟩) (Kd.M_below ((k27).M_bound hp) (below_alloc (Below.refl _ _) _)))
  have h3 : W.heap.size = k := by simpa [Value.ownBlock] using he.symm
  have := hk.2.2.1
  omega
def CellsC (hd : ByteArray → Int × Int × Int) (I : World → Prop) (b : Nat) (s : ByteArray) (off : Int) (K : Nat) : Prop :=
 ∀ (m : Nat) (W : World) (j deep : Nat) (r : Except (Int × Nat) (SC × Nat)), m < K → cellP hd s m j deep = some r → j ≤ s.size → deep ≤ 1000 → I W → RdA W b s j off →
  Calls Tryz.prog 47 #[.pointer (some ⟨b, 0, none⟩), .int .i64 deep] W (CellPost W b off r) ∧ (∀ p, r = .ok p → j < p.2 ∧ p.2 ≤ s.size)
set_option maxHeartbeats 16000000 in
theorem kids_walk (hd : ByteArray → Int × Int × Int) (I : World → Prop) (K : Nat) (w : World) (b : Nat) (s : ByteArray) (i : Nat) (off c : Int) (deep : Nat) (hs : s.size ≤ 100000) (ho : 0 ≤ off ∧ off ≤ 1000) (hi : i < s.size) (hc0 : ¬ c = 0) (hdp : deep < 1000) (hc : HeadC hd b I) (hI : I w) (HC : CellsC hd I b s off K) (k : RdA w b s i off)
  (R : Except (Int × Nat) (List SC × Nat)) (hR : kidsP hd s K c deep i = some R) :
  Calls Tryz.prog 69 #[.pointer (some ⟨b, 0, none⟩), .int .u8 c, .int .i64 deep] w (KidsPost w b off R) := by
 obtain ⟨c0, c1, c2⟩ := k.cells
 obtain ⟨f0, f1, f2⟩ := k.fro
 cases K with
 | zero => rw [kidsP] at hR; cases hR
 | succ K =>
  rw [kidsP, if_neg (by omega)] at hR
  have d1 : ((deep : Int) ≥ 1000) = False := eq_false (by omega)
  have d2 : decide ((1000 : Int) ≤ (deep : Int)) = false := decide_eq_false (by omega)
  have HDW : Aside0 (wrap64 ((deep : Int) + 1) = ((deep + 1 : Nat) : Int)) := ⟨by unfold wrap64; omega⟩
  have HIW : Aside0 (wrap64 ((i : Int) + 1) = ((i + 1 : Nat) : Int)) := ⟨by unfold wrap64; omega⟩
  obtain ⟨W0, hW0⟩ : ∃ W0, W0 = w.setCell ⟨b, 1, none⟩ (.int .i64 ((i + 1 : Nat) : Int)) := ⟨_, rfl⟩
  have HS0 : Aside0 (Step w b ((i + 1 : Nat) : Int) W0) := ⟨by rw [hW0]; exact Below.refl _ _⟩
  have HI0 : Aside0 (I W0) := ⟨hc.step hI HS0.out⟩
  have HR0 : Aside0 (RdA W0 b s ((i + 1 : Nat) : Int) off) := ⟨HS0.out.rd k⟩
  have HK := ak k
  have HCC := ak HC
  have HIW0 := ak hI
  cases hcl : cellP hd s K (i + 1) (deep + 1) with
  | none => rw [hcl] at hR; cases hR
  | some rc =>
   rw [hcl] at hR
   have HC1 := ak (HC K W0 (i + 1) (deep + 1) rc (by omega) hcl (by omega) (by omega) HI0.out HR0.out)
   have HW := ak hW0
   have e1 : (i : Int) + 1 = ((i + 1 : Nat) : Int) := by omega
   have e2 : (deep : Int) + 1 = ((deep + 1 : Nat) : Int) := by omega
   rw [← e1] at hW0
   have HW2 := ak hW0
   have HRR := ak hR
   have HE2 := ak e2
   clear hW0 k HC hI e1 hR hcl e2
   go_enter Tryz.func69, Tryz.ntmps69
   go_wp2_with fail
   rw [HE2.out, ← HW2.out]
   with_reducible refine HC1.out.1.mono ?_
   rintro e w1 h1
   cases rc with
   | error q =>
    have hRR : R = .error q := (Option.some.inj HRR.out).symm
    obtain ⟨⟨g, rfl, hg, hg2⟩, jj, hst⟩ := h1
    rw [hRR]
    exact ⟨rfl, ⟨g, rfl, Nat.le_trans HS0.out.size hg, hg2⟩, jj, Step.trans HK.out HS0.out hst⟩
   | ok p =>
    have HLP : Aside0 (loopP hd s K c deep [p.1] p.2 = some R) := ⟨HRR.out⟩
    obtain ⟨v, rfl, hRv, hst⟩ := h1
    have HST := ak (Step.trans HK.out HS0.out hst)
    have HI1 : Aside0 (I w1) := ⟨hc.step HI0.out hst⟩
    have HRV := ak (Kd.R_lower hRv HS0.out.size)
    have HPL := ak (HC1.out.2 p rfl)
    obtain ⟨A0, cp0, rfl⟩ := Kd.R_slice hRv
    obtain ⟨W', hW'⟩ : ∃ W', W' = w.setCell ⟨b, 1, none⟩ (.int .i64 (p.2 : Int)) := ⟨_, rfl⟩
    have HBW : Aside0 (Below w.heap.size W' w1) := ⟨by rw [hW']; exact HST.out⟩
    have HWW := ak hW'
    clear hst hRv HRR HC1 HW HW2 HR0 HI0 hW'
    go_wp2
    obtain ⟨w2, hw2⟩ : ∃ w2, w2 = w1.alloc (.cells #[.int .u8 p.1.f0, .int .i64 p.1.f1.f0, .int .i64 p.1.f1.f1, .int .i64 p.1.f1.f2, .int .i64 p.1.f1.f3, .int .i64 p.1.f2, .slice A0 p.1.f3.length cp0] 27) := ⟨_, rfl⟩
    have hb2' : Step w b (p.2 : Int) w2 := by rw [hw2]; exact Below.alloc HST.out HST.out.size _
    have HO : Aside0 (Kd.R k27 27 w2 w.heap.size (fun _ => True) (.slice (some ⟨w1.heap.size, 0, none⟩) 1 1) [p.1]) := ⟨by rw [hw2]; exact R_one HST.out.size p.1 HRV.out⟩
    have HS2 := ak hb2'
    have HI2 : Aside0 (I w2) := ⟨hc.step HIW0.out hb2'⟩
    rw [← hw2]
    clear hw2 hb2' c0 c1 c2 f0 f1 f2
    go_loopg [7] K (fun kq v wr => ∃ (j : Nat) (out : List SC) (A : Option Addr) (n cp : Nat), v = .slice A n cp ∧ Aside0 (loopP hd s kq c deep out j = some R ∧ kq ≤ K ∧ out.length ≤ j ∧ j ≤ s.size) ∧ Aside0 (Kd.R k27 27 wr w.heap.size (fun _ => True) v out) ∧ Aside0 (Step w b (j : Int) wr ∧ RdA wr b s j off ∧ I wr))
    case atStart => exact ⟨p.2, [p.1], _, _, _, rfl, ⟨HLP.out, Nat.le_refl _, by rw [List.length_singleton]; have := HPL.out; omega, HPL.out.2⟩, HO, ⟨HS2.out, HS2.out.rd HK.out, HI2.out⟩⟩
    case round =>
     obtain ⟨j, out, A, n, cp, rfl, HLQ, HRO, HSI⟩ := hrel
     cases gk with
     | zero => exact absurd HLQ.out.1 (by rw [loopP]; simp)
     | succ kq =>
      have hL := HLQ.out.1
      rw [loopP] at hL
      obtain rfl : n = out.length := (Kd.R_reads' HRO.out).1
      obtain ⟨c0, c1, c2⟩ := HSI.out.2.1.cells
      by_cases h2 : out.length < 2
      ·rw [if_pos (.inl h2)] at hL
       have g1 : ((out.length : Int) < 2) = True := eq_true (by omega)
       have g2 : decide ((out.length : Int) < 2) = true := decide_eq_true (by omega)
       obtain ⟨WC, hWC⟩ : ∃ WC, WC = wr := ⟨_, rfl⟩
       have HSC : Aside0 (Step w b (j : Int) WC ∧ RdA WC b s j off ∧ I WC ∧ Kd.R k27 27 WC w.heap.size (fun _ => True) (.slice A out.length cp) out) := ⟨by subst hWC; exact ⟨HSI.out.1, HSI.out.2.1, HSI.out.2.2, HRO.out⟩⟩
       subst hWC
       clear h2
       have HN := ak (eat_calls WC b s j off 44 hs ho HLQ.out.2.2.2 (by decide) HSC.out.2.1)
       go_wp2_with fail
       with_reducible refine HN.out.mono ?_
       rintro e w4 h4
       clear HN
       cases heat : eatP s j 44 with
       | error q =>
        rw [heat] at h4 hL
        have hRR : R = .error q := (Option.some.inj hL).symm
        obtain ⟨⟨g, rfl, hg, hg2⟩, jj, hst⟩ := h4
        rw [hRR]
        exact ⟨rfl, ⟨g, rfl, Nat.le_trans HSC.out.1.size hg, hg2⟩, jj, Step.trans HK.out HSC.out.1 hst⟩
       | ok a =>
        rw [heat] at h4 hL
        simp only at hL
        obtain ⟨rfl, hst⟩ := h4
        obtain ⟨ha1, ha2, _⟩ := eatP_le (by decide) heat
        have HST4 := ak (Step.trans HK.out HSC.out.1 hst)
        have HRD4 := ak (hst.rd HSC.out.2.1)
        have HI4 : Aside0 (I w4) := ⟨hc.step HSC.out.2.2.1 hst⟩
        have HRO4 := ak (R_stepS (w0 := w) HSC.out.2.2.2 HK.out.lt hst)
        clear hst heat
        cases hcl : cellP hd s kq a (deep + 1) with
        | none => rw [hcl] at hL; cases hL
        | some rc =>
         rw [hcl] at hL
         have HC1 := ak (HCC.out kq w4 a (deep + 1) rc (by have := HLQ.out.2.1; omega) hcl (by omega) (by omega) HI4.out HRD4.out)
         have HLL := ak hL
         clear hcl hL
         go_wp2_with fail
         rw [HE2.out]
         with_reducible refine HC1.out.1.mono ?_
         rintro e w5 h5
         cases rc with
         | error q =>
          have hRR : R = .error q := (Option.some.inj HLL.out).symm
          obtain ⟨⟨g, rfl, hg, hg2⟩, jj, hst⟩ := h5
          rw [hRR]
          exact ⟨rfl, ⟨g, rfl, Nat.le_trans HST4.out.size hg, hg2⟩, jj, Step.trans HK.out HST4.out hst⟩
         | ok p5 =>
          have HLP5 : Aside0 (loopP hd s kq c deep (out ++ [p5.1]) p5.2 = some R) := ⟨HLL.out⟩
          obtain ⟨ve, rfl, hRv, hst⟩ := h5
          have HST5 := ak (Step.trans HK.out HST4.out hst)
          have HI5 : Aside0 (I w5) := ⟨hc.step HI4.out hst⟩
          have HRO5 := ak (R_stepS (w0 := w) HRO4.out HK.out.lt hst)
          have HPL5 := ak (HC1.out.2 p5 rfl)
          obtain ⟨A5, cp5, rfl⟩ := Kd.R_slice hRv
          have hFM : (k27).M w5 w.heap.size (fun k => True ∧ some k ≠ (Value.slice A out.length cp).ownBlock) p5.1 [.int .u8 p5.1.f0, .int .i64 p5.1.f1.f0, .int .i64 p5.1.f1.f1, .int .i64 p5.1.f1.f2, .int .i64 p5.1.f1.f3, .int .i64 p5.1.f2, .slice A5 p5.1.f3.length cp5] :=
           k27_mkM _ _ _ p5.1 (Kd.R_lower (Kd.R_new' hRv (Kd.R_lt HRO4.out)) HST4.out.size)
          have hln : (out.length + 1) * 72 ≤ 140737488355328 := by have := HLQ.out.2.2; omega
          obtain ⟨W6, hW6⟩ : ∃ W6, W6 = w.setCell ⟨b, 1, none⟩ (.int .i64 (p5.2 : Int)) := ⟨_, rfl⟩
          have HBW6 : Aside0 (Below w.heap.size W6 w5) := ⟨by rw [hW6]; exact HST5.out⟩
          have HWW6 := ak hW6
          have hsz5 : w.heap.size ≤ w5.heap.size := HST5.out.size
          clear hst hRv HLL HC1 HRD4 hW6
          go_wp2_with (at_builtin; refine Kd.R_append k27 (w0 := W6) w.heap.size rfl (.tmp 39) (.tmp 44) 25 27 (.agg #[.int .u8 0, .int .i64 0, .int .i64 0, .int .i64 0, .int .i64 0, .int .i64 0, .slice none 0 0]) 72 rfl Tryz.underlying25 infoC rfl (by decide) (by decide) (.slice A out.length cp) out p5.1 [.int .u8 p5.1.f0, .int .i64 p5.1.f1.f0, .int .i64 p5.1.f1.f1, .int .i64 p5.1.f1.f2, .int .i64 p5.1.f1.f3, .int .i64 p5.1.f2, .slice A5 p5.1.f3.length cp5] (fun _ => True) (fun k => True ∧ some k ≠ (Value.slice A out.length cp).ownBlock) rfl rfl hFM (fun _ hk => hk) (fun _ _ => trivial) HRO5.out HBW6.out hsz5 hln ?_)
          intro v1 w6 hov hb6 _ _
          have hb6' : Step w b (p5.2 : Int) w6 := by rw [HWW6.out] at hb6; exact hb6
          obtain ⟨A6, n6, cp6, rfl⟩ := sl_of_R hov
          have HR6 := ak hov
          have HS6 := ak hb6'
          have HI6 : Aside0 (I w6) := ⟨hc.step HIW0.out hb6'⟩
          clear hov hb6 hb6' hFM
          go_wp2
          go_roundg kq
          case measure => omega
          case rel => exact ⟨p5.2, out ++ [p5.1], _, _, _, rfl, ⟨HLP5.out, by have := HLQ.out.2.1; omega, by rw [List.length_append, List.length_singleton]; have := HPL5.out; have := HLQ.out.2.2; omega, HPL5.out.2⟩, HR6, ⟨HS6.out, HS6.out.rd HK.out, HI6.out⟩⟩
      ·have g1 : ((out.length : Int) < 2) = False := eq_false (by omega)
       have g2 : decide ((out.length : Int) < 2) = false := decide_eq_false (by omega)
       have HAH := ak (rahead_calls wr b s j off HLQ.out.2.2.2 HSI.out.2.1)
       by_cases ha : aheadI s j = c
       ·rw [if_neg (by rintro (h | h); exact h2 h; exact h ha)] at hL
        have hRR : R = .ok (out, j + 1) := (Option.some.inj hL).symm
        have HJL := ak (aheadI_lt hc0 ha)
        have HRR := ak hRR
        rw [ha] at HAH
        have n1 : (c == c) = true := beq_self_eq_true _
        have n2 : (c != c) = false := by rw [bne, n1]; rfl
        have hwj : wrap64 ((j : Int) + 1) = (j : Int) + 1 := by unfold wrap64; have := HJL.out; omega
        have HWJ := ak hwj
        clear hL hRR ha h2 hwj
        go_wp2_with fail
        with_reducible refine HAH.out.mono ?_
        rintro e w4 ⟨rfl, hb4⟩
        have HST4 := ak (Step.trans HK.out HSI.out.1 (Step.of_below HSI.out.2.1 hb4))
        have HRD4 := ak (HSI.out.2.1.below hb4)
        have HRO4 := ak (Kd.R_below HRO.out hb4)
        obtain ⟨d0, d1', d2'⟩ := HRD4.out.cells
        obtain ⟨e0, e1, e2⟩ := HRD4.out.fro
        have hwj := HWJ.out
        clear hb4 HAH
        go_wp2
        go_ret
        rw [HRR.out]
        exact ⟨_, rfl, R_setS HRO4.out (p := ⟨b, 1, none⟩) HK.out.lt _, Step.trans HK.out HST4.out (by show Below _ _ _; rw [show ((j + 1 : Nat) : Int) = (j : Int) + 1 by omega]; exact Below.refl _ _)⟩
       ·rw [if_pos (.inr ha)] at hL
        obtain ⟨x, hx⟩ : ∃ x, x = aheadI s j := ⟨_, rfl⟩
        rw [← hx] at HAH ha
        have n1 : (x == c) = false := beq_eq_false_iff_ne.2 ha
        have n2 : (x != c) = true := by rw [bne, n1]; rfl
        clear hx ha h2
        go_wp2_with fail
        with_reducible refine HAH.out.mono ?_
        rintro e WC ⟨rfl, hb4⟩
        have HSC : Aside0 (Step w b (j : Int) WC ∧ RdA WC b s j off ∧ I WC ∧ Kd.R k27 27 WC w.heap.size (fun _ => True) (.slice A out.length cp) out) := ⟨Step.trans HK.out HSI.out.1 (Step.of_below HSI.out.2.1 hb4), HSI.out.2.1.below hb4, hc.bel _ _ HSI.out.2.2 hb4, Kd.R_below HRO.out hb4⟩
        clear hb4 HAH
        have HN := ak (eat_calls WC b s j off 44 hs ho HLQ.out.2.2.2 (by decide) HSC.out.2.1)
        go_wp2_with fail
        with_reducible refine HN.out.mono ?_
        rintro e w4 h4
        clear HN
        cases heat : eatP s j 44 with
        | error q =>
         rw [heat] at h4 hL
         have hRR : R = .error q := (Option.some.inj hL).symm
         obtain ⟨⟨g, rfl, hg, hg2⟩, jj, hst⟩ := h4
         rw [hRR]
         exact ⟨rfl, ⟨g, rfl, Nat.le_trans HSC.out.1.size hg, hg2⟩, jj, Step.trans HK.out HSC.out.1 hst⟩
        | ok a =>
         rw [heat] at h4 hL
         simp only at hL
         obtain ⟨rfl, hst⟩ := h4
         obtain ⟨ha1, ha2, _⟩ := eatP_le (by decide) heat
         have HST4 := ak (Step.trans HK.out HSC.out.1 hst)
         have HRD4 := ak (hst.rd HSC.out.2.1)
         have HI4 : Aside0 (I w4) := ⟨hc.step HSC.out.2.2.1 hst⟩
         have HRO4 := ak (R_stepS (w0 := w) HSC.out.2.2.2 HK.out.lt hst)
         clear hst heat
         cases hcl : cellP hd s kq a (deep + 1) with
         | none => rw [hcl] at hL; cases hL
         | some rc =>
          rw [hcl] at hL
          have HC1 := ak (HCC.out kq w4 a (deep + 1) rc (by have := HLQ.out.2.1; omega) hcl (by omega) (by omega) HI4.out HRD4.out)
          have HLL := ak hL
          clear hcl hL
          go_wp2_with fail
          rw [HE2.out]
          with_reducible refine HC1.out.1.mono ?_
          rintro e w5 h5
          cases rc with
          | error q =>
           have hRR : R = .error q := (Option.some.inj HLL.out).symm
           obtain ⟨⟨g, rfl, hg, hg2⟩, jj, hst⟩ := h5
           rw [hRR]
           exact ⟨rfl, ⟨g, rfl, Nat.le_trans HST4.out.size hg, hg2⟩, jj, Step.trans HK.out HST4.out hst⟩
          | ok p5 =>
           have HLP5 : Aside0 (loopP hd s kq c deep (out ++ [p5.1]) p5.2 = some R) := ⟨HLL.out⟩
           obtain ⟨ve, rfl, hRv, hst⟩ := h5
           have HST5 := ak (Step.trans HK.out HST4.out hst)
           have HI5 : Aside0 (I w5) := ⟨hc.step HI4.out hst⟩
           have HRO5 := ak (R_stepS (w0 := w) HRO4.out HK.out.lt hst)
           have HPL5 := ak (HC1.out.2 p5 rfl)
           obtain ⟨A5, cp5, rfl⟩ := Kd.R_slice hRv
           have hFM : (k27).M w5 w.heap.size (fun k => True ∧ some k ≠ (Value.slice A out.length cp).ownBlock) p5.1 [.int .u8 p5.1.f0, .int .i64 p5.1.f1.f0, .int .i64 p5.1.f1.f1, .int .i64 p5.1.f1.f2, .int .i64 p5.1.f1.f3, .int .i64 p5.1.f2, .slice A5 p5.1.f3.length cp5] :=
            k27_mkM _ _ _ p5.1 (Kd.R_lower (Kd.R_new' hRv (Kd.R_lt HRO4.out)) HST4.out.size)
           have hln : (out.length + 1) * 72 ≤ 140737488355328 := by have := HLQ.out.2.2; omega
           obtain ⟨W6, hW6⟩ : ∃ W6, W6 = w.setCell ⟨b, 1, none⟩ (.int .i64 (p5.2 : Int)) := ⟨_, rfl⟩
           have HBW6 : Aside0 (Below w.heap.size W6 w5) := ⟨by rw [hW6]; exact HST5.out⟩
           have HWW6 := ak hW6
           have hsz5 : w.heap.size ≤ w5.heap.size := HST5.out.size
           clear hst hRv HLL HC1 HRD4 hW6
           go_wp2_with (at_builtin; refine Kd.R_append k27 (w0 := W6) w.heap.size rfl (.tmp 39) (.tmp 44) 25 27 (.agg #[.int .u8 0, .int .i64 0, .int .i64 0, .int .i64 0, .int .i64 0, .int .i64 0, .slice none 0 0]) 72 rfl Tryz.underlying25 infoC rfl (by decide) (by decide) (.slice A out.length cp) out p5.1 [.int .u8 p5.1.f0, .int .i64 p5.1.f1.f0, .int .i64 p5.1.f1.f1, .int .i64 p5.1.f1.f2, .int .i64 p5.1.f1.f3, .int .i64 p5.1.f2, .slice A5 p5.1.f3.length cp5] (fun _ => True) (fun k => True ∧ some k ≠ (Value.slice A out.length cp).ownBlock) rfl rfl hFM (fun _ hk => hk) (fun _ _ => trivial) HRO5.out HBW6.out hsz5 hln ?_)
           intro v1 w6 hov hb6 _ _
           have hb6' : Step w b (p5.2 : Int) w6 := by rw [HWW6.out] at hb6; exact hb6
           obtain ⟨A6, n6, cp6, rfl⟩ := sl_of_R hov
           have HR6 := ak hov
           have HS6 := ak hb6'
           have HI6 : Aside0 (I w6) := ⟨hc.step HIW0.out hb6'⟩
           clear hov hb6 hb6' hFM
           go_wp2
           go_roundg kq
           case measure => omega
           case rel => exact ⟨p5.2, out ++ [p5.1], _, _, _, rfl, ⟨HLP5.out, by have := HLQ.out.2.1; omega, by rw [List.length_append, List.length_singleton]; have := HPL5.out; have := HLQ.out.2.2; omega, HPL5.out.2⟩, HR6, ⟨HS6.out, HS6.out.rd HK.out, HI6.out⟩⟩
theorem numP_ge {hd : ByteArray → Int × Int × Int} {s : ByteArray} {i : Nat} {p : Int × Nat} (h : numP hd s i = .ok p) : i ≤ p.2 := by
 unfold numP at h
 split at h
 ·cases h; exact Nat.le_add_right _ _
 ·cases h
theorem rectP_gt {hd : ByteArray → Int × Int × Int} {s : ByteArray} {i : Nat} {r : (Int × Int × Int × Int) × Nat} (h : rectP hd s i = .ok r) : i < r.2 := by
 unfold rectP at h
 cases h0 : numP hd s i with
 | error q => rw [h0] at h; cases h
 | ok p0 =>
  rw [h0] at h
  have l0 := numP_ge h0
  cases h1 : eatP s p0.2 120 with
  | error q => simp only [bind, Except.bind, h1] at h; cases h
  | ok a1 =>
   simp only [bind, Except.bind, h1] at h
   obtain ⟨e1, _⟩ := eatP_le (by decide) h1
   cases h2 : numP hd s a1 with
   | error q => rw [h2] at h; cases h
   | ok p2 =>
    simp only [h2] at h
    have l2 := numP_ge h2
    cases h3 : eatP s p2.2 44 with
    | error q => rw [h3] at h; cases h
    | ok a3 =>
     simp only [h3] at h
     obtain ⟨e3, _⟩ := eatP_le (by decide) h3
     cases h4 : numP hd s a3 with
     | error q => rw [h4] at h; cases h
     | ok p4 =>
      simp only [h4] at h
      have l4 := numP_ge h4
      cases h5 : eatP s p4.2 44 with
      | error q => rw [h5] at h; cases h
      | ok a5 =>
       simp only [h5] at h
       obtain ⟨e5, _⟩ := eatP_le (by decide) h5
       cases h6 : numP hd s a5 with
       | error q => rw [h6] at h; cases h
       | ok p6 =>
        simp only [h6] at h
        have l6 := numP_ge h6
        cases h
        show i < p6.2
        omega
theorem places (hd : ByteArray → Int × Int × Int) (hb : HeadB hd) (s : ByteArray) : ∀ k,
  (∀ i deep p, i ≤ s.size → cellP hd s k i deep = some (.ok p) → i < p.2 ∧ p.2 ≤ s.size) ∧
  (∀ c deep i p, i < s.size → ¬ c = 0 → kidsP hd s k c deep i = some (.ok p) → i < p.2 ∧ p.2 ≤ s.size) ∧
  (∀ c deep out j p, j ≤ s.size → ¬ c = 0 → loopP hd s k c deep out j = some (.ok p) → j < p.2 ∧ p.2 ≤ s.size) := by
 intro k
 induction k with
 | zero => exact ⟨fun i deep p _ h => (by rw [cellP] at h; cases h), fun c deep i p _ _ h => (by rw [kidsP] at h; cases h), fun c deep out j p _ _ h => (by rw [loopP] at h; cases h)⟩
 | succ k ih =>
  obtain ⟨ih1, ih2, ih3⟩ := ih
  refine ⟨?_, ?_, ?_⟩
  ·intro i deep p hi h
   rw [cellP] at h
   cases hr : rectP hd s i with
   | error q => rw [hr] at h; cases h
   | ok r =>
    rw [hr] at h
    simp only at h
    have g1 := rectP_gt hr
    have g2 := rectP_le hb hi hr
    by_cases h1 : aheadI s r.2 = 123
    ·rw [if_pos h1] at h
     have hl := aheadI_lt (by decide) h1
     cases hk : kidsP hd s k 125 deep r.2 with
     | none => rw [hk] at h; cases h
     | some x =>
      rw [hk] at h
      cases x with
      | error q => cases h
      | ok q =>
       have := ih2 125 deep r.2 q hl (by decide) hk
       cases h
       exact ⟨by show i < q.2; omega, this.2⟩
    ·rw [if_neg h1] at h
     by_cases h2 : aheadI s r.2 = 91
     ·rw [if_pos h2] at h
      have hl := aheadI_lt (by decide) h2
      cases hk : kidsP hd s k 93 deep r.2 with
      | none => rw [hk] at h; cases h
      | some x =>
       rw [hk] at h
       cases x with
       | error q => cases h
       | ok q =>
        have := ih2 93 deep r.2 q hl (by decide) hk
        cases h
        exact ⟨by show i < q.2; omega, this.2⟩
     ·rw [if_neg h2] at h
      cases he : eatP s r.2 44 with
      | error q => rw [he] at h; cases h
      | ok a =>
       rw [he] at h
       simp only at h
       obtain ⟨e1, e2, _⟩ := eatP_le (by decide) he
       cases hn : numP hd s a with
       | error q => rw [hn] at h; cases h
       | ok n =>
        rw [hn] at h
        have n1 := numP_ge hn
        have n2 := numP_le hb (by omega) hn
        cases h
        exact ⟨by show i < n.2; omega, n2⟩
  ·intro c deep i p hi hc h
   rw [kidsP] at h
   by_cases hdp : 1000 ≤ deep
   ·rw [if_pos hdp] at h; cases h
   ·rw [if_neg hdp] at h
    cases hk : cellP hd s k (i + 1) (deep + 1) with
    | none => rw [hk] at h; cases h
    | some x =>
     rw [hk] at h
     cases x with
     | error q => cases h
     | ok q =>
      have h1 := ih1 (i + 1) (deep + 1) q (by omega) hk
      have h2 := ih3 c deep [q.1] q.2 p h1.2 hc h
      exact ⟨by omega, h2.2⟩
  ·intro c deep out j p hj hc h
   rw [loopP] at h
   by_cases hcn : out.length < 2 ∨ ¬ aheadI s j = c
   ·rw [if_pos hcn] at h
    cases he : eatP s j 44 with
    | error q => rw [he] at h; cases h
    | ok a =>
     rw [he] at h
     simp only at h
     obtain ⟨e1, e2, _⟩ := eatP_le (by decide) he
     cases hk : cellP hd s k a (deep + 1) with
     | none => rw [hk] at h; cases h
     | some x =>
      rw [hk] at h
      cases x with
      | error q => cases h
      | ok q =>
       have h1 := ih1 a (deep + 1) q (by omega) hk
       have h2 := ih3 c deep (out ++ [q.1]) q.2 p h1.2 hc h
       exact ⟨by omega, h2.2⟩
   ·rw [if_neg hcn] at h
    have ha : aheadI s j = c := Classical.byContradiction fun h => hcn (.inr h)
    have hl := aheadI_lt hc ha
    cases h
    exact ⟨by show j < j + 1; omega, by show j + 1 ≤ s.size; omega⟩
theorem CellsC.mono {hd : ByteArray → Int × Int × Int} {I : World → Prop} {b : Nat} {s : ByteArray} {off : Int} {K K' : Nat} (h : CellsC hd I b s off K) (hk : K' ≤ K) : CellsC hd I b s off K' :=
 fun m W j deep r hm => h m W j deep r (by omega)
theorem kids_calls (hd : ByteArray → Int × Int × Int) (I : World → Prop) (K : Nat) (w : World) (b : Nat) (s : ByteArray) (i : Nat) (off c : Int) (deep : Nat) (hs : s.size ≤ 100000) (ho : 0 ≤ off ∧ off ≤ 1000) (hi : i < s.size) (hc0 : ¬ c = 0) (hdp : deep ≤ 1000) (hc : HeadC hd b I) (hI : I w) (HC : CellsC hd I b s off K) (k : RdA w b s i off)
  (R : Except (Int × Nat) (List SC × Nat)) (hR : kidsP hd s K c deep i = some R) :
  Calls Tryz.prog 69 #[.pointer (some ⟨b, 0, none⟩), .int .u8 c, .int .i64 deep] w (KidsPost w b off R) := by
 by_cases hd1 : deep < 1000
 ·exact kids_walk hd I K w b s i off c deep hs ho hi hc0 hd1 hc hI HC k R hR
 ·cases K with
  | zero => rw [kidsP] at hR; cases hR
  | succ K =>
   rw [kidsP, if_pos (by omega)] at hR
   cases hR
   exact kids_deep w b s i off c deep hs ho (by omega) (by omega) (by omega) k
theorem cells_all (hd : ByteArray → Int × Int × Int) (I : World → Prop) (b : Nat) (s : ByteArray) (off : Int) (hs : s.size ≤ 100000) (ho : 0 ≤ off ∧ off ≤ 1000) (hb : HeadB hd) (hc : HeadC hd b I) : ∀ K, CellsC hd I b s off K := by
 intro K
 induction K with
 | zero => exact fun m W j deep r hm => absurd hm (by omega)
 | succ K ih =>
  intro m W j deep r hm hr hj hdp hI k
  refine ⟨?_, fun p hp => (places hd hb s m).1 j deep p hj (by rw [hr, hp])⟩
  cases m with
  | zero => rw [cellP] at hr; cases hr
  | succ m =>
   have ihm : CellsC hd I b s off m := ih.mono (by omega)
   rw [cellP] at hr
   cases hrect : rectP hd s j with
   | error q =>
    rw [hrect] at hr
    cases hr
    exact cell_norect hd I W b s j off deep hs ho hj hb hc hI k q hrect
   | ok rr =>
    rw [hrect] at hr
    simp only at hr
    by_cases h1 : aheadI s rr.2 = 123
    ·rw [if_pos h1] at hr
     have hl := aheadI_lt (by decide) h1
     cases hk : kidsP hd s m 125 deep rr.2 with
     | none => rw [hk] at hr; cases hr
     | some Rk =>
      rw [hk] at hr
      refine cell_row hd I W b s j off deep hs ho hj hb hc hI k rr hrect h1 Rk (fun W' hI' k' => kids_calls hd I m W' b s rr.2 off 125 deep hs ho hl (by decide) hdp hc hI' ihm k' Rk hk) r ?_
      cases Rk <;> (simp only [Option.some.injEq] at hr; exact hr.symm)
    ·rw [if_neg h1] at hr
     by_cases h2 : aheadI s rr.2 = 91
     ·rw [if_pos h2] at hr
      have hl := aheadI_lt (by decide) h2
      cases hk : kidsP hd s m 93 deep rr.2 with
      | none => rw [hk] at hr; cases hr
      | some Rk =>
       rw [hk] at hr
       refine cell_col hd I W b s j off deep hs ho hj hb hc hI k rr hrect h2 Rk (fun W' hI' k' => kids_calls hd I m W' b s rr.2 off 93 deep hs ho hl (by decide) hdp hc hI' ihm k' Rk hk) r ?_
       cases Rk <;> (simp only [Option.some.injEq] at hr; exact hr.symm)
     ·rw [if_neg h2] at hr
      refine cell_leaf hd I W b s j off deep hs ho hj hb hc hI k rr hrect h1 h2 r ?_
      cases he : eatP s rr.2 44 with
      | error q => rw [he] at hr; simp only [Option.some.injEq] at hr; exact hr.symm
      | ok a =>
       rw [he] at hr
       simp only at hr ⊢
       cases hn : numP hd s a with
       | error q => rw [hn] at hr; simp only [Option.some.injEq] at hr; exact hr.symm
       | ok n => rw [hn] at hr; simp only [Option.some.injEq] at hr; exact hr.symm
theorem cell_calls (hd : ByteArray → Int × Int × Int) (I : World → Prop) (w : World) (b : Nat) (s : ByteArray) (i deep m : Nat) (off : Int) (hs : s.size ≤ 100000) (ho : 0 ≤ off ∧ off ≤ 1000) (hi : i ≤ s.size) (hdp : deep ≤ 1000) (hb : HeadB hd) (hc : HeadC hd b I) (hI : I w) (k : RdA w b s i off)
  (r : Except (Int × Nat) (SC × Nat)) (hr : cellP hd s m i deep = some r) :
  Calls Tryz.prog 47 #[.pointer (some ⟨b, 0, none⟩), .int .i64 deep] w (CellPost w b off r) :=
 (cells_all hd I b s off hs ho hb hc (m + 1) m w i deep r (by omega) hr hi hdp hI k).1
theorem total (hd : ByteArray → Int × Int × Int) (hb : HeadB hd) (s : ByteArray) : ∀ n,
  (∀ i deep k, s.size - i ≤ n → i ≤ s.size → 2 * n + 3 ≤ k → cellP hd s k i deep ≠ none) ∧
  (∀ c deep i k, s.size - i ≤ n → i < s.size → ¬ c = 0 → 2 * n + 3 ≤ k → kidsP hd s k c deep i ≠ none) ∧
  (∀ c deep out j k, s.size - j ≤ n → j ≤ s.size → ¬ c = 0 → 2 * n + 3 ≤ k → loopP hd s k c deep out j ≠ none) := by
 intro n
 induction n using Nat.strongRecOn with
 | ind n ih =>
  refine ⟨?_, ?_, ?_⟩
  ·intro i deep k hn hi hk
   obtain ⟨k, rfl⟩ : ∃ k', k = k' + 1 := ⟨k - 1, by omega⟩
   rw [cellP]
   cases hr : rectP hd s i with
   | error q => simp
   | ok r =>
    have g1 := rectP_gt hr
    have g2 := rectP_le hb hi hr
    simp only
    by_cases h1 : aheadI s r.2 = 123
    ·rw [if_pos h1]
     have hl := aheadI_lt (by decide) h1
     have := (ih (n - 1) (by omega)).2.1 125 deep r.2 k (by omega) hl (by decide) (by omega)
     cases hk2 : kidsP hd s k 125 deep r.2 with
     | none => exact absurd hk2 this
     | some x => cases x <;> simp
    ·rw [if_neg h1]
     by_cases h2 : aheadI s r.2 = 91
     ·rw [if_pos h2]
      have hl := aheadI_lt (by decide) h2
      have := (ih (n - 1) (by omega)).2.1 93 deep r.2 k (by omega) hl (by decide) (by omega)
      cases hk2 : kidsP hd s k 93 deep r.2 with
      | none => exact absurd hk2 this
      | some x => cases x <;> simp
     ·rw [if_neg h2]
      cases eatP s r.2 44 with
      | error q => simp
      | ok a =>
       simp only
       cases numP hd s a <;> simp
  ·intro c deep i k hn hi hc hk
   obtain ⟨k, rfl⟩ : ∃ k', k = k' + 1 := ⟨k - 1, by omega⟩
   rw [kidsP]
   by_cases hdp : 1000 ≤ deep
   ·rw [if_pos hdp]; simp
   ·rw [if_neg hdp]
    have h1 := (ih (n - 1) (by omega)).1 (i + 1) (deep + 1) k (by omega) (by omega) (by omega)
    cases hc2 : cellP hd s k (i + 1) (deep + 1) with
    | none => exact absurd hc2 h1
    | some x =>
     cases x with
     | error q => simp
     | ok p =>
      have hp := (places hd hb s k).1 (i + 1) (deep + 1) p (by omega) hc2
      simp only
      exact (ih (n - 1) (by omega)).2.2 c deep [p.1] p.2 k (by omega) hp.2 hc (by omega)
  ·intro c deep out j k hn hj hc hk
   obtain ⟨k, rfl⟩ : ∃ k', k = k' + 1 := ⟨k - 1, by omega⟩
   rw [loopP]
   by_cases hcn : out.length < 2 ∨ ¬ aheadI s j = c
   ·rw [if_pos hcn]
    cases he : eatP s j 44 with
    | error q => simp
    | ok a =>
     obtain ⟨e1, e2, _⟩ := eatP_le (by decide) he
     simp only
     have h1 := (ih (n - 1) (by omega)).1 a (deep + 1) k (by omega) (by omega) (by omega)
     cases hc2 : cellP hd s k a (deep + 1) with
     | none => exact absurd hc2 h1
     | some x =>
      cases x with
      | error q => simp
      | ok p =>
       have hp := (places hd hb s k).1 a (deep + 1) p (by omega) hc2
       simp only
       exact (ih (n - 1) (by omega)).2.2 c deep (out ++ [p.1]) p.2 k (by omega) hp.2 hc (by omega)
   ·rw [if_neg hcn]; simp
theorem cellP_some (hd : ByteArray → Int × Int × Int) (hb : HeadB hd) (s : ByteArray) : ∃ r, cellP hd s (2 * s.size + 3) 0 1 = some r :=
 Option.ne_none_iff_exists'.1 ((total hd hb s s.size).1 0 1 _ (by omega) (Nat.zero_le _) (Nat.le_refl _))
end Go.Proofs.YtkobpbbegalfpaaGreatDoor
