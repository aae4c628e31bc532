/-
 The reader takes a cell with kids: the walk, over its kids' contract.
-/
import Derived.Test.YtkobpbbegalfpaaGreatDoorPsCellW
namespace Go.Proofs.YtkobpbbegalfpaaGreatDoor
open Go.RowKit Go.Proofs.YtkobpbbegalfpaaGreatDoorW.PrintWords Go.Proofs.YtkobpbbegalfpaaGreatDoorW.PrintLast Go.Proofs.YtkobpbbegalfpaaGreatDoorW.PrintMore Go.Proofs.YtkobpbbegalfpaaGreatDoor.PParseBodies
set_option linter.unusedVariables false
set_option linter.unusedSimpArgs false
set_option maxRecDepth 100000

def withKids (kd : Int) (r : Int × Int × Int × Int) : Except (Int × Nat) (List SC × Nat) → Except (Int × Nat) (SC × Nat)
 | .error q => .error q
 | .ok p => .ok (⟨kd, ⟨r.1, r.2.1, r.2.2.1, r.2.2.2⟩, 0, p.1⟩, p.2)
theorem R_setS {w : World} {base : Nat} {e : Nat} {v : Value} {xs : List SC} (h : Kd.R k27 e w base (fun _ => True) v xs) {p : Addr} (hb : p.block < base) (u : Value) : Kd.R k27 e (w.setCell p u) base (fun _ => True) v xs :=
 Kd.R_mono (Kd.R_step (Kd.R_bound h) (fun k hk hlt => Below.heap_setCell w p u k (by have := hk.2.1; omega))) (fun _ _ => trivial)
theorem R_set7 {W : World} {n base e : Nat} {v : Value} {xs : List SC} (h : Kd.R k27 e W base (fun _ => True) v xs) (hn : n < base) (v0 v1 v2 v3 v4 v5 v6 : Value) : Kd.R k27 e (((((((W.setCell ⟨n, 0, none⟩ v0).setCell ⟨n, 1, none⟩ v1).setCell ⟨n, 2, none⟩ v2).setCell ⟨n, 3, none⟩ v3).setCell ⟨n, 4, none⟩ v4).setCell ⟨n, 5, none⟩ v5).setCell ⟨n, 6, none⟩ v6) base (fun _ => True) v xs :=
 (R_setS (R_setS (R_setS (R_setS (R_setS (R_setS (R_setS h (p := ⟨n, 0, none⟩) hn v0) (p := ⟨n, 1, none⟩) hn v1) (p := ⟨n, 2, none⟩) hn v2) (p := ⟨n, 3, none⟩) hn v3) (p := ⟨n, 4, none⟩) hn v4) (p := ⟨n, 5, none⟩) hn v5) (p := ⟨n, 6, none⟩) hn v6)
set_option maxHeartbeats 8000000 in
theorem cell_row (hd : ByteArray → Int × Int × Int) (I : World → Prop) (w : World) (b : Nat) (s : ByteArray) (i : Nat) (off deep : Int) (hs : s.size ≤ 100000) (ho : 0 ≤ off ∧ off ≤ 1000) (hi : i ≤ s.size) (hb : HeadB hd) (hc : HeadC hd b I) (hI : I w) (k : RdA w b s i off)
  (r : (Int × Int × Int × Int) × Nat) (hr : rectP hd s i = .ok r) (h1 : aheadI s r.2 = 123) (Rk : Except (Int × Nat) (List SC × Nat))
  (HKD : ∀ W, I W → RdA W b s r.2 off → Calls Tryz.prog 69 #[.pointer (some ⟨b, 0, none⟩), .int .u8 125, .int .i64 deep] W (KidsPost W b off Rk))
  (R : Except (Int × Nat) (SC × Nat))
  (hR : R = withKids 2 r.1 Rk) :
  Calls Tryz.prog 47 #[.pointer (some ⟨b, 0, none⟩), .int .i64 deep] w (CellPost w b off R) := by
 obtain ⟨W0, hW0⟩ : ∃ W0, W0 = w.alloc (.cells zeroA 27) := ⟨_, rfl⟩
 have HP0 : Aside0 (PS w W0 b s off i zeroA 27) := ⟨by rw [hW0]; exact PS.new k _ _⟩
 have HK := Aside0.mk k
 have HKK := Aside0.mk HKD
 have HI0 : Aside0 (I W0) := ⟨hc.step hI HP0.out.st⟩
 have HW := Aside0.mk hW0
 have HL := Aside0.mk (rectP_le hb hi hr)
 have HN := Aside0.mk (rect_calls hd I W0 b s i off hs ho hi hb hc HI0.out HP0.out.rd)
 rw [hr] at HN
 have HRR := Aside0.mk hR
 clear hW0 hr k hI hR HKD
 go_enter Tryz.func47, Tryz.ntmps47
 go_wp2_with fail
 rw [← HW.out]
 with_reducible refine HN.out.mono ?_
 rintro e w1 ⟨rfl, hst⟩
 obtain ⟨W1, hW1⟩ : ∃ W1, W1 = w1.alloc (.cells (cellA 0 r.1 0 (.slice none 0 0)) 27) := ⟨_, rfl⟩
 have HP1 := Aside0.mk (HP0.out.step HK.out hst)
 have HC1 : Aside0 (CSt w W1 b s off r.2 w1.heap.size (cellA 0 r.1 0 (.slice none 0 0))) := ⟨by rw [hW1]; exact CSt.new HP1.out _⟩
 have HI1 : Aside0 (I W1) := ⟨hc.bel _ _ (hc.step HI0.out hst) (by rw [hW1]; exact below_alloc (Below.refl _ _) _)⟩
 have HA := Aside0.mk (rahead_calls W1 b s r.2 off HL.out HC1.out.rd)
 have HW1 := Aside0.mk hW1
 clear hW1 hst HN HW HP1
 go_wp2_with fail
 try rw [← HW1.out]
 with_reducible refine HA.out.mono ?_
 rintro e w2 ⟨rfl, hb2⟩
 have HC2 := Aside0.mk (HC1.out.step HK.out (Step.of_below HC1.out.rd hb2))
 have HI2 : Aside0 (I w2) := ⟨hc.bel _ _ HI1.out hb2⟩
 have HN2 := Aside0.mk (HKK.out w2 HI2.out HC2.out.rd)
 have x1 : (aheadI s r.2 == 123) = true := beq_iff_eq.2 h1
 generalize w1.heap.size = g at *
 clear hb2 HA HC1 HI1 HW1 HKK
 generalize aheadI s r.2 = x at *
 clear h1
 go_wp2_with fail
 with_reducible refine HN2.out.mono ?_
 rintro e w3 h3
 cases Rk with
 | error q =>
  have hR : R = .error q := HRR.out
  obtain ⟨⟨g1, rfl, hg, hg2⟩, jj, hst⟩ := h3
  rw [hR]
  exact ⟨rfl, ⟨g1, rfl, Nat.le_trans HC2.out.st.size hg, hg2⟩, jj, Step.trans HK.out HC2.out.st hst⟩
 | ok p =>
  have hR : R = .ok (⟨2, ⟨r.1.1, r.1.2.1, r.1.2.2.1, r.1.2.2.2⟩, 0, p.1⟩, p.2) := HRR.out
  obtain ⟨v, rfl, hRv, hst⟩ := h3
  have HC4 := Aside0.mk (HC2.out.step HK.out hst)
  have HRv := Aside0.mk hRv
  have HGL := Aside0.mk (blk_lt HC2.out.loc)
  have HR4 := Aside0.mk hR
  obtain ⟨A', c', rfl⟩ := Kd.R_slice hRv
  clear hst hR HRR HN2 HC2 HI2 hRv
  have hres := HC4.out.res
  have hloc := HC4.out.loc
  have hne1 : ¬ w.heap.size = g := Nat.ne_of_lt HC4.out.lt
  have hne2 : ¬ g = w.heap.size := Nat.ne_of_gt HC4.out.lt
  have r0 : w3.cell? ⟨w.heap.size, 0, none⟩ = some (.int .u8 0) := by simp [World.cell?, hres]
  have fr0 := blk_frozen hres 0
  have l0 : w3.cell? ⟨g, 0, none⟩ = some (.int .u8 0) := by simp [World.cell?, hloc]
  have fl0 := blk_frozen hloc 0
  have r1 : w3.cell? ⟨w.heap.size, 1, none⟩ = some (.int .i64 0) := by simp [World.cell?, hres]
  have fr1 := blk_frozen hres 1
  have l1 : w3.cell? ⟨g, 1, none⟩ = some (.int .i64 r.1.1) := by simp [World.cell?, hloc]
  have fl1 := blk_frozen hloc 1
  have r2 : w3.cell? ⟨w.heap.size, 2, none⟩ = some (.int .i64 0) := by simp [World.cell?, hres]
  have fr2 := blk_frozen hres 2
  have l2 : w3.cell? ⟨g, 2, none⟩ = some (.int .i64 r.1.2.1) := by simp [World.cell?, hloc]
  have fl2 := blk_frozen hloc 2
  have r3 : w3.cell? ⟨w.heap.size, 3, none⟩ = some (.int .i64 0) := by simp [World.cell?, hres]
  have fr3 := blk_frozen hres 3
  have l3 : w3.cell? ⟨g, 3, none⟩ = some (.int .i64 r.1.2.2.1) := by simp [World.cell?, hloc]
  have fl3 := blk_frozen hloc 3
  have r4 : w3.cell? ⟨w.heap.size, 4, none⟩ = some (.int .i64 0) := by simp [World.cell?, hres]
  have fr4 := blk_frozen hres 4
  have l4 : w3.cell? ⟨g, 4, none⟩ = some (.int .i64 r.1.2.2.2) := by simp [World.cell?, hloc]
  have fl4 := blk_frozen hloc 4
  have r5 : w3.cell? ⟨w.heap.size, 5, none⟩ = some (.int .i64 0) := by simp [World.cell?, hres]
  have fr5 := blk_frozen hres 5
  have l5 : w3.cell? ⟨g, 5, none⟩ = some (.int .i64 0) := by simp [World.cell?, hloc]
  have fl5 := blk_frozen hloc 5
  have r6 : w3.cell? ⟨w.heap.size, 6, none⟩ = some (.slice none 0 0) := by simp [World.cell?, hres]
  have fr6 := blk_frozen hres 6
  have l6 : w3.cell? ⟨g, 6, none⟩ = some (.slice none 0 0) := by simp [World.cell?, hloc]
  have fl6 := blk_frozen hloc 6
  clear hres hloc
  go_wp2
  refine bodyPost_ret (v := .agg #[.int .u8 2, .int .i64 r.1.1, .int .i64 r.1.2.1, .int .i64 r.1.2.2.1, .int .i64 r.1.2.2.2, .int .i64 0, .slice A' p.1.length c']) (by simp [results, Tryz.results47, go_sem, r0, r1, r2, r3, r4, r5, r6, hne1, hne2]) rfl ?_
  rw [HR4.out]
  refine ⟨_, rfl, ?_, step7 ((HC4.out.st.setCell (p := ⟨g, 0, none⟩) (Nat.le_of_lt HC4.out.lt) _).setCell (p := ⟨g, 6, none⟩) (Nat.le_of_lt HC4.out.lt) _) _ _ _ _ _ _ _⟩
  exact Kd.R_lower (R_set7 (R_setS (R_setS HRv.out (p := ⟨g, 0, none⟩) HGL.out _) (p := ⟨g, 6, none⟩) HGL.out _) (Nat.lt_trans HC4.out.lt HGL.out) _ _ _ _ _ _ _) (Nat.le_of_lt (Nat.lt_trans HC4.out.lt HGL.out))
set_option maxHeartbeats 8000000 in
theorem cell_col (hd : ByteArray → Int × Int × Int) (I : World → Prop) (w : World) (b : Nat) (s : ByteArray) (i : Nat) (off deep : Int) (hs : s.size ≤ 100000) (ho : 0 ≤ off ∧ off ≤ 1000) (hi : i ≤ s.size) (hb : HeadB hd) (hc : HeadC hd b I) (hI : I w) (k : RdA w b s i off)
  (r : (Int × Int × Int × Int) × Nat) (hr : rectP hd s i = .ok r) (h1 : aheadI s r.2 = 91) (Rk : Except (Int × Nat) (List SC × Nat))
  (HKD : ∀ W, I W → RdA W b s r.2 off → Calls Tryz.prog 69 #[.pointer (some ⟨b, 0, none⟩), .int .u8 93, .int .i64 deep] W (KidsPost W b off Rk))
  (R : Except (Int × Nat) (SC × Nat))
  (hR : R = withKids 3 r.1 Rk) :
  Calls Tryz.prog 47 #[.pointer (some ⟨b, 0, none⟩), .int .i64 deep] w (CellPost w b off R) := by
 obtain ⟨W0, hW0⟩ : ∃ W0, W0 = w.alloc (.cells zeroA 27) := ⟨_, rfl⟩
 have HP0 : Aside0 (PS w W0 b s off i zeroA 27) := ⟨by rw [hW0]; exact PS.new k _ _⟩
 have HK := Aside0.mk k
 have HKK := Aside0.mk HKD
 have HI0 : Aside0 (I W0) := ⟨hc.step hI HP0.out.st⟩
 have HW := Aside0.mk hW0
 have HL := Aside0.mk (rectP_le hb hi hr)
 have HN := Aside0.mk (rect_calls hd I W0 b s i off hs ho hi hb hc HI0.out HP0.out.rd)
 rw [hr] at HN
 have HRR := Aside0.mk hR
 clear hW0 hr k hI hR HKD
 go_enter Tryz.func47, Tryz.ntmps47
 go_wp2_with fail
 rw [← HW.out]
 with_reducible refine HN.out.mono ?_
 rintro e w1 ⟨rfl, hst⟩
 obtain ⟨W1, hW1⟩ : ∃ W1, W1 = w1.alloc (.cells (cellA 0 r.1 0 (.slice none 0 0)) 27) := ⟨_, rfl⟩
 have HP1 := Aside0.mk (HP0.out.step HK.out hst)
 have HC1 : Aside0 (CSt w W1 b s off r.2 w1.heap.size (cellA 0 r.1 0 (.slice none 0 0))) := ⟨by rw [hW1]; exact CSt.new HP1.out _⟩
 have HI1 : Aside0 (I W1) := ⟨hc.bel _ _ (hc.step HI0.out hst) (by rw [hW1]; exact below_alloc (Below.refl _ _) _)⟩
 have HA := Aside0.mk (rahead_calls W1 b s r.2 off HL.out HC1.out.rd)
 have HW1 := Aside0.mk hW1
 clear hW1 hst HN HW HP1
 go_wp2_with fail
 try rw [← HW1.out]
 with_reducible refine HA.out.mono ?_
 rintro e w2 ⟨rfl, hb2⟩
 have HC2 := Aside0.mk (HC1.out.step HK.out (Step.of_below HC1.out.rd hb2))
 have HI2 : Aside0 (I w2) := ⟨hc.bel _ _ HI1.out hb2⟩
 have HN2 := Aside0.mk (HKK.out w2 HI2.out HC2.out.rd)
 have x1 : (aheadI s r.2 == 123) = false := beq_eq_false_iff_ne.2 (by rw [h1]; decide)
 have x2 : (aheadI s r.2 == 91) = true := beq_iff_eq.2 h1
 generalize w1.heap.size = g at *
 clear hb2 HA HC1 HI1 HW1 HKK
 generalize aheadI s r.2 = x at *
 clear h1
 go_wp2_with fail
 with_reducible refine HN2.out.mono ?_
 rintro e w3 h3
 cases Rk with
 | error q =>
  have hR : R = .error q := HRR.out
  obtain ⟨⟨g1, rfl, hg, hg2⟩, jj, hst⟩ := h3
  rw [hR]
  exact ⟨rfl, ⟨g1, rfl, Nat.le_trans HC2.out.st.size hg, hg2⟩, jj, Step.trans HK.out HC2.out.st hst⟩
 | ok p =>
  have hR : R = .ok (⟨3, ⟨r.1.1, r.1.2.1, r.1.2.2.1, r.1.2.2.2⟩, 0, p.1⟩, p.2) := HRR.out
  obtain ⟨v, rfl, hRv, hst⟩ := h3
  have HC4 := Aside0.mk (HC2.out.step HK.out hst)
  have HRv := Aside0.mk hRv
  have HGL := Aside0.mk (blk_lt HC2.out.loc)
  have HR4 := Aside0.mk hR
  obtain ⟨A', c', rfl⟩ := Kd.R_slice hRv
  clear hst hR HRR HN2 HC2 HI2 hRv
  have hres := HC4.out.res
  have hloc := HC4.out.loc
  have hne1 : ¬ w.heap.size = g := Nat.ne_of_lt HC4.out.lt
  have hne2 : ¬ g = w.heap.size := Nat.ne_of_gt HC4.out.lt
  have r0 : w3.cell? ⟨w.heap.size, 0, none⟩ = some (.int .u8 0) := by simp [World.cell?, hres]
  have fr0 := blk_frozen hres 0
  have l0 : w3.cell? ⟨g, 0, none⟩ = some (.int .u8 0) := by simp [World.cell?, hloc]
  have fl0 := blk_frozen hloc 0
  have r1 : w3.cell? ⟨w.heap.size, 1, none⟩ = some (.int .i64 0) := by simp [World.cell?, hres]
  have fr1 := blk_frozen hres 1
  have l1 : w3.cell? ⟨g, 1, none⟩ = some (.int .i64 r.1.1) := by simp [World.cell?, hloc]
  have fl1 := blk_frozen hloc 1
  have r2 : w3.cell? ⟨w.heap.size, 2, none⟩ = some (.int .i64 0) := by simp [World.cell?, hres]
  have fr2 := blk_frozen hres 2
  have l2 : w3.cell? ⟨g, 2, none⟩ = some (.int .i64 r.1.2.1) := by simp [World.cell?, hloc]
  have fl2 := blk_frozen hloc 2
  have r3 : w3.cell? ⟨w.heap.size, 3, none⟩ = some (.int .i64 0) := by simp [World.cell?, hres]
  have fr3 := blk_frozen hres 3
  have l3 : w3.cell? ⟨g, 3, none⟩ = some (.int .i64 r.1.2.2.1) := by simp [World.cell?, hloc]
  have fl3 := blk_frozen hloc 3
  have r4 : w3.cell? ⟨w.heap.size, 4, none⟩ = some (.int .i64 0) := by simp [World.cell?, hres]
  have fr4 := blk_frozen hres 4
  have l4 : w3.cell? ⟨g, 4, none⟩ = some (.int .i64 r.1.2.2.2) := by simp [World.cell?, hloc]
  have fl4 := blk_frozen hloc 4
  have r5 : w3.cell? ⟨w.heap.size, 5, none⟩ = some (.int .i64 0) := by simp [World.cell?, hres]
  have fr5 := blk_frozen hres 5
  have l5 : w3.cell? ⟨g, 5, none⟩ = some (.int .i64 0) := by simp [World.cell?, hloc]
  have fl5 := blk_frozen hloc 5
  have r6 : w3.cell? ⟨w.heap.size, 6, none⟩ = some (.slice none 0 0) := by simp [World.cell?, hres]
  have fr6 := blk_frozen hres 6
  have l6 : w3.cell? ⟨g, 6, none⟩ = some (.slice none 0 0) := by simp [World.cell?, hloc]
  have fl6 := blk_frozen hloc 6
  clear hres hloc
  go_wp2
  refine bodyPost_ret (v := .agg #[.int .u8 3, .int .i64 r.1.1, .int .i64 r.1.2.1, .int .i64 r.1.2.2.1, .int .i64 r.1.2.2.2, .int .i64 0, .slice A' p.1.length c']) (by simp [results, Tryz.results47, go_sem, r0, r1, r2, r3, r4, r5, r6, hne1, hne2]) rfl ?_
  rw [HR4.out]
  refine ⟨_, rfl, ?_, step7 ((HC4.out.st.setCell (p := ⟨g, 0, none⟩) (Nat.le_of_lt HC4.out.lt) _).setCell (p := ⟨g, 6, none⟩) (Nat.le_of_lt HC4.out.lt) _) _ _ _ _ _ _ _⟩
  exact Kd.R_lower (R_set7 (R_setS (R_setS HRv.out (p := ⟨g, 0, none⟩) HGL.out _) (p := ⟨g, 6, none⟩) HGL.out _) (Nat.lt_trans HC4.out.lt HGL.out) _ _ _ _ _ _ _) (Nat.le_of_lt (Nat.lt_trans HC4.out.lt HGL.out))
end Go.Proofs.YtkobpbbegalfpaaGreatDoor
