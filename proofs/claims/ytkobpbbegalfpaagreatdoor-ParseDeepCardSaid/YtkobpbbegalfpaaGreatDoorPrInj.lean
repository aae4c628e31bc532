/-
  Joined texts: PsRBo, PsRB, PsSame, PsUni, PrPure, PrInj.
-/
import Derived.Test.YtkobpbbegalfpaaGreatDoorPsRWh
import Derived.Test.YtkobpbbegalfpaaGreatDoorTiRef2
import Derived.Test.YtkobpbbegalfpaaGreatDoorPParseBodiesx13
import Derived.Test.YtkobpbbegalfpaaGreatDoorTiRef
import Derived.Test.YtkobpbbegalfpaaGreatDoorPParseBodiesx2
import Derived.Lib.Strings
import Derived.Test.YtkobpbbegalfpaaGreatDoorPsCellW
import Derived.Test.YtkobpbbegalfpaaGreatDoorNuErrP
/-
 The document's Body: an own walk.
-/
namespace Go.Proofs.YtkobpbbegalfpaaGreatDoor
open Go.RowKit Go.Proofs.YtkobpbbegalfpaaGreatDoorW.PrintWords Go.Proofs.YtkobpbbegalfpaaGreatDoorW.PrintLast Go.Proofs.YtkobpbbegalfpaaGreatDoorW.PrintMore Go.Proofs.YtkobpbbegalfpaaGreatDoor.PParseBodies
set_option linter.unusedVariables false
set_option linter.unusedSimpArgs false
set_option maxRecDepth 100000

/-- A tree into the answer's box. -/
theorem res_tree {w W : World} {R : Except (Int × Int) SC} {A : Option Addr} {c : Nat} (hb : Below w.heap.size w W) (hR : Kd.R k27 27 W (w.heap.size + 1) (fun _ => True) (.slice A (treeR R).f3.length c) (treeR R).f3) :
  RefPost w R (.returned (.tuple #[.agg #[.int .u8 (treeR R).f0, .int .i64 (treeR R).f1.f0, .int .i64 (treeR R).f1.f1, .int .i64 (treeR R).f1.f2, .int .i64 (treeR R).f1.f3, .int .i64 (treeR R).f2, .slice A (treeR R).f3.length c], .int .i64 (noR R), .int .i64 (atR R)])) (((((((W.setCell ⟨w.heap.size, 0, none⟩ (.int .u8 (treeR R).f0)).setCell ⟨w.heap.size, 1, none⟩ (.int .i64 (treeR R).f1.f0)).setCell ⟨w.heap.size, 2, none⟩ (.int .i64 (treeR R).f1.f1)).setCell ⟨w.heap.size, 3, none⟩ (.int .i64 (treeR R).f1.f2)).setCell ⟨w.heap.size, 4, none⟩ (.int .i64 (treeR R).f1.f3)).setCell ⟨w.heap.size, 5, none⟩ (.int .i64 (treeR R).f2)).setCell ⟨w.heap.size, 6, none⟩ (.slice A (treeR R).f3.length c)) :=
 ⟨A, c, rfl, Kd.R_lower (R_set7 hR (by omega) _ _ _ _ _ _ _) (by omega), (((((((hb.setCell (p := ⟨w.heap.size, 0, none⟩) (Nat.le_refl _) _).setCell (p := ⟨w.heap.size, 1, none⟩) (Nat.le_refl _) _).setCell (p := ⟨w.heap.size, 2, none⟩) (Nat.le_refl _) _).setCell (p := ⟨w.heap.size, 3, none⟩) (Nat.le_refl _) _).setCell (p := ⟨w.heap.size, 4, none⟩) (Nat.le_refl _) _).setCell (p := ⟨w.heap.size, 5, none⟩) (Nat.le_refl _) _).setCell (p := ⟨w.heap.size, 6, none⟩) (Nat.le_refl _) _)⟩
set_option maxHeartbeats 4000000 in
theorem rbody_walk (w : World) (s : ByteArray) (hs : s.size ≤ 65530) (R : Except (Int × Int) SC) (HW : ∀ W, Calls Tryz.prog 28 #[.string s, .int .i64 0] W (RefPost W R)) :
  Calls Tryz.prog 10 #[.string s] w (RefPost w R) := by
 obtain ⟨W1, hW1⟩ : ∃ W1, W1 = w.alloc (.cells zeroA 27) := ⟨_, rfl⟩
 have HB1 : Aside0 (Below w.heap.size w W1) := ⟨by rw [hW1]; exact below_alloc (Below.refl _ _) _⟩
 have HR1 : Aside0 (W1.heap[w.heap.size]? = some (.cells zeroA 27 (0, 0))) := ⟨by rw [hW1]; exact heap_alloc_new w _⟩
 have HS1 : Aside0 (W1.heap.size = w.heap.size + 1) := ⟨by rw [hW1]; simp⟩
 have HW1 := Aside0.mk hW1
 have HH := Aside0.mk (HW W1)
 unfold RefPost at HH
 have q1 : ((s.size : Int) > 65530) = False := eq_false (by omega)
 have q2 : decide ((65530 : Int) < (s.size : Int)) = false := decide_eq_false (by omega)
 have HFIN : Aside0 (∀ W A c, Below w.heap.size w W → Kd.R k27 27 W (w.heap.size + 1) (fun _ => True) (.slice A (treeR R).f3.length c) (treeR R).f3 → RefPost w R _ _) := ⟨fun W A c hb hR => res_tree hb hR⟩
 generalize treeR R = x at *
 generalize noR R = no at *
 generalize atR R = at_ at *
 clear hW1 HW hs
 go_enter Tryz.func10, Tryz.ntmps10
 go_wp2_with fail
 rw [← HW1.out]
 refine HH.out.mono ?_
 rintro e w2 ⟨A, c, rfl, hR, hb2⟩
 have HB2 : Aside0 (Below w.heap.size w w2) := ⟨HB1.out.trans (hb2.mono HB1.out.size)⟩
 have HR2 := Aside0.mk hR
 have hr2 := (hb2.block _ (blk_lt HR1.out)).trans HR1.out
 obtain ⟨⟨r0, r1, r2, r3, r4, r5, r6⟩, f0, f1, f2, f3, f4, f5, f6⟩ := zero_cells hr2
 clear hR hb2 hr2
 go_wp2
 refine bodyPost_ret (v := .tuple #[.agg #[.int .u8 x.f0, .int .i64 x.f1.f0, .int .i64 x.f1.f1, .int .i64 x.f1.f2, .int .i64 x.f1.f3, .int .i64 x.f2, .slice A x.f3.length c], .int .i64 no, .int .i64 at_]) (by simp [results, Tryz.results10, go_sem, r0, r1, r2, r3, r4, r5, r6]) rfl ?_
 exact HFIN.out w2 A c HB2.out (by have h := HR2.out; rw [HS1.out] at h; exact h)
end Go.Proofs.YtkobpbbegalfpaaGreatDoor

/-
 The document's Body answers as the reader: own walks of whole and Body, over the printed ones of cell, May and Tiles.
-/
namespace Go.Proofs.YtkobpbbegalfpaaGreatDoor
open Go.RowKit Go.Proofs.YtkobpbbegalfpaaGreatDoorW.PrintWords Go.Proofs.YtkobpbbegalfpaaGreatDoorW.PrintLast Go.Proofs.YtkobpbbegalfpaaGreatDoorW.PrintMore Go.Proofs.YtkobpbbegalfpaaGreatDoor.PParseBodies
set_option linter.unusedVariables false
set_option linter.unusedSimpArgs false

theorem tiles_f (c : SC) (hl : (cells c).length ≤ 10000) (k : Nat) (hk : 200000000 < k) : sashref06_Tiles.f k c.f0 c.f1.f0 c.f1.f1 c.f1.f2 c.f1.f3 c.f2 c.f3 = some (tilesB c) := by
 unfold sashref06_Tiles.f
 rw [Check_f c hl k hk, tilesB_no]
 simp only [Option.bind_some]
 congr 1
theorem cellR_at {s : ByteArray} {p : SC × Nat} (h : cellR s = .ok p) : p.2 ≤ s.size := by
 have e := cellR_eq s
 rw [h] at e
 exact ((places headR headB_R s _).1 0 1 p (Nat.zero_le _) e).2
theorem rcell_c (s : ByteArray) (hs : s.size ≤ 100000) (W : World) : Calls Tryz.prog 51 #[.string s, .int .i64 0, .int .i64 1] W (RCellPost W (cellR s)) := by
 have h := cellR_f s hs (42 * s.size + 80) (Nat.le_refl _)
 have e : cellT (cellR s) = ((pTree (cellR s)).f0, (pTree (cellR s)).f1.f0, (pTree (cellR s)).f1.f1, (pTree (cellR s)).f1.f2, (pTree (cellR s)).f1.f3, (pTree (cellR s)).f2, (pTree (cellR s)).f3, pAt (cellR s), pNo (cellR s), pSite (cellR s)) := by cases cellR s <;> rfl
 rw [e] at h
 refine (sashref11_cell.calls _ s 0 1 _ _ _ _ _ _ _ _ _ _ W h).mono ?_
 rintro e' w' ⟨v, rfl, hR, hb⟩
 obtain ⟨A, c, rfl⟩ := Kd.R_slice hR
 exact ⟨A, c, rfl, hR, hb⟩
theorem rwhole_c (s : ByteArray) (hs : s.size ≤ 65535) (off : Int) (ho : 0 ≤ off ∧ off ≤ 1000) (w : World) : Calls Tryz.prog 28 #[.string s, .int .i64 off] w (RefPost w (wholeA s off)) := by
 have hsm : ∀ p, cellR s = .ok p → (cells p.1).length ≤ 10000 := fun p hp => by have := cellR_size hp; omega
 refine rwhole_walk w s off (cellR s) ho (by omega) ?_ ?_ ?_ (rcell_c s (by omega)) ?_ ?_
 ·cases hr : cellR s with
  | error q => exact ⟨Int.le_refl _, by show (0 : Int) ≤ 100000; decide⟩
  | ok p => have := cellR_at hr; exact ⟨Int.natCast_nonneg _, by show (p.2 : Int) ≤ 100000; omega⟩
 ·cases hr : cellR s with
  | error q => have := cellR_site hr; exact ⟨Int.natCast_nonneg _, by show (q.2 : Int) ≤ 100000; omega⟩
  | ok p => exact ⟨Int.le_refl _, by show (0 : Int) ≤ 100000; decide⟩
 ·intro q hq; have := cellR_no (by omega) hq; omega
 ·intro p hp W A c hC hc
  exact (sashref05_May.calls 200000001 _ _ _ _ _ _ A c p.1.f3 _ W hC hc (May_f p.1 (hsm p hp) _ (by omega))).mono fun e w' h => h
 ·intro p hp W A c hC hc
  exact (sashref06_Tiles.calls 200000001 _ _ _ _ _ _ A c p.1.f3 _ W hC hc (tiles_f p.1 (hsm p hp) _ (by omega))).mono fun e w' h => h
theorem rbody_uni (w : World) (s : ByteArray) (hs : s.size ≤ 65530) : Calls Tryz.prog 10 #[.string s] w (RefPost w (bodyA s)) := by
 have e : bodyA s = wholeA s 0 := if_neg (by omega)
 rw [e]
 exact rbody_walk w s hs _ (fun W => rwhole_c s (by omega) 0 (by decide) W)
end Go.Proofs.YtkobpbbegalfpaaGreatDoor

/-
 The document's Same: whether two trees are one. Pure, and its contract.
-/
namespace Go.Proofs.YtkobpbbegalfpaaGreatDoor
open Go.RowKit Go.Proofs.YtkobpbbegalfpaaGreatDoorW.PrintWords Go.Proofs.YtkobpbbegalfpaaGreatDoorW.PrintLast Go.Proofs.YtkobpbbegalfpaaGreatDoorW.PrintMore Go.Proofs.YtkobpbbegalfpaaGreatDoor.PParseBodies
set_option linter.unusedVariables false
set_option linter.unusedSimpArgs false

/-- Are they the same? -/
noncomputable def eqB (a b : SC) : Bool := @decide (a = b) (Classical.propDecidable _)
theorem eqB_yes {a b : SC} (h : a = b) : eqB a b = true := by unfold eqB; exact @decide_eq_true _ (Classical.propDecidable _) h
theorem eqB_no {a b : SC} (h : a ≠ b) : eqB a b = false := by unfold eqB; exact @decide_eq_false _ (Classical.propDecidable _) h
theorem Same_f (a : SC) : ∀ b : SC, (cells a).length ≤ 100000 → ∀ k, 3 * (cells a).length + 3 < k → sashref05_Same.f k a.f0 a.f1.f0 a.f1.f1 a.f1.f2 a.f1.f3 a.f2 a.f3 b.f0 b.f1.f0 b.f1.f1 b.f1.f2 b.f1.f3 b.f2 b.f3 = some (eqB a b) := by
 refine cell_ind (P := fun a => ∀ b : SC, (cells a).length ≤ 100000 → ∀ k, 3 * (cells a).length + 3 < k → sashref05_Same.f k a.f0 a.f1.f0 a.f1.f1 a.f1.f2 a.f1.f3 a.f2 a.f3 b.f0 b.f1.f0 b.f1.f1 b.f1.f2 b.f1.f3 b.f2 b.f3 = some (eqB a b)) (fun a ih b hs k hk => ?_) a
 have hcl : (cells a).length = 1 + (cellsL a.f3).length := by rw [cells_eq]; simp; omega
 have hge := cellsL_ge a.f3
 obtain ⟨k, rfl⟩ : ∃ m, k = m + 2 := ⟨k - 2, by omega⟩
 have jt : ∀ (k : Nat), 0 < k → sashref05_Same.j0 k true a.f0 a.f1.f0 a.f1.f1 a.f1.f2 a.f1.f3 a.f2 a.f3 b.f0 b.f1.f0 b.f1.f1 b.f1.f2 b.f1.f3 b.f2 b.f3 = some false := fun k h => by
  obtain ⟨k, rfl⟩ : ∃ m, k = m + 1 := ⟨k - 1, by omega⟩
  simp [sashref05_Same.j0]
 simp only [sashref05_Same.f]
 by_cases h0 : a.f0 = b.f0
 ·rw [if_pos h0]
  by_cases h1 : a.f1 = b.f1
  ·rw [if_neg (by rw [h1]; simp)]
   by_cases h2 : a.f2 = b.f2
   ·rw [if_pos h2]
    by_cases h3 : a.f3.length = b.f3.length
    ·have loop : ∀ (d k i : Nat), a.f3.length - i = d → i ≤ a.f3.length → 3 * (cellsL (a.f3.drop i)).length + 4 < k → a.f3.take i = b.f3.take i →
       sashref05_Same.l0 k (a.f3.length : Int) (i : Int) a.f0 a.f1.f0 a.f1.f1 a.f1.f2 a.f1.f3 a.f2 a.f3 b.f0 b.f1.f0 b.f1.f1 b.f1.f2 b.f1.f3 b.f2 b.f3 = some (eqB a b) := by
      intro d
      induction d with
      | zero =>
       intro k i hd hi hk ht
       obtain ⟨k, rfl⟩ : ∃ m, k = m + 1 := ⟨k - 1, by omega⟩
       simp only [sashref05_Same.l0]
       rw [if_neg (by omega)]
       rw [List.take_of_length_le (by omega), List.take_of_length_le (by omega)] at ht
       rw [eqB_yes (by cases a; cases b; simp_all)]
      | succ d ihd =>
       intro k i hd hi hk ht
       obtain ⟨k, rfl⟩ : ∃ m, k = m + 1 := ⟨k - 1, by omega⟩
       have hlt : i < a.f3.length := by omega
       have hlt2 : i < b.f3.length := by omega
       have q1 := cellsL_drop a.f3 i hlt
       have q2 := cells_pos (a.f3.getD i z27)
       have q4 := kid_le _ a.f3 (getT_mem a.f3 i hlt)
       have hm := ih _ (getT_mem a.f3 i hlt) (b.f3.getD i z27) (by omega) k (by omega)
       simp only [sashref05_Same.l0]
       rw [if_pos (by omega), if_pos (by omega), if_pos (by omega), if_pos (by omega), rd_T_getD, rd_T_getD, hm]
       simp only [Option.bind_some]
       by_cases he : a.f3.getD i z27 = b.f3.getD i z27
       ·rw [eqB_yes he, if_pos rfl, wi i (by omega)]
        exact ihd k (i + 1) (by omega) (by omega) (by omega) (by rw [takeT a.f3 i hlt, takeT b.f3 i hlt2, ht, he])
       ·rw [eqB_no he, if_neg (by decide), eqB_no (fun e => he (by rw [e]))]
     have e3 : ((a.f3.length : Int) != (b.f3.length : Int)) = false := by rw [h3]; simp
     rw [e3]
     have hz : ((0 : Nat) : Int) = 0 := rfl
     have hl := loop a.f3.length k 0 (by omega) (by omega) (by rw [List.drop_zero]; omega) (by simp)
     simp only [sashref05_Same.j0, Bool.false_eq_true, if_false]
     rw [hz] at hl
     exact hl
    ·have e3 : ((a.f3.length : Int) != (b.f3.length : Int)) = true := by simp; omega
     rw [e3, jt _ (by omega), eqB_no (fun e => h3 (by rw [e]))]
   ·rw [if_neg h2, jt _ (by omega), eqB_no (fun e => h2 (by rw [e]))]
  ·have hn : (!(a.f1.f0 == b.f1.f0) || (!(a.f1.f1 == b.f1.f1) || (!(a.f1.f2 == b.f1.f2) || (!(a.f1.f3 == b.f1.f3))))) = true := by
    cases hq : (!(a.f1.f0 == b.f1.f0) || (!(a.f1.f1 == b.f1.f1) || (!(a.f1.f2 == b.f1.f2) || (!(a.f1.f3 == b.f1.f3))))) with
    | true => rfl
    | false =>
     exfalso
     simp only [Bool.or_eq_false_iff, Bool.not_eq_false', beq_iff_eq] at hq
     exact h1 (by cases hx : a.f1; cases hy : b.f1; simp_all)
   rw [if_pos hn, jt _ (by omega), eqB_no (fun e => h1 (by rw [e]))]
 ·rw [if_neg h0, jt _ (by omega), eqB_no (fun e => h0 (by rw [e]))]

theorem rsame_calls (a b : SC) (A B : Option Addr) (cap cap2 : Nat) (w : World) (hl : (cells a).length ≤ 100000) (hra : (k27).C w A a.f3.length a.f3) (hca : a.f3.length ≤ cap) (hrb : (k27).C w B b.f3.length b.f3) (hcb : b.f3.length ≤ cap2) :
  Calls Tryz.prog 14 #[.agg #[.int .u8 a.f0, .int .i64 a.f1.f0, .int .i64 a.f1.f1, .int .i64 a.f1.f2, .int .i64 a.f1.f3, .int .i64 a.f2, .slice A a.f3.length cap], .agg #[.int .u8 b.f0, .int .i64 b.f1.f0, .int .i64 b.f1.f1, .int .i64 b.f1.f2, .int .i64 b.f1.f3, .int .i64 b.f2, .slice B b.f3.length cap2]] w fun e w' => e = .returned (.bool (eqB a b)) ∧ Below w.heap.size w w' :=
 sashref05_Same.calls (3 * (cells a).length + 4) _ _ _ _ _ _ A cap a.f3 _ _ _ _ _ _ B cap2 b.f3 _ w hra hca hrb hcb (Same_f a b hl _ (by omega))
end Go.Proofs.YtkobpbbegalfpaaGreatDoor

/- Printed texts of this seat, cut to what is used. -/
namespace Go.Proofs.YtkobpbbegalfpaaGreatDoor
open Go.RowKit Go.Proofs.YtkobpbbegalfpaaGreatDoorW.PrintWords Go.Proofs.YtkobpbbegalfpaaGreatDoorW.PrintLast Go.Proofs.YtkobpbbegalfpaaGreatDoorW.PrintMore Go.Proofs.YtkobpbbegalfpaaGreatDoor.PParseBodies
set_option linter.unusedVariables false
set_option linter.unusedSimpArgs false
set_option maxRecDepth 100000

def errR : Except (Int × Int) SC → Option (Int × Int)
 | .error q => some q
 | .ok _ => none
/-- A tree in a box. -/
structure TreeAt (W : World) (b : Nat) (x : SC) (A : Option Addr) (c : Nat) : Prop where
 box : W.heap[b]? = some (.cells #[.int .u8 x.f0, .int .i64 x.f1.f0, .int .i64 x.f1.f1, .int .i64 x.f1.f2, .int .i64 x.f1.f3, .int .i64 x.f2, .slice A x.f3.length c] 27 (0, 0))
 row : (k27).C W A x.f3.length x.f3
 cap : x.f3.length ≤ c
theorem TreeAt.below {W W' : World} {b : Nat} {x : SC} {A : Option Addr} {c : Nat} (h : TreeAt W b x A c) (hb : Below W.heap.size W W') : TreeAt W' b x A c :=
 ⟨(hb.block b (blk_lt h.box)).trans h.box, Kd.C_below h.row hb, h.cap⟩
theorem tree_cells {W : World} {b : Nat} {x : SC} {A : Option Addr} {c : Nat} (h : TreeAt W b x A c) :
  W.cell? ⟨b, 0, none⟩ = some (.int .u8 x.f0) ∧ W.cell? ⟨b, 1, none⟩ = some (.int .i64 x.f1.f0) ∧ W.cell? ⟨b, 2, none⟩ = some (.int .i64 x.f1.f1) ∧ W.cell? ⟨b, 3, none⟩ = some (.int .i64 x.f1.f2) ∧ W.cell? ⟨b, 4, none⟩ = some (.int .i64 x.f1.f3) ∧ W.cell? ⟨b, 5, none⟩ = some (.int .i64 x.f2) ∧ W.cell? ⟨b, 6, none⟩ = some (.slice A x.f3.length c) :=
 ⟨(blk_cell h.box 0).trans rfl, (blk_cell h.box 1).trans rfl, (blk_cell h.box 2).trans rfl, (blk_cell h.box 3).trans rfl, (blk_cell h.box 4).trans rfl, (blk_cell h.box 5).trans rfl, (blk_cell h.box 6).trans rfl⟩
/-- A tree that was handed back, and put in a box. -/
theorem tree_new {w : World} {base : Nat} {x : SC} {A : Option Addr} {c : Nat} (h : Kd.R k27 27 w base (fun _ => True) (.slice A x.f3.length c) x.f3) :
  TreeAt (w.alloc (.cells #[.int .u8 x.f0, .int .i64 x.f1.f0, .int .i64 x.f1.f1, .int .i64 x.f1.f2, .int .i64 x.f1.f3, .int .i64 x.f2, .slice A x.f3.length c] 27)) w.heap.size x A c := by
 obtain ⟨A', c', he, hl, hr⟩ := Kd.R_reads h
 injection he with e1 e2 e3
 subst e1; subst e3
 exact ⟨heap_alloc_new w _, Kd.C_below hr (below_alloc (Below.refl _ _) _), hl⟩
def UniPost (w : World) (R : Except (Int × Int) SC) (e : Ending) (w' : World) : Prop :=
 ∃ A c ev, e = .returned (.tuple #[.agg #[.int .u8 (treeR R).f0, .int .i64 (treeR R).f1.f0, .int .i64 (treeR R).f1.f1, .int .i64 (treeR R).f1.f2, .int .i64 (treeR R).f1.f3, .int .i64 (treeR R).f2, .slice A (treeR R).f3.length c], ev]) ∧ Kd.R k27 27 w' w.heap.size (fun _ => True) (.slice A (treeR R).f3.length c) (treeR R).f3 ∧ ErrIs w' ev (errR R) ∧ Below w.heap.size w w'
theorem uni_of {w w' : World} {R : Except (Int × Int) SC} {e : Ending} (h : ReadPost w e w' R) : UniPost w R e w' := by
 cases R with
 | error q =>
  obtain ⟨g', g, rfl, hin, hg, hb⟩ := h
  exact ⟨none, 0, _, rfl, Kd.R_nil _ _ _ _ _, ⟨_, _, rfl, inside_ev hin hg⟩, hb⟩
 | ok x =>
  obtain ⟨v, rfl, hR, hb⟩ := h
  obtain ⟨A, c, rfl⟩ := Kd.R_slice hR
  exact ⟨A, c, _, rfl, hR, rfl, hb⟩
theorem body_uni (w : World) (s : ByteArray) (hE : NumE w) : Calls Tryz.prog 9 #[.string s] w (UniPost w (bodyA s)) := (bodyA_calls w s hE).mono fun e w' h => uni_of h
theorem ErrIs.below {W W' : World} {ev : Value} {o : Option (Int × Int)} (h : ErrIs W ev o) (hb : Below W.heap.size W W') : ErrIs W' ev o := by
 cases o with
 | none => exact h
 | some q => obtain ⟨t, p, rfl, he⟩ := h; exact ⟨t, p, rfl, As.EV_keep hb he⟩
theorem wholeA_no {s : ByteArray} (hs : s.size ≤ 100000) {off : Int} {q : Int × Int} (h : wholeA s off = .error q) : q.1 = 1 ∨ q.1 = 2 ∨ q.1 = 3 ∨ q.1 = 5 := by
 unfold wholeA wholeP at h
 cases hr : cellR s with
 | error p =>
  have := cellR_no hs hr
  rw [hr] at h
  cases h
  simp only
  omega
 | ok p =>
  rw [hr] at h
  simp only at h
  split at h
  ·cases h; simp
  ·split at h
   ·cases h; simp
   ·split at h
    ·cases h; simp
    ·cases h
theorem bodyA_no {s : ByteArray} {q : Int × Int} (h : bodyA s = .error q) : q.1 = 1 ∨ q.1 = 2 ∨ q.1 = 3 ∨ q.1 = 5 := by
 unfold bodyA at h
 split at h
 ·cases h; simp
 ·exact wholeA_no (by omega) h
theorem told_uni (w : World) (ev : Value) (R : Except (Int × Int) SC) (no at_ : Int) (h : ErrIs w ev (errR R)) (hn : ∀ q, R = .error q → ¬ q.1 = 0) (hg : As.ErrT w) :
  Calls Tryz.prog 13 #[ev, .int .i64 no, .int .i64 at_] w fun e w' => e = .returned (.bool (decide (noR R = no ∧ atR R = at_))) ∧ Below w.heap.size w w' := by
 cases R with
 | error q =>
  obtain ⟨t, p, rfl, hev⟩ := h
  exact told_err t p q.1 q.2 no at_ (hn q rfl) w hev hg
 | ok x =>
  obtain rfl : ev = .nilIface := h
  have e : decide (noR (.ok x) = no ∧ atR (.ok x) = at_) = decide (no = 0 ∧ at_ = 0) := by
   simp only [noR, atR]
   congr 1
   simp [eq_comm]
  rw [e]
  exact told_nil no at_ w
/-- Trees that are read are small. -/
theorem wholeA_small {s : ByteArray} {off : Int} (hs : s.size ≤ 700000) : (cells (treeR (wholeA s off))).length ≤ 100000 := by
 cases h : wholeA s off with
 | error q => show (cells zC).length ≤ 100000; rw [show zC = ⟨0, ⟨0, 0, 0, 0⟩, 0, []⟩ from rfl, cells_mk, cellsL_nil]; decide
 | ok x =>
  unfold wholeA wholeP at h
  cases hr : cellR s with
  | error p => rw [hr] at h; cases h
  | ok p =>
   have hz := cellR_size hr
   rw [hr] at h
   simp only at h
   split at h
   ·cases h
   ·split at h
    ·cases h
    ·split at h
     ·cases h
     ·cases h
      show (cells p.1).length ≤ 100000
      omega
theorem bodyA_small {s : ByteArray} : (cells (treeR (bodyA s))).length ≤ 100000 := by
 unfold bodyA
 split
 ·show (cells zC).length ≤ 100000; rw [show zC = ⟨0, ⟨0, 0, 0, 0⟩, 0, []⟩ from rfl, cells_mk, cellsL_nil]; decide
 ·exact wholeA_small (by omega)
end Go.Proofs.YtkobpbbegalfpaaGreatDoor

/- Printed texts of this seat, cut to what is used. -/
namespace Go.Proofs.YtkobpbbegalfpaaGreatDoor
open Go.RowKit Go.Proofs.YtkobpbbegalfpaaGreatDoorW.PrintWords Go.Proofs.YtkobpbbegalfpaaGreatDoorW.PrintLast Go.Proofs.YtkobpbbegalfpaaGreatDoorW.PrintMore Go.Proofs.YtkobpbbegalfpaaGreatDoor.PParseBodies
set_option linter.unusedVariables false
set_option linter.unusedSimpArgs false

def digL (n : Int) : List UInt8 := (digS n).data.toList
def headB (r : SR) : List UInt8 := digL r.f2 ++ [120] ++ digL r.f3 ++ [44] ++ digL r.f0 ++ [44] ++ digL r.f1
def opn (k : Int) : UInt8 := if k = 2 then 123 else 91
def cls (k : Int) : UInt8 := if k = 2 then 125 else 93
mutual
def bodyL : SC → List UInt8
 | ⟨k, r, i, kids⟩ => headB r ++ (if k = 1 then [44] ++ digL i else [opn k] ++ kidsL true kids ++ [cls k])
def kidsL : Bool → List SC → List UInt8
 | _, [] => []
 | first, c :: l => (if first = true then [] else [44]) ++ bodyL c ++ kidsL false l
end
theorem bodyL_eq (c : SC) : bodyL c = headB c.f1 ++ (if c.f0 = 1 then [44] ++ digL c.f2 else [opn c.f0] ++ kidsL true c.f3 ++ [cls c.f0]) := by cases c; simp [bodyL]
theorem kidsL_nil (f : Bool) : kidsL f [] = [] := by simp [kidsL]
theorem kidsL_cons (f : Bool) (c : SC) (l : List SC) : kidsL f (c :: l) = (if f = true then [] else [44]) ++ bodyL c ++ kidsL false l := by simp [kidsL]

theorem digL_len (n : Int) : (digL n).length ≤ 21 := by
 have := digS_size n
 unfold digL
 simpa using this
theorem headB_len (r : SR) : (headB r).length ≤ 87 := by
 have h0 := digL_len r.f0; have h1 := digL_len r.f1; have h2 := digL_len r.f2; have h3 := digL_len r.f3
 unfold headB
 simp only [List.length_append, List.length_singleton]
 omega
theorem body_len (c : SC) : (bodyL c).length + 1 ≤ 111 * (cells c).length := by
 refine cell_ind (P := fun c => (bodyL c).length + 1 ≤ 111 * (cells c).length) (fun c ih => ?_) c
 have hk : ∀ (l : List SC) (f : Bool), (∀ k ∈ l, (bodyL k).length + 1 ≤ 111 * (cells k).length) → (kidsL f l).length ≤ 111 * (cellsL l).length := by
  intro l
  induction l with
  | nil => intro f _; simp [kidsL_nil]
  | cons k l ihl =>
   intro f h
   have h1 := h k List.mem_cons_self
   have h2 := ihl false (fun x hx => h x (List.mem_cons_of_mem _ hx))
   rw [kidsL_cons, cellsL_cons]
   simp only [List.length_append]
   have : (if f = true then ([] : List UInt8) else [44]).length ≤ 1 := by cases f <;> simp
   omega
 have h1 := hk c.f3 true ih
 have h2 := headB_len c.f1
 have h3 := digL_len c.f2
 rw [bodyL_eq, cells_eq]
 split
 ·simp only [List.length_append, List.length_singleton, List.length_cons, List.length_nil]; omega
 ·simp only [List.length_append, List.length_singleton, List.length_cons, List.length_nil]; omega
end Go.Proofs.YtkobpbbegalfpaaGreatDoor

/- Printed texts of this seat, cut to what is used. -/
namespace Go.Proofs.YtkobpbbegalfpaaGreatDoor
open Go.RowKit Go.Proofs.YtkobpbbegalfpaaGreatDoorW.PrintWords Go.Proofs.YtkobpbbegalfpaaGreatDoorW.PrintLast Go.Proofs.YtkobpbbegalfpaaGreatDoorW.PrintMore Go.Proofs.YtkobpbbegalfpaaGreatDoor.PParseBodies
open Go.Lib (parseUintM decDigits)
set_option linter.unusedVariables false
set_option linter.unusedSimpArgs false

def Nd (s : List UInt8) : Prop := ∀ x r, s = x :: r → isD x = false
theorem nd_cons (x : UInt8) (r : List UInt8) (h : isD x = false) : Nd (x :: r) := fun y q e => by cases e; exact h
theorem nd_nil : Nd [] := fun y q e => by cases e
theorem takeWhile_app (a s : List UInt8) (ha : ∀ b ∈ a, isD b = true) (hs : Nd s) : (a ++ s).takeWhile isD = a := by
 induction a with
 | nil => cases s with
  | nil => rfl
  | cons x r => simp [hs x r rfl]
 | cons x a ih => simp [ha x List.mem_cons_self, ih (fun b hb => ha b (List.mem_cons_of_mem _ hb))]
def InR (n : Int) : Prop := 0 ≤ n ∧ n ≤ 2147483647
theorem digL_dec (n : Int) (h : InR n) : digL n = decDigits n.toNat := by
 have := digS_in n.toNat (by have := h.2; have := h.1; omega)
 rw [Int.toNat_of_nonneg h.1] at this
 exact this
theorem digL_all (n : Int) (h : InR n) : ∀ b ∈ digL n, isD b = true := by rw [digL_dec n h]; exact dec_all _
theorem digL_ne (n : Int) (h : InR n) : digL n ≠ [] := by rw [digL_dec n h]; exact dec_ne _
def RIn (r : SR) : Prop := InR r.f0 ∧ InR r.f1 ∧ InR r.f2 ∧ InR r.f3

def CGood (c : SC) : Prop := ∀ x ∈ cells c, nodeOk x = true ∧ RIn x.f1
theorem CGood.kid {c k : SC} (h : CGood c) (hk : k ∈ c.f3) : CGood k := fun x hx => h x (cells_kid hk x hx)
theorem CGood.self {c : SC} (h : CGood c) : nodeOk c = true ∧ RIn c.f1 := h c (cells_self c)
theorem node_leaf {c : SC} (h : nodeOk c = true) (h1 : c.f0 = 1) : c.f3 = [] ∧ InR c.f2 := by
 unfold nodeOk at h
 rw [if_pos h1] at h
 simp only [Bool.and_eq_true, List.isEmpty_iff, decide_eq_true_eq] at h
 exact h
theorem node_node {c : SC} (h : nodeOk c = true) (h1 : c.f0 ≠ 1) : (c.f0 = 2 ∨ c.f0 = 3) ∧ c.f2 = 0 := by
 unfold nodeOk at h
 rw [if_neg h1] at h
 by_cases h2 : c.f0 = 2 ∨ c.f0 = 3
 ·rw [if_pos h2] at h
  simp only [decide_eq_true_eq] at h
  exact ⟨h2, h.2⟩
 ·rw [if_neg h2] at h; cases h
theorem isD_z (z : UInt8) (hz : z = 125 ∨ z = 93) : isD z = false := by rcases hz with rfl | rfl <;> decide
theorem nd_kids (l : List SC) (z : UInt8) (hz : z = 125 ∨ z = 93) (s : List UInt8) : Nd (kidsL false l ++ z :: s) := by
 cases l with
 | nil => rw [kidsL_nil]; exact nd_cons _ _ (isD_z z hz)
 | cons c l => rw [kidsL_cons]; simp only [Bool.false_eq_true, if_false, List.append_assoc, List.singleton_append]; exact nd_cons _ _ (by decide)
theorem opn_cases (k : Int) : opn k = 123 ∨ opn k = 91 := by unfold opn; split <;> simp
theorem cls_cases (k : Int) : cls k = 125 ∨ cls k = 93 := by unfold cls; split <;> simp
end Go.Proofs.YtkobpbbegalfpaaGreatDoor
