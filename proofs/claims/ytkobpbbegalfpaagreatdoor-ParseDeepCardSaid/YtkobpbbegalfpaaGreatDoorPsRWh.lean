/-
 The document's whole: an own walk.
-/
import Derived.Test.YtkobpbbegalfpaaGreatDoorPsTop
import Derived.Test.YtkobpbbegalfpaaGreatDoorTiRef2
namespace Go.Proofs.YtkobpbbegalfpaaGreatDoor
open Go.RowKit Go.Proofs.YtkobpbbegalfpaaGreatDoorW.PrintWords Go.Proofs.YtkobpbbegalfpaaGreatDoorW.PrintLast Go.Proofs.YtkobpbbegalfpaaGreatDoorW.PrintMore Go.Proofs.YtkobpbbegalfpaaGreatDoor.PParseBodies
set_option linter.unusedVariables false
set_option linter.unusedSimpArgs false
set_option maxRecDepth 100000

def zC : SC := ⟨0, ⟨0, 0, 0, 0⟩, 0, []⟩
def treeR : Except (Int × Int) SC → SC
 | .error _ => zC
 | .ok x => x
def noR : Except (Int × Int) SC → Int
 | .error q => q.1
 | .ok _ => 0
def atR : Except (Int × Int) SC → Int
 | .error q => q.2
 | .ok _ => 0
/-- What the document's cell hands back. -/
def pTree : Except (Int × Nat) (SC × Nat) → SC
 | .error _ => zC
 | .ok p => p.1
def pAt : Except (Int × Nat) (SC × Nat) → Int
 | .error _ => 0
 | .ok p => p.2
def pNo : Except (Int × Nat) (SC × Nat) → Int
 | .error q => q.1
 | .ok _ => 0
def pSite : Except (Int × Nat) (SC × Nat) → Int
 | .error q => q.2
 | .ok _ => 0
def RCellPost (w : World) (r : Except (Int × Nat) (SC × Nat)) (e : Ending) (w' : World) : Prop :=
 ∃ A c, e = .returned (.agg #[.int .u8 (pTree r).f0, .int .i64 (pTree r).f1.f0, .int .i64 (pTree r).f1.f1, .int .i64 (pTree r).f1.f2, .int .i64 (pTree r).f1.f3, .int .i64 (pTree r).f2, .slice A (pTree r).f3.length c, .int .i64 (pAt r), .int .i64 (pNo r), .int .i64 (pSite r)]) ∧ Kd.R k27 27 w' w.heap.size (fun _ => True) (.slice A (pTree r).f3.length c) (pTree r).f3 ∧ Below w.heap.size w w'
def RefPost (w : World) (R : Except (Int × Int) SC) (e : Ending) (w' : World) : Prop :=
 ∃ A c, e = .returned (.tuple #[.agg #[.int .u8 (treeR R).f0, .int .i64 (treeR R).f1.f0, .int .i64 (treeR R).f1.f1, .int .i64 (treeR R).f1.f2, .int .i64 (treeR R).f1.f3, .int .i64 (treeR R).f2, .slice A (treeR R).f3.length c], .int .i64 (noR R), .int .i64 (atR R)]) ∧ Kd.R k27 27 w' w.heap.size (fun _ => True) (.slice A (treeR R).f3.length c) (treeR R).f3 ∧ Below w.heap.size w w'
/-- The boxes of whole: the answer's, nought's, and what was read. -/
structure WBox (w W : World) (b : Nat) (x : SC) (A : Option Addr) (c : Nat) (at_ no site : Int) : Prop where
 bel : Below w.heap.size w W
 res : W.heap[w.heap.size]? = some (.cells zeroA 27 (0, 0))
 nil : W.heap[w.heap.size + 1]? = some (.cells zeroA 27 (0, 0))
 box : W.heap[b]? = some (.cells #[.int .u8 x.f0, .int .i64 x.f1.f0, .int .i64 x.f1.f1, .int .i64 x.f1.f2, .int .i64 x.f1.f3, .int .i64 x.f2, .slice A x.f3.length c, .int .i64 at_, .int .i64 no, .int .i64 site] 91 (0, 0))
 row : Kd.R k27 27 W (w.heap.size + 2) (fun _ => True) (.slice A x.f3.length c) x.f3
theorem WBox.below {w W W' : World} {b : Nat} {x : SC} {A : Option Addr} {c : Nat} {at_ no site : Int} (h : WBox w W b x A c at_ no site) (hb : Below W.heap.size W W') : WBox w W' b x A c at_ no site :=
 ⟨h.bel.trans (hb.mono h.bel.size), (hb.block _ (blk_lt h.res)).trans h.res, (hb.block _ (blk_lt h.nil)).trans h.nil, (hb.block _ (blk_lt h.box)).trans h.box, Kd.R_below h.row hb⟩
/-- Nought into the answer's box. -/
theorem wres_zero {w W : World} {b : Nat} {x : SC} {A : Option Addr} {c : Nat} {at_ no site : Int} (h : WBox w W b x A c at_ no site) (q : Int × Int) :
  RefPost w (.error q) (.returned (.tuple #[.agg zeroA, .int .i64 q.1, .int .i64 q.2])) (((((((W.setCell ⟨w.heap.size, 0, none⟩ (.int .u8 0)).setCell ⟨w.heap.size, 1, none⟩ (.int .i64 0)).setCell ⟨w.heap.size, 2, none⟩ (.int .i64 0)).setCell ⟨w.heap.size, 3, none⟩ (.int .i64 0)).setCell ⟨w.heap.size, 4, none⟩ (.int .i64 0)).setCell ⟨w.heap.size, 5, none⟩ (.int .i64 0)).setCell ⟨w.heap.size, 6, none⟩ (.slice none 0 0)) :=
 ⟨none, 0, rfl, Kd.R_nil _ _ _ _ _, (((((((h.bel.setCell (p := ⟨w.heap.size, 0, none⟩) (Nat.le_refl _) _).setCell (p := ⟨w.heap.size, 1, none⟩) (Nat.le_refl _) _).setCell (p := ⟨w.heap.size, 2, none⟩) (Nat.le_refl _) _).setCell (p := ⟨w.heap.size, 3, none⟩) (Nat.le_refl _) _).setCell (p := ⟨w.heap.size, 4, none⟩) (Nat.le_refl _) _).setCell (p := ⟨w.heap.size, 5, none⟩) (Nat.le_refl _) _).setCell (p := ⟨w.heap.size, 6, none⟩) (Nat.le_refl _) _)⟩
/-- What was read into the answer's box. -/
theorem wres_tree {w W : World} {b : Nat} {x : SC} {A : Option Addr} {c : Nat} {at_ no site : Int} (h : WBox w W b x A c at_ no site) :
  RefPost w (.ok x) (.returned (.tuple #[.agg #[.int .u8 x.f0, .int .i64 x.f1.f0, .int .i64 x.f1.f1, .int .i64 x.f1.f2, .int .i64 x.f1.f3, .int .i64 x.f2, .slice A x.f3.length c], .int .i64 0, .int .i64 0])) (((((((W.setCell ⟨w.heap.size, 0, none⟩ (.int .u8 x.f0)).setCell ⟨w.heap.size, 1, none⟩ (.int .i64 x.f1.f0)).setCell ⟨w.heap.size, 2, none⟩ (.int .i64 x.f1.f1)).setCell ⟨w.heap.size, 3, none⟩ (.int .i64 x.f1.f2)).setCell ⟨w.heap.size, 4, none⟩ (.int .i64 x.f1.f3)).setCell ⟨w.heap.size, 5, none⟩ (.int .i64 x.f2)).setCell ⟨w.heap.size, 6, none⟩ (.slice A x.f3.length c)) :=
 ⟨A, c, rfl, Kd.R_lower (R_set7 h.row (by omega) _ _ _ _ _ _ _) (by omega), (((((((h.bel.setCell (p := ⟨w.heap.size, 0, none⟩) (Nat.le_refl _) _).setCell (p := ⟨w.heap.size, 1, none⟩) (Nat.le_refl _) _).setCell (p := ⟨w.heap.size, 2, none⟩) (Nat.le_refl _) _).setCell (p := ⟨w.heap.size, 3, none⟩) (Nat.le_refl _) _).setCell (p := ⟨w.heap.size, 4, none⟩) (Nat.le_refl _) _).setCell (p := ⟨w.heap.size, 5, none⟩) (Nat.le_refl _) _).setCell (p := ⟨w.heap.size, 6, none⟩) (Nat.le_refl _) _)⟩
theorem WBox.drew {w W : World} {b : Nat} {x : SC} {A : Option Addr} {c : Nat} {at_ no site : Int} (h : WBox w W b x A c at_ no site) : WBox w W.drew b x A c at_ no site := h.below (below_drew (Below.refl _ _))
theorem far7 {W : World} {n b i : Nat} {x v0 v1 v2 v3 v4 v5 v6 : Value} (hne : n ≠ b) (h : W.cell? ⟨b, i, none⟩ = some x) :
  (((((((W.setCell ⟨n, 0, none⟩ v0).setCell ⟨n, 1, none⟩ v1).setCell ⟨n, 2, none⟩ v2).setCell ⟨n, 3, none⟩ v3).setCell ⟨n, 4, none⟩ v4).setCell ⟨n, 5, none⟩ v5).setCell ⟨n, 6, none⟩ v6).cell? ⟨b, i, none⟩ = some x := by
 repeat rw [World.cell?_setCell_far _ _ _ _ hne]
 exact h
theorem drew_cell (X : World) (a : Addr) : X.drew.cell? a = X.cell? a := rfl
theorem far7d {W : World} {n b i : Nat} {x v0 v1 v2 v3 v4 v5 v6 : Value} (hne : n ≠ b) (h : W.cell? ⟨b, i, none⟩ = some x) :
  (((((((W.setCell ⟨n, 0, none⟩ v0).setCell ⟨n, 1, none⟩ v1).setCell ⟨n, 2, none⟩ v2).setCell ⟨n, 3, none⟩ v3).setCell ⟨n, 4, none⟩ v4).setCell ⟨n, 5, none⟩ v5).setCell ⟨n, 6, none⟩ v6).drew.cell? ⟨b, i, none⟩ = some x :=
 (drew_cell _ _).trans (far7 hne h)
theorem wres_drew {w W : World} {R : Except (Int × Int) SC} {e : Ending} (h : RefPost w R e W) : RefPost w R e W.drew := by
 obtain ⟨A, c, he, hR, hb⟩ := h
 exact ⟨A, c, he, Kd.R_drew hR, below_drew hb⟩
theorem WBox.cells {w W : World} {b : Nat} {x : SC} {A : Option Addr} {c : Nat} {at_ no site : Int} (h : WBox w W b x A c at_ no site) :
  W.cell? ⟨b, 0, none⟩ = some (.int .u8 x.f0) ∧ W.cell? ⟨b, 1, none⟩ = some (.int .i64 x.f1.f0) ∧ W.cell? ⟨b, 2, none⟩ = some (.int .i64 x.f1.f1) ∧ W.cell? ⟨b, 3, none⟩ = some (.int .i64 x.f1.f2) ∧ W.cell? ⟨b, 4, none⟩ = some (.int .i64 x.f1.f3) ∧ W.cell? ⟨b, 5, none⟩ = some (.int .i64 x.f2) ∧ W.cell? ⟨b, 6, none⟩ = some (.slice A x.f3.length c) ∧ W.cell? ⟨b, 7, none⟩ = some (.int .i64 at_) ∧ W.cell? ⟨b, 8, none⟩ = some (.int .i64 no) ∧ W.cell? ⟨b, 9, none⟩ = some (.int .i64 site) :=
 ⟨(blk_cell h.box 0).trans rfl, (blk_cell h.box 1).trans rfl, (blk_cell h.box 2).trans rfl, (blk_cell h.box 3).trans rfl, (blk_cell h.box 4).trans rfl, (blk_cell h.box 5).trans rfl, (blk_cell h.box 6).trans rfl, (blk_cell h.box 7).trans rfl, (blk_cell h.box 8).trans rfl, (blk_cell h.box 9).trans rfl⟩
theorem zero_cells {W : World} {b : Nat} (h : W.heap[b]? = some (.cells zeroA 27 (0, 0))) :
  (W.cell? ⟨b, 0, none⟩ = some (.int .u8 0) ∧ W.cell? ⟨b, 1, none⟩ = some (.int .i64 0) ∧ W.cell? ⟨b, 2, none⟩ = some (.int .i64 0) ∧ W.cell? ⟨b, 3, none⟩ = some (.int .i64 0) ∧ W.cell? ⟨b, 4, none⟩ = some (.int .i64 0) ∧ W.cell? ⟨b, 5, none⟩ = some (.int .i64 0) ∧ W.cell? ⟨b, 6, none⟩ = some (.slice none 0 0)) ∧
  (W.frozen? ⟨b, 0, none⟩ = false ∧ W.frozen? ⟨b, 1, none⟩ = false ∧ W.frozen? ⟨b, 2, none⟩ = false ∧ W.frozen? ⟨b, 3, none⟩ = false ∧ W.frozen? ⟨b, 4, none⟩ = false ∧ W.frozen? ⟨b, 5, none⟩ = false ∧ W.frozen? ⟨b, 6, none⟩ = false) :=
 ⟨⟨(blk_cell h 0).trans rfl, (blk_cell h 1).trans rfl, (blk_cell h 2).trans rfl, (blk_cell h 3).trans rfl, (blk_cell h 4).trans rfl, (blk_cell h 5).trans rfl, (blk_cell h 6).trans rfl⟩, blk_frozen h 0, blk_frozen h 1, blk_frozen h 2, blk_frozen h 3, blk_frozen h 4, blk_frozen h 5, blk_frozen h 6⟩
set_option maxHeartbeats 8000000 in
theorem rwhole_walk (w : World) (s : ByteArray) (off : Int) (r : Except (Int × Nat) (SC × Nat)) (ho : 0 ≤ off ∧ off ≤ 1000) (hs : s.size ≤ 100000) (hat : 0 ≤ pAt r ∧ pAt r ≤ 100000) (hsi : 0 ≤ pSite r ∧ pSite r ≤ 100000) (hno : ∀ q, r = .error q → ¬ q.1 = 0)
  (HC : ∀ W, Calls Tryz.prog 51 #[.string s, .int .i64 0, .int .i64 1] W (RCellPost W r))
  (HM : ∀ p, r = .ok p → ∀ W A c, (k27).C W A p.1.f3.length p.1.f3 → p.1.f3.length ≤ c → Calls Tryz.prog 52 #[.agg #[.int .u8 p.1.f0, .int .i64 p.1.f1.f0, .int .i64 p.1.f1.f1, .int .i64 p.1.f1.f2, .int .i64 p.1.f1.f3, .int .i64 p.1.f2, .slice A p.1.f3.length c]] W fun e w' => e = .returned (.bool (mayB p.1)) ∧ Below W.heap.size W w')
  (HT : ∀ p, r = .ok p → ∀ W A c, (k27).C W A p.1.f3.length p.1.f3 → p.1.f3.length ≤ c → Calls Tryz.prog 23 #[.agg #[.int .u8 p.1.f0, .int .i64 p.1.f1.f0, .int .i64 p.1.f1.f1, .int .i64 p.1.f1.f2, .int .i64 p.1.f1.f3, .int .i64 p.1.f2, .slice A p.1.f3.length c]] W fun e w' => e = .returned (.bool (tilesB p.1)) ∧ Below W.heap.size W w') :
  Calls Tryz.prog 28 #[.string s, .int .i64 off] w (RefPost w (wholeP s mayB tilesB off r)) := by
 obtain ⟨W1, hW1⟩ : ∃ W1, W1 = (w.alloc (.cells zeroA 27)).alloc (.cells zeroA 27) := ⟨_, rfl⟩
 have HB1 : Aside0 (Below w.heap.size w W1) := ⟨by rw [hW1]; exact below_alloc (below_alloc (Below.refl _ _) _) _⟩
 have e1 : (w.alloc (.cells zeroA 27)).heap.size = w.heap.size + 1 := by simp
 have HR1 : Aside0 (W1.heap[w.heap.size]? = some (.cells zeroA 27 (0, 0))) := ⟨by rw [hW1]; exact blk_alloc (heap_alloc_new w _) _⟩
 have HN1 : Aside0 (W1.heap[w.heap.size + 1]? = some (.cells zeroA 27 (0, 0))) := ⟨by have := heap_alloc_new (w.alloc (.cells zeroA 27)) (.cells zeroA 27); rw [e1, ← hW1] at this; exact this⟩
 have HW1 := Aside0.mk hW1
 have e2 : W1.heap.size = w.heap.size + 2 := by rw [hW1]; simp
 replace HC := Aside0.mk (HC W1)
 unfold RCellPost at HC
 replace HM := Aside0.mk HM
 replace HT := Aside0.mk HT
 have hw1 : wrap64 (pSite r + off) = off + pSite r := by unfold wrap64; omega
 have hw2 : wrap64 (pAt r + off) = off + pAt r := by unfold wrap64; omega
 replace hno := Aside0.mk hno
 obtain ⟨x, hx⟩ : ∃ x, x = pTree r := ⟨_, rfl⟩
 obtain ⟨at_, ha⟩ : ∃ x, x = pAt r := ⟨_, rfl⟩
 obtain ⟨no, hn⟩ : ∃ x, x = pNo r := ⟨_, rfl⟩
 obtain ⟨site, hsx⟩ : ∃ x, x = pSite r := ⟨_, rfl⟩
 rw [← hx, ← ha, ← hn, ← hsx] at HC
 rw [← hsx] at hw1
 rw [← ha] at hw2
 replace hx := Aside0.mk hx; replace ha := Aside0.mk ha; replace hn := Aside0.mk hn; replace hsx := Aside0.mk hsx
 replace hw1 := Aside0.mk hw1; replace hw2 := Aside0.mk hw2
 replace e2 := Aside0.mk e2
 have E2 := e2
 clear hW1 e1 hat hsi ho e2
 go_enter Tryz.func28, Tryz.ntmps28
 go_wp2_with fail
 rw [← HW1.out]
 refine HC.out.mono ?_
 rintro e w2 ⟨A, c, rfl, hR, hb2⟩
 obtain ⟨W3, hW3⟩ : ∃ W3, W3 = w2.alloc (.cells #[.int .u8 x.f0, .int .i64 x.f1.f0, .int .i64 x.f1.f1, .int .i64 x.f1.f2, .int .i64 x.f1.f3, .int .i64 x.f2, .slice A x.f3.length c, .int .i64 at_, .int .i64 no, .int .i64 site] 91) := ⟨_, rfl⟩
 have hb23 : Below w2.heap.size w2 W3 := by rw [hW3]; exact below_alloc (Below.refl _ _) _
 have HX3 : Aside0 (WBox w W3 w2.heap.size x A c at_ no site) := ⟨⟨HB1.out.trans ((hb2.mono HB1.out.size).trans (hb23.mono (Nat.le_trans HB1.out.size hb2.size))), (hb23.block _ (blk_lt ((hb2.block _ (blk_lt HR1.out)).trans HR1.out))).trans ((hb2.block _ (blk_lt HR1.out)).trans HR1.out), (hb23.block _ (blk_lt ((hb2.block _ (blk_lt HN1.out)).trans HN1.out))).trans ((hb2.block _ (blk_lt HN1.out)).trans HN1.out), by rw [hW3]; exact heap_alloc_new w2 _, Kd.R_below (Kd.R_lower hR (Nat.le_of_eq E2.out.symm)) hb23⟩⟩
 have HW3 := Aside0.mk hW3
 clear hR hb2 hb23 hW3 HW1 HB1 HR1 HN1 HC
 have hr9 := HX3.out
 obtain ⟨x0, x1, x2, x3, x4, x5, x6, x7, x8, x9⟩ := hr9.cells
 obtain ⟨⟨r0, r1, r2, r3, r4, r5, r6⟩, f0, f1, f2, f3, f4, f5, f6⟩ := zero_cells (W := W3) hr9.res
 obtain ⟨⟨y0, y1, y2, y3, y4, y5, y6⟩, -⟩ := zero_cells (W := W3) hr9.nil
 clear hr9
 cases r with
 | error q =>
  have hq := hno.out q rfl
  have n0 : no = q.1 := hn.out
  have n1 : site = q.2 := hsx.out
  subst n0
  subst n1
  have q0 : (q.1 != 0) = true := by simp [hq]
  have q1 : (q.1 == 0) = false := by simp [hq]
  clear hq
  go_upto_region 4 with (fail)
  rw [← HW3.out]
  have hw := by have h := hw1.out; rw [← i64_w] at h; exact h
  have hne : w.heap.size ≠ w2.heap.size := by intro e; have hb := HX3.out.box; rw [← e, HX3.out.res] at hb; simp at hb
  have hn1 : w.heap.size ≠ w.heap.size + 1 := by omega
  refine start_ (n := 10) (S := fun w' => w'.cell? ⟨w2.heap.size, 8, none⟩ = some (.int .i64 q.1) ∧ w'.cell? ⟨w2.heap.size, 9, none⟩ = some (.int .i64 q.2) ∧ w'.cell? ⟨w.heap.size + 1, 0, none⟩ = some (.int .u8 0) ∧ w'.cell? ⟨w.heap.size + 1, 1, none⟩ = some (.int .i64 0) ∧ w'.cell? ⟨w.heap.size + 1, 2, none⟩ = some (.int .i64 0) ∧ w'.cell? ⟨w.heap.size + 1, 3, none⟩ = some (.int .i64 0) ∧ w'.cell? ⟨w.heap.size + 1, 4, none⟩ = some (.int .i64 0) ∧ w'.cell? ⟨w.heap.size + 1, 5, none⟩ = some (.int .i64 0) ∧ w'.cell? ⟨w.heap.size + 1, 6, none⟩ = some (.slice none 0 0)) (ds := []) #[false, false, false, false, false, false, false, false, false, false] (by kernel_rfl) rfl rfl ⟨x8, x9, y0, y1, y2, y3, y4, y5, y6⟩ (fun hHeld => ?_)
  refine pure_ (i := 1) (N := some 16) (v := ?_) (a' := ?_) #[false, true, false, false, false, false, false, false, false, false] rfl rfl (by kernel_rfl) (fun _ _ _ h => h) (Or.inl ⟨by rfl, ?_⟩) ?_ ?_
  rotate_left
  ·intro w'
   go_simp
   with_reducible rfl
  rotate_left
  ·simp only [Act.put, List.setIfInBounds_toArray, List.set_cons_zero, List.set_cons_succ, i64_w, i32_w]
   rfl
  refine pure_ (i := 3) (N := some 18) (v := ?_) (a' := ?_) #[false, true, false, true, false, false, false, false, false, false] rfl rfl (by kernel_rfl) (fun _ _ _ h => h) (Or.inl ⟨by rfl, ?_⟩) ?_ ?_
  rotate_left
  ·intro w'
   go_simp
   with_reducible rfl
  rotate_left
  ·simp only [Act.put, List.setIfInBounds_toArray, List.set_cons_zero, List.set_cons_succ, i64_w, i32_w]
   rfl
  refine pure_ (i := 5) (N := some 20) (v := ?_) (a' := ?_) #[false, true, false, true, false, true, false, false, false, false] rfl rfl (by kernel_rfl) (fun _ _ _ h => h) (Or.inl ⟨by rfl, ?_⟩) ?_ ?_
  rotate_left
  ·intro w'
   go_simp
   with_reducible rfl
  rotate_left
  ·simp only [Act.put, List.setIfInBounds_toArray, List.set_cons_zero, List.set_cons_succ, i64_w, i32_w]
   rfl
  refine take_ (i := 0) (N := some 15) (v := ?_) (a' := ?_) #[true, true, false, true, false, true, false, false, false, false] rfl rfl (by kernel_rfl) (fun _ _ _ h => h) (Or.inl ⟨by rfl, ?_⟩) hHeld ?_ ?_
  rotate_left
  ·rintro w' ⟨s0, s1, s2, s3, s4, s5, s6, s7, s8⟩
   go_simp
   with_reducible rfl
  rotate_left
  ·simp only [Act.put, List.setIfInBounds_toArray, List.set_cons_zero, List.set_cons_succ, i64_w, i32_w]
   rfl
  refine take_ (i := 2) (N := some 17) (v := ?_) (a' := ?_) #[true, true, true, true, false, true, false, false, false, false] rfl rfl (by kernel_rfl) (fun _ _ _ h => h) (Or.inl ⟨by rfl, ?_⟩) hHeld ?_ ?_
  rotate_left
  ·rintro w' ⟨s0, s1, s2, s3, s4, s5, s6, s7, s8⟩
   go_simp
   with_reducible rfl
  rotate_left
  ·simp only [Act.put, List.setIfInBounds_toArray, List.set_cons_zero, List.set_cons_succ, i64_w, i32_w]
   rfl
  refine take_ (i := 4) (N := some 19) (v := ?_) (a' := ?_) #[true, true, true, true, true, true, false, false, false, false] rfl rfl (by kernel_rfl) (fun _ _ _ h => h) (Or.inl ⟨by rfl, ?_⟩) hHeld ?_ ?_
  rotate_left
  ·rintro w' ⟨s0, s1, s2, s3, s4, s5, s6, s7, s8⟩
   go_simp
   with_reducible rfl
  rotate_left
  ·simp only [Act.put, List.setIfInBounds_toArray, List.set_cons_zero, List.set_cons_succ, i64_w, i32_w]
   rfl
  refine pure_ (i := 6) (N := some 21) (v := ?_) (a' := ?_) #[true, true, true, true, true, true, true, false, false, false] rfl rfl (by kernel_rfl) (fun _ _ _ h => h) (Or.inl ⟨by rfl, ?_⟩) ?_ ?_
  rotate_left
  ·intro w'
   go_simp
   with_reducible rfl
  rotate_left
  ·simp only [Act.put, List.setIfInBounds_toArray, List.set_cons_zero, List.set_cons_succ, i64_w, i32_w]
   rfl
  refine one_ (i := 7) (N := none) #[true, true, true, true, true, true, true, true, false, false] rfl rfl (by kernel_rfl) (by decide) (fun K hK => ?_)
  refine skip_ (w1 := ?_) (by rfl) rfl ?_ ?_
  rotate_left
  ·go_simp
   exact rfl
  refine hK.out _ _ ⟨(far7d hne x8), (far7d hne x9), (far7d hn1 y0), (far7d hn1 y1), (far7d hn1 y2), (far7d hn1 y3), (far7d hn1 y4), (far7d hn1 y5), (far7d hn1 y6)⟩ (fun hHeld => ?_)
  clear hK K
  refine pure_ (i := 8) (N := some 5) (v := ?_) (a' := ?_) #[true, true, true, true, true, true, true, true, true, false] rfl rfl (by kernel_rfl) (fun _ _ _ h => h) (Or.inl ⟨by rfl, ?_⟩) ?_ ?_
  rotate_left
  ·intro w'
   go_simp
   with_reducible rfl
  rotate_left
  ·simp only [Act.put, List.setIfInBounds_toArray, List.set_cons_zero, List.set_cons_succ, i64_w, i32_w]
   rfl
  refine pure_ (i := 9) (N := some 6) (v := ?_) (a' := ?_) #[true, true, true, true, true, true, true, true, true, true] rfl rfl (by kernel_rfl) (fun _ _ _ h => h) (Or.inl ⟨by rfl, ?_⟩) ?_ ?_
  rotate_left
  ·intro w'
   go_simp
   with_reducible rfl
  rotate_left
  ·simp only [Act.put, List.setIfInBounds_toArray, List.set_cons_zero, List.set_cons_succ, i64_w, i32_w]
   rfl
  refine done_ (by kernel_rfl) ?_
  go_wp2
  have HP := wres_drew (wres_zero HX3.out (q.1, (off + q.2)))
  obtain ⟨WO, hWO⟩ : ∃ WO, WO = (((((((W3.setCell ⟨w.heap.size, 0, none⟩ (.int .u8 0)).setCell ⟨w.heap.size, 1, none⟩ (.int .i64 0)).setCell ⟨w.heap.size, 2, none⟩ (.int .i64 0)).setCell ⟨w.heap.size, 3, none⟩ (.int .i64 0)).setCell ⟨w.heap.size, 4, none⟩ (.int .i64 0)).setCell ⟨w.heap.size, 5, none⟩ (.int .i64 0)).setCell ⟨w.heap.size, 6, none⟩ (.slice none 0 0)) := ⟨_, rfl⟩
  rw [← hWO] at HP
  have HZ0 : WO.heap[w.heap.size]? = some (.cells zeroA 27 (0, 0)) := by rw [hWO]; exact blk_set (blk_set (blk_set (blk_set (blk_set (blk_set (blk_set HX3.out.res 0 _) 1 _) 2 _) 3 _) 4 _) 5 _) 6 _
  have HZ : WO.drew.heap[w.heap.size]? = some (.cells zeroA 27 (0, 0)) := HZ0
  obtain ⟨⟨g0, g1, g2, g3, g4, g5, g6⟩, -⟩ := zero_cells HZ
  rw [← hWO]
  refine bodyPost_ret (v := .tuple #[.agg zeroA, .int .i64 q.1, .int .i64 (off + q.2)]) (by simp [results, Tryz.results28, go_sem, g0, g1, g2, g3, g4, g5, g6]) rfl ?_
  exact HP
 | ok p =>
  have n0 : no = 0 := hn.out
  have n1 : x = p.1 := hx.out
  have n2 : at_ = p.2 := ha.out
  subst n0
  subst n1
  by_cases hlt : p.2 < s.size
  ·have HRR : Aside0 (wholeP s mayB tilesB off (.ok p) = .error (2, off + p.2)) := ⟨if_pos hlt⟩
   have q0 : (at_ < (s.size : Int)) = True := eq_true (by rw [n2]; omega)
   have q1 : decide (at_ < (s.size : Int)) = true := decide_eq_true (by rw [n2]; omega)
   replace n2 := Aside0.mk n2
   clear hlt hs
   go_upto_region 6 with (fail)
   rw [← HW3.out]
   have hw := by have h := hw2.out; rw [← i64_w] at h; exact h
   have hne : w.heap.size ≠ w2.heap.size := by intro e; have hb := HX3.out.box; rw [← e, HX3.out.res] at hb; simp at hb
   have hn1 : w.heap.size ≠ w.heap.size + 1 := by omega
   refine start_ (n := 8) (S := fun w' => w'.cell? ⟨w2.heap.size, 7, none⟩ = some (.int .i64 at_) ∧ w'.cell? ⟨w.heap.size + 1, 0, none⟩ = some (.int .u8 0) ∧ w'.cell? ⟨w.heap.size + 1, 1, none⟩ = some (.int .i64 0) ∧ w'.cell? ⟨w.heap.size + 1, 2, none⟩ = some (.int .i64 0) ∧ w'.cell? ⟨w.heap.size + 1, 3, none⟩ = some (.int .i64 0) ∧ w'.cell? ⟨w.heap.size + 1, 4, none⟩ = some (.int .i64 0) ∧ w'.cell? ⟨w.heap.size + 1, 5, none⟩ = some (.int .i64 0) ∧ w'.cell? ⟨w.heap.size + 1, 6, none⟩ = some (.slice none 0 0)) (ds := []) #[false, false, false, false, false, false, false, false] (by kernel_rfl) rfl rfl ⟨x7, y0, y1, y2, y3, y4, y5, y6⟩ (fun hHeld => ?_)
   refine pure_ (i := 1) (N := some 28) (v := ?_) (a' := ?_) #[false, true, false, false, false, false, false, false] rfl rfl (by kernel_rfl) (fun _ _ _ h => h) (Or.inl ⟨by rfl, ?_⟩) ?_ ?_
   rotate_left
   ·intro w'
    go_simp
    with_reducible rfl
   rotate_left
   ·simp only [Act.put, List.setIfInBounds_toArray, List.set_cons_zero, List.set_cons_succ, i64_w, i32_w]
    rfl
   refine pure_ (i := 3) (N := some 30) (v := ?_) (a' := ?_) #[false, true, false, true, false, false, false, false] rfl rfl (by kernel_rfl) (fun _ _ _ h => h) (Or.inl ⟨by rfl, ?_⟩) ?_ ?_
   rotate_left
   ·intro w'
    go_simp
    with_reducible rfl
   rotate_left
   ·simp only [Act.put, List.setIfInBounds_toArray, List.set_cons_zero, List.set_cons_succ, i64_w, i32_w]
    rfl
   refine take_ (i := 0) (N := some 27) (v := ?_) (a' := ?_) #[true, true, false, true, false, false, false, false] rfl rfl (by kernel_rfl) (fun _ _ _ h => h) (Or.inl ⟨by rfl, ?_⟩) hHeld ?_ ?_
   rotate_left
   ·rintro w' ⟨s0, s1, s2, s3, s4, s5, s6, s7⟩
    go_simp
    with_reducible rfl
   rotate_left
   ·simp only [Act.put, List.setIfInBounds_toArray, List.set_cons_zero, List.set_cons_succ, i64_w, i32_w]
    rfl
   refine take_ (i := 2) (N := some 29) (v := ?_) (a' := ?_) #[true, true, true, true, false, false, false, false] rfl rfl (by kernel_rfl) (fun _ _ _ h => h) (Or.inl ⟨by rfl, ?_⟩) hHeld ?_ ?_
   rotate_left
   ·rintro w' ⟨s0, s1, s2, s3, s4, s5, s6, s7⟩
    go_simp
    with_reducible rfl
   rotate_left
   ·simp only [Act.put, List.setIfInBounds_toArray, List.set_cons_zero, List.set_cons_succ, i64_w, i32_w]
    rfl
   refine pure_ (i := 4) (N := some 31) (v := ?_) (a' := ?_) #[true, true, true, true, true, false, false, false] rfl rfl (by kernel_rfl) (fun _ _ _ h => h) (Or.inl ⟨by rfl, ?_⟩) ?_ ?_
   rotate_left
   ·intro w'
    go_simp
    with_reducible rfl
   rotate_left
   ·simp only [Act.put, List.setIfInBounds_toArray, List.set_cons_zero, List.set_cons_succ, i64_w, i32_w]
    rfl
   refine one_ (i := 5) (N := none) #[true, true, true, true, true, true, false, false] rfl rfl (by kernel_rfl) (by decide) (fun K hK => ?_)
   refine skip_ (w1 := ?_) (by rfl) rfl ?_ ?_
   rotate_left
   ·go_simp
    exact rfl
   refine hK.out _ _ ⟨(far7d hne x7), (far7d hn1 y0), (far7d hn1 y1), (far7d hn1 y2), (far7d hn1 y3), (far7d hn1 y4), (far7d hn1 y5), (far7d hn1 y6)⟩ (fun hHeld => ?_)
   clear hK K
   refine pure_ (i := 6) (N := some 5) (v := ?_) (a' := ?_) #[true, true, true, true, true, true, true, false] rfl rfl (by kernel_rfl) (fun _ _ _ h => h) (Or.inl ⟨by rfl, ?_⟩) ?_ ?_
   rotate_left
   ·intro w'
    go_simp
    with_reducible rfl
   rotate_left
   ·simp only [Act.put, List.setIfInBounds_toArray, List.set_cons_zero, List.set_cons_succ, i64_w, i32_w]
    rfl
   refine pure_ (i := 7) (N := some 6) (v := ?_) (a' := ?_) #[true, true, true, true, true, true, true, true] rfl rfl (by kernel_rfl) (fun _ _ _ h => h) (Or.inl ⟨by rfl, ?_⟩) ?_ ?_
   rotate_left
   ·intro w'
    go_simp
    with_reducible rfl
   rotate_left
   ·simp only [Act.put, List.setIfInBounds_toArray, List.set_cons_zero, List.set_cons_succ, i64_w, i32_w]
    rfl
   refine done_ (by kernel_rfl) ?_
   go_wp2
   have HP := wres_drew (wres_zero HX3.out (2, (off + at_)))
   obtain ⟨WO, hWO⟩ : ∃ WO, WO = (((((((W3.setCell ⟨w.heap.size, 0, none⟩ (.int .u8 0)).setCell ⟨w.heap.size, 1, none⟩ (.int .i64 0)).setCell ⟨w.heap.size, 2, none⟩ (.int .i64 0)).setCell ⟨w.heap.size, 3, none⟩ (.int .i64 0)).setCell ⟨w.heap.size, 4, none⟩ (.int .i64 0)).setCell ⟨w.heap.size, 5, none⟩ (.int .i64 0)).setCell ⟨w.heap.size, 6, none⟩ (.slice none 0 0)) := ⟨_, rfl⟩
   rw [← hWO] at HP
   have HZ0 : WO.heap[w.heap.size]? = some (.cells zeroA 27 (0, 0)) := by rw [hWO]; exact blk_set (blk_set (blk_set (blk_set (blk_set (blk_set (blk_set HX3.out.res 0 _) 1 _) 2 _) 3 _) 4 _) 5 _) 6 _
   have HZ : WO.drew.heap[w.heap.size]? = some (.cells zeroA 27 (0, 0)) := HZ0
   obtain ⟨⟨g0, g1, g2, g3, g4, g5, g6⟩, -⟩ := zero_cells HZ
   rw [← hWO]
   refine bodyPost_ret (v := .tuple #[.agg zeroA, .int .i64 2, .int .i64 (off + at_)]) (by simp [results, Tryz.results28, go_sem, g0, g1, g2, g3, g4, g5, g6]) rfl ?_
   rw [HRR.out, ← n2.out]
   exact HP
  ·have q0 : (at_ < (s.size : Int)) = False := eq_false (by rw [n2]; omega)
   have q1 : decide (at_ < (s.size : Int)) = false := decide_eq_false (by rw [n2]; omega)
   have HR : Aside0 (wholeP s mayB tilesB off (.ok p) = if mayB p.1 = false then .error (1, 0) else if tilesB p.1 = false then .error (5, 0) else .ok p.1) := ⟨if_neg hlt⟩
   obtain ⟨A', c', hAe, hcl, hrow⟩ := Kd.R_reads HX3.out.row
   injection hAe with e1 e2 e3
   subst e1; subst e3
   have HMM := Aside0.mk (HM.out p rfl W3 A c hrow hcl)
   have HTT : Aside0 (∀ W, Below W3.heap.size W3 W → Calls Tryz.prog 23 #[.agg #[.int .u8 p.1.f0, .int .i64 p.1.f1.f0, .int .i64 p.1.f1.f1, .int .i64 p.1.f1.f2, .int .i64 p.1.f1.f3, .int .i64 p.1.f2, .slice A p.1.f3.length c]] W fun e w' => e = .returned (.bool (tilesB p.1)) ∧ Below W.heap.size W w') := ⟨fun W hb => HT.out p rfl W A c (Kd.C_below hrow hb) hcl⟩
   generalize mayB p.1 = bm at *
   generalize tilesB p.1 = bt at *
   clear hlt hs hrow hcl n2 HM HT hw1 hw2 hno hx ha hn hsx e2
   go_wp2_with fail
   rw [← HW3.out]
   refine HMM.out.mono ?_
   rintro e w4 ⟨rfl, hb4⟩
   have HX4 : Aside0 (WBox w w4 w2.heap.size p.1 A c at_ 0 site) := ⟨HX3.out.below hb4⟩
   have HB4 := Aside0.mk hb4
   clear hb4 x0 x1 x2 x3 x4 x5 x6 x7 x8 x9 r0 r1 r2 r3 r4 r5 r6 f0 f1 f2 f3 f4 f5 f6 y0 y1 y2 y3 y4 y5 y6
   have h4 := HX4.out
   obtain ⟨x0, x1, x2, x3, x4, x5, x6, x7, x8, x9⟩ := h4.cells
   obtain ⟨⟨r0, r1, r2, r3, r4, r5, r6⟩, f0, f1, f2, f3, f4, f5, f6⟩ := zero_cells (W := w4) h4.res
   obtain ⟨⟨y0, y1, y2, y3, y4, y5, y6⟩, -⟩ := zero_cells (W := w4) h4.nil
   clear h4
   cases bm with
   | false =>
    go_wp2
    refine bodyPost_ret (v := .tuple #[.agg zeroA, .int .i64 1, .int .i64 0]) (by simp [results, Tryz.results28, go_sem, r0, r1, r2, r3, r4, r5, r6]) rfl ?_
    rw [HR.out, if_pos trivial]
    exact wres_zero HX4.out (1, 0)
   | true =>
    go_wp2_with fail
    refine (HTT.out w4 HB4.out).mono ?_
    rintro e w5 ⟨rfl, hb5⟩
    have HX5 : Aside0 (WBox w w5 w2.heap.size p.1 A c at_ 0 site) := ⟨HX4.out.below hb5⟩
    clear hb5 x0 x1 x2 x3 x4 x5 x6 x7 x8 x9 r0 r1 r2 r3 r4 r5 r6 f0 f1 f2 f3 f4 f5 f6 y0 y1 y2 y3 y4 y5 y6
    have h5 := HX5.out
    obtain ⟨x0, x1, x2, x3, x4, x5, x6, x7, x8, x9⟩ := h5.cells
    obtain ⟨⟨r0, r1, r2, r3, r4, r5, r6⟩, f0, f1, f2, f3, f4, f5, f6⟩ := zero_cells (W := w5) h5.res
    obtain ⟨⟨y0, y1, y2, y3, y4, y5, y6⟩, -⟩ := zero_cells (W := w5) h5.nil
    clear h5
    cases bt with
    | false =>
     go_wp2
     refine bodyPost_ret (v := .tuple #[.agg zeroA, .int .i64 5, .int .i64 0]) (by simp [results, Tryz.results28, go_sem, r0, r1, r2, r3, r4, r5, r6]) rfl ?_
     rw [HR.out, if_neg (by simp), if_pos trivial]
     exact wres_zero HX5.out (5, 0)
    | true =>
     go_wp2
     refine bodyPost_ret (v := .tuple #[.agg #[.int .u8 p.1.f0, .int .i64 p.1.f1.f0, .int .i64 p.1.f1.f1, .int .i64 p.1.f1.f2, .int .i64 p.1.f1.f3, .int .i64 p.1.f2, .slice A p.1.f3.length c], .int .i64 0, .int .i64 0]) (by simp [results, Tryz.results28, go_sem, r0, r1, r2, r3, r4, r5, r6]) rfl ?_
     rw [HR.out, if_neg (by simp), if_neg (by simp)]
     exact wres_tree HX5.out
end Go.Proofs.YtkobpbbegalfpaaGreatDoor
