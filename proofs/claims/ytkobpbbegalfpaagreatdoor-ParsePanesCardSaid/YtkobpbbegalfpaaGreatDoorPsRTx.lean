/-
  Joined texts: PsRBo, PsRB, PsUni, PsPan, PsCutT, PsRTx.
-/
import Derived.Test.YtkobpbbegalfpaaGreatDoorPsRWh
import Derived.Test.YtkobpbbegalfpaaGreatDoorTiRef2
import Derived.Test.YtkobpbbegalfpaaGreatDoorPsAwake
import Derived.Test.YtkobpbbegalfpaaGreatDoorPParseBodiesx13
import Derived.Test.YtkobpbbegalfpaaGreatDoorTiMem
import Derived.Lib.Strings
import Derived.Test.YtkobpbbegalfpaaGreatDoorPxPanes
import Derived.Test.YtkobpbbegalfpaaGreatDoorPsTop
/- Printed texts of this seat, cut to what is used. -/
namespace Go.Proofs.YtkobpbbegalfpaaGreatDoor
open Go.RowKit Go.Proofs.YtkobpbbegalfpaaGreatDoorW.PrintWords Go.Proofs.YtkobpbbegalfpaaGreatDoorW.PrintLast Go.Proofs.YtkobpbbegalfpaaGreatDoorW.PrintMore Go.Proofs.YtkobpbbegalfpaaGreatDoor.PParseBodies
set_option linter.unusedVariables false
set_option linter.unusedSimpArgs false
set_option maxRecDepth 100000

/-- A tree into the answer's box. -/
theorem res_tree {w W : World} {R : Except (Int × Int) SC} {A : Option Addr} {c : Nat} (hb : Below w.heap.size w W) (hR : Kd.R k27 27 W (w.heap.size + 1) (fun _ => True) (.slice A (treeR R).f3.length c) (treeR R).f3) :
  RefPost w R (.returned (.tuple #[.agg #[.int .u8 (treeR R).f0, .int .i64 (treeR R).f1.f0, .int .i64 (treeR R).f1.f1, .int .i64 (treeR R).f1.f2, .int .i64 (treeR R).f1.f3, .int .i64 (treeR R).f2, .slice A (treeR R).f3.length c], .int .i64 (noR R), .int .i64 (atR R)])) (((((((W.setCell ⟨w.heap.size, 0, none⟩ (.int .u8 (treeR R).f0)).setCell ⟨w.heap.size, 1, none⟩ (.int .i64 (treeR R).f1.f0)).setCell ⟨w.heap.size, 2, none⟩ (.int .i64 (treeR R).f1.f1)).setCell ⟨w.heap.size, 3, none⟩ (.int .i64 (treeR R).f1.f2)).setCell ⟨w.heap.size, 4, none⟩ (.int .i64 (treeR R).f1.f3)).setCell ⟨w.heap.size, 5, none⟩ (.int .i64 (treeR R).f2)).setCell ⟨w.heap.size, 6, none⟩ (.slice A (treeR R).f3.length c)) :=
 ⟨A, c, rfl, Kd.R_lower (R_set7 hR (by omega) _ _ _ _ _ _ _) (by omega), (((((((hb.setCell (p := ⟨w.heap.size, 0, none⟩) (Nat.le_refl _) _).setCell (p := ⟨w.heap.size, 1, none⟩) (Nat.le_refl _) _).setCell (p := ⟨w.heap.size, 2, none⟩) (Nat.le_refl _) _).setCell (p := ⟨w.heap.size, 3, none⟩) (Nat.le_refl _) _).setCell (p := ⟨w.heap.size, 4, none⟩) (Nat.le_refl _) _).setCell (p := ⟨w.heap.size, 5, none⟩) (Nat.le_refl _) _).setCell (p := ⟨w.heap.size, 6, none⟩) (Nat.le_refl _) _)⟩
end Go.Proofs.YtkobpbbegalfpaaGreatDoor

/- Printed texts of this seat, cut to what is used. -/
namespace Go.Proofs.YtkobpbbegalfpaaGreatDoor
open Go.RowKit Go.Proofs.YtkobpbbegalfpaaGreatDoorW.PrintWords Go.Proofs.YtkobpbbegalfpaaGreatDoorW.PrintLast Go.Proofs.YtkobpbbegalfpaaGreatDoorW.PrintMore Go.Proofs.YtkobpbbegalfpaaGreatDoor.PParseBodies
set_option linter.unusedVariables false
set_option linter.unusedSimpArgs false

theorem tiles_f (c : SC) (hl : (cells c).length ≤ 10000) (k : Nat) (hk : 200000000 < k) : sashref06_Tiles.f k c.f0 c.f1.f0 c.f1.f1 c.f1.f2 c.f1.f3 c.f2 c.f3 = some (tilesB c) := by
 unfold sashref06_Tiles.f
 rw [Check_f c hl k hk, tilesB_no]
 simp only [Option.bind_some]
 congr 1
theorem cellR_at {s : ByteArray} {p : SC × Nat} (h : cellR s = .ok p) : p.2 ≤ s.size := by
 have e := cellR_eq s
 rw [h] at e
 exact ((places headR headB_R s _).1 0 1 p (Nat.zero_le _) e).2
theorem rcell_c (s : ByteArray) (hs : s.size ≤ 100000) (W : World) : Calls Tryz.prog 51 #[.string s, .int .i64 0, .int .i64 1] W (RCellPost W (cellR s)) := by
 have h := cellR_f s hs (42 * s.size + 80) (Nat.le_refl _)
 have e : cellT (cellR s) = ((pTree (cellR s)).f0, (pTree (cellR s)).f1.f0, (pTree (cellR s)).f1.f1, (pTree (cellR s)).f1.f2, (pTree (cellR s)).f1.f3, (pTree (cellR s)).f2, (pTree (cellR s)).f3, pAt (cellR s), pNo (cellR s), pSite (cellR s)) := by cases cellR s <;> rfl
 rw [e] at h
 refine (sashref11_cell.calls _ s 0 1 _ _ _ _ _ _ _ _ _ _ W h).mono ?_
 rintro e' w' ⟨v, rfl, hR, hb⟩
 obtain ⟨A, c, rfl⟩ := Kd.R_slice hR
 exact ⟨A, c, rfl, hR, hb⟩
theorem rwhole_c (s : ByteArray) (hs : s.size ≤ 65535) (off : Int) (ho : 0 ≤ off ∧ off ≤ 1000) (w : World) : Calls Tryz.prog 28 #[.string s, .int .i64 off] w (RefPost w (wholeA s off)) := by
 have hsm : ∀ p, cellR s = .ok p → (cells p.1).length ≤ 10000 := fun p hp => by have := cellR_size hp; omega
 refine rwhole_walk w s off (cellR s) ho (by omega) ?_ ?_ ?_ (rcell_c s (by omega)) ?_ ?_
 ·cases hr : cellR s with
  | error q => exact ⟨Int.le_refl _, by show (0 : Int) ≤ 100000; decide⟩
  | ok p => have := cellR_at hr; exact ⟨Int.natCast_nonneg _, by show (p.2 : Int) ≤ 100000; omega⟩
 ·cases hr : cellR s with
  | error q => have := cellR_site hr; exact ⟨Int.natCast_nonneg _, by show (q.2 : Int) ≤ 100000; omega⟩
  | ok p => exact ⟨Int.le_refl _, by show (0 : Int) ≤ 100000; decide⟩
 ·intro q hq; have := cellR_no (by omega) hq; omega
 ·intro p hp W A c hC hc
  exact (sashref05_May.calls 200000001 _ _ _ _ _ _ A c p.1.f3 _ W hC hc (May_f p.1 (hsm p hp) _ (by omega))).mono fun e w' h => h
 ·intro p hp W A c hC hc
  exact (sashref06_Tiles.calls 200000001 _ _ _ _ _ _ A c p.1.f3 _ W hC hc (tiles_f p.1 (hsm p hp) _ (by omega))).mono fun e w' h => h
end Go.Proofs.YtkobpbbegalfpaaGreatDoor

/- Printed texts of this seat, cut to what is used. -/
namespace Go.Proofs.YtkobpbbegalfpaaGreatDoor
open Go.RowKit Go.Proofs.YtkobpbbegalfpaaGreatDoorW.PrintWords Go.Proofs.YtkobpbbegalfpaaGreatDoorW.PrintLast Go.Proofs.YtkobpbbegalfpaaGreatDoorW.PrintMore Go.Proofs.YtkobpbbegalfpaaGreatDoor.PParseBodies
set_option linter.unusedVariables false
set_option linter.unusedSimpArgs false
set_option maxRecDepth 100000

def errR : Except (Int × Int) SC → Option (Int × Int)
 | .error q => some q
 | .ok _ => none
/-- A tree in a box. -/
structure TreeAt (W : World) (b : Nat) (x : SC) (A : Option Addr) (c : Nat) : Prop where
 box : W.heap[b]? = some (.cells #[.int .u8 x.f0, .int .i64 x.f1.f0, .int .i64 x.f1.f1, .int .i64 x.f1.f2, .int .i64 x.f1.f3, .int .i64 x.f2, .slice A x.f3.length c] 27 (0, 0))
 row : (k27).C W A x.f3.length x.f3
 cap : x.f3.length ≤ c
theorem TreeAt.below {W W' : World} {b : Nat} {x : SC} {A : Option Addr} {c : Nat} (h : TreeAt W b x A c) (hb : Below W.heap.size W W') : TreeAt W' b x A c :=
 ⟨(hb.block b (blk_lt h.box)).trans h.box, Kd.C_below h.row hb, h.cap⟩
theorem tree_cells {W : World} {b : Nat} {x : SC} {A : Option Addr} {c : Nat} (h : TreeAt W b x A c) :
  W.cell? ⟨b, 0, none⟩ = some (.int .u8 x.f0) ∧ W.cell? ⟨b, 1, none⟩ = some (.int .i64 x.f1.f0) ∧ W.cell? ⟨b, 2, none⟩ = some (.int .i64 x.f1.f1) ∧ W.cell? ⟨b, 3, none⟩ = some (.int .i64 x.f1.f2) ∧ W.cell? ⟨b, 4, none⟩ = some (.int .i64 x.f1.f3) ∧ W.cell? ⟨b, 5, none⟩ = some (.int .i64 x.f2) ∧ W.cell? ⟨b, 6, none⟩ = some (.slice A x.f3.length c) :=
 ⟨(blk_cell h.box 0).trans rfl, (blk_cell h.box 1).trans rfl, (blk_cell h.box 2).trans rfl, (blk_cell h.box 3).trans rfl, (blk_cell h.box 4).trans rfl, (blk_cell h.box 5).trans rfl, (blk_cell h.box 6).trans rfl⟩
/-- A tree that was handed back, and put in a box. -/
theorem tree_new {w : World} {base : Nat} {x : SC} {A : Option Addr} {c : Nat} (h : Kd.R k27 27 w base (fun _ => True) (.slice A x.f3.length c) x.f3) :
  TreeAt (w.alloc (.cells #[.int .u8 x.f0, .int .i64 x.f1.f0, .int .i64 x.f1.f1, .int .i64 x.f1.f2, .int .i64 x.f1.f3, .int .i64 x.f2, .slice A x.f3.length c] 27)) w.heap.size x A c := by
 obtain ⟨A', c', he, hl, hr⟩ := Kd.R_reads h
 injection he with e1 e2 e3
 subst e1; subst e3
 exact ⟨heap_alloc_new w _, Kd.C_below hr (below_alloc (Below.refl _ _) _), hl⟩
def UniPost (w : World) (R : Except (Int × Int) SC) (e : Ending) (w' : World) : Prop :=
 ∃ A c ev, e = .returned (.tuple #[.agg #[.int .u8 (treeR R).f0, .int .i64 (treeR R).f1.f0, .int .i64 (treeR R).f1.f1, .int .i64 (treeR R).f1.f2, .int .i64 (treeR R).f1.f3, .int .i64 (treeR R).f2, .slice A (treeR R).f3.length c], ev]) ∧ Kd.R k27 27 w' w.heap.size (fun _ => True) (.slice A (treeR R).f3.length c) (treeR R).f3 ∧ ErrIs w' ev (errR R) ∧ Below w.heap.size w w'
theorem uni_of {w w' : World} {R : Except (Int × Int) SC} {e : Ending} (h : ReadPost w e w' R) : UniPost w R e w' := by
 cases R with
 | error q =>
  obtain ⟨g', g, rfl, hin, hg, hb⟩ := h
  exact ⟨none, 0, _, rfl, Kd.R_nil _ _ _ _ _, ⟨_, _, rfl, inside_ev hin hg⟩, hb⟩
 | ok x =>
  obtain ⟨v, rfl, hR, hb⟩ := h
  obtain ⟨A, c, rfl⟩ := Kd.R_slice hR
  exact ⟨A, c, _, rfl, hR, rfl, hb⟩
theorem text_uni (w : World) (s : ByteArray) (hs : s.size ≤ 1000000) (hT : NumT w) (hE : NumE w) : Calls Tryz.prog 11 #[.string s] w (UniPost w (textA s)) := (textA_calls w s hs hT hE).mono fun e w' h => uni_of h
theorem ErrIs.below {W W' : World} {ev : Value} {o : Option (Int × Int)} (h : ErrIs W ev o) (hb : Below W.heap.size W W') : ErrIs W' ev o := by
 cases o with
 | none => exact h
 | some q => obtain ⟨t, p, rfl, he⟩ := h; exact ⟨t, p, rfl, As.EV_keep hb he⟩
/-- Trees that are read are small. -/
theorem wholeA_small {s : ByteArray} {off : Int} (hs : s.size ≤ 700000) : (cells (treeR (wholeA s off))).length ≤ 100000 := by
 cases h : wholeA s off with
 | error q => show (cells zC).length ≤ 100000; rw [show zC = ⟨0, ⟨0, 0, 0, 0⟩, 0, []⟩ from rfl, cells_mk, cellsL_nil]; decide
 | ok x =>
  unfold wholeA wholeP at h
  cases hr : cellR s with
  | error p => rw [hr] at h; cases h
  | ok p =>
   have hz := cellR_size hr
   rw [hr] at h
   simp only at h
   split at h
   ·cases h
   ·split at h
    ·cases h
    ·split at h
     ·cases h
     ·cases h
      show (cells p.1).length ≤ 100000
      omega
theorem textA_small {s : ByteArray} : (cells (treeR (textA s))).length ≤ 100000 := by
 have := cutR_size s
 unfold textA
 split
 ·exact wholeA_small (by omega)
 ·show (cells zC).length ≤ 100000; rw [show zC = ⟨0, ⟨0, 0, 0, 0⟩, 0, []⟩ from rfl, cells_mk, cellsL_nil]; decide
end Go.Proofs.YtkobpbbegalfpaaGreatDoor

/-
 How many leaves a text's tree has: the code's answer, and the leaves' numbers.
-/
namespace Go.Proofs.YtkobpbbegalfpaaGreatDoor
open Go.RowKit Go.Proofs.YtkobpbbegalfpaaGreatDoorW.PrintWords Go.Proofs.YtkobpbbegalfpaaGreatDoorW.PrintLast Go.Proofs.YtkobpbbegalfpaaGreatDoorW.PrintMore Go.Proofs.YtkobpbbegalfpaaGreatDoor.PParseBodies
set_option linter.unusedVariables false
set_option linter.unusedSimpArgs false
set_option maxRecDepth 100000

theorem leafIds_len (l : List SC) : (leafIds l).length ≤ l.length := by unfold leafIds; rw [List.length_map]; exact List.length_filter_le _ _
theorem leafIds_app (a b : List SC) : leafIds (a ++ b) = leafIds a ++ leafIds b := by simp [leafIds]
theorem leafIds_cons (c : SC) (l : List SC) : leafIds (c :: l) = if c.f0 = 1 then c.f2 :: leafIds l else leafIds l := by
 unfold leafIds
 by_cases h : c.f0 = 1 <;> simp [h]
theorem LvL (l : List SC) (hP : ∀ c ∈ l, ∀ k, 2 * (cellsL c.f3).length + 2 < k → cell_Leaves.f k c.f3 = some (leafIds (cellsL c.f3))) : ∀ (d k i : Nat) (acc : List Int), l.length - i = d → i ≤ l.length → 2 * (cellsL (l.drop i)).length + 1 < k → acc.length + (cellsL (l.drop i)).length ≤ 1000000 →
  l.length ≤ 100000 → cell_Leaves.l0 k acc l (l.length : Int) (i : Int) = some (acc ++ leafIds (cellsL (l.drop i))) := by
 intro d
 induction d with
 | zero =>
  intro k i acc hd hi hk ha hl
  obtain ⟨k, rfl⟩ : ∃ m, k = m + 1 := ⟨k - 1, by omega⟩
  simp only [cell_Leaves.l0]
  rw [if_neg (by omega), List.drop_eq_nil_of_le (by omega), cellsL_nil]
  simp [leafIds]
 | succ d ih =>
  intro k i acc hd hi hk ha hl
  obtain ⟨k, rfl⟩ : ∃ m, k = m + 1 := ⟨k - 1, by omega⟩
  have hlt : i < l.length := by omega
  have h1 := cellsL_drop l i hlt
  have hcl : (cells (l.getD i z27)).length = 1 + (cellsL (l.getD i z27).f3).length := by rw [cells_eq]; simp; omega
  have hk1 := hP _ (getT_mem l i hlt) k (by omega)
  have hdr : cellsL (l.drop i) = l.getD i z27 :: (cellsL (l.getD i z27).f3 ++ cellsL (l.drop (i + 1))) := by rw [dropT l i hlt, cellsL_cons, cells_eq]; rfl
  rw [hdr, leafIds_cons, leafIds_app]
  have hle := leafIds_len (cellsL (l.getD i z27).f3)
  simp only [cell_Leaves.l0]
  rw [if_pos (by omega), if_pos (by omega), if_pos (by omega), rd_T_getD, wi i (by omega)]
  generalize l.getD i z27 = x at *
  by_cases h : x.f0 = 1
  ·rw [if_pos h, if_pos h, if_pos (by omega), Option.bind_some, hk1, Option.bind_some, if_pos (by rw [List.length_append]; simp only [List.length_cons, List.length_nil]; omega), ih k (i + 1) _ (by omega) (by omega) (by omega) (by rw [List.length_append, List.length_append]; simp only [List.length_cons, List.length_nil]; omega) hl]
   simp
  ·rw [if_neg h, if_neg h, hk1, Option.bind_some, if_pos (by omega), ih k (i + 1) _ (by omega) (by omega) (by omega) (by rw [List.length_append]; omega) hl]
   simp
theorem LvF (l : List SC) (hP : ∀ c ∈ l, ∀ k, 2 * (cellsL c.f3).length + 2 < k → cell_Leaves.f k c.f3 = some (leafIds (cellsL c.f3))) (hs : (cellsL l).length ≤ 100000) (k : Nat) (hk : 2 * (cellsL l).length + 2 < k) : cell_Leaves.f k l = some (leafIds (cellsL l)) := by
 obtain ⟨k, rfl⟩ : ∃ m, k = m + 1 := ⟨k - 1, by omega⟩
 have hge := cellsL_ge l
 simp only [cell_Leaves.f]
 have := LvL l hP l.length k 0 [] (by omega) (by omega) (by rw [List.drop_zero]; omega) (by rw [List.drop_zero]; simp only [List.length_nil]; omega) (by omega)
 simpa using this
theorem Lv_f (c : SC) : (cells c).length ≤ 100000 → ∀ k, 2 * (cellsL c.f3).length + 2 < k → cell_Leaves.f k c.f3 = some (leafIds (cellsL c.f3)) := by
 refine cell_ind (P := fun c => (cells c).length ≤ 100000 → ∀ k, 2 * (cellsL c.f3).length + 2 < k → cell_Leaves.f k c.f3 = some (leafIds (cellsL c.f3))) (fun c ih hs k hk => ?_) c
 have hcl : (cells c).length = 1 + (cellsL c.f3).length := by rw [cells_eq]; simp; omega
 exact LvF c.f3 (fun x hx => ih x hx (by have := kid_le _ c.f3 hx; omega)) (by omega) k hk
/-- The leaves' numbers of one tree, by the code. -/
theorem leaves_one (x : SC) (hs : (cells x).length ≤ 100000) (W : World) (A : Option Addr) (c : Nat) (hC : (k27).C W A 1 [x]) (hc : 1 ≤ c) :
  Calls Tryz.prog 34 #[.slice A 1 c] W fun e w' => ∃ v, e = .returned v ∧ Kd.R (Kd.int .i64) 3 w' W.heap.size (fun _ => True) v (leafIds (cells x)) ∧ Below W.heap.size W w' := by
 have hcl : cellsL [x] = cells x := by rw [cellsL_cons, cellsL_nil, List.append_nil]
 have h := LvF [x] (fun y hy => by obtain rfl : y = x := by simpa using hy
                                   exact Lv_f y hs) (by rw [hcl]; exact hs) (2 * (cells x).length + 3) (by rw [hcl]; omega)
 rw [hcl] at h
 exact cell_Leaves.calls _ A c [x] _ W hC hc h
theorem IDs_f (c : SC) (hl : (cells c).length ≤ 100000) (k : Nat) (hk : 2 * (cells c).length < k) : sashref05_IDs.f k c.f0 c.f1.f0 c.f1.f1 c.f1.f2 c.f1.f3 c.f2 c.f3 = some (leafIds (cells c)) := by
 have hlv : (leavesOf c).length ≤ (cells c).length := List.length_filter_le _ _
 have loop : ∀ (d k i : Nat), (leavesOf c).length - i = d → i ≤ (leavesOf c).length → d < k → sashref05_IDs.l0 k (((leavesOf c).map (·.f2)).take i) (leavesOf c) ((leavesOf c).length : Int) (i : Int) = some ((leavesOf c).map (·.f2)) := by
  intro d
  induction d with
  | zero =>
   intro k i hd hi hk
   obtain ⟨k, rfl⟩ : ∃ m, k = m + 1 := ⟨k - 1, by omega⟩
   simp only [sashref05_IDs.l0]
   rw [if_neg (by omega), List.take_of_length_le (by rw [List.length_map]; omega)]
  | succ d ih =>
   intro k i hd hi hk
   obtain ⟨k, rfl⟩ : ∃ m, k = m + 1 := ⟨k - 1, by omega⟩
   have hlt : i < (leavesOf c).length := by omega
   have := ih k (i + 1) (by omega) (by omega) (by omega)
   rw [ids_take (leavesOf c) i hlt] at this
   simp only [sashref05_IDs.l0]
   rw [if_pos (by omega), if_pos (by omega), if_pos (by omega), if_pos (by rw [List.length_take, List.length_map]; omega), rd_T_getD, wi i (by omega)]
   exact this
 unfold sashref05_IDs.f
 rw [Leaves_f c hl k hk, Option.bind_some]
 have e : leafIds (cells c) = (leavesOf c).map (·.f2) := rfl
 have := loop (leavesOf c).length k 0 (by omega) (by omega) (by omega)
 rw [e]
 simpa using this
theorem ids_calls (x : SC) (hs : (cells x).length ≤ 100000) (W : World) (A : Option Addr) (c : Nat) (hC : (k27).C W A x.f3.length x.f3) (hc : x.f3.length ≤ c) :
  Calls Tryz.prog 19 #[.agg #[.int .u8 x.f0, .int .i64 x.f1.f0, .int .i64 x.f1.f1, .int .i64 x.f1.f2, .int .i64 x.f1.f3, .int .i64 x.f2, .slice A x.f3.length c]] W fun e w' => ∃ A' c', e = .returned (.slice A' (leafIds (cells x)).length c') ∧ Below W.heap.size W w' := by
 refine (sashref05_IDs.calls _ _ _ _ _ _ _ A c x.f3 _ W hC hc (IDs_f x hs (2 * (cells x).length + 1) (by omega))).mono ?_
 rintro e w' ⟨v, rfl, hR, hb⟩
 obtain ⟨A', c', rfl⟩ := Kd.R_slice hR
 exact ⟨A', c', rfl, hb⟩
theorem code_uni (W : World) (ev : Value) (R : Except (Int × Int) SC) (h : ErrIs W ev (errR R)) (hg : As.ErrT W) : Calls Tryz.prog 24 #[ev] W fun e w' => e = .returned (.int .i64 (noR R)) ∧ Below W.heap.size W w' := by
 cases R with
 | error q => obtain ⟨t, p, rfl, hev⟩ := h; exact As.code_calls _ _ _ W hev hg
 | ok x => obtain rfl : ev = .nilIface := h; exact As.code_nil W
set_option maxHeartbeats 4000000 in
theorem panes_calls (w : World) (s : ByteArray) (hs : s.size ≤ 1000000) (hT : NumT w) (hE : NumE w) (hg : As.ErrT w) :
  Calls Tryz.prog 17 #[.string s] w fun e w' => e = .returned (.tuple #[.int .i64 ((leafIds (cells (treeR (textA s)))).length : Int), .int .i64 (noR (textA s))]) ∧ Below w.heap.size w w' := by
 have HB1 := text_uni w s hs hT hE
 unfold UniPost at HB1
 have hsm := textA_small (s := s)
 have HC : ∀ W ev, Below w.heap.size w W → ErrIs W ev (errR (textA s)) → Calls Tryz.prog 24 #[ev] W fun e w' => e = .returned (.int .i64 (noR (textA s))) ∧ Below W.heap.size W w' := fun W ev hb h => code_uni W ev _ h (hg.below hb)
 generalize noR (textA s) = no at *
 generalize errR (textA s) = o1 at *
 have HL : ∀ W A c, (k27).C W A 1 [treeR (textA s)] → 1 ≤ c → Calls Tryz.prog 34 #[.slice A 1 c] W fun e w' => ∃ A' c', e = .returned (.slice A' (leafIds (cells (treeR (textA s)))).length c') ∧ Below W.heap.size W w' := fun W A c h1 h2 => by
  refine (leaves_one _ hsm W A c h1 h2).mono ?_
  rintro e w' ⟨v, rfl, hR, hb⟩
  obtain ⟨A', c', rfl⟩ := Kd.R_slice hR
  exact ⟨A', c', rfl, hb⟩
 generalize (leafIds (cells (treeR (textA s)))).length = n at *
 generalize treeR (textA s) = x at *
 replace HB1 := Aside0.mk HB1
 replace HC := Aside0.mk HC
 replace HL := Aside0.mk HL
 clear hT hE hg hsm hs
 go_enter Tryz.func17, Tryz.ntmps17
 go_wp2_with fail
 refine HB1.out.mono ?_
 rintro e w1 ⟨A1, c1, ev1, rfl, hr1, he1, hb1⟩
 obtain ⟨W2, hW2⟩ : ∃ W2, W2 = w1.alloc (.cells #[.int .u8 x.f0, .int .i64 x.f1.f0, .int .i64 x.f1.f1, .int .i64 x.f1.f2, .int .i64 x.f1.f3, .int .i64 x.f2, .slice A1 x.f3.length c1] 27) := ⟨_, rfl⟩
 have HBB2 : Aside0 (Below w.heap.size w W2) := ⟨by rw [hW2]; exact Below.alloc hb1 hb1.size _⟩
 have HX2 : Aside0 (TreeAt W2 w1.heap.size x A1 c1) := ⟨by rw [hW2]; exact tree_new hr1⟩
 have HE2 : Aside0 (ErrIs W2 ev1 o1) := ⟨he1.below (by rw [hW2]; exact below_alloc (Below.refl _ _) _)⟩
 have HK2 : Aside0 (Kd.R k27 27 W2 w.heap.size (fun _ => True) (.slice A1 x.f3.length c1) x.f3) := ⟨Kd.R_below hr1 (by rw [hW2]; exact below_alloc (Below.refl _ _) _)⟩
 have HW2 := Aside0.mk hW2
 clear hr1 he1 hb1 hW2
 obtain ⟨y0, y1, y2, y3, y4, y5, y6⟩ := tree_cells HX2.out
 go_upto_region 2 with (fail)
 rw [← HW2.out]
 go_wp2_with fail
 obtain ⟨W3, hW3⟩ : ∃ W3, W3 = W2.alloc (.cells #[.int .u8 x.f0, .int .i64 x.f1.f0, .int .i64 x.f1.f1, .int .i64 x.f1.f2, .int .i64 x.f1.f3, .int .i64 x.f2, .slice A1 x.f3.length c1] 27) := ⟨_, rfl⟩
 have HC3 : Aside0 ((k27).C W3 (some ⟨W2.heap.size, 0, none⟩) 1 [x]) := ⟨by rw [hW3]; exact (Kd.R_reads' (R_one (Nat.zero_le _) x (Kd.R_lower HK2.out (Nat.zero_le _)))).2.2⟩
 have hb23 : Below W2.heap.size W2 W3 := by rw [hW3]; exact below_alloc (Below.refl _ _) _
 have HB3 : Aside0 (Below w.heap.size w W3) := ⟨HBB2.out.trans (hb23.mono HBB2.out.size)⟩
 have HE3 : Aside0 (ErrIs W3 ev1 o1) := ⟨HE2.out.below hb23⟩
 have HW3 := Aside0.mk hW3
 clear hW3 hb23 y0 y1 y2 y3 y4 y5 y6
 rw [← HW3.out]
 refine (HL.out W3 _ 1 HC3.out (Nat.le_refl _)).mono ?_
 rintro e w4 ⟨A4, c4, rfl, hb4⟩
 have HB4 : Aside0 (Below w.heap.size w w4) := ⟨HB3.out.trans (hb4.mono HB3.out.size)⟩
 have HE4 : Aside0 (ErrIs w4 ev1 o1) := ⟨HE3.out.below hb4⟩
 clear hb4
 go_wp2_with fail
 refine (HC.out w4 ev1 HB4.out HE4.out).mono ?_
 rintro e w5 ⟨rfl, hb5⟩
 have HB5 : Aside0 (Below w.heap.size w w5) := ⟨HB4.out.trans (hb5.mono HB4.out.size)⟩
 clear hb5
 go_wp2
 go_ret2
 exact ⟨rfl, HB5.out⟩
end Go.Proofs.YtkobpbbegalfpaaGreatDoor

/-
 The document's Cut. Pure.
-/
namespace Go.Proofs.YtkobpbbegalfpaaGreatDoor
open Go.RowKit Go.Proofs.YtkobpbbegalfpaaGreatDoorW.PrintWords Go.Proofs.YtkobpbbegalfpaaGreatDoorW.PrintLast Go.Proofs.YtkobpbbegalfpaaGreatDoorW.PrintMore Go.Proofs.YtkobpbbegalfpaaGreatDoor.PParseBodies
set_option linter.unusedVariables false
set_option linter.unusedSimpArgs false

theorem fuel_up {α : Type} {f : Nat → Option α} (hm : ∀ k, LeO (f k) (f (k + 1))) {k : Nat} {r : α} (h : f k = some r) : ∀ j, k ≤ j → f j = some r := by
 intro j hj
 obtain ⟨d, rfl⟩ := Nat.exists_eq_add_of_le hj
 clear hj
 induction d with
 | zero => exact h
 | succ d ih => exact hm (k + d) r ih
theorem rfrom_f (s : ByteArray) (hs : s.size ≤ 1000000) (k : Nat) (hk : s.size < k) : sashref02_From.f k 0 s = some (sumL 0 s.data.toList) := by
 unfold sashref02_From.f
 rw [w64u 0 (by omega) (by omega)]
 have h := refFrom_l0 s (by omega) s.size 0 k 0 (by omega) (by omega) hk (by omega) (by omega)
 rw [List.drop_zero] at h
 exact h
theorem rhex_f (s : ByteArray) (k : Nat) (hk : 73 ≤ k) : sashref01_ReadHex.f k s = some (unhexP s) := fuel_up (sashref01_ReadHex.mono s) (refRH_pure s) k hk
theorem SCut_f (s : ByteArray) (hs : s.size ≤ 1000000) (k : Nat) (hk : s.size + 100 < k) : sashref02_Cut.f k s = some (cutR s) := by
 obtain ⟨k, rfl⟩ : ∃ m, k = m + 1 := ⟨k - 1, by omega⟩
 unfold sashref02_Cut.f cutR
 by_cases h1 : 65535 < s.size
 ·rw [if_pos (by omega), if_pos h1]
 ·rw [if_neg (by omega), if_neg h1]
  by_cases h2 : s.size < 5
  ·rw [if_pos (by omega), if_pos h2, sashref02_Cut.j0, if_pos rfl]
  ·rw [if_neg (by omega), if_neg h2, if_pos (by decide), if_pos (by omega), sashref02_Cut.j0]
   have h4 : 4 < s.size := by omega
   have hx := ext_one s 4 h4
   rw [bt4 s h4, hx]
   by_cases h3 : ((s[4]'h4).toNat : Int) = 44
   ·have h3' : (s[4]'h4) = 44 := UInt8.toNat_inj.1 (by show (s[4]'h4).toNat = 44; omega)
    rw [if_neg (by rw [h3']; decide), if_pos (show (0 : Nat) ≤ 4 by decide), if_pos (show (4 : Int) ≤ (s.size : Int) by omega), rhex_f _ k (by omega), Option.bind_some, if_neg (show ¬ ¬ ((s[4]'h4).toNat : Int) = 44 from fun h => h h3)]
    unfold unhexP
    cases hu : unhexS (s.extract 0 4) with
    | none => rfl
    | some c =>
     have hz : (s.extract 5 s.size).size ≤ s.size := by rw [ByteArray.size_extract]; omega
     simp only [if_true]
     rw [if_pos (by omega), rfrom_f _ (by omega) k (by omega), Option.bind_some]
     by_cases he : c = sumL 0 (s.extract 5 s.size).data.toList
     ·rw [if_pos he.symm, if_pos he]
     ·rw [if_neg (fun h => he h.symm), if_neg he]
   ·rw [if_pos h3, if_pos]
    rw [bne_iff_ne]
    intro h
    injection h with h _
    rw [h] at h3
    exact h3 rfl
end Go.Proofs.YtkobpbbegalfpaaGreatDoor

/-
 The document's Text: an own walk.
-/
namespace Go.Proofs.YtkobpbbegalfpaaGreatDoor
open Go.RowKit Go.Proofs.YtkobpbbegalfpaaGreatDoorW.PrintWords Go.Proofs.YtkobpbbegalfpaaGreatDoorW.PrintLast Go.Proofs.YtkobpbbegalfpaaGreatDoorW.PrintMore Go.Proofs.YtkobpbbegalfpaaGreatDoor.PParseBodies
set_option linter.unusedVariables false
set_option linter.unusedSimpArgs false
set_option maxRecDepth 100000

set_option maxHeartbeats 4000000 in
theorem rtext_walk (w : World) (s cb : ByteArray) (no : Int) (R : Except (Int × Int) SC)
  (HC : ∀ W, Calls Tryz.prog 35 #[.string s] W fun e w' => e = .returned (.tuple #[.string cb, .int .i64 no]) ∧ Below W.heap.size W w')
  (HW : no = 0 → ∀ W, Calls Tryz.prog 28 #[.string cb, .int .i64 5] W (RefPost W R)) (hR : no ≠ 0 → R = .error (no, 0)) :
  Calls Tryz.prog 18 #[.string s] w (RefPost w R) := by
 obtain ⟨W1, hW1⟩ : ∃ W1, W1 = w.alloc (.cells zeroA 27) := ⟨_, rfl⟩
 have HB1 : Aside0 (Below w.heap.size w W1) := ⟨by rw [hW1]; exact below_alloc (Below.refl _ _) _⟩
 have HR1 : Aside0 (W1.heap[w.heap.size]? = some (.cells zeroA 27 (0, 0))) := ⟨by rw [hW1]; exact heap_alloc_new w _⟩
 have HS1 : Aside0 (W1.heap.size = w.heap.size + 1) := ⟨by rw [hW1]; simp⟩
 have HW1 := Aside0.mk hW1
 have HH := Aside0.mk (HC W1)
 by_cases hn : no = 0
 ·have q1 : (no != 0) = false := by simp [hn]
  have q2 : (no == 0) = true := by simp [hn]
  replace HW := Aside0.mk (HW hn)
  unfold RefPost at HW
  have HFIN : Aside0 (∀ W A c, Below w.heap.size w W → Kd.R k27 27 W (w.heap.size + 1) (fun _ => True) (.slice A (treeR R).f3.length c) (treeR R).f3 → RefPost w R _ _) := ⟨fun W A c hb hR => res_tree hb hR⟩
  generalize treeR R = x at *
  generalize noR R = nr at *
  generalize atR R = at_ at *
  clear hW1 HC hR hn
  go_enter Tryz.func18, Tryz.ntmps18
  go_wp2_with fail
  rw [← HW1.out]
  refine HH.out.mono ?_
  rintro e w2 ⟨rfl, hb2⟩
  have HB2 : Aside0 (Below w.heap.size w w2) := ⟨HB1.out.trans (hb2.mono HB1.out.size)⟩
  have HR2 := Aside0.mk ((hb2.block _ (blk_lt HR1.out)).trans HR1.out)
  have HS2 : Aside0 (w.heap.size + 1 ≤ w2.heap.size) := ⟨by have := hb2.size; have := HS1.out; omega⟩
  clear hb2
  go_wp2_with fail
  refine (HW.out w2).mono ?_
  rintro e w3 ⟨A, c, rfl, hR3, hb3⟩
  have HB3 : Aside0 (Below w.heap.size w w3) := ⟨HB2.out.trans (hb3.mono HB2.out.size)⟩
  have HR3 := Aside0.mk (Kd.R_lower hR3 HS2.out)
  have hr3 := (hb3.block _ (blk_lt HR2.out)).trans HR2.out
  obtain ⟨⟨r0, r1, r2, r3, r4, r5, r6⟩, f0, f1, f2, f3, f4, f5, f6⟩ := zero_cells hr3
  clear hR3 hb3 hr3
  go_wp2
  refine bodyPost_ret (v := .tuple #[.agg #[.int .u8 x.f0, .int .i64 x.f1.f0, .int .i64 x.f1.f1, .int .i64 x.f1.f2, .int .i64 x.f1.f3, .int .i64 x.f2, .slice A x.f3.length c], .int .i64 nr, .int .i64 at_]) (by simp [results, Tryz.results18, go_sem, r0, r1, r2, r3, r4, r5, r6]) rfl ?_
  exact HFIN.out w3 A c HB3.out HR3.out
 ·have q1 : (no != 0) = true := by simp [hn]
  have q2 : (no == 0) = false := by simp [hn]
  have HRE := Aside0.mk (hR hn)
  clear hW1 HC hR hn HW
  go_enter Tryz.func18, Tryz.ntmps18
  go_wp2_with fail
  rw [← HW1.out]
  refine HH.out.mono ?_
  rintro e w2 ⟨rfl, hb2⟩
  have HB2 : Aside0 (Below w.heap.size w w2) := ⟨HB1.out.trans (hb2.mono HB1.out.size)⟩
  have hr3 := (hb2.block _ (blk_lt HR1.out)).trans HR1.out
  obtain ⟨⟨r0, r1, r2, r3, r4, r5, r6⟩, f0, f1, f2, f3, f4, f5, f6⟩ := zero_cells hr3
  clear hb2 hr3
  go_wp2
  refine bodyPost_ret (v := .tuple #[.agg zeroA, .int .i64 no, .int .i64 0]) (by simp [results, Tryz.results18, go_sem, r0, r1, r2, r3, r4, r5, r6, zeroA]) rfl ?_
  rw [HRE.out]
  exact res_tree (R := .error (no, 0)) HB2.out (Kd.R_nil _ _ _ _ _)
theorem rtext_uni (w : World) (s : ByteArray) (hs : s.size ≤ 65530) : Calls Tryz.prog 18 #[.string s] w (RefPost w (textA s)) := by
 refine rtext_walk w s (cutR s).1 (cutR s).2 _ (fun W => (sashref02_Cut.calls (s.size + 101) s _ _ W (SCut_f s (by omega) _ (by omega))).mono fun e w' ⟨h1, h2⟩ => ⟨h1, h2.below⟩) ?_ ?_
 ·intro h W
  have := cutR_size s
  have e : textA s = wholeA (cutR s).1 5 := if_pos h
  rw [e]
  exact rwhole_c _ (by omega) 5 (by decide) W
 ·intro h
  exact if_neg h
end Go.Proofs.YtkobpbbegalfpaaGreatDoor
