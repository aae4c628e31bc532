/-
  Joined texts: PsAns, PsBody, PsText, HexPureP, SuPutP.
-/
import Derived.Test.YtkobpbbegalfpaaGreatDoorPsWhole5
import Derived.Test.YtkobpbbegalfpaaGreatDoorShelf
import Derived.Test.YtkobpbbegalfpaaGreatDoorNuErrP
import Derived.Test.YtkobpbbegalfpaaGreatDoorPsRef
/-
 The reader reads a whole body: what comes of it.
-/
namespace Go.Proofs.YtkobpbbegalfpaaGreatDoor
open Go.RowKit Go.Proofs.YtkobpbbegalfpaaGreatDoorW.PrintWords Go.Proofs.YtkobpbbegalfpaaGreatDoorW.PrintLast Go.Proofs.YtkobpbbegalfpaaGreatDoorW.PrintMore Go.Proofs.YtkobpbbegalfpaaGreatDoor.PParseBodies
set_option linter.unusedVariables false

/-- The tree of a body, or the error's number and its place. -/
def wholeP (s : ByteArray) (may til : SC → Bool) (off : Int) : Except (Int × Nat) (SC × Nat) → Except (Int × Int) SC
 | .error q => .error (q.1, off + q.2)
 | .ok p => if p.2 < s.size then .error (2, off + p.2) else if may p.1 = false then .error (1, 0) else if til p.1 = false then .error (5, 0) else .ok p.1
def WholePost (w : World) (b : Nat) (e : Ending) (w' : World) : Except (Int × Int) SC → Prop
 | .error q => BadPost w b q.1 q.2 e w'
 | .ok x => GoodPost w b x e w'
theorem whole_calls (hd : ByteArray → Int × Int × Int) (I : World → Prop) (w : World) (b : Nat) (s : ByteArray) (m : Nat) (off : Int) (hs : s.size ≤ 100000) (ho : 0 ≤ off ∧ off ≤ 1000) (hb : HeadB hd) (hc : HeadC hd b I) (hI : I w) (k : RdA w b s ((0 : Nat) : Int) off)
  (r : Except (Int × Nat) (SC × Nat)) (hr : cellP hd s m 0 1 = some r) (may til : SC → Bool)
  (HMAY : ∀ p, r = .ok p → ∀ W A, Kd.C k27 W (some A) 1 [p.1] → Calls Tryz.prog 49 #[.slice (some A) 1 1] W fun e w' => e = .returned (.bool (may p.1)) ∧ Below W.heap.size W w')
  (HTIL : ∀ p, r = .ok p → may p.1 = true → ∀ W A, Kd.C k27 W (some A) 1 [p.1] → Calls Tryz.prog 50 #[.slice (some A) 1 1] W fun e w' => e = .returned (.bool (til p.1)) ∧ Below W.heap.size W w') :
  Calls Tryz.prog 27 #[.pointer (some ⟨b, 0, none⟩)] w fun e w' => WholePost w b e w' (wholeP s may til off r) := by
 cases r with
 | error q => exact whole_bad hd I w b s m off hs ho hb hc hI k q hr
 | ok p =>
  have hM := HMAY p rfl
  have hT := HTIL p rfl
  have hle := ((places hd hb s m).1 0 1 p (Nat.zero_le _) hr).2
  by_cases h1 : p.2 < s.size
  ·have e : wholeP s may til off (.ok p) = .error (2, off + p.2) := if_pos h1
   rw [e]
   exact whole_rest hd I w b s m off hs ho hb hc hI k p hr h1
  ·have h1' : p.2 = s.size := by omega
   cases h2 : may p.1 with
   | false =>
    rw [h2] at hM
    have e : wholeP s may til off (.ok p) = .error (1, 0) := by simp [wholeP, h1, h2]
    rw [e]
    exact whole_may hd I w b s m off hs ho hb hc hI k p hr h1' hM
   | true =>
    have hT := hT h2
    rw [h2] at hM
    cases h3 : til p.1 with
    | false =>
     rw [h3] at hT
     have e : wholeP s may til off (.ok p) = .error (5, 0) := by simp [wholeP, h1, h2, h3]
     rw [e]
     exact whole_tiles hd I w b s m off hs ho hb hc hI k p hr h1' hM hT
    | true =>
     rw [h3] at hT
     have e : wholeP s may til off (.ok p) = .ok p.1 := by simp [wholeP, h1, h2, h3]
     rw [e]
     exact whole_good hd I w b s m off hs ho hb hc hI k p hr h1' hM hT
end Go.Proofs.YtkobpbbegalfpaaGreatDoor

/-
 parse.Body: what it returns of a body that is not too long.
-/
namespace Go.Proofs.YtkobpbbegalfpaaGreatDoor
open Go.RowKit Go.Proofs.YtkobpbbegalfpaaGreatDoorW.PrintWords Go.Proofs.YtkobpbbegalfpaaGreatDoorW.PrintLast Go.Proofs.YtkobpbbegalfpaaGreatDoorW.PrintMore Go.Proofs.YtkobpbbegalfpaaGreatDoor.PParseBodies
set_option linter.unusedVariables false
set_option linter.unusedSimpArgs false
set_option maxRecDepth 100000

def ReadPost (w : World) (e : Ending) (w' : World) : Except (Int × Int) SC → Prop
 | .error q => ∃ g' g, e = .returned (.tuple #[.agg zeroA, .iface 78 (.pointer (some ⟨g', 0, none⟩))]) ∧ Inside w' w.heap.size g' (.iface 82 (.pointer (some ⟨g, 0, none⟩))) [layB] ∧ w'.heap[g]? = some (.cells #[.int .i64 q.1, .int .i64 q.2] 84 (0, 0)) ∧ Below w.heap.size w w'
 | .ok x => ∃ v, e = .returned (.tuple #[.agg (cellV x v), .nilIface]) ∧ Kd.R k27 27 w' w.heap.size (fun _ => True) v x.f3 ∧ Below w.heap.size w w'
theorem set_above {w W : World} {b : Nat} {v : Value} (h : Below w.heap.size w W) (hb : w.heap.size ≤ b) : Below w.heap.size w (W.setCell ⟨b, 1, none⟩ v) := Below.setCell h (p := ⟨b, 1, none⟩) hb v
set_option maxHeartbeats 8000000 in
theorem body_calls (w : World) (s : ByteArray) (hs : s.size ≤ 65530) (R : Except (Int × Int) SC)
  (HWH : ∀ W, Below w.heap.size w W → RdA W (w.heap.size + 1) s 0 0 → Calls Tryz.prog 27 #[.pointer (some ⟨w.heap.size + 1, 0, none⟩)] W fun e w' => WholePost W (w.heap.size + 1) e w' R) :
  Calls Tryz.prog 9 #[.string s] w fun e w' => ReadPost w e w' R := by
 obtain ⟨W1, hW1⟩ : ∃ W1, W1 = (w.alloc (.cells zeroA 27)).alloc (.cells #[.string s, .int .i64 0, .int .i64 0] 56) := ⟨_, rfl⟩
 have e1 : (w.alloc (.cells zeroA 27)).heap.size = w.heap.size + 1 := by simp
 have HB1 : Aside0 (Below w.heap.size w W1) := ⟨by rw [hW1]; exact below_alloc (below_alloc (Below.refl _ _) _) _⟩
 have HRD : Aside0 (RdA W1 (w.heap.size + 1) s 0 0) := ⟨by
  have := heap_alloc_new (w.alloc (.cells zeroA 27)) (.cells #[.string s, .int .i64 0, .int .i64 0] 56)
  rw [e1, ← hW1] at this
  exact this⟩
 have HRS : Aside0 (W1.heap[w.heap.size]? = some (.cells zeroA 27 (0, 0))) := ⟨by rw [hW1]; exact blk_alloc (heap_alloc_new w _) _⟩
 have HN := Aside0.mk (HWH W1 HB1.out HRD.out)
 have HW := Aside0.mk hW1
 have hgt : ((s.size : Int) > 65530) = False := eq_false (by omega)
 have hgt2 : decide ((65530 : Int) < (s.size : Int)) = false := decide_eq_false (by omega)
 clear hW1 HWH hs e1
 go_enter Tryz.func9, Tryz.ntmps9
 go_wp2_with fail
 rw [← HW.out]
 with_reducible refine HN.out.mono ?_
 rintro e w2 h2
 cases R with
 | error q =>
  obtain ⟨g', g, rfl, hin, hg, jj, hst⟩ := h2
  have hres := (hst.block _ (blk_lt HRS.out)).trans ((Below.heap_setCell W1 ⟨w.heap.size + 1, 1, none⟩ _ _ (by show w.heap.size ≠ w.heap.size + 1; omega)).trans HRS.out)
  have HBW : Aside0 (Below w.heap.size w w2) := ⟨Below.trans (set_above HB1.out (by omega)) (Below.mono hst HB1.out.size)⟩
  have HIN := Aside0.mk hin
  have HG := Aside0.mk hg
  have hlt : w.heap.size < W1.heap.size := blk_lt HRS.out
  have hgn : g ≠ w.heap.size := by
   rintro rfl
   rw [hres] at hg
   simp at hg
  have y0 : w2.cell? ⟨w.heap.size, 0, none⟩ = some (.int .u8 0) := by simp [World.cell?, hres]
  have f0 := blk_frozen hres 0
  have y1 : w2.cell? ⟨w.heap.size, 1, none⟩ = some (.int .i64 0) := by simp [World.cell?, hres]
  have f1 := blk_frozen hres 1
  have y2 : w2.cell? ⟨w.heap.size, 2, none⟩ = some (.int .i64 0) := by simp [World.cell?, hres]
  have f2 := blk_frozen hres 2
  have y3 : w2.cell? ⟨w.heap.size, 3, none⟩ = some (.int .i64 0) := by simp [World.cell?, hres]
  have f3 := blk_frozen hres 3
  have y4 : w2.cell? ⟨w.heap.size, 4, none⟩ = some (.int .i64 0) := by simp [World.cell?, hres]
  have f4 := blk_frozen hres 4
  have y5 : w2.cell? ⟨w.heap.size, 5, none⟩ = some (.int .i64 0) := by simp [World.cell?, hres]
  have f5 := blk_frozen hres 5
  have y6 : w2.cell? ⟨w.heap.size, 6, none⟩ = some (.slice none 0 0) := by simp [World.cell?, hres]
  have f6 := blk_frozen hres 6
  clear hres hg hin hst
  go_wp2
  refine bodyPost_ret (v := .tuple #[.agg zeroA, .iface 78 (.pointer (some ⟨g', 0, none⟩))]) (by simp [results, Tryz.results9, go_sem, y0, y1, y2, y3, y4, y5, y6]) rfl ?_
  refine ⟨g', g, rfl, ?_, (blk_far (blk_far (blk_far (blk_far (blk_far (blk_far (blk_far HG.out (p := ⟨w.heap.size, 0, none⟩) hgn (.int .u8 0)) (p := ⟨w.heap.size, 1, none⟩) hgn (.int .i64 0)) (p := ⟨w.heap.size, 2, none⟩) hgn (.int .i64 0)) (p := ⟨w.heap.size, 3, none⟩) hgn (.int .i64 0)) (p := ⟨w.heap.size, 4, none⟩) hgn (.int .i64 0)) (p := ⟨w.heap.size, 5, none⟩) hgn (.int .i64 0)) (p := ⟨w.heap.size, 6, none⟩) hgn (.slice none 0 0)), (((((((HBW.out.setCell (p := ⟨w.heap.size, 0, none⟩) (Nat.le_refl _) _).setCell (p := ⟨w.heap.size, 1, none⟩) (Nat.le_refl _) _).setCell (p := ⟨w.heap.size, 2, none⟩) (Nat.le_refl _) _).setCell (p := ⟨w.heap.size, 3, none⟩) (Nat.le_refl _) _).setCell (p := ⟨w.heap.size, 4, none⟩) (Nat.le_refl _) _).setCell (p := ⟨w.heap.size, 5, none⟩) (Nat.le_refl _) _).setCell (p := ⟨w.heap.size, 6, none⟩) (Nat.le_refl _) _)⟩
  have hI := (ins_set (ins_set (ins_set (ins_set (ins_set (ins_set (ins_set HIN.out (p := ⟨w.heap.size, 0, none⟩) hlt (.int .u8 0)) (p := ⟨w.heap.size, 1, none⟩) hlt (.int .i64 0)) (p := ⟨w.heap.size, 2, none⟩) hlt (.int .i64 0)) (p := ⟨w.heap.size, 3, none⟩) hlt (.int .i64 0)) (p := ⟨w.heap.size, 4, none⟩) hlt (.int .i64 0)) (p := ⟨w.heap.size, 5, none⟩) hlt (.int .i64 0)) (p := ⟨w.heap.size, 6, none⟩) hlt (.slice none 0 0))
  exact ⟨Nat.le_trans (Nat.le_of_lt hlt) hI.1, by obtain ⟨_, v, q1, q2⟩ := hI; exact ⟨v, q1, Kd.R_lower q2 (Nat.le_of_lt hlt)⟩⟩
 | ok x =>
  obtain ⟨v, rfl, hR, jj, hst⟩ := h2
  have hres := (hst.block _ (blk_lt HRS.out)).trans ((Below.heap_setCell W1 ⟨w.heap.size + 1, 1, none⟩ _ _ (by show w.heap.size ≠ w.heap.size + 1; omega)).trans HRS.out)
  have HBW : Aside0 (Below w.heap.size w w2) := ⟨Below.trans (set_above HB1.out (by omega)) (Below.mono hst HB1.out.size)⟩
  have HR := Aside0.mk hR
  have hlt : w.heap.size < W1.heap.size := blk_lt HRS.out
  obtain ⟨A, cp, rfl⟩ := Kd.R_slice hR
  have y0 : w2.cell? ⟨w.heap.size, 0, none⟩ = some (.int .u8 0) := by simp [World.cell?, hres]
  have f0 := blk_frozen hres 0
  have y1 : w2.cell? ⟨w.heap.size, 1, none⟩ = some (.int .i64 0) := by simp [World.cell?, hres]
  have f1 := blk_frozen hres 1
  have y2 : w2.cell? ⟨w.heap.size, 2, none⟩ = some (.int .i64 0) := by simp [World.cell?, hres]
  have f2 := blk_frozen hres 2
  have y3 : w2.cell? ⟨w.heap.size, 3, none⟩ = some (.int .i64 0) := by simp [World.cell?, hres]
  have f3 := blk_frozen hres 3
  have y4 : w2.cell? ⟨w.heap.size, 4, none⟩ = some (.int .i64 0) := by simp [World.cell?, hres]
  have f4 := blk_frozen hres 4
  have y5 : w2.cell? ⟨w.heap.size, 5, none⟩ = some (.int .i64 0) := by simp [World.cell?, hres]
  have f5 := blk_frozen hres 5
  have y6 : w2.cell? ⟨w.heap.size, 6, none⟩ = some (.slice none 0 0) := by simp [World.cell?, hres]
  have f6 := blk_frozen hres 6
  clear hres hR hst
  go_wp2
  refine bodyPost_ret (v := .tuple #[.agg (cellV x (.slice A x.f3.length cp)), .nilIface]) (by simp [results, Tryz.results9, go_sem, y0, y1, y2, y3, y4, y5, y6]) rfl ?_
  exact ⟨_, rfl, Kd.R_lower (R_set7 HR.out hlt _ _ _ _ _ _ _) (Nat.le_of_lt hlt), (((((((HBW.out.setCell (p := ⟨w.heap.size, 0, none⟩) (Nat.le_refl _) _).setCell (p := ⟨w.heap.size, 1, none⟩) (Nat.le_refl _) _).setCell (p := ⟨w.heap.size, 2, none⟩) (Nat.le_refl _) _).setCell (p := ⟨w.heap.size, 3, none⟩) (Nat.le_refl _) _).setCell (p := ⟨w.heap.size, 4, none⟩) (Nat.le_refl _) _).setCell (p := ⟨w.heap.size, 5, none⟩) (Nat.le_refl _) _).setCell (p := ⟨w.heap.size, 6, none⟩) (Nat.le_refl _) _)⟩
end Go.Proofs.YtkobpbbegalfpaaGreatDoor

/-
 parse.Text: what it returns of a text whose sum is right.
-/
namespace Go.Proofs.YtkobpbbegalfpaaGreatDoor
open Go.RowKit Go.Proofs.YtkobpbbegalfpaaGreatDoorW.PrintWords Go.Proofs.YtkobpbbegalfpaaGreatDoorW.PrintLast Go.Proofs.YtkobpbbegalfpaaGreatDoorW.PrintMore Go.Proofs.YtkobpbbegalfpaaGreatDoor.PParseBodies
set_option linter.unusedVariables false
set_option linter.unusedSimpArgs false
set_option maxRecDepth 100000

set_option maxHeartbeats 8000000 in
theorem text_ok (w : World) (s cb : ByteArray) (R : Except (Int × Int) SC)
  (HCUT : ∀ W, Below w.heap.size w W → Calls Tryz.prog 29 #[.string s] W fun e w' => e = .returned (.tuple #[.string cb, .int .i64 0]) ∧ Below W.heap.size W w')
  (HWH : ∀ W b, Below w.heap.size w W → w.heap.size ≤ b → RdA W b cb 0 5 → Calls Tryz.prog 27 #[.pointer (some ⟨b, 0, none⟩)] W fun e w' => WholePost W b e w' R) :
  Calls Tryz.prog 11 #[.string s] w fun e w' => ReadPost w e w' R := by
 obtain ⟨W0, hW0⟩ : ∃ W0, W0 = w.alloc (.cells zeroA 27) := ⟨_, rfl⟩
 have HB0 : Aside0 (Below w.heap.size w W0) := ⟨by rw [hW0]; exact below_alloc (Below.refl _ _) _⟩
 have HR0 : Aside0 (W0.heap[w.heap.size]? = some (.cells zeroA 27 (0, 0))) := ⟨by rw [hW0]; exact heap_alloc_new w _⟩
 have HC := Aside0.mk (HCUT W0 HB0.out)
 have HWW := Aside0.mk HWH
 have HW0 := Aside0.mk hW0
 clear hW0 HCUT HWH
 go_enter Tryz.func11, Tryz.ntmps11
 go_wp2_with fail
 rw [← HW0.out]
 with_reducible refine HC.out.mono ?_
 rintro e w1 ⟨rfl, hb1⟩
 obtain ⟨b, hbe⟩ : ∃ b, b = w1.heap.size := ⟨_, rfl⟩
 obtain ⟨W1, hW1⟩ : ∃ W1, W1 = w1.alloc (.cells #[.string cb, .int .i64 0, .int .i64 5] 56) := ⟨_, rfl⟩
 have HB1 : Aside0 (Below w.heap.size w W1) := ⟨by rw [hW1]; exact Below.alloc (HB0.out.trans (hb1.mono HB0.out.size)) (Nat.le_trans HB0.out.size hb1.size) _⟩
 have hr1 := (hb1.block _ (blk_lt HR0.out)).trans HR0.out
 have HNB : Aside0 (w.heap.size < b) := ⟨by rw [hbe]; exact blk_lt hr1⟩
 have HRD : Aside0 (RdA W1 b cb 0 5) := ⟨by rw [hW1, hbe]; exact heap_alloc_new w1 _⟩
 have HRS : Aside0 (W1.heap[w.heap.size]? = some (.cells zeroA 27 (0, 0))) := ⟨by rw [hW1]; exact blk_alloc hr1 _⟩
 have HN := Aside0.mk (HWW.out W1 b HB1.out (Nat.le_of_lt HNB.out) HRD.out)
 clear hr1 hb1 HC
 go_wp2_with fail
 rw [← hbe, ← hW1]
 clear hbe hW1
 with_reducible refine HN.out.mono ?_
 rintro e w2 h2
 cases R with
 | error q =>
  obtain ⟨g', g, rfl, hin, hg, jj, hst⟩ := h2
  have hres := (hst.block _ (blk_lt HRS.out)).trans ((Below.heap_setCell W1 ⟨b, 1, none⟩ _ _ (Nat.ne_of_lt HNB.out)).trans HRS.out)
  have HBW : Aside0 (Below w.heap.size w w2) := ⟨Below.trans (set_above HB1.out (Nat.le_of_lt HNB.out)) (Below.mono hst HB1.out.size)⟩
  have HIN := Aside0.mk hin
  have HG := Aside0.mk hg
  have hlt : w.heap.size < W1.heap.size := blk_lt HRS.out
  have hgn : g ≠ w.heap.size := by
   rintro rfl
   rw [hres] at hg
   simp at hg
  have y0 : w2.cell? ⟨w.heap.size, 0, none⟩ = some (.int .u8 0) := by simp [World.cell?, hres]
  have f0 := blk_frozen hres 0
  have y1 : w2.cell? ⟨w.heap.size, 1, none⟩ = some (.int .i64 0) := by simp [World.cell?, hres]
  have f1 := blk_frozen hres 1
  have y2 : w2.cell? ⟨w.heap.size, 2, none⟩ = some (.int .i64 0) := by simp [World.cell?, hres]
  have f2 := blk_frozen hres 2
  have y3 : w2.cell? ⟨w.heap.size, 3, none⟩ = some (.int .i64 0) := by simp [World.cell?, hres]
  have f3 := blk_frozen hres 3
  have y4 : w2.cell? ⟨w.heap.size, 4, none⟩ = some (.int .i64 0) := by simp [World.cell?, hres]
  have f4 := blk_frozen hres 4
  have y5 : w2.cell? ⟨w.heap.size, 5, none⟩ = some (.int .i64 0) := by simp [World.cell?, hres]
  have f5 := blk_frozen hres 5
  have y6 : w2.cell? ⟨w.heap.size, 6, none⟩ = some (.slice none 0 0) := by simp [World.cell?, hres]
  have f6 := blk_frozen hres 6
  clear hres hg hin hst
  go_wp2
  refine bodyPost_ret (v := .tuple #[.agg zeroA, .iface 78 (.pointer (some ⟨g', 0, none⟩))]) (by simp [results, Tryz.results11, go_sem, y0, y1, y2, y3, y4, y5, y6]) rfl ?_
  refine ⟨g', g, rfl, ?_, (blk_far (blk_far (blk_far (blk_far (blk_far (blk_far (blk_far HG.out (p := ⟨w.heap.size, 0, none⟩) hgn (.int .u8 0)) (p := ⟨w.heap.size, 1, none⟩) hgn (.int .i64 0)) (p := ⟨w.heap.size, 2, none⟩) hgn (.int .i64 0)) (p := ⟨w.heap.size, 3, none⟩) hgn (.int .i64 0)) (p := ⟨w.heap.size, 4, none⟩) hgn (.int .i64 0)) (p := ⟨w.heap.size, 5, none⟩) hgn (.int .i64 0)) (p := ⟨w.heap.size, 6, none⟩) hgn (.slice none 0 0)), (((((((HBW.out.setCell (p := ⟨w.heap.size, 0, none⟩) (Nat.le_refl _) _).setCell (p := ⟨w.heap.size, 1, none⟩) (Nat.le_refl _) _).setCell (p := ⟨w.heap.size, 2, none⟩) (Nat.le_refl _) _).setCell (p := ⟨w.heap.size, 3, none⟩) (Nat.le_refl _) _).setCell (p := ⟨w.heap.size, 4, none⟩) (Nat.le_refl _) _).setCell (p := ⟨w.heap.size, 5, none⟩) (Nat.le_refl _) _).setCell (p := ⟨w.heap.size, 6, none⟩) (Nat.le_refl _) _)⟩
  have hI := (ins_set (ins_set (ins_set (ins_set (ins_set (ins_set (ins_set HIN.out (p := ⟨w.heap.size, 0, none⟩) hlt (.int .u8 0)) (p := ⟨w.heap.size, 1, none⟩) hlt (.int .i64 0)) (p := ⟨w.heap.size, 2, none⟩) hlt (.int .i64 0)) (p := ⟨w.heap.size, 3, none⟩) hlt (.int .i64 0)) (p := ⟨w.heap.size, 4, none⟩) hlt (.int .i64 0)) (p := ⟨w.heap.size, 5, none⟩) hlt (.int .i64 0)) (p := ⟨w.heap.size, 6, none⟩) hlt (.slice none 0 0))
  exact ⟨Nat.le_trans (Nat.le_of_lt hlt) hI.1, by obtain ⟨_, v, q1, q2⟩ := hI; exact ⟨v, q1, Kd.R_lower q2 (Nat.le_of_lt hlt)⟩⟩
 | ok x =>
  obtain ⟨v, rfl, hR, jj, hst⟩ := h2
  have hres := (hst.block _ (blk_lt HRS.out)).trans ((Below.heap_setCell W1 ⟨b, 1, none⟩ _ _ (Nat.ne_of_lt HNB.out)).trans HRS.out)
  have HBW : Aside0 (Below w.heap.size w w2) := ⟨Below.trans (set_above HB1.out (Nat.le_of_lt HNB.out)) (Below.mono hst HB1.out.size)⟩
  have HR := Aside0.mk hR
  have hlt : w.heap.size < W1.heap.size := blk_lt HRS.out
  obtain ⟨A, cp, rfl⟩ := Kd.R_slice hR
  have y0 : w2.cell? ⟨w.heap.size, 0, none⟩ = some (.int .u8 0) := by simp [World.cell?, hres]
  have f0 := blk_frozen hres 0
  have y1 : w2.cell? ⟨w.heap.size, 1, none⟩ = some (.int .i64 0) := by simp [World.cell?, hres]
  have f1 := blk_frozen hres 1
  have y2 : w2.cell? ⟨w.heap.size, 2, none⟩ = some (.int .i64 0) := by simp [World.cell?, hres]
  have f2 := blk_frozen hres 2
  have y3 : w2.cell? ⟨w.heap.size, 3, none⟩ = some (.int .i64 0) := by simp [World.cell?, hres]
  have f3 := blk_frozen hres 3
  have y4 : w2.cell? ⟨w.heap.size, 4, none⟩ = some (.int .i64 0) := by simp [World.cell?, hres]
  have f4 := blk_frozen hres 4
  have y5 : w2.cell? ⟨w.heap.size, 5, none⟩ = some (.int .i64 0) := by simp [World.cell?, hres]
  have f5 := blk_frozen hres 5
  have y6 : w2.cell? ⟨w.heap.size, 6, none⟩ = some (.slice none 0 0) := by simp [World.cell?, hres]
  have f6 := blk_frozen hres 6
  clear hres hR hst
  go_wp2
  refine bodyPost_ret (v := .tuple #[.agg (cellV x (.slice A x.f3.length cp)), .nilIface]) (by simp [results, Tryz.results11, go_sem, y0, y1, y2, y3, y4, y5, y6]) rfl ?_
  exact ⟨_, rfl, Kd.R_lower (R_set7 HR.out hlt _ _ _ _ _ _ _) (Nat.le_of_lt hlt), (((((((HBW.out.setCell (p := ⟨w.heap.size, 0, none⟩) (Nat.le_refl _) _).setCell (p := ⟨w.heap.size, 1, none⟩) (Nat.le_refl _) _).setCell (p := ⟨w.heap.size, 2, none⟩) (Nat.le_refl _) _).setCell (p := ⟨w.heap.size, 3, none⟩) (Nat.le_refl _) _).setCell (p := ⟨w.heap.size, 4, none⟩) (Nat.le_refl _) _).setCell (p := ⟨w.heap.size, 5, none⟩) (Nat.le_refl _) _).setCell (p := ⟨w.heap.size, 6, none⟩) (Nat.le_refl _) _)⟩
end Go.Proofs.YtkobpbbegalfpaaGreatDoor

/-
 Four digits of base 16, there and back: pure.
-/
namespace Go.Proofs.YtkobpbbegalfpaaGreatDoor
open Go.RowKit Go.Proofs.YtkobpbbegalfpaaGreatDoorW.PrintWords Go.Proofs.YtkobpbbegalfpaaGreatDoorW.PrintLast Go.Proofs.YtkobpbbegalfpaaGreatDoorW.PrintMore
set_option linter.unusedVariables false

theorem bytes_ext {a b : ByteArray} (h : a.toList = b.toList) : a = b := by
 rw [ByteArray.toList_eq, ByteArray.toList_eq] at h
 apply ByteArray.ext
 exact Array.ext' h
/-- The value of a digit as the code writes it; -1: it is none. -/
def lowV (c : Int) : Int := if 48 ≤ c ∧ c ≤ 57 then c - 48 else if 97 ≤ c ∧ c ≤ 102 then c - 87 else -1
theorem low_all : ∀ n : Fin 256, (0 ≤ lowV ((n.val : Nat) : Int) → hexV ((n.val : Nat) : Int) = lowV ((n.val : Nat) : Int)) ∧ (0 ≤ lowV ((n.val : Nat) : Int) → dgt (lowV ((n.val : Nat) : Int)) = UInt8.ofNat n.val) := by decide +kernel
theorem dgt_all : ∀ j : Fin 16, lowV ((dgt ((j.val : Nat) : Int)).toNat : Int) = ((j.val : Nat) : Int) := by decide +kernel
theorem byte_fin (c : UInt8) : ∃ n : Fin 256, c.toNat = n.val ∧ c = UInt8.ofNat n.val := ⟨⟨c.toNat, c.toNat_lt⟩, rfl, by simp⟩
theorem hexV_low (c : UInt8) (h : 0 ≤ lowV (c.toNat : Int)) : hexV (c.toNat : Int) = lowV (c.toNat : Int) := by
 obtain ⟨n, h1, _⟩ := byte_fin c
 rw [h1] at h ⊢
 exact (low_all n).1 h
theorem dgt_low (c : UInt8) (h : 0 ≤ lowV (c.toNat : Int)) : dgt (lowV (c.toNat : Int)) = c := by
 obtain ⟨n, h1, h2⟩ := byte_fin c
 rw [h1] at h ⊢
 rw [h2]
 exact (low_all n).2 h
theorem low_dgt (j : Int) (h0 : 0 ≤ j) (h1 : j < 16) : lowV ((dgt j).toNat : Int) = j := by
 obtain ⟨m, rfl⟩ := Int.eq_ofNat_of_zero_le h0
 exact dgt_all ⟨m, by omega⟩
theorem lowV_range (c : Int) : -1 ≤ lowV c ∧ lowV c < 16 := by unfold lowV; split <;> (try split) <;> omega

/-- The number of four digits. -/
def unhexL : List UInt8 → Option Int
 | [a, b, c, d] => if 0 ≤ lowV (a.toNat : Int) ∧ 0 ≤ lowV (b.toNat : Int) ∧ 0 ≤ lowV (c.toNat : Int) ∧ 0 ≤ lowV (d.toNat : Int) then
   some (16 * (16 * (16 * lowV (a.toNat : Int) + lowV (b.toNat : Int)) + lowV (c.toNat : Int)) + lowV (d.toNat : Int)) else none
 | _ => none
def unhexS (s : ByteArray) : Option Int := unhexL s.data.toList
theorem unhexL_some {l : List UInt8} {u : Int} (h : unhexL l = some u) : ∃ a b c d : UInt8, l = [a, b, c, d] ∧ (0 ≤ lowV (a.toNat : Int) ∧ 0 ≤ lowV (b.toNat : Int) ∧ 0 ≤ lowV (c.toNat : Int) ∧ 0 ≤ lowV (d.toNat : Int)) ∧
  u = 16 * (16 * (16 * lowV (a.toNat : Int) + lowV (b.toNat : Int)) + lowV (c.toNat : Int)) + lowV (d.toNat : Int) := by
 match l, h with
 | [a, b, c, d], h =>
  simp only [unhexL] at h
  split at h
  ·rename_i hc
   injection h with h
   exact ⟨a, b, c, d, rfl, hc, h.symm⟩
  ·cases h
 | [], h => cases h
 | [_], h => cases h
 | [_, _], h => cases h
 | [_, _, _], h => cases h
 | _ :: _ :: _ :: _ :: _ :: _, h => cases h
theorem unhexS_range {s : ByteArray} {u : Int} (h : unhexS s = some u) : 0 ≤ u ∧ u < 65536 := by
 obtain ⟨a, b, c, d, _, _, rfl⟩ := unhexL_some h
 have := lowV_range (a.toNat : Int); have := lowV_range (b.toNat : Int); have := lowV_range (c.toNat : Int); have := lowV_range (d.toNat : Int)
 omega
theorem hex4_unhex {s : ByteArray} {u : Int} (h : unhexS s = some u) : hex4 u = s := by
 obtain ⟨a, b, c, d, hl, ⟨ha, hb, hc, hd⟩, hu⟩ := unhexL_some h
 have ra := lowV_range (a.toNat : Int); have rb := lowV_range (b.toNat : Int); have rc := lowV_range (c.toNat : Int); have rd := lowV_range (d.toNat : Int)
 have e0 : u / 4096 = lowV (a.toNat : Int) := by omega
 have e1 : u / 256 % 16 = lowV (b.toNat : Int) := by omega
 have e2 : u / 16 % 16 = lowV (c.toNat : Int) := by omega
 have e3 : u % 16 = lowV (d.toNat : Int) := by omega
 unfold hex4
 rw [e0, e1, e2, e3, dgt_low a ha, dgt_low b hb, dgt_low c hc, dgt_low d hd]
 apply ByteArray.ext
 apply Array.ext'
 rw [hl]
theorem unhex_hex4 (n : Int) (h0 : 0 ≤ n) (h1 : n < 65536) : unhexS (hex4 n) = some n := by
 have e : unhexS (hex4 n) = unhexL [dgt (n / 4096), dgt (n / 256 % 16), dgt (n / 16 % 16), dgt (n % 16)] := rfl
 rw [e]
 simp only [unhexL]
 rw [low_dgt _ (by omega) (by omega), low_dgt _ (by omega) (by omega), low_dgt _ (by omega) (by omega), low_dgt _ (by omega) (by omega), if_pos (by omega)]
 congr 1
 omega
theorem parseHex_range : ∀ (l : List UInt8) (acc u : Int), 0 ≤ acc → acc ≤ 65535 → parseHexM acc l = .ok u → 0 ≤ u ∧ u ≤ 65535
 | [], acc, u, h0, h1, h => by unfold parseHexM at h; injection h with h; omega
 | c :: r, acc, u, h0, h1, h => by
  unfold parseHexM at h
  split at h
  ·cases h
  ·split at h
   ·cases h
   ·exact parseHex_range r _ u (by omega) (by omega) h
theorem hexRead_range {s : ByteArray} {u : Int} (h : hexRead s = some u) : 0 ≤ u ∧ u ≤ 65535 := by
 unfold hexRead at h
 split at h
 ·cases h
 ·rcases hp : parseHexM 0 s.data.toList with n | _ | _
  ·rw [hp] at h; injection h with h; subst h; exact parseHex_range _ 0 _ (by omega) (by omega) hp
  ·rw [hp] at h; cases h
  ·rw [hp] at h; cases h
theorem hexRead_unhex {s : ByteArray} {u : Int} (h : unhexS s = some u) : hexRead s = some u := by
 obtain ⟨a, b, c, d, hl, ⟨ha, hb, hc, hd⟩, hu⟩ := unhexL_some h
 have ra := lowV_range (a.toNat : Int); have rb := lowV_range (b.toNat : Int); have rc := lowV_range (c.toNat : Int); have rd := lowV_range (d.toNat : Int)
 have hz : ¬ s.size = 0 := by
  have := congrArg List.length hl
  have e : s.data.toList.length = s.size := by simp
  simp at this
  omega
 unfold hexRead
 rw [if_neg hz, hl]
 have hv : parseHexM 0 [a, b, c, d] = .ok u := by
  simp only [parseHexM]
  rw [hexV_low a ha, hexV_low b hb, hexV_low c hc, hexV_low d hd]
  rw [if_neg (by omega), if_neg (by omega), if_neg (by omega), if_neg (by omega), if_neg (by omega), if_neg (by omega), if_neg (by omega), if_neg (by omega)]
  congr 1
  omega
 rw [hv]

/-- What ReadHex answers with. -/
def rhR (s : ByteArray) : Int × Int := match unhexS s with
 | some u => (u, 0)
 | none => (0, 2)
theorem rhR_of (s : ByteArray) : rhR s = match hexRead s with
  | some u => if hex4 u = s then (u, 0) else (0, 2)
  | none => (0, 2) := by
 unfold rhR
 rcases hu : unhexS s with _ | u
 ·rcases hr : hexRead s with _ | v
  ·rfl
  ·have hr2 := hexRead_range hr
   by_cases e : hex4 v = s
   ·rw [← e, unhex_hex4 v hr2.1 (by omega)] at hu; cases hu
   ·simp only [if_neg e]
 ·rw [hexRead_unhex hu]
  simp only [if_pos (hex4_unhex hu)]
end Go.Proofs.YtkobpbbegalfpaaGreatDoor

/- Printed texts of this seat, cut to what is used. -/
namespace Go.Proofs.YtkobpbbegalfpaaGreatDoor
open Go.RowKit Go.Proofs.YtkobpbbegalfpaaGreatDoorW.PrintWords Go.Proofs.YtkobpbbegalfpaaGreatDoorW.PrintLast Go.Proofs.YtkobpbbegalfpaaGreatDoorW.PrintMore Go.Proofs.YtkobpbbegalfpaaGreatDoor.PParseBodies
set_option linter.unusedVariables false

/-- The sum of texts. -/
theorem of_calls (w : World) (A : Option Addr) (c : Nat) (l : List ByteArray) (h : Kd.string.C w A l.length l) (hc : l.length ≤ c) (hs : ∀ x ∈ l, x.size ≤ 9223372036854775806) :
  Calls Tryz.prog 54 #[.slice A l.length c] w fun e w' => e = .returned (.int .u16 (sumL 0 (allB l))) ∧ Drawn0 w w' := by
 obtain ⟨k, hk⟩ := of_pure l (by have := Kd.C_max h; omega) hs
 exact sum_Of.calls k A c l _ w h hc hk
theorem allB_one (s : ByteArray) : allB [s] = s.data.toList := by simp [allB]
theorem of1_calls (s : ByteArray) (hs : s.size ≤ 9223372036854775806) (w : World) :
  Calls Tryz.prog 54 #[.slice (some ⟨w.heap.size, 0, none⟩) 1 1] (w.alloc (.cells #[.string s] 9)) fun e w' => e = .returned (.int .u16 (sumL 0 s.data.toList)) ∧ Below w.heap.size w w' := by
 have h := of_calls (w.alloc (.cells #[.string s] 9)) (some ⟨w.heap.size, 0, none⟩) 1 [s] (nlitC w 9 [s] (by simp)) (Nat.le_refl _) (fun x hx => by rw [List.mem_singleton.1 hx]; exact hs)
 rw [allB_one] at h
 exact h.mono fun e w' ⟨h1, h2⟩ => ⟨h1, (below_alloc (Below.refl _ _) _).trans (h2.below.mono (by simp))⟩



end Go.Proofs.YtkobpbbegalfpaaGreatDoor
