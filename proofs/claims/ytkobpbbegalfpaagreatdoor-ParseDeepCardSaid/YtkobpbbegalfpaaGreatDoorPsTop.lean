/-
 parse.Body, parse.Text: what they return of any body and any text.
-/
import Derived.Test.YtkobpbbegalfpaaGreatDoorPsSize
import Derived.Test.YtkobpbbegalfpaaGreatDoorSuPutP
import Derived.Test.YtkobpbbegalfpaaGreatDoorPParseBodiesx2
import Derived.Test.YtkobpbbegalfpaaGreatDoorTiTop2
namespace Go.Proofs.YtkobpbbegalfpaaGreatDoor
open Go.RowKit Go.Proofs.YtkobpbbegalfpaaGreatDoorW.PrintWords Go.Proofs.YtkobpbbegalfpaaGreatDoorW.PrintLast Go.Proofs.YtkobpbbegalfpaaGreatDoorW.PrintMore Go.Proofs.YtkobpbbegalfpaaGreatDoor.PParseBodies
set_option linter.unusedVariables false
set_option linter.unusedSimpArgs false
set_option maxRecDepth 100000

theorem cell_off {w : World} {g b : Nat} {v x : Value} (h : w.cell? ⟨g, 0, none⟩ = some x) : (w.setCell ⟨b, 1, none⟩ v).cell? ⟨g, 0, none⟩ = some x := by
 rw [World.cell?_setCell_other]
 ·exact h
 ·intro e
  injection e with _ e
  cases e
theorem NumE.set {w : World} (h : NumE w) (b : Nat) (v : Value) : NumE (w.setCell ⟨b, 1, none⟩ v) := by
 obtain ⟨⟨t, p, h1⟩, u, q, h2⟩ := h
 exact ⟨⟨t, p, cell_off h1⟩, u, q, cell_off h2⟩
theorem headC_R (b : Nat) : HeadC headR b NumE :=
 ⟨fun W W' h hb => h.below hb, fun W v h => h.set b v, fun W a h ha => head_calls a (by omega) W h⟩
/-- The tree of a body whose places are so much further on, or the error's number and its place. -/
def wholeA (s : ByteArray) (off : Int) : Except (Int × Int) SC := wholeP s mayB tilesB off (cellR s)
theorem wholeA_calls (w : World) (b : Nat) (s : ByteArray) (off : Int) (hs : s.size ≤ 65535) (ho : 0 ≤ off ∧ off ≤ 1000) (hE : NumE w) (k : RdA w b s ((0 : Nat) : Int) off) :
  Calls Tryz.prog 27 #[.pointer (some ⟨b, 0, none⟩)] w fun e w' => WholePost w b e w' (wholeA s off) := by
 have hone : ∀ p : SC × Nat, cellR s = .ok p → ∀ c ∈ [p.1], (cells c).length ≤ 10000 := by
  intro p hp c hc
  have he : c = p.1 := by simpa using hc
  have := cellR_size hp
  rw [he]
  omega
 refine whole_calls headR NumE w b s _ off (by omega) ho headB_R (headC_R b) hE k _ (cellR_eq s) mayB tilesB ?_ ?_
 ·intro p hp W A hC
  have h := cmay_calls W.heap.size [p.1] W (some A) 1 1 (Nat.le_refl _) (hone p hp) (Tr.of hC)
  rw [show [p.1].all mayB = mayB p.1 by simp] at h
  exact h
 ·intro p hp _ W A hC
  have h := tiles_calls [p.1] W (some A) 1 1 (hone p hp) hC
  rw [show [p.1].all tilesB = tilesB p.1 by simp] at h
  exact h
theorem in_new (W1 : World) (no : Int) :
  Calls Tryz.prog 25 #[.iface 82 (.pointer (some ⟨W1.heap.size, 0, none⟩)), .slice (some ⟨W1.heap.size + 1, 0, none⟩) 1 1] ((W1.alloc (.cells #[.int .i64 no, .int .i64 0] 84)).alloc (.cells #[.string layB] 9)) fun e w' =>
   ∃ g', e = .returned (.iface 78 (.pointer (some ⟨g', 0, none⟩))) ∧ Inside w' W1.heap.size g' (.iface 82 (.pointer (some ⟨W1.heap.size, 0, none⟩))) [layB] ∧ w'.heap[W1.heap.size]? = some (.cells #[.int .i64 no, .int .i64 0] 84 (0, 0)) ∧ Below W1.heap.size W1 w' := by
 obtain ⟨W2, hW2⟩ : ∃ W2, W2 = W1.alloc (.cells #[.int .i64 no, .int .i64 0] 84) := ⟨_, rfl⟩
 obtain ⟨W3, hW3⟩ : ∃ W3, W3 = W2.alloc (.cells #[.string layB] 9) := ⟨_, rfl⟩
 have hC : Kd.string.C W3 (some ⟨W2.heap.size, 0, none⟩) 1 [layB] := by rw [hW3]; exact litC W2 9 [layB] (by decide)
 have e1 : W2.heap.size = W1.heap.size + 1 := by rw [hW2]; simp
 rw [e1] at hC
 have hF : W3.heap[W1.heap.size]? = some (.cells #[.int .i64 no, .int .i64 0] 84 (0, 0)) := by rw [hW3]; exact blk_alloc (by rw [hW2]; exact heap_alloc_new W1 _) _
 have hB : Below W1.heap.size W1 W3 := by rw [hW3, hW2]; exact below_alloc (below_alloc (Below.refl _ _) _) _
 rw [← hW2, ← hW3]
 refine (in_calls 82 (.pointer (some ⟨W1.heap.size, 0, none⟩)) ⟨W1.heap.size + 1, 0, none⟩ 1 1 [layB] W3 rfl (by decide) (Nat.le_refl _) (by decide) hC).mono ?_
 rintro e w3 ⟨g', rfl, hin, hb3⟩
 exact ⟨g', rfl, ⟨Nat.le_trans hB.size hin.1, by obtain ⟨_, v, q1, q2⟩ := hin; exact ⟨v, q1, Kd.R_lower q2 hB.size⟩⟩, (hb3.block _ (blk_lt hF)).trans hF, hB.trans (hb3.mono hB.size)⟩
set_option maxHeartbeats 4000000 in
theorem body_long (w : World) (s : ByteArray) (hs : 65530 < s.size) : Calls Tryz.prog 9 #[.string s] w fun e w' => ReadPost w e w' (.error (3, 0)) := by
 have hgt : ((s.size : Int) > 65530) = True := eq_true (by omega)
 have hgt2 : decide ((65530 : Int) < (s.size : Int)) = true := decide_eq_true (by omega)
 obtain ⟨W1, hW1⟩ : ∃ W1, W1 = w.alloc (.cells zeroA 27) := ⟨_, rfl⟩
 have HB1 : Aside0 (Below w.heap.size w W1) := ⟨by rw [hW1]; exact below_alloc (Below.refl _ _) _⟩
 have HR1 : Aside0 (W1.heap[w.heap.size]? = some (.cells zeroA 27 (0, 0))) := ⟨by rw [hW1]; exact heap_alloc_new w _⟩
 have HIC := Aside0.mk (in_new W1 3)
 have HN := Aside0.mk (new_calls 3 0 W1 rfl)
 have HW := Aside0.mk hW1
 have HSZ : Aside0 (W1.heap.size = w.heap.size + 1) := ⟨by rw [hW1]; simp⟩
 clear hs hW1
 go_enter Tryz.func9, Tryz.ntmps9
 go_wp2_with fail
 rw [← HW.out]
 refine HN.out.mono ?_
 rintro e w0 ⟨rfl, rfl⟩
 go_wp2_with fail
 refine HIC.out.mono ?_
 rintro e w2 ⟨g', rfl, hin, hfl, hb2⟩
 have HRES : Aside0 (w2.heap[w.heap.size]? = some (.cells zeroA 27 (0, 0))) := ⟨(hb2.block _ (blk_lt HR1.out)).trans HR1.out⟩
 have HBW : Aside0 (Below w.heap.size w w2) := ⟨HB1.out.trans (hb2.mono HB1.out.size)⟩
 have HIN := Aside0.mk hin
 have HG := Aside0.mk hfl
 have HLT : Aside0 (w.heap.size < W1.heap.size) := ⟨blk_lt HR1.out⟩
 have HGN : Aside0 (W1.heap.size ≠ w.heap.size) := ⟨Nat.ne_of_gt HLT.out⟩
 clear hin hfl hb2
 have hres := HRES.out
 have y0 : w2.cell? ⟨w.heap.size, 0, none⟩ = some (.int .u8 0) := by simp [World.cell?, hres]
 have f0 := blk_frozen hres 0
 have y1 : w2.cell? ⟨w.heap.size, 1, none⟩ = some (.int .i64 0) := by simp [World.cell?, hres]
 have f1 := blk_frozen hres 1
 have y2 : w2.cell? ⟨w.heap.size, 2, none⟩ = some (.int .i64 0) := by simp [World.cell?, hres]
 have f2 := blk_frozen hres 2
 have y3 : w2.cell? ⟨w.heap.size, 3, none⟩ = some (.int .i64 0) := by simp [World.cell?, hres]
 have f3 := blk_frozen hres 3
 have y4 : w2.cell? ⟨w.heap.size, 4, none⟩ = some (.int .i64 0) := by simp [World.cell?, hres]
 have f4 := blk_frozen hres 4
 have y5 : w2.cell? ⟨w.heap.size, 5, none⟩ = some (.int .i64 0) := by simp [World.cell?, hres]
 have f5 := blk_frozen hres 5
 have y6 : w2.cell? ⟨w.heap.size, 6, none⟩ = some (.slice none 0 0) := by simp [World.cell?, hres]
 have f6 := blk_frozen hres 6
 clear hres
 go_wp2
 refine bodyPost_ret (v := .tuple #[.agg zeroA, .iface 78 (.pointer (some ⟨g', 0, none⟩))]) (by simp [results, Tryz.results9, go_sem, y0, y1, y2, y3, y4, y5, y6]) rfl ?_
 refine ⟨g', _, rfl, ?_, (blk_far (blk_far (blk_far (blk_far (blk_far (blk_far (blk_far HG.out (p := ⟨w.heap.size, 0, none⟩) HGN.out (.int .u8 0)) (p := ⟨w.heap.size, 1, none⟩) HGN.out (.int .i64 0)) (p := ⟨w.heap.size, 2, none⟩) HGN.out (.int .i64 0)) (p := ⟨w.heap.size, 3, none⟩) HGN.out (.int .i64 0)) (p := ⟨w.heap.size, 4, none⟩) HGN.out (.int .i64 0)) (p := ⟨w.heap.size, 5, none⟩) HGN.out (.int .i64 0)) (p := ⟨w.heap.size, 6, none⟩) HGN.out (.slice none 0 0)), (((((((HBW.out.setCell (p := ⟨w.heap.size, 0, none⟩) (Nat.le_refl _) _).setCell (p := ⟨w.heap.size, 1, none⟩) (Nat.le_refl _) _).setCell (p := ⟨w.heap.size, 2, none⟩) (Nat.le_refl _) _).setCell (p := ⟨w.heap.size, 3, none⟩) (Nat.le_refl _) _).setCell (p := ⟨w.heap.size, 4, none⟩) (Nat.le_refl _) _).setCell (p := ⟨w.heap.size, 5, none⟩) (Nat.le_refl _) _).setCell (p := ⟨w.heap.size, 6, none⟩) (Nat.le_refl _) _)⟩
 have hI := (ins_set (ins_set (ins_set (ins_set (ins_set (ins_set (ins_set HIN.out (p := ⟨w.heap.size, 0, none⟩) HLT.out (.int .u8 0)) (p := ⟨w.heap.size, 1, none⟩) HLT.out (.int .i64 0)) (p := ⟨w.heap.size, 2, none⟩) HLT.out (.int .i64 0)) (p := ⟨w.heap.size, 3, none⟩) HLT.out (.int .i64 0)) (p := ⟨w.heap.size, 4, none⟩) HLT.out (.int .i64 0)) (p := ⟨w.heap.size, 5, none⟩) HLT.out (.int .i64 0)) (p := ⟨w.heap.size, 6, none⟩) HLT.out (.slice none 0 0))
 exact ⟨Nat.le_trans (Nat.le_of_lt HLT.out) hI.1, by obtain ⟨_, v, q1, q2⟩ := hI; exact ⟨v, q1, Kd.R_lower q2 (Nat.le_of_lt HLT.out)⟩⟩

set_option maxHeartbeats 4000000 in
theorem text_bad (w : World) (s cb : ByteArray) (no : Int) (hno : (no == 0) = false)
  (HCUT : ∀ W, Below w.heap.size w W → Calls Tryz.prog 29 #[.string s] W fun e w' => e = .returned (.tuple #[.string cb, .int .i64 no]) ∧ Below W.heap.size W w') :
  Calls Tryz.prog 11 #[.string s] w fun e w' => ReadPost w e w' (.error (no, 0)) := by
 obtain ⟨W0, hW0⟩ : ∃ W0, W0 = w.alloc (.cells zeroA 27) := ⟨_, rfl⟩
 have HB0 : Aside0 (Below w.heap.size w W0) := ⟨by rw [hW0]; exact below_alloc (Below.refl _ _) _⟩
 have HR0 : Aside0 (W0.heap[w.heap.size]? = some (.cells zeroA 27 (0, 0))) := ⟨by rw [hW0]; exact heap_alloc_new w _⟩
 have HC := Aside0.mk (HCUT W0 HB0.out)
 have HW0 := Aside0.mk hW0
 have hno2 : (no = 0) = False := eq_false (by simpa using hno)
 have HNO := Aside0.mk hno
 clear hW0 HCUT
 go_enter Tryz.func11, Tryz.ntmps11
 go_wp2_with fail
 rw [← HW0.out]
 with_reducible refine HC.out.mono ?_
 rintro e W1 ⟨rfl, hb1⟩
 have HB1 : Aside0 (Below w.heap.size w W1) := ⟨HB0.out.trans (hb1.mono HB0.out.size)⟩
 have HR1 : Aside0 (W1.heap[w.heap.size]? = some (.cells zeroA 27 (0, 0))) := ⟨(hb1.block _ (blk_lt HR0.out)).trans HR0.out⟩
 have HIC := Aside0.mk (in_new W1 no)
 have HN := Aside0.mk (new_calls no 0 W1 HNO.out)
 clear hb1
 go_wp2_with fail
 refine HN.out.mono ?_
 rintro e w0 ⟨rfl, rfl⟩
 go_wp2_with fail
 refine HIC.out.mono ?_
 rintro e w2 ⟨g', rfl, hin, hfl, hb2⟩
 have HRES : Aside0 (w2.heap[w.heap.size]? = some (.cells zeroA 27 (0, 0))) := ⟨(hb2.block _ (blk_lt HR1.out)).trans HR1.out⟩
 have HBW : Aside0 (Below w.heap.size w w2) := ⟨HB1.out.trans (hb2.mono HB1.out.size)⟩
 have HIN := Aside0.mk hin
 have HG := Aside0.mk hfl
 have HLT : Aside0 (w.heap.size < W1.heap.size) := ⟨blk_lt HR1.out⟩
 have HGN : Aside0 (W1.heap.size ≠ w.heap.size) := ⟨Nat.ne_of_gt HLT.out⟩
 clear hin hfl hb2
 have hres := HRES.out
 have y0 : w2.cell? ⟨w.heap.size, 0, none⟩ = some (.int .u8 0) := by simp [World.cell?, hres]
 have f0 := blk_frozen hres 0
 have y1 : w2.cell? ⟨w.heap.size, 1, none⟩ = some (.int .i64 0) := by simp [World.cell?, hres]
 have f1 := blk_frozen hres 1
 have y2 : w2.cell? ⟨w.heap.size, 2, none⟩ = some (.int .i64 0) := by simp [World.cell?, hres]
 have f2 := blk_frozen hres 2
 have y3 : w2.cell? ⟨w.heap.size, 3, none⟩ = some (.int .i64 0) := by simp [World.cell?, hres]
 have f3 := blk_frozen hres 3
 have y4 : w2.cell? ⟨w.heap.size, 4, none⟩ = some (.int .i64 0) := by simp [World.cell?, hres]
 have f4 := blk_frozen hres 4
 have y5 : w2.cell? ⟨w.heap.size, 5, none⟩ = some (.int .i64 0) := by simp [World.cell?, hres]
 have f5 := blk_frozen hres 5
 have y6 : w2.cell? ⟨w.heap.size, 6, none⟩ = some (.slice none 0 0) := by simp [World.cell?, hres]
 have f6 := blk_frozen hres 6
 clear hres
 go_wp2
 refine bodyPost_ret (v := .tuple #[.agg zeroA, .iface 78 (.pointer (some ⟨g', 0, none⟩))]) (by simp [results, Tryz.results11, go_sem, y0, y1, y2, y3, y4, y5, y6]) rfl ?_
 refine ⟨g', _, rfl, ?_, (blk_far (blk_far (blk_far (blk_far (blk_far (blk_far (blk_far HG.out (p := ⟨w.heap.size, 0, none⟩) HGN.out (.int .u8 0)) (p := ⟨w.heap.size, 1, none⟩) HGN.out (.int .i64 0)) (p := ⟨w.heap.size, 2, none⟩) HGN.out (.int .i64 0)) (p := ⟨w.heap.size, 3, none⟩) HGN.out (.int .i64 0)) (p := ⟨w.heap.size, 4, none⟩) HGN.out (.int .i64 0)) (p := ⟨w.heap.size, 5, none⟩) HGN.out (.int .i64 0)) (p := ⟨w.heap.size, 6, none⟩) HGN.out (.slice none 0 0)), (((((((HBW.out.setCell (p := ⟨w.heap.size, 0, none⟩) (Nat.le_refl _) _).setCell (p := ⟨w.heap.size, 1, none⟩) (Nat.le_refl _) _).setCell (p := ⟨w.heap.size, 2, none⟩) (Nat.le_refl _) _).setCell (p := ⟨w.heap.size, 3, none⟩) (Nat.le_refl _) _).setCell (p := ⟨w.heap.size, 4, none⟩) (Nat.le_refl _) _).setCell (p := ⟨w.heap.size, 5, none⟩) (Nat.le_refl _) _).setCell (p := ⟨w.heap.size, 6, none⟩) (Nat.le_refl _) _)⟩
 have hI := (ins_set (ins_set (ins_set (ins_set (ins_set (ins_set (ins_set HIN.out (p := ⟨w.heap.size, 0, none⟩) HLT.out (.int .u8 0)) (p := ⟨w.heap.size, 1, none⟩) HLT.out (.int .i64 0)) (p := ⟨w.heap.size, 2, none⟩) HLT.out (.int .i64 0)) (p := ⟨w.heap.size, 3, none⟩) HLT.out (.int .i64 0)) (p := ⟨w.heap.size, 4, none⟩) HLT.out (.int .i64 0)) (p := ⟨w.heap.size, 5, none⟩) HLT.out (.int .i64 0)) (p := ⟨w.heap.size, 6, none⟩) HLT.out (.slice none 0 0))
 exact ⟨Nat.le_trans (Nat.le_of_lt HLT.out) hI.1, by obtain ⟨_, v, q1, q2⟩ := hI; exact ⟨v, q1, Kd.R_lower q2 (Nat.le_of_lt HLT.out)⟩⟩

/-- What parse.Body and parse.Text answer with. -/
def bodyA (s : ByteArray) : Except (Int × Int) SC := if 65530 < s.size then .error (3, 0) else wholeA s 0
def textA (s : ByteArray) : Except (Int × Int) SC := if (cutR s).2 = 0 then wholeA (cutR s).1 5 else .error ((cutR s).2, 0)
theorem bodyA_calls (w : World) (s : ByteArray) (hE : NumE w) : Calls Tryz.prog 9 #[.string s] w fun e w' => ReadPost w e w' (bodyA s) := by
 unfold bodyA
 by_cases h : 65530 < s.size
 ·rw [if_pos h]
  exact body_long w s h
 ·rw [if_neg h]
  exact body_calls w s (by omega) _ (fun W hb hr => wholeA_calls W _ s 0 (by omega) (by decide) (hE.below hb) hr)
theorem cutR_size (s : ByteArray) : (cutR s).1.size ≤ 65530 := by
 unfold cutR
 split
 ·decide
 ·split
  ·decide
  ·split
   ·decide
   ·split
    ·decide
    ·split
     ·rw [ByteArray.size_extract]; omega
     ·decide
theorem textA_calls (w : World) (s : ByteArray) (hs : s.size ≤ 1000000) (hT : NumT w) (hE : NumE w) : Calls Tryz.prog 11 #[.string s] w fun e w' => ReadPost w e w' (textA s) := by
 have hc : ∀ W, Below w.heap.size w W → Calls Tryz.prog 29 #[.string s] W (OutC W (cutR s)) := fun W hb => cut_calls s hs W (hT.below hb) (hE.below hb)
 unfold textA
 have hz := cutR_size s
 obtain ⟨⟨cb, no⟩, hr⟩ : ∃ r, r = cutR s := ⟨_, rfl⟩
 rw [← hr] at hc hz ⊢
 by_cases h : no = 0
 ·subst h
  rw [if_pos rfl]
  exact text_ok w s cb _ hc (fun W b hb hl hrd => wholeA_calls W b cb 5 (by have : cb.size ≤ 65530 := hz; omega) (by decide) (hE.below hb) hrd)
 ·rw [if_neg h]
  exact text_bad w s cb no (by simpa using h) hc
end Go.Proofs.YtkobpbbegalfpaaGreatDoor
