/-
  The words' cutter: what its methods do to the state that they keep in memory.
-/
import Derived.Test.YtelmmcjlhjahcaaDoorMem
import Derived.Test.YtelmmcjlhjahcaaDoorWMore
import Derived.WalkSpells
import Derived.WalkLawsBesides
import Derived.Deep.RegionHeld3
import Derived.StillTailTactics
namespace Go.Proofs.YtelmmcjlhjahcaaDoor
open Go.RowKit Go.Proofs.YtelmmcjlhjahcaaDoorW.PrintWords Go.Proofs.YtelmmcjlhjahcaaDoorW.PrintLast Go.Proofs.YtelmmcjlhjahcaaDoorW.PrintMore
set_option linter.unusedVariables false
set_option maxRecDepth 100000
set_option linter.unusedSimpArgs false

/-- The state of a cutter. -/
structure CS where
  cmds : List (List ByteArray)
  words : List ByteArray
  word : List Int
  begun : Bool

/-- A block of a cutter at g, whose rows hold the state. -/
structure Cutter (w : World) (base g : Nat) (s : CS) (vC vW vB : Value) : Prop where
  hg : base ≤ g
  blk : w.heap[g]? = some (.cells #[vC, vW, vB, .bool s.begun] 96 (0, 0))
  rC : (Kd.slice 9 Kd.string).R 36 w base (fun k => some k ≠ vW.ownBlock) vC s.cmds
  rW : Kd.string.R 9 w base (fun _ => True) vW s.words
  rB : (Kd.int .u8).R 5 w base (fun _ => True) vB s.word

theorem info5 : (Tryd.prog.info? 5).map (fun i => (i.zero, i.size, i.bytes)) = some (some (.int .u8 0), 1, 1) := by kernel_rfl
theorem info9 : (Tryd.prog.info? 9).map (fun i => (i.zero, i.size, i.bytes)) = some (some (.string ByteArray.empty), 1, 16) := by kernel_rfl
theorem info36 : (Tryd.prog.info? 36).map (fun i => (i.zero, i.size, i.bytes)) = some (some (.slice none 0 0), 1, 24) := by kernel_rfl

set_option maxHeartbeats 1000000 in
theorem put_calls (w : World) (base g : Nat) (s : CS) (b : Int) (vC vW vB : Value) (hb0 : 0 ≤ b) (hb1 : b ≤ 255) (h : Cutter w base g s vC vW vB) (hl : s.word.length ≤ 100000) (hbase : base ≤ w.heap.size) :
    Calls Tryd.prog 45 #[.pointer (some ⟨g, 0, none⟩), .int .u8 b] w fun e w' => e = .returned (.tuple #[]) ∧ ∃ vB', Cutter w' base g { s with word := s.word ++ [b], begun := true } vC vW vB' ∧ Below base w w' := by
  obtain ⟨hg, blk, rC, rW, rB⟩ := h
  have c2 : w.cell? ⟨g, 2, none⟩ = some vB := by rw [blk_cell blk]; rfl
  have hgb := Kd.R_ne rB blk (by decide)
  have HX := Aside0.mk hgb; clear hgb
  have RB := Aside0.mk rB; clear rB
  have RW := Aside0.mk rW; clear rW
  have RC := Aside0.mk rC; clear rC
  have BLK := Aside0.mk blk; clear blk
  go_enter Tryd.func45, Tryd.ntmps45
  go_wp2_with (at_builtin; refine Kd.R_append (Kd.int .u8) (w0 := w) base rfl (.tmp 9) (.tmp 11) 44 5 (.int .u8 0) 1 rfl Tryd.underlying44 info5 rfl (by decide) (by decide) vB s.word b [.int .u8 b] (fun _ => True) (fun _ => False) rfl rfl rfl (fun _ h => h.elim) (fun _ _ => trivial) ?aO ?aB ?aS ?aL ?_)
  case aO => exact RB.out
  case aB => exact Below.refl _ _
  case aS => exact hbase
  case aL => omega
  intro v1 w1 ho hb hgr hat
  have blk1 := blk_grown BLK.out hgr HX.out
  have RC1 := Kd.R_over RC.out RB.out (by decide) hgr
  have RW1 := Kd.R_over RW.out RB.out (by decide) hgr
  have d2 : w1.cell? ⟨g, 2, none⟩ = some vB := by rw [blk_cell blk1]; rfl
  have d3 : w1.cell? ⟨g, 3, none⟩ = some (.bool s.begun) := by rw [blk_cell blk1]; rfl
  have e2 : w1.frozen? ⟨g, 2, none⟩ = false := blk_frozen blk1 2
  have e3 : w1.frozen? ⟨g, 3, none⟩ = false := blk_frozen blk1 3
  obtain ⟨A, n, c, rfl⟩ := sl_of_R ho
  have fin : Cutter ((w1.setCell ⟨g, 2, none⟩ (.slice A n c)).setCell ⟨g, 3, none⟩ (.bool true)) base g { s with word := s.word ++ [b], begun := true } vC vW (.slice A n c) := by
    have k1 := blk_set blk1 2 (.slice A n c)
    have k2 := blk_set k1 3 (.bool true)
    exact ⟨hg, k2, Kd.R_set (Kd.R_set RC1 blk1 (by decide) _ _) k1 (by decide) _ _, Kd.R_set (Kd.R_set RW1 blk1 (by decide) _ _) k1 (by decide) _ _, Kd.R_set (Kd.R_set ho blk1 (by decide) _ _) k1 (by decide) _ _⟩
  have finb : Below base w ((w1.setCell ⟨g, 2, none⟩ (.slice A n c)).setCell ⟨g, 3, none⟩ (.bool true)) := (hb.setCell hg _).setCell hg _
  have F1 := Aside0.mk fin
  have F2 := Aside0.mk finb
  clear fin finb ho hat hgr blk1 RC1 RW1 hb
  go_wp2
  go_end0
  exact ⟨rfl, _, F1.out, F2.out⟩

set_option maxHeartbeats 2000000 in
theorem end_calls (w : World) (base g : Nat) (s : CS) (vC vW vB : Value) (hbg : s.begun = true) (h : Cutter w base g s vC vW vB) (hl : s.word.length ≤ 100000) (hl2 : s.words.length ≤ 100000) (hbase : base ≤ w.heap.size) :
    Calls Tryd.prog 64 #[.pointer (some ⟨g, 0, none⟩)] w fun e w' => e = .returned (.tuple #[]) ∧ ∃ vW' vB', Cutter w' base g { s with words := s.words ++ [strOfNums s.word], word := [], begun := false } vC vW' vB' ∧ Below base w w' := by
  obtain ⟨hg, blk, rC, rW, rB⟩ := h
  rw [hbg] at blk
  have c1 : w.cell? ⟨g, 1, none⟩ = some vW := by rw [blk_cell blk]; rfl
  have c2 : w.cell? ⟨g, 2, none⟩ = some vB := by rw [blk_cell blk]; rfl
  have c3 : w.cell? ⟨g, 3, none⟩ = some (.bool true) := by rw [blk_cell blk]; rfl
  have HX := Aside0.mk (Kd.R_ne rW blk (by decide))
  have hcv : (convert 44 9 vB).run Tryd.prog w.drew = .ok (.string (strOfNums s.word)) w.drew := own_string Tryd.underlying44 Tryd.underlying5 Tryd.underlying9 (Kd.own_of_R (Kd.R_drew rB))
  have RB := Aside0.mk (Kd.R_drew rB); clear rB
  have RW := Aside0.mk (Kd.R_drew rW); clear rW
  have RC := Aside0.mk (Kd.R_drew rC); clear rC
  have BLK : Aside0 (w.drew.heap[g]? = _) := Aside0.mk blk; clear blk
  have HB0 : Aside0 (Below base w w.drew) := Aside0.mk (Below.refl _ _).drew
  have HS : base ≤ w.drew.heap.size := hbase
  clear hbg hbase
  go_enter Tryd.func64, Tryd.ntmps64
  go_wp2
  have c1 : w.drew.cell? ⟨g, 1, none⟩ = some vW := c1
  have c2 : w.drew.cell? ⟨g, 2, none⟩ = some vB := c2
  refine start_ (n := 15) (S := fun w' => w'.cell? ⟨g, 1, none⟩ = some vW ∧ w'.cell? ⟨g, 2, none⟩ = some vB ∧ (convert 44 9 vB).run Tryd.prog w' = .ok (.string (strOfNums s.word)) w') (ds := [11, 14]) #[false, false, false, false, false, false, false, false, false, false, false, false, false, false, false] (by kernel_rfl) rfl rfl ⟨c1, c2, hcv⟩ (fun hHeld => ?_)
  refine pure_ (i := 0) (N := some 6) (v := ?_) (a' := ?_) #[true, false, false, false, false, false, false, false, false, false, false, false, false, false, false] rfl rfl (by kernel_rfl) (fun _ _ _ h => h) (Or.inl ⟨by rfl, ?_⟩) ?_ ?_
  rotate_left
  · intro w'
    go_simp
    with_reducible rfl
  rotate_left
  · simp only [Act.put, List.setIfInBounds_toArray, List.set_cons_zero, List.set_cons_succ, i64_w, i32_w]
    rfl
  refine pure_ (i := 1) (N := some 7) (v := ?_) (a' := ?_) #[true, true, false, false, false, false, false, false, false, false, false, false, false, false, false] rfl rfl (by kernel_rfl) (fun _ _ _ h => h) (Or.inl ⟨by rfl, ?_⟩) ?_ ?_
  rotate_left
  · intro w'
    go_simp
    with_reducible rfl
  rotate_left
  · simp only [Act.put, List.setIfInBounds_toArray, List.set_cons_zero, List.set_cons_succ, i64_w, i32_w]
    rfl
  refine pure_ (i := 2) (N := some 8) (v := ?_) (a' := ?_) #[true, true, true, false, false, false, false, false, false, false, false, false, false, false, false] rfl rfl (by kernel_rfl) (fun _ _ _ h => h) (Or.inl ⟨by rfl, ?_⟩) ?_ ?_
  rotate_left
  · intro w'
    go_simp
    with_reducible rfl
  rotate_left
  · simp only [Act.put, List.setIfInBounds_toArray, List.set_cons_zero, List.set_cons_succ, i64_w, i32_w]
    rfl
  refine pure_ (i := 3) (N := some 9) (v := ?_) (a' := ?_) #[true, true, true, true, false, false, false, false, false, false, false, false, false, false, false] rfl rfl (by kernel_rfl) (fun _ _ _ h => h) (Or.inl ⟨by rfl, ?_⟩) ?_ ?_
  rotate_left
  · intro w'
    go_simp
    with_reducible rfl
  rotate_left
  · simp only [Act.put, List.setIfInBounds_toArray, List.set_cons_zero, List.set_cons_succ, i64_w, i32_w]
    rfl
  refine pure_ (i := 5) (N := some 11) (v := ?_) (a' := ?_) #[true, true, true, true, false, true, false, false, false, false, false, false, false, false, false] rfl rfl (by kernel_rfl) (fun _ _ _ h => h) (Or.inl ⟨by rfl, ?_⟩) ?_ ?_
  rotate_left
  · intro w'
    go_simp
    with_reducible rfl
  rotate_left
  · simp only [Act.put, List.setIfInBounds_toArray, List.set_cons_zero, List.set_cons_succ, i64_w, i32_w]
    rfl
  refine pure_ (i := 6) (N := some 12) (v := ?_) (a' := ?_) #[true, true, true, true, false, true, true, false, false, false, false, false, false, false, false] rfl rfl (by kernel_rfl) (fun _ _ _ h => h) (Or.inl ⟨by rfl, ?_⟩) ?_ ?_
  rotate_left
  · intro w'
    go_simp
    with_reducible rfl
  rotate_left
  · simp only [Act.put, List.setIfInBounds_toArray, List.set_cons_zero, List.set_cons_succ, i64_w, i32_w]
    rfl
  refine pure_ (i := 7) (N := some 13) (v := ?_) (a' := ?_) #[true, true, true, true, false, true, true, true, false, false, false, false, false, false, false] rfl rfl (by kernel_rfl) (fun _ _ _ h => h) (Or.inl ⟨by rfl, ?_⟩) ?_ ?_
  rotate_left
  · intro w'
    go_simp
    with_reducible rfl
  rotate_left
  · simp only [Act.put, List.setIfInBounds_toArray, List.set_cons_zero, List.set_cons_succ, i64_w, i32_w]
    rfl
  refine take_ (i := 4) (N := some 10) (v := ?_) (a' := ?_) #[true, true, true, true, true, true, true, true, false, false, false, false, false, false, false] rfl rfl (by kernel_rfl) (fun _ _ _ h => h) (Or.inl ⟨by rfl, ?_⟩) hHeld ?_ ?_
  rotate_left
  · rintro w' ⟨s0, s1, s2⟩
    go_simp
    with_reducible rfl
  rotate_left
  · simp only [Act.put, List.setIfInBounds_toArray, List.set_cons_zero, List.set_cons_succ, i64_w, i32_w]
    rfl
  refine take_ (i := 8) (N := some 14) (v := ?_) (a' := ?_) #[true, true, true, true, true, true, true, true, true, false, false, false, false, false, false] rfl rfl (by kernel_rfl) (fun _ _ _ h => h) (Or.inl ⟨by rfl, ?_⟩) hHeld ?_ ?_
  rotate_left
  · rintro w' ⟨s0, s1, s2⟩
    go_simp
    with_reducible rfl
  rotate_left
  · simp only [Act.put, List.setIfInBounds_toArray, List.set_cons_zero, List.set_cons_succ, i64_w, i32_w]
    rfl
  refine take_ (i := 9) (N := some 15) (v := ?_) (a' := ?_) #[true, true, true, true, true, true, true, true, true, true, false, false, false, false, false] rfl rfl (by kernel_rfl) (fun _ _ _ h => h) (Or.inl ⟨by rfl, ?_⟩) hHeld ?_ ?_
  rotate_left
  · rintro w' ⟨s0, s1, s2⟩
    go_simp
    with_reducible rfl
  rotate_left
  · simp only [Act.put, List.setIfInBounds_toArray, List.set_cons_zero, List.set_cons_succ, i64_w, i32_w]
    rfl
  refine one_ (i := 10) (N := some 16) #[true, true, true, true, true, true, true, true, true, true, true, false, false, false, false] rfl rfl (by kernel_rfl) (by decide) (fun K hK => ?_)
  refine value_ (w1 := ?_) (v := ?_) (by rfl) rfl ?_ ?_
  rotate_left 2
  · go_simp
    constructor
    · rfl
    · rfl
  refine hK.out _ _ ⟨(pw_cell_below (below_alloc (Below.refl _ _) _) c1), (pw_cell_below (below_alloc (Below.refl _ _) _) c2), (own_string Tryd.underlying44 Tryd.underlying5 Tryd.underlying9 (Kd.own_of_R (Kd.R_alloc RB.out _)))⟩ (fun hHeld => ?_)
  clear hK K
  refine norm_ (a' := ?_) ?_ ?_
  rotate_left
  · show Act.put _ (some 16) _ = _
    simp only [Act.put, List.setIfInBounds_toArray, List.set_cons_zero, List.set_cons_succ, i64_w, i32_w]
    rfl
  refine last_ (i := 11) (N := some 17) #[true, true, true, true, true, true, true, true, true, true, true, true, false, false, false] rfl rfl (by kernel_rfl) (by decide) (fun K hK => ?_)
  refine Kd.R_append_step Kd.string (w0 := w) base (by rfl) (.tmp 10) (.tmp 16) 36 9 (.string ByteArray.empty) 16 rfl Tryd.underlying36 info9 rfl (by decide) (by decide) vW s.words (strOfNums s.word) [.string (strOfNums s.word)] (fun _ => True) (fun _ => False) rfl rfl rfl (fun _ h => h.elim) (fun _ _ => trivial) RW.out HB0.out HS (by omega) ?_
  intro v1 w1 ho hb hgr hat
  have blk1 := blk_grown BLK.out hgr HX.out
  have RC1 := Kd.R_after (ok := fun _ => True) (Kd.R_mono RC.out (fun _ h => ⟨trivial, h⟩)) hgr hat
  have RB1 := Kd.R_over RB.out RW.out (by decide) hgr
  have d1 : w1.cell? ⟨g, 1, none⟩ = some vW := by rw [blk_cell blk1]; rfl
  have d2 : w1.cell? ⟨g, 2, none⟩ = some vB := by rw [blk_cell blk1]; rfl
  have d3 : w1.cell? ⟨g, 3, none⟩ = some (.bool true) := by rw [blk_cell blk1]; rfl
  have e1 : w1.frozen? ⟨g, 1, none⟩ = false := blk_frozen blk1 1
  have e2 : w1.frozen? ⟨g, 2, none⟩ = false := blk_frozen blk1 2
  have e3 : w1.frozen? ⟨g, 3, none⟩ = false := blk_frozen blk1 3
  obtain ⟨A, n, c, rfl⟩ := sl_of_R ho
  have k1 := blk_set blk1 1 (.slice A n c)
  have k2 := blk_set k1 2 (.slice none 0 0)
  have k3 := blk_set k2 3 (.bool false)
  have fin : Cutter (((w1.setCell ⟨g, 1, none⟩ (.slice A n c)).setCell ⟨g, 2, none⟩ (.slice none 0 0)).setCell ⟨g, 3, none⟩ (.bool false)) base g { s with words := s.words ++ [strOfNums s.word], word := [], begun := false } vC (.slice A n c) (.slice none 0 0) :=
    ⟨hg, k3, Kd.R_mono (Kd.R_set (Kd.R_set (Kd.R_set RC1 blk1 (by decide) _ _) k1 (by decide) _ _) k2 (by decide) _ _) (fun _ h => h.2), Kd.R_set (Kd.R_set (Kd.R_set ho blk1 (by decide) _ _) k1 (by decide) _ _) k2 (by decide) _ _, Kd.R_nil _ _ _ _ _⟩
  have F1 := Aside0.mk fin
  have F2 : Aside0 (Below base w (((w1.setCell ⟨g, 1, none⟩ (.slice A n c)).setCell ⟨g, 2, none⟩ (.slice none 0 0)).setCell ⟨g, 3, none⟩ (.bool false))) := ⟨((hb.setCell hg _).setCell hg _).setCell hg _⟩
  clear fin k1 k2 k3 ho hat hgr blk1 RC1 RB1 hb
  refine hK.out _ _ ?_
  clear hK K
  refine norm_ (a' := ?_) ?_ ?_
  rotate_left
  · show Act.put _ (some 17) _ = _
    simp only [Act.put, List.setIfInBounds_toArray, List.set_cons_zero, List.set_cons_succ, i64_w, i32_w]
    rfl
  refine pure_ (i := 12) (N := some 18) (v := ?_) (a' := ?_) #[true, true, true, true, true, true, true, true, true, true, true, true, true, false, false] rfl rfl (by kernel_rfl) (fun _ _ _ h => h) (Or.inl ⟨by rfl, ?_⟩) ?_ ?_
  rotate_left
  · intro w'
    go_simp
    with_reducible rfl
  rotate_left
  · simp only [Act.put, List.setIfInBounds_toArray, List.set_cons_zero, List.set_cons_succ, i64_w, i32_w]
    rfl
  refine pure_ (i := 13) (N := some 19) (v := ?_) (a' := ?_) #[true, true, true, true, true, true, true, true, true, true, true, true, true, true, false] rfl rfl (by kernel_rfl) (fun _ _ _ h => h) (Or.inl ⟨by rfl, ?_⟩) ?_ ?_
  rotate_left
  · intro w'
    go_simp
    with_reducible rfl
  rotate_left
  · simp only [Act.put, List.setIfInBounds_toArray, List.set_cons_zero, List.set_cons_succ, i64_w, i32_w]
    rfl
  refine last_ (i := 14) (N := none) #[true, true, true, true, true, true, true, true, true, true, true, true, true, true, true] rfl rfl (by kernel_rfl) (by decide) (fun K hK => ?_)
  refine skip_ (w1 := ?_) (by rfl) rfl ?_ ?_
  rotate_left
  · go_simp
    rfl
  refine hK.out _ _ ?_
  clear hK K
  refine done_ (by kernel_rfl) ?_
  go_wp2
  go_end0
  exact ⟨rfl, _, _, F1.out, F2.out⟩

set_option maxHeartbeats 2000000 in
theorem end_calls0 (w : World) (base g : Nat) (s : CS) (vC vW vB : Value) (hbg : s.begun = false) (h : Cutter w base g s vC vW vB) :
    Calls Tryd.prog 64 #[.pointer (some ⟨g, 0, none⟩)] w fun e w' => e = .returned (.tuple #[]) ∧ ∃ vW' vB', Cutter w' base g { s with word := [], begun := false } vC vW' vB' ∧ Below base w w' := by
  obtain ⟨hg, blk, rC, rW, rB⟩ := h
  rw [hbg] at blk
  have c1 : w.cell? ⟨g, 1, none⟩ = some vW := by rw [blk_cell blk]; rfl
  have c2 : w.cell? ⟨g, 2, none⟩ = some vB := by rw [blk_cell blk]; rfl
  have c3 : w.cell? ⟨g, 3, none⟩ = some (.bool false) := by rw [blk_cell blk]; rfl
  have e2 : w.frozen? ⟨g, 2, none⟩ = false := blk_frozen blk 2
  have e3 : w.frozen? ⟨g, 3, none⟩ = false := blk_frozen blk 3
  have k2 := blk_set blk 2 (.slice none 0 0)
  have k3 := blk_set k2 3 (.bool false)
  have F1 : Aside0 (Cutter ((w.setCell ⟨g, 2, none⟩ (.slice none 0 0)).setCell ⟨g, 3, none⟩ (.bool false)) base g { s with word := [], begun := false } vC vW (.slice none 0 0)) :=
    ⟨⟨hg, k3, Kd.R_set (Kd.R_set rC blk (by decide) _ _) k2 (by decide) _ _, Kd.R_set (Kd.R_set rW blk (by decide) _ _) k2 (by decide) _ _, Kd.R_nil _ _ _ _ _⟩⟩
  have F2 : Aside0 (Below base w ((w.setCell ⟨g, 2, none⟩ (.slice none 0 0)).setCell ⟨g, 3, none⟩ (.bool false))) := ⟨((Below.refl _ _).setCell hg _).setCell hg _⟩
  clear k2 k3 rC rW rB blk hbg
  go_enter Tryd.func64, Tryd.ntmps64
  go_wp2
  go_end0
  exact ⟨rfl, _, _, F1.out, F2.out⟩

def CS.endW (s : CS) : CS := { s with words := if s.begun then s.words ++ [strOfNums s.word] else s.words, word := [], begun := false }
def CS.putW (s : CS) (b : Int) : CS := { s with word := s.word ++ [b], begun := true }
def CS.flushW (s : CS) : CS := { s with cmds := if s.words = [] then s.cmds else s.cmds ++ [s.words], words := [] }
def CS.commandW (s : CS) : CS := s.endW.flushW
def CS.plainW (s : CS) (b : Int) : CS := if b = 59 then s.commandW else if b = 9 then s.endW else if b = 32 then s.endW else s.putW b

/-- A cutter at g; the bound of all its rows. -/
def CutAt (w : World) (base g n : Nat) (s : CS) : Prop := s.cmds.length ≤ n ∧ s.words.length ≤ n ∧ s.word.length ≤ n ∧ ∃ vC vW vB, Cutter w base g s vC vW vB

theorem CutAt.below {w w' : World} {base g n : Nat} {s : CS} (h : CutAt w base g n s) (hb : Below w.heap.size w w') : CutAt w' base g n s := by
  obtain ⟨h1, h2, h3, vC, vW, vB, c⟩ := h
  exact ⟨h1, h2, h3, vC, vW, vB, c.hg, (hb.block g (blk_lt c.blk)).trans c.blk, Kd.R_below c.rC hb, Kd.R_below c.rW hb, Kd.R_below c.rB hb⟩

theorem put_at (w : World) (base g n : Nat) (s : CS) (b : Int) (hb0 : 0 ≤ b) (hb1 : b ≤ 255) (h : CutAt w base g n s) (hn : n ≤ 100000) (hbase : base ≤ w.heap.size) :
    Calls Tryd.prog 45 #[.pointer (some ⟨g, 0, none⟩), .int .u8 b] w fun e w' => e = .returned (.tuple #[]) ∧ CutAt w' base g (n + 1) (s.putW b) ∧ Below base w w' := by
  obtain ⟨h1, h2, h3, vC, vW, vB, c⟩ := h
  refine (put_calls w base g s b vC vW vB hb0 hb1 c (by omega) hbase).mono ?_
  rintro e w' ⟨rfl, vB', c', hB⟩
  exact ⟨rfl, ⟨by show s.cmds.length ≤ _; omega, by show s.words.length ≤ _; omega, by show (s.word ++ [b]).length ≤ _; simp; omega, _, _, _, c'⟩, hB⟩

theorem end_at (w : World) (base g n : Nat) (s : CS) (h : CutAt w base g n s) (hn : n ≤ 100000) (hbase : base ≤ w.heap.size) :
    Calls Tryd.prog 64 #[.pointer (some ⟨g, 0, none⟩)] w fun e w' => e = .returned (.tuple #[]) ∧ CutAt w' base g (n + 1) s.endW ∧ Below base w w' := by
  obtain ⟨h1, h2, h3, vC, vW, vB, c⟩ := h
  cases hb : s.begun with
  | true =>
    refine (end_calls w base g s vC vW vB hb c (by omega) (by omega) hbase).mono ?_
    rintro e w' ⟨rfl, vW', vB', c', hB⟩
    have e1 : s.endW = { s with words := s.words ++ [strOfNums s.word], word := [], begun := false } := by simp [CS.endW, hb]
    rw [e1]
    exact ⟨rfl, ⟨by show s.cmds.length ≤ _; omega, by show (s.words ++ [strOfNums s.word]).length ≤ _; simp; omega, by simp, _, _, _, c'⟩, hB⟩
  | false =>
    refine (end_calls0 w base g s vC vW vB hb c).mono ?_
    rintro e w' ⟨rfl, vW', vB', c', hB⟩
    have e1 : s.endW = { s with word := [], begun := false } := by simp [CS.endW, hb]
    rw [e1]
    exact ⟨rfl, ⟨by show s.cmds.length ≤ _; omega, by show s.words.length ≤ _; omega, by simp, _, _, _, c'⟩, hB⟩

set_option maxHeartbeats 2000000 in
theorem command_calls (w0 : World) (base g n : Nat) (s0 : CS) (h0 : CutAt w0 base g n s0) (hn : n ≤ 90000) (hbase : base ≤ w0.heap.size) :
    Calls Tryd.prog 47 #[.pointer (some ⟨g, 0, none⟩)] w0 fun e w' => e = .returned (.tuple #[]) ∧ CutAt w' base g (n + 2) s0.commandW ∧ Below base w0 w' := by
  have HE := Aside0.mk (end_at w0 base g n s0 h0 (by omega) hbase)
  clear h0
  unfold CS.commandW
  generalize s0.endW = s at HE ⊢
  go_enter Tryd.func47, Tryd.ntmps47
  go_wp2_with fail
  refine HE.out.mono ?_
  rintro e w ⟨rfl, hc, hB⟩
  clear HE
  obtain ⟨h1, h2, h3, vC, vW, vB, c⟩ := hc
  obtain ⟨hg, blk, rC, rW, rB⟩ := c
  have hbase : base ≤ w.heap.size := Nat.le_trans hbase hB.size
  obtain ⟨A1, k1, rfl, hk1, _⟩ := Kd.R_reads rW
  obtain ⟨n1, hn1⟩ : ∃ n1, n1 = s.words.length := ⟨_, rfl⟩
  rw [← hn1] at blk rW rC
  have c0 : w.cell? ⟨g, 0, none⟩ = some vC := by rw [blk_cell blk]; rfl
  have c1 : w.cell? ⟨g, 1, none⟩ = some (.slice A1 n1 k1) := by rw [blk_cell blk]; rfl
  have HB := Aside0.mk hB; clear hB
  by_cases hz : s.words = []
  · have hn0 : n1 = 0 := by rw [hn1, hz]; rfl
    subst hn0
    have f1 : w.frozen? ⟨g, 1, none⟩ = false := blk_frozen blk 1
    have k2 := blk_set blk 1 (.slice none 0 0)
    have F1 : Aside0 (Cutter (w.setCell ⟨g, 1, none⟩ (.slice none 0 0)) base g s.flushW vC (.slice none 0 0) vB) :=
      ⟨⟨hg, k2, by unfold CS.flushW; rw [if_pos hz]; exact Kd.R_mono (Kd.R_set rC blk (by decide) _ _) (fun _ _ => by simp [Value.ownBlock]), Kd.R_nil _ _ _ _ _, Kd.R_set rB blk (by decide) _ _⟩⟩
    have F2 : Aside0 (Below base w0 (w.setCell ⟨g, 1, none⟩ (.slice none 0 0))) := ⟨HB.out.setCell hg _⟩
    have e1 : s.flushW.cmds.length ≤ n + 2 := by unfold CS.flushW; rw [if_pos hz]; show s.cmds.length ≤ _; omega
    have e2 : s.flushW.words.length ≤ n + 2 := by unfold CS.flushW; simp
    have e3 : s.flushW.word.length ≤ n + 2 := by unfold CS.flushW; show s.word.length ≤ _; omega
    have E := Aside0.mk (And.intro e1 (And.intro e2 e3))
    clear k2 rC rW rB blk e1 e2 e3 hn1 hz
    go_wp2
    go_end0
    exact ⟨rfl, ⟨E.out.1, E.out.2.1, E.out.2.2, _, _, _, F1.out⟩, F2.out⟩
  · have hn0 : 0 < n1 := by rw [hn1]; exact List.length_pos_iff.2 hz
    have HX := Aside0.mk (Kd.R_ne rC blk (by decide))
    have RW : Aside0 (Kd.string.R 9 w.drew base (fun k => some k ≠ vC.ownBlock) (.slice A1 n1 k1) s.words) := ⟨Kd.R_drew (Kd.R_mono (R_apart rW rC (by decide)) (fun _ h => h.2))⟩
    have RC : Aside0 ((Kd.slice 9 Kd.string).R 36 w.drew base (fun _ => True) vC s.cmds) := ⟨Kd.R_drew (Kd.R_mono rC (fun _ _ => trivial))⟩
    have RB := Aside0.mk (Kd.R_drew rB); clear rB
    have BLK : Aside0 (w.drew.heap[g]? = _) := Aside0.mk blk; clear blk
    have HB0 : Aside0 (Below base w w.drew) := Aside0.mk (Below.refl _ _).drew
    have HS : base ≤ w.drew.heap.size := hbase
    have E3 := Aside0.mk hn1
    have HZ := Aside0.mk hz
    clear hbase rC rW hn1 hz
    go_wp2
    have c0 : w.drew.cell? ⟨g, 0, none⟩ = some vC := c0
    have c1 : w.drew.cell? ⟨g, 1, none⟩ = some (.slice A1 n1 k1) := c1
    refine start_ (n := 14) (S := fun w' => w'.cell? ⟨g, 0, none⟩ = some vC ∧ w'.cell? ⟨g, 1, none⟩ = some (.slice A1 n1 k1)) (ds := [10, 13]) #[false, false, false, false, false, false, false, false, false, false, false, false, false, false] (by kernel_rfl) rfl rfl ⟨c0, c1⟩ (fun hHeld => ?_)
    refine pure_ (i := 0) (N := some 10) (v := ?_) (a' := ?_) #[true, false, false, false, false, false, false, false, false, false, false, false, false, false] rfl rfl (by kernel_rfl) (fun _ _ _ h => h) (Or.inl ⟨by rfl, ?_⟩) ?_ ?_
    rotate_left
    · intro w'
      go_simp
      with_reducible rfl
    rotate_left
    · simp only [Act.put, List.setIfInBounds_toArray, List.set_cons_zero, List.set_cons_succ, i64_w, i32_w]
      rfl
    refine pure_ (i := 1) (N := some 11) (v := ?_) (a' := ?_) #[true, true, false, false, false, false, false, false, false, false, false, false, false, false] rfl rfl (by kernel_rfl) (fun _ _ _ h => h) (Or.inl ⟨by rfl, ?_⟩) ?_ ?_
    rotate_left
    · intro w'
      go_simp
      with_reducible rfl
    rotate_left
    · simp only [Act.put, List.setIfInBounds_toArray, List.set_cons_zero, List.set_cons_succ, i64_w, i32_w]
      rfl
    refine pure_ (i := 2) (N := some 12) (v := ?_) (a' := ?_) #[true, true, true, false, false, false, false, false, false, false, false, false, false, false] rfl rfl (by kernel_rfl) (fun _ _ _ h => h) (Or.inl ⟨by rfl, ?_⟩) ?_ ?_
    rotate_left
    · intro w'
      go_simp
      with_reducible rfl
    rotate_left
    · simp only [Act.put, List.setIfInBounds_toArray, List.set_cons_zero, List.set_cons_succ, i64_w, i32_w]
      rfl
    refine pure_ (i := 3) (N := some 13) (v := ?_) (a' := ?_) #[true, true, true, true, false, false, false, false, false, false, false, false, false, false] rfl rfl (by kernel_rfl) (fun _ _ _ h => h) (Or.inl ⟨by rfl, ?_⟩) ?_ ?_
    rotate_left
    · intro w'
      go_simp
      with_reducible rfl
    rotate_left
    · simp only [Act.put, List.setIfInBounds_toArray, List.set_cons_zero, List.set_cons_succ, i64_w, i32_w]
      rfl
    refine pure_ (i := 5) (N := some 15) (v := ?_) (a' := ?_) #[true, true, true, true, false, true, false, false, false, false, false, false, false, false] rfl rfl (by kernel_rfl) (fun _ _ _ h => h) (Or.inl ⟨by rfl, ?_⟩) ?_ ?_
    rotate_left
    · intro w'
      go_simp
      with_reducible rfl
    rotate_left
    · simp only [Act.put, List.setIfInBounds_toArray, List.set_cons_zero, List.set_cons_succ, i64_w, i32_w]
      rfl
    refine pure_ (i := 6) (N := some 16) (v := ?_) (a' := ?_) #[true, true, true, true, false, true, true, false, false, false, false, false, false, false] rfl rfl (by kernel_rfl) (fun _ _ _ h => h) (Or.inl ⟨by rfl, ?_⟩) ?_ ?_
    rotate_left
    · intro w'
      go_simp
      with_reducible rfl
    rotate_left
    · simp only [Act.put, List.setIfInBounds_toArray, List.set_cons_zero, List.set_cons_succ, i64_w, i32_w]
      rfl
    refine pure_ (i := 7) (N := some 17) (v := ?_) (a' := ?_) #[true, true, true, true, false, true, true, true, false, false, false, false, false, false] rfl rfl (by kernel_rfl) (fun _ _ _ h => h) (Or.inl ⟨by rfl, ?_⟩) ?_ ?_
    rotate_left
    · intro w'
      go_simp
      with_reducible rfl
    rotate_left
    · simp only [Act.put, List.setIfInBounds_toArray, List.set_cons_zero, List.set_cons_succ, i64_w, i32_w]
      rfl
    refine take_ (i := 4) (N := some 14) (v := ?_) (a' := ?_) #[true, true, true, true, true, true, true, true, false, false, false, false, false, false] rfl rfl (by kernel_rfl) (fun _ _ _ h => h) (Or.inl ⟨by rfl, ?_⟩) hHeld ?_ ?_
    rotate_left
    · rintro w' ⟨s0, s1⟩
      go_simp
      with_reducible rfl
    rotate_left
    · simp only [Act.put, List.setIfInBounds_toArray, List.set_cons_zero, List.set_cons_succ, i64_w, i32_w]
      rfl
    refine take_ (i := 8) (N := some 18) (v := ?_) (a' := ?_) #[true, true, true, true, true, true, true, true, true, false, false, false, false, false] rfl rfl (by kernel_rfl) (fun _ _ _ h => h) (Or.inl ⟨by rfl, ?_⟩) hHeld ?_ ?_
    rotate_left
    · rintro w' ⟨s0, s1⟩
      go_simp
      with_reducible rfl
    rotate_left
    · simp only [Act.put, List.setIfInBounds_toArray, List.set_cons_zero, List.set_cons_succ, i64_w, i32_w]
      rfl
    refine one_ (i := 9) (N := some 19) #[true, true, true, true, true, true, true, true, true, true, false, false, false, false] rfl rfl (by kernel_rfl) (by decide) (fun K hK => ?_)
    refine value_ (w1 := ?_) (v := ?_) (by rfl) rfl ?_ ?_
    rotate_left 2
    · go_simp
      constructor
      · rfl
      · rfl
    refine hK.out _ _ ⟨(pw_cell_below (below_alloc (Below.refl _ _) _) c0), (pw_cell_below (below_alloc (Below.refl _ _) _) c1)⟩ (fun hHeld => ?_)
    clear hK K
    refine norm_ (a' := ?_) ?_ ?_
    rotate_left
    · show Act.put _ (some 19) _ = _
      simp only [Act.put, List.setIfInBounds_toArray, List.set_cons_zero, List.set_cons_succ, i64_w, i32_w]
      rfl
    refine last_ (i := 10) (N := some 20) #[true, true, true, true, true, true, true, true, true, true, true, false, false, false] rfl rfl (by kernel_rfl) (by decide) (fun K hK => ?_)
    refine Kd.R_append_step (Kd.slice 9 Kd.string) (w0 := w) base (by rfl) (.tmp 14) (.tmp 19) 22 36 (.slice none 0 0) 24 rfl Tryd.underlying22 info36 rfl (by decide) (by decide) vC s.cmds s.words [.slice A1 n1 k1] (fun _ => True) (fun k => some k ≠ vC.ownBlock) rfl rfl (Kd.M_row RW.out) (fun _ h => ⟨trivial, h⟩) (fun _ _ => trivial) RC.out HB0.out HS (by omega) ?_
    intro v1 w1 ho hb hgr hat
    have blk1 := blk_grown BLK.out hgr HX.out
    have RB1 := Kd.R_over RB.out RC.out (by decide) hgr
    have d0 : w1.cell? ⟨g, 0, none⟩ = some vC := by rw [blk_cell blk1]; rfl
    have d1 : w1.cell? ⟨g, 1, none⟩ = some (.slice A1 n1 k1) := by rw [blk_cell blk1]; rfl
    have e0 : w1.frozen? ⟨g, 0, none⟩ = false := blk_frozen blk1 0
    have e1 : w1.frozen? ⟨g, 1, none⟩ = false := blk_frozen blk1 1
    obtain ⟨A, m, c, rfl⟩ := sl_of_R ho
    have k1 := blk_set blk1 0 (.slice A m c)
    have k2 := blk_set k1 1 (.slice none 0 0)
    have F1 : Aside0 (Cutter ((w1.setCell ⟨g, 0, none⟩ (.slice A m c)).setCell ⟨g, 1, none⟩ (.slice none 0 0)) base g s.flushW (.slice A m c) (.slice none 0 0) vB) :=
      ⟨⟨hg, k2, by unfold CS.flushW; rw [if_neg HZ.out]; exact Kd.R_mono (Kd.R_set (Kd.R_set ho blk1 (by decide) _ _) k1 (by decide) _ _) (fun _ _ => by simp [Value.ownBlock]), Kd.R_nil _ _ _ _ _, Kd.R_set (Kd.R_set RB1 blk1 (by decide) _ _) k1 (by decide) _ _⟩⟩
    have F2 : Aside0 (Below base w0 ((w1.setCell ⟨g, 0, none⟩ (.slice A m c)).setCell ⟨g, 1, none⟩ (.slice none 0 0))) := ⟨HB.out.trans ((hb.setCell hg _).setCell hg _)⟩
    have q1 : s.flushW.cmds.length ≤ n + 2 := by unfold CS.flushW; rw [if_neg HZ.out]; simp; omega
    have q2 : s.flushW.words.length ≤ n + 2 := by unfold CS.flushW; simp
    have q3 : s.flushW.word.length ≤ n + 2 := by unfold CS.flushW; show s.word.length ≤ _; omega
    have E := Aside0.mk (And.intro q1 (And.intro q2 q3))
    clear k1 k2 ho hat hgr blk1 RB1 hb q1 q2 q3
    refine hK.out _ _ ?_
    clear hK K
    refine norm_ (a' := ?_) ?_ ?_
    rotate_left
    · show Act.put _ (some 20) _ = _
      simp only [Act.put, List.setIfInBounds_toArray, List.set_cons_zero, List.set_cons_succ, i64_w, i32_w]
      rfl
    refine pure_ (i := 11) (N := some 21) (v := ?_) (a' := ?_) #[true, true, true, true, true, true, true, true, true, true, true, true, false, false] rfl rfl (by kernel_rfl) (fun _ _ _ h => h) (Or.inl ⟨by rfl, ?_⟩) ?_ ?_
    rotate_left
    · intro w'
      go_simp
      with_reducible rfl
    rotate_left
    · simp only [Act.put, List.setIfInBounds_toArray, List.set_cons_zero, List.set_cons_succ, i64_w, i32_w]
      rfl
    refine pure_ (i := 12) (N := some 22) (v := ?_) (a' := ?_) #[true, true, true, true, true, true, true, true, true, true, true, true, true, false] rfl rfl (by kernel_rfl) (fun _ _ _ h => h) (Or.inl ⟨by rfl, ?_⟩) ?_ ?_
    rotate_left
    · intro w'
      go_simp
      with_reducible rfl
    rotate_left
    · simp only [Act.put, List.setIfInBounds_toArray, List.set_cons_zero, List.set_cons_succ, i64_w, i32_w]
      rfl
    refine last_ (i := 13) (N := none) #[true, true, true, true, true, true, true, true, true, true, true, true, true, true] rfl rfl (by kernel_rfl) (by decide) (fun K hK => ?_)
    refine skip_ (w1 := ?_) (by rfl) rfl ?_ ?_
    rotate_left
    · go_simp
      rfl
    refine hK.out _ _ ?_
    clear hK K
    refine done_ (by kernel_rfl) ?_
    go_wp2
    go_end0
    exact ⟨rfl, ⟨E.out.1, E.out.2.1, E.out.2.2, _, _, _, F1.out⟩, F2.out⟩

set_option maxHeartbeats 2000000 in
theorem plain_calls (w : World) (base g n : Nat) (s : CS) (b : Int) (hb0 : 0 ≤ b) (hb1 : b ≤ 255) (h : CutAt w base g n s) (hn : n ≤ 90000) (hbase : base ≤ w.heap.size) :
    Calls Tryd.prog 46 #[.pointer (some ⟨g, 0, none⟩), .int .u8 b] w fun e w' => e = .returned (.tuple #[]) ∧ CutAt w' base g (n + 2) (s.plainW b) ∧ Below base w w' := by
  have up : ∀ {w' : World} {t : CS}, CutAt w' base g (n + 1) t → CutAt w' base g (n + 2) t := fun ⟨a, b, c, d⟩ => ⟨by omega, by omega, by omega, d⟩
  have U := Aside0.mk @up
  clear up
  have H := Aside0.mk h
  clear h
  by_cases h1 : b = 59
  · subst h1
    have e1 : s.plainW 59 = s.commandW := rfl
    rw [e1]
    clear e1
    go_enter Tryd.func46, Tryd.ntmps46
    go_wp2_with (go_at_call 47; refine (command_calls w base g n s H.out hn hbase).mono ?_; rintro e w' ⟨rfl, hq⟩)
    go_end0
    exact ⟨rfl, hq⟩
  by_cases h2 : b = 9
  · subst h2
    have e1 : s.plainW 9 = s.endW := rfl
    rw [e1]
    clear e1 h1
    go_enter Tryd.func46, Tryd.ntmps46
    go_wp2_with (go_at_call 64; refine (end_at w base g n s H.out (by omega) hbase).mono ?_; rintro e w' ⟨rfl, hq⟩)
    go_end0
    exact ⟨rfl, U.out hq.1, hq.2⟩
  by_cases h3 : b = 32
  · subst h3
    have e1 : s.plainW 32 = s.endW := rfl
    rw [e1]
    clear e1 h1 h2
    go_enter Tryd.func46, Tryd.ntmps46
    go_wp2_with (go_at_call 64; refine (end_at w base g n s H.out (by omega) hbase).mono ?_; rintro e w' ⟨rfl, hq⟩)
    go_end0
    exact ⟨rfl, U.out hq.1, hq.2⟩
  · have e1 : s.plainW b = s.putW b := by unfold CS.plainW; rw [if_neg h1, if_neg h2, if_neg h3]
    rw [e1]
    clear e1
    have g1 : (b == 59) = false := beq_eq_false_iff_ne.2 h1
    have g2 : (b == 9) = false := beq_eq_false_iff_ne.2 h2
    have g3 : (b == 32) = false := beq_eq_false_iff_ne.2 h3
    clear h1 h2 h3
    go_enter Tryd.func46, Tryd.ntmps46
    go_wp2_with (go_at_call 45; refine (put_at w base g n s b hb0 hb1 H.out (by omega) hbase).mono ?_; rintro e w' ⟨rfl, hq⟩)
    go_end0
    exact ⟨rfl, U.out hq.1, hq.2⟩
end Go.Proofs.YtelmmcjlhjahcaaDoor
