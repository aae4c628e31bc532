/-
 tile.walker: it goes through a tree that may be, and keeps its lines.
-/
import Derived.Test.YtkobpbbegalfpaaGreatDoorTiLines
import Derived.Test.YtkobpbbegalfpaaGreatDoorTiMay2
namespace Go.Proofs.YtkobpbbegalfpaaGreatDoor
open Go.RowKit Go.Proofs.YtkobpbbegalfpaaGreatDoorW.PrintWords Go.Proofs.YtkobpbbegalfpaaGreatDoorW.PrintLast Go.Proofs.YtkobpbbegalfpaaGreatDoorW.PrintMore Go.Proofs.YtkobpbbegalfpaaGreatDoor.PParseBodies
set_option linter.unusedVariables false
set_option linter.unusedSimpArgs false
set_option maxRecDepth 100000

theorem enters119 : ∀ args w, (callFunc 119 args).run Tryz.prog w = .ok (.enter 119 args) w := enters_of Tryz.func119 (by kernel_rfl) rfl
theorem rect_KM {W : World} {B : Nat} {ok : Nat → Prop} (x : SR) (cs : List Value) (h : (k24).K W x cs) : (k24).M W B ok x cs := by
 obtain rfl := k24_open h
 exact k24_mkM W B ok x
theorem linesS_len {c : SC} {l : List SR} (h : linesS c = some l) : l.length ≤ c.f3.length := by
 unfold linesS at h
 by_cases hk : c.f0 = 1
 ·rw [if_pos hk] at h; injection h with h; subst h; simp
 ·rw [if_neg hk] at h
  by_cases hc : cutGood c.f1 (c.f0 - 1) (sizesOf c) = true ∧ c.f3.map (·.f1) = cutParts c.f1 (c.f0 - 1) true 0 (sizesOf c)
  ·rw [if_pos hc] at h; injection h with h; subst h
   rw [cutLines_len, if_pos rfl]
   simp [sizesOf]
  ·rw [if_neg hc] at h; cases h

/-- The walker at g: how many cells, the lines. -/
def WalkInv (B N g : Nat) (w : World) (st : Nat × List SR) (u : Nat) : Prop :=
 (st.1 ≤ u ∧ st.2.length ≤ u * 100000 ∧ B ≤ g ∧ g < N) ∧ ∃ v, w.heap[g]? = some (.cells #[.int .i64 (st.1 : Int), v] 169 (0, 0)) ∧ (k24).R 24 w B (fun _ => True) v st.2
theorem WalkInv.stable (B N g : Nat) : Stable (WalkInv B N g) :=
 ⟨fun w w' st u h hb => ⟨h.1, by obtain ⟨v, h1, h2⟩ := h.2; exact ⟨v, (hb.block g (blk_lt h1)).trans h1, Kd.R_below h2 hb⟩⟩,
 fun w st u u' h hu => ⟨⟨by have := h.1.1; omega, Nat.le_trans h.1.2.1 (Nat.mul_le_mul_right 100000 hu), h.1.2.2⟩, h.2⟩⟩
/-- .. and the box of the pointer to it. -/
def WithBox {σ : Type} (Inv : World → σ → Nat → Prop) (p g : Nat) (w : World) (st : σ) (u : Nat) : Prop := Inv w st u ∧ w.heap[p]? = some (.cells #[.pointer (some ⟨g, 0, none⟩)] 167 (0, 0))
theorem WithBox.stable {σ : Type} {Inv : World → σ → Nat → Prop} (h : Stable Inv) (p g : Nat) : Stable (WithBox Inv p g) :=
 ⟨fun w w' st u hi hb => ⟨h.below _ _ _ _ hi.1 hb, (hb.block p (blk_lt hi.2)).trans hi.2⟩, fun w st u u' hi hu => ⟨h.mono _ _ _ _ hi.1 hu, hi.2⟩⟩

/-- A cell that may be, and has not too many kids. -/
def NodeC (c : SC) : Prop := nodeOk c = true ∧ rectOk c.f1 = true ∧ c.f3.length ≤ 100000
def WalkOk (B N M g : Nat) (c : SC) : Prop :=
 ∀ (w : World) (st : Nat × List SR) (u : Nat) (A : Option Addr) (cap : Nat), WalkInv B N g w st u → u + (cells c).length ≤ M → N ≤ w.heap.size → c.f3.length ≤ cap → Tr B w A c.f3.length c.f3 →
  Calls Tryz.prog 101 #[.pointer (some ⟨g, 0, none⟩), .agg #[.int .u8 c.f0, .int .i64 c.f1.f0, .int .i64 c.f1.f1, .int .i64 c.f1.f2, .int .i64 c.f1.f3, .int .i64 c.f2, .slice A c.f3.length cap]] w
   fun e w' => e = .returned (.bool (visitL walkStep st (cells c)).1) ∧ WalkInv B N g w' (visitL walkStep st (cells c)).2 (u + (cells c).length) ∧ Mid B N w w'

theorem walk1_calls (B N M g p : Nat) (k : SC) (hBN : B ≤ N) (hp : N ≤ p) (hA : WalkOk B N M g k)
  (w : World) (st : Nat × List SR) (u : Nat) (A : Option Addr) (cap : Nat) (hi : WithBox (WalkInv B N g) p g w st u) (hu : u + (cells k).length ≤ M) (hN : N ≤ w.heap.size) (hc : k.f3.length ≤ cap) (hT : Tr B w A k.f3.length k.f3) :
  Calls Tryz.prog 119 #[.agg #[.int .u8 k.f0, .int .i64 k.f1.f0, .int .i64 k.f1.f1, .int .i64 k.f1.f2, .int .i64 k.f1.f3, .int .i64 k.f2, .slice A k.f3.length cap], .pointer (some ⟨p, 0, none⟩)] w
   fun e w' => e = .returned (.bool (notV walkStep st k).1) ∧ WithBox (WalkInv B N g) p g w' (notV walkStep st k).2 (u + (cells k).length) ∧ Mid B N w w' := by
 obtain ⟨h1, hheap⟩ := hi
 have hcell : w.cell? ⟨p, 0, none⟩ = some (.pointer (some ⟨g, 0, none⟩)) := by rw [blk_cell hheap]; rfl
 have HH := Aside0.mk hheap
 clear hheap
 obtain ⟨w1, hw1⟩ : ∃ w1, w1 = w.alloc (.cells #[.int .u8 k.f0, .int .i64 k.f1.f0, .int .i64 k.f1.f1, .int .i64 k.f1.f2, .int .i64 k.f1.f3, .int .i64 k.f2, .slice A k.f3.length cap] 27) := ⟨_, rfl⟩
 have hb : Below w.heap.size w w1 := by rw [hw1]; exact below_alloc (Below.refl _ _) _
 have hbB : Below B w w1 := by rw [hw1]; exact (Below.refl _ _).alloc (by omega) _
 have HC := Aside0.mk (hA w1 st u A cap ((WalkInv.stable B N g).below _ _ _ _ h1 hb) hu (by have := hb.size; omega) hc (hT.below hbB))
 have HB := Aside0.mk hb
 have HP := Aside0.mk hp
 rw [hw1] at HC
 have hlt := World.block_lt_of_cell? w _ hcell
 have HW := Aside0.mk hw1
 generalize hv : visitL walkStep st (cells k) = r at HC
 have HV := Aside0.mk hv
 clear hw1 h1 hA hu hT hb hbB hv hp
 go_enter Tryz.func119, Tryz.ntmps119
 go_wp2_with fail
 with_reducible refine HC.out.mono ?_
 rintro e w2 ⟨rfl, h2⟩
 have H2 := Aside0.mk h2
 clear h2
 go_wp2
 go_ret
 have hm := H2.out.2
 rw [← HW.out] at hm
 refine ⟨by simp [notV, HV.out], ⟨by simp only [notV, HV.out]; exact H2.out.1, ?_⟩, ?_⟩
 ·exact hm.blk ((HB.out.block p (blk_lt HH.out)).trans HH.out) HP.out (by decide)
 ·exact (Mid.ofBelow HB.out).trans hm

set_option maxHeartbeats 8000000 in
theorem walk_calls (B N M g : Nat) (hBN : B ≤ N) (hM : M ≤ 10000) (c : SC) (hG : ∀ x ∈ cells c, NodeC x) : WalkOk B N M g c := by
 revert hG
 refine cell_ind (P := fun c => (∀ x ∈ cells c, NodeC x) → WalkOk B N M g c) (fun c ih hG => ?_) c
 have hkids : ∀ k ∈ c.f3, WalkOk B N M g k := fun k hk => ih k hk (fun x hx => hG x (cells_kid hk x hx))
 obtain ⟨hn, hrk, hl1⟩ := hG c (cells_self c)
 clear ih hG
 intro w st u A cap hi hu hN hc hT
 obtain ⟨n, ls⟩ := st
 have hcl : (cells c).length = 1 + (cellsL c.f3).length := by rw [cells_eq]; simp; omega
 obtain ⟨p, hpdef⟩ : ∃ p, p = w.heap.size := ⟨_, rfl⟩
 obtain ⟨w1, hw1⟩ : ∃ w1, w1 = (w.alloc (.cells #[.pointer (some ⟨g, 0, none⟩)] 167)).alloc (.cells #[.int .u8 c.f0, .int .i64 c.f1.f0, .int .i64 c.f1.f1, .int .i64 c.f1.f2, .int .i64 c.f1.f3, .int .i64 c.f2, .slice A c.f3.length cap] 27) := ⟨_, rfl⟩
 have hb : Below w.heap.size w w1 := by rw [hw1]; exact below_alloc (below_alloc (Below.refl _ _) _) _
 have hsz : w1.heap.size = p + 2 := by rw [hw1, hpdef]; simp
 have hT1 : Tr B w1 A c.f3.length c.f3 := hT.below (((Mid.ofBelow hb : Mid B N w w1)).toB (by omega))
 have hp1 : w1.heap[p]? = some (.cells #[.pointer (some ⟨g, 0, none⟩)] 167 (0, 0)) := by
  rw [hw1, hpdef, Below.heap_alloc _ _ _ (by simp)]; exact heap_alloc_new w _
 have hc1 : w1.heap[p + 1]? = some (.cells #[.int .u8 c.f0, .int .i64 c.f1.f0, .int .i64 c.f1.f1, .int .i64 c.f1.f2, .int .i64 c.f1.f3, .int .i64 c.f2, .slice A c.f3.length cap] 27 (0, 0)) := by
  rw [hw1, hpdef]
  have h := heap_alloc_new (w.alloc (.cells #[.pointer (some ⟨g, 0, none⟩)] 167)) (.cells #[.int .u8 c.f0, .int .i64 c.f1.f0, .int .i64 c.f1.f1, .int .i64 c.f1.f2, .int .i64 c.f1.f3, .int .i64 c.f2, .slice A c.f3.length cap] 27)
  simpa using h
 have HC := lines_calls c A cap w1 hn hrk hl1 hc (hT1.mono (by omega))
 have hi1 := (WalkInv.stable B N g).below _ _ _ _ hi hb
 have hvis := visit_self walkStep (n, ls) c
 rw [hw1] at HC
 have HC := Aside0.mk HC
 have HW := Aside0.mk hw1
 have HB := Aside0.mk hb
 have HP1 := Aside0.mk hp1
 have HC1 := Aside0.mk hc1
 have HT := Aside0.mk hT1
 have HK := Aside0.mk hkids
 have HI := Aside0.mk hi1
 have HCL := Aside0.mk hcl
 have HT0 := Aside0.mk hT
 have HSZ := Aside0.mk hsz
 have HU := Aside0.mk hu
 have HP : Aside0 (N ≤ p) := ⟨by omega⟩
 have HPW := Aside0.mk hpdef
 have HVIS := Aside0.mk hvis
 generalize visitL walkStep (n, ls) (cells c) = r at *
 clear hw1 hb hp1 hc1 hT1 hkids hT hi hi1 hcl hsz hvis hn hrk hpdef
 go_enter Tryz.func101, Tryz.ntmps101
 go_wp2_with fail
 refine HC.out.mono ?_
 rintro e w2 ⟨v, rows, rfl, hR, hrow, hb2⟩
 rw [← HW.out] at hR hb2
 obtain ⟨A1, n1, c1, rfl⟩ := sl_of_R hR
 have hI2 := (WalkInv.stable B N g).below _ _ _ _ HI.out hb2
 have HM2 : Aside0 (Mid B N w w2) := ⟨(Mid.ofBelow HB.out).below hb2⟩
 have HB2 := Aside0.mk hb2
 rw [← HPW.out]
 cases hls : linesS c with
 | none =>
  have e : r = (false, (n, ls)) := by rw [HVIS.out, walkStep_none hls]; rfl
  have E := Aside0.mk e
  have HI2 := Aside0.mk hI2
  clear e hR hrow hI2 hb2 hls HC
  go_wp2
  go_ret
  refine ⟨by rw [E.out]; rfl, by rw [E.out]; exact (WalkInv.stable B N g).mono _ _ _ _ HI2.out (by omega), HM2.out⟩
 | some l =>
  obtain rfl := hrow l hls
  have hll := linesS_len hls
  have e : r = visitL walkStep (n + 1, ls ++ rows) (cellsL c.f3) := by rw [HVIS.out, walkStep_some hls]; simp
  have E := Aside0.mk e
  obtain ⟨⟨i1, i2, i3, i4⟩, vL, bg, RL0⟩ := hI2
  simp only at i1 i2 bg RL0
  obtain ⟨AL, nL, cL, rfl⟩ := sl_of_R RL0
  have cg0 : w2.cell? ⟨g, 0, none⟩ = some (.int .i64 (n : Int)) := by rw [blk_cell bg]; rfl
  have fg0 : w2.frozen? ⟨g, 0, none⟩ = false := blk_frozen bg 0
  have cp0 : w2.cell? ⟨p, 0, none⟩ = some (.pointer (some ⟨g, 0, none⟩)) := by rw [blk_cell ((hb2.block p (by have := HSZ.out; omega)).trans HP1.out)]; rfl
  obtain ⟨hn1, _, hC1⟩ := Kd.R_reads' hR
  subst hn1
  have hn1' : rows.length ≤ 100000 := by omega
  have BG3 : Aside0 ((w2.setCell ⟨g, 0, none⟩ (.int .i64 ((n : Int) + 1))).drew.heap[g]? = some (.cells #[.int .i64 ((n + 1 : Nat) : Int), .slice AL nL cL] 169 (0, 0))) := ⟨blk_set bg 0 (.int .i64 ((n : Int) + 1))⟩
  have hpg : p ≠ g := by have := HP.out; omega
  have hpg1 : p + 1 ≠ g := by have := HP.out; omega
  have BP3 : Aside0 ((w2.setCell ⟨g, 0, none⟩ (.int .i64 ((n : Int) + 1))).drew.heap[p]? = some (.cells #[.pointer (some ⟨g, 0, none⟩)] 167 (0, 0))) := ⟨((Below.heap_setCell w2 ⟨g, 0, none⟩ _ p hpg).trans ((hb2.block p (by have := HSZ.out; omega)).trans HP1.out) :)⟩
  have BC3 : Aside0 ((w2.setCell ⟨g, 0, none⟩ (.int .i64 ((n : Int) + 1))).drew.heap[p + 1]? = some (.cells #[.int .u8 c.f0, .int .i64 c.f1.f0, .int .i64 c.f1.f1, .int .i64 c.f1.f2, .int .i64 c.f1.f3, .int .i64 c.f2, .slice A c.f3.length cap] 27 (0, 0))) := ⟨((Below.heap_setCell w2 ⟨g, 0, none⟩ _ (p + 1) hpg1).trans ((hb2.block (p + 1) (by have := HSZ.out; omega)).trans HC1.out) :)⟩
  have RL : Aside0 ((k24).R 24 (w2.setCell ⟨g, 0, none⟩ (.int .i64 ((n : Int) + 1))).drew B (fun _ => True) (.slice AL nL cL) ls) := ⟨Kd.R_drew (Kd.R_set RL0 bg (by decide) _ _)⟩
  have RR : Aside0 ((k24).C (w2.setCell ⟨g, 0, none⟩ (.int .i64 ((n : Int) + 1))).drew A1 rows.length rows) := ⟨by
   have h := (Kd.R_reads' (Kd.R_drew (Kd.R_set hR bg (by decide) 0 (.int .i64 ((n : Int) + 1))))).2.2
   exact h⟩
  have HXG : Aside0 (some g ≠ (Value.slice AL nL cL).ownBlock) := ⟨Kd.R_ne RL.out BG3.out (by decide)⟩
  have HXP : Aside0 (some p ≠ (Value.slice AL nL cL).ownBlock) := ⟨Kd.R_ne RL.out BP3.out (by decide)⟩
  have HXC : Aside0 (some (p + 1) ≠ (Value.slice AL nL cL).ownBlock) := ⟨Kd.R_ne RL.out BC3.out (by decide)⟩
  have HB3 : Aside0 (Below B (w2.setCell ⟨g, 0, none⟩ (.int .i64 ((n : Int) + 1))).drew (w2.setCell ⟨g, 0, none⟩ (.int .i64 ((n : Int) + 1))).drew) := ⟨Below.refl _ _⟩
  have hs3 : (w2.setCell ⟨g, 0, none⟩ (.int .i64 ((n : Int) + 1))).drew.heap.size = w2.heap.size := by show (w2.setCell _ _).heap.size = _; simp [World.setCell]
  have HS3 : B ≤ (w2.setCell ⟨g, 0, none⟩ (.int .i64 ((n : Int) + 1))).drew.heap.size := by rw [hs3]; have := HM2.out.size; omega
  have HM3 : Aside0 (Mid B N w (w2.setCell ⟨g, 0, none⟩ (.int .i64 ((n : Int) + 1)))) := ⟨HM2.out.setCell ⟨i3, i4⟩ _⟩
  have HQ : Aside0 (B ≤ g ∧ g < N) := ⟨⟨i3, i4⟩⟩
  clear e hR hrow hls HC hb2 bg RL0 hC1 i3 i4 hs3
  go_wp2
  generalize w2.setCell ⟨g, 0, none⟩ (.int .i64 ((n : Int) + 1)) = w3 at *
  have cp : w3.drew.cell? ⟨p, 0, none⟩ = some (.pointer (some ⟨g, 0, none⟩)) := by rw [blk_cell BP3.out]; rfl
  have cg : w3.drew.cell? ⟨g, 1, none⟩ = some (.slice AL nL cL) := by rw [blk_cell BG3.out]; rfl
  refine start_ (n := 10) (S := fun w' => w'.cell? ⟨p, 0, none⟩ = some (.pointer (some ⟨g, 0, none⟩)) ∧ w'.cell? ⟨g, 1, none⟩ = some (.slice AL nL cL)) (ds := [9]) #[false, false, false, false, false, false, false, false, false, false] (by kernel_rfl) rfl rfl ⟨cp, cg⟩ (fun hHeld => ?_)
  refine pure_ (i := 5) (N := some 26) (v := ?_) (a' := ?_) #[false, false, false, false, false, true, false, false, false, false] rfl rfl (by kernel_rfl) (fun _ _ _ h => h) (Or.inl ⟨by rfl, ?_⟩) ?_ ?_
  rotate_left
  ·intro w'
   go_simp
   with_reducible rfl
  rotate_left
  ·simp only [Act.put, List.setIfInBounds_toArray, List.set_cons_zero, List.set_cons_succ, i64_w, i32_w]
   rfl
  refine take_ (i := 0) (N := some 21) (v := ?_) (a' := ?_) #[true, false, false, false, false, true, false, false, false, false] rfl rfl (by kernel_rfl) (fun _ _ _ h => h) (Or.inl ⟨by rfl, ?_⟩) hHeld ?_ ?_
  rotate_left
  ·rintro w' ⟨s0, s1⟩
   go_simp
   with_reducible rfl
  rotate_left
  ·simp only [Act.put, List.setIfInBounds_toArray, List.set_cons_zero, List.set_cons_succ, i64_w, i32_w]
   rfl
  refine take_ (i := 1) (N := some 22) (v := ?_) (a' := ?_) #[true, true, false, false, false, true, false, false, false, false] rfl rfl (by kernel_rfl) (fun _ _ _ h => h) (Or.inl ⟨by rfl, ?_⟩) hHeld ?_ ?_
  rotate_left
  ·rintro w' ⟨s0, s1⟩
   go_simp
   with_reducible rfl
  rotate_left
  ·simp only [Act.put, List.setIfInBounds_toArray, List.set_cons_zero, List.set_cons_succ, i64_w, i32_w]
   rfl
  refine pure_ (i := 2) (N := some 23) (v := ?_) (a' := ?_) #[true, true, true, false, false, true, false, false, false, false] rfl rfl (by kernel_rfl) (fun _ _ _ h => h) (Or.inl ⟨by rfl, ?_⟩) ?_ ?_
  rotate_left
  ·intro w'
   go_simp
   with_reducible rfl
  rotate_left
  ·simp only [Act.put, List.setIfInBounds_toArray, List.set_cons_zero, List.set_cons_succ, i64_w, i32_w]
   rfl
  refine pure_ (i := 3) (N := some 24) (v := ?_) (a' := ?_) #[true, true, true, true, false, true, false, false, false, false] rfl rfl (by kernel_rfl) (fun _ _ _ h => h) (Or.inl ⟨by rfl, ?_⟩) ?_ ?_
  rotate_left
  ·intro w'
   go_simp
   with_reducible rfl
  rotate_left
  ·simp only [Act.put, List.setIfInBounds_toArray, List.set_cons_zero, List.set_cons_succ, i64_w, i32_w]
   rfl
  refine take_ (i := 4) (N := some 25) (v := ?_) (a' := ?_) #[true, true, true, true, true, true, false, false, false, false] rfl rfl (by kernel_rfl) (fun _ _ _ h => h) (Or.inl ⟨by rfl, ?_⟩) hHeld ?_ ?_
  rotate_left
  ·rintro w' ⟨s0, s1⟩
   go_simp
   with_reducible rfl
  rotate_left
  ·simp only [Act.put, List.setIfInBounds_toArray, List.set_cons_zero, List.set_cons_succ, i64_w, i32_w]
   rfl
  refine one_ (i := 6) (N := some 27) #[true, true, true, true, true, true, true, false, false, false] rfl rfl (by kernel_rfl) (by decide) (fun K hK => ?_)
  refine Kd.R_append_rows_step k24 (w0 := w3.drew) B (by rfl) (.tmp 25) (.tmp 26) 73 24 (.agg #[.int .i64 0, .int .i64 0, .int .i64 0, .int .i64 0]) 32 rfl Tryz.underlying73 info24 rfl (by decide) (by decide) (.slice AL nL cL) ls rows A1 rows.length c1 (fun _ => True) (fun _ => False) rfl rfl RL.out RR.out rect_KM (fun _ h => h.elim) (fun _ _ => trivial) HB3.out HS3 (by omega) ?_
  intro v1 w4 ho hb hgr hat
  have BG4 := Aside0.mk (blk_grown BG3.out hgr HXG.out)
  have BP4 := Aside0.mk (blk_grown BP3.out hgr HXP.out)
  have BC4 := Aside0.mk (blk_grown BC3.out hgr HXC.out)
  have D1 : Aside0 (w4.cell? ⟨p, 0, none⟩ = some (.pointer (some ⟨g, 0, none⟩))) := ⟨by rw [blk_cell BP4.out]; rfl⟩
  have D2 : Aside0 (w4.cell? ⟨g, 1, none⟩ = some (.slice AL nL cL)) := ⟨by rw [blk_cell BG4.out]; rfl⟩
  have f1 : w4.frozen? ⟨g, 1, none⟩ = false := blk_frozen BG4.out 1
  obtain ⟨A4, n4, c4, rfl⟩ := sl_of_R ho
  have k1 := blk_set BG4.out 1 (.slice A4 n4 c4)
  have hm4 : Mid B N w3 w4 := (Mid.ofBelow (below_drew (Below.refl _ _))).trans (Mid.grownR hgr (fun k hk => ⟨Kd.R_base RL.out k hk, Kd.R_typed RL.out k hk⟩))
  have hm5 : Mid B N w (w4.setCell ⟨g, 1, none⟩ (.slice A4 n4 c4)) := (HM3.out.trans hm4).setCell HQ.out _
  have hi5 : WalkInv B N g (w4.setCell ⟨g, 1, none⟩ (.slice A4 n4 c4)) (n + 1, ls ++ rows) (u + 1) :=
   ⟨⟨by show n + 1 ≤ u + 1; omega, by show (ls ++ rows).length ≤ _; rw [List.length_append]; omega, HQ.out⟩, _, k1, Kd.R_set ho BG4.out (by decide) _ _⟩
  have hp5 : (w4.setCell ⟨g, 1, none⟩ (.slice A4 n4 c4)).heap[p]? = some (.cells #[.pointer (some ⟨g, 0, none⟩)] 167 (0, 0)) := (Below.heap_setCell w4 ⟨g, 1, none⟩ _ p (by intro h; have := HQ.out; have := HP.out; simp at h; omega)).trans BP4.out
  have hc5 := (Below.heap_setCell w4 ⟨g, 1, none⟩ (.slice A4 n4 c4) (p + 1) (by intro h; have := HQ.out; have := HP.out; simp at h; omega)).trans BC4.out
  have g6 : (w4.setCell ⟨g, 1, none⟩ (.slice A4 n4 c4)).cell? ⟨p + 1, 6, none⟩ = some (.slice A c.f3.length cap) := by rw [blk_cell hc5]; rfl
  have HF := Aside0.mk (And.intro hi5 (And.intro hp5 hm5))
  clear hi5 hp5 hc5 hm5 hm4 k1 ho hb hgr hat
  refine hK.out _ _ ⟨D1.out, D2.out⟩ (fun hHeld => ?_)
  clear hK K
  refine norm_ (a' := ?_) ?_ ?_
  rotate_left
  ·show Act.put _ (some 27) _ = _
   simp only [Act.put, List.setIfInBounds_toArray, List.set_cons_zero, List.set_cons_succ, i64_w, i32_w]
   rfl
  refine pure_ (i := 7) (N := some 28) (v := ?_) (a' := ?_) #[true, true, true, true, true, true, true, true, false, false] rfl rfl (by kernel_rfl) (fun _ _ _ h => h) (Or.inl ⟨by rfl, ?_⟩) ?_ ?_
  rotate_left
  ·intro w'
   go_simp
   with_reducible rfl
  rotate_left
  ·simp only [Act.put, List.setIfInBounds_toArray, List.set_cons_zero, List.set_cons_succ, i64_w, i32_w]
   rfl
  refine pure_ (i := 8) (N := some 29) (v := ?_) (a' := ?_) #[true, true, true, true, true, true, true, true, true, false] rfl rfl (by kernel_rfl) (fun _ _ _ h => h) (Or.inl ⟨by rfl, ?_⟩) ?_ ?_
  rotate_left
  ·intro w'
   go_simp
   with_reducible rfl
  rotate_left
  ·simp only [Act.put, List.setIfInBounds_toArray, List.set_cons_zero, List.set_cons_succ, i64_w, i32_w]
   rfl
  refine last_ (i := 9) (N := none) #[true, true, true, true, true, true, true, true, true, true] rfl rfl (by kernel_rfl) (by decide) (fun K hK => ?_)
  refine skip_ (w1 := ?_) (by rfl) rfl ?_ ?_
  rotate_left
  ·go_simp
   rfl
  refine hK.out _ _ ?_
  clear hK K
  refine done_ (by kernel_rfl) ?_
  have hT5 : Tr B (w4.setCell ⟨g, 1, none⟩ (.slice A4 n4 c4)) A c.f3.length c.f3 := HT0.out.below (HF.out.2.2.toB (by omega))
  have hsz5 := HF.out.2.2.size
  have HN := cfn_calls B N M 119 #[.pointer (some ⟨p, 0, none⟩)] enters119 (WithBox (WalkInv B N g) p g) (WithBox.stable (WalkInv.stable B N g) p g) (fun k => (cells k).length) (notV walkStep) A c.f3.length cap c.f3 (w4.setCell ⟨g, 1, none⟩ (.slice A4 n4 c4)) (n + 1, ls ++ rows) (u + 1) hBN (by omega)
   (fun k hk w st u A cap h1 h2 h3 h4 h5 => walk1_calls B N M g p k hBN HP.out (HK.out k hk) w st u A cap h1 h2 h3 h4 h5) hT5 ⟨HF.out.1, HF.out.2.1⟩ (by rw [wts_cells]; have := HU.out; have := HCL.out; omega)
  rw [any_visit, wts_cells, ← E.out] at HN
  have HN := Aside0.mk HN
  clear hT5 hsz5
  go_wp2_with fail
  refine HN.out.mono ?_
  rintro e w6 ⟨rfl, h6⟩
  have H6 := Aside0.mk h6
  clear h6
  go_wp2
  go_ret
  refine ⟨by simp, by rw [HCL.out]; have := H6.out.1.1; rwa [Nat.add_assoc] at this, HF.out.2.2.trans H6.out.2⟩
end Go.Proofs.YtkobpbbegalfpaaGreatDoor
