/-
  Joined texts: TiWalk, TiTop, TiTop2, PsTop.
-/
import Derived.Test.YtkobpbbegalfpaaGreatDoorPsBase
import Derived.Test.YtkobpbbegalfpaaGreatDoorTiMay2
import Derived.Test.YtkobpbbegalfpaaGreatDoorPsWhole2
import Derived.Test.YtkobpbbegalfpaaGreatDoorSuPutP
import Derived.Test.YtkobpbbegalfpaaGreatDoorPParseBodiesx2
namespace Go.Proofs.YtkobpbbegalfpaaGreatDoor
open Go.RowKit YtkobpbbegalfpaaGreatDoorW.PrintWords YtkobpbbegalfpaaGreatDoorW.PrintLast YtkobpbbegalfpaaGreatDoorW.PrintMore PParseBodies
set_option linter.unusedVariables false
set_option linter.unusedSimpArgs false
set_option maxRecDepth 100000
theorem enters119 : ∀ args w, (callFunc 119 args).run Tryz.prog w = .ok (.enter 119 args) w := enters_of Tryz.func119 (by kernel_rfl) rfl
theorem rect_KM {W : World} {B : Nat} {ok : Nat → Prop} (x : SR) (cs : List Value) (h : (k24).K W x cs) : (k24).M W B ok x cs := by
 obtain rfl := k24_open h
 exact k24_mkM W B ok x
theorem linesS_len {c : SC} {l : List SR} (h : linesS c = some l) : l.length ≤ c.f3.length := by
 unfold linesS at h
 by_cases hk : c.f0 = 1
 ·rw [if_pos hk] at h; injection h with h; subst h; simp
 ·rw [if_neg hk] at h
  by_cases hc : cutGood c.f1 (c.f0 - 1) (sizesOf c) = true ∧ c.f3.map (·.f1) = cutParts c.f1 (c.f0 - 1) true 0 (sizesOf c)
  ·rw [if_pos hc] at h; injection h with h; subst h
   rw [cutLines_len, if_pos rfl]
   simp [sizesOf]
  ·rw [if_neg hc] at h; cases h
def WalkInv (B N g : Nat) (w : World) (st : Nat × List SR) (u : Nat) : Prop :=
 (st.1 ≤ u ∧ st.2.length ≤ u * 100000 ∧ B ≤ g ∧ g < N) ∧ ∃ v, w.heap[g]? = some (.cells #[.int .i64 (st.1 : Int), v] 169 (0, 0)) ∧ (k24).R 24 w B (fun _ => True) v st.2
theorem WalkInv.stable (B N g : Nat) : Stable (WalkInv B N g) :=
 ⟨fun w w' st u h hb => ⟨h.1, by obtain ⟨v, h1, h2⟩ := h.2; exact ⟨v, (hb.block g (blk_lt h1)).trans h1, Kd.R_below h2 hb⟩⟩,
 fun w st u u' h hu => ⟨⟨by have := h.1.1; omega, Nat.le_trans h.1.2.1 (Nat.mul_le_mul_right 100000 hu), h.1.2.2⟩, h.2⟩⟩
def WithBox {σ : Type} (Inv : World → σ → Nat → Prop) (p g : Nat) (w : World) (st : σ) (u : Nat) : Prop := Inv w st u ∧ w.heap[p]? = some (.cells #[.pointer (some ⟨g, 0, none⟩)] 167 (0, 0))
theorem WithBox.stable {σ : Type} {Inv : World → σ → Nat → Prop} (h : Stable Inv) (p g : Nat) : Stable (WithBox Inv p g) :=
 ⟨fun w w' st u hi hb => ⟨h.below _ _ _ _ hi.1 hb, (hb.block p (blk_lt hi.2)).trans hi.2⟩, fun w st u u' hi hu => ⟨h.mono _ _ _ _ hi.1 hu, hi.2⟩⟩
def NodeC (c : SC) : Prop := nodeOk c = true ∧ rectOk c.f1 = true ∧ c.f3.length ≤ 100000
def WalkOk (B N M g : Nat) (c : SC) : Prop :=
 ∀ (w : World) (st : Nat × List SR) (u : Nat) (A : Option Addr) (cap : Nat), WalkInv B N g w st u → u + (cells c).length ≤ M → N ≤ w.heap.size → c.f3.length ≤ cap → Tr B w A c.f3.length c.f3 →
  Calls Tryz.prog 101 #[.pointer (some ⟨g, 0, none⟩), .agg #[.int .u8 c.f0, .int .i64 c.f1.f0, .int .i64 c.f1.f1, .int .i64 c.f1.f2, .int .i64 c.f1.f3, .int .i64 c.f2, .slice A c.f3.length cap]] w
   fun e w' => e = .returned (.bool (visitL walkStep st (cells c)).1) ∧ WalkInv B N g w' (visitL walkStep st (cells c)).2 (u + (cells c).length) ∧ Mid B N w w'
theorem walk1_calls (B N M g p : Nat) (k : SC) (hBN : B ≤ N) (hp : N ≤ p) (hA : WalkOk B N M g k)
  (w : World) (st : Nat × List SR) (u : Nat) (A : Option Addr) (cap : Nat) (hi : WithBox (WalkInv B N g) p g w st u) (hu : u + (cells k).length ≤ M) (hN : N ≤ w.heap.size) (hc : k.f3.length ≤ cap) (hT : Tr B w A k.f3.length k.f3) :
  Calls Tryz.prog 119 #[.agg #[.int .u8 k.f0, .int .i64 k.f1.f0, .int .i64 k.f1.f1, .int .i64 k.f1.f2, .int .i64 k.f1.f3, .int .i64 k.f2, .slice A k.f3.length cap], .pointer (some ⟨p, 0, none⟩)] w
   fun e w' => e = .returned (.bool (notV walkStep st k).1) ∧ WithBox (WalkInv B N g) p g w' (notV walkStep st k).2 (u + (cells k).length) ∧ Mid B N w w' := by
 obtain ⟨h1, hheap⟩ := hi
 have hcell : w.cell? ⟨p, 0, none⟩ = some (.pointer (some ⟨g, 0, none⟩)) := by rw [blk_cell hheap]; rfl
 have HH := ak hheap
 clear hheap
 obtain ⟨w1, hw1⟩ : ∃ w1, w1 = w.alloc (.cells #[.int .u8 k.f0, .int .i64 k.f1.f0, .int .i64 k.f1.f1, .int .i64 k.f1.f2, .int .i64 k.f1.f3, .int .i64 k.f2, .slice A k.f3.length cap] 27) := ⟨_, rfl⟩
 have hb : Below w.heap.size w w1 := by rw [hw1]; exact below_alloc (Below.refl _ _) _
 have hbB : Below B w w1 := by rw [hw1]; exact (Below.refl _ _).alloc (by omega) _
 have HC := ak (hA w1 st u A cap ((WalkInv.stable B N g).below _ _ _ _ h1 hb) hu (by have := hb.size; omega) hc (hT.below hbB))
 have HB := ak hb
 have HP := ak hp
 rw [hw1] at HC
 have hlt := World.block_lt_of_cell? w _ hcell
 have HW := ak hw1
 generalize hv : visitL walkStep st (cells k) = r at HC
 have HV := ak hv
 clear hw1 h1 hA hu hT hb hbB hv hp
 go_enter Tryz.func119, Tryz.ntmps119
 go_wp2_with fail
 with_reducible refine HC.out.mono ?_
 rintro e w2 ⟨rfl, h2⟩
 have H2 := ak h2
 clear h2
 go_wp2
 go_ret
 have hm := H2.out.2
 rw [← HW.out] at hm
 refine ⟨by simp [notV, HV.out], ⟨by simp only [notV, HV.out]; exact H2.out.1, ?_⟩, ?_⟩
 ·exact hm.blk ((HB.out.block p (blk_lt HH.out)).trans HH.out) HP.out (by decide)
 ·exact (Mid.ofBelow HB.out).trans hm
set_option maxHeartbeats 8000000 in
theorem walk_calls (B N M g : Nat) (hBN : B ≤ N) (hM : M ≤ 10000) (c : SC) (hG : ∀ x ∈ cells c, NodeC x) : WalkOk B N M g c := by
 revert hG
 refine cell_ind (P := fun c => (∀ x ∈ cells c, NodeC x) → WalkOk B N M g c) (fun c ih hG => ?_) c
 have hkids : ∀ k ∈ c.f3, WalkOk B N M g k := fun k hk => ih k hk (fun x hx => hG x (cells_kid hk x hx))
 obtain ⟨hn, hrk, hl1⟩ := hG c (cells_self c)
 clear ih hG
 intro w st u A cap hi hu hN hc hT
 obtain ⟨n, ls⟩ := st
 have hcl : (cells c).length = 1 + (cellsL c.f3).length := by rw [cells_eq]; simp; omega
 obtain ⟨p, hpdef⟩ : ∃ p, p = w.heap.size := ⟨_, rfl⟩
 obtain ⟨w1, hw1⟩ : ∃ w1, w1 = (w.alloc (.cells #[.pointer (some ⟨g, 0, none⟩)] 167)).alloc (.cells #[.int .u8 c.f0, .int .i64 c.f1.f0, .int .i64 c.f1.f1, .int .i64 c.f1.f2, .int .i64 c.f1.f3, .int .i64 c.f2, .slice A c.f3.length cap] 27) := ⟨_, rfl⟩
 have hb : Below w.heap.size w w1 := by rw [hw1]; exact below_alloc (below_alloc (Below.refl _ _) _) _
 have hsz : w1.heap.size = p + 2 := by rw [hw1, hpdef]; simp
 have hT1 : Tr B w1 A c.f3.length c.f3 := hT.below (((Mid.ofBelow hb : Mid B N w w1)).toB (by omega))
 have hp1 : w1.heap[p]? = some (.cells #[.pointer (some ⟨g, 0, none⟩)] 167 (0, 0)) := by
  rw [hw1, hpdef, Below.heap_alloc _ _ _ (by simp)]; exact heap_alloc_new w _
 have hc1 : w1.heap[p + 1]? = some (.cells #[.int .u8 c.f0, .int .i64 c.f1.f0, .int .i64 c.f1.f1, .int .i64 c.f1.f2, .int .i64 c.f1.f3, .int .i64 c.f2, .slice A c.f3.length cap] 27 (0, 0)) := by
  rw [hw1, hpdef]
  have h := heap_alloc_new (w.alloc (.cells #[.pointer (some ⟨g, 0, none⟩)] 167)) (.cells #[.int .u8 c.f0, .int .i64 c.f1.f0, .int .i64 c.f1.f1, .int .i64 c.f1.f2, .int .i64 c.f1.f3, .int .i64 c.f2, .slice A c.f3.length cap] 27)
  simpa using h
 have HC := lines_calls c A cap w1 hn hrk hl1 hc (hT1.mono (by omega))
 have hi1 := (WalkInv.stable B N g).below _ _ _ _ hi hb
 have hvis := visit_self walkStep (n, ls) c
 rw [hw1] at HC
 have HC := ak HC
 have HW := ak hw1
 have HB := ak hb
 have HP1 := ak hp1
 have HC1 := ak hc1
 have HT := ak hT1
 have HK := ak hkids
 have HI := ak hi1
 have HCL := ak hcl
 have HT0 := ak hT
 have HSZ := ak hsz
 have HU := ak hu
 have HP : Aside0 (N ≤ p) := ⟨by omega⟩
 have HPW := ak hpdef
 have HVIS := ak hvis
 generalize visitL walkStep (n, ls) (cells c) = r at *
 clear hw1 hb hp1 hc1 hT1 hkids hT hi hi1 hcl hsz hvis hn hrk hpdef
 go_enter Tryz.func101, Tryz.ntmps101
 go_wp2_with fail
 refine HC.out.mono ?_
 rintro e w2 ⟨v, rows, rfl, hR, hrow, hb2⟩
 rw [← HW.out] at hR hb2
 obtain ⟨A1, n1, c1, rfl⟩ := sl_of_R hR
 have hI2 := (WalkInv.stable B N g).below _ _ _ _ HI.out hb2
 have HM2 : Aside0 (Mid B N w w2) := ⟨(Mid.ofBelow HB.out).below hb2⟩
 have HB2 := ak hb2
 rw [← HPW.out]
 cases hls : linesS c with
 | none =>
  have e : r = (false, (n, ls)) := by rw [HVIS.out, walkStep_none hls]; rfl
  have E := ak e
  have HI2 := ak hI2
  clear e hR hrow hI2 hb2 hls HC
  go_wp2
  go_ret
  refine ⟨by rw [E.out]; rfl, by rw [E.out]; exact (WalkInv.stable B N g).mono _ _ _ _ HI2.out (by omega), HM2.out⟩
 | some l =>
  obtain rfl := hrow l hls
  have hll := linesS_len hls
  have e : r = visitL walkStep (n + 1, ls ++ rows) (cellsL c.f3) := by rw [HVIS.out, walkStep_some hls]; simp
  have E := ak e
  obtain ⟨⟨i1, i2, i3, i4⟩, vL, bg, RL0⟩ := hI2
  simp only at i1 i2 bg RL0
  obtain ⟨AL, nL, cL, rfl⟩ := sl_of_R RL0
  have cg0 : w2.cell? ⟨g, 0, none⟩ = some (.int .i64 (n : Int)) := by rw [blk_cell bg]; rfl
  have fg0 : w2.frozen? ⟨g, 0, none⟩ = false := blk_frozen bg 0
  have cp0 : w2.cell? ⟨p, 0, none⟩ = some (.pointer (some ⟨g, 0, none⟩)) := by rw [blk_cell ((hb2.block p (by have := HSZ.out; omega)).trans HP1.out)]; rfl
  obtain ⟨hn1, _, hC1⟩ := Kd.R_reads' hR
  subst hn1
  have hn1' : rows.length ≤ 100000 := by omega
  have BG3 : Aside0 ((w2.setCell ⟨g, 0, none⟩ (.int .i64 ((n : Int) + 1))).drew.heap[g]? = some (.cells #[.int .i64 ((n + 1 : Nat) : Int), .slice AL nL cL] 169 (0, 0))) := ⟨blk_set bg 0 (.int .i64 ((n : Int) + 1))⟩
  have hpg : p ≠ g := by have := HP.out; omega
  have hpg1 : p + 1 ≠ g := by have := HP.out; omega
  have BP3 : Aside0 ((w2.setCell ⟨g, 0, none⟩ (.int .i64 ((n : Int) + 1))).drew.heap[p]? = some (.cells #[.pointer (some ⟨g, 0, none⟩)] 167 (0, 0))) := ⟨((Below.heap_setCell w2 ⟨g, 0, none⟩ _ p hpg).trans ((hb2.block p (by have := HSZ.out; omega)).trans HP1.out) :)⟩
  have BC3 : Aside0 ((w2.setCell ⟨g, 0, none⟩ (.int .i64 ((n : Int) + 1))).drew.heap[p + 1]? = some (.cells #[.int .u8 c.f0, .int .i64 c.f1.f0, .int .i64 c.f1.f1, .int .i64 c.f1.f2, .int .i64 c.f1.f3, .int .i64 c.f2, .slice A c.f3.length cap] 27 (0, 0))) := ⟨((Below.heap_setCell w2 ⟨g, 0, none⟩ _ (p + 1) hpg1).trans ((hb2.block (p + 1) (by have := HSZ.out; omega)).trans HC1.out) :)⟩
  have RL : Aside0 ((k24).R 24 (w2.setCell ⟨g, 0, none⟩ (.int .i64 ((n : Int) + 1))).drew B (fun _ => True) (.slice AL nL cL) ls) := ⟨Kd.R_drew (Kd.R_set RL0 bg (by decide) _ _)⟩
  have RR : Aside0 ((k24).C (w2.setCell ⟨g, 0, none⟩ (.int .i64 ((n : Int) + 1))).drew A1 rows.length rows) := ⟨by
   have h := (Kd.R_reads' (Kd.R_drew (Kd.R_set hR bg (by decide) 0 (.int .i64 ((n : Int) + 1))))).2.2
   exact h⟩
  have HXG : Aside0 (some g ≠ (Value.slice AL nL cL).ownBlock) := ⟨Kd.R_ne RL.out BG3.out (by decide)⟩
  have HXP : Aside0 (some p ≠ (Value.slice AL nL cL).ownBlock) := ⟨Kd.R_ne RL.out BP3.out (by decide)⟩
  have HXC : Aside0 (some (p + 1) ≠ (Value.slice AL nL cL).ownBlock) := ⟨Kd.R_ne RL.out BC3.out (by decide)⟩
  have HB3 : Aside0 (Below B (w2.setCell ⟨g, 0, none⟩ (.int .i64 ((n : Int) + 1))).drew (w2.setCell ⟨g, 0, none⟩ (.int .i64 ((n : Int) + 1))).drew) := ⟨Below.refl _ _⟩
  have hs3 : (w2.setCell ⟨g, 0, none⟩ (.int .i64 ((n : Int) + 1))).drew.heap.size = w2.heap.size := by show (w2.setCell _ _).heap.size = _; simp [World.setCell]
  have HS3 : B ≤ (w2.setCell ⟨g, 0, none⟩ (.int .i64 ((n : Int) + 1))).drew.heap.size := by rw [hs3]; have := HM2.out.size; omega
  have HM3 : Aside0 (Mid B N w (w2.setCell ⟨g, 0, none⟩ (.int .i64 ((n : Int) + 1)))) := ⟨HM2.out.setCell ⟨i3, i4⟩ _⟩
  have HQ : Aside0 (B ≤ g ∧ g < N) := ⟨⟨i3, i4⟩⟩
  clear e hR hrow hls HC hb2 bg RL0 hC1 i3 i4 hs3
  go_wp2
  generalize w2.setCell ⟨g, 0, none⟩ (.int .i64 ((n : Int) + 1)) = w3 at *
  have cp : w3.drew.cell? ⟨p, 0, none⟩ = some (.pointer (some ⟨g, 0, none⟩)) := by rw [blk_cell BP3.out]; rfl
  have cg : w3.drew.cell? ⟨g, 1, none⟩ = some (.slice AL nL cL) := by rw [blk_cell BG3.out]; rfl
  refine start_ (n := 10) (S := fun w' => w'.cell? ⟨p, 0, none⟩ = some (.pointer (some ⟨g, 0, none⟩)) ∧ w'.cell? ⟨g, 1, none⟩ = some (.slice AL nL cL)) (ds := [9]) #[false, false, false, false, false, false, false, false, false, false] (by kernel_rfl) rfl rfl ⟨cp, cg⟩ (fun hHeld => ?_)
  refine pu2 5 (some 26) #[false, false, false, false, false, true, false, false, false, false] (h := ?_)
  refine tk2 0 (some 21) #[true, false, false, false, false, true, false, false, false, false] (h := ?_)
  refine tk2 1 (some 22) #[true, true, false, false, false, true, false, false, false, false] (h := ?_)
  refine pu2 2 (some 23) #[true, true, true, false, false, true, false, false, false, false] (h := ?_)
  refine pu2 3 (some 24) #[true, true, true, true, false, true, false, false, false, false] (h := ?_)
  refine tk2 4 (some 25) #[true, true, true, true, true, true, false, false, false, false] (h := ?_)
  refine one_ (i := 6) (N := some 27) #[true, true, true, true, true, true, true, false, false, false] rfl rfl (by kernel_rfl) (by decide) (fun K hK => ?_)
  refine Kd.R_append_rows_step k24 (w0 := w3.drew) B (by rfl) (.tmp 25) (.tmp 26) 73 24 (.agg #[.int .i64 0, .int .i64 0, .int .i64 0, .int .i64 0]) 32 rfl Tryz.underlying73 info24 rfl (by decide) (by decide) (.slice AL nL cL) ls rows A1 rows.length c1 (fun _ => True) (fun _ => False) rfl rfl RL.out RR.out rect_KM (fun _ h => h.elim) (fun _ _ => trivial) HB3.out HS3 (by omega) ?_
  intro v1 w4 ho hb hgr hat
  have BG4 := ak (blk_grown BG3.out hgr HXG.out)
  have BP4 := ak (blk_grown BP3.out hgr HXP.out)
  have BC4 := ak (blk_grown BC3.out hgr HXC.out)
  have D1 : Aside0 (w4.cell? ⟨p, 0, none⟩ = some (.pointer (some ⟨g, 0, none⟩))) := ⟨by rw [blk_cell BP4.out]; rfl⟩
  have D2 : Aside0 (w4.cell? ⟨g, 1, none⟩ = some (.slice AL nL cL)) := ⟨by rw [blk_cell BG4.out]; rfl⟩
  have f1 : w4.frozen? ⟨g, 1, none⟩ = false := blk_frozen BG4.out 1
  obtain ⟨A4, n4, c4, rfl⟩ := sl_of_R ho
  have k1 := blk_set BG4.out 1 (.slice A4 n4 c4)
  have hm4 : Mid B N w3 w4 := (Mid.ofBelow (below_drew (Below.refl _ _))).trans (Mid.grownR hgr (fun k hk => ⟨Kd.R_base RL.out k hk, Kd.R_typed RL.out k hk⟩))
  have hm5 : Mid B N w (w4.setCell ⟨g, 1, none⟩ (.slice A4 n4 c4)) := (HM3.out.trans hm4).setCell HQ.out _
  have hi5 : WalkInv B N g (w4.setCell ⟨g, 1, none⟩ (.slice A4 n4 c4)) (n + 1, ls ++ rows) (u + 1) :=
   ⟨⟨by show n + 1 ≤ u + 1; omega, by show (ls ++ rows).length ≤ _; rw [List.length_append]; omega, HQ.out⟩, _, k1, Kd.R_set ho BG4.out (by decide) _ _⟩
  have hp5 : (w4.setCell ⟨g, 1, none⟩ (.slice A4 n4 c4)).heap[p]? = some (.cells #[.pointer (some ⟨g, 0, none⟩)] 167 (0, 0)) := (Below.heap_setCell w4 ⟨g, 1, none⟩ _ p (by intro h; have := HQ.out; have := HP.out; simp at h; omega)).trans BP4.out
  have hc5 := (Below.heap_setCell w4 ⟨g, 1, none⟩ (.slice A4 n4 c4) (p + 1) (by intro h; have := HQ.out; have := HP.out; simp at h; omega)).trans BC4.out
  have g6 : (w4.setCell ⟨g, 1, none⟩ (.slice A4 n4 c4)).cell? ⟨p + 1, 6, none⟩ = some (.slice A c.f3.length cap) := by rw [blk_cell hc5]; rfl
  have HF := ak (And.intro hi5 (And.intro hp5 hm5))
  clear hi5 hp5 hc5 hm5 hm4 k1 ho hb hgr hat
  refine hK.out _ _ ⟨D1.out, D2.out⟩ (fun hHeld => ?_)
  clear hK K
  refine norm_ (a' := ?_) ?_ ?_
  rotate_left
  ·show Act.put _ (some 27) _ = _
   simp only [Act.put, List.setIfInBounds_toArray, List.set_cons_zero, List.set_cons_succ, i64_w, i32_w]
   rfl
  refine pu2 7 (some 28) #[true, true, true, true, true, true, true, true, false, false] (h := ?_)
  refine pu2 8 (some 29) #[true, true, true, true, true, true, true, true, true, false] (h := ?_)
  refine last_ (i := 9) (N := none) #[true, true, true, true, true, true, true, true, true, true] rfl rfl (by kernel_rfl) (by decide) (fun K hK => ?_)
  refine skip_ (w1 := ?_) (by rfl) rfl ?_ ?_
  rotate_left
  ·go_simp
   rfl
  refine hK.out _ _ ?_
  clear hK K
  refine done_ (by kernel_rfl) ?_
  have hT5 : Tr B (w4.setCell ⟨g, 1, none⟩ (.slice A4 n4 c4)) A c.f3.length c.f3 := HT0.out.below (HF.out.2.2.toB (by omega))
  have hsz5 := HF.out.2.2.size
  have HN := cfn_calls B N M 119 #[.pointer (some ⟨p, 0, none⟩)] enters119 (WithBox (WalkInv B N g) p g) (WithBox.stable (WalkInv.stable B N g) p g) (fun k => (cells k).length) (notV walkStep) A c.f3.length cap c.f3 (w4.setCell ⟨g, 1, none⟩ (.slice A4 n4 c4)) (n + 1, ls ++ rows) (u + 1) hBN (by omega)
   (fun k hk w st u A cap h1 h2 h3 h4 h5 => walk1_calls B N M g p k hBN HP.out (HK.out k hk) w st u A cap h1 h2 h3 h4 h5) hT5 ⟨HF.out.1, HF.out.2.1⟩ (by rw [wts_cells]; have := HU.out; have := HCL.out; omega)
  rw [any_visit, wts_cells, ← E.out] at HN
  have HN := ak HN
  clear hT5 hsz5
  go_wp2_with fail
  refine HN.out.mono ?_
  rintro e w6 ⟨rfl, h6⟩
  have H6 := ak h6
  clear h6
  go_wp2
  go_ret
  refine ⟨by simp, by rw [HCL.out]; have := H6.out.1.1; rwa [Nat.add_assoc] at this, HF.out.2.2.trans H6.out.2⟩
theorem one_row (W : World) (c : SC) (A : Option Addr) (cap : Nat) (hcap : c.f3.length ≤ cap) (hr : (k27).C W A c.f3.length c.f3) :
  (k27).C (W.alloc (.cells #[.int .u8 c.f0, .int .i64 c.f1.f0, .int .i64 c.f1.f1, .int .i64 c.f1.f2, .int .i64 c.f1.f3, .int .i64 c.f2, .slice A c.f3.length cap] 27)) (some ⟨W.heap.size, 0, none⟩) 1 [c] := by
 refine ⟨rfl, by decide, fun _ => ⟨_, rfl, fun j p hj => ?_⟩⟩
 match j, hj with
 | 0, hj =>
  obtain rfl : c = p := by simpa using hj
  refine ⟨[.int .u8 c.f0, .int .i64 c.f1.f0, .int .i64 c.f1.f1, .int .i64 c.f1.f2, .int .i64 c.f1.f3, .int .i64 c.f2, .slice A c.f3.length cap], rfl, k27_mk _ c hcap (Kd.C_alloc hr _), fun i u hu => ?_⟩
  rw [Nat.zero_mul, Nat.zero_add, add_plain, cell_of_row _ _ _ _ _ _ (heap_alloc_new W _)]
  simpa using hu
theorem kid_le (k : SC) : ∀ l : List SC, k ∈ l → (cells k).length ≤ (cellsL l).length := by
 intro l
 induction l with
 | nil => intro h; cases h
 | cons c l ih =>
  intro h
  rw [cellsL_cons, List.length_append]
  rcases List.mem_cons.1 h with rfl | h
  ·omega
  ·have := ih h; omega
theorem cells_le {c : SC} : ∀ x ∈ cells c, (cells x).length ≤ (cells c).length := by
 refine cell_ind (P := fun c => ∀ x ∈ cells c, (cells x).length ≤ (cells c).length) (fun c ih => ?_) c
 intro x hx
 rw [cells_eq] at hx
 rcases List.mem_cons.1 hx with rfl | hx
 ·exact Nat.le_refl _
 ·rw [cellsL_flat] at hx
  obtain ⟨k, hk, hxk⟩ := List.mem_flatMap.1 hx
  have h1 := ih k hk x hxk
  have h2 := kid_le k c.f3 hk
  rw [cells_eq c, List.length_cons]
  omega
theorem cellsL_ge (l : List SC) : l.length ≤ (cellsL l).length := by
 induction l with
 | nil => simp
 | cons c l ih =>
  have := cells_pos c
  rw [cellsL_cons, List.length_append, List.length_cons]
  omega
theorem kids_le {c : SC} : ∀ x ∈ cells c, x.f3.length ≤ (cells c).length := by
 intro x hx
 have h1 := cells_le x hx
 have h2 := cellsL_ge x.f3
 rw [cells_eq x, List.length_cons] at h1
 omega
theorem nodes_of {c : SC} (hl : (cells c).length ≤ 10000) (h : mayB c = true) : ∀ x ∈ cells c, NodeC x := by
 have h2 := ((may_iff c).1 h).2.1
 intro x hx
 have := kids_le x hx
 exact ⟨(h2 x hx).1, (h2 x hx).2, by omega⟩
def ChkErr (w : World) (base : Nat) (v : Value) (e at_ : Int) : Prop :=
 ∃ g f, v = .iface 78 (.pointer (some ⟨g, 0, none⟩)) ∧ Inside w base g (.iface 82 (.pointer (some ⟨f, 0, none⟩))) [(⟨#[108, 97, 121, 111, 117, 116]⟩ : ByteArray)] ∧ base ≤ f ∧ w.heap[f]? = some (.cells #[.int .i64 e, .int .i64 at_] 84 (0, 0))
def chkNo (c : SC) : Int := if mayB c = true then (if (walkV c).1 = true then 0 else 5) else 1
def chkAt (c : SC) : Int := if mayB c = true then (if (walkV c).1 = true then 0 else ((walkV c).2.1 : Int)) else 0
theorem tilesB_no (c : SC) : tilesB c = decide (chkNo c = 0) := by
 unfold tilesB chkNo
 cases mayB c <;> cases (walkV c).1 <;> simp
def OutCheck (w : World) (c : SC) (e : Ending) (w' : World) : Prop :=
 Below w.heap.size w w' ∧ ∃ v, e = .returned v ∧ (chkNo c = 0 → v = .nilIface) ∧ (chkNo c ≠ 0 → ChkErr w' w.heap.size v (chkNo c) (chkAt c))
set_option maxHeartbeats 4000000 in
theorem check_calls (c : SC) (w : World) (A : Option Addr) (cap : Nat) (hl : (cells c).length ≤ 10000) (hcap : c.f3.length ≤ cap) (hr : (k27).C w A c.f3.length c.f3) :
  Calls Tryz.prog 77 #[.agg #[.int .u8 c.f0, .int .i64 c.f1.f0, .int .i64 c.f1.f1, .int .i64 c.f1.f2, .int .i64 c.f1.f3, .int .i64 c.f2, .slice A c.f3.length cap]] w (OutCheck w c) := by
 obtain ⟨w1, hw1⟩ : ∃ w1, w1 = w.alloc (.cells #[.int .u8 c.f0, .int .i64 c.f1.f0, .int .i64 c.f1.f1, .int .i64 c.f1.f2, .int .i64 c.f1.f3, .int .i64 c.f2, .slice A c.f3.length cap] 27) := ⟨_, rfl⟩
 obtain ⟨w2, hw2⟩ : ∃ w2, w2 = w1.alloc (.cells #[.int .i64 0, .slice none 0 0] 169) := ⟨_, rfl⟩
 obtain ⟨w3, hw3⟩ : ∃ w3, w3 = w2.alloc (.cells #[.int .u8 c.f0, .int .i64 c.f1.f0, .int .i64 c.f1.f1, .int .i64 c.f1.f2, .int .i64 c.f1.f3, .int .i64 c.f2, .slice A c.f3.length cap] 27) := ⟨_, rfl⟩
 have s1 : w1.heap.size = w.heap.size + 1 := by rw [hw1]; simp
 have s2 : w2.heap.size = w.heap.size + 2 := by rw [hw2]; simp [s1]
 have s3 : w3.heap.size = w.heap.size + 3 := by rw [hw3]; simp [s2]
 have hb1 : Below w.heap.size w w1 := by rw [hw1]; exact below_alloc (Below.refl _ _) _
 have hb2 : Below w.heap.size w w2 := by rw [hw2]; exact below_alloc hb1 _
 have hb3 : Below w.heap.size w w3 := by rw [hw3]; exact below_alloc hb2 _
 have hb13 : Below w1.heap.size w1 w3 := by rw [hw3, hw2]; exact below_alloc (below_alloc (Below.refl _ _) _) _
 have hb23 : Below w2.heap.size w2 w3 := by rw [hw3]; exact below_alloc (Below.refl _ _) _
 have hbox : w3.heap[w.heap.size]? = some (.cells #[.int .u8 c.f0, .int .i64 c.f1.f0, .int .i64 c.f1.f1, .int .i64 c.f1.f2, .int .i64 c.f1.f3, .int .i64 c.f2, .slice A c.f3.length cap] 27 (0, 0)) := by
  have h : w1.heap[w.heap.size]? = some (.cells #[.int .u8 c.f0, .int .i64 c.f1.f0, .int .i64 c.f1.f1, .int .i64 c.f1.f2, .int .i64 c.f1.f3, .int .i64 c.f2, .slice A c.f3.length cap] 27 (0, 0)) := by rw [hw1]; exact heap_alloc_new w _
  exact (hb13.block _ (by omega)).trans h
 have hwk : w3.heap[w.heap.size + 1]? = some (.cells #[.int .i64 0, .slice none 0 0] 169 (0, 0)) := by
  have h : w2.heap[w1.heap.size]? = some (.cells #[.int .i64 0, .slice none 0 0] 169 (0, 0)) := by rw [hw2]; exact heap_alloc_new w1 _
  rw [s1] at h
  exact (hb23.block _ (by omega)).trans h
 have hrow : (k27).C w3 (some ⟨w.heap.size + 2, 0, none⟩) 1 [c] := by
  have h := one_row w2 c A cap hcap (Kd.C_below hr hb2)
  rw [← hw3, s2] at h
  exact h
 have HM := cmay_calls w3.heap.size [c] w3 _ 1 1 (Nat.le_refl _) (fun x hx => by obtain rfl : x = c := by simpa using hx
                                                                                 exact hl) (Tr.of hrow)
 rw [show [c].all mayB = mayB c by simp] at HM
 have hT3 : Tr w.heap.size w3 A c.f3.length c.f3 := (Tr.of hr).below hb3
 have HW : Aside0 (w3 = ((w.alloc (.cells #[.int .u8 c.f0, .int .i64 c.f1.f0, .int .i64 c.f1.f1, .int .i64 c.f1.f2, .int .i64 c.f1.f3, .int .i64 c.f2, .slice A c.f3.length cap] 27)).alloc (.cells #[.int .i64 0, .slice none 0 0] 169)).alloc (.cells #[.int .u8 c.f0, .int .i64 c.f1.f0, .int .i64 c.f1.f1, .int .i64 c.f1.f2, .int .i64 c.f1.f3, .int .i64 c.f2, .slice A c.f3.length cap] 27)) := ⟨by rw [hw3, hw2, hw1]⟩
 rw [HW.out] at HM
 have HM := ak HM
 have HB := ak hb3
 have HBOX := ak hbox
 have HWK := ak hwk
 have HT := ak hT3
 have HS := ak s3
 have HL := ak hl
 have HNO : Aside0 (∀ b q, mayB c = b → (walkV c).1 = q → chkNo c = (if b = true then (if q = true then 0 else 5) else 1) ∧ chkAt c = (if b = true then (if q = true then 0 else ((walkV c).2.1 : Int)) else 0)) := ⟨fun b q h1 h2 => by unfold chkNo chkAt; rw [h1, h2]; exact ⟨rfl, rfl⟩⟩
 clear hT3 hrow hwk hbox hb23 hb13 hb3 hb2 hb1 s1 s2 s3 hw3 hw2 hw1 hr hl
 cases hmay : mayB c with
 | false =>
  rw [hmay] at HM
  have HNA := ak (HNO.out false _ hmay rfl)
  clear hmay HNO
  go_enter Tryz.func77, Tryz.ntmps77
  go_wp2_with fail
  refine HM.out.mono ?_
  rintro e w4 ⟨rfl, hb4⟩
  rw [← HW.out] at hb4
  have HB4 := ak (HB.out.trans (hb4.mono HB.out.size))
  clear hb4 HM
  go_wp2_with fail
  refine (new_calls 1 0 w4 rfl).mono ?_
  rintro e w5 ⟨rfl, rfl⟩
  have HE := ak (in_calls 82 (.pointer (some ⟨w4.heap.size, 0, none⟩)) ⟨w4.heap.size + 1, 0, none⟩ 1 1 [(⟨#[108, 97, 121, 111, 117, 116]⟩ : ByteArray)] ((w4.alloc (.cells #[.int .i64 1, .int .i64 0] 84)).alloc (.cells #[.string ((⟨#[108, 97, 121, 111, 117, 116]⟩ : ByteArray))] 9)) rfl (by omega) (by omega) (by omega) (by
   have := litC (w4.alloc (.cells #[.int .i64 1, .int .i64 0] 84)) 9 [(⟨#[108, 97, 121, 111, 117, 116]⟩ : ByteArray)] (by decide)
   simpa [encs] using this))
  have hblk : ((w4.alloc (.cells #[.int .i64 1, .int .i64 0] 84)).alloc (.cells #[.string ((⟨#[108, 97, 121, 111, 117, 116]⟩ : ByteArray))] 9)).heap[w4.heap.size]? = some (.cells #[.int .i64 1, .int .i64 0] 84 (0, 0)) := by
   rw [Below.heap_alloc _ _ _ (by simp)]; exact heap_alloc_new w4 _
  have HW5 : Aside0 (Below w.heap.size w ((w4.alloc (.cells #[.int .i64 1, .int .i64 0] 84)).alloc (.cells #[.string ((⟨#[108, 97, 121, 111, 117, 116]⟩ : ByteArray))] 9))) := ⟨below_alloc (below_alloc HB4.out _) _⟩
  have HK := ak hblk
  have hsz4 := HB4.out.size
  clear hblk
  go_wp2_with fail
  refine HE.out.mono ?_
  rintro e w6 ⟨gg, rfl, hin, hb6⟩
  have hF : ChkErr w6 w.heap.size (.iface 78 (.pointer (some ⟨gg, 0, none⟩))) 1 0 := by
   obtain ⟨k1, v, k2, k3⟩ := hin
   exact ⟨gg, w4.heap.size, rfl, ⟨by simp at k1; omega, v, k2, Kd.R_lower k3 (by simp; omega)⟩, by omega, (hb6.block _ (by simp; omega)).trans HK.out⟩
  have HF := ak hF
  have HB6 : Aside0 (Below w.heap.size w w6) := ⟨HW5.out.trans (hb6.mono HW5.out.size)⟩
  clear hF hin hb6
  go_wp2
  go_ret
  refine ⟨HB6.out, _, rfl, fun h => ?_, fun _ => ?_⟩
  ·rw [HNA.out.1] at h; simp at h
  ·rw [HNA.out.1, HNA.out.2]; exact HF.out
 | true =>
  rw [hmay] at HM
  have HNO2 : Aside0 (∀ q, (walkV c).1 = q → chkNo c = (if q = true then 0 else 5) ∧ chkAt c = (if q = true then 0 else ((walkV c).2.1 : Int))) := ⟨fun q h => by have := HNO.out true q hmay h; simpa using this⟩
  have HND := ak (nodes_of HL.out hmay)
  clear hmay HNO
  go_enter Tryz.func77, Tryz.ntmps77
  go_wp2_with fail
  refine HM.out.mono ?_
  rintro e w4 ⟨rfl, hb4⟩
  rw [← HW.out] at hb4
  have hsz4 := hb4.size
  rw [HS.out] at hsz4
  have bx := (hb4.block w.heap.size (by rw [HS.out]; omega)).trans HBOX.out
  have bw := (hb4.block (w.heap.size + 1) (by rw [HS.out]; omega)).trans HWK.out
  have hT4 := HT.out.below (hb4.mono HB.out.size)
  have hinv : WalkInv w.heap.size w4.heap.size (w.heap.size + 1) w4 (0, []) 0 := ⟨⟨Nat.le_refl _, by simp, by omega, by omega⟩, _, bw, Kd.R_nil _ _ _ _ _⟩
  have HWC := ak (walk_calls w.heap.size w4.heap.size 10000 (w.heap.size + 1) (by omega) (Nat.le_refl _) c HND.out w4 (0, []) 0 A cap hinv (by have := HL.out; omega) (Nat.le_refl _) hcap hT4)
  have d0 : w4.cell? ⟨w.heap.size, 0, none⟩ = some (.int .u8 c.f0) := by rw [blk_cell bx]; rfl
  have d1 : w4.cell? ⟨w.heap.size, 1, none⟩ = some (.int .i64 c.f1.f0) := by rw [blk_cell bx]; rfl
  have d2 : w4.cell? ⟨w.heap.size, 2, none⟩ = some (.int .i64 c.f1.f1) := by rw [blk_cell bx]; rfl
  have d3 : w4.cell? ⟨w.heap.size, 3, none⟩ = some (.int .i64 c.f1.f2) := by rw [blk_cell bx]; rfl
  have d4 : w4.cell? ⟨w.heap.size, 4, none⟩ = some (.int .i64 c.f1.f3) := by rw [blk_cell bx]; rfl
  have d5 : w4.cell? ⟨w.heap.size, 5, none⟩ = some (.int .i64 c.f2) := by rw [blk_cell bx]; rfl
  have d6 : w4.cell? ⟨w.heap.size, 6, none⟩ = some (.slice A c.f3.length cap) := by rw [blk_cell bx]; rfl
  have HB4 := ak (HB.out.trans (hb4.mono HB.out.size))
  have hv : (walkV c) = visitL walkStep (0, []) (cells c) := rfl
  rw [← hv] at HWC
  generalize walkV c = r at *
  obtain ⟨q, num, ls⟩ := r
  simp only at HWC HNO2
  clear hb4 HM bx bw hT4 hinv hv
  cases q with
  | true =>
   have HNA := ak (HNO2.out true rfl)
   go_wp2_with fail
   refine HWC.out.mono ?_
   rintro e w5 ⟨rfl, _, hm5⟩
   have HB5 := ak (HB4.out.trans (hm5.toB (by omega)))
   clear hm5 HWC
   go_wp2
   go_ret
   refine ⟨HB5.out, _, rfl, fun _ => rfl, fun h => ?_⟩
   rw [HNA.out.1] at h; exact absurd rfl h
  | false =>
   have HNA := ak (HNO2.out false rfl)
   go_wp2_with fail
   refine HWC.out.mono ?_
   rintro e w5 ⟨rfl, hi5, hm5⟩
   have HB5 := ak (HB4.out.trans (hm5.toB (by omega)))
   obtain ⟨_, vL, bg, _⟩ := hi5
   have cg : w5.cell? ⟨w.heap.size + 1, 0, none⟩ = some (.int .i64 (num : Int)) := by rw [blk_cell bg]; rfl
   have hsz5 := hm5.size
   clear hm5 HWC bg d0 d1 d2 d3 d4 d5 d6
   go_wp2_with fail
   refine (new_calls 5 num w5 rfl).mono ?_
   rintro e w6 ⟨rfl, rfl⟩
   have HE := ak (in_calls 82 (.pointer (some ⟨w5.heap.size, 0, none⟩)) ⟨w5.heap.size + 1, 0, none⟩ 1 1 [(⟨#[108, 97, 121, 111, 117, 116]⟩ : ByteArray)] ((w5.alloc (.cells #[.int .i64 5, .int .i64 num] 84)).alloc (.cells #[.string ((⟨#[108, 97, 121, 111, 117, 116]⟩ : ByteArray))] 9)) rfl (by omega) (by omega) (by omega) (by
    have := litC (w5.alloc (.cells #[.int .i64 5, .int .i64 num] 84)) 9 [(⟨#[108, 97, 121, 111, 117, 116]⟩ : ByteArray)] (by decide)
    simpa [encs] using this))
   have hblk : ((w5.alloc (.cells #[.int .i64 5, .int .i64 num] 84)).alloc (.cells #[.string ((⟨#[108, 97, 121, 111, 117, 116]⟩ : ByteArray))] 9)).heap[w5.heap.size]? = some (.cells #[.int .i64 5, .int .i64 num] 84 (0, 0)) := by
    rw [Below.heap_alloc _ _ _ (by simp)]; exact heap_alloc_new w5 _
   have HW5 : Aside0 (Below w.heap.size w ((w5.alloc (.cells #[.int .i64 5, .int .i64 num] 84)).alloc (.cells #[.string ((⟨#[108, 97, 121, 111, 117, 116]⟩ : ByteArray))] 9))) := ⟨below_alloc (below_alloc HB5.out _) _⟩
   have HK := ak hblk
   clear hblk
   go_wp2_with fail
   refine HE.out.mono ?_
   rintro e w6 ⟨gg, rfl, hin, hb6⟩
   have hF : ChkErr w6 w.heap.size (.iface 78 (.pointer (some ⟨gg, 0, none⟩))) 5 num := by
    obtain ⟨k1, v, k2, k3⟩ := hin
    exact ⟨gg, w5.heap.size, rfl, ⟨by simp at k1; omega, v, k2, Kd.R_lower k3 (by simp; omega)⟩, by omega, (hb6.block _ (by simp; omega)).trans HK.out⟩
   have HF := ak hF
   have HB6 : Aside0 (Below w.heap.size w w6) := ⟨HW5.out.trans (hb6.mono HW5.out.size)⟩
   clear hF hin hb6
   go_wp2
   go_ret
   refine ⟨HB6.out, _, rfl, fun h => ?_, fun _ => ?_⟩
   ·rw [HNA.out.1] at h; exact absurd h (by decide)
   ·rw [HNA.out.1, HNA.out.2]; exact HF.out
theorem enters76 : ∀ args w, (callFunc 76 args).run Tryz.prog w = .ok (.enter 76 args) w := enters_of Tryz.func76 (by kernel_rfl) rfl
theorem tiles1_calls (c : SC) (w : World) (A : Option Addr) (cap : Nat) (hl : (cells c).length ≤ 10000) (hcap : c.f3.length ≤ cap) (hr : (k27).C w A c.f3.length c.f3) :
  Calls Tryz.prog 76 #[.agg #[.int .u8 c.f0, .int .i64 c.f1.f0, .int .i64 c.f1.f1, .int .i64 c.f1.f2, .int .i64 c.f1.f3, .int .i64 c.f2, .slice A c.f3.length cap]] w fun e w' => e = .returned (.bool (!tilesB c)) ∧ Below w.heap.size w w' := by
 have hb : Below w.heap.size w (w.alloc (.cells #[.int .u8 c.f0, .int .i64 c.f1.f0, .int .i64 c.f1.f1, .int .i64 c.f1.f2, .int .i64 c.f1.f3, .int .i64 c.f2, .slice A c.f3.length cap] 27)) := below_alloc (Below.refl _ _) _
 have HC := ak (check_calls c (w.alloc (.cells #[.int .u8 c.f0, .int .i64 c.f1.f0, .int .i64 c.f1.f1, .int .i64 c.f1.f2, .int .i64 c.f1.f3, .int .i64 c.f2, .slice A c.f3.length cap] 27)) A cap hl hcap (Kd.C_below hr hb))
 have HB := ak hb
 rw [tilesB_no]
 clear hb hr hl
 go_enter Tryz.func76, Tryz.ntmps76
 go_wp2_with fail
 refine HC.out.mono ?_
 rintro e w1 ⟨hb1, v, rfl, h0, h1⟩
 have HB1 := ak (HB.out.trans (hb1.mono HB.out.size))
 by_cases h : chkNo c = 0
 ·obtain rfl := h0 h
  have HD : Aside0 (decide (chkNo c = 0) = true) := ⟨decide_eq_true h⟩
  clear hb1 h0 h1 h HC
  go_wp2
  go_ret
  exact ⟨by rw [HD.out]; rfl, HB1.out⟩
 ·obtain ⟨g, f, rfl, _⟩ := h1 h
  have HD : Aside0 (decide (chkNo c = 0) = false) := ⟨decide_eq_false h⟩
  clear hb1 h0 h1 h HC
  go_wp2
  go_ret
  exact ⟨by rw [HD.out]; rfl, HB1.out⟩
theorem tiles_calls (l : List SC) (w : World) (A : Option Addr) (n cap : Nat) (hl : ∀ c ∈ l, (cells c).length ≤ 10000) (hr : (k27).C w A n l) :
  Calls Tryz.prog 50 #[.slice A n cap] w fun e w' => e = .returned (.bool (l.all tilesB)) ∧ Below w.heap.size w w' := by
 have hpred : PredF w.heap.size w.heap.size 0 76 #[] NoInv (fun _ => 0) (fun (_ : Unit) x => (!tilesB x, ())) l := fun x hx W st u A' cap' _ _ h3 h4 h5 => by
  refine (tiles1_calls x W A' cap' (hl x hx) h4 h5.now).mono ?_
  rintro e w' ⟨h1, h2⟩
  exact ⟨h1, trivial, Mid.ofBelow h2⟩
 have HC := cfn_calls w.heap.size w.heap.size 0 76 #[] enters76 NoInv NoInv.stable (fun _ => 0) (fun (_ : Unit) x => (!tilesB x, ())) A n cap l w () 0 (Nat.le_refl _) (Nat.le_refl _) hpred (Tr.of hr) trivial (by rw [wts_zero]; exact Nat.le_refl _)
 rw [anyL_unit (fun x => !tilesB x)] at HC
 have e : (!l.any (fun x => !tilesB x)) = l.all tilesB := not_any_not _ _
 rw [← e]
 have HCC := ak HC
 generalize l.any (fun x => !tilesB x) = b at *
 clear hpred hr hl HC e
 go_enter Tryz.func50, Tryz.ntmps50
 go_wp2_with fail
 refine HCC.out.mono ?_
 rintro e w1 ⟨rfl, _, hm⟩
 have HM := ak (hm.toB (Nat.le_refl _))
 clear hm
 go_wp2
 go_ret
 exact ⟨rfl, HM.out⟩
theorem lnR_walk (c : SC) (h : (walkV c).1 = true) : (walkV c).2.2 = lnR c := by
 have := walk_lines (cells c) (0, []) h
 unfold walkV lnR
 rw [this]
 simp
def linesAns (c : SC) : List SR := if tilesB c = true then lnR c else []
theorem cell_off {w : World} {g b : Nat} {v x : Value} (h : w.cell? ⟨g, 0, none⟩ = some x) : (w.setCell ⟨b, 1, none⟩ v).cell? ⟨g, 0, none⟩ = some x := by
 rw [World.cell?_setCell_other]
 ·exact h
 ·intro e
  injection e with _ e
  cases e
theorem NumE.set {w : World} (h : NumE w) (b : Nat) (v : Value) : NumE (w.setCell ⟨b, 1, none⟩ v) := by
 obtain ⟨⟨t, p, h1⟩, u, q, h2⟩ := h
 exact ⟨⟨t, p, cell_off h1⟩, u, q, cell_off h2⟩
theorem headC_R (b : Nat) : HeadC headR b NumE :=
 ⟨fun W W' h hb => h.below hb, fun W v h => h.set b v, fun W a h ha => head_calls a (by omega) W h⟩
def wholeA (s : ByteArray) (off : Int) : Except (Int × Int) SC := wholeP s mayB tilesB off (cellR s)
theorem wholeA_calls (w : World) (b : Nat) (s : ByteArray) (off : Int) (hs : s.size ≤ 65535) (ho : 0 ≤ off ∧ off ≤ 1000) (hE : NumE w) (k : RdA w b s ((0 : Nat) : Int) off) :
  Calls Tryz.prog 27 #[.pointer (some ⟨b, 0, none⟩)] w fun e w' => WholePost w b e w' (wholeA s off) := by
 have hone : ∀ p : SC × Nat, cellR s = .ok p → ∀ c ∈ [p.1], (cells c).length ≤ 10000 := by
  intro p hp c hc
  have he : c = p.1 := by simpa using hc
  have := cellR_size hp
  rw [he]
  omega
 refine whole_calls headR NumE w b s _ off (by omega) ho headB_R (headC_R b) hE k _ (cellR_eq s) mayB tilesB ?_ ?_
 ·intro p hp W A hC
  have h := cmay_calls W.heap.size [p.1] W (some A) 1 1 (Nat.le_refl _) (hone p hp) (Tr.of hC)
  rw [show [p.1].all mayB = mayB p.1 by simp] at h
  exact h
 ·intro p hp _ W A hC
  have h := tiles_calls [p.1] W (some A) 1 1 (hone p hp) hC
  rw [show [p.1].all tilesB = tilesB p.1 by simp] at h
  exact h
theorem in_new (W1 : World) (no : Int) :
  Calls Tryz.prog 25 #[.iface 82 (.pointer (some ⟨W1.heap.size, 0, none⟩)), .slice (some ⟨W1.heap.size + 1, 0, none⟩) 1 1] ((W1.alloc (.cells #[.int .i64 no, .int .i64 0] 84)).alloc (.cells #[.string layB] 9)) fun e w' =>
   ∃ g', e = .returned (.iface 78 (.pointer (some ⟨g', 0, none⟩))) ∧ Inside w' W1.heap.size g' (.iface 82 (.pointer (some ⟨W1.heap.size, 0, none⟩))) [layB] ∧ w'.heap[W1.heap.size]? = some (.cells #[.int .i64 no, .int .i64 0] 84 (0, 0)) ∧ Below W1.heap.size W1 w' := by
 obtain ⟨W2, hW2⟩ : ∃ W2, W2 = W1.alloc (.cells #[.int .i64 no, .int .i64 0] 84) := ⟨_, rfl⟩
 obtain ⟨W3, hW3⟩ : ∃ W3, W3 = W2.alloc (.cells #[.string layB] 9) := ⟨_, rfl⟩
 have hC : Kd.string.C W3 (some ⟨W2.heap.size, 0, none⟩) 1 [layB] := by rw [hW3]; exact litC W2 9 [layB] (by decide)
 have e1 : W2.heap.size = W1.heap.size + 1 := by rw [hW2]; simp
 rw [e1] at hC
 have hF : W3.heap[W1.heap.size]? = some (.cells #[.int .i64 no, .int .i64 0] 84 (0, 0)) := by rw [hW3]; exact blk_alloc (by rw [hW2]; exact heap_alloc_new W1 _) _
 have hB : Below W1.heap.size W1 W3 := by rw [hW3, hW2]; exact below_alloc (below_alloc (Below.refl _ _) _) _
 rw [← hW2, ← hW3]
 refine (in_calls 82 (.pointer (some ⟨W1.heap.size, 0, none⟩)) ⟨W1.heap.size + 1, 0, none⟩ 1 1 [layB] W3 rfl (by decide) (Nat.le_refl _) (by decide) hC).mono ?_
 rintro e w3 ⟨g', rfl, hin, hb3⟩
 exact ⟨g', rfl, ⟨Nat.le_trans hB.size hin.1, by obtain ⟨_, v, q1, q2⟩ := hin; exact ⟨v, q1, Kd.R_lower q2 hB.size⟩⟩, (hb3.block _ (blk_lt hF)).trans hF, hB.trans (hb3.mono hB.size)⟩
set_option maxHeartbeats 4000000 in
theorem body_long (w : World) (s : ByteArray) (hs : 65530 < s.size) : Calls Tryz.prog 9 #[.string s] w fun e w' => ReadPost w e w' (.error (3, 0)) := by
 have hgt : ((s.size : Int) > 65530) = True := eq_true (by omega)
 have hgt2 : decide ((65530 : Int) < (s.size : Int)) = true := decide_eq_true (by omega)
 obtain ⟨W1, hW1⟩ : ∃ W1, W1 = w.alloc (.cells zeroA 27) := ⟨_, rfl⟩
 have HB1 : Aside0 (Below w.heap.size w W1) := ⟨by rw [hW1]; exact below_alloc (Below.refl _ _) _⟩
 have HR1 : Aside0 (W1.heap[w.heap.size]? = some (.cells zeroA 27 (0, 0))) := ⟨by rw [hW1]; exact heap_alloc_new w _⟩
 have HIC := ak (in_new W1 3)
 have HN := ak (new_calls 3 0 W1 rfl)
 have HW := ak hW1
 have HSZ : Aside0 (W1.heap.size = w.heap.size + 1) := ⟨by rw [hW1]; simp⟩
 clear hs hW1
 go_enter Tryz.func9, Tryz.ntmps9
 go_wp2_with fail
 rw [← HW.out]
 refine HN.out.mono ?_
 rintro e w0 ⟨rfl, rfl⟩
 go_wp2_with fail
 refine HIC.out.mono ?_
 rintro e w2 ⟨g', rfl, hin, hfl, hb2⟩
 have HRES : Aside0 (w2.heap[w.heap.size]? = some (.cells zeroA 27 (0, 0))) := ⟨(hb2.block _ (blk_lt HR1.out)).trans HR1.out⟩
 have HBW : Aside0 (Below w.heap.size w w2) := ⟨HB1.out.trans (hb2.mono HB1.out.size)⟩
 have HIN := ak hin
 have HG := ak hfl
 have HLT : Aside0 (w.heap.size < W1.heap.size) := ⟨blk_lt HR1.out⟩
 have HGN : Aside0 (W1.heap.size ≠ w.heap.size) := ⟨Nat.ne_of_gt HLT.out⟩
 clear hin hfl hb2
 have hres := HRES.out
 have y0 : w2.cell? ⟨w.heap.size, 0, none⟩ = some (.int .u8 0) := by simp [World.cell?, hres]
 have f0 := blk_frozen hres 0
 have y1 : w2.cell? ⟨w.heap.size, 1, none⟩ = some (.int .i64 0) := by simp [World.cell?, hres]
 have f1 := blk_frozen hres 1
 have y2 : w2.cell? ⟨w.heap.size, 2, none⟩ = some (.int .i64 0) := by simp [World.cell?, hres]
 have f2 := blk_frozen hres 2
 have y3 : w2.cell? ⟨w.heap.size, 3, none⟩ = some (.int .i64 0) := by simp [World.cell?, hres]
 have f3 := blk_frozen hres 3
 have y4 : w2.cell? ⟨w.heap.size, 4, none⟩ = some (.int .i64 0) := by simp [World.cell?, hres]
 have f4 := blk_frozen hres 4
 have y5 : w2.cell? ⟨w.heap.size, 5, none⟩ = some (.int .i64 0) := by simp [World.cell?, hres]
 have f5 := blk_frozen hres 5
 have y6 : w2.cell? ⟨w.heap.size, 6, none⟩ = some (.slice none 0 0) := by simp [World.cell?, hres]
 have f6 := blk_frozen hres 6
 clear hres
 go_wp2
 refine bodyPost_ret (v := .tuple #[.agg zeroA, .iface 78 (.pointer (some ⟨g', 0, none⟩))]) (by simp [results, Tryz.results9, go_sem, y0, y1, y2, y3, y4, y5, y6]) rfl ?_
 refine ⟨g', _, rfl, ?_, (blk_far (blk_far (blk_far (blk_far (blk_far (blk_far (blk_far HG.out (p := ⟨w.heap.size, 0, none⟩) HGN.out (.int .u8 0)) (p := ⟨w.heap.size, 1, none⟩) HGN.out (.int .i64 0)) (p := ⟨w.heap.size, 2, none⟩) HGN.out (.int .i64 0)) (p := ⟨w.heap.size, 3, none⟩) HGN.out (.int .i64 0)) (p := ⟨w.heap.size, 4, none⟩) HGN.out (.int .i64 0)) (p := ⟨w.heap.size, 5, none⟩) HGN.out (.int .i64 0)) (p := ⟨w.heap.size, 6, none⟩) HGN.out (.slice none 0 0)), (((((((HBW.out.setCell (p := ⟨w.heap.size, 0, none⟩) (Nat.le_refl _) _).setCell (p := ⟨w.heap.size, 1, none⟩) (Nat.le_refl _) _).setCell (p := ⟨w.heap.size, 2, none⟩) (Nat.le_refl _) _).setCell (p := ⟨w.heap.size, 3, none⟩) (Nat.le_refl _) _).setCell (p := ⟨w.heap.size, 4, none⟩) (Nat.le_refl _) _).setCell (p := ⟨w.heap.size, 5, none⟩) (Nat.le_refl _) _).setCell (p := ⟨w.heap.size, 6, none⟩) (Nat.le_refl _) _)⟩
 have hI := (ins_set (ins_set (ins_set (ins_set (ins_set (ins_set (ins_set HIN.out (p := ⟨w.heap.size, 0, none⟩) HLT.out (.int .u8 0)) (p := ⟨w.heap.size, 1, none⟩) HLT.out (.int .i64 0)) (p := ⟨w.heap.size, 2, none⟩) HLT.out (.int .i64 0)) (p := ⟨w.heap.size, 3, none⟩) HLT.out (.int .i64 0)) (p := ⟨w.heap.size, 4, none⟩) HLT.out (.int .i64 0)) (p := ⟨w.heap.size, 5, none⟩) HLT.out (.int .i64 0)) (p := ⟨w.heap.size, 6, none⟩) HLT.out (.slice none 0 0))
 exact ⟨Nat.le_trans (Nat.le_of_lt HLT.out) hI.1, by obtain ⟨_, v, q1, q2⟩ := hI; exact ⟨v, q1, Kd.R_lower q2 (Nat.le_of_lt HLT.out)⟩⟩
set_option maxHeartbeats 4000000 in
theorem text_bad (w : World) (s cb : ByteArray) (no : Int) (hno : (no == 0) = false)
  (HCUT : ∀ W, Below w.heap.size w W → Calls Tryz.prog 29 #[.string s] W fun e w' => e = .returned (.tuple #[.string cb, .int .i64 no]) ∧ Below W.heap.size W w') :
  Calls Tryz.prog 11 #[.string s] w fun e w' => ReadPost w e w' (.error (no, 0)) := by
 obtain ⟨W0, hW0⟩ : ∃ W0, W0 = w.alloc (.cells zeroA 27) := ⟨_, rfl⟩
 have HB0 : Aside0 (Below w.heap.size w W0) := ⟨by rw [hW0]; exact below_alloc (Below.refl _ _) _⟩
 have HR0 : Aside0 (W0.heap[w.heap.size]? = some (.cells zeroA 27 (0, 0))) := ⟨by rw [hW0]; exact heap_alloc_new w _⟩
 have HC := ak (HCUT W0 HB0.out)
 have HW0 := ak hW0
 have hno2 : (no = 0) = False := eq_false (by simpa using hno)
 have HNO := ak hno
 clear hW0 HCUT
 go_enter Tryz.func11, Tryz.ntmps11
 go_wp2_with fail
 rw [← HW0.out]
 with_reducible refine HC.out.mono ?_
 rintro e W1 ⟨rfl, hb1⟩
 have HB1 : Aside0 (Below w.heap.size w W1) := ⟨HB0.out.trans (hb1.mono HB0.out.size)⟩
 have HR1 : Aside0 (W1.heap[w.heap.size]? = some (.cells zeroA 27 (0, 0))) := ⟨(hb1.block _ (blk_lt HR0.out)).trans HR0.out⟩
 have HIC := ak (in_new W1 no)
 have HN := ak (new_calls no 0 W1 HNO.out)
 clear hb1
 go_wp2_with fail
 refine HN.out.mono ?_
 rintro e w0 ⟨rfl, rfl⟩
 go_wp2_with fail
 refine HIC.out.mono ?_
 rintro e w2 ⟨g', rfl, hin, hfl, hb2⟩
 have HRES : Aside0 (w2.heap[w.heap.size]? = some (.cells zeroA 27 (0, 0))) := ⟨(hb2.block _ (blk_lt HR1.out)).trans HR1.out⟩
 have HBW : Aside0 (Below w.heap.size w w2) := ⟨HB1.out.trans (hb2.mono HB1.out.size)⟩
 have HIN := ak hin
 have HG := ak hfl
 have HLT : Aside0 (w.heap.size < W1.heap.size) := ⟨blk_lt HR1.out⟩
 have HGN : Aside0 (W1.heap.size ≠ w.heap.size) := ⟨Nat.ne_of_gt HLT.out⟩
 clear hin hfl hb2
 have hres := HRES.out
 have y0 : w2.cell? ⟨w.heap.size, 0, none⟩ = some (.int .u8 0) := by simp [World.cell?, hres]
 have f0 := blk_frozen hres 0
 have y1 : w2.cell? ⟨w.heap.size, 1, none⟩ = some (.int .i64 0) := by simp [World.cell?, hres]
 have f1 := blk_frozen hres 1
 have y2 : w2.cell? ⟨w.heap.size, 2, none⟩ = some (.int .i64 0) := by simp [World.cell?, hres]
 have f2 := blk_frozen hres 2
 have y3 : w2.cell? ⟨w.heap.size, 3, none⟩ = some (.int .i64 0) := by simp [World.cell?, hres]
 have f3 := blk_frozen hres 3
 have y4 : w2.cell? ⟨w.heap.size, 4, none⟩ = some (.int .i64 0) := by simp [World.cell?, hres]
 have f4 := blk_frozen hres 4
 have y5 : w2.cell? ⟨w.heap.size, 5, none⟩ = some (.int .i64 0) := by simp [World.cell?, hres]
 have f5 := blk_frozen hres 5
 have y6 : w2.cell? ⟨w.heap.size, 6, none⟩ = some (.slice none 0 0) := by simp [World.cell?, hres]
 have f6 := blk_frozen hres 6
 clear hres
 go_wp2
 refine bodyPost_ret (v := .tuple #[.agg zeroA, .iface 78 (.pointer (some ⟨g', 0, none⟩))]) (by simp [results, Tryz.results11, go_sem, y0, y1, y2, y3, y4, y5, y6]) rfl ?_
 refine ⟨g', _, rfl, ?_, (blk_far (blk_far (blk_far (blk_far (blk_far (blk_far (blk_far HG.out (p := ⟨w.heap.size, 0, none⟩) HGN.out (.int .u8 0)) (p := ⟨w.heap.size, 1, none⟩) HGN.out (.int .i64 0)) (p := ⟨w.heap.size, 2, none⟩) HGN.out (.int .i64 0)) (p := ⟨w.heap.size, 3, none⟩) HGN.out (.int .i64 0)) (p := ⟨w.heap.size, 4, none⟩) HGN.out (.int .i64 0)) (p := ⟨w.heap.size, 5, none⟩) HGN.out (.int .i64 0)) (p := ⟨w.heap.size, 6, none⟩) HGN.out (.slice none 0 0)), (((((((HBW.out.setCell (p := ⟨w.heap.size, 0, none⟩) (Nat.le_refl _) _).setCell (p := ⟨w.heap.size, 1, none⟩) (Nat.le_refl _) _).setCell (p := ⟨w.heap.size, 2, none⟩) (Nat.le_refl _) _).setCell (p := ⟨w.heap.size, 3, none⟩) (Nat.le_refl _) _).setCell (p := ⟨w.heap.size, 4, none⟩) (Nat.le_refl _) _).setCell (p := ⟨w.heap.size, 5, none⟩) (Nat.le_refl _) _).setCell (p := ⟨w.heap.size, 6, none⟩) (Nat.le_refl _) _)⟩
 have hI := (ins_set (ins_set (ins_set (ins_set (ins_set (ins_set (ins_set HIN.out (p := ⟨w.heap.size, 0, none⟩) HLT.out (.int .u8 0)) (p := ⟨w.heap.size, 1, none⟩) HLT.out (.int .i64 0)) (p := ⟨w.heap.size, 2, none⟩) HLT.out (.int .i64 0)) (p := ⟨w.heap.size, 3, none⟩) HLT.out (.int .i64 0)) (p := ⟨w.heap.size, 4, none⟩) HLT.out (.int .i64 0)) (p := ⟨w.heap.size, 5, none⟩) HLT.out (.int .i64 0)) (p := ⟨w.heap.size, 6, none⟩) HLT.out (.slice none 0 0))
 exact ⟨Nat.le_trans (Nat.le_of_lt HLT.out) hI.1, by obtain ⟨_, v, q1, q2⟩ := hI; exact ⟨v, q1, Kd.R_lower q2 (Nat.le_of_lt HLT.out)⟩⟩
def textA (s : ByteArray) : Except (Int × Int) SC := if (cutR s).2 = 0 then wholeA (cutR s).1 5 else .error ((cutR s).2, 0)
theorem cutR_size (s : ByteArray) : (cutR s).1.size ≤ 65530 := by
 unfold cutR
 split
 ·decide
 ·split
  ·decide
  ·split
   ·decide
   ·split
    ·decide
    ·split
     ·rw [ByteArray.size_extract]; omega
     ·decide
theorem textA_calls (w : World) (s : ByteArray) (hs : s.size ≤ 1000000) (hT : NumT w) (hE : NumE w) : Calls Tryz.prog 11 #[.string s] w fun e w' => ReadPost w e w' (textA s) := by
 have hc : ∀ W, Below w.heap.size w W → Calls Tryz.prog 29 #[.string s] W (OutC W (cutR s)) := fun W hb => cut_calls s hs W (hT.below hb) (hE.below hb)
 unfold textA
 have hz := cutR_size s
 obtain ⟨⟨cb, no⟩, hr⟩ : ∃ r, r = cutR s := ⟨_, rfl⟩
 rw [← hr] at hc hz ⊢
 by_cases h : no = 0
 ·subst h
  rw [if_pos rfl]
  exact text_ok w s cb _ hc (fun W b hb hl hrd => wholeA_calls W b cb 5 (by have : cb.size ≤ 65530 := hz; omega) (by decide) (hE.below hb) hrd)
 ·rw [if_neg h]
  exact text_bad w s cb no (by simpa using h) hc
end Go.Proofs.YtkobpbbegalfpaaGreatDoor
