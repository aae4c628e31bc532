/- Printed texts of this seat, cut to what is used. -/
import Derived.Test.YtakhnigalkjhhaaDoorPTileChecksx0
namespace Go.Proofs.YtakhnigalkjhhaaDoor.PTileChecks
open Go.RowKit Go.Proofs.YtakhnigalkjhhaaDoorW.PrintWords Go.Proofs.YtakhnigalkjhhaaDoorW.PrintLast Go.Proofs.YtakhnigalkjhhaaDoorW.PrintMore
attribute [local go_sem] max2_int min2_int max_two min_two max_three min_three max_four min_four   -- for this text's walks alone
set_option linter.unusedVariables false
set_option linter.unusedSimpArgs false

mutual
def sashref05_Same.j0 : Nat → Bool → Int → Int → Int → Int → Int → Int → List (S26) → Int → Int → Int → Int → Int → Int → List (S26) → Option (Bool)
 | 0, _, _, _, _, _, _, _, _, _, _, _, _, _, _, _ => none
 | k + 1, x33, x285000, x285001, x285002, x285003, x285004, x285005, x285006, x286000, x286001, x286002, x286003, x286004, x286005, x286006 => if x33 = true then (some false) else (sashref05_Same.l0 k (x285006.length : Int) 0 x285000 x285001 x285002 x285003 x285004 x285005 x285006 x286000 x286001 x286002 x286003 x286004 x286005 x286006)
def sashref05_Same.l0 : Nat → Int → Int → Int → Int → Int → Int → Int → Int → List (S26) → Int → Int → Int → Int → Int → Int → List (S26) → Option (Bool)
 | 0, _, _, _, _, _, _, _, _, _, _, _, _, _, _, _, _ => none
 | k + 1, x36, x37, x285000, x285001, x285002, x285003, x285004, x285005, x285006, x286000, x286001, x286002, x286003, x286004, x286005, x286006 => if x37 < x36 then (if 0 ≤ x37 then (if x37 < (x285006.length : Int) then (if x37 < (x286006.length : Int) then ((sashref05_Same.f k ((rd_T26 x285006 x37).f0) ((rd_T26 x285006 x37).f1.f0) ((rd_T26 x285006 x37).f1.f1) ((rd_T26 x285006 x37).f1.f2) ((rd_T26 x285006 x37).f1.f3) ((rd_T26 x285006 x37).f2) ((rd_T26 x285006 x37).f3) ((rd_T26 x286006 x37).f0) ((rd_T26 x286006 x37).f1.f0) ((rd_T26 x286006 x37).f1.f1) ((rd_T26 x286006 x37).f1.f2) ((rd_T26 x286006 x37).f1.f3) ((rd_T26 x286006 x37).f2) ((rd_T26 x286006 x37).f3)).bind fun t288 => (if t288 = true then (sashref05_Same.l0 k x36 (wrap64 (x37 + 1)) x285000 x285001 x285002 x285003 x285004 x285005 x285006 x286000 x286001 x286002 x286003 x286004 x286005 x286006) else (some false))) else (none)) else (none)) else (none)) else (some true)
def sashref05_Same.f : Nat → Int → Int → Int → Int → Int → Int → List (S26) → Int → Int → Int → Int → Int → Int → List (S26) → Option (Bool)
 | 0, _, _, _, _, _, _, _, _, _, _, _, _, _, _ => none
 | k + 1, a0_0, a0_1, a0_2, a0_3, a0_4, a0_5, l0_6, a1_0, a1_1, a1_2, a1_3, a1_4, a1_5, l1_6 => if a0_0 = a1_0 then (if (!(a0_1 == a1_1) || (!(a0_2 == a1_2) || (!(a0_3 == a1_3) || (!(a0_4 == a1_4))))) = true then (sashref05_Same.j0 k true a0_0 a0_1 a0_2 a0_3 a0_4 a0_5 l0_6 a1_0 a1_1 a1_2 a1_3 a1_4 a1_5 l1_6) else (if a0_5 = a1_5 then (sashref05_Same.j0 k ((l0_6.length : Int) != (l1_6.length : Int)) a0_0 a0_1 a0_2 a0_3 a0_4 a0_5 l0_6 a1_0 a1_1 a1_2 a1_3 a1_4 a1_5 l1_6) else (sashref05_Same.j0 k true a0_0 a0_1 a0_2 a0_3 a0_4 a0_5 l0_6 a1_0 a1_1 a1_2 a1_3 a1_4 a1_5 l1_6))) else (sashref05_Same.j0 k true a0_0 a0_1 a0_2 a0_3 a0_4 a0_5 l0_6 a1_0 a1_1 a1_2 a1_3 a1_4 a1_5 l1_6)
end
def sashref05_Same.T6 : Bool × List (List Nat × List Nat) := (true, [([], []), ([0], [0]), ([], []), ([1, 2], [1, 2]), ([3], [3]), ([], []), ([5], [5]), ([], []), ([6, 7], [6, 7]), ([8], [8]), ([4, 9], [4, 9]), ([10], [10])])
def sashref05_Same.B6 : List Nat := [0, 1, 0, 7, 15, 0, 32, 0, 224, 480, 1023, 2047]
theorem sashref05_Same.tab6 : rtab .any (opsOf Tryd.f24 6) = sashref05_Same.T6 := by kernel_rfl
theorem sashref05_Same.bits6 : waitsOk sashref05_Same.T6.2 sashref05_Same.B6 = true := by kernel_rfl
set_option maxHeartbeats 8000000 in
set_option maxRecDepth 100000 in
theorem sashref05_Same.calls (k : Nat) : ∀ (a0_0 : Int) (a0_1 : Int) (a0_2 : Int) (a0_3 : Int) (a0_4 : Int) (a0_5 : Int) (A0_6 : Option Addr) (c0_6 : Nat) (l0_6 : List (S26)) (a1_0 : Int) (a1_1 : Int) (a1_2 : Int) (a1_3 : Int) (a1_4 : Int) (a1_5 : Int) (A1_6 : Option Addr) (c1_6 : Nat) (l1_6 : List (S26)) (r : Bool) (w : World) (hr0_6 : Kd.C k26 w A0_6 l0_6.length l0_6) (hc0_6 : l0_6.length ≤ c0_6) (hr1_6 : Kd.C k26 w A1_6 l1_6.length l1_6) (hc1_6 : l1_6.length ≤ c1_6) (h : sashref05_Same.f k a0_0 a0_1 a0_2 a0_3 a0_4 a0_5 l0_6 a1_0 a1_1 a1_2 a1_3 a1_4 a1_5 l1_6 = some r),
  Calls Tryd.prog 24 #[.agg #[.int .u8 a0_0, .int .i64 a0_1, .int .i64 a0_2, .int .i64 a0_3, .int .i64 a0_4, .int .i64 a0_5, .slice A0_6 l0_6.length c0_6], .agg #[.int .u8 a1_0, .int .i64 a1_1, .int .i64 a1_2, .int .i64 a1_3, .int .i64 a1_4, .int .i64 a1_5, .slice A1_6 l1_6.length c1_6]] w fun e w' => e = .returned (.bool r) ∧ Below w.heap.size w w' := by
 induction k using Nat.strongRecOn with
 | _ k ih =>
 intro a0_0 a0_1 a0_2 a0_3 a0_4 a0_5 A0_6 c0_6 l0_6 a1_0 a1_1 a1_2 a1_3 a1_4 a1_5 A1_6 c1_6 l1_6 r w hr0_6 hc0_6 hr1_6 hc1_6 h
 cases k with
 | zero => exact absurd h (by simp [sashref05_Same.f])
 | succ k =>
 simp only [sashref05_Same.f] at h
 have hu26 := Tryd.underlying26
 have hu23 := Tryd.underlying23
 have HR0_6 := Aside0.mk hr0_6
 have HC0_6 := Aside0.mk hc0_6
 clear hr0_6 hc0_6
 have HR1_6 := Aside0.mk hr1_6
 have HC1_6 := Aside0.mk hc1_6
 clear hr1_6 hc1_6
 have HB := Aside0.mk (Below.refl w.heap.size w)
 have H : (if a0_0 = a1_0 then (if (!(a0_1 == a1_1) || (!(a0_2 == a1_2) || (!(a0_3 == a1_3) || (!(a0_4 == a1_4))))) = true then (sashref05_Same.j0 k true a0_0 a0_1 a0_2 a0_3 a0_4 a0_5 l0_6 a1_0 a1_1 a1_2 a1_3 a1_4 a1_5 l1_6) else (if a0_5 = a1_5 then (sashref05_Same.j0 k ((l0_6.length : Int) != (l1_6.length : Int)) a0_0 a0_1 a0_2 a0_3 a0_4 a0_5 l0_6 a1_0 a1_1 a1_2 a1_3 a1_4 a1_5 l1_6) else (sashref05_Same.j0 k true a0_0 a0_1 a0_2 a0_3 a0_4 a0_5 l0_6 a1_0 a1_1 a1_2 a1_3 a1_4 a1_5 l1_6))) else (sashref05_Same.j0 k true a0_0 a0_1 a0_2 a0_3 a0_4 a0_5 l0_6 a1_0 a1_1 a1_2 a1_3 a1_4 a1_5 l1_6)) = some r := h
 clear h
 have HC3 := Aside0.mk H
 clear H
 go_enter Tryd.func24, Tryd.ntmps24
 go_upto_region 1 with (first | ((with_reducible refine gate_dst (N := 2) rfl ?_); (try (refine gate_guard (by rfl) ?_; dsimp only)); refine box_event ?hg (N := 2) ?hd (cs := #[.int .u8 a0_0, .int .i64 a0_1, .int .i64 a0_2, .int .i64 a0_3, .int .i64 a0_4, .int .i64 a0_5, .slice A0_6 l0_6.length c0_6]) (t := 26) ?hr ?_; (case hd => rfl); (case hg => rfl); (case hr => first | (go_simp; done) | (go_simp; rfl)); intro gb284 hg w4 hbox hb; have n0_ := Aside0.mk (below_step (by repeat (first | (with_reducible first | exact HB.out | apply below_alloc | apply pw_below_drewN | apply below_drew1) | exact HB.out)) hb); have n1_ := Aside0.mk (hbox); have n2_ := Aside0.mk ((by rw [hg]; exact (below_size (by repeat (first | (with_reducible first | exact HB.out | apply below_alloc | apply pw_below_drewN | apply below_drew1) | exact HB.out))) : w.heap.size ≤ gb284)); have n3_ := Aside0.mk ((by rw [hg]; exact (below_size (by repeat (first | (with_reducible first | exact HB.out | apply below_alloc | apply pw_below_drewN | apply below_drew1) | exact HB.out))) : w.heap.size ≤ gb284)); clear HB; have HB := n0_; have BK284 := n1_; have GW284 := n2_; have GE284 := n3_; clear n0_ n1_ n2_ n3_; clear hb hbox hg) | ((with_reducible refine gate_dst (N := 3) rfl ?_); (try (refine gate_guard (by rfl) ?_; dsimp only)); refine box_event ?hg (N := 3) ?hd (cs := #[.int .u8 a1_0, .int .i64 a1_1, .int .i64 a1_2, .int .i64 a1_3, .int .i64 a1_4, .int .i64 a1_5, .slice A1_6 l1_6.length c1_6]) (t := 26) ?hr ?_; (case hd => rfl); (case hg => rfl); (case hr => first | (go_simp; done) | (go_simp; rfl)); intro gb285 hg w5 hbox hb; have n0_ := Aside0.mk (blk_below (g := gb284) (o := .cells #[.int .u8 a0_0, .int .i64 a0_1, .int .i64 a0_2, .int .i64 a0_3, .int .i64 a0_4, .int .i64 a0_5, .slice A0_6 l0_6.length c0_6] 26 (0, 0)) (by (with_reducible repeat (first | refine blk_drewN ?_ _ | refine blk_drew ?_ | refine blk_alloc ?_ _)); exact BK284.out) hb); have n1_ := Aside0.mk (below_step (by repeat (first | (with_reducible first | exact HB.out | apply below_alloc | apply pw_below_drewN | apply below_drew1 | refine below_set ?_ GE284.out) | exact HB.out)) hb); have n2_ := Aside0.mk (hbox); have n3_ := Aside0.mk ((by rw [hg]; exact (below_size (by repeat (first | (with_reducible first | exact HB.out | apply below_alloc | apply pw_below_drewN | apply below_drew1 | refine below_set ?_ GE284.out) | exact HB.out))) : w.heap.size ≤ gb285)); have n4_ := Aside0.mk ((by rw [hg]; exact (below_size (by repeat (first | (with_reducible first | exact HB.out | apply below_alloc | apply pw_below_drewN | apply below_drew1 | refine below_set ?_ GE284.out) | exact HB.out))) : w.heap.size ≤ gb285)); have n5_ := Aside0.mk ((by rw [hg]; exact Nat.ne_of_lt (blk_lt (g := gb284) (o := .cells #[.int .u8 a0_0, .int .i64 a0_1, .int .i64 a0_2, .int .i64 a0_3, .int .i64 a0_4, .int .i64 a0_5, .slice A0_6 l0_6.length c0_6] 26 (0, 0)) (by (with_reducible repeat (first | refine blk_drewN ?_ _ | refine blk_drew ?_ | refine blk_alloc ?_ _)); exact BK284.out)) : gb284 ≠ gb285)); have n6_ := Aside0.mk ((by rw [hg]; exact Nat.ne_of_gt (blk_lt (g := gb284) (o := .cells #[.int .u8 a0_0, .int .i64 a0_1, .int .i64 a0_2, .int .i64 a0_3, .int .i64 a0_4, .int .i64 a0_5, .slice A0_6 l0_6.length c0_6] 26 (0, 0)) (by (with_reducible repeat (first | refine blk_drewN ?_ _ | refine blk_drew ?_ | refine blk_alloc ?_ _)); exact BK284.out)) : gb285 ≠ gb284)); clear BK284; clear HB; have BK284 := n0_; have HB := n1_; have BK285 := n2_; have GW285 := n3_; have GE285 := n4_; have NB284_285 := n5_; have NB285_284 := n6_; clear n0_ n1_ n2_ n3_ n4_ n5_ n6_; clear hb hbox hg))
 (try simp only [Act.put, List.setIfInBounds_toArray, List.set_cons_zero, List.set_cons_succ])
 go_cut [33] (fun v33 wc => ∃ (kq : Nat) (x33_2 : Bool), v33 = .bool x33_2 ∧ Aside0 (sashref05_Same.j0 kq x33_2 a0_0 a0_1 a0_2 a0_3 a0_4 a0_5 l0_6 a1_0 a1_1 a1_2 a1_3 a1_4 a1_5 l1_6 = some r) ∧ Aside0 (kq ≤ k) ∧ Aside0 (wc.heap[gb284]? = some (.cells #[.int .u8 a0_0, .int .i64 a0_1, .int .i64 a0_2, .int .i64 a0_3, .int .i64 a0_4, .int .i64 a0_5, (.slice A0_6 l0_6.length c0_6)] 26 (0, 0))) ∧ Aside0 (wc.heap[gb285]? = some (.cells #[.int .u8 a1_0, .int .i64 a1_1, .int .i64 a1_2, .int .i64 a1_3, .int .i64 a1_4, .int .i64 a1_5, (.slice A1_6 l1_6.length c1_6)] 26 (0, 0))) ∧ Aside0 (Below w.heap.size w wc))
 case first =>
  have H := HC3.out
  clear HC3
  by_cases c6 : a0_0 = a1_0
  ·rw [if_pos c6] at H
   have c6b0 : (a0_0 == a1_0) = true := beq_iff_eq.mpr c6
   have c6b1 : (a0_0 != a1_0) = false := bne_eq_false_iff_eq.mpr c6
   clear c6
   (first | rw [c6b0] | (simp only [i64_w, i32_w]; rw [c6b0]) | skip)
   by_cases c7 : (!(a0_1 == a1_1) || (!(a0_2 == a1_2) || (!(a0_3 == a1_3) || (!(a0_4 == a1_4))))) = true
   ·rw [if_pos c7] at H
    have c7b0 : (!(a0_1 == a1_1) || (!(a0_2 == a1_2) || (!(a0_3 == a1_3) || (!(a0_4 == a1_4))))) = true := c7
    clear c7
    have H' := Aside0.mk H
    clear H
    have hnb8 := NB284_285.out
    have hnc8 := NB285_284.out
    have hcz9_0 : w5.cell? ⟨gb284, 0, none⟩ = some (.int .u8 a0_0) := (blk_cell BK284.out 0).trans rfl
    have hcz9_1 : w5.cell? ⟨gb284, 1, none⟩ = some (.int .i64 a0_1) := (blk_cell BK284.out 1).trans rfl
    have hcz9_2 : w5.cell? ⟨gb284, 2, none⟩ = some (.int .i64 a0_2) := (blk_cell BK284.out 2).trans rfl
    have hcz9_3 : w5.cell? ⟨gb284, 3, none⟩ = some (.int .i64 a0_3) := (blk_cell BK284.out 3).trans rfl
    have hcz9_4 : w5.cell? ⟨gb284, 4, none⟩ = some (.int .i64 a0_4) := (blk_cell BK284.out 4).trans rfl
    have hcz9_5 : w5.cell? ⟨gb284, 5, none⟩ = some (.int .i64 a0_5) := (blk_cell BK284.out 5).trans rfl
    have hcz9_6 : w5.cell? ⟨gb284, 6, none⟩ = some (.slice A0_6 l0_6.length c0_6) := (blk_cell BK284.out 6).trans rfl
    have hfz9_0 := blk_frozen BK284.out 0
    have hfz9_1 := blk_frozen BK284.out 1
    have hfz9_2 := blk_frozen BK284.out 2
    have hfz9_3 := blk_frozen BK284.out 3
    have hfz9_4 := blk_frozen BK284.out 4
    have hfz9_5 := blk_frozen BK284.out 5
    have hfz9_6 := blk_frozen BK284.out 6
    have hcz10_0 : w5.cell? ⟨gb285, 0, none⟩ = some (.int .u8 a1_0) := (blk_cell BK285.out 0).trans rfl
    have hcz10_1 : w5.cell? ⟨gb285, 1, none⟩ = some (.int .i64 a1_1) := (blk_cell BK285.out 1).trans rfl
    have hcz10_2 : w5.cell? ⟨gb285, 2, none⟩ = some (.int .i64 a1_2) := (blk_cell BK285.out 2).trans rfl
    have hcz10_3 : w5.cell? ⟨gb285, 3, none⟩ = some (.int .i64 a1_3) := (blk_cell BK285.out 3).trans rfl
    have hcz10_4 : w5.cell? ⟨gb285, 4, none⟩ = some (.int .i64 a1_4) := (blk_cell BK285.out 4).trans rfl
    have hcz10_5 : w5.cell? ⟨gb285, 5, none⟩ = some (.int .i64 a1_5) := (blk_cell BK285.out 5).trans rfl
    have hcz10_6 : w5.cell? ⟨gb285, 6, none⟩ = some (.slice A1_6 l1_6.length c1_6) := (blk_cell BK285.out 6).trans rfl
    have hfz10_0 := blk_frozen BK285.out 0
    have hfz10_1 := blk_frozen BK285.out 1
    have hfz10_2 := blk_frozen BK285.out 2
    have hfz10_3 := blk_frozen BK285.out 3
    have hfz10_4 := blk_frozen BK285.out 4
    have hfz10_5 := blk_frozen BK285.out 5
    have hfz10_6 := blk_frozen BK285.out 6
    go_wp2
    all_goals (first | (exfalso; (try subst_vars); simp [*] at c7b0; done) | (exfalso; (try subst_vars); simp [*] at c11b0; done) | (try subst_vars))
    all_goals (go_meet; exact ⟨_, (true), (by first | rfl | (simp; done) | (simp [*]; done)), H', ⟨by first | omega | exact Nat.le_refl _⟩, ⟨by (with_reducible repeat (first | refine blk_drewN ?_ _ | refine blk_drew ?_ | refine blk_alloc ?_ _)); exact BK284.out⟩, ⟨by (with_reducible repeat (first | refine blk_drewN ?_ _ | refine blk_drew ?_ | refine blk_alloc ?_ _)); exact BK285.out⟩, ⟨by repeat (first | (with_reducible first | exact HB.out | apply below_alloc | apply pw_below_drewN | apply below_drew1 | refine below_set ?_ GE284.out | refine below_set ?_ GE285.out) | exact HB.out)⟩⟩)
   ·rw [if_neg c7] at H
    have c7b0 : (!(a0_1 == a1_1) || (!(a0_2 == a1_2) || (!(a0_3 == a1_3) || (!(a0_4 == a1_4))))) = false := by simpa using c7
    clear c7
    by_cases c11 : a0_5 = a1_5
    ·rw [if_pos c11] at H
     have c11b0 : (a0_5 == a1_5) = true := beq_iff_eq.mpr c11
     have c11b1 : (a0_5 != a1_5) = false := bne_eq_false_iff_eq.mpr c11
     clear c11
     have H' := Aside0.mk H
     clear H
     have hnb12 := NB284_285.out
     have hnc12 := NB285_284.out
     have hcz13_0 : w5.cell? ⟨gb284, 0, none⟩ = some (.int .u8 a0_0) := (blk_cell BK284.out 0).trans rfl
     have hcz13_1 : w5.cell? ⟨gb284, 1, none⟩ = some (.int .i64 a0_1) := (blk_cell BK284.out 1).trans rfl
     have hcz13_2 : w5.cell? ⟨gb284, 2, none⟩ = some (.int .i64 a0_2) := (blk_cell BK284.out 2).trans rfl
     have hcz13_3 : w5.cell? ⟨gb284, 3, none⟩ = some (.int .i64 a0_3) := (blk_cell BK284.out 3).trans rfl
     have hcz13_4 : w5.cell? ⟨gb284, 4, none⟩ = some (.int .i64 a0_4) := (blk_cell BK284.out 4).trans rfl
     have hcz13_5 : w5.cell? ⟨gb284, 5, none⟩ = some (.int .i64 a0_5) := (blk_cell BK284.out 5).trans rfl
     have hcz13_6 : w5.cell? ⟨gb284, 6, none⟩ = some (.slice A0_6 l0_6.length c0_6) := (blk_cell BK284.out 6).trans rfl
     have hfz13_0 := blk_frozen BK284.out 0
     have hfz13_1 := blk_frozen BK284.out 1
     have hfz13_2 := blk_frozen BK284.out 2
     have hfz13_3 := blk_frozen BK284.out 3
     have hfz13_4 := blk_frozen BK284.out 4
     have hfz13_5 := blk_frozen BK284.out 5
     have hfz13_6 := blk_frozen BK284.out 6
     have hcz14_0 : w5.cell? ⟨gb285, 0, none⟩ = some (.int .u8 a1_0) := (blk_cell BK285.out 0).trans rfl
     have hcz14_1 : w5.cell? ⟨gb285, 1, none⟩ = some (.int .i64 a1_1) := (blk_cell BK285.out 1).trans rfl
     have hcz14_2 : w5.cell? ⟨gb285, 2, none⟩ = some (.int .i64 a1_2) := (blk_cell BK285.out 2).trans rfl
     have hcz14_3 : w5.cell? ⟨gb285, 3, none⟩ = some (.int .i64 a1_3) := (blk_cell BK285.out 3).trans rfl
     have hcz14_4 : w5.cell? ⟨gb285, 4, none⟩ = some (.int .i64 a1_4) := (blk_cell BK285.out 4).trans rfl
     have hcz14_5 : w5.cell? ⟨gb285, 5, none⟩ = some (.int .i64 a1_5) := (blk_cell BK285.out 5).trans rfl
     have hcz14_6 : w5.cell? ⟨gb285, 6, none⟩ = some (.slice A1_6 l1_6.length c1_6) := (blk_cell BK285.out 6).trans rfl
     have hfz14_0 := blk_frozen BK285.out 0
     have hfz14_1 := blk_frozen BK285.out 1
     have hfz14_2 := blk_frozen BK285.out 2
     have hfz14_3 := blk_frozen BK285.out 3
     have hfz14_4 := blk_frozen BK285.out 4
     have hfz14_5 := blk_frozen BK285.out 5
     have hfz14_6 := blk_frozen BK285.out 6
     go_wp2
     all_goals (first | (exfalso; (try subst_vars); simp [*] at c7b0; done) | (exfalso; (try subst_vars); simp [*] at c11b0; done) | (try subst_vars))
     all_goals (go_meet; exact ⟨_, (((l0_6.length : Int) != (l1_6.length : Int))), (by first | rfl | (simp; done) | (simp [*]; done)), H', ⟨by first | omega | exact Nat.le_refl _⟩, ⟨by (with_reducible repeat (first | refine blk_drewN ?_ _ | refine blk_drew ?_ | refine blk_alloc ?_ _)); exact BK284.out⟩, ⟨by (with_reducible repeat (first | refine blk_drewN ?_ _ | refine blk_drew ?_ | refine blk_alloc ?_ _)); exact BK285.out⟩, ⟨by repeat (first | (with_reducible first | exact HB.out | apply below_alloc | apply pw_below_drewN | apply below_drew1 | refine below_set ?_ GE284.out | refine below_set ?_ GE285.out) | exact HB.out)⟩⟩)
    ·rw [if_neg c11] at H
     have c11b0 : (a0_5 == a1_5) = false := beq_eq_false_iff_ne.mpr c11
     have c11b1 : (a0_5 != a1_5) = true := bne_iff_ne.mpr c11
     have H' := Aside0.mk H
     clear H
     have hnb15 := NB284_285.out
     have hnc15 := NB285_284.out
     have hcz16_0 : w5.cell? ⟨gb284, 0, none⟩ = some (.int .u8 a0_0) := (blk_cell BK284.out 0).trans rfl
     have hcz16_1 : w5.cell? ⟨gb284, 1, none⟩ = some (.int .i64 a0_1) := (blk_cell BK284.out 1).trans rfl
     have hcz16_2 : w5.cell? ⟨gb284, 2, none⟩ = some (.int .i64 a0_2) := (blk_cell BK284.out 2).trans rfl
     have hcz16_3 : w5.cell? ⟨gb284, 3, none⟩ = some (.int .i64 a0_3) := (blk_cell BK284.out 3).trans rfl
     have hcz16_4 : w5.cell? ⟨gb284, 4, none⟩ = some (.int .i64 a0_4) := (blk_cell BK284.out 4).trans rfl
     have hcz16_5 : w5.cell? ⟨gb284, 5, none⟩ = some (.int .i64 a0_5) := (blk_cell BK284.out 5).trans rfl
     have hcz16_6 : w5.cell? ⟨gb284, 6, none⟩ = some (.slice A0_6 l0_6.length c0_6) := (blk_cell BK284.out 6).trans rfl
     have hfz16_0 := blk_frozen BK284.out 0
     have hfz16_1 := blk_frozen BK284.out 1
     have hfz16_2 := blk_frozen BK284.out 2
     have hfz16_3 := blk_frozen BK284.out 3
     have hfz16_4 := blk_frozen BK284.out 4
     have hfz16_5 := blk_frozen BK284.out 5
     have hfz16_6 := blk_frozen BK284.out 6
     have hcz17_0 : w5.cell? ⟨gb285, 0, none⟩ = some (.int .u8 a1_0) := (blk_cell BK285.out 0).trans rfl
     have hcz17_1 : w5.cell? ⟨gb285, 1, none⟩ = some (.int .i64 a1_1) := (blk_cell BK285.out 1).trans rfl
     have hcz17_2 : w5.cell? ⟨gb285, 2, none⟩ = some (.int .i64 a1_2) := (blk_cell BK285.out 2).trans rfl
     have hcz17_3 : w5.cell? ⟨gb285, 3, none⟩ = some (.int .i64 a1_3) := (blk_cell BK285.out 3).trans rfl
     have hcz17_4 : w5.cell? ⟨gb285, 4, none⟩ = some (.int .i64 a1_4) := (blk_cell BK285.out 4).trans rfl
     have hcz17_5 : w5.cell? ⟨gb285, 5, none⟩ = some (.int .i64 a1_5) := (blk_cell BK285.out 5).trans rfl
     have hcz17_6 : w5.cell? ⟨gb285, 6, none⟩ = some (.slice A1_6 l1_6.length c1_6) := (blk_cell BK285.out 6).trans rfl
     have hfz17_0 := blk_frozen BK285.out 0
     have hfz17_1 := blk_frozen BK285.out 1
     have hfz17_2 := blk_frozen BK285.out 2
     have hfz17_3 := blk_frozen BK285.out 3
     have hfz17_4 := blk_frozen BK285.out 4
     have hfz17_5 := blk_frozen BK285.out 5
     have hfz17_6 := blk_frozen BK285.out 6
     go_wp2
     all_goals (first | (exfalso; (try subst_vars); simp [*] at c7b0; done) | (exfalso; (try subst_vars); simp [*] at c11b0; done) | (try subst_vars))
     all_goals (go_meet; exact ⟨_, (true), (by first | rfl | (simp; done) | (simp [*]; done)), H', ⟨by first | omega | exact Nat.le_refl _⟩, ⟨by (with_reducible repeat (first | refine blk_drewN ?_ _ | refine blk_drew ?_ | refine blk_alloc ?_ _)); exact BK284.out⟩, ⟨by (with_reducible repeat (first | refine blk_drewN ?_ _ | refine blk_drew ?_ | refine blk_alloc ?_ _)); exact BK285.out⟩, ⟨by repeat (first | (with_reducible first | exact HB.out | apply below_alloc | apply pw_below_drewN | apply below_drew1 | refine below_set ?_ GE284.out | refine below_set ?_ GE285.out) | exact HB.out)⟩⟩)
  ·rw [if_neg c6] at H
   have c6b0 : (a0_0 == a1_0) = false := beq_eq_false_iff_ne.mpr c6
   have c6b1 : (a0_0 != a1_0) = true := bne_iff_ne.mpr c6
   (first | rw [c6b0] | (simp only [i64_w, i32_w]; rw [c6b0]) | skip)
   have H' := Aside0.mk H
   clear H
   have hnb18 := NB284_285.out
   have hnc18 := NB285_284.out
   have hcz19_0 : w5.cell? ⟨gb284, 0, none⟩ = some (.int .u8 a0_0) := (blk_cell BK284.out 0).trans rfl
   have hcz19_1 : w5.cell? ⟨gb284, 1, none⟩ = some (.int .i64 a0_1) := (blk_cell BK284.out 1).trans rfl
   have hcz19_2 : w5.cell? ⟨gb284, 2, none⟩ = some (.int .i64 a0_2) := (blk_cell BK284.out 2).trans rfl
   have hcz19_3 : w5.cell? ⟨gb284, 3, none⟩ = some (.int .i64 a0_3) := (blk_cell BK284.out 3).trans rfl
   have hcz19_4 : w5.cell? ⟨gb284, 4, none⟩ = some (.int .i64 a0_4) := (blk_cell BK284.out 4).trans rfl
   have hcz19_5 : w5.cell? ⟨gb284, 5, none⟩ = some (.int .i64 a0_5) := (blk_cell BK284.out 5).trans rfl
   have hcz19_6 : w5.cell? ⟨gb284, 6, none⟩ = some (.slice A0_6 l0_6.length c0_6) := (blk_cell BK284.out 6).trans rfl
   have hfz19_0 := blk_frozen BK284.out 0
   have hfz19_1 := blk_frozen BK284.out 1
   have hfz19_2 := blk_frozen BK284.out 2
   have hfz19_3 := blk_frozen BK284.out 3
   have hfz19_4 := blk_frozen BK284.out 4
   have hfz19_5 := blk_frozen BK284.out 5
   have hfz19_6 := blk_frozen BK284.out 6
   have hcz20_0 : w5.cell? ⟨gb285, 0, none⟩ = some (.int .u8 a1_0) := (blk_cell BK285.out 0).trans rfl
   have hcz20_1 : w5.cell? ⟨gb285, 1, none⟩ = some (.int .i64 a1_1) := (blk_cell BK285.out 1).trans rfl
   have hcz20_2 : w5.cell? ⟨gb285, 2, none⟩ = some (.int .i64 a1_2) := (blk_cell BK285.out 2).trans rfl
   have hcz20_3 : w5.cell? ⟨gb285, 3, none⟩ = some (.int .i64 a1_3) := (blk_cell BK285.out 3).trans rfl
   have hcz20_4 : w5.cell? ⟨gb285, 4, none⟩ = some (.int .i64 a1_4) := (blk_cell BK285.out 4).trans rfl
   have hcz20_5 : w5.cell? ⟨gb285, 5, none⟩ = some (.int .i64 a1_5) := (blk_cell BK285.out 5).trans rfl
   have hcz20_6 : w5.cell? ⟨gb285, 6, none⟩ = some (.slice A1_6 l1_6.length c1_6) := (blk_cell BK285.out 6).trans rfl
   have hfz20_0 := blk_frozen BK285.out 0
   have hfz20_1 := blk_frozen BK285.out 1
   have hfz20_2 := blk_frozen BK285.out 2
   have hfz20_3 := blk_frozen BK285.out 3
   have hfz20_4 := blk_frozen BK285.out 4
   have hfz20_5 := blk_frozen BK285.out 5
   have hfz20_6 := blk_frozen BK285.out 6
   go_wp2
   go_meet
   case rel => exact ⟨_, (true), (by first | rfl | (simp; done) | (simp [*]; done)), H', ⟨by first | omega | exact Nat.le_refl _⟩, ⟨by (with_reducible repeat (first | refine blk_drewN ?_ _ | refine blk_drew ?_ | refine blk_alloc ?_ _)); exact BK284.out⟩, ⟨by (with_reducible repeat (first | refine blk_drewN ?_ _ | refine blk_drew ?_ | refine blk_alloc ?_ _)); exact BK285.out⟩, ⟨by repeat (first | (with_reducible first | exact HB.out | apply below_alloc | apply pw_below_drewN | apply below_drew1 | refine below_set ?_ GE284.out | refine below_set ?_ GE285.out) | exact HB.out)⟩⟩
 case rest =>
  clear HC3
  try clear c1
  try clear c2
  try clear p2
  try clear c6
  try clear c6b0
  try clear c6b1
  try clear c7
  try clear c7b0
  try clear c8
  try clear c11
  try clear c11b0
  try clear c11b1
  try clear c12
  try clear c15
  try clear c18
  try clear hcz10_0
  try clear hcz10_1
  try clear hcz10_2
  try clear hcz10_3
  try clear hcz10_4
  try clear hcz10_5
  try clear hcz10_6
  try clear hcz13_0
  try clear hcz13_1
  try clear hcz13_2
  try clear hcz13_3
  try clear hcz13_4
  try clear hcz13_5
  try clear hcz13_6
  try clear hcz14_0
  try clear hcz14_1
  try clear hcz14_2
  try clear hcz14_3
  try clear hcz14_4
  try clear hcz14_5
  try clear hcz14_6
  try clear hcz16_0
  try clear hcz16_1
  try clear hcz16_2
  try clear hcz16_3
  try clear hcz16_4
  try clear hcz16_5
  try clear hcz16_6
  try clear hcz17_0
  try clear hcz17_1
  try clear hcz17_2
  try clear hcz17_3
  try clear hcz17_4
  try clear hcz17_5
  try clear hcz17_6
  try clear hcz19_0
  try clear hcz19_1
  try clear hcz19_2
  try clear hcz19_3
  try clear hcz19_4
  try clear hcz19_5
  try clear hcz19_6
  try clear hcz20_0
  try clear hcz20_1
  try clear hcz20_2
  try clear hcz20_3
  try clear hcz20_4
  try clear hcz20_5
  try clear hcz20_6
  try clear hcz9_0
  try clear hcz9_1
  try clear hcz9_2
  try clear hcz9_3
  try clear hcz9_4
  try clear hcz9_5
  try clear hcz9_6
  try clear hfz10_0
  try clear hfz10_1
  try clear hfz10_2
  try clear hfz10_3
  try clear hfz10_4
  try clear hfz10_5
  try clear hfz10_6
  try clear hfz13_0
  try clear hfz13_1
  try clear hfz13_2
  try clear hfz13_3
  try clear hfz13_4
  try clear hfz13_5
  try clear hfz13_6
  try clear hfz14_0
  try clear hfz14_1
  try clear hfz14_2
  try clear hfz14_3
  try clear hfz14_4
  try clear hfz14_5
  try clear hfz14_6
  try clear hfz16_0
  try clear hfz16_1
  try clear hfz16_2
  try clear hfz16_3
  try clear hfz16_4
  try clear hfz16_5
  try clear hfz16_6
  try clear hfz17_0
  try clear hfz17_1
  try clear hfz17_2
  try clear hfz17_3
  try clear hfz17_4
  try clear hfz17_5
  try clear hfz17_6
  try clear hfz19_0
  try clear hfz19_1
  try clear hfz19_2
  try clear hfz19_3
  try clear hfz19_4
  try clear hfz19_5
  try clear hfz19_6
  try clear hfz20_0
  try clear hfz20_1
  try clear hfz20_2
  try clear hfz20_3
  try clear hfz20_4
  try clear hfz20_5
  try clear hfz20_6
  try clear hfz9_0
  try clear hfz9_1
  try clear hfz9_2
  try clear hfz9_3
  try clear hfz9_4
  try clear hfz9_5
  try clear hfz9_6
  obtain ⟨kq, x33_2, rfl, HA, HJ2, BK284, BK285, HB⟩ := hcut
  cases kq with
  | zero => exact absurd HA.out (by simp [sashref05_Same.j0])
  | succ kj2 =>
   have H := HA.out
   clear HA
   simp only [sashref05_Same.j0] at H
   by_cases c21 : x33_2 = true
   ·subst c21
    have H1 : (some false) = some r := by rw [if_pos rfl] at H; exact H
    clear H
    have H := H1
    clear H1
    obtain rfl := Option.some.inj H
    go_wp2
    go_ret
    exact ⟨by first | rfl | (simp [errW_none, errW_some] <;> rfl) | (simp [*, errW_none, errW_some] <;> rfl), by repeat (first | (with_reducible first | exact HB.out | apply below_alloc | apply pw_below_drewN | apply below_drew1 | refine below_set ?_ GE284.out | refine below_set ?_ GE285.out) | exact HB.out)⟩
   ·replace c21 := Bool.eq_false_iff.mpr c21
    subst c21
    have H1 : (sashref05_Same.l0 kj2 (l0_6.length : Int) 0 a0_0 a0_1 a0_2 a0_3 a0_4 a0_5 l0_6 a1_0 a1_1 a1_2 a1_3 a1_4 a1_5 l1_6) = some r := by rw [if_neg (show ¬ (false = true) by decide)] at H; exact H
    clear H
    have H := H1
    clear H1
    have H' := Aside0.mk H
    clear H
    have hnb22 := NB284_285.out
    have hnc22 := NB285_284.out
    have hcz23_0 : wc.cell? ⟨gb284, 0, none⟩ = some (.int .u8 a0_0) := (blk_cell BK284.out 0).trans rfl
    have hcz23_1 : wc.cell? ⟨gb284, 1, none⟩ = some (.int .i64 a0_1) := (blk_cell BK284.out 1).trans rfl
    have hcz23_2 : wc.cell? ⟨gb284, 2, none⟩ = some (.int .i64 a0_2) := (blk_cell BK284.out 2).trans rfl
    have hcz23_3 : wc.cell? ⟨gb284, 3, none⟩ = some (.int .i64 a0_3) := (blk_cell BK284.out 3).trans rfl
    have hcz23_4 : wc.cell? ⟨gb284, 4, none⟩ = some (.int .i64 a0_4) := (blk_cell BK284.out 4).trans rfl
    have hcz23_5 : wc.cell? ⟨gb284, 5, none⟩ = some (.int .i64 a0_5) := (blk_cell BK284.out 5).trans rfl
    have hcz23_6 : wc.cell? ⟨gb284, 6, none⟩ = some (.slice A0_6 l0_6.length c0_6) := (blk_cell BK284.out 6).trans rfl
    have hfz23_0 := blk_frozen BK284.out 0
    have hfz23_1 := blk_frozen BK284.out 1
    have hfz23_2 := blk_frozen BK284.out 2
    have hfz23_3 := blk_frozen BK284.out 3
    have hfz23_4 := blk_frozen BK284.out 4
    have hfz23_5 := blk_frozen BK284.out 5
    have hfz23_6 := blk_frozen BK284.out 6
    go_wp2
    go_loopg [37] kj2 (fun kq v37 w' => ∃ (x37_2 : Int), v37 = .int .i64 x37_2 ∧ Aside0 (sashref05_Same.l0 kq (l0_6.length : Int) x37_2 a0_0 a0_1 a0_2 a0_3 a0_4 a0_5 l0_6 a1_0 a1_1 a1_2 a1_3 a1_4 a1_5 l1_6 = some r) ∧ Aside0 (kq ≤ kj2) ∧ Aside0 (w'.heap[gb284]? = some (.cells #[.int .u8 a0_0, .int .i64 a0_1, .int .i64 a0_2, .int .i64 a0_3, .int .i64 a0_4, .int .i64 a0_5, (.slice A0_6 l0_6.length c0_6)] 26 (0, 0))) ∧ Aside0 (w'.heap[gb285]? = some (.cells #[.int .u8 a1_0, .int .i64 a1_1, .int .i64 a1_2, .int .i64 a1_3, .int .i64 a1_4, .int .i64 a1_5, (.slice A1_6 l1_6.length c1_6)] 26 (0, 0))) ∧ Aside0 (Below w.heap.size w w'))
    case atStart => exact ⟨(0), (by first | rfl | (simp; done) | (simp [*]; done)), H', ⟨Nat.le_refl _⟩, ⟨by (with_reducible repeat (first | refine blk_drewN ?_ _ | refine blk_drew ?_ | refine blk_alloc ?_ _)); exact BK284.out⟩, ⟨by (with_reducible repeat (first | refine blk_drewN ?_ _ | refine blk_drew ?_ | refine blk_alloc ?_ _)); exact BK285.out⟩, ⟨by repeat (first | (with_reducible first | exact HB.out | apply below_alloc | apply pw_below_drewN | apply below_drew1 | refine below_set ?_ GE284.out | refine below_set ?_ GE285.out) | exact HB.out)⟩⟩
    case round =>
     clear H'
     try clear c1
     try clear c2
     try clear p2
     try clear c6
     try clear c6b0
     try clear c6b1
     try clear c7
     try clear c7b0
     try clear c8
     try clear c11
     try clear c11b0
     try clear c11b1
     try clear c12
     try clear c15
     try clear c18
     try clear c21
     try clear c22
     try clear hcz10_0
     try clear hcz10_1
     try clear hcz10_2
     try clear hcz10_3
     try clear hcz10_4
     try clear hcz10_5
     try clear hcz10_6
     try clear hcz13_0
     try clear hcz13_1
     try clear hcz13_2
     try clear hcz13_3
     try clear hcz13_4
     try clear hcz13_5
     try clear hcz13_6
     try clear hcz14_0
     try clear hcz14_1
     try clear hcz14_2
     try clear hcz14_3
     try clear hcz14_4
     try clear hcz14_5
     try clear hcz14_6
     try clear hcz16_0
     try clear hcz16_1
     try clear hcz16_2
     try clear hcz16_3
     try clear hcz16_4
     try clear hcz16_5
     try clear hcz16_6
     try clear hcz17_0
     try clear hcz17_1
     try clear hcz17_2
     try clear hcz17_3
     try clear hcz17_4
     try clear hcz17_5
     try clear hcz17_6
     try clear hcz19_0
     try clear hcz19_1
     try clear hcz19_2
     try clear hcz19_3
     try clear hcz19_4
     try clear hcz19_5
     try clear hcz19_6
     try clear hcz20_0
     try clear hcz20_1
     try clear hcz20_2
     try clear hcz20_3
     try clear hcz20_4
     try clear hcz20_5
     try clear hcz20_6
     try clear hcz23_0
     try clear hcz23_1
     try clear hcz23_2
     try clear hcz23_3
     try clear hcz23_4
     try clear hcz23_5
     try clear hcz23_6
     try clear hcz9_0
     try clear hcz9_1
     try clear hcz9_2
     try clear hcz9_3
     try clear hcz9_4
     try clear hcz9_5
     try clear hcz9_6
     try clear hfz10_0
     try clear hfz10_1
     try clear hfz10_2
     try clear hfz10_3
     try clear hfz10_4
     try clear hfz10_5
     try clear hfz10_6
     try clear hfz13_0
     try clear hfz13_1
     try clear hfz13_2
     try clear hfz13_3
     try clear hfz13_4
     try clear hfz13_5
     try clear hfz13_6
     try clear hfz14_0
     try clear hfz14_1
     try clear hfz14_2
     try clear hfz14_3
     try clear hfz14_4
     try clear hfz14_5
     try clear hfz14_6
     try clear hfz16_0
     try clear hfz16_1
     try clear hfz16_2
     try clear hfz16_3
     try clear hfz16_4
     try clear hfz16_5
     try clear hfz16_6
     try clear hfz17_0
     try clear hfz17_1
     try clear hfz17_2
     try clear hfz17_3
     try clear hfz17_4
     try clear hfz17_5
     try clear hfz17_6
     try clear hfz19_0
     try clear hfz19_1
     try clear hfz19_2
     try clear hfz19_3
     try clear hfz19_4
     try clear hfz19_5
     try clear hfz19_6
     try clear hfz20_0
     try clear hfz20_1
     try clear hfz20_2
     try clear hfz20_3
     try clear hfz20_4
     try clear hfz20_5
     try clear hfz20_6
     try clear hfz23_0
     try clear hfz23_1
     try clear hfz23_2
     try clear hfz23_3
     try clear hfz23_4
     try clear hfz23_5
     try clear hfz23_6
     try clear hfz9_0
     try clear hfz9_1
     try clear hfz9_2
     try clear hfz9_3
     try clear hfz9_4
     try clear hfz9_5
     try clear hfz9_6
     try clear p2
     obtain ⟨x37_2, rfl, HA, HK2, BK284, BK285, HB⟩ := hrel
     cases gk with
     | zero => exact absurd HA.out (by simp [sashref05_Same.l0])
     | succ k2 =>
      have H := HA.out
      clear HA
      simp only [sashref05_Same.l0] at H
      by_cases c24 : x37_2 < (l0_6.length : Int)
      ·rw [if_pos c24] at H
       have c24b0 : decide (x37_2 < (l0_6.length : Int)) = true := decide_eq_true c24
       clear c24
       by_cases c25 : 0 ≤ x37_2
       ·rw [if_pos c25] at H
        have c25b0 : decide (0 ≤ x37_2) = true := decide_eq_true c25
        clear c25
        by_cases c26 : x37_2 < (l0_6.length : Int)
        ·rw [if_pos c26] at H
         have c26b0 : decide (x37_2 < (l0_6.length : Int)) = true := decide_eq_true c26
         clear c26
         by_cases c27 : x37_2 < (l1_6.length : Int)
         ·rw [if_pos c27] at H
          have c27b0 : decide (x37_2 < (l1_6.length : Int)) = true := decide_eq_true c27
          clear c27
          replace H := Option.bind_eq_some_iff.mp H
          obtain ⟨t288, A280, H⟩ := H
          replace H : (if t288 = true then (sashref05_Same.l0 k2 (l0_6.length : Int) (wrap64 (x37_2 + 1)) a0_0 a0_1 a0_2 a0_3 a0_4 a0_5 l0_6 a1_0 a1_1 a1_2 a1_3 a1_4 a1_5 l1_6) else (some false)) = some r := H
          have A28 := Aside0.mk A280
          clear A280
          by_cases c29 : t288 = true
          ·subst c29
           have H1 : (sashref05_Same.l0 k2 (l0_6.length : Int) (wrap64 (x37_2 + 1)) a0_0 a0_1 a0_2 a0_3 a0_4 a0_5 l0_6 a1_0 a1_1 a1_2 a1_3 a1_4 a1_5 l1_6) = some r := by rw [if_pos rfl] at H; exact H
           clear H
           have H := H1
           clear H1
           have H' := Aside0.mk H
           clear H
           try go_wp2
           have n0_ := Aside0.mk (blk_drew BK284.out)
           have n1_ := Aside0.mk (blk_drew BK285.out)
           have n2_ := Aside0.mk (below_drew1 HB.out)
           clear BK284
           clear BK285
           clear HB
           have BK284 := n0_
           have BK285 := n1_
           have HB := n2_
           clear n0_ n1_ n2_
           have p286 : 0 ≤ (x37_2 : Int) := of_decide_eq_true (by first | (with_reducible assumption) | assumption)
           have q286 : x37_2 < (l0_6.length : Int) := of_decide_eq_true (by first | (with_reducible assumption) | assumption)
           obtain ⟨ad286, A286_6, c286_6, e286, hx286_0, hx286_1, hx286_2, hx286_3, hx286_4, hx286_5, hx286_6, hl286_6, hi286_6⟩ := at_T26 HR0_6.out x37_2 p286 q286
           have hw286_6 := hx286_6
           have hw286_5 := hx286_5
           have hw286_4 := hx286_4
           have hw286_3 := hx286_3
           have hw286_2 := hx286_2
           have hw286_1 := hx286_1
           have hw286_0 := hx286_0
           cases e286
           replace hx286_0 := (HB.out.cell (World.block_lt_of_cell? w _ hx286_0)).trans hx286_0
           replace hx286_1 := (HB.out.cell (World.block_lt_of_cell? w _ hx286_1)).trans hx286_1
           replace hx286_2 := (HB.out.cell (World.block_lt_of_cell? w _ hx286_2)).trans hx286_2
           replace hx286_3 := (HB.out.cell (World.block_lt_of_cell? w _ hx286_3)).trans hx286_3
           replace hx286_4 := (HB.out.cell (World.block_lt_of_cell? w _ hx286_4)).trans hx286_4
           replace hx286_5 := (HB.out.cell (World.block_lt_of_cell? w _ hx286_5)).trans hx286_5
           replace hx286_6 := (HB.out.cell (World.block_lt_of_cell? w _ hx286_6)).trans hx286_6
           have HR286_6 := Aside0.mk hi286_6
           have HC286_6 := Aside0.mk hl286_6
           clear hi286_6 hl286_6
           replace p286 := eq_true p286
           replace q286 := eq_true q286
           have p287 : 0 ≤ (x37_2 : Int) := of_decide_eq_true (by first | (with_reducible assumption) | assumption)
           have q287 : x37_2 < (l1_6.length : Int) := of_decide_eq_true (by first | (with_reducible assumption) | assumption)
           obtain ⟨ad287, A287_6, c287_6, e287, hx287_0, hx287_1, hx287_2, hx287_3, hx287_4, hx287_5, hx287_6, hl287_6, hi287_6⟩ := at_T26 HR1_6.out x37_2 p287 q287
           have hw287_6 := hx287_6
           have hw287_5 := hx287_5
           have hw287_4 := hx287_4
           have hw287_3 := hx287_3
           have hw287_2 := hx287_2
           have hw287_1 := hx287_1
           have hw287_0 := hx287_0
           cases e287
           replace hx287_0 := (HB.out.cell (World.block_lt_of_cell? w _ hx287_0)).trans hx287_0
           replace hx287_1 := (HB.out.cell (World.block_lt_of_cell? w _ hx287_1)).trans hx287_1
           replace hx287_2 := (HB.out.cell (World.block_lt_of_cell? w _ hx287_2)).trans hx287_2
           replace hx287_3 := (HB.out.cell (World.block_lt_of_cell? w _ hx287_3)).trans hx287_3
           replace hx287_4 := (HB.out.cell (World.block_lt_of_cell? w _ hx287_4)).trans hx287_4
           replace hx287_5 := (HB.out.cell (World.block_lt_of_cell? w _ hx287_5)).trans hx287_5
           replace hx287_6 := (HB.out.cell (World.block_lt_of_cell? w _ hx287_6)).trans hx287_6
           have HR287_6 := Aside0.mk hi287_6
           have HC287_6 := Aside0.mk hl287_6
           clear hi287_6 hl287_6
           replace p287 := eq_true p287
           replace q287 := eq_true q287
           refine start_ (n := 12) (S := fun w' => w'.cell? ⟨gb284, 0, none⟩ = some (.int .u8 a0_0) ∧ w'.cell? ⟨gb284, 1, none⟩ = some (.int .i64 a0_1) ∧ w'.cell? ⟨gb284, 2, none⟩ = some (.int .i64 a0_2) ∧ w'.cell? ⟨gb284, 3, none⟩ = some (.int .i64 a0_3) ∧ w'.cell? ⟨gb284, 4, none⟩ = some (.int .i64 a0_4) ∧ w'.cell? ⟨gb284, 5, none⟩ = some (.int .i64 a0_5) ∧ w'.cell? ⟨gb284, 6, none⟩ = some (.slice (some ad286) l0_6.length c0_6) ∧ w'.cell? ⟨gb285, 0, none⟩ = some (.int .u8 a1_0) ∧ w'.cell? ⟨gb285, 1, none⟩ = some (.int .i64 a1_1) ∧ w'.cell? ⟨gb285, 2, none⟩ = some (.int .i64 a1_2) ∧ w'.cell? ⟨gb285, 3, none⟩ = some (.int .i64 a1_3) ∧ w'.cell? ⟨gb285, 4, none⟩ = some (.int .i64 a1_4) ∧ w'.cell? ⟨gb285, 5, none⟩ = some (.int .i64 a1_5) ∧ w'.cell? ⟨gb285, 6, none⟩ = some (.slice (some ad287) l1_6.length c1_6) ∧ w'.cell? (ad286.add ((x37_2).toNat * 7)) = some (.int .u8 ((rd_T26 l0_6 x37_2).f0)) ∧ w'.cell? ⟨(ad286.add ((x37_2).toNat * 7)).block, (ad286.add ((x37_2).toNat * 7)).off + 1, none⟩ = some (.int .i64 ((rd_T26 l0_6 x37_2).f1.f0)) ∧ w'.cell? ⟨(ad286.add ((x37_2).toNat * 7)).block, (ad286.add ((x37_2).toNat * 7)).off + 2, none⟩ = some (.int .i64 ((rd_T26 l0_6 x37_2).f1.f1)) ∧ w'.cell? ⟨(ad286.add ((x37_2).toNat * 7)).block, (ad286.add ((x37_2).toNat * 7)).off + 3, none⟩ = some (.int .i64 ((rd_T26 l0_6 x37_2).f1.f2)) ∧ w'.cell? ⟨(ad286.add ((x37_2).toNat * 7)).block, (ad286.add ((x37_2).toNat * 7)).off + 4, none⟩ = some (.int .i64 ((rd_T26 l0_6 x37_2).f1.f3)) ∧ w'.cell? ⟨(ad286.add ((x37_2).toNat * 7)).block, (ad286.add ((x37_2).toNat * 7)).off + 5, none⟩ = some (.int .i64 ((rd_T26 l0_6 x37_2).f2)) ∧ w'.cell? ⟨(ad286.add ((x37_2).toNat * 7)).block, (ad286.add ((x37_2).toNat * 7)).off + 6, none⟩ = some (.slice A286_6 ((rd_T26 l0_6 x37_2).f3).length c286_6) ∧ w'.cell? (ad287.add ((x37_2).toNat * 7)) = some (.int .u8 ((rd_T26 l1_6 x37_2).f0)) ∧ w'.cell? ⟨(ad287.add ((x37_2).toNat * 7)).block, (ad287.add ((x37_2).toNat * 7)).off + 1, none⟩ = some (.int .i64 ((rd_T26 l1_6 x37_2).f1.f0)) ∧ w'.cell? ⟨(ad287.add ((x37_2).toNat * 7)).block, (ad287.add ((x37_2).toNat * 7)).off + 2, none⟩ = some (.int .i64 ((rd_T26 l1_6 x37_2).f1.f1)) ∧ w'.cell? ⟨(ad287.add ((x37_2).toNat * 7)).block, (ad287.add ((x37_2).toNat * 7)).off + 3, none⟩ = some (.int .i64 ((rd_T26 l1_6 x37_2).f1.f2)) ∧ w'.cell? ⟨(ad287.add ((x37_2).toNat * 7)).block, (ad287.add ((x37_2).toNat * 7)).off + 4, none⟩ = some (.int .i64 ((rd_T26 l1_6 x37_2).f1.f3)) ∧ w'.cell? ⟨(ad287.add ((x37_2).toNat * 7)).block, (ad287.add ((x37_2).toNat * 7)).off + 5, none⟩ = some (.int .i64 ((rd_T26 l1_6 x37_2).f2)) ∧ w'.cell? ⟨(ad287.add ((x37_2).toNat * 7)).block, (ad287.add ((x37_2).toNat * 7)).off + 6, none⟩ = some (.slice A287_6 ((rd_T26 l1_6 x37_2).f3).length c287_6)) (ds := []) #[false, false, false, false, false, false, false, false, false, false, false, false] (by kernel_rfl) rfl rfl ⟨(blk_cell BK284.out 0).trans rfl, (blk_cell BK284.out 1).trans rfl, (blk_cell BK284.out 2).trans rfl, (blk_cell BK284.out 3).trans rfl, (blk_cell BK284.out 4).trans rfl, (blk_cell BK284.out 5).trans rfl, (blk_cell BK284.out 6).trans rfl, (blk_cell BK285.out 0).trans rfl, (blk_cell BK285.out 1).trans rfl, (blk_cell BK285.out 2).trans rfl, (blk_cell BK285.out 3).trans rfl, (blk_cell BK285.out 4).trans rfl, (blk_cell BK285.out 5).trans rfl, (blk_cell BK285.out 6).trans rfl, ((HB.out.cell (World.block_lt_of_cell? w _ hw286_0)).trans hw286_0), ((HB.out.cell (World.block_lt_of_cell? w _ hw286_1)).trans hw286_1), ((HB.out.cell (World.block_lt_of_cell? w _ hw286_2)).trans hw286_2), ((HB.out.cell (World.block_lt_of_cell? w _ hw286_3)).trans hw286_3), ((HB.out.cell (World.block_lt_of_cell? w _ hw286_4)).trans hw286_4), ((HB.out.cell (World.block_lt_of_cell? w _ hw286_5)).trans hw286_5), ((HB.out.cell (World.block_lt_of_cell? w _ hw286_6)).trans hw286_6), ((HB.out.cell (World.block_lt_of_cell? w _ hw287_0)).trans hw287_0), ((HB.out.cell (World.block_lt_of_cell? w _ hw287_1)).trans hw287_1), ((HB.out.cell (World.block_lt_of_cell? w _ hw287_2)).trans hw287_2), ((HB.out.cell (World.block_lt_of_cell? w _ hw287_3)).trans hw287_3), ((HB.out.cell (World.block_lt_of_cell? w _ hw287_4)).trans hw287_4), ((HB.out.cell (World.block_lt_of_cell? w _ hw287_5)).trans hw287_5), ((HB.out.cell (World.block_lt_of_cell? w _ hw287_6)).trans hw287_6)⟩ (fun hHeld => ?_); refine with_tabW sashref05_Same.tab6 sashref05_Same.bits6 (fun HT_ HW_ => ?_)
           generalize wr.drew = w30 at BK284 BK285 HB HR286_6 HR287_6 hx286_0 hx286_1 hx286_2 hx286_3 hx286_4 hx286_5 hx286_6 hx287_0 hx287_1 hx287_2 hx287_3 hx287_4 hx287_5 hx287_6 hHeld ⊢
           refine pure_ (i := 0) (N := some 40) (v := ?_) (a' := ?_) #[true, false, false, false, false, false, false, false, false, false, false, false] rfl rfl (any_of HT_.out (by kernel_rfl)) (fun _ _ _ h => h) (Or.inl ⟨by rfl, ?_⟩) ?_ ?_
           rotate_left
           ·intro w'
            go_simp
            with_reducible rfl
           rotate_left
           ·simp only [Act.put, List.setIfInBounds_toArray, List.set_cons_zero, List.set_cons_succ, i64_w, i32_w]
            rfl
           refine pure_ (i := 2) (N := some 42) (v := ?_) (a' := ?_) #[true, false, true, false, false, false, false, false, false, false, false, false] rfl rfl (any_of HT_.out (by kernel_rfl)) (fun _ _ _ h => h) (Or.inl ⟨by rfl, ?_⟩) ?_ ?_
           rotate_left
           ·intro w'
            go_simp
            with_reducible rfl
           rotate_left
           ·simp only [Act.put, List.setIfInBounds_toArray, List.set_cons_zero, List.set_cons_succ, i64_w, i32_w]
            rfl
           refine pure_ (i := 5) (N := some 45) (v := ?_) (a' := ?_) #[true, false, true, false, false, true, false, false, false, false, false, false] rfl rfl (any_of HT_.out (by kernel_rfl)) (fun _ _ _ h => h) (Or.inl ⟨by rfl, ?_⟩) ?_ ?_
           rotate_left
           ·intro w'
            go_simp
            with_reducible rfl
           rotate_left
           ·simp only [Act.put, List.setIfInBounds_toArray, List.set_cons_zero, List.set_cons_succ, i64_w, i32_w]
            rfl
           refine pure_ (i := 7) (N := some 47) (v := ?_) (a' := ?_) #[true, false, true, false, false, true, false, true, false, false, false, false] rfl rfl (any_of HT_.out (by kernel_rfl)) (fun _ _ _ h => h) (Or.inl ⟨by rfl, ?_⟩) ?_ ?_
           rotate_left
           ·intro w'
            go_simp
            with_reducible rfl
           rotate_left
           ·simp only [Act.put, List.setIfInBounds_toArray, List.set_cons_zero, List.set_cons_succ, i64_w, i32_w]
            rfl
           refine take_ (i := 1) (N := some 41) (v := ?_) (a' := ?_) #[true, true, true, false, false, true, false, true, false, false, false, false] rfl rfl (take_ofW HT_.out HW_.out (by kernel_rfl)) (fun _ _ _ h => h) (Or.inl ⟨by rfl, ?_⟩) hHeld ?_ ?_
           rotate_left
           ·rintro w' ⟨s0, s1, s2, s3, s4, s5, s6, s7, s8, s9, s10, s11, s12, s13, s14, s15, s16, s17, s18, s19, s20, s21, s22, s23, s24, s25, s26, s27⟩
            go_simp
            with_reducible rfl
           rotate_left
           ·simp only [Act.put, List.setIfInBounds_toArray, List.set_cons_zero, List.set_cons_succ, i64_w, i32_w]
            rfl
           refine pure_ (i := 3) (N := some 43) (v := ?_) (a' := ?_) #[true, true, true, true, false, true, false, true, false, false, false, false] rfl rfl (any_of HT_.out (by kernel_rfl)) (fun _ _ _ h => h) (Or.inl ⟨by rfl, ?_⟩) ?_ ?_
           rotate_left
           ·intro w'
            go_simp
            with_reducible rfl
           rotate_left
           ·simp only [Act.put, List.setIfInBounds_toArray, List.set_cons_zero, List.set_cons_succ, i64_w, i32_w]
            rfl
           refine take_ (i := 4) (N := some 44) (v := ?_) (a' := ?_) #[true, true, true, true, true, true, false, true, false, false, false, false] rfl rfl (take_ofW HT_.out HW_.out (by kernel_rfl)) (fun _ _ _ h => h) (Or.inl ⟨by rfl, ?_⟩) hHeld ?_ ?_
           rotate_left
           ·rintro w' ⟨s0, s1, s2, s3, s4, s5, s6, s7, s8, s9, s10, s11, s12, s13, s14, s15, s16, s17, s18, s19, s20, s21, s22, s23, s24, s25, s26, s27⟩
            go_simp
            with_reducible rfl
           rotate_left
           ·simp only [Act.put, List.setIfInBounds_toArray, List.set_cons_zero, List.set_cons_succ, i64_w, i32_w]
            rfl
           refine take_ (i := 6) (N := some 46) (v := ?_) (a' := ?_) #[true, true, true, true, true, true, true, true, false, false, false, false] rfl rfl (take_ofW HT_.out HW_.out (by kernel_rfl)) (fun _ _ _ h => h) (Or.inl ⟨by rfl, ?_⟩) hHeld ?_ ?_
           rotate_left
           ·rintro w' ⟨s0, s1, s2, s3, s4, s5, s6, s7, s8, s9, s10, s11, s12, s13, s14, s15, s16, s17, s18, s19, s20, s21, s22, s23, s24, s25, s26, s27⟩
            go_simp
            with_reducible rfl
           rotate_left
           ·simp only [Act.put, List.setIfInBounds_toArray, List.set_cons_zero, List.set_cons_succ, i64_w, i32_w]
            rfl
           refine pure_ (i := 8) (N := some 48) (v := ?_) (a' := ?_) #[true, true, true, true, true, true, true, true, true, false, false, false] rfl rfl (any_of HT_.out (by kernel_rfl)) (fun _ _ _ h => h) (Or.inl ⟨by rfl, ?_⟩) ?_ ?_
           rotate_left
           ·intro w'
            go_simp
            with_reducible rfl
           rotate_left
           ·simp only [Act.put, List.setIfInBounds_toArray, List.set_cons_zero, List.set_cons_succ, i64_w, i32_w]
            rfl
           refine take_ (i := 9) (N := some 49) (v := ?_) (a' := ?_) #[true, true, true, true, true, true, true, true, true, true, false, false] rfl rfl (take_ofW HT_.out HW_.out (by kernel_rfl)) (fun _ _ _ h => h) (Or.inl ⟨by rfl, ?_⟩) hHeld ?_ ?_
           rotate_left
           ·rintro w' ⟨s0, s1, s2, s3, s4, s5, s6, s7, s8, s9, s10, s11, s12, s13, s14, s15, s16, s17, s18, s19, s20, s21, s22, s23, s24, s25, s26, s27⟩
            go_simp
            with_reducible rfl
           rotate_left
           ·simp only [Act.put, List.setIfInBounds_toArray, List.set_cons_zero, List.set_cons_succ, i64_w, i32_w]
            rfl
           refine one_ (i := 10) (N := some 50) #[true, true, true, true, true, true, true, true, true, true, true, false] rfl rfl (one_of HT_.out (by kernel_rfl)) (by decide) (fun K hK => ?_)
           refine goes_ Tryd.func24 (by kernel_rfl) rfl #[.agg #[.int .u8 ((rd_T26 l0_6 x37_2).f0), .int .i64 ((rd_T26 l0_6 x37_2).f1.f0), .int .i64 ((rd_T26 l0_6 x37_2).f1.f1), .int .i64 ((rd_T26 l0_6 x37_2).f1.f2), .int .i64 ((rd_T26 l0_6 x37_2).f1.f3), .int .i64 ((rd_T26 l0_6 x37_2).f2), .slice A286_6 ((rd_T26 l0_6 x37_2).f3).length c286_6], .agg #[.int .u8 ((rd_T26 l1_6 x37_2).f0), .int .i64 ((rd_T26 l1_6 x37_2).f1.f0), .int .i64 ((rd_T26 l1_6 x37_2).f1.f1), .int .i64 ((rd_T26 l1_6 x37_2).f1.f2), .int .i64 ((rd_T26 l1_6 x37_2).f1.f3), .int .i64 ((rd_T26 l1_6 x37_2).f2), .slice A287_6 ((rd_T26 l1_6 x37_2).f3).length c287_6]] (by rfl) rfl rfl (by (try simp only [List.map_toArray, List.map_cons, List.map_nil]); first | done | rfl | (simp only [List.length_drop, List.length_take]; rfl)) ?_
           with_reducible refine (ih k2 (by have := HJ2.out; have := HK2.out; omega) ((rd_T26 l0_6 x37_2).f0) ((rd_T26 l0_6 x37_2).f1.f0) ((rd_T26 l0_6 x37_2).f1.f1) ((rd_T26 l0_6 x37_2).f1.f2) ((rd_T26 l0_6 x37_2).f1.f3) ((rd_T26 l0_6 x37_2).f2) _ _ ((rd_T26 l0_6 x37_2).f3) ((rd_T26 l1_6 x37_2).f0) ((rd_T26 l1_6 x37_2).f1.f0) ((rd_T26 l1_6 x37_2).f1.f1) ((rd_T26 l1_6 x37_2).f1.f2) ((rd_T26 l1_6 x37_2).f1.f3) ((rd_T26 l1_6 x37_2).f2) _ _ ((rd_T26 l1_6 x37_2).f3) true _ ?side1 ?side2 ?side3 ?side4 A28.out).mono ?_
           (case side1 => repeat (first | exact (Kd.C_below HR286_6.out HB.out) | (with_reducible refine Kd.C_alloc ?_ _) | (with_reducible refine Kd.C_drewN ?_ _) | (with_reducible refine Kd.C_drew ?_)))
           (case side2 => exact HC286_6.out)
           (case side3 => repeat (first | exact (Kd.C_below HR287_6.out HB.out) | (with_reducible refine Kd.C_alloc ?_ _) | (with_reducible refine Kd.C_drewN ?_ _) | (with_reducible refine Kd.C_drew ?_)))
           (case side4 => exact HC287_6.out)
           rintro e w31 ⟨rfl, hb⟩
           refine ⟨_, rfl, ?_⟩
           have n0_ := Aside0.mk (blk_below (g := gb284) (o := .cells #[.int .u8 a0_0, .int .i64 a0_1, .int .i64 a0_2, .int .i64 a0_3, .int .i64 a0_4, .int .i64 a0_5, .slice (some ad286) l0_6.length c0_6] 26 (0, 0)) (by (with_reducible repeat (first | refine blk_drewN ?_ _ | refine blk_drew ?_ | refine blk_alloc ?_ _)); exact BK284.out) hb)
           have n1_ := Aside0.mk (blk_below (g := gb285) (o := .cells #[.int .u8 a1_0, .int .i64 a1_1, .int .i64 a1_2, .int .i64 a1_3, .int .i64 a1_4, .int .i64 a1_5, .slice (some ad287) l1_6.length c1_6] 26 (0, 0)) (by (with_reducible repeat (first | refine blk_drewN ?_ _ | refine blk_drew ?_ | refine blk_alloc ?_ _)); exact BK285.out) hb)
           have n2_ := Aside0.mk (below_step (by repeat (first | (with_reducible first | exact HB.out | apply below_alloc | apply pw_below_drewN | apply below_drew1 | refine below_set ?_ GE284.out | refine below_set ?_ GE285.out) | exact HB.out)) hb)
           clear BK284
           clear BK285
           clear HB
           have BK284 := n0_
           have BK285 := n1_
           have HB := n2_
           clear n0_ n1_ n2_
           (try clear hb)
           (try clear hb2)
           (try clear hk)
           (try clear hi)
           refine hK.out _ _ ⟨(blk_cell BK284.out 0).trans rfl, (blk_cell BK284.out 1).trans rfl, (blk_cell BK284.out 2).trans rfl, (blk_cell BK284.out 3).trans rfl, (blk_cell BK284.out 4).trans rfl, (blk_cell BK284.out 5).trans rfl, (blk_cell BK284.out 6).trans rfl, (blk_cell BK285.out 0).trans rfl, (blk_cell BK285.out 1).trans rfl, (blk_cell BK285.out 2).trans rfl, (blk_cell BK285.out 3).trans rfl, (blk_cell BK285.out 4).trans rfl, (blk_cell BK285.out 5).trans rfl, (blk_cell BK285.out 6).trans rfl, ((HB.out.cell (World.block_lt_of_cell? w _ hw286_0)).trans hw286_0), ((HB.out.cell (World.block_lt_of_cell? w _ hw286_1)).trans hw286_1), ((HB.out.cell (World.block_lt_of_cell? w _ hw286_2)).trans hw286_2), ((HB.out.cell (World.block_lt_of_cell? w _ hw286_3)).trans hw286_3), ((HB.out.cell (World.block_lt_of_cell? w _ hw286_4)).trans hw286_4), ((HB.out.cell (World.block_lt_of_cell? w _ hw286_5)).trans hw286_5), ((HB.out.cell (World.block_lt_of_cell? w _ hw286_6)).trans hw286_6), ((HB.out.cell (World.block_lt_of_cell? w _ hw287_0)).trans hw287_0), ((HB.out.cell (World.block_lt_of_cell? w _ hw287_1)).trans hw287_1), ((HB.out.cell (World.block_lt_of_cell? w _ hw287_2)).trans hw287_2), ((HB.out.cell (World.block_lt_of_cell? w _ hw287_3)).trans hw287_3), ((HB.out.cell (World.block_lt_of_cell? w _ hw287_4)).trans hw287_4), ((HB.out.cell (World.block_lt_of_cell? w _ hw287_5)).trans hw287_5), ((HB.out.cell (World.block_lt_of_cell? w _ hw287_6)).trans hw287_6)⟩ (fun hHeld => ?_)
           clear hK K
           refine norm_ (a' := ?_) ?_ ?_
           rotate_left
           ·show Act.put _ (some 50) _ = _
            simp only [Act.put, List.setIfInBounds_toArray, List.set_cons_zero, List.set_cons_succ, i64_w, i32_w]
            rfl
           refine pure_ (i := 11) (N := some 51) (v := ?_) (a' := ?_) #[true, true, true, true, true, true, true, true, true, true, true, true] rfl rfl (any_of HT_.out (by kernel_rfl)) (fun _ _ _ h => h) (Or.inl ⟨by rfl, ?_⟩) ?_ ?_
           rotate_left
           ·intro w'
            go_simp
            with_reducible rfl
           rotate_left
           ·simp only [Act.put, List.setIfInBounds_toArray, List.set_cons_zero, List.set_cons_succ, i64_w, i32_w]
            rfl
           refine done_ (done_of HT_.out (by kernel_rfl)) ?_
           try go_wp2
           go_roundg k2
           case measure => have := HJ2.out; have := HK2.out; omega
           case rel => exact ⟨(wrap64 (x37_2 + 1)), (by first | rfl | (simp; done) | (simp [*]; done)), H', ⟨by have := HJ2.out; have := HK2.out; omega⟩, ⟨by (with_reducible repeat (first | refine blk_drewN ?_ _ | refine blk_drew ?_ | refine blk_alloc ?_ _)); exact BK284.out⟩, ⟨by (with_reducible repeat (first | refine blk_drewN ?_ _ | refine blk_drew ?_ | refine blk_alloc ?_ _)); exact BK285.out⟩, ⟨by repeat (first | (with_reducible first | exact HB.out | apply below_alloc | apply pw_below_drewN | apply below_drew1 | refine below_set ?_ GE284.out | refine below_set ?_ GE285.out) | exact HB.out)⟩⟩
          ·replace c29 := Bool.eq_false_iff.mpr c29
           subst c29
           have H1 : (some false) = some r := by rw [if_neg (show ¬ (false = true) by decide)] at H; exact H
           clear H
           have H := H1
           clear H1
           obtain rfl := Option.some.inj H
           try go_wp2
           have n0_ := Aside0.mk (blk_drew BK284.out)
           have n1_ := Aside0.mk (blk_drew BK285.out)
           have n2_ := Aside0.mk (below_drew1 HB.out)
           clear BK284
           clear BK285
           clear HB
           have BK284 := n0_
           have BK285 := n1_
           have HB := n2_
           clear n0_ n1_ n2_
           have p286 : 0 ≤ (x37_2 : Int) := of_decide_eq_true (by first | (with_reducible assumption) | assumption)
           have q286 : x37_2 < (l0_6.length : Int) := of_decide_eq_true (by first | (with_reducible assumption) | assumption)
           obtain ⟨ad286, A286_6, c286_6, e286, hx286_0, hx286_1, hx286_2, hx286_3, hx286_4, hx286_5, hx286_6, hl286_6, hi286_6⟩ := at_T26 HR0_6.out x37_2 p286 q286
           have hw286_6 := hx286_6
           have hw286_5 := hx286_5
           have hw286_4 := hx286_4
           have hw286_3 := hx286_3
           have hw286_2 := hx286_2
           have hw286_1 := hx286_1
           have hw286_0 := hx286_0
           cases e286
           replace hx286_0 := (HB.out.cell (World.block_lt_of_cell? w _ hx286_0)).trans hx286_0
           replace hx286_1 := (HB.out.cell (World.block_lt_of_cell? w _ hx286_1)).trans hx286_1
           replace hx286_2 := (HB.out.cell (World.block_lt_of_cell? w _ hx286_2)).trans hx286_2
           replace hx286_3 := (HB.out.cell (World.block_lt_of_cell? w _ hx286_3)).trans hx286_3
           replace hx286_4 := (HB.out.cell (World.block_lt_of_cell? w _ hx286_4)).trans hx286_4
           replace hx286_5 := (HB.out.cell (World.block_lt_of_cell? w _ hx286_5)).trans hx286_5
           replace hx286_6 := (HB.out.cell (World.block_lt_of_cell? w _ hx286_6)).trans hx286_6
           have HR286_6 := Aside0.mk hi286_6
           have HC286_6 := Aside0.mk hl286_6
           clear hi286_6 hl286_6
           replace p286 := eq_true p286
           replace q286 := eq_true q286
           have p287 : 0 ≤ (x37_2 : Int) := of_decide_eq_true (by first | (with_reducible assumption) | assumption)
           have q287 : x37_2 < (l1_6.length : Int) := of_decide_eq_true (by first | (with_reducible assumption) | assumption)
           obtain ⟨ad287, A287_6, c287_6, e287, hx287_0, hx287_1, hx287_2, hx287_3, hx287_4, hx287_5, hx287_6, hl287_6, hi287_6⟩ := at_T26 HR1_6.out x37_2 p287 q287
           have hw287_6 := hx287_6
           have hw287_5 := hx287_5
           have hw287_4 := hx287_4
           have hw287_3 := hx287_3
           have hw287_2 := hx287_2
           have hw287_1 := hx287_1
           have hw287_0 := hx287_0
           cases e287
           replace hx287_0 := (HB.out.cell (World.block_lt_of_cell? w _ hx287_0)).trans hx287_0
           replace hx287_1 := (HB.out.cell (World.block_lt_of_cell? w _ hx287_1)).trans hx287_1
           replace hx287_2 := (HB.out.cell (World.block_lt_of_cell? w _ hx287_2)).trans hx287_2
           replace hx287_3 := (HB.out.cell (World.block_lt_of_cell? w _ hx287_3)).trans hx287_3
           replace hx287_4 := (HB.out.cell (World.block_lt_of_cell? w _ hx287_4)).trans hx287_4
           replace hx287_5 := (HB.out.cell (World.block_lt_of_cell? w _ hx287_5)).trans hx287_5
           replace hx287_6 := (HB.out.cell (World.block_lt_of_cell? w _ hx287_6)).trans hx287_6
           have HR287_6 := Aside0.mk hi287_6
           have HC287_6 := Aside0.mk hl287_6
           clear hi287_6 hl287_6
           replace p287 := eq_true p287
           replace q287 := eq_true q287
           refine start_ (n := 12) (S := fun w' => w'.cell? ⟨gb284, 0, none⟩ = some (.int .u8 a0_0) ∧ w'.cell? ⟨gb284, 1, none⟩ = some (.int .i64 a0_1) ∧ w'.cell? ⟨gb284, 2, none⟩ = some (.int .i64 a0_2) ∧ w'.cell? ⟨gb284, 3, none⟩ = some (.int .i64 a0_3) ∧ w'.cell? ⟨gb284, 4, none⟩ = some (.int .i64 a0_4) ∧ w'.cell? ⟨gb284, 5, none⟩ = some (.int .i64 a0_5) ∧ w'.cell? ⟨gb284, 6, none⟩ = some (.slice (some ad286) l0_6.length c0_6) ∧ w'.cell? ⟨gb285, 0, none⟩ = some (.int .u8 a1_0) ∧ w'.cell? ⟨gb285, 1, none⟩ = some (.int .i64 a1_1) ∧ w'.cell? ⟨gb285, 2, none⟩ = some (.int .i64 a1_2) ∧ w'.cell? ⟨gb285, 3, none⟩ = some (.int .i64 a1_3) ∧ w'.cell? ⟨gb285, 4, none⟩ = some (.int .i64 a1_4) ∧ w'.cell? ⟨gb285, 5, none⟩ = some (.int .i64 a1_5) ∧ w'.cell? ⟨gb285, 6, none⟩ = some (.slice (some ad287) l1_6.length c1_6) ∧ w'.cell? (ad286.add ((x37_2).toNat * 7)) = some (.int .u8 ((rd_T26 l0_6 x37_2).f0)) ∧ w'.cell? ⟨(ad286.add ((x37_2).toNat * 7)).block, (ad286.add ((x37_2).toNat * 7)).off + 1, none⟩ = some (.int .i64 ((rd_T26 l0_6 x37_2).f1.f0)) ∧ w'.cell? ⟨(ad286.add ((x37_2).toNat * 7)).block, (ad286.add ((x37_2).toNat * 7)).off + 2, none⟩ = some (.int .i64 ((rd_T26 l0_6 x37_2).f1.f1)) ∧ w'.cell? ⟨(ad286.add ((x37_2).toNat * 7)).block, (ad286.add ((x37_2).toNat * 7)).off + 3, none⟩ = some (.int .i64 ((rd_T26 l0_6 x37_2).f1.f2)) ∧ w'.cell? ⟨(ad286.add ((x37_2).toNat * 7)).block, (ad286.add ((x37_2).toNat * 7)).off + 4, none⟩ = some (.int .i64 ((rd_T26 l0_6 x37_2).f1.f3)) ∧ w'.cell? ⟨(ad286.add ((x37_2).toNat * 7)).block, (ad286.add ((x37_2).toNat * 7)).off + 5, none⟩ = some (.int .i64 ((rd_T26 l0_6 x37_2).f2)) ∧ w'.cell? ⟨(ad286.add ((x37_2).toNat * 7)).block, (ad286.add ((x37_2).toNat * 7)).off + 6, none⟩ = some (.slice A286_6 ((rd_T26 l0_6 x37_2).f3).length c286_6) ∧ w'.cell? (ad287.add ((x37_2).toNat * 7)) = some (.int .u8 ((rd_T26 l1_6 x37_2).f0)) ∧ w'.cell? ⟨(ad287.add ((x37_2).toNat * 7)).block, (ad287.add ((x37_2).toNat * 7)).off + 1, none⟩ = some (.int .i64 ((rd_T26 l1_6 x37_2).f1.f0)) ∧ w'.cell? ⟨(ad287.add ((x37_2).toNat * 7)).block, (ad287.add ((x37_2).toNat * 7)).off + 2, none⟩ = some (.int .i64 ((rd_T26 l1_6 x37_2).f1.f1)) ∧ w'.cell? ⟨(ad287.add ((x37_2).toNat * 7)).block, (ad287.add ((x37_2).toNat * 7)).off + 3, none⟩ = some (.int .i64 ((rd_T26 l1_6 x37_2).f1.f2)) ∧ w'.cell? ⟨(ad287.add ((x37_2).toNat * 7)).block, (ad287.add ((x37_2).toNat * 7)).off + 4, none⟩ = some (.int .i64 ((rd_T26 l1_6 x37_2).f1.f3)) ∧ w'.cell? ⟨(ad287.add ((x37_2).toNat * 7)).block, (ad287.add ((x37_2).toNat * 7)).off + 5, none⟩ = some (.int .i64 ((rd_T26 l1_6 x37_2).f2)) ∧ w'.cell? ⟨(ad287.add ((x37_2).toNat * 7)).block, (ad287.add ((x37_2).toNat * 7)).off + 6, none⟩ = some (.slice A287_6 ((rd_T26 l1_6 x37_2).f3).length c287_6)) (ds := []) #[false, false, false, false, false, false, false, false, false, false, false, false] (by kernel_rfl) rfl rfl ⟨(blk_cell BK284.out 0).trans rfl, (blk_cell BK284.out 1).trans rfl, (blk_cell BK284.out 2).trans rfl, (blk_cell BK284.out 3).trans rfl, (blk_cell BK284.out 4).trans rfl, (blk_cell BK284.out 5).trans rfl, (blk_cell BK284.out 6).trans rfl, (blk_cell BK285.out 0).trans rfl, (blk_cell BK285.out 1).trans rfl, (blk_cell BK285.out 2).trans rfl, (blk_cell BK285.out 3).trans rfl, (blk_cell BK285.out 4).trans rfl, (blk_cell BK285.out 5).trans rfl, (blk_cell BK285.out 6).trans rfl, ((HB.out.cell (World.block_lt_of_cell? w _ hw286_0)).trans hw286_0), ((HB.out.cell (World.block_lt_of_cell? w _ hw286_1)).trans hw286_1), ((HB.out.cell (World.block_lt_of_cell? w _ hw286_2)).trans hw286_2), ((HB.out.cell (World.block_lt_of_cell? w _ hw286_3)).trans hw286_3), ((HB.out.cell (World.block_lt_of_cell? w _ hw286_4)).trans hw286_4), ((HB.out.cell (World.block_lt_of_cell? w _ hw286_5)).trans hw286_5), ((HB.out.cell (World.block_lt_of_cell? w _ hw286_6)).trans hw286_6), ((HB.out.cell (World.block_lt_of_cell? w _ hw287_0)).trans hw287_0), ((HB.out.cell (World.block_lt_of_cell? w _ hw287_1)).trans hw287_1), ((HB.out.cell (World.block_lt_of_cell? w _ hw287_2)).trans hw287_2), ((HB.out.cell (World.block_lt_of_cell? w _ hw287_3)).trans hw287_3), ((HB.out.cell (World.block_lt_of_cell? w _ hw287_4)).trans hw287_4), ((HB.out.cell (World.block_lt_of_cell? w _ hw287_5)).trans hw287_5), ((HB.out.cell (World.block_lt_of_cell? w _ hw287_6)).trans hw287_6)⟩ (fun hHeld => ?_); refine with_tabW sashref05_Same.tab6 sashref05_Same.bits6 (fun HT_ HW_ => ?_)
           generalize wr.drew = w32 at BK284 BK285 HB HR286_6 HR287_6 hx286_0 hx286_1 hx286_2 hx286_3 hx286_4 hx286_5 hx286_6 hx287_0 hx287_1 hx287_2 hx287_3 hx287_4 hx287_5 hx287_6 hHeld ⊢
           refine pure_ (i := 0) (N := some 40) (v := ?_) (a' := ?_) #[true, false, false, false, false, false, false, false, false, false, false, false] rfl rfl (any_of HT_.out (by kernel_rfl)) (fun _ _ _ h => h) (Or.inl ⟨by rfl, ?_⟩) ?_ ?_
           rotate_left
           ·intro w'
            go_simp
            with_reducible rfl
           rotate_left
           ·simp only [Act.put, List.setIfInBounds_toArray, List.set_cons_zero, List.set_cons_succ, i64_w, i32_w]
            rfl
           refine pure_ (i := 2) (N := some 42) (v := ?_) (a' := ?_) #[true, false, true, false, false, false, false, false, false, false, false, false] rfl rfl (any_of HT_.out (by kernel_rfl)) (fun _ _ _ h => h) (Or.inl ⟨by rfl, ?_⟩) ?_ ?_
           rotate_left
           ·intro w'
            go_simp
            with_reducible rfl
           rotate_left
           ·simp only [Act.put, List.setIfInBounds_toArray, List.set_cons_zero, List.set_cons_succ, i64_w, i32_w]
            rfl
           refine pure_ (i := 5) (N := some 45) (v := ?_) (a' := ?_) #[true, false, true, false, false, true, false, false, false, false, false, false] rfl rfl (any_of HT_.out (by kernel_rfl)) (fun _ _ _ h => h) (Or.inl ⟨by rfl, ?_⟩) ?_ ?_
           rotate_left
           ·intro w'
            go_simp
            with_reducible rfl
           rotate_left
           ·simp only [Act.put, List.setIfInBounds_toArray, List.set_cons_zero, List.set_cons_succ, i64_w, i32_w]
            rfl
           refine pure_ (i := 7) (N := some 47) (v := ?_) (a' := ?_) #[true, false, true, false, false, true, false, true, false, false, false, false] rfl rfl (any_of HT_.out (by kernel_rfl)) (fun _ _ _ h => h) (Or.inl ⟨by rfl, ?_⟩) ?_ ?_
           rotate_left
           ·intro w'
            go_simp
            with_reducible rfl
           rotate_left
           ·simp only [Act.put, List.setIfInBounds_toArray, List.set_cons_zero, List.set_cons_succ, i64_w, i32_w]
            rfl
           refine take_ (i := 1) (N := some 41) (v := ?_) (a' := ?_) #[true, true, true, false, false, true, false, true, false, false, false, false] rfl rfl (take_ofW HT_.out HW_.out (by kernel_rfl)) (fun _ _ _ h => h) (Or.inl ⟨by rfl, ?_⟩) hHeld ?_ ?_
           rotate_left
           ·rintro w' ⟨s0, s1, s2, s3, s4, s5, s6, s7, s8, s9, s10, s11, s12, s13, s14, s15, s16, s17, s18, s19, s20, s21, s22, s23, s24, s25, s26, s27⟩
            go_simp
            with_reducible rfl
           rotate_left
           ·simp only [Act.put, List.setIfInBounds_toArray, List.set_cons_zero, List.set_cons_succ, i64_w, i32_w]
            rfl
           refine pure_ (i := 3) (N := some 43) (v := ?_) (a' := ?_) #[true, true, true, true, false, true, false, true, false, false, false, false] rfl rfl (any_of HT_.out (by kernel_rfl)) (fun _ _ _ h => h) (Or.inl ⟨by rfl, ?_⟩) ?_ ?_
           rotate_left
           ·intro w'
            go_simp
            with_reducible rfl
           rotate_left
           ·simp only [Act.put, List.setIfInBounds_toArray, List.set_cons_zero, List.set_cons_succ, i64_w, i32_w]
            rfl
           refine take_ (i := 4) (N := some 44) (v := ?_) (a' := ?_) #[true, true, true, true, true, true, false, true, false, false, false, false] rfl rfl (take_ofW HT_.out HW_.out (by kernel_rfl)) (fun _ _ _ h => h) (Or.inl ⟨by rfl, ?_⟩) hHeld ?_ ?_
           rotate_left
           ·rintro w' ⟨s0, s1, s2, s3, s4, s5, s6, s7, s8, s9, s10, s11, s12, s13, s14, s15, s16, s17, s18, s19, s20, s21, s22, s23, s24, s25, s26, s27⟩
            go_simp
            with_reducible rfl
           rotate_left
           ·simp only [Act.put, List.setIfInBounds_toArray, List.set_cons_zero, List.set_cons_succ, i64_w, i32_w]
            rfl
           refine take_ (i := 6) (N := some 46) (v := ?_) (a' := ?_) #[true, true, true, true, true, true, true, true, false, false, false, false] rfl rfl (take_ofW HT_.out HW_.out (by kernel_rfl)) (fun _ _ _ h => h) (Or.inl ⟨by rfl, ?_⟩) hHeld ?_ ?_
           rotate_left
           ·rintro w' ⟨s0, s1, s2, s3, s4, s5, s6, s7, s8, s9, s10, s11, s12, s13, s14, s15, s16, s17, s18, s19, s20, s21, s22, s23, s24, s25, s26, s27⟩
            go_simp
            with_reducible rfl
           rotate_left
           ·simp only [Act.put, List.setIfInBounds_toArray, List.set_cons_zero, List.set_cons_succ, i64_w, i32_w]
            rfl
           refine pure_ (i := 8) (N := some 48) (v := ?_) (a' := ?_) #[true, true, true, true, true, true, true, true, true, false, false, false] rfl rfl (any_of HT_.out (by kernel_rfl)) (fun _ _ _ h => h) (Or.inl ⟨by rfl, ?_⟩) ?_ ?_
           rotate_left
           ·intro w'
            go_simp
            with_reducible rfl
           rotate_left
           ·simp only [Act.put, List.setIfInBounds_toArray, List.set_cons_zero, List.set_cons_succ, i64_w, i32_w]
            rfl
           refine take_ (i := 9) (N := some 49) (v := ?_) (a' := ?_) #[true, true, true, true, true, true, true, true, true, true, false, false] rfl rfl (take_ofW HT_.out HW_.out (by kernel_rfl)) (fun _ _ _ h => h) (Or.inl ⟨by rfl, ?_⟩) hHeld ?_ ?_
           rotate_left
           ·rintro w' ⟨s0, s1, s2, s3, s4, s5, s6, s7, s8, s9, s10, s11, s12, s13, s14, s15, s16, s17, s18, s19, s20, s21, s22, s23, s24, s25, s26, s27⟩
            go_simp
            with_reducible rfl
           rotate_left
           ·simp only [Act.put, List.setIfInBounds_toArray, List.set_cons_zero, List.set_cons_succ, i64_w, i32_w]
            rfl
           refine one_ (i := 10) (N := some 50) #[true, true, true, true, true, true, true, true, true, true, true, false] rfl rfl (one_of HT_.out (by kernel_rfl)) (by decide) (fun K hK => ?_)
           refine goes_ Tryd.func24 (by kernel_rfl) rfl #[.agg #[.int .u8 ((rd_T26 l0_6 x37_2).f0), .int .i64 ((rd_T26 l0_6 x37_2).f1.f0), .int .i64 ((rd_T26 l0_6 x37_2).f1.f1), .int .i64 ((rd_T26 l0_6 x37_2).f1.f2), .int .i64 ((rd_T26 l0_6 x37_2).f1.f3), .int .i64 ((rd_T26 l0_6 x37_2).f2), .slice A286_6 ((rd_T26 l0_6 x37_2).f3).length c286_6], .agg #[.int .u8 ((rd_T26 l1_6 x37_2).f0), .int .i64 ((rd_T26 l1_6 x37_2).f1.f0), .int .i64 ((rd_T26 l1_6 x37_2).f1.f1), .int .i64 ((rd_T26 l1_6 x37_2).f1.f2), .int .i64 ((rd_T26 l1_6 x37_2).f1.f3), .int .i64 ((rd_T26 l1_6 x37_2).f2), .slice A287_6 ((rd_T26 l1_6 x37_2).f3).length c287_6]] (by rfl) rfl rfl (by (try simp only [List.map_toArray, List.map_cons, List.map_nil]); first | done | rfl | (simp only [List.length_drop, List.length_take]; rfl)) ?_
           with_reducible refine (ih k2 (by have := HJ2.out; have := HK2.out; omega) ((rd_T26 l0_6 x37_2).f0) ((rd_T26 l0_6 x37_2).f1.f0) ((rd_T26 l0_6 x37_2).f1.f1) ((rd_T26 l0_6 x37_2).f1.f2) ((rd_T26 l0_6 x37_2).f1.f3) ((rd_T26 l0_6 x37_2).f2) _ _ ((rd_T26 l0_6 x37_2).f3) ((rd_T26 l1_6 x37_2).f0) ((rd_T26 l1_6 x37_2).f1.f0) ((rd_T26 l1_6 x37_2).f1.f1) ((rd_T26 l1_6 x37_2).f1.f2) ((rd_T26 l1_6 x37_2).f1.f3) ((rd_T26 l1_6 x37_2).f2) _ _ ((rd_T26 l1_6 x37_2).f3) false _ ?side1 ?side2 ?side3 ?side4 A28.out).mono ?_
           (case side1 => repeat (first | exact (Kd.C_below HR286_6.out HB.out) | (with_reducible refine Kd.C_alloc ?_ _) | (with_reducible refine Kd.C_drewN ?_ _) | (with_reducible refine Kd.C_drew ?_)))
           (case side2 => exact HC286_6.out)
           (case side3 => repeat (first | exact (Kd.C_below HR287_6.out HB.out) | (with_reducible refine Kd.C_alloc ?_ _) | (with_reducible refine Kd.C_drewN ?_ _) | (with_reducible refine Kd.C_drew ?_)))
           (case side4 => exact HC287_6.out)
           rintro e w33 ⟨rfl, hb⟩
           refine ⟨_, rfl, ?_⟩
           have n0_ := Aside0.mk (blk_below (g := gb284) (o := .cells #[.int .u8 a0_0, .int .i64 a0_1, .int .i64 a0_2, .int .i64 a0_3, .int .i64 a0_4, .int .i64 a0_5, .slice (some ad286) l0_6.length c0_6] 26 (0, 0)) (by (with_reducible repeat (first | refine blk_drewN ?_ _ | refine blk_drew ?_ | refine blk_alloc ?_ _)); exact BK284.out) hb)
           have n1_ := Aside0.mk (blk_below (g := gb285) (o := .cells #[.int .u8 a1_0, .int .i64 a1_1, .int .i64 a1_2, .int .i64 a1_3, .int .i64 a1_4, .int .i64 a1_5, .slice (some ad287) l1_6.length c1_6] 26 (0, 0)) (by (with_reducible repeat (first | refine blk_drewN ?_ _ | refine blk_drew ?_ | refine blk_alloc ?_ _)); exact BK285.out) hb)
           have n2_ := Aside0.mk (below_step (by repeat (first | (with_reducible first | exact HB.out | apply below_alloc | apply pw_below_drewN | apply below_drew1 | refine below_set ?_ GE284.out | refine below_set ?_ GE285.out) | exact HB.out)) hb)
           clear BK284
           clear BK285
           clear HB
           have BK284 := n0_
           have BK285 := n1_
           have HB := n2_
           clear n0_ n1_ n2_
           (try clear hb)
           (try clear hb2)
           (try clear hk)
           (try clear hi)
           refine hK.out _ _ ⟨(blk_cell BK284.out 0).trans rfl, (blk_cell BK284.out 1).trans rfl, (blk_cell BK284.out 2).trans rfl, (blk_cell BK284.out 3).trans rfl, (blk_cell BK284.out 4).trans rfl, (blk_cell BK284.out 5).trans rfl, (blk_cell BK284.out 6).trans rfl, (blk_cell BK285.out 0).trans rfl, (blk_cell BK285.out 1).trans rfl, (blk_cell BK285.out 2).trans rfl, (blk_cell BK285.out 3).trans rfl, (blk_cell BK285.out 4).trans rfl, (blk_cell BK285.out 5).trans rfl, (blk_cell BK285.out 6).trans rfl, ((HB.out.cell (World.block_lt_of_cell? w _ hw286_0)).trans hw286_0), ((HB.out.cell (World.block_lt_of_cell? w _ hw286_1)).trans hw286_1), ((HB.out.cell (World.block_lt_of_cell? w _ hw286_2)).trans hw286_2), ((HB.out.cell (World.block_lt_of_cell? w _ hw286_3)).trans hw286_3), ((HB.out.cell (World.block_lt_of_cell? w _ hw286_4)).trans hw286_4), ((HB.out.cell (World.block_lt_of_cell? w _ hw286_5)).trans hw286_5), ((HB.out.cell (World.block_lt_of_cell? w _ hw286_6)).trans hw286_6), ((HB.out.cell (World.block_lt_of_cell? w _ hw287_0)).trans hw287_0), ((HB.out.cell (World.block_lt_of_cell? w _ hw287_1)).trans hw287_1), ((HB.out.cell (World.block_lt_of_cell? w _ hw287_2)).trans hw287_2), ((HB.out.cell (World.block_lt_of_cell? w _ hw287_3)).trans hw287_3), ((HB.out.cell (World.block_lt_of_cell? w _ hw287_4)).trans hw287_4), ((HB.out.cell (World.block_lt_of_cell? w _ hw287_5)).trans hw287_5), ((HB.out.cell (World.block_lt_of_cell? w _ hw287_6)).trans hw287_6)⟩ (fun hHeld => ?_)
           clear hK K
           refine norm_ (a' := ?_) ?_ ?_
           rotate_left
           ·show Act.put _ (some 50) _ = _
            simp only [Act.put, List.setIfInBounds_toArray, List.set_cons_zero, List.set_cons_succ, i64_w, i32_w]
            rfl
           refine pure_ (i := 11) (N := some 51) (v := ?_) (a' := ?_) #[true, true, true, true, true, true, true, true, true, true, true, true] rfl rfl (any_of HT_.out (by kernel_rfl)) (fun _ _ _ h => h) (Or.inl ⟨by rfl, ?_⟩) ?_ ?_
           rotate_left
           ·intro w'
            go_simp
            with_reducible rfl
           rotate_left
           ·simp only [Act.put, List.setIfInBounds_toArray, List.set_cons_zero, List.set_cons_succ, i64_w, i32_w]
            rfl
           refine done_ (done_of HT_.out (by kernel_rfl)) ?_
           try go_wp2
           go_ret
           exact ⟨by first | rfl | (simp [errW_none, errW_some] <;> rfl) | (simp [*, errW_none, errW_some] <;> rfl), by repeat (first | (with_reducible first | exact HB.out | apply below_alloc | apply pw_below_drewN | apply below_drew1 | refine below_set ?_ GE284.out | refine below_set ?_ GE285.out) | exact HB.out)⟩
         ·rw [if_neg c27] at H
          exact absurd H (by simp)
        ·rw [if_neg c26] at H
         exact absurd H (by simp)
       ·rw [if_neg c25] at H
        exact absurd H (by simp)
      ·rw [if_neg c24] at H
       have c24b0 : decide (x37_2 < (l0_6.length : Int)) = false := decide_eq_false c24
       clear c24
       obtain rfl := Option.some.inj H
       go_wp2
       go_ret
       exact ⟨by first | rfl | (simp [errW_none, errW_some] <;> rfl) | (simp [*, errW_none, errW_some] <;> rfl), by repeat (first | (with_reducible first | exact HB.out | apply below_alloc | apply pw_below_drewN | apply below_drew1 | refine below_set ?_ GE284.out | refine below_set ?_ GE285.out) | exact HB.out)⟩

end Go.Proofs.YtakhnigalkjhhaaDoor.PTileChecks
