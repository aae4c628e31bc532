/- Printed texts of this seat, cut to what is used. -/
import Derived.Test.YtakhnigalkjhhaaDoorPTileChecksx0
import Derived.Test.YtakhnigalkjhhaaDoorPTileChecksx4
namespace Go.Proofs.YtakhnigalkjhhaaDoor.PTileChecks
open Go.RowKit Go.Proofs.YtakhnigalkjhhaaDoorW.PrintWords Go.Proofs.YtakhnigalkjhhaaDoorW.PrintLast Go.Proofs.YtakhnigalkjhhaaDoorW.PrintMore
attribute [local go_sem] max2_int min2_int max_two min_two max_three min_three max_four min_four   -- for this text's walks alone
set_option linter.unusedVariables false
set_option linter.unusedSimpArgs false

mutual
def sashref05_May.l0 : Nat → List (S26) → Int → Int → Int → Int → Int → Int → Int → Int → List (S26) → Option (Bool)
 | 0, _, _, _, _, _, _, _, _, _, _ => none
 | k + 1, x3, x14, x15, x224000, x224001, x224002, x224003, x224004, x224005, x224006 => if x15 < x14 then (if 0 ≤ x15 then (if x15 < (x3.length : Int) then ((sashref04_May.f ((rd_T26 x3 x15).f1.f0) ((rd_T26 x3 x15).f1.f1) ((rd_T26 x3 x15).f1.f2) ((rd_T26 x3 x15).f1.f3)).bind fun t228 => (if t228 = true then (if ((rd_T26 x3 x15).f0) < 1 then (sashref05_May.j1 k x3 x15 x14 x15 true x224000 x224001 x224002 x224003 x224004 x224005 x224006) else (sashref05_May.j1 k x3 x15 x14 x15 (decide (((rd_T26 x3 x15).f0) > 3)) x224000 x224001 x224002 x224003 x224004 x224005 x224006)) else (sashref05_May.j1 k x3 x15 x14 x15 true x224000 x224001 x224002 x224003 x224004 x224005 x224006))) else (none)) else (none)) else ((sashref05_Leaves.f k x224000 x224001 x224002 x224003 x224004 x224005 x224006).bind fun t241 => (sashref05_May.l1 k t241 (t241.length : Int) 0))
def sashref05_May.j1 : Nat → List (S26) → Int → Int → Int → Bool → Int → Int → Int → Int → Int → Int → List (S26) → Option (Bool)
 | 0, _, _, _, _, _, _, _, _, _, _, _, _ => none
 | k + 1, x3, x4, x14, x15, x40, x224000, x224001, x224002, x224003, x224004, x224005, x224006 => if x40 = true then (some false) else (if 0 ≤ x4 then (if x4 < (x3.length : Int) then (if ((rd_T26 x3 x4).f0) = 1 then (if (((rd_T26 x3 x4).f3).length : Int) > 0 then (some false) else (if ((rd_T26 x3 x4).f2) < 0 then (some false) else (if ((rd_T26 x3 x4).f2) > 2147483647 then (some false) else (if ((rd_T26 x3 x4).f0) > 1 then (if (((rd_T26 x3 x4).f3).length : Int) < 2 then (some false) else (if ((rd_T26 x3 x4).f2) = 0 then (sashref05_May.l0 k x3 x14 (wrap64 (x15 + 1)) x224000 x224001 x224002 x224003 x224004 x224005 x224006) else (some false))) else (sashref05_May.l0 k x3 x14 (wrap64 (x15 + 1)) x224000 x224001 x224002 x224003 x224004 x224005 x224006))))) else (if ((rd_T26 x3 x4).f0) > 1 then (if (((rd_T26 x3 x4).f3).length : Int) < 2 then (some false) else (if ((rd_T26 x3 x4).f2) = 0 then (sashref05_May.l0 k x3 x14 (wrap64 (x15 + 1)) x224000 x224001 x224002 x224003 x224004 x224005 x224006) else (some false))) else (sashref05_May.l0 k x3 x14 (wrap64 (x15 + 1)) x224000 x224001 x224002 x224003 x224004 x224005 x224006))) else (none)) else (none))
def sashref05_May.l1 : Nat → List (S26) → Int → Int → Option (Bool)
 | 0, _, _, _ => none
 | k + 1, x5, x101, x102 => if x102 < x101 then (sashref05_May.l2 k x5 x102 0 x101 x102) else (some true)
def sashref05_May.l2 : Nat → List (S26) → Int → Int → Int → Int → Option (Bool)
 | 0, _, _, _, _, _ => none
 | k + 1, x5, x6, x7, x101, x102 => if x7 < x6 then (if 0 ≤ x6 then (if x6 < (x5.length : Int) then (if 0 ≤ x7 then (if x7 < (x5.length : Int) then (if ((rd_T26 x5 x6).f2) = ((rd_T26 x5 x7).f2) then (some false) else (sashref05_May.l2 k x5 x6 (wrap64 (x7 + 1)) x101 x102)) else (none)) else (none)) else (none)) else (none)) else (sashref05_May.l1 k x5 x101 (wrap64 (x102 + 1)))
end
def sashref05_May.f (k : Nat) (a0_0 : Int) (a0_1 : Int) (a0_2 : Int) (a0_3 : Int) (a0_4 : Int) (a0_5 : Int) (l0_6 : List (S26)) : Option (Bool) := (sashref05_All.f k a0_0 a0_1 a0_2 a0_3 a0_4 a0_5 l0_6).bind fun t224 => (if (t224.length : Int) > 20000 then (some false) else (sashref05_May.l0 k t224 (t224.length : Int) 0 a0_0 a0_1 a0_2 a0_3 a0_4 a0_5 l0_6))
set_option maxHeartbeats 8000000 in
set_option maxRecDepth 100000 in
theorem sashref05_May.calls (k : Nat) (a0_0 : Int) (a0_1 : Int) (a0_2 : Int) (a0_3 : Int) (a0_4 : Int) (a0_5 : Int) (A0_6 : Option Addr) (c0_6 : Nat) (l0_6 : List (S26)) (r : Bool) (w : World) (hr0_6 : Kd.C k26 w A0_6 l0_6.length l0_6) (hc0_6 : l0_6.length ≤ c0_6) (h : sashref05_May.f k a0_0 a0_1 a0_2 a0_3 a0_4 a0_5 l0_6 = some r) :
  Calls Tryd.prog 31 #[.agg #[.int .u8 a0_0, .int .i64 a0_1, .int .i64 a0_2, .int .i64 a0_3, .int .i64 a0_4, .int .i64 a0_5, .slice A0_6 l0_6.length c0_6]] w fun e w' => e = .returned (.bool r) ∧ Below w.heap.size w w' := by
 have hu26 := Tryd.underlying26
 have hu23 := Tryd.underlying23
 have HR0_6 := Aside0.mk hr0_6
 have HC0_6 := Aside0.mk hc0_6
 clear hr0_6 hc0_6
 have HB := Aside0.mk (Below.refl w.heap.size w)
 have H : ((sashref05_All.f k a0_0 a0_1 a0_2 a0_3 a0_4 a0_5 l0_6).bind fun t224 => (if (t224.length : Int) > 20000 then (some false) else (sashref05_May.l0 k t224 (t224.length : Int) 0 a0_0 a0_1 a0_2 a0_3 a0_4 a0_5 l0_6))) = some r := h
 clear h
 replace H := Option.bind_eq_some_iff.mp H
 obtain ⟨t224, A20, H⟩ := H
 replace H : (if (t224.length : Int) > 20000 then (some false) else (sashref05_May.l0 k t224 (t224.length : Int) 0 a0_0 a0_1 a0_2 a0_3 a0_4 a0_5 l0_6)) = some r := H
 have A2 := Aside0.mk A20
 clear A20
 by_cases c3 : (t224.length : Int) > 20000
 ·rw [if_pos c3] at H
  have c3b0 : decide (20000 < (t224.length : Int)) = true := decide_eq_true c3
  have c3b1 : decide (20000 < t224.length) = true := decide_eq_true (by omega)
  clear c3
  obtain rfl := Option.some.inj H
  go_enter Tryd.func31, Tryd.ntmps31
  go_wp2_with (first | ((with_reducible refine gate_dst (N := 1) rfl ?_); (try (refine gate_guard (by rfl) ?_; dsimp only)); refine box_event ?hg (N := 1) ?hd (cs := #[.int .u8 a0_0, .int .i64 a0_1, .int .i64 a0_2, .int .i64 a0_3, .int .i64 a0_4, .int .i64 a0_5, .slice A0_6 l0_6.length c0_6]) (t := 26) ?hr ?_; (case hd => rfl); (case hg => rfl); (case hr => first | (go_simp; done) | (go_simp; rfl)); intro gb223 hg w4 hbox hb; have n0_ := Aside0.mk (below_step (by repeat (first | (with_reducible first | exact HB.out | apply below_alloc | apply pw_below_drewN | apply below_drew1) | exact HB.out)) hb); have n1_ := Aside0.mk (hbox); have n2_ := Aside0.mk ((by rw [hg]; exact (below_size (by repeat (first | (with_reducible first | exact HB.out | apply below_alloc | apply pw_below_drewN | apply below_drew1) | exact HB.out))) : w.heap.size ≤ gb223)); have n3_ := Aside0.mk ((by rw [hg]; exact (below_size (by repeat (first | (with_reducible first | exact HB.out | apply below_alloc | apply pw_below_drewN | apply below_drew1) | exact HB.out))) : w.heap.size ≤ gb223)); clear HB; have HB := n0_; have BK223 := n1_; have GW223 := n2_; have GE223 := n3_; clear n0_ n1_ n2_ n3_; clear hb hbox hg; have hcz5_0 : w4.cell? ⟨gb223, 0, none⟩ = some (.int .u8 a0_0) := (blk_cell BK223.out 0).trans rfl; have hcz5_1 : w4.cell? ⟨gb223, 1, none⟩ = some (.int .i64 a0_1) := (blk_cell BK223.out 1).trans rfl; have hcz5_2 : w4.cell? ⟨gb223, 2, none⟩ = some (.int .i64 a0_2) := (blk_cell BK223.out 2).trans rfl; have hcz5_3 : w4.cell? ⟨gb223, 3, none⟩ = some (.int .i64 a0_3) := (blk_cell BK223.out 3).trans rfl; have hcz5_4 : w4.cell? ⟨gb223, 4, none⟩ = some (.int .i64 a0_4) := (blk_cell BK223.out 4).trans rfl; have hcz5_5 : w4.cell? ⟨gb223, 5, none⟩ = some (.int .i64 a0_5) := (blk_cell BK223.out 5).trans rfl; have hcz5_6 : w4.cell? ⟨gb223, 6, none⟩ = some (.slice A0_6 l0_6.length c0_6) := (blk_cell BK223.out 6).trans rfl; have hfz5_0 := blk_frozen BK223.out 0; have hfz5_1 := blk_frozen BK223.out 1; have hfz5_2 := blk_frozen BK223.out 2; have hfz5_3 := blk_frozen BK223.out 3; have hfz5_4 := blk_frozen BK223.out 4; have hfz5_5 := blk_frozen BK223.out 5; have hfz5_6 := blk_frozen BK223.out 6) | (go_at_call 32; (with_reducible refine (sashref05_All.calls k a0_0 a0_1 a0_2 a0_3 a0_4 a0_5 (fun k_ => k_ < w.heap.size) _ _ l0_6 t224 _ ?side1 A2.out).mono ?_); (case side1 => exact Kd.V_mk HC0_6.out (Kd.F_below (Kd.C_F k26_heap HR0_6.out) (by repeat (first | (with_reducible first | exact HB.out | apply below_alloc | apply pw_below_drewN | apply below_drew1 | refine below_set ?_ GE223.out) | exact HB.out)))); rintro e w6 ⟨v225, rfl, ho0, hb⟩; have n0_ := Aside0.mk (Kd.N_lower (Kd.N_mono (ok' := fun k_ => k_ ≠ gb223) ho0 (fun k_ hk_ => Or.elim hk_ (fun hs_ => fun e_ => Nat.not_le.2 hs_ (by rw [e_]; exact GW223.out)) (fun hn_ => (Kd.freshB (g := gb223) (o := .cells #[.int .u8 a0_0, .int .i64 a0_1, .int .i64 a0_2, .int .i64 a0_3, .int .i64 a0_4, .int .i64 a0_5, .slice A0_6 l0_6.length c0_6] 26 (0, 0)) (by (with_reducible repeat (first | refine blk_drewN ?_ _ | refine blk_drew ?_ | refine blk_alloc ?_ _)); exact BK223.out) k_ hn_)))) (below_size (by repeat (first | (with_reducible first | exact HB.out | apply below_alloc | apply pw_below_drewN | apply below_drew1 | refine below_set ?_ GE223.out) | exact HB.out)))); have n1_ := Aside0.mk (blk_below (g := gb223) (o := .cells #[.int .u8 a0_0, .int .i64 a0_1, .int .i64 a0_2, .int .i64 a0_3, .int .i64 a0_4, .int .i64 a0_5, .slice A0_6 l0_6.length c0_6] 26 (0, 0)) (by (with_reducible repeat (first | refine blk_drewN ?_ _ | refine blk_drew ?_ | refine blk_alloc ?_ _)); exact BK223.out) hb); have n2_ := Aside0.mk (below_step (by repeat (first | (with_reducible first | exact HB.out | apply below_alloc | apply pw_below_drewN | apply below_drew1 | refine below_set ?_ GE223.out) | exact HB.out)) hb); clear BK223; clear HB; have HO226 := n0_; have BK223 := n1_; have HB := n2_; clear n0_ n1_ n2_; (try clear hb); (try clear hb2); (try clear hk); (try clear hi); (try clear ho0); obtain ⟨Ao7, co7, eo7⟩ := Kd.N_slice HO226.out; subst eo7))
  go_ret
  exact ⟨by first | rfl | (simp [errW_none, errW_some] <;> rfl) | (simp [*, errW_none, errW_some] <;> rfl), by repeat (first | (with_reducible first | exact HB.out | apply below_alloc | apply pw_below_drewN | apply below_drew1 | refine below_set ?_ GE223.out) | exact HB.out)⟩
 ·rw [if_neg c3] at H
  have c3b0 : decide (20000 < (t224.length : Int)) = false := decide_eq_false c3
  have c3b1 : decide (20000 < t224.length) = false := decide_eq_false (by omega)
  clear c3
  have H' := Aside0.mk H
  clear H
  go_enter Tryd.func31, Tryd.ntmps31
  go_wp2_with (first | ((with_reducible refine gate_dst (N := 1) rfl ?_); (try (refine gate_guard (by rfl) ?_; dsimp only)); refine box_event ?hg (N := 1) ?hd (cs := #[.int .u8 a0_0, .int .i64 a0_1, .int .i64 a0_2, .int .i64 a0_3, .int .i64 a0_4, .int .i64 a0_5, .slice A0_6 l0_6.length c0_6]) (t := 26) ?hr ?_; (case hd => rfl); (case hg => rfl); (case hr => first | (go_simp; done) | (go_simp; rfl)); intro gb223 hg w8 hbox hb; have n0_ := Aside0.mk (below_step (by repeat (first | (with_reducible first | exact HB.out | apply below_alloc | apply pw_below_drewN | apply below_drew1) | exact HB.out)) hb); have n1_ := Aside0.mk (hbox); have n2_ := Aside0.mk ((by rw [hg]; exact (below_size (by repeat (first | (with_reducible first | exact HB.out | apply below_alloc | apply pw_below_drewN | apply below_drew1) | exact HB.out))) : w.heap.size ≤ gb223)); have n3_ := Aside0.mk ((by rw [hg]; exact (below_size (by repeat (first | (with_reducible first | exact HB.out | apply below_alloc | apply pw_below_drewN | apply below_drew1) | exact HB.out))) : w.heap.size ≤ gb223)); clear HB; have HB := n0_; have BK223 := n1_; have GW223 := n2_; have GE223 := n3_; clear n0_ n1_ n2_ n3_; clear hb hbox hg; have hcz9_0 : w8.cell? ⟨gb223, 0, none⟩ = some (.int .u8 a0_0) := (blk_cell BK223.out 0).trans rfl; have hcz9_1 : w8.cell? ⟨gb223, 1, none⟩ = some (.int .i64 a0_1) := (blk_cell BK223.out 1).trans rfl; have hcz9_2 : w8.cell? ⟨gb223, 2, none⟩ = some (.int .i64 a0_2) := (blk_cell BK223.out 2).trans rfl; have hcz9_3 : w8.cell? ⟨gb223, 3, none⟩ = some (.int .i64 a0_3) := (blk_cell BK223.out 3).trans rfl; have hcz9_4 : w8.cell? ⟨gb223, 4, none⟩ = some (.int .i64 a0_4) := (blk_cell BK223.out 4).trans rfl; have hcz9_5 : w8.cell? ⟨gb223, 5, none⟩ = some (.int .i64 a0_5) := (blk_cell BK223.out 5).trans rfl; have hcz9_6 : w8.cell? ⟨gb223, 6, none⟩ = some (.slice A0_6 l0_6.length c0_6) := (blk_cell BK223.out 6).trans rfl; have hfz9_0 := blk_frozen BK223.out 0; have hfz9_1 := blk_frozen BK223.out 1; have hfz9_2 := blk_frozen BK223.out 2; have hfz9_3 := blk_frozen BK223.out 3; have hfz9_4 := blk_frozen BK223.out 4; have hfz9_5 := blk_frozen BK223.out 5; have hfz9_6 := blk_frozen BK223.out 6) | (go_at_call 32; (with_reducible refine (sashref05_All.calls k a0_0 a0_1 a0_2 a0_3 a0_4 a0_5 (fun k_ => k_ < w.heap.size) _ _ l0_6 t224 _ ?side1 A2.out).mono ?_); (case side1 => exact Kd.V_mk HC0_6.out (Kd.F_below (Kd.C_F k26_heap HR0_6.out) (by repeat (first | (with_reducible first | exact HB.out | apply below_alloc | apply pw_below_drewN | apply below_drew1 | refine below_set ?_ GE223.out) | exact HB.out)))); rintro e w10 ⟨v225, rfl, ho0, hb⟩; have n0_ := Aside0.mk (Kd.N_lower (Kd.N_mono (ok' := fun k_ => k_ ≠ gb223) ho0 (fun k_ hk_ => Or.elim hk_ (fun hs_ => fun e_ => Nat.not_le.2 hs_ (by rw [e_]; exact GW223.out)) (fun hn_ => (Kd.freshB (g := gb223) (o := .cells #[.int .u8 a0_0, .int .i64 a0_1, .int .i64 a0_2, .int .i64 a0_3, .int .i64 a0_4, .int .i64 a0_5, .slice A0_6 l0_6.length c0_6] 26 (0, 0)) (by (with_reducible repeat (first | refine blk_drewN ?_ _ | refine blk_drew ?_ | refine blk_alloc ?_ _)); exact BK223.out) k_ hn_)))) (below_size (by repeat (first | (with_reducible first | exact HB.out | apply below_alloc | apply pw_below_drewN | apply below_drew1 | refine below_set ?_ GE223.out) | exact HB.out)))); have n1_ := Aside0.mk (blk_below (g := gb223) (o := .cells #[.int .u8 a0_0, .int .i64 a0_1, .int .i64 a0_2, .int .i64 a0_3, .int .i64 a0_4, .int .i64 a0_5, .slice A0_6 l0_6.length c0_6] 26 (0, 0)) (by (with_reducible repeat (first | refine blk_drewN ?_ _ | refine blk_drew ?_ | refine blk_alloc ?_ _)); exact BK223.out) hb); have n2_ := Aside0.mk (below_step (by repeat (first | (with_reducible first | exact HB.out | apply below_alloc | apply pw_below_drewN | apply below_drew1 | refine below_set ?_ GE223.out) | exact HB.out)) hb); clear BK223; clear HB; have HO226 := n0_; have BK223 := n1_; have HB := n2_; clear n0_ n1_ n2_; (try clear hb); (try clear hb2); (try clear hk); (try clear hi); (try clear ho0); obtain ⟨Ao11, co11, eo11⟩ := Kd.N_slice HO226.out; subst eo11))
  go_loopg [15] k (fun kq v15 w' => ∃ (x15_1 : Int), v15 = .int .i64 x15_1 ∧ Aside0 (sashref05_May.l0 kq t224 (t224.length : Int) x15_1 a0_0 a0_1 a0_2 a0_3 a0_4 a0_5 l0_6 = some r) ∧ Aside0 (kq ≤ k) ∧ Aside0 (Kd.N k26 26 w' w.heap.size (fun k_ => k_ ≠ gb223) (.slice Ao11 t224.length co11) t224) ∧ Aside0 (w'.heap[gb223]? = some (.cells #[.int .u8 a0_0, .int .i64 a0_1, .int .i64 a0_2, .int .i64 a0_3, .int .i64 a0_4, .int .i64 a0_5, (.slice A0_6 l0_6.length c0_6)] 26 (0, 0))) ∧ Aside0 (Below w.heap.size w w'))
  case atStart => exact ⟨(0), (by first | rfl | (simp; done) | (simp [*]; done)), H', ⟨Nat.le_refl _⟩, ⟨by (with_reducible repeat (first | apply Kd.N_alloc | apply Kd.N_drewN | apply Kd.N_drew)); exact HO226.out⟩, ⟨by (with_reducible repeat (first | refine blk_drewN ?_ _ | refine blk_drew ?_ | refine blk_alloc ?_ _)); exact BK223.out⟩, ⟨by repeat (first | (with_reducible first | exact HB.out | apply below_alloc | apply pw_below_drewN | apply below_drew1 | refine below_set ?_ GE223.out) | exact HB.out)⟩⟩
  case round =>
   clear H'
   try clear p2
   try clear c3
   try clear c3b0
   try clear c3b1
   try clear hcz5_0
   try clear hcz5_1
   try clear hcz5_2
   try clear hcz5_3
   try clear hcz5_4
   try clear hcz5_5
   try clear hcz5_6
   try clear hcz9_0
   try clear hcz9_1
   try clear hcz9_2
   try clear hcz9_3
   try clear hcz9_4
   try clear hcz9_5
   try clear hcz9_6
   try clear hfz5_0
   try clear hfz5_1
   try clear hfz5_2
   try clear hfz5_3
   try clear hfz5_4
   try clear hfz5_5
   try clear hfz5_6
   try clear hfz9_0
   try clear hfz9_1
   try clear hfz9_2
   try clear hfz9_3
   try clear hfz9_4
   try clear hfz9_5
   try clear hfz9_6
   obtain ⟨x15_1, rfl, HA, HK1, HO_3, BK223, HB⟩ := hrel
   cases gk with
   | zero => exact absurd HA.out (by simp [sashref05_May.l0])
   | succ k1 =>
    have H := HA.out
    clear HA
    simp only [sashref05_May.l0] at H
    by_cases c12 : x15_1 < (t224.length : Int)
    ·rw [if_pos c12] at H
     have c12b0 : decide (x15_1 < (t224.length : Int)) = true := decide_eq_true c12
     clear c12
     have HC13 := Aside0.mk H
     clear H
     go_upto_region 7 with (fail)
     go_cut [40] (fun v40 wc => ∃ (kq : Nat) (x40_12 : Bool), v40 = .bool x40_12 ∧ Aside0 (sashref05_May.j1 kq t224 x15_1 (t224.length : Int) x15_1 x40_12 a0_0 a0_1 a0_2 a0_3 a0_4 a0_5 l0_6 = some r) ∧ Aside0 (kq ≤ k1) ∧ Aside0 (Kd.N k26 26 wc w.heap.size (fun k_ => k_ ≠ gb223) (.slice Ao11 t224.length co11) t224) ∧ Aside0 (wc.heap[gb223]? = some (.cells #[.int .u8 a0_0, .int .i64 a0_1, .int .i64 a0_2, .int .i64 a0_3, .int .i64 a0_4, .int .i64 a0_5, (.slice A0_6 l0_6.length c0_6)] 26 (0, 0))) ∧ Aside0 (Below w.heap.size w wc))
     case first =>
      have H := HC13.out
      clear HC13
      by_cases c14 : 0 ≤ x15_1
      ·rw [if_pos c14] at H
       have c14b0 : decide (0 ≤ x15_1) = true := decide_eq_true c14
       clear c14
       (first | rw [c14b0] | (simp only [i64_w, i32_w]; rw [c14b0]) | skip)
       by_cases c15 : x15_1 < (t224.length : Int)
       ·rw [if_pos c15] at H
        have c15b0 : decide (x15_1 < (t224.length : Int)) = true := decide_eq_true c15
        clear c15
        replace H := Option.bind_eq_some_iff.mp H
        obtain ⟨t228, A160, H⟩ := H
        replace H : (if t228 = true then (if ((rd_T26 t224 x15_1).f0) < 1 then (sashref05_May.j1 k1 t224 x15_1 (t224.length : Int) x15_1 true a0_0 a0_1 a0_2 a0_3 a0_4 a0_5 l0_6) else (sashref05_May.j1 k1 t224 x15_1 (t224.length : Int) x15_1 (decide (((rd_T26 t224 x15_1).f0) > 3)) a0_0 a0_1 a0_2 a0_3 a0_4 a0_5 l0_6)) else (sashref05_May.j1 k1 t224 x15_1 (t224.length : Int) x15_1 true a0_0 a0_1 a0_2 a0_3 a0_4 a0_5 l0_6)) = some r := H
        have A16 := Aside0.mk A160
        clear A160
        by_cases c17 : t228 = true
        ·subst c17
         have H1 : (if ((rd_T26 t224 x15_1).f0) < 1 then (sashref05_May.j1 k1 t224 x15_1 (t224.length : Int) x15_1 true a0_0 a0_1 a0_2 a0_3 a0_4 a0_5 l0_6) else (sashref05_May.j1 k1 t224 x15_1 (t224.length : Int) x15_1 (decide (((rd_T26 t224 x15_1).f0) > 3)) a0_0 a0_1 a0_2 a0_3 a0_4 a0_5 l0_6)) = some r := by rw [if_pos rfl] at H; exact H
         clear H
         have H := H1
         clear H1
         by_cases c18 : ((rd_T26 t224 x15_1).f0) < 1
         ·rw [if_pos c18] at H
          have c18b0 : decide (((rd_T26 t224 x15_1).f0) < 1) = true := decide_eq_true c18
          clear c18
          have H' := Aside0.mk H
          clear H
          have p227 : 0 ≤ (x15_1 : Int) := of_decide_eq_true (by first | (with_reducible assumption) | assumption)
          have q227 : x15_1 < (t224.length : Int) := of_decide_eq_true (by first | (with_reducible assumption) | assumption)
          obtain ⟨ad227, A227_6, c227_6, e227, hx227_0, hx227_1, hx227_2, hx227_3, hx227_4, hx227_5, hx227_6, hl227_6, hi227_6⟩ := at_T26 (Kd.N_reads' HO_3.out).2.2 x15_1 p227 q227
          cases e227
          obtain ⟨ce227, hce227, hMe227, hcc227⟩ := Kd.N_get HO_3.out z26 x15_1 p227 (by first | exact q227 | exact of_decide_eq_true (by first | (with_reducible assumption) | assumption) | (have e_ := (Kd.N_reads' HO_3.out).1; omega))
          obtain ⟨ua227_6, uc227_6, rfl, ul227_6, ge227_6⟩ := k26_openF hMe227
          have hv227_6 := hcc227 6 _ rfl
          rw [add_field _ _ 6 (by omega)] at hv227_6
          replace hv227_6 := Option.some.inj (hv227_6.symm.trans hx227_6)
          injection hv227_6 with hva_ hvn_ hvc_
          rw [hva_] at ge227_6
          rw [hvc_] at ul227_6
          have HL227_6 := Aside0.mk (show Kd.V k26 26 _ w.heap.size _ _ ((rd_T26 t224 x15_1).f3) from Kd.V_mk ul227_6 ge227_6)
          clear hva_ hvn_ hvc_ ge227_6 ul227_6
          clear hcc227 hce227
          have HR227_6 := Aside0.mk hi227_6
          have HC227_6 := Aside0.mk hl227_6
          clear hi227_6 hl227_6
          replace p227 := eq_true p227
          replace q227 := eq_true q227
          go_wp2_with (first | (go_at_call 53; (with_reducible refine (sashref04_May.calls ((rd_T26 t224 x15_1).f1.f0) ((rd_T26 t224 x15_1).f1.f1) ((rd_T26 t224 x15_1).f1.f2) ((rd_T26 t224 x15_1).f1.f3) true _ A16.out).mono ?_); rintro e w19 ⟨rfl, hb⟩; have n0_ := Aside0.mk (Kd.N_below (by (with_reducible repeat (first | apply Kd.N_alloc | apply Kd.N_drewN | apply Kd.N_drew)); exact HO_3.out) hb); have n1_ := Aside0.mk (Kd.V_below (by (with_reducible repeat (first | apply Kd.V_alloc | apply Kd.V_drewN | apply Kd.V_drew)); exact HL227_6.out) hb); have n2_ := Aside0.mk (blk_below (g := gb223) (o := .cells #[.int .u8 a0_0, .int .i64 a0_1, .int .i64 a0_2, .int .i64 a0_3, .int .i64 a0_4, .int .i64 a0_5, .slice A0_6 l0_6.length c0_6] 26 (0, 0)) (by (with_reducible repeat (first | refine blk_drewN ?_ _ | refine blk_drew ?_ | refine blk_alloc ?_ _)); exact BK223.out) hb); have n3_ := Aside0.mk (Kd.C_below (by repeat (first | (with_reducible exact HR227_6.out) | (with_reducible refine Kd.C_alloc ?_ _) | (with_reducible refine Kd.C_drewN ?_ _) | (with_reducible refine Kd.C_drew ?_) | exact HR227_6.out)) hb); have n4_ := Aside0.mk (below_step (by repeat (first | (with_reducible first | exact HB.out | apply below_alloc | apply pw_below_drewN | apply below_drew1 | refine below_set ?_ GE223.out) | exact HB.out)) hb); clear HO_3; clear HL227_6; clear BK223; clear HR227_6; clear HB; have HO_3 := n0_; have HL227_6 := n1_; have BK223 := n2_; have HR227_6 := n3_; have HB := n4_; clear n0_ n1_ n2_ n3_ n4_; (try clear hb); (try clear hb2); (try clear hk); (try clear hi); have p229 : 0 ≤ (x15_1 : Int) := of_decide_eq_true (by first | (with_reducible assumption) | assumption); have q229 : x15_1 < (t224.length : Int) := of_decide_eq_true (by first | (with_reducible assumption) | assumption); obtain ⟨ad229, A229_6, c229_6, e229, hx229_0, hx229_1, hx229_2, hx229_3, hx229_4, hx229_5, hx229_6, hl229_6, hi229_6⟩ := at_T26 (Kd.N_reads' HO_3.out).2.2 x15_1 p229 q229; obtain rfl : ad227 = ad229 := (by injection e229); obtain ⟨ce229, hce229, hMe229, hcc229⟩ := Kd.N_get HO_3.out z26 x15_1 p229 (by first | exact q229 | exact of_decide_eq_true (by first | (with_reducible assumption) | assumption) | (have e_ := (Kd.N_reads' HO_3.out).1; omega)); obtain ⟨ua229_6, uc229_6, rfl, ul229_6, ge229_6⟩ := k26_openF hMe229; have hv229_6 := hcc229 6 _ rfl; rw [add_field _ _ 6 (by omega)] at hv229_6; replace hv229_6 := Option.some.inj (hv229_6.symm.trans hx229_6); injection hv229_6 with hva_ hvn_ hvc_; rw [hva_] at ge229_6; rw [hvc_] at ul229_6; have HL229_6 := Aside0.mk (show Kd.V k26 26 _ w.heap.size _ _ ((rd_T26 t224 x15_1).f3) from Kd.V_mk ul229_6 ge229_6); clear hva_ hvn_ hvc_ ge229_6 ul229_6; clear hcc229 hce229; have HR229_6 := Aside0.mk hi229_6; have HC229_6 := Aside0.mk hl229_6; clear hi229_6 hl229_6; replace p229 := eq_true p229; replace q229 := eq_true q229))
          go_meet
          case rel => exact ⟨_, (true), (by first | rfl | (simp; done) | (simp [*]; done)), H', ⟨by have := HK1.out; first | omega | exact Nat.le_refl _⟩, ⟨by (with_reducible repeat (first | apply Kd.N_alloc | apply Kd.N_drewN | apply Kd.N_drew)); exact HO_3.out⟩, ⟨by (with_reducible repeat (first | refine blk_drewN ?_ _ | refine blk_drew ?_ | refine blk_alloc ?_ _)); exact BK223.out⟩, ⟨by repeat (first | (with_reducible first | exact HB.out | apply below_alloc | apply pw_below_drewN | apply below_drew1 | refine below_set ?_ GE223.out) | exact HB.out)⟩⟩
         ·rw [if_neg c18] at H
          have c18b0 : decide (((rd_T26 t224 x15_1).f0) < 1) = false := decide_eq_false c18
          clear c18
          have H' := Aside0.mk H
          clear H
          have p227 : 0 ≤ (x15_1 : Int) := of_decide_eq_true (by first | (with_reducible assumption) | assumption)
          have q227 : x15_1 < (t224.length : Int) := of_decide_eq_true (by first | (with_reducible assumption) | assumption)
          obtain ⟨ad227, A227_6, c227_6, e227, hx227_0, hx227_1, hx227_2, hx227_3, hx227_4, hx227_5, hx227_6, hl227_6, hi227_6⟩ := at_T26 (Kd.N_reads' HO_3.out).2.2 x15_1 p227 q227
          cases e227
          obtain ⟨ce227, hce227, hMe227, hcc227⟩ := Kd.N_get HO_3.out z26 x15_1 p227 (by first | exact q227 | exact of_decide_eq_true (by first | (with_reducible assumption) | assumption) | (have e_ := (Kd.N_reads' HO_3.out).1; omega))
          obtain ⟨ua227_6, uc227_6, rfl, ul227_6, ge227_6⟩ := k26_openF hMe227
          have hv227_6 := hcc227 6 _ rfl
          rw [add_field _ _ 6 (by omega)] at hv227_6
          replace hv227_6 := Option.some.inj (hv227_6.symm.trans hx227_6)
          injection hv227_6 with hva_ hvn_ hvc_
          rw [hva_] at ge227_6
          rw [hvc_] at ul227_6
          have HL227_6 := Aside0.mk (show Kd.V k26 26 _ w.heap.size _ _ ((rd_T26 t224 x15_1).f3) from Kd.V_mk ul227_6 ge227_6)
          clear hva_ hvn_ hvc_ ge227_6 ul227_6
          clear hcc227 hce227
          have HR227_6 := Aside0.mk hi227_6
          have HC227_6 := Aside0.mk hl227_6
          clear hi227_6 hl227_6
          replace p227 := eq_true p227
          replace q227 := eq_true q227
          go_wp2_with (first | (go_at_call 53; (with_reducible refine (sashref04_May.calls ((rd_T26 t224 x15_1).f1.f0) ((rd_T26 t224 x15_1).f1.f1) ((rd_T26 t224 x15_1).f1.f2) ((rd_T26 t224 x15_1).f1.f3) true _ A16.out).mono ?_); rintro e w20 ⟨rfl, hb⟩; have n0_ := Aside0.mk (Kd.N_below (by (with_reducible repeat (first | apply Kd.N_alloc | apply Kd.N_drewN | apply Kd.N_drew)); exact HO_3.out) hb); have n1_ := Aside0.mk (Kd.V_below (by (with_reducible repeat (first | apply Kd.V_alloc | apply Kd.V_drewN | apply Kd.V_drew)); exact HL227_6.out) hb); have n2_ := Aside0.mk (blk_below (g := gb223) (o := .cells #[.int .u8 a0_0, .int .i64 a0_1, .int .i64 a0_2, .int .i64 a0_3, .int .i64 a0_4, .int .i64 a0_5, .slice A0_6 l0_6.length c0_6] 26 (0, 0)) (by (with_reducible repeat (first | refine blk_drewN ?_ _ | refine blk_drew ?_ | refine blk_alloc ?_ _)); exact BK223.out) hb); have n3_ := Aside0.mk (Kd.C_below (by repeat (first | (with_reducible exact HR227_6.out) | (with_reducible refine Kd.C_alloc ?_ _) | (with_reducible refine Kd.C_drewN ?_ _) | (with_reducible refine Kd.C_drew ?_) | exact HR227_6.out)) hb); have n4_ := Aside0.mk (below_step (by repeat (first | (with_reducible first | exact HB.out | apply below_alloc | apply pw_below_drewN | apply below_drew1 | refine below_set ?_ GE223.out) | exact HB.out)) hb); clear HO_3; clear HL227_6; clear BK223; clear HR227_6; clear HB; have HO_3 := n0_; have HL227_6 := n1_; have BK223 := n2_; have HR227_6 := n3_; have HB := n4_; clear n0_ n1_ n2_ n3_ n4_; (try clear hb); (try clear hb2); (try clear hk); (try clear hi); have p229 : 0 ≤ (x15_1 : Int) := of_decide_eq_true (by first | (with_reducible assumption) | assumption); have q229 : x15_1 < (t224.length : Int) := of_decide_eq_true (by first | (with_reducible assumption) | assumption); obtain ⟨ad229, A229_6, c229_6, e229, hx229_0, hx229_1, hx229_2, hx229_3, hx229_4, hx229_5, hx229_6, hl229_6, hi229_6⟩ := at_T26 (Kd.N_reads' HO_3.out).2.2 x15_1 p229 q229; obtain rfl : ad227 = ad229 := (by injection e229); obtain ⟨ce229, hce229, hMe229, hcc229⟩ := Kd.N_get HO_3.out z26 x15_1 p229 (by first | exact q229 | exact of_decide_eq_true (by first | (with_reducible assumption) | assumption) | (have e_ := (Kd.N_reads' HO_3.out).1; omega)); obtain ⟨ua229_6, uc229_6, rfl, ul229_6, ge229_6⟩ := k26_openF hMe229; have hv229_6 := hcc229 6 _ rfl; rw [add_field _ _ 6 (by omega)] at hv229_6; replace hv229_6 := Option.some.inj (hv229_6.symm.trans hx229_6); injection hv229_6 with hva_ hvn_ hvc_; rw [hva_] at ge229_6; rw [hvc_] at ul229_6; have HL229_6 := Aside0.mk (show Kd.V k26 26 _ w.heap.size _ _ ((rd_T26 t224 x15_1).f3) from Kd.V_mk ul229_6 ge229_6); clear hva_ hvn_ hvc_ ge229_6 ul229_6; clear hcc229 hce229; have HR229_6 := Aside0.mk hi229_6; have HC229_6 := Aside0.mk hl229_6; clear hi229_6 hl229_6; replace p229 := eq_true p229; replace q229 := eq_true q229; have p230 : 0 ≤ (x15_1 : Int) := of_decide_eq_true (by first | (with_reducible assumption) | assumption); have q230 : x15_1 < (t224.length : Int) := of_decide_eq_true (by first | (with_reducible assumption) | assumption); obtain ⟨ad230, A230_6, c230_6, e230, hx230_0, hx230_1, hx230_2, hx230_3, hx230_4, hx230_5, hx230_6, hl230_6, hi230_6⟩ := at_T26 (Kd.N_reads' HO_3.out).2.2 x15_1 p230 q230; obtain rfl : ad227 = ad230 := (by injection e230); obtain ⟨ce230, hce230, hMe230, hcc230⟩ := Kd.N_get HO_3.out z26 x15_1 p230 (by first | exact q230 | exact of_decide_eq_true (by first | (with_reducible assumption) | assumption) | (have e_ := (Kd.N_reads' HO_3.out).1; omega)); obtain ⟨ua230_6, uc230_6, rfl, ul230_6, ge230_6⟩ := k26_openF hMe230; have hv230_6 := hcc230 6 _ rfl; rw [add_field _ _ 6 (by omega)] at hv230_6; replace hv230_6 := Option.some.inj (hv230_6.symm.trans hx230_6); injection hv230_6 with hva_ hvn_ hvc_; rw [hva_] at ge230_6; rw [hvc_] at ul230_6; have HL230_6 := Aside0.mk (show Kd.V k26 26 _ w.heap.size _ _ ((rd_T26 t224 x15_1).f3) from Kd.V_mk ul230_6 ge230_6); clear hva_ hvn_ hvc_ ge230_6 ul230_6; clear hcc230 hce230; have HR230_6 := Aside0.mk hi230_6; have HC230_6 := Aside0.mk hl230_6; clear hi230_6 hl230_6; replace p230 := eq_true p230; replace q230 := eq_true q230; have ea_ := Option.some.inj (hx229_6.symm.trans hx230_6); injection ea_ with ea_ en_ ec_; subst ea_; subst ec_; clear en_))
          go_meet
          case rel => exact ⟨_, (decide (((rd_T26 t224 x15_1).f0) > 3)), (by first | rfl | (simp; done) | (simp [*]; done)), H', ⟨by have := HK1.out; first | omega | exact Nat.le_refl _⟩, ⟨by (with_reducible repeat (first | apply Kd.N_alloc | apply Kd.N_drewN | apply Kd.N_drew)); exact HO_3.out⟩, ⟨by (with_reducible repeat (first | refine blk_drewN ?_ _ | refine blk_drew ?_ | refine blk_alloc ?_ _)); exact BK223.out⟩, ⟨by repeat (first | (with_reducible first | exact HB.out | apply below_alloc | apply pw_below_drewN | apply below_drew1 | refine below_set ?_ GE223.out) | exact HB.out)⟩⟩
        ·replace c17 := Bool.eq_false_iff.mpr c17
         subst c17
         have H1 : (sashref05_May.j1 k1 t224 x15_1 (t224.length : Int) x15_1 true a0_0 a0_1 a0_2 a0_3 a0_4 a0_5 l0_6) = some r := by rw [if_neg (show ¬ (false = true) by decide)] at H; exact H
         clear H
         have H := H1
         clear H1
         have H' := Aside0.mk H
         clear H
         have p227 : 0 ≤ (x15_1 : Int) := of_decide_eq_true (by first | (with_reducible assumption) | assumption)
         have q227 : x15_1 < (t224.length : Int) := of_decide_eq_true (by first | (with_reducible assumption) | assumption)
         obtain ⟨ad227, A227_6, c227_6, e227, hx227_0, hx227_1, hx227_2, hx227_3, hx227_4, hx227_5, hx227_6, hl227_6, hi227_6⟩ := at_T26 (Kd.N_reads' HO_3.out).2.2 x15_1 p227 q227
         cases e227
         obtain ⟨ce227, hce227, hMe227, hcc227⟩ := Kd.N_get HO_3.out z26 x15_1 p227 (by first | exact q227 | exact of_decide_eq_true (by first | (with_reducible assumption) | assumption) | (have e_ := (Kd.N_reads' HO_3.out).1; omega))
         obtain ⟨ua227_6, uc227_6, rfl, ul227_6, ge227_6⟩ := k26_openF hMe227
         have hv227_6 := hcc227 6 _ rfl
         rw [add_field _ _ 6 (by omega)] at hv227_6
         replace hv227_6 := Option.some.inj (hv227_6.symm.trans hx227_6)
         injection hv227_6 with hva_ hvn_ hvc_
         rw [hva_] at ge227_6
         rw [hvc_] at ul227_6
         have HL227_6 := Aside0.mk (show Kd.V k26 26 _ w.heap.size _ _ ((rd_T26 t224 x15_1).f3) from Kd.V_mk ul227_6 ge227_6)
         clear hva_ hvn_ hvc_ ge227_6 ul227_6
         clear hcc227 hce227
         have HR227_6 := Aside0.mk hi227_6
         have HC227_6 := Aside0.mk hl227_6
         clear hi227_6 hl227_6
         replace p227 := eq_true p227
         replace q227 := eq_true q227
         go_wp2_with (first | (go_at_call 53; (with_reducible refine (sashref04_May.calls ((rd_T26 t224 x15_1).f1.f0) ((rd_T26 t224 x15_1).f1.f1) ((rd_T26 t224 x15_1).f1.f2) ((rd_T26 t224 x15_1).f1.f3) false _ A16.out).mono ?_); rintro e w21 ⟨rfl, hb⟩; have n0_ := Aside0.mk (Kd.N_below (by (with_reducible repeat (first | apply Kd.N_alloc | apply Kd.N_drewN | apply Kd.N_drew)); exact HO_3.out) hb); have n1_ := Aside0.mk (Kd.V_below (by (with_reducible repeat (first | apply Kd.V_alloc | apply Kd.V_drewN | apply Kd.V_drew)); exact HL227_6.out) hb); have n2_ := Aside0.mk (blk_below (g := gb223) (o := .cells #[.int .u8 a0_0, .int .i64 a0_1, .int .i64 a0_2, .int .i64 a0_3, .int .i64 a0_4, .int .i64 a0_5, .slice A0_6 l0_6.length c0_6] 26 (0, 0)) (by (with_reducible repeat (first | refine blk_drewN ?_ _ | refine blk_drew ?_ | refine blk_alloc ?_ _)); exact BK223.out) hb); have n3_ := Aside0.mk (Kd.C_below (by repeat (first | (with_reducible exact HR227_6.out) | (with_reducible refine Kd.C_alloc ?_ _) | (with_reducible refine Kd.C_drewN ?_ _) | (with_reducible refine Kd.C_drew ?_) | exact HR227_6.out)) hb); have n4_ := Aside0.mk (below_step (by repeat (first | (with_reducible first | exact HB.out | apply below_alloc | apply pw_below_drewN | apply below_drew1 | refine below_set ?_ GE223.out) | exact HB.out)) hb); clear HO_3; clear HL227_6; clear BK223; clear HR227_6; clear HB; have HO_3 := n0_; have HL227_6 := n1_; have BK223 := n2_; have HR227_6 := n3_; have HB := n4_; clear n0_ n1_ n2_ n3_ n4_; (try clear hb); (try clear hb2); (try clear hk); (try clear hi)))
         go_meet
         case rel => exact ⟨_, (true), (by first | rfl | (simp; done) | (simp [*]; done)), H', ⟨by have := HK1.out; first | omega | exact Nat.le_refl _⟩, ⟨by (with_reducible repeat (first | apply Kd.N_alloc | apply Kd.N_drewN | apply Kd.N_drew)); exact HO_3.out⟩, ⟨by (with_reducible repeat (first | refine blk_drewN ?_ _ | refine blk_drew ?_ | refine blk_alloc ?_ _)); exact BK223.out⟩, ⟨by repeat (first | (with_reducible first | exact HB.out | apply below_alloc | apply pw_below_drewN | apply below_drew1 | refine below_set ?_ GE223.out) | exact HB.out)⟩⟩
       ·rw [if_neg c15] at H
        exact absurd H (by simp)
      ·rw [if_neg c14] at H
       exact absurd H (by simp)
     case rest =>
      clear HC13
      try clear c1
      try clear c2
      try clear p2
      try clear q2
      try clear hx2
      try clear c3
      try clear c3b0
      try clear c3b1
      try clear c12
      try clear c12b0
      try clear c14
      try clear c14b0
      try clear c15
      try clear c15b0
      try clear c17
      try clear c18
      try clear c18b0
      try clear hcz5_0
      try clear hcz5_1
      try clear hcz5_2
      try clear hcz5_3
      try clear hcz5_4
      try clear hcz5_5
      try clear hcz5_6
      try clear hcz9_0
      try clear hcz9_1
      try clear hcz9_2
      try clear hcz9_3
      try clear hcz9_4
      try clear hcz9_5
      try clear hcz9_6
      try clear hfz5_0
      try clear hfz5_1
      try clear hfz5_2
      try clear hfz5_3
      try clear hfz5_4
      try clear hfz5_5
      try clear hfz5_6
      try clear hfz9_0
      try clear hfz9_1
      try clear hfz9_2
      try clear hfz9_3
      try clear hfz9_4
      try clear hfz9_5
      try clear hfz9_6
      try clear hx227_0
      try clear hx227_1
      try clear hx227_2
      try clear hx227_3
      try clear hx227_4
      try clear hx227_5
      try clear hx227_6
      try clear hx229_0
      try clear hx229_1
      try clear hx229_2
      try clear hx229_3
      try clear hx229_4
      try clear hx229_5
      try clear hx229_6
      try clear hx230_0
      try clear hx230_1
      try clear hx230_2
      try clear hx230_3
      try clear hx230_4
      try clear hx230_5
      try clear hx230_6
      try clear p2
      try clear p227
      try clear p229
      try clear p230
      try clear q227
      try clear q229
      try clear q230
      obtain ⟨kq, x40_12, rfl, HA, HJ12, HO_3, BK223, HB⟩ := hcut
      cases kq with
      | zero => exact absurd HA.out (by simp [sashref05_May.j1])
      | succ kj12 =>
       have H := HA.out
       clear HA
       simp only [sashref05_May.j1] at H
       by_cases c22 : x40_12 = true
       ·subst c22
        have H1 : (some false) = some r := by rw [if_pos rfl] at H; exact H
        clear H
        have H := H1
        clear H1
        obtain rfl := Option.some.inj H
        go_wp2
        go_ret
        exact ⟨by first | rfl | (simp [errW_none, errW_some] <;> rfl) | (simp [*, errW_none, errW_some] <;> rfl), by repeat (first | (with_reducible first | exact HB.out | apply below_alloc | apply pw_below_drewN | apply below_drew1 | refine below_set ?_ GE223.out) | exact HB.out)⟩
       ·replace c22 := Bool.eq_false_iff.mpr c22
        subst c22
        have H1 : (if 0 ≤ x15_1 then (if x15_1 < (t224.length : Int) then (if ((rd_T26 t224 x15_1).f0) = 1 then (if (((rd_T26 t224 x15_1).f3).length : Int) > 0 then (some false) else (if ((rd_T26 t224 x15_1).f2) < 0 then (some false) else (if ((rd_T26 t224 x15_1).f2) > 2147483647 then (some false) else (if ((rd_T26 t224 x15_1).f0) > 1 then (if (((rd_T26 t224 x15_1).f3).length : Int) < 2 then (some false) else (if ((rd_T26 t224 x15_1).f2) = 0 then (sashref05_May.l0 kj12 t224 (t224.length : Int) (wrap64 (x15_1 + 1)) a0_0 a0_1 a0_2 a0_3 a0_4 a0_5 l0_6) else (some false))) else (sashref05_May.l0 kj12 t224 (t224.length : Int) (wrap64 (x15_1 + 1)) a0_0 a0_1 a0_2 a0_3 a0_4 a0_5 l0_6))))) else (if ((rd_T26 t224 x15_1).f0) > 1 then (if (((rd_T26 t224 x15_1).f3).length : Int) < 2 then (some false) else (if ((rd_T26 t224 x15_1).f2) = 0 then (sashref05_May.l0 kj12 t224 (t224.length : Int) (wrap64 (x15_1 + 1)) a0_0 a0_1 a0_2 a0_3 a0_4 a0_5 l0_6) else (some false))) else (sashref05_May.l0 kj12 t224 (t224.length : Int) (wrap64 (x15_1 + 1)) a0_0 a0_1 a0_2 a0_3 a0_4 a0_5 l0_6))) else (none)) else (none)) = some r := by rw [if_neg (show ¬ (false = true) by decide)] at H; exact H
        clear H
        have H := H1
        clear H1
        by_cases c23 : 0 ≤ x15_1
        ·rw [if_pos c23] at H
         have c23b0 : decide (0 ≤ x15_1) = true := decide_eq_true c23
         clear c23
         by_cases c24 : x15_1 < (t224.length : Int)
         ·rw [if_pos c24] at H
          have c24b0 : decide (x15_1 < (t224.length : Int)) = true := decide_eq_true c24
          clear c24
          by_cases c25 : ((rd_T26 t224 x15_1).f0) = 1
          ·rw [if_pos c25] at H
           have c25b0 : (((rd_T26 t224 x15_1).f0) == 1) = true := beq_iff_eq.mpr c25
           have c25b1 : (((rd_T26 t224 x15_1).f0) != 1) = false := bne_eq_false_iff_eq.mpr c25
           clear c25
           by_cases c26 : (((rd_T26 t224 x15_1).f3).length : Int) > 0
           ·rw [if_pos c26] at H
            have c26b0 : decide (0 < (((rd_T26 t224 x15_1).f3).length : Int)) = true := decide_eq_true c26
            have c26b1 : decide (0 < ((rd_T26 t224 x15_1).f3).length) = true := decide_eq_true (by omega)
            clear c26
            obtain rfl := Option.some.inj H
            have p231 : 0 ≤ (x15_1 : Int) := of_decide_eq_true (by first | (with_reducible assumption) | assumption)
            have q231 : x15_1 < (t224.length : Int) := of_decide_eq_true (by first | (with_reducible assumption) | assumption)
            obtain ⟨ad231, A231_6, c231_6, e231, hx231_0, hx231_1, hx231_2, hx231_3, hx231_4, hx231_5, hx231_6, hl231_6, hi231_6⟩ := at_T26 (Kd.N_reads' HO_3.out).2.2 x15_1 p231 q231
            cases e231
            obtain ⟨ce231, hce231, hMe231, hcc231⟩ := Kd.N_get HO_3.out z26 x15_1 p231 (by first | exact q231 | exact of_decide_eq_true (by first | (with_reducible assumption) | assumption) | (have e_ := (Kd.N_reads' HO_3.out).1; omega))
            obtain ⟨ua231_6, uc231_6, rfl, ul231_6, ge231_6⟩ := k26_openF hMe231
            have hv231_6 := hcc231 6 _ rfl
            rw [add_field _ _ 6 (by omega)] at hv231_6
            replace hv231_6 := Option.some.inj (hv231_6.symm.trans hx231_6)
            injection hv231_6 with hva_ hvn_ hvc_
            rw [hva_] at ge231_6
            rw [hvc_] at ul231_6
            have HL231_6 := Aside0.mk (show Kd.V k26 26 _ w.heap.size _ _ ((rd_T26 t224 x15_1).f3) from Kd.V_mk ul231_6 ge231_6)
            clear hva_ hvn_ hvc_ ge231_6 ul231_6
            clear hcc231 hce231
            have HR231_6 := Aside0.mk hi231_6
            have HC231_6 := Aside0.mk hl231_6
            clear hi231_6 hl231_6
            replace p231 := eq_true p231
            replace q231 := eq_true q231
            have p232 : 0 ≤ (x15_1 : Int) := of_decide_eq_true (by first | (with_reducible assumption) | assumption)
            have q232 : x15_1 < (t224.length : Int) := of_decide_eq_true (by first | (with_reducible assumption) | assumption)
            obtain ⟨ad232, A232_6, c232_6, e232, hx232_0, hx232_1, hx232_2, hx232_3, hx232_4, hx232_5, hx232_6, hl232_6, hi232_6⟩ := at_T26 (Kd.N_reads' HO_3.out).2.2 x15_1 p232 q232
            obtain rfl : ad231 = ad232 := (by injection e232)
            obtain ⟨ce232, hce232, hMe232, hcc232⟩ := Kd.N_get HO_3.out z26 x15_1 p232 (by first | exact q232 | exact of_decide_eq_true (by first | (with_reducible assumption) | assumption) | (have e_ := (Kd.N_reads' HO_3.out).1; omega))
            obtain ⟨ua232_6, uc232_6, rfl, ul232_6, ge232_6⟩ := k26_openF hMe232
            have hv232_6 := hcc232 6 _ rfl
            rw [add_field _ _ 6 (by omega)] at hv232_6
            replace hv232_6 := Option.some.inj (hv232_6.symm.trans hx232_6)
            injection hv232_6 with hva_ hvn_ hvc_
            rw [hva_] at ge232_6
            rw [hvc_] at ul232_6
            have HL232_6 := Aside0.mk (show Kd.V k26 26 _ w.heap.size _ _ ((rd_T26 t224 x15_1).f3) from Kd.V_mk ul232_6 ge232_6)
            clear hva_ hvn_ hvc_ ge232_6 ul232_6
            clear hcc232 hce232
            have HR232_6 := Aside0.mk hi232_6
            have HC232_6 := Aside0.mk hl232_6
            clear hi232_6 hl232_6
            replace p232 := eq_true p232
            replace q232 := eq_true q232
            have ea_ := Option.some.inj (hx231_6.symm.trans hx232_6)
            injection ea_ with ea_ en_ ec_
            subst ea_
            subst ec_
            clear en_
            go_wp2
            go_ret
            exact ⟨by first | rfl | (simp [errW_none, errW_some] <;> rfl) | (simp [*, errW_none, errW_some] <;> rfl), by repeat (first | (with_reducible first | exact HB.out | apply below_alloc | apply pw_below_drewN | apply below_drew1 | refine below_set ?_ GE223.out) | exact HB.out)⟩
           ·rw [if_neg c26] at H
            have c26b0 : decide (0 < (((rd_T26 t224 x15_1).f3).length : Int)) = false := decide_eq_false c26
            have c26b1 : decide (0 < ((rd_T26 t224 x15_1).f3).length) = false := decide_eq_false (by omega)
            clear c26
            by_cases c27 : ((rd_T26 t224 x15_1).f2) < 0
            ·rw [if_pos c27] at H
             have c27b0 : decide (((rd_T26 t224 x15_1).f2) < 0) = true := decide_eq_true c27
             clear c27
             obtain rfl := Option.some.inj H
             have p231 : 0 ≤ (x15_1 : Int) := of_decide_eq_true (by first | (with_reducible assumption) | assumption)
             have q231 : x15_1 < (t224.length : Int) := of_decide_eq_true (by first | (with_reducible assumption) | assumption)
             obtain ⟨ad231, A231_6, c231_6, e231, hx231_0, hx231_1, hx231_2, hx231_3, hx231_4, hx231_5, hx231_6, hl231_6, hi231_6⟩ := at_T26 (Kd.N_reads' HO_3.out).2.2 x15_1 p231 q231
             cases e231
             obtain ⟨ce231, hce231, hMe231, hcc231⟩ := Kd.N_get HO_3.out z26 x15_1 p231 (by first | exact q231 | exact of_decide_eq_true (by first | (with_reducible assumption) | assumption) | (have e_ := (Kd.N_reads' HO_3.out).1; omega))
             obtain ⟨ua231_6, uc231_6, rfl, ul231_6, ge231_6⟩ := k26_openF hMe231
             have hv231_6 := hcc231 6 _ rfl
             rw [add_field _ _ 6 (by omega)] at hv231_6
             replace hv231_6 := Option.some.inj (hv231_6.symm.trans hx231_6)
             injection hv231_6 with hva_ hvn_ hvc_
             rw [hva_] at ge231_6
             rw [hvc_] at ul231_6
             have HL231_6 := Aside0.mk (show Kd.V k26 26 _ w.heap.size _ _ ((rd_T26 t224 x15_1).f3) from Kd.V_mk ul231_6 ge231_6)
             clear hva_ hvn_ hvc_ ge231_6 ul231_6
             clear hcc231 hce231
             have HR231_6 := Aside0.mk hi231_6
             have HC231_6 := Aside0.mk hl231_6
             clear hi231_6 hl231_6
             replace p231 := eq_true p231
             replace q231 := eq_true q231
             have p232 : 0 ≤ (x15_1 : Int) := of_decide_eq_true (by first | (with_reducible assumption) | assumption)
             have q232 : x15_1 < (t224.length : Int) := of_decide_eq_true (by first | (with_reducible assumption) | assumption)
             obtain ⟨ad232, A232_6, c232_6, e232, hx232_0, hx232_1, hx232_2, hx232_3, hx232_4, hx232_5, hx232_6, hl232_6, hi232_6⟩ := at_T26 (Kd.N_reads' HO_3.out).2.2 x15_1 p232 q232
             obtain rfl : ad231 = ad232 := (by injection e232)
             obtain ⟨ce232, hce232, hMe232, hcc232⟩ := Kd.N_get HO_3.out z26 x15_1 p232 (by first | exact q232 | exact of_decide_eq_true (by first | (with_reducible assumption) | assumption) | (have e_ := (Kd.N_reads' HO_3.out).1; omega))
             obtain ⟨ua232_6, uc232_6, rfl, ul232_6, ge232_6⟩ := k26_openF hMe232
             have hv232_6 := hcc232 6 _ rfl
             rw [add_field _ _ 6 (by omega)] at hv232_6
             replace hv232_6 := Option.some.inj (hv232_6.symm.trans hx232_6)
             injection hv232_6 with hva_ hvn_ hvc_
             rw [hva_] at ge232_6
             rw [hvc_] at ul232_6
             have HL232_6 := Aside0.mk (show Kd.V k26 26 _ w.heap.size _ _ ((rd_T26 t224 x15_1).f3) from Kd.V_mk ul232_6 ge232_6)
             clear hva_ hvn_ hvc_ ge232_6 ul232_6
             clear hcc232 hce232
             have HR232_6 := Aside0.mk hi232_6
             have HC232_6 := Aside0.mk hl232_6
             clear hi232_6 hl232_6
             replace p232 := eq_true p232
             replace q232 := eq_true q232
             have ea_ := Option.some.inj (hx231_6.symm.trans hx232_6)
             injection ea_ with ea_ en_ ec_
             subst ea_
             subst ec_
             clear en_
             have p233 : 0 ≤ (x15_1 : Int) := of_decide_eq_true (by first | (with_reducible assumption) | assumption)
             have q233 : x15_1 < (t224.length : Int) := of_decide_eq_true (by first | (with_reducible assumption) | assumption)
             obtain ⟨ad233, A233_6, c233_6, e233, hx233_0, hx233_1, hx233_2, hx233_3, hx233_4, hx233_5, hx233_6, hl233_6, hi233_6⟩ := at_T26 (Kd.N_reads' HO_3.out).2.2 x15_1 p233 q233
             obtain rfl : ad231 = ad233 := (by injection e233)
             obtain ⟨ce233, hce233, hMe233, hcc233⟩ := Kd.N_get HO_3.out z26 x15_1 p233 (by first | exact q233 | exact of_decide_eq_true (by first | (with_reducible assumption) | assumption) | (have e_ := (Kd.N_reads' HO_3.out).1; omega))
             obtain ⟨ua233_6, uc233_6, rfl, ul233_6, ge233_6⟩ := k26_openF hMe233
             have hv233_6 := hcc233 6 _ rfl
             rw [add_field _ _ 6 (by omega)] at hv233_6
             replace hv233_6 := Option.some.inj (hv233_6.symm.trans hx233_6)
             injection hv233_6 with hva_ hvn_ hvc_
             rw [hva_] at ge233_6
             rw [hvc_] at ul233_6
             have HL233_6 := Aside0.mk (show Kd.V k26 26 _ w.heap.size _ _ ((rd_T26 t224 x15_1).f3) from Kd.V_mk ul233_6 ge233_6)
             clear hva_ hvn_ hvc_ ge233_6 ul233_6
             clear hcc233 hce233
             have HR233_6 := Aside0.mk hi233_6
             have HC233_6 := Aside0.mk hl233_6
             clear hi233_6 hl233_6
             replace p233 := eq_true p233
             replace q233 := eq_true q233
             have ea_ := Option.some.inj (hx231_6.symm.trans hx233_6)
             injection ea_ with ea_ en_ ec_
             subst ea_
             subst ec_
             clear en_
             go_wp2
             go_ret
             exact ⟨by first | rfl | (simp [errW_none, errW_some] <;> rfl) | (simp [*, errW_none, errW_some] <;> rfl), by repeat (first | (with_reducible first | exact HB.out | apply below_alloc | apply pw_below_drewN | apply below_drew1 | refine below_set ?_ GE223.out) | exact HB.out)⟩
            ·rw [if_neg c27] at H
             have c27b0 : decide (((rd_T26 t224 x15_1).f2) < 0) = false := decide_eq_false c27
             clear c27
             by_cases c28 : ((rd_T26 t224 x15_1).f2) > 2147483647
             ·rw [if_pos c28] at H
              have c28b0 : decide (2147483647 < ((rd_T26 t224 x15_1).f2)) = true := decide_eq_true c28
              clear c28
              obtain rfl := Option.some.inj H
              have p231 : 0 ≤ (x15_1 : Int) := of_decide_eq_true (by first | (with_reducible assumption) | assumption)
              have q231 : x15_1 < (t224.length : Int) := of_decide_eq_true (by first | (with_reducible assumption) | assumption)
              obtain ⟨ad231, A231_6, c231_6, e231, hx231_0, hx231_1, hx231_2, hx231_3, hx231_4, hx231_5, hx231_6, hl231_6, hi231_6⟩ := at_T26 (Kd.N_reads' HO_3.out).2.2 x15_1 p231 q231
              cases e231
              obtain ⟨ce231, hce231, hMe231, hcc231⟩ := Kd.N_get HO_3.out z26 x15_1 p231 (by first | exact q231 | exact of_decide_eq_true (by first | (with_reducible assumption) | assumption) | (have e_ := (Kd.N_reads' HO_3.out).1; omega))
              obtain ⟨ua231_6, uc231_6, rfl, ul231_6, ge231_6⟩ := k26_openF hMe231
              have hv231_6 := hcc231 6 _ rfl
              rw [add_field _ _ 6 (by omega)] at hv231_6
              replace hv231_6 := Option.some.inj (hv231_6.symm.trans hx231_6)
              injection hv231_6 with hva_ hvn_ hvc_
              rw [hva_] at ge231_6
              rw [hvc_] at ul231_6
              have HL231_6 := Aside0.mk (show Kd.V k26 26 _ w.heap.size _ _ ((rd_T26 t224 x15_1).f3) from Kd.V_mk ul231_6 ge231_6)
              clear hva_ hvn_ hvc_ ge231_6 ul231_6
              clear hcc231 hce231
              have HR231_6 := Aside0.mk hi231_6
              have HC231_6 := Aside0.mk hl231_6
              clear hi231_6 hl231_6
              replace p231 := eq_true p231
              replace q231 := eq_true q231
              have p232 : 0 ≤ (x15_1 : Int) := of_decide_eq_true (by first | (with_reducible assumption) | assumption)
              have q232 : x15_1 < (t224.length : Int) := of_decide_eq_true (by first | (with_reducible assumption) | assumption)
              obtain ⟨ad232, A232_6, c232_6, e232, hx232_0, hx232_1, hx232_2, hx232_3, hx232_4, hx232_5, hx232_6, hl232_6, hi232_6⟩ := at_T26 (Kd.N_reads' HO_3.out).2.2 x15_1 p232 q232
              obtain rfl : ad231 = ad232 := (by injection e232)
              obtain ⟨ce232, hce232, hMe232, hcc232⟩ := Kd.N_get HO_3.out z26 x15_1 p232 (by first | exact q232 | exact of_decide_eq_true (by first | (with_reducible assumption) | assumption) | (have e_ := (Kd.N_reads' HO_3.out).1; omega))
              obtain ⟨ua232_6, uc232_6, rfl, ul232_6, ge232_6⟩ := k26_openF hMe232
              have hv232_6 := hcc232 6 _ rfl
              rw [add_field _ _ 6 (by omega)] at hv232_6
              replace hv232_6 := Option.some.inj (hv232_6.symm.trans hx232_6)
              injection hv232_6 with hva_ hvn_ hvc_
              rw [hva_] at ge232_6
              rw [hvc_] at ul232_6
              have HL232_6 := Aside0.mk (show Kd.V k26 26 _ w.heap.size _ _ ((rd_T26 t224 x15_1).f3) from Kd.V_mk ul232_6 ge232_6)
              clear hva_ hvn_ hvc_ ge232_6 ul232_6
              clear hcc232 hce232
              have HR232_6 := Aside0.mk hi232_6
              have HC232_6 := Aside0.mk hl232_6
              clear hi232_6 hl232_6
              replace p232 := eq_true p232
              replace q232 := eq_true q232
              have ea_ := Option.some.inj (hx231_6.symm.trans hx232_6)
              injection ea_ with ea_ en_ ec_
              subst ea_
              subst ec_
              clear en_
              have p233 : 0 ≤ (x15_1 : Int) := of_decide_eq_true (by first | (with_reducible assumption) | assumption)
              have q233 : x15_1 < (t224.length : Int) := of_decide_eq_true (by first | (with_reducible assumption) | assumption)
              obtain ⟨ad233, A233_6, c233_6, e233, hx233_0, hx233_1, hx233_2, hx233_3, hx233_4, hx233_5, hx233_6, hl233_6, hi233_6⟩ := at_T26 (Kd.N_reads' HO_3.out).2.2 x15_1 p233 q233
              obtain rfl : ad231 = ad233 := (by injection e233)
              obtain ⟨ce233, hce233, hMe233, hcc233⟩ := Kd.N_get HO_3.out z26 x15_1 p233 (by first | exact q233 | exact of_decide_eq_true (by first | (with_reducible assumption) | assumption) | (have e_ := (Kd.N_reads' HO_3.out).1; omega))
              obtain ⟨ua233_6, uc233_6, rfl, ul233_6, ge233_6⟩ := k26_openF hMe233
              have hv233_6 := hcc233 6 _ rfl
              rw [add_field _ _ 6 (by omega)] at hv233_6
              replace hv233_6 := Option.some.inj (hv233_6.symm.trans hx233_6)
              injection hv233_6 with hva_ hvn_ hvc_
              rw [hva_] at ge233_6
              rw [hvc_] at ul233_6
              have HL233_6 := Aside0.mk (show Kd.V k26 26 _ w.heap.size _ _ ((rd_T26 t224 x15_1).f3) from Kd.V_mk ul233_6 ge233_6)
              clear hva_ hvn_ hvc_ ge233_6 ul233_6
              clear hcc233 hce233
              have HR233_6 := Aside0.mk hi233_6
              have HC233_6 := Aside0.mk hl233_6
              clear hi233_6 hl233_6
              replace p233 := eq_true p233
              replace q233 := eq_true q233
              have ea_ := Option.some.inj (hx231_6.symm.trans hx233_6)
              injection ea_ with ea_ en_ ec_
              subst ea_
              subst ec_
              clear en_
              have p234 : 0 ≤ (x15_1 : Int) := of_decide_eq_true (by first | (with_reducible assumption) | assumption)
              have q234 : x15_1 < (t224.length : Int) := of_decide_eq_true (by first | (with_reducible assumption) | assumption)
              obtain ⟨ad234, A234_6, c234_6, e234, hx234_0, hx234_1, hx234_2, hx234_3, hx234_4, hx234_5, hx234_6, hl234_6, hi234_6⟩ := at_T26 (Kd.N_reads' HO_3.out).2.2 x15_1 p234 q234
              obtain rfl : ad231 = ad234 := (by injection e234)
              obtain ⟨ce234, hce234, hMe234, hcc234⟩ := Kd.N_get HO_3.out z26 x15_1 p234 (by first | exact q234 | exact of_decide_eq_true (by first | (with_reducible assumption) | assumption) | (have e_ := (Kd.N_reads' HO_3.out).1; omega))
              obtain ⟨ua234_6, uc234_6, rfl, ul234_6, ge234_6⟩ := k26_openF hMe234
              have hv234_6 := hcc234 6 _ rfl
              rw [add_field _ _ 6 (by omega)] at hv234_6
              replace hv234_6 := Option.some.inj (hv234_6.symm.trans hx234_6)
              injection hv234_6 with hva_ hvn_ hvc_
              rw [hva_] at ge234_6
              rw [hvc_] at ul234_6
              have HL234_6 := Aside0.mk (show Kd.V k26 26 _ w.heap.size _ _ ((rd_T26 t224 x15_1).f3) from Kd.V_mk ul234_6 ge234_6)
              clear hva_ hvn_ hvc_ ge234_6 ul234_6
              clear hcc234 hce234
              have HR234_6 := Aside0.mk hi234_6
              have HC234_6 := Aside0.mk hl234_6
              clear hi234_6 hl234_6
              replace p234 := eq_true p234
              replace q234 := eq_true q234
              have ea_ := Option.some.inj (hx231_6.symm.trans hx234_6)
              injection ea_ with ea_ en_ ec_
              subst ea_
              subst ec_
              clear en_
              go_wp2
              go_ret
              exact ⟨by first | rfl | (simp [errW_none, errW_some] <;> rfl) | (simp [*, errW_none, errW_some] <;> rfl), by repeat (first | (with_reducible first | exact HB.out | apply below_alloc | apply pw_below_drewN | apply below_drew1 | refine below_set ?_ GE223.out) | exact HB.out)⟩
             ·rw [if_neg c28] at H
              have c28b0 : decide (2147483647 < ((rd_T26 t224 x15_1).f2)) = false := decide_eq_false c28
              clear c28
              by_cases c29 : ((rd_T26 t224 x15_1).f0) > 1
              ·rw [if_pos c29] at H
               have c29b0 : decide (1 < ((rd_T26 t224 x15_1).f0)) = true := decide_eq_true c29
               clear c29
               by_cases c30 : (((rd_T26 t224 x15_1).f3).length : Int) < 2
               ·rw [if_pos c30] at H
                have c30b0 : decide ((((rd_T26 t224 x15_1).f3).length : Int) < 2) = true := decide_eq_true c30
                have c30b1 : decide (((rd_T26 t224 x15_1).f3).length < 2) = true := decide_eq_true (by omega)
                clear c30
                obtain rfl := Option.some.inj H
                have p231 : 0 ≤ (x15_1 : Int) := of_decide_eq_true (by first | (with_reducible assumption) | assumption)
                have q231 : x15_1 < (t224.length : Int) := of_decide_eq_true (by first | (with_reducible assumption) | assumption)
                obtain ⟨ad231, A231_6, c231_6, e231, hx231_0, hx231_1, hx231_2, hx231_3, hx231_4, hx231_5, hx231_6, hl231_6, hi231_6⟩ := at_T26 (Kd.N_reads' HO_3.out).2.2 x15_1 p231 q231
                cases e231
                obtain ⟨ce231, hce231, hMe231, hcc231⟩ := Kd.N_get HO_3.out z26 x15_1 p231 (by first | exact q231 | exact of_decide_eq_true (by first | (with_reducible assumption) | assumption) | (have e_ := (Kd.N_reads' HO_3.out).1; omega))
                obtain ⟨ua231_6, uc231_6, rfl, ul231_6, ge231_6⟩ := k26_openF hMe231
                have hv231_6 := hcc231 6 _ rfl
                rw [add_field _ _ 6 (by omega)] at hv231_6
                replace hv231_6 := Option.some.inj (hv231_6.symm.trans hx231_6)
                injection hv231_6 with hva_ hvn_ hvc_
                rw [hva_] at ge231_6
                rw [hvc_] at ul231_6
                have HL231_6 := Aside0.mk (show Kd.V k26 26 _ w.heap.size _ _ ((rd_T26 t224 x15_1).f3) from Kd.V_mk ul231_6 ge231_6)
                clear hva_ hvn_ hvc_ ge231_6 ul231_6
                clear hcc231 hce231
                have HR231_6 := Aside0.mk hi231_6
                have HC231_6 := Aside0.mk hl231_6
                clear hi231_6 hl231_6
                replace p231 := eq_true p231
                replace q231 := eq_true q231
                have p232 : 0 ≤ (x15_1 : Int) := of_decide_eq_true (by first | (with_reducible assumption) | assumption)
                have q232 : x15_1 < (t224.length : Int) := of_decide_eq_true (by first | (with_reducible assumption) | assumption)
                obtain ⟨ad232, A232_6, c232_6, e232, hx232_0, hx232_1, hx232_2, hx232_3, hx232_4, hx232_5, hx232_6, hl232_6, hi232_6⟩ := at_T26 (Kd.N_reads' HO_3.out).2.2 x15_1 p232 q232
                obtain rfl : ad231 = ad232 := (by injection e232)
                obtain ⟨ce232, hce232, hMe232, hcc232⟩ := Kd.N_get HO_3.out z26 x15_1 p232 (by first | exact q232 | exact of_decide_eq_true (by first | (with_reducible assumption) | assumption) | (have e_ := (Kd.N_reads' HO_3.out).1; omega))
                obtain ⟨ua232_6, uc232_6, rfl, ul232_6, ge232_6⟩ := k26_openF hMe232
                have hv232_6 := hcc232 6 _ rfl
                rw [add_field _ _ 6 (by omega)] at hv232_6
                replace hv232_6 := Option.some.inj (hv232_6.symm.trans hx232_6)
                injection hv232_6 with hva_ hvn_ hvc_
                rw [hva_] at ge232_6
                rw [hvc_] at ul232_6
                have HL232_6 := Aside0.mk (show Kd.V k26 26 _ w.heap.size _ _ ((rd_T26 t224 x15_1).f3) from Kd.V_mk ul232_6 ge232_6)
                clear hva_ hvn_ hvc_ ge232_6 ul232_6
                clear hcc232 hce232
                have HR232_6 := Aside0.mk hi232_6
                have HC232_6 := Aside0.mk hl232_6
                clear hi232_6 hl232_6
                replace p232 := eq_true p232
                replace q232 := eq_true q232
                have ea_ := Option.some.inj (hx231_6.symm.trans hx232_6)
                injection ea_ with ea_ en_ ec_
                subst ea_
                subst ec_
                clear en_
                have p233 : 0 ≤ (x15_1 : Int) := of_decide_eq_true (by first | (with_reducible assumption) | assumption)
                have q233 : x15_1 < (t224.length : Int) := of_decide_eq_true (by first | (with_reducible assumption) | assumption)
                obtain ⟨ad233, A233_6, c233_6, e233, hx233_0, hx233_1, hx233_2, hx233_3, hx233_4, hx233_5, hx233_6, hl233_6, hi233_6⟩ := at_T26 (Kd.N_reads' HO_3.out).2.2 x15_1 p233 q233
                obtain rfl : ad231 = ad233 := (by injection e233)
                obtain ⟨ce233, hce233, hMe233, hcc233⟩ := Kd.N_get HO_3.out z26 x15_1 p233 (by first | exact q233 | exact of_decide_eq_true (by first | (with_reducible assumption) | assumption) | (have e_ := (Kd.N_reads' HO_3.out).1; omega))
                obtain ⟨ua233_6, uc233_6, rfl, ul233_6, ge233_6⟩ := k26_openF hMe233
                have hv233_6 := hcc233 6 _ rfl
                rw [add_field _ _ 6 (by omega)] at hv233_6
                replace hv233_6 := Option.some.inj (hv233_6.symm.trans hx233_6)
                injection hv233_6 with hva_ hvn_ hvc_
                rw [hva_] at ge233_6
                rw [hvc_] at ul233_6
                have HL233_6 := Aside0.mk (show Kd.V k26 26 _ w.heap.size _ _ ((rd_T26 t224 x15_1).f3) from Kd.V_mk ul233_6 ge233_6)
                clear hva_ hvn_ hvc_ ge233_6 ul233_6
                clear hcc233 hce233
                have HR233_6 := Aside0.mk hi233_6
                have HC233_6 := Aside0.mk hl233_6
                clear hi233_6 hl233_6
                replace p233 := eq_true p233
                replace q233 := eq_true q233
                have ea_ := Option.some.inj (hx231_6.symm.trans hx233_6)
                injection ea_ with ea_ en_ ec_
                subst ea_
                subst ec_
                clear en_
                have p234 : 0 ≤ (x15_1 : Int) := of_decide_eq_true (by first | (with_reducible assumption) | assumption)
                have q234 : x15_1 < (t224.length : Int) := of_decide_eq_true (by first | (with_reducible assumption) | assumption)
                obtain ⟨ad234, A234_6, c234_6, e234, hx234_0, hx234_1, hx234_2, hx234_3, hx234_4, hx234_5, hx234_6, hl234_6, hi234_6⟩ := at_T26 (Kd.N_reads' HO_3.out).2.2 x15_1 p234 q234
                obtain rfl : ad231 = ad234 := (by injection e234)
                obtain ⟨ce234, hce234, hMe234, hcc234⟩ := Kd.N_get HO_3.out z26 x15_1 p234 (by first | exact q234 | exact of_decide_eq_true (by first | (with_reducible assumption) | assumption) | (have e_ := (Kd.N_reads' HO_3.out).1; omega))
                obtain ⟨ua234_6, uc234_6, rfl, ul234_6, ge234_6⟩ := k26_openF hMe234
                have hv234_6 := hcc234 6 _ rfl
                rw [add_field _ _ 6 (by omega)] at hv234_6
                replace hv234_6 := Option.some.inj (hv234_6.symm.trans hx234_6)
                injection hv234_6 with hva_ hvn_ hvc_
                rw [hva_] at ge234_6
                rw [hvc_] at ul234_6
                have HL234_6 := Aside0.mk (show Kd.V k26 26 _ w.heap.size _ _ ((rd_T26 t224 x15_1).f3) from Kd.V_mk ul234_6 ge234_6)
                clear hva_ hvn_ hvc_ ge234_6 ul234_6
                clear hcc234 hce234
                have HR234_6 := Aside0.mk hi234_6
                have HC234_6 := Aside0.mk hl234_6
                clear hi234_6 hl234_6
                replace p234 := eq_true p234
                replace q234 := eq_true q234
                have ea_ := Option.some.inj (hx231_6.symm.trans hx234_6)
                injection ea_ with ea_ en_ ec_
                subst ea_
                subst ec_
                clear en_
                have p235 : 0 ≤ (x15_1 : Int) := of_decide_eq_true (by first | (with_reducible assumption) | assumption)
                have q235 : x15_1 < (t224.length : Int) := of_decide_eq_true (by first | (with_reducible assumption) | assumption)
                obtain ⟨ad235, A235_6, c235_6, e235, hx235_0, hx235_1, hx235_2, hx235_3, hx235_4, hx235_5, hx235_6, hl235_6, hi235_6⟩ := at_T26 (Kd.N_reads' HO_3.out).2.2 x15_1 p235 q235
                obtain rfl : ad231 = ad235 := (by injection e235)
                obtain ⟨ce235, hce235, hMe235, hcc235⟩ := Kd.N_get HO_3.out z26 x15_1 p235 (by first | exact q235 | exact of_decide_eq_true (by first | (with_reducible assumption) | assumption) | (have e_ := (Kd.N_reads' HO_3.out).1; omega))
                obtain ⟨ua235_6, uc235_6, rfl, ul235_6, ge235_6⟩ := k26_openF hMe235
                have hv235_6 := hcc235 6 _ rfl
                rw [add_field _ _ 6 (by omega)] at hv235_6
                replace hv235_6 := Option.some.inj (hv235_6.symm.trans hx235_6)
                injection hv235_6 with hva_ hvn_ hvc_
                rw [hva_] at ge235_6
                rw [hvc_] at ul235_6
                have HL235_6 := Aside0.mk (show Kd.V k26 26 _ w.heap.size _ _ ((rd_T26 t224 x15_1).f3) from Kd.V_mk ul235_6 ge235_6)
                clear hva_ hvn_ hvc_ ge235_6 ul235_6
                clear hcc235 hce235
                have HR235_6 := Aside0.mk hi235_6
                have HC235_6 := Aside0.mk hl235_6
                clear hi235_6 hl235_6
                replace p235 := eq_true p235
                replace q235 := eq_true q235
                have ea_ := Option.some.inj (hx231_6.symm.trans hx235_6)
                injection ea_ with ea_ en_ ec_
                subst ea_
                subst ec_
                clear en_
                have p236 : 0 ≤ (x15_1 : Int) := of_decide_eq_true (by first | (with_reducible assumption) | assumption)
                have q236 : x15_1 < (t224.length : Int) := of_decide_eq_true (by first | (with_reducible assumption) | assumption)
                obtain ⟨ad236, A236_6, c236_6, e236, hx236_0, hx236_1, hx236_2, hx236_3, hx236_4, hx236_5, hx236_6, hl236_6, hi236_6⟩ := at_T26 (Kd.N_reads' HO_3.out).2.2 x15_1 p236 q236
                obtain rfl : ad231 = ad236 := (by injection e236)
                obtain ⟨ce236, hce236, hMe236, hcc236⟩ := Kd.N_get HO_3.out z26 x15_1 p236 (by first | exact q236 | exact of_decide_eq_true (by first | (with_reducible assumption) | assumption) | (have e_ := (Kd.N_reads' HO_3.out).1; omega))
                obtain ⟨ua236_6, uc236_6, rfl, ul236_6, ge236_6⟩ := k26_openF hMe236
                have hv236_6 := hcc236 6 _ rfl
                rw [add_field _ _ 6 (by omega)] at hv236_6
                replace hv236_6 := Option.some.inj (hv236_6.symm.trans hx236_6)
                injection hv236_6 with hva_ hvn_ hvc_
                rw [hva_] at ge236_6
                rw [hvc_] at ul236_6
                have HL236_6 := Aside0.mk (show Kd.V k26 26 _ w.heap.size _ _ ((rd_T26 t224 x15_1).f3) from Kd.V_mk ul236_6 ge236_6)
                clear hva_ hvn_ hvc_ ge236_6 ul236_6
                clear hcc236 hce236
                have HR236_6 := Aside0.mk hi236_6
                have HC236_6 := Aside0.mk hl236_6
                clear hi236_6 hl236_6
                replace p236 := eq_true p236
                replace q236 := eq_true q236
                have ea_ := Option.some.inj (hx231_6.symm.trans hx236_6)
                injection ea_ with ea_ en_ ec_
                subst ea_
                subst ec_
                clear en_
                go_wp2
                go_ret
                exact ⟨by first | rfl | (simp [errW_none, errW_some] <;> rfl) | (simp [*, errW_none, errW_some] <;> rfl), by repeat (first | (with_reducible first | exact HB.out | apply below_alloc | apply pw_below_drewN | apply below_drew1 | refine below_set ?_ GE223.out) | exact HB.out)⟩
               ·rw [if_neg c30] at H
                have c30b0 : decide ((((rd_T26 t224 x15_1).f3).length : Int) < 2) = false := decide_eq_false c30
                have c30b1 : decide (((rd_T26 t224 x15_1).f3).length < 2) = false := decide_eq_false (by omega)
                clear c30
                by_cases c31 : ((rd_T26 t224 x15_1).f2) = 0
                ·rw [if_pos c31] at H
                 have c31b0 : (((rd_T26 t224 x15_1).f2) == 0) = true := beq_iff_eq.mpr c31
                 have c31b1 : (((rd_T26 t224 x15_1).f2) != 0) = false := bne_eq_false_iff_eq.mpr c31
                 clear c31
                 have H' := Aside0.mk H
                 clear H
                 have p231 : 0 ≤ (x15_1 : Int) := of_decide_eq_true (by first | (with_reducible assumption) | assumption)
                 have q231 : x15_1 < (t224.length : Int) := of_decide_eq_true (by first | (with_reducible assumption) | assumption)
                 obtain ⟨ad231, A231_6, c231_6, e231, hx231_0, hx231_1, hx231_2, hx231_3, hx231_4, hx231_5, hx231_6, hl231_6, hi231_6⟩ := at_T26 (Kd.N_reads' HO_3.out).2.2 x15_1 p231 q231
                 cases e231
                 obtain ⟨ce231, hce231, hMe231, hcc231⟩ := Kd.N_get HO_3.out z26 x15_1 p231 (by first | exact q231 | exact of_decide_eq_true (by first | (with_reducible assumption) | assumption) | (have e_ := (Kd.N_reads' HO_3.out).1; omega))
                 obtain ⟨ua231_6, uc231_6, rfl, ul231_6, ge231_6⟩ := k26_openF hMe231
                 have hv231_6 := hcc231 6 _ rfl
                 rw [add_field _ _ 6 (by omega)] at hv231_6
                 replace hv231_6 := Option.some.inj (hv231_6.symm.trans hx231_6)
                 injection hv231_6 with hva_ hvn_ hvc_
                 rw [hva_] at ge231_6
                 rw [hvc_] at ul231_6
                 have HL231_6 := Aside0.mk (show Kd.V k26 26 _ w.heap.size _ _ ((rd_T26 t224 x15_1).f3) from Kd.V_mk ul231_6 ge231_6)
                 clear hva_ hvn_ hvc_ ge231_6 ul231_6
                 clear hcc231 hce231
                 have HR231_6 := Aside0.mk hi231_6
                 have HC231_6 := Aside0.mk hl231_6
                 clear hi231_6 hl231_6
                 replace p231 := eq_true p231
                 replace q231 := eq_true q231
                 have p232 : 0 ≤ (x15_1 : Int) := of_decide_eq_true (by first | (with_reducible assumption) | assumption)
                 have q232 : x15_1 < (t224.length : Int) := of_decide_eq_true (by first | (with_reducible assumption) | assumption)
                 obtain ⟨ad232, A232_6, c232_6, e232, hx232_0, hx232_1, hx232_2, hx232_3, hx232_4, hx232_5, hx232_6, hl232_6, hi232_6⟩ := at_T26 (Kd.N_reads' HO_3.out).2.2 x15_1 p232 q232
                 obtain rfl : ad231 = ad232 := (by injection e232)
                 obtain ⟨ce232, hce232, hMe232, hcc232⟩ := Kd.N_get HO_3.out z26 x15_1 p232 (by first | exact q232 | exact of_decide_eq_true (by first | (with_reducible assumption) | assumption) | (have e_ := (Kd.N_reads' HO_3.out).1; omega))
                 obtain ⟨ua232_6, uc232_6, rfl, ul232_6, ge232_6⟩ := k26_openF hMe232
                 have hv232_6 := hcc232 6 _ rfl
                 rw [add_field _ _ 6 (by omega)] at hv232_6
                 replace hv232_6 := Option.some.inj (hv232_6.symm.trans hx232_6)
                 injection hv232_6 with hva_ hvn_ hvc_
                 rw [hva_] at ge232_6
                 rw [hvc_] at ul232_6
                 have HL232_6 := Aside0.mk (show Kd.V k26 26 _ w.heap.size _ _ ((rd_T26 t224 x15_1).f3) from Kd.V_mk ul232_6 ge232_6)
                 clear hva_ hvn_ hvc_ ge232_6 ul232_6
                 clear hcc232 hce232
                 have HR232_6 := Aside0.mk hi232_6
                 have HC232_6 := Aside0.mk hl232_6
                 clear hi232_6 hl232_6
                 replace p232 := eq_true p232
                 replace q232 := eq_true q232
                 have ea_ := Option.some.inj (hx231_6.symm.trans hx232_6)
                 injection ea_ with ea_ en_ ec_
                 subst ea_
                 subst ec_
                 clear en_
                 have p233 : 0 ≤ (x15_1 : Int) := of_decide_eq_true (by first | (with_reducible assumption) | assumption)
                 have q233 : x15_1 < (t224.length : Int) := of_decide_eq_true (by first | (with_reducible assumption) | assumption)
                 obtain ⟨ad233, A233_6, c233_6, e233, hx233_0, hx233_1, hx233_2, hx233_3, hx233_4, hx233_5, hx233_6, hl233_6, hi233_6⟩ := at_T26 (Kd.N_reads' HO_3.out).2.2 x15_1 p233 q233
                 obtain rfl : ad231 = ad233 := (by injection e233)
                 obtain ⟨ce233, hce233, hMe233, hcc233⟩ := Kd.N_get HO_3.out z26 x15_1 p233 (by first | exact q233 | exact of_decide_eq_true (by first | (with_reducible assumption) | assumption) | (have e_ := (Kd.N_reads' HO_3.out).1; omega))
                 obtain ⟨ua233_6, uc233_6, rfl, ul233_6, ge233_6⟩ := k26_openF hMe233
                 have hv233_6 := hcc233 6 _ rfl
                 rw [add_field _ _ 6 (by omega)] at hv233_6
                 replace hv233_6 := Option.some.inj (hv233_6.symm.trans hx233_6)
                 injection hv233_6 with hva_ hvn_ hvc_
                 rw [hva_] at ge233_6
                 rw [hvc_] at ul233_6
                 have HL233_6 := Aside0.mk (show Kd.V k26 26 _ w.heap.size _ _ ((rd_T26 t224 x15_1).f3) from Kd.V_mk ul233_6 ge233_6)
                 clear hva_ hvn_ hvc_ ge233_6 ul233_6
                 clear hcc233 hce233
                 have HR233_6 := Aside0.mk hi233_6
                 have HC233_6 := Aside0.mk hl233_6
                 clear hi233_6 hl233_6
                 replace p233 := eq_true p233
                 replace q233 := eq_true q233
                 have ea_ := Option.some.inj (hx231_6.symm.trans hx233_6)
                 injection ea_ with ea_ en_ ec_
                 subst ea_
                 subst ec_
                 clear en_
                 have p234 : 0 ≤ (x15_1 : Int) := of_decide_eq_true (by first | (with_reducible assumption) | assumption)
                 have q234 : x15_1 < (t224.length : Int) := of_decide_eq_true (by first | (with_reducible assumption) | assumption)
                 obtain ⟨ad234, A234_6, c234_6, e234, hx234_0, hx234_1, hx234_2, hx234_3, hx234_4, hx234_5, hx234_6, hl234_6, hi234_6⟩ := at_T26 (Kd.N_reads' HO_3.out).2.2 x15_1 p234 q234
                 obtain rfl : ad231 = ad234 := (by injection e234)
                 obtain ⟨ce234, hce234, hMe234, hcc234⟩ := Kd.N_get HO_3.out z26 x15_1 p234 (by first | exact q234 | exact of_decide_eq_true (by first | (with_reducible assumption) | assumption) | (have e_ := (Kd.N_reads' HO_3.out).1; omega))
                 obtain ⟨ua234_6, uc234_6, rfl, ul234_6, ge234_6⟩ := k26_openF hMe234
                 have hv234_6 := hcc234 6 _ rfl
                 rw [add_field _ _ 6 (by omega)] at hv234_6
                 replace hv234_6 := Option.some.inj (hv234_6.symm.trans hx234_6)
                 injection hv234_6 with hva_ hvn_ hvc_
                 rw [hva_] at ge234_6
                 rw [hvc_] at ul234_6
                 have HL234_6 := Aside0.mk (show Kd.V k26 26 _ w.heap.size _ _ ((rd_T26 t224 x15_1).f3) from Kd.V_mk ul234_6 ge234_6)
                 clear hva_ hvn_ hvc_ ge234_6 ul234_6
                 clear hcc234 hce234
                 have HR234_6 := Aside0.mk hi234_6
                 have HC234_6 := Aside0.mk hl234_6
                 clear hi234_6 hl234_6
                 replace p234 := eq_true p234
                 replace q234 := eq_true q234
                 have ea_ := Option.some.inj (hx231_6.symm.trans hx234_6)
                 injection ea_ with ea_ en_ ec_
                 subst ea_
                 subst ec_
                 clear en_
                 have p235 : 0 ≤ (x15_1 : Int) := of_decide_eq_true (by first | (with_reducible assumption) | assumption)
                 have q235 : x15_1 < (t224.length : Int) := of_decide_eq_true (by first | (with_reducible assumption) | assumption)
                 obtain ⟨ad235, A235_6, c235_6, e235, hx235_0, hx235_1, hx235_2, hx235_3, hx235_4, hx235_5, hx235_6, hl235_6, hi235_6⟩ := at_T26 (Kd.N_reads' HO_3.out).2.2 x15_1 p235 q235
                 obtain rfl : ad231 = ad235 := (by injection e235)
                 obtain ⟨ce235, hce235, hMe235, hcc235⟩ := Kd.N_get HO_3.out z26 x15_1 p235 (by first | exact q235 | exact of_decide_eq_true (by first | (with_reducible assumption) | assumption) | (have e_ := (Kd.N_reads' HO_3.out).1; omega))
                 obtain ⟨ua235_6, uc235_6, rfl, ul235_6, ge235_6⟩ := k26_openF hMe235
                 have hv235_6 := hcc235 6 _ rfl
                 rw [add_field _ _ 6 (by omega)] at hv235_6
                 replace hv235_6 := Option.some.inj (hv235_6.symm.trans hx235_6)
                 injection hv235_6 with hva_ hvn_ hvc_
                 rw [hva_] at ge235_6
                 rw [hvc_] at ul235_6
                 have HL235_6 := Aside0.mk (show Kd.V k26 26 _ w.heap.size _ _ ((rd_T26 t224 x15_1).f3) from Kd.V_mk ul235_6 ge235_6)
                 clear hva_ hvn_ hvc_ ge235_6 ul235_6
                 clear hcc235 hce235
                 have HR235_6 := Aside0.mk hi235_6
                 have HC235_6 := Aside0.mk hl235_6
                 clear hi235_6 hl235_6
                 replace p235 := eq_true p235
                 replace q235 := eq_true q235
                 have ea_ := Option.some.inj (hx231_6.symm.trans hx235_6)
                 injection ea_ with ea_ en_ ec_
                 subst ea_
                 subst ec_
                 clear en_
                 have p236 : 0 ≤ (x15_1 : Int) := of_decide_eq_true (by first | (with_reducible assumption) | assumption)
                 have q236 : x15_1 < (t224.length : Int) := of_decide_eq_true (by first | (with_reducible assumption) | assumption)
                 obtain ⟨ad236, A236_6, c236_6, e236, hx236_0, hx236_1, hx236_2, hx236_3, hx236_4, hx236_5, hx236_6, hl236_6, hi236_6⟩ := at_T26 (Kd.N_reads' HO_3.out).2.2 x15_1 p236 q236
                 obtain rfl : ad231 = ad236 := (by injection e236)
                 obtain ⟨ce236, hce236, hMe236, hcc236⟩ := Kd.N_get HO_3.out z26 x15_1 p236 (by first | exact q236 | exact of_decide_eq_true (by first | (with_reducible assumption) | assumption) | (have e_ := (Kd.N_reads' HO_3.out).1; omega))
                 obtain ⟨ua236_6, uc236_6, rfl, ul236_6, ge236_6⟩ := k26_openF hMe236
                 have hv236_6 := hcc236 6 _ rfl
                 rw [add_field _ _ 6 (by omega)] at hv236_6
                 replace hv236_6 := Option.some.inj (hv236_6.symm.trans hx236_6)
                 injection hv236_6 with hva_ hvn_ hvc_
                 rw [hva_] at ge236_6
                 rw [hvc_] at ul236_6
                 have HL236_6 := Aside0.mk (show Kd.V k26 26 _ w.heap.size _ _ ((rd_T26 t224 x15_1).f3) from Kd.V_mk ul236_6 ge236_6)
                 clear hva_ hvn_ hvc_ ge236_6 ul236_6
                 clear hcc236 hce236
                 have HR236_6 := Aside0.mk hi236_6
                 have HC236_6 := Aside0.mk hl236_6
                 clear hi236_6 hl236_6
                 replace p236 := eq_true p236
                 replace q236 := eq_true q236
                 have ea_ := Option.some.inj (hx231_6.symm.trans hx236_6)
                 injection ea_ with ea_ en_ ec_
                 subst ea_
                 subst ec_
                 clear en_
                 have p237 : 0 ≤ (x15_1 : Int) := of_decide_eq_true (by first | (with_reducible assumption) | assumption)
                 have q237 : x15_1 < (t224.length : Int) := of_decide_eq_true (by first | (with_reducible assumption) | assumption)
                 obtain ⟨ad237, A237_6, c237_6, e237, hx237_0, hx237_1, hx237_2, hx237_3, hx237_4, hx237_5, hx237_6, hl237_6, hi237_6⟩ := at_T26 (Kd.N_reads' HO_3.out).2.2 x15_1 p237 q237
                 obtain rfl : ad231 = ad237 := (by injection e237)
                 obtain ⟨ce237, hce237, hMe237, hcc237⟩ := Kd.N_get HO_3.out z26 x15_1 p237 (by first | exact q237 | exact of_decide_eq_true (by first | (with_reducible assumption) | assumption) | (have e_ := (Kd.N_reads' HO_3.out).1; omega))
                 obtain ⟨ua237_6, uc237_6, rfl, ul237_6, ge237_6⟩ := k26_openF hMe237
                 have hv237_6 := hcc237 6 _ rfl
                 rw [add_field _ _ 6 (by omega)] at hv237_6
                 replace hv237_6 := Option.some.inj (hv237_6.symm.trans hx237_6)
                 injection hv237_6 with hva_ hvn_ hvc_
                 rw [hva_] at ge237_6
                 rw [hvc_] at ul237_6
                 have HL237_6 := Aside0.mk (show Kd.V k26 26 _ w.heap.size _ _ ((rd_T26 t224 x15_1).f3) from Kd.V_mk ul237_6 ge237_6)
                 clear hva_ hvn_ hvc_ ge237_6 ul237_6
                 clear hcc237 hce237
                 have HR237_6 := Aside0.mk hi237_6
                 have HC237_6 := Aside0.mk hl237_6
                 clear hi237_6 hl237_6
                 replace p237 := eq_true p237
                 replace q237 := eq_true q237
                 have ea_ := Option.some.inj (hx231_6.symm.trans hx237_6)
                 injection ea_ with ea_ en_ ec_
                 subst ea_
                 subst ec_
                 clear en_
                 go_wp2
                 go_roundg kj12
                 case measure => have := HK1.out; have := HJ12.out; omega
                 case rel => exact ⟨(wrap64 (x15_1 + 1)), (by first | rfl | (simp; done) | (simp [*]; done)), H', ⟨by have := HK1.out; have := HJ12.out; omega⟩, ⟨by (with_reducible repeat (first | apply Kd.N_alloc | apply Kd.N_drewN | apply Kd.N_drew)); exact HO_3.out⟩, ⟨by (with_reducible repeat (first | refine blk_drewN ?_ _ | refine blk_drew ?_ | refine blk_alloc ?_ _)); exact BK223.out⟩, ⟨by repeat (first | (with_reducible first | exact HB.out | apply below_alloc | apply pw_below_drewN | apply below_drew1 | refine below_set ?_ GE223.out) | exact HB.out)⟩⟩
                ·rw [if_neg c31] at H
                 have c31b0 : (((rd_T26 t224 x15_1).f2) == 0) = false := beq_eq_false_iff_ne.mpr c31
                 have c31b1 : (((rd_T26 t224 x15_1).f2) != 0) = true := bne_iff_ne.mpr c31
                 obtain rfl := Option.some.inj H
                 have p231 : 0 ≤ (x15_1 : Int) := of_decide_eq_true (by first | (with_reducible assumption) | assumption)
                 have q231 : x15_1 < (t224.length : Int) := of_decide_eq_true (by first | (with_reducible assumption) | assumption)
                 obtain ⟨ad231, A231_6, c231_6, e231, hx231_0, hx231_1, hx231_2, hx231_3, hx231_4, hx231_5, hx231_6, hl231_6, hi231_6⟩ := at_T26 (Kd.N_reads' HO_3.out).2.2 x15_1 p231 q231
                 cases e231
                 obtain ⟨ce231, hce231, hMe231, hcc231⟩ := Kd.N_get HO_3.out z26 x15_1 p231 (by first | exact q231 | exact of_decide_eq_true (by first | (with_reducible assumption) | assumption) | (have e_ := (Kd.N_reads' HO_3.out).1; omega))
                 obtain ⟨ua231_6, uc231_6, rfl, ul231_6, ge231_6⟩ := k26_openF hMe231
                 have hv231_6 := hcc231 6 _ rfl
                 rw [add_field _ _ 6 (by omega)] at hv231_6
                 replace hv231_6 := Option.some.inj (hv231_6.symm.trans hx231_6)
                 injection hv231_6 with hva_ hvn_ hvc_
                 rw [hva_] at ge231_6
                 rw [hvc_] at ul231_6
                 have HL231_6 := Aside0.mk (show Kd.V k26 26 _ w.heap.size _ _ ((rd_T26 t224 x15_1).f3) from Kd.V_mk ul231_6 ge231_6)
                 clear hva_ hvn_ hvc_ ge231_6 ul231_6
                 clear hcc231 hce231
                 have HR231_6 := Aside0.mk hi231_6
                 have HC231_6 := Aside0.mk hl231_6
                 clear hi231_6 hl231_6
                 replace p231 := eq_true p231
                 replace q231 := eq_true q231
                 have p232 : 0 ≤ (x15_1 : Int) := of_decide_eq_true (by first | (with_reducible assumption) | assumption)
                 have q232 : x15_1 < (t224.length : Int) := of_decide_eq_true (by first | (with_reducible assumption) | assumption)
                 obtain ⟨ad232, A232_6, c232_6, e232, hx232_0, hx232_1, hx232_2, hx232_3, hx232_4, hx232_5, hx232_6, hl232_6, hi232_6⟩ := at_T26 (Kd.N_reads' HO_3.out).2.2 x15_1 p232 q232
                 obtain rfl : ad231 = ad232 := (by injection e232)
                 obtain ⟨ce232, hce232, hMe232, hcc232⟩ := Kd.N_get HO_3.out z26 x15_1 p232 (by first | exact q232 | exact of_decide_eq_true (by first | (with_reducible assumption) | assumption) | (have e_ := (Kd.N_reads' HO_3.out).1; omega))
                 obtain ⟨ua232_6, uc232_6, rfl, ul232_6, ge232_6⟩ := k26_openF hMe232
                 have hv232_6 := hcc232 6 _ rfl
                 rw [add_field _ _ 6 (by omega)] at hv232_6
                 replace hv232_6 := Option.some.inj (hv232_6.symm.trans hx232_6)
                 injection hv232_6 with hva_ hvn_ hvc_
                 rw [hva_] at ge232_6
                 rw [hvc_] at ul232_6
                 have HL232_6 := Aside0.mk (show Kd.V k26 26 _ w.heap.size _ _ ((rd_T26 t224 x15_1).f3) from Kd.V_mk ul232_6 ge232_6)
                 clear hva_ hvn_ hvc_ ge232_6 ul232_6
                 clear hcc232 hce232
                 have HR232_6 := Aside0.mk hi232_6
                 have HC232_6 := Aside0.mk hl232_6
                 clear hi232_6 hl232_6
                 replace p232 := eq_true p232
                 replace q232 := eq_true q232
                 have ea_ := Option.some.inj (hx231_6.symm.trans hx232_6)
                 injection ea_ with ea_ en_ ec_
                 subst ea_
                 subst ec_
                 clear en_
                 have p233 : 0 ≤ (x15_1 : Int) := of_decide_eq_true (by first | (with_reducible assumption) | assumption)
                 have q233 : x15_1 < (t224.length : Int) := of_decide_eq_true (by first | (with_reducible assumption) | assumption)
                 obtain ⟨ad233, A233_6, c233_6, e233, hx233_0, hx233_1, hx233_2, hx233_3, hx233_4, hx233_5, hx233_6, hl233_6, hi233_6⟩ := at_T26 (Kd.N_reads' HO_3.out).2.2 x15_1 p233 q233
                 obtain rfl : ad231 = ad233 := (by injection e233)
                 obtain ⟨ce233, hce233, hMe233, hcc233⟩ := Kd.N_get HO_3.out z26 x15_1 p233 (by first | exact q233 | exact of_decide_eq_true (by first | (with_reducible assumption) | assumption) | (have e_ := (Kd.N_reads' HO_3.out).1; omega))
                 obtain ⟨ua233_6, uc233_6, rfl, ul233_6, ge233_6⟩ := k26_openF hMe233
                 have hv233_6 := hcc233 6 _ rfl
                 rw [add_field _ _ 6 (by omega)] at hv233_6
                 replace hv233_6 := Option.some.inj (hv233_6.symm.trans hx233_6)
                 injection hv233_6 with hva_ hvn_ hvc_
                 rw [hva_] at ge233_6
                 rw [hvc_] at ul233_6
                 have HL233_6 := Aside0.mk (show Kd.V k26 26 _ w.heap.size _ _ ((rd_T26 t224 x15_1).f3) from Kd.V_mk ul233_6 ge233_6)
                 clear hva_ hvn_ hvc_ ge233_6 ul233_6
                 clear hcc233 hce233
                 have HR233_6 := Aside0.mk hi233_6
                 have HC233_6 := Aside0.mk hl233_6
                 clear hi233_6 hl233_6
                 replace p233 := eq_true p233
                 replace q233 := eq_true q233
                 have ea_ := Option.some.inj (hx231_6.symm.trans hx233_6)
                 injection ea_ with ea_ en_ ec_
                 subst ea_
                 subst ec_
                 clear en_
                 have p234 : 0 ≤ (x15_1 : Int) := of_decide_eq_true (by first | (with_reducible assumption) | assumption)
                 have q234 : x15_1 < (t224.length : Int) := of_decide_eq_true (by first | (with_reducible assumption) | assumption)
                 obtain ⟨ad234, A234_6, c234_6, e234, hx234_0, hx234_1, hx234_2, hx234_3, hx234_4, hx234_5, hx234_6, hl234_6, hi234_6⟩ := at_T26 (Kd.N_reads' HO_3.out).2.2 x15_1 p234 q234
                 obtain rfl : ad231 = ad234 := (by injection e234)
                 obtain ⟨ce234, hce234, hMe234, hcc234⟩ := Kd.N_get HO_3.out z26 x15_1 p234 (by first | exact q234 | exact of_decide_eq_true (by first | (with_reducible assumption) | assumption) | (have e_ := (Kd.N_reads' HO_3.out).1; omega))
                 obtain ⟨ua234_6, uc234_6, rfl, ul234_6, ge234_6⟩ := k26_openF hMe234
                 have hv234_6 := hcc234 6 _ rfl
                 rw [add_field _ _ 6 (by omega)] at hv234_6
                 replace hv234_6 := Option.some.inj (hv234_6.symm.trans hx234_6)
                 injection hv234_6 with hva_ hvn_ hvc_
                 rw [hva_] at ge234_6
                 rw [hvc_] at ul234_6
                 have HL234_6 := Aside0.mk (show Kd.V k26 26 _ w.heap.size _ _ ((rd_T26 t224 x15_1).f3) from Kd.V_mk ul234_6 ge234_6)
                 clear hva_ hvn_ hvc_ ge234_6 ul234_6
                 clear hcc234 hce234
                 have HR234_6 := Aside0.mk hi234_6
                 have HC234_6 := Aside0.mk hl234_6
                 clear hi234_6 hl234_6
                 replace p234 := eq_true p234
                 replace q234 := eq_true q234
                 have ea_ := Option.some.inj (hx231_6.symm.trans hx234_6)
                 injection ea_ with ea_ en_ ec_
                 subst ea_
                 subst ec_
                 clear en_
                 have p235 : 0 ≤ (x15_1 : Int) := of_decide_eq_true (by first | (with_reducible assumption) | assumption)
                 have q235 : x15_1 < (t224.length : Int) := of_decide_eq_true (by first | (with_reducible assumption) | assumption)
                 obtain ⟨ad235, A235_6, c235_6, e235, hx235_0, hx235_1, hx235_2, hx235_3, hx235_4, hx235_5, hx235_6, hl235_6, hi235_6⟩ := at_T26 (Kd.N_reads' HO_3.out).2.2 x15_1 p235 q235
                 obtain rfl : ad231 = ad235 := (by injection e235)
                 obtain ⟨ce235, hce235, hMe235, hcc235⟩ := Kd.N_get HO_3.out z26 x15_1 p235 (by first | exact q235 | exact of_decide_eq_true (by first | (with_reducible assumption) | assumption) | (have e_ := (Kd.N_reads' HO_3.out).1; omega))
                 obtain ⟨ua235_6, uc235_6, rfl, ul235_6, ge235_6⟩ := k26_openF hMe235
                 have hv235_6 := hcc235 6 _ rfl
                 rw [add_field _ _ 6 (by omega)] at hv235_6
                 replace hv235_6 := Option.some.inj (hv235_6.symm.trans hx235_6)
                 injection hv235_6 with hva_ hvn_ hvc_
                 rw [hva_] at ge235_6
                 rw [hvc_] at ul235_6
                 have HL235_6 := Aside0.mk (show Kd.V k26 26 _ w.heap.size _ _ ((rd_T26 t224 x15_1).f3) from Kd.V_mk ul235_6 ge235_6)
                 clear hva_ hvn_ hvc_ ge235_6 ul235_6
                 clear hcc235 hce235
                 have HR235_6 := Aside0.mk hi235_6
                 have HC235_6 := Aside0.mk hl235_6
                 clear hi235_6 hl235_6
                 replace p235 := eq_true p235
                 replace q235 := eq_true q235
                 have ea_ := Option.some.inj (hx231_6.symm.trans hx235_6)
                 injection ea_ with ea_ en_ ec_
                 subst ea_
                 subst ec_
                 clear en_
                 have p236 : 0 ≤ (x15_1 : Int) := of_decide_eq_true (by first | (with_reducible assumption) | assumption)
                 have q236 : x15_1 < (t224.length : Int) := of_decide_eq_true (by first | (with_reducible assumption) | assumption)
                 obtain ⟨ad236, A236_6, c236_6, e236, hx236_0, hx236_1, hx236_2, hx236_3, hx236_4, hx236_5, hx236_6, hl236_6, hi236_6⟩ := at_T26 (Kd.N_reads' HO_3.out).2.2 x15_1 p236 q236
                 obtain rfl : ad231 = ad236 := (by injection e236)
                 obtain ⟨ce236, hce236, hMe236, hcc236⟩ := Kd.N_get HO_3.out z26 x15_1 p236 (by first | exact q236 | exact of_decide_eq_true (by first | (with_reducible assumption) | assumption) | (have e_ := (Kd.N_reads' HO_3.out).1; omega))
                 obtain ⟨ua236_6, uc236_6, rfl, ul236_6, ge236_6⟩ := k26_openF hMe236
                 have hv236_6 := hcc236 6 _ rfl
                 rw [add_field _ _ 6 (by omega)] at hv236_6
                 replace hv236_6 := Option.some.inj (hv236_6.symm.trans hx236_6)
                 injection hv236_6 with hva_ hvn_ hvc_
                 rw [hva_] at ge236_6
                 rw [hvc_] at ul236_6
                 have HL236_6 := Aside0.mk (show Kd.V k26 26 _ w.heap.size _ _ ((rd_T26 t224 x15_1).f3) from Kd.V_mk ul236_6 ge236_6)
                 clear hva_ hvn_ hvc_ ge236_6 ul236_6
                 clear hcc236 hce236
                 have HR236_6 := Aside0.mk hi236_6
                 have HC236_6 := Aside0.mk hl236_6
                 clear hi236_6 hl236_6
                 replace p236 := eq_true p236
                 replace q236 := eq_true q236
                 have ea_ := Option.some.inj (hx231_6.symm.trans hx236_6)
                 injection ea_ with ea_ en_ ec_
                 subst ea_
                 subst ec_
                 clear en_
                 have p237 : 0 ≤ (x15_1 : Int) := of_decide_eq_true (by first | (with_reducible assumption) | assumption)
                 have q237 : x15_1 < (t224.length : Int) := of_decide_eq_true (by first | (with_reducible assumption) | assumption)
                 obtain ⟨ad237, A237_6, c237_6, e237, hx237_0, hx237_1, hx237_2, hx237_3, hx237_4, hx237_5, hx237_6, hl237_6, hi237_6⟩ := at_T26 (Kd.N_reads' HO_3.out).2.2 x15_1 p237 q237
                 obtain rfl : ad231 = ad237 := (by injection e237)
                 obtain ⟨ce237, hce237, hMe237, hcc237⟩ := Kd.N_get HO_3.out z26 x15_1 p237 (by first | exact q237 | exact of_decide_eq_true (by first | (with_reducible assumption) | assumption) | (have e_ := (Kd.N_reads' HO_3.out).1; omega))
                 obtain ⟨ua237_6, uc237_6, rfl, ul237_6, ge237_6⟩ := k26_openF hMe237
                 have hv237_6 := hcc237 6 _ rfl
                 rw [add_field _ _ 6 (by omega)] at hv237_6
                 replace hv237_6 := Option.some.inj (hv237_6.symm.trans hx237_6)
                 injection hv237_6 with hva_ hvn_ hvc_
                 rw [hva_] at ge237_6
                 rw [hvc_] at ul237_6
                 have HL237_6 := Aside0.mk (show Kd.V k26 26 _ w.heap.size _ _ ((rd_T26 t224 x15_1).f3) from Kd.V_mk ul237_6 ge237_6)
                 clear hva_ hvn_ hvc_ ge237_6 ul237_6
                 clear hcc237 hce237
                 have HR237_6 := Aside0.mk hi237_6
                 have HC237_6 := Aside0.mk hl237_6
                 clear hi237_6 hl237_6
                 replace p237 := eq_true p237
                 replace q237 := eq_true q237
                 have ea_ := Option.some.inj (hx231_6.symm.trans hx237_6)
                 injection ea_ with ea_ en_ ec_
                 subst ea_
                 subst ec_
                 clear en_
                 go_wp2
                 go_ret
                 exact ⟨by first | rfl | (simp [errW_none, errW_some] <;> rfl) | (simp [*, errW_none, errW_some] <;> rfl), by repeat (first | (with_reducible first | exact HB.out | apply below_alloc | apply pw_below_drewN | apply below_drew1 | refine below_set ?_ GE223.out) | exact HB.out)⟩
              ·rw [if_neg c29] at H
               have c29b0 : decide (1 < ((rd_T26 t224 x15_1).f0)) = false := decide_eq_false c29
               clear c29
               have H' := Aside0.mk H
               clear H
               have p231 : 0 ≤ (x15_1 : Int) := of_decide_eq_true (by first | (with_reducible assumption) | assumption)
               have q231 : x15_1 < (t224.length : Int) := of_decide_eq_true (by first | (with_reducible assumption) | assumption)
               obtain ⟨ad231, A231_6, c231_6, e231, hx231_0, hx231_1, hx231_2, hx231_3, hx231_4, hx231_5, hx231_6, hl231_6, hi231_6⟩ := at_T26 (Kd.N_reads' HO_3.out).2.2 x15_1 p231 q231
               cases e231
               obtain ⟨ce231, hce231, hMe231, hcc231⟩ := Kd.N_get HO_3.out z26 x15_1 p231 (by first | exact q231 | exact of_decide_eq_true (by first | (with_reducible assumption) | assumption) | (have e_ := (Kd.N_reads' HO_3.out).1; omega))
               obtain ⟨ua231_6, uc231_6, rfl, ul231_6, ge231_6⟩ := k26_openF hMe231
               have hv231_6 := hcc231 6 _ rfl
               rw [add_field _ _ 6 (by omega)] at hv231_6
               replace hv231_6 := Option.some.inj (hv231_6.symm.trans hx231_6)
               injection hv231_6 with hva_ hvn_ hvc_
               rw [hva_] at ge231_6
               rw [hvc_] at ul231_6
               have HL231_6 := Aside0.mk (show Kd.V k26 26 _ w.heap.size _ _ ((rd_T26 t224 x15_1).f3) from Kd.V_mk ul231_6 ge231_6)
               clear hva_ hvn_ hvc_ ge231_6 ul231_6
               clear hcc231 hce231
               have HR231_6 := Aside0.mk hi231_6
               have HC231_6 := Aside0.mk hl231_6
               clear hi231_6 hl231_6
               replace p231 := eq_true p231
               replace q231 := eq_true q231
               have p232 : 0 ≤ (x15_1 : Int) := of_decide_eq_true (by first | (with_reducible assumption) | assumption)
               have q232 : x15_1 < (t224.length : Int) := of_decide_eq_true (by first | (with_reducible assumption) | assumption)
               obtain ⟨ad232, A232_6, c232_6, e232, hx232_0, hx232_1, hx232_2, hx232_3, hx232_4, hx232_5, hx232_6, hl232_6, hi232_6⟩ := at_T26 (Kd.N_reads' HO_3.out).2.2 x15_1 p232 q232
               obtain rfl : ad231 = ad232 := (by injection e232)
               obtain ⟨ce232, hce232, hMe232, hcc232⟩ := Kd.N_get HO_3.out z26 x15_1 p232 (by first | exact q232 | exact of_decide_eq_true (by first | (with_reducible assumption) | assumption) | (have e_ := (Kd.N_reads' HO_3.out).1; omega))
               obtain ⟨ua232_6, uc232_6, rfl, ul232_6, ge232_6⟩ := k26_openF hMe232
               have hv232_6 := hcc232 6 _ rfl
               rw [add_field _ _ 6 (by omega)] at hv232_6
               replace hv232_6 := Option.some.inj (hv232_6.symm.trans hx232_6)
               injection hv232_6 with hva_ hvn_ hvc_
               rw [hva_] at ge232_6
               rw [hvc_] at ul232_6
               have HL232_6 := Aside0.mk (show Kd.V k26 26 _ w.heap.size _ _ ((rd_T26 t224 x15_1).f3) from Kd.V_mk ul232_6 ge232_6)
               clear hva_ hvn_ hvc_ ge232_6 ul232_6
               clear hcc232 hce232
               have HR232_6 := Aside0.mk hi232_6
               have HC232_6 := Aside0.mk hl232_6
               clear hi232_6 hl232_6
               replace p232 := eq_true p232
               replace q232 := eq_true q232
               have ea_ := Option.some.inj (hx231_6.symm.trans hx232_6)
               injection ea_ with ea_ en_ ec_
               subst ea_
               subst ec_
               clear en_
               have p233 : 0 ≤ (x15_1 : Int) := of_decide_eq_true (by first | (with_reducible assumption) | assumption)
               have q233 : x15_1 < (t224.length : Int) := of_decide_eq_true (by first | (with_reducible assumption) | assumption)
               obtain ⟨ad233, A233_6, c233_6, e233, hx233_0, hx233_1, hx233_2, hx233_3, hx233_4, hx233_5, hx233_6, hl233_6, hi233_6⟩ := at_T26 (Kd.N_reads' HO_3.out).2.2 x15_1 p233 q233
               obtain rfl : ad231 = ad233 := (by injection e233)
               obtain ⟨ce233, hce233, hMe233, hcc233⟩ := Kd.N_get HO_3.out z26 x15_1 p233 (by first | exact q233 | exact of_decide_eq_true (by first | (with_reducible assumption) | assumption) | (have e_ := (Kd.N_reads' HO_3.out).1; omega))
               obtain ⟨ua233_6, uc233_6, rfl, ul233_6, ge233_6⟩ := k26_openF hMe233
               have hv233_6 := hcc233 6 _ rfl
               rw [add_field _ _ 6 (by omega)] at hv233_6
               replace hv233_6 := Option.some.inj (hv233_6.symm.trans hx233_6)
               injection hv233_6 with hva_ hvn_ hvc_
               rw [hva_] at ge233_6
               rw [hvc_] at ul233_6
               have HL233_6 := Aside0.mk (show Kd.V k26 26 _ w.heap.size _ _ ((rd_T26 t224 x15_1).f3) from Kd.V_mk ul233_6 ge233_6)
               clear hva_ hvn_ hvc_ ge233_6 ul233_6
               clear hcc233 hce233
               have HR233_6 := Aside0.mk hi233_6
               have HC233_6 := Aside0.mk hl233_6
               clear hi233_6 hl233_6
               replace p233 := eq_true p233
               replace q233 := eq_true q233
               have ea_ := Option.some.inj (hx231_6.symm.trans hx233_6)
               injection ea_ with ea_ en_ ec_
               subst ea_
               subst ec_
               clear en_
               have p234 : 0 ≤ (x15_1 : Int) := of_decide_eq_true (by first | (with_reducible assumption) | assumption)
               have q234 : x15_1 < (t224.length : Int) := of_decide_eq_true (by first | (with_reducible assumption) | assumption)
               obtain ⟨ad234, A234_6, c234_6, e234, hx234_0, hx234_1, hx234_2, hx234_3, hx234_4, hx234_5, hx234_6, hl234_6, hi234_6⟩ := at_T26 (Kd.N_reads' HO_3.out).2.2 x15_1 p234 q234
               obtain rfl : ad231 = ad234 := (by injection e234)
               obtain ⟨ce234, hce234, hMe234, hcc234⟩ := Kd.N_get HO_3.out z26 x15_1 p234 (by first | exact q234 | exact of_decide_eq_true (by first | (with_reducible assumption) | assumption) | (have e_ := (Kd.N_reads' HO_3.out).1; omega))
               obtain ⟨ua234_6, uc234_6, rfl, ul234_6, ge234_6⟩ := k26_openF hMe234
               have hv234_6 := hcc234 6 _ rfl
               rw [add_field _ _ 6 (by omega)] at hv234_6
               replace hv234_6 := Option.some.inj (hv234_6.symm.trans hx234_6)
               injection hv234_6 with hva_ hvn_ hvc_
               rw [hva_] at ge234_6
               rw [hvc_] at ul234_6
               have HL234_6 := Aside0.mk (show Kd.V k26 26 _ w.heap.size _ _ ((rd_T26 t224 x15_1).f3) from Kd.V_mk ul234_6 ge234_6)
               clear hva_ hvn_ hvc_ ge234_6 ul234_6
               clear hcc234 hce234
               have HR234_6 := Aside0.mk hi234_6
               have HC234_6 := Aside0.mk hl234_6
               clear hi234_6 hl234_6
               replace p234 := eq_true p234
               replace q234 := eq_true q234
               have ea_ := Option.some.inj (hx231_6.symm.trans hx234_6)
               injection ea_ with ea_ en_ ec_
               subst ea_
               subst ec_
               clear en_
               have p235 : 0 ≤ (x15_1 : Int) := of_decide_eq_true (by first | (with_reducible assumption) | assumption)
               have q235 : x15_1 < (t224.length : Int) := of_decide_eq_true (by first | (with_reducible assumption) | assumption)
               obtain ⟨ad235, A235_6, c235_6, e235, hx235_0, hx235_1, hx235_2, hx235_3, hx235_4, hx235_5, hx235_6, hl235_6, hi235_6⟩ := at_T26 (Kd.N_reads' HO_3.out).2.2 x15_1 p235 q235
               obtain rfl : ad231 = ad235 := (by injection e235)
               obtain ⟨ce235, hce235, hMe235, hcc235⟩ := Kd.N_get HO_3.out z26 x15_1 p235 (by first | exact q235 | exact of_decide_eq_true (by first | (with_reducible assumption) | assumption) | (have e_ := (Kd.N_reads' HO_3.out).1; omega))
               obtain ⟨ua235_6, uc235_6, rfl, ul235_6, ge235_6⟩ := k26_openF hMe235
               have hv235_6 := hcc235 6 _ rfl
               rw [add_field _ _ 6 (by omega)] at hv235_6
               replace hv235_6 := Option.some.inj (hv235_6.symm.trans hx235_6)
               injection hv235_6 with hva_ hvn_ hvc_
               rw [hva_] at ge235_6
               rw [hvc_] at ul235_6
               have HL235_6 := Aside0.mk (show Kd.V k26 26 _ w.heap.size _ _ ((rd_T26 t224 x15_1).f3) from Kd.V_mk ul235_6 ge235_6)
               clear hva_ hvn_ hvc_ ge235_6 ul235_6
               clear hcc235 hce235
               have HR235_6 := Aside0.mk hi235_6
               have HC235_6 := Aside0.mk hl235_6
               clear hi235_6 hl235_6
               replace p235 := eq_true p235
               replace q235 := eq_true q235
               have ea_ := Option.some.inj (hx231_6.symm.trans hx235_6)
               injection ea_ with ea_ en_ ec_
               subst ea_
               subst ec_
               clear en_
               go_wp2
               go_roundg kj12
               case measure => have := HK1.out; have := HJ12.out; omega
               case rel => exact ⟨(wrap64 (x15_1 + 1)), (by first | rfl | (simp; done) | (simp [*]; done)), H', ⟨by have := HK1.out; have := HJ12.out; omega⟩, ⟨by (with_reducible repeat (first | apply Kd.N_alloc | apply Kd.N_drewN | apply Kd.N_drew)); exact HO_3.out⟩, ⟨by (with_reducible repeat (first | refine blk_drewN ?_ _ | refine blk_drew ?_ | refine blk_alloc ?_ _)); exact BK223.out⟩, ⟨by repeat (first | (with_reducible first | exact HB.out | apply below_alloc | apply pw_below_drewN | apply below_drew1 | refine below_set ?_ GE223.out) | exact HB.out)⟩⟩
          ·rw [if_neg c25] at H
           have c25b0 : (((rd_T26 t224 x15_1).f0) == 1) = false := beq_eq_false_iff_ne.mpr c25
           have c25b1 : (((rd_T26 t224 x15_1).f0) != 1) = true := bne_iff_ne.mpr c25
           by_cases c32 : ((rd_T26 t224 x15_1).f0) > 1
           ·rw [if_pos c32] at H
            have c32b0 : decide (1 < ((rd_T26 t224 x15_1).f0)) = true := decide_eq_true c32
            clear c32
            by_cases c33 : (((rd_T26 t224 x15_1).f3).length : Int) < 2
            ·rw [if_pos c33] at H
             have c33b0 : decide ((((rd_T26 t224 x15_1).f3).length : Int) < 2) = true := decide_eq_true c33
             have c33b1 : decide (((rd_T26 t224 x15_1).f3).length < 2) = true := decide_eq_true (by omega)
             clear c33
             obtain rfl := Option.some.inj H
             have p231 : 0 ≤ (x15_1 : Int) := of_decide_eq_true (by first | (with_reducible assumption) | assumption)
             have q231 : x15_1 < (t224.length : Int) := of_decide_eq_true (by first | (with_reducible assumption) | assumption)
             obtain ⟨ad231, A231_6, c231_6, e231, hx231_0, hx231_1, hx231_2, hx231_3, hx231_4, hx231_5, hx231_6, hl231_6, hi231_6⟩ := at_T26 (Kd.N_reads' HO_3.out).2.2 x15_1 p231 q231
             cases e231
             obtain ⟨ce231, hce231, hMe231, hcc231⟩ := Kd.N_get HO_3.out z26 x15_1 p231 (by first | exact q231 | exact of_decide_eq_true (by first | (with_reducible assumption) | assumption) | (have e_ := (Kd.N_reads' HO_3.out).1; omega))
             obtain ⟨ua231_6, uc231_6, rfl, ul231_6, ge231_6⟩ := k26_openF hMe231
             have hv231_6 := hcc231 6 _ rfl
             rw [add_field _ _ 6 (by omega)] at hv231_6
             replace hv231_6 := Option.some.inj (hv231_6.symm.trans hx231_6)
             injection hv231_6 with hva_ hvn_ hvc_
             rw [hva_] at ge231_6
             rw [hvc_] at ul231_6
             have HL231_6 := Aside0.mk (show Kd.V k26 26 _ w.heap.size _ _ ((rd_T26 t224 x15_1).f3) from Kd.V_mk ul231_6 ge231_6)
             clear hva_ hvn_ hvc_ ge231_6 ul231_6
             clear hcc231 hce231
             have HR231_6 := Aside0.mk hi231_6
             have HC231_6 := Aside0.mk hl231_6
             clear hi231_6 hl231_6
             replace p231 := eq_true p231
             replace q231 := eq_true q231
             have p238 : 0 ≤ (x15_1 : Int) := of_decide_eq_true (by first | (with_reducible assumption) | assumption)
             have q238 : x15_1 < (t224.length : Int) := of_decide_eq_true (by first | (with_reducible assumption) | assumption)
             obtain ⟨ad238, A238_6, c238_6, e238, hx238_0, hx238_1, hx238_2, hx238_3, hx238_4, hx238_5, hx238_6, hl238_6, hi238_6⟩ := at_T26 (Kd.N_reads' HO_3.out).2.2 x15_1 p238 q238
             obtain rfl : ad231 = ad238 := (by injection e238)
             obtain ⟨ce238, hce238, hMe238, hcc238⟩ := Kd.N_get HO_3.out z26 x15_1 p238 (by first | exact q238 | exact of_decide_eq_true (by first | (with_reducible assumption) | assumption) | (have e_ := (Kd.N_reads' HO_3.out).1; omega))
             obtain ⟨ua238_6, uc238_6, rfl, ul238_6, ge238_6⟩ := k26_openF hMe238
             have hv238_6 := hcc238 6 _ rfl
             rw [add_field _ _ 6 (by omega)] at hv238_6
             replace hv238_6 := Option.some.inj (hv238_6.symm.trans hx238_6)
             injection hv238_6 with hva_ hvn_ hvc_
             rw [hva_] at ge238_6
             rw [hvc_] at ul238_6
             have HL238_6 := Aside0.mk (show Kd.V k26 26 _ w.heap.size _ _ ((rd_T26 t224 x15_1).f3) from Kd.V_mk ul238_6 ge238_6)
             clear hva_ hvn_ hvc_ ge238_6 ul238_6
             clear hcc238 hce238
             have HR238_6 := Aside0.mk hi238_6
             have HC238_6 := Aside0.mk hl238_6
             clear hi238_6 hl238_6
             replace p238 := eq_true p238
             replace q238 := eq_true q238
             have ea_ := Option.some.inj (hx231_6.symm.trans hx238_6)
             injection ea_ with ea_ en_ ec_
             subst ea_
             subst ec_
             clear en_
             have p239 : 0 ≤ (x15_1 : Int) := of_decide_eq_true (by first | (with_reducible assumption) | assumption)
             have q239 : x15_1 < (t224.length : Int) := of_decide_eq_true (by first | (with_reducible assumption) | assumption)
             obtain ⟨ad239, A239_6, c239_6, e239, hx239_0, hx239_1, hx239_2, hx239_3, hx239_4, hx239_5, hx239_6, hl239_6, hi239_6⟩ := at_T26 (Kd.N_reads' HO_3.out).2.2 x15_1 p239 q239
             obtain rfl : ad231 = ad239 := (by injection e239)
             obtain ⟨ce239, hce239, hMe239, hcc239⟩ := Kd.N_get HO_3.out z26 x15_1 p239 (by first | exact q239 | exact of_decide_eq_true (by first | (with_reducible assumption) | assumption) | (have e_ := (Kd.N_reads' HO_3.out).1; omega))
             obtain ⟨ua239_6, uc239_6, rfl, ul239_6, ge239_6⟩ := k26_openF hMe239
             have hv239_6 := hcc239 6 _ rfl
             rw [add_field _ _ 6 (by omega)] at hv239_6
             replace hv239_6 := Option.some.inj (hv239_6.symm.trans hx239_6)
             injection hv239_6 with hva_ hvn_ hvc_
             rw [hva_] at ge239_6
             rw [hvc_] at ul239_6
             have HL239_6 := Aside0.mk (show Kd.V k26 26 _ w.heap.size _ _ ((rd_T26 t224 x15_1).f3) from Kd.V_mk ul239_6 ge239_6)
             clear hva_ hvn_ hvc_ ge239_6 ul239_6
             clear hcc239 hce239
             have HR239_6 := Aside0.mk hi239_6
             have HC239_6 := Aside0.mk hl239_6
             clear hi239_6 hl239_6
             replace p239 := eq_true p239
             replace q239 := eq_true q239
             have ea_ := Option.some.inj (hx231_6.symm.trans hx239_6)
             injection ea_ with ea_ en_ ec_
             subst ea_
             subst ec_
             clear en_
             go_wp2
             go_ret
             exact ⟨by first | rfl | (simp [errW_none, errW_some] <;> rfl) | (simp [*, errW_none, errW_some] <;> rfl), by repeat (first | (with_reducible first | exact HB.out | apply below_alloc | apply pw_below_drewN | apply below_drew1 | refine below_set ?_ GE223.out) | exact HB.out)⟩
            ·rw [if_neg c33] at H
             have c33b0 : decide ((((rd_T26 t224 x15_1).f3).length : Int) < 2) = false := decide_eq_false c33
             have c33b1 : decide (((rd_T26 t224 x15_1).f3).length < 2) = false := decide_eq_false (by omega)
             clear c33
             by_cases c34 : ((rd_T26 t224 x15_1).f2) = 0
             ·rw [if_pos c34] at H
              have c34b0 : (((rd_T26 t224 x15_1).f2) == 0) = true := beq_iff_eq.mpr c34
              have c34b1 : (((rd_T26 t224 x15_1).f2) != 0) = false := bne_eq_false_iff_eq.mpr c34
              clear c34
              have H' := Aside0.mk H
              clear H
              have p231 : 0 ≤ (x15_1 : Int) := of_decide_eq_true (by first | (with_reducible assumption) | assumption)
              have q231 : x15_1 < (t224.length : Int) := of_decide_eq_true (by first | (with_reducible assumption) | assumption)
              obtain ⟨ad231, A231_6, c231_6, e231, hx231_0, hx231_1, hx231_2, hx231_3, hx231_4, hx231_5, hx231_6, hl231_6, hi231_6⟩ := at_T26 (Kd.N_reads' HO_3.out).2.2 x15_1 p231 q231
              cases e231
              obtain ⟨ce231, hce231, hMe231, hcc231⟩ := Kd.N_get HO_3.out z26 x15_1 p231 (by first | exact q231 | exact of_decide_eq_true (by first | (with_reducible assumption) | assumption) | (have e_ := (Kd.N_reads' HO_3.out).1; omega))
              obtain ⟨ua231_6, uc231_6, rfl, ul231_6, ge231_6⟩ := k26_openF hMe231
              have hv231_6 := hcc231 6 _ rfl
              rw [add_field _ _ 6 (by omega)] at hv231_6
              replace hv231_6 := Option.some.inj (hv231_6.symm.trans hx231_6)
              injection hv231_6 with hva_ hvn_ hvc_
              rw [hva_] at ge231_6
              rw [hvc_] at ul231_6
              have HL231_6 := Aside0.mk (show Kd.V k26 26 _ w.heap.size _ _ ((rd_T26 t224 x15_1).f3) from Kd.V_mk ul231_6 ge231_6)
              clear hva_ hvn_ hvc_ ge231_6 ul231_6
              clear hcc231 hce231
              have HR231_6 := Aside0.mk hi231_6
              have HC231_6 := Aside0.mk hl231_6
              clear hi231_6 hl231_6
              replace p231 := eq_true p231
              replace q231 := eq_true q231
              have p238 : 0 ≤ (x15_1 : Int) := of_decide_eq_true (by first | (with_reducible assumption) | assumption)
              have q238 : x15_1 < (t224.length : Int) := of_decide_eq_true (by first | (with_reducible assumption) | assumption)
              obtain ⟨ad238, A238_6, c238_6, e238, hx238_0, hx238_1, hx238_2, hx238_3, hx238_4, hx238_5, hx238_6, hl238_6, hi238_6⟩ := at_T26 (Kd.N_reads' HO_3.out).2.2 x15_1 p238 q238
              obtain rfl : ad231 = ad238 := (by injection e238)
              obtain ⟨ce238, hce238, hMe238, hcc238⟩ := Kd.N_get HO_3.out z26 x15_1 p238 (by first | exact q238 | exact of_decide_eq_true (by first | (with_reducible assumption) | assumption) | (have e_ := (Kd.N_reads' HO_3.out).1; omega))
              obtain ⟨ua238_6, uc238_6, rfl, ul238_6, ge238_6⟩ := k26_openF hMe238
              have hv238_6 := hcc238 6 _ rfl
              rw [add_field _ _ 6 (by omega)] at hv238_6
              replace hv238_6 := Option.some.inj (hv238_6.symm.trans hx238_6)
              injection hv238_6 with hva_ hvn_ hvc_
              rw [hva_] at ge238_6
              rw [hvc_] at ul238_6
              have HL238_6 := Aside0.mk (show Kd.V k26 26 _ w.heap.size _ _ ((rd_T26 t224 x15_1).f3) from Kd.V_mk ul238_6 ge238_6)
              clear hva_ hvn_ hvc_ ge238_6 ul238_6
              clear hcc238 hce238
              have HR238_6 := Aside0.mk hi238_6
              have HC238_6 := Aside0.mk hl238_6
              clear hi238_6 hl238_6
              replace p238 := eq_true p238
              replace q238 := eq_true q238
              have ea_ := Option.some.inj (hx231_6.symm.trans hx238_6)
              injection ea_ with ea_ en_ ec_
              subst ea_
              subst ec_
              clear en_
              have p239 : 0 ≤ (x15_1 : Int) := of_decide_eq_true (by first | (with_reducible assumption) | assumption)
              have q239 : x15_1 < (t224.length : Int) := of_decide_eq_true (by first | (with_reducible assumption) | assumption)
              obtain ⟨ad239, A239_6, c239_6, e239, hx239_0, hx239_1, hx239_2, hx239_3, hx239_4, hx239_5, hx239_6, hl239_6, hi239_6⟩ := at_T26 (Kd.N_reads' HO_3.out).2.2 x15_1 p239 q239
              obtain rfl : ad231 = ad239 := (by injection e239)
              obtain ⟨ce239, hce239, hMe239, hcc239⟩ := Kd.N_get HO_3.out z26 x15_1 p239 (by first | exact q239 | exact of_decide_eq_true (by first | (with_reducible assumption) | assumption) | (have e_ := (Kd.N_reads' HO_3.out).1; omega))
              obtain ⟨ua239_6, uc239_6, rfl, ul239_6, ge239_6⟩ := k26_openF hMe239
              have hv239_6 := hcc239 6 _ rfl
              rw [add_field _ _ 6 (by omega)] at hv239_6
              replace hv239_6 := Option.some.inj (hv239_6.symm.trans hx239_6)
              injection hv239_6 with hva_ hvn_ hvc_
              rw [hva_] at ge239_6
              rw [hvc_] at ul239_6
              have HL239_6 := Aside0.mk (show Kd.V k26 26 _ w.heap.size _ _ ((rd_T26 t224 x15_1).f3) from Kd.V_mk ul239_6 ge239_6)
              clear hva_ hvn_ hvc_ ge239_6 ul239_6
              clear hcc239 hce239
              have HR239_6 := Aside0.mk hi239_6
              have HC239_6 := Aside0.mk hl239_6
              clear hi239_6 hl239_6
              replace p239 := eq_true p239
              replace q239 := eq_true q239
              have ea_ := Option.some.inj (hx231_6.symm.trans hx239_6)
              injection ea_ with ea_ en_ ec_
              subst ea_
              subst ec_
              clear en_
              have p240 : 0 ≤ (x15_1 : Int) := of_decide_eq_true (by first | (with_reducible assumption) | assumption)
              have q240 : x15_1 < (t224.length : Int) := of_decide_eq_true (by first | (with_reducible assumption) | assumption)
              obtain ⟨ad240, A240_6, c240_6, e240, hx240_0, hx240_1, hx240_2, hx240_3, hx240_4, hx240_5, hx240_6, hl240_6, hi240_6⟩ := at_T26 (Kd.N_reads' HO_3.out).2.2 x15_1 p240 q240
              obtain rfl : ad231 = ad240 := (by injection e240)
              obtain ⟨ce240, hce240, hMe240, hcc240⟩ := Kd.N_get HO_3.out z26 x15_1 p240 (by first | exact q240 | exact of_decide_eq_true (by first | (with_reducible assumption) | assumption) | (have e_ := (Kd.N_reads' HO_3.out).1; omega))
              obtain ⟨ua240_6, uc240_6, rfl, ul240_6, ge240_6⟩ := k26_openF hMe240
              have hv240_6 := hcc240 6 _ rfl
              rw [add_field _ _ 6 (by omega)] at hv240_6
              replace hv240_6 := Option.some.inj (hv240_6.symm.trans hx240_6)
              injection hv240_6 with hva_ hvn_ hvc_
              rw [hva_] at ge240_6
              rw [hvc_] at ul240_6
              have HL240_6 := Aside0.mk (show Kd.V k26 26 _ w.heap.size _ _ ((rd_T26 t224 x15_1).f3) from Kd.V_mk ul240_6 ge240_6)
              clear hva_ hvn_ hvc_ ge240_6 ul240_6
              clear hcc240 hce240
              have HR240_6 := Aside0.mk hi240_6
              have HC240_6 := Aside0.mk hl240_6
              clear hi240_6 hl240_6
              replace p240 := eq_true p240
              replace q240 := eq_true q240
              have ea_ := Option.some.inj (hx231_6.symm.trans hx240_6)
              injection ea_ with ea_ en_ ec_
              subst ea_
              subst ec_
              clear en_
              go_wp2
              go_roundg kj12
              case measure => have := HK1.out; have := HJ12.out; omega
              case rel => exact ⟨(wrap64 (x15_1 + 1)), (by first | rfl | (simp; done) | (simp [*]; done)), H', ⟨by have := HK1.out; have := HJ12.out; omega⟩, ⟨by (with_reducible repeat (first | apply Kd.N_alloc | apply Kd.N_drewN | apply Kd.N_drew)); exact HO_3.out⟩, ⟨by (with_reducible repeat (first | refine blk_drewN ?_ _ | refine blk_drew ?_ | refine blk_alloc ?_ _)); exact BK223.out⟩, ⟨by repeat (first | (with_reducible first | exact HB.out | apply below_alloc | apply pw_below_drewN | apply below_drew1 | refine below_set ?_ GE223.out) | exact HB.out)⟩⟩
             ·rw [if_neg c34] at H
              have c34b0 : (((rd_T26 t224 x15_1).f2) == 0) = false := beq_eq_false_iff_ne.mpr c34
              have c34b1 : (((rd_T26 t224 x15_1).f2) != 0) = true := bne_iff_ne.mpr c34
              obtain rfl := Option.some.inj H
              have p231 : 0 ≤ (x15_1 : Int) := of_decide_eq_true (by first | (with_reducible assumption) | assumption)
              have q231 : x15_1 < (t224.length : Int) := of_decide_eq_true (by first | (with_reducible assumption) | assumption)
              obtain ⟨ad231, A231_6, c231_6, e231, hx231_0, hx231_1, hx231_2, hx231_3, hx231_4, hx231_5, hx231_6, hl231_6, hi231_6⟩ := at_T26 (Kd.N_reads' HO_3.out).2.2 x15_1 p231 q231
              cases e231
              obtain ⟨ce231, hce231, hMe231, hcc231⟩ := Kd.N_get HO_3.out z26 x15_1 p231 (by first | exact q231 | exact of_decide_eq_true (by first | (with_reducible assumption) | assumption) | (have e_ := (Kd.N_reads' HO_3.out).1; omega))
              obtain ⟨ua231_6, uc231_6, rfl, ul231_6, ge231_6⟩ := k26_openF hMe231
              have hv231_6 := hcc231 6 _ rfl
              rw [add_field _ _ 6 (by omega)] at hv231_6
              replace hv231_6 := Option.some.inj (hv231_6.symm.trans hx231_6)
              injection hv231_6 with hva_ hvn_ hvc_
              rw [hva_] at ge231_6
              rw [hvc_] at ul231_6
              have HL231_6 := Aside0.mk (show Kd.V k26 26 _ w.heap.size _ _ ((rd_T26 t224 x15_1).f3) from Kd.V_mk ul231_6 ge231_6)
              clear hva_ hvn_ hvc_ ge231_6 ul231_6
              clear hcc231 hce231
              have HR231_6 := Aside0.mk hi231_6
              have HC231_6 := Aside0.mk hl231_6
              clear hi231_6 hl231_6
              replace p231 := eq_true p231
              replace q231 := eq_true q231
              have p238 : 0 ≤ (x15_1 : Int) := of_decide_eq_true (by first | (with_reducible assumption) | assumption)
              have q238 : x15_1 < (t224.length : Int) := of_decide_eq_true (by first | (with_reducible assumption) | assumption)
              obtain ⟨ad238, A238_6, c238_6, e238, hx238_0, hx238_1, hx238_2, hx238_3, hx238_4, hx238_5, hx238_6, hl238_6, hi238_6⟩ := at_T26 (Kd.N_reads' HO_3.out).2.2 x15_1 p238 q238
              obtain rfl : ad231 = ad238 := (by injection e238)
              obtain ⟨ce238, hce238, hMe238, hcc238⟩ := Kd.N_get HO_3.out z26 x15_1 p238 (by first | exact q238 | exact of_decide_eq_true (by first | (with_reducible assumption) | assumption) | (have e_ := (Kd.N_reads' HO_3.out).1; omega))
              obtain ⟨ua238_6, uc238_6, rfl, ul238_6, ge238_6⟩ := k26_openF hMe238
              have hv238_6 := hcc238 6 _ rfl
              rw [add_field _ _ 6 (by omega)] at hv238_6
              replace hv238_6 := Option.some.inj (hv238_6.symm.trans hx238_6)
              injection hv238_6 with hva_ hvn_ hvc_
              rw [hva_] at ge238_6
              rw [hvc_] at ul238_6
              have HL238_6 := Aside0.mk (show Kd.V k26 26 _ w.heap.size _ _ ((rd_T26 t224 x15_1).f3) from Kd.V_mk ul238_6 ge238_6)
              clear hva_ hvn_ hvc_ ge238_6 ul238_6
              clear hcc238 hce238
              have HR238_6 := Aside0.mk hi238_6
              have HC238_6 := Aside0.mk hl238_6
              clear hi238_6 hl238_6
              replace p238 := eq_true p238
              replace q238 := eq_true q238
              have ea_ := Option.some.inj (hx231_6.symm.trans hx238_6)
              injection ea_ with ea_ en_ ec_
              subst ea_
              subst ec_
              clear en_
              have p239 : 0 ≤ (x15_1 : Int) := of_decide_eq_true (by first | (with_reducible assumption) | assumption)
              have q239 : x15_1 < (t224.length : Int) := of_decide_eq_true (by first | (with_reducible assumption) | assumption)
              obtain ⟨ad239, A239_6, c239_6, e239, hx239_0, hx239_1, hx239_2, hx239_3, hx239_4, hx239_5, hx239_6, hl239_6, hi239_6⟩ := at_T26 (Kd.N_reads' HO_3.out).2.2 x15_1 p239 q239
              obtain rfl : ad231 = ad239 := (by injection e239)
              obtain ⟨ce239, hce239, hMe239, hcc239⟩ := Kd.N_get HO_3.out z26 x15_1 p239 (by first | exact q239 | exact of_decide_eq_true (by first | (with_reducible assumption) | assumption) | (have e_ := (Kd.N_reads' HO_3.out).1; omega))
              obtain ⟨ua239_6, uc239_6, rfl, ul239_6, ge239_6⟩ := k26_openF hMe239
              have hv239_6 := hcc239 6 _ rfl
              rw [add_field _ _ 6 (by omega)] at hv239_6
              replace hv239_6 := Option.some.inj (hv239_6.symm.trans hx239_6)
              injection hv239_6 with hva_ hvn_ hvc_
              rw [hva_] at ge239_6
              rw [hvc_] at ul239_6
              have HL239_6 := Aside0.mk (show Kd.V k26 26 _ w.heap.size _ _ ((rd_T26 t224 x15_1).f3) from Kd.V_mk ul239_6 ge239_6)
              clear hva_ hvn_ hvc_ ge239_6 ul239_6
              clear hcc239 hce239
              have HR239_6 := Aside0.mk hi239_6
              have HC239_6 := Aside0.mk hl239_6
              clear hi239_6 hl239_6
              replace p239 := eq_true p239
              replace q239 := eq_true q239
              have ea_ := Option.some.inj (hx231_6.symm.trans hx239_6)
              injection ea_ with ea_ en_ ec_
              subst ea_
              subst ec_
              clear en_
              have p240 : 0 ≤ (x15_1 : Int) := of_decide_eq_true (by first | (with_reducible assumption) | assumption)
              have q240 : x15_1 < (t224.length : Int) := of_decide_eq_true (by first | (with_reducible assumption) | assumption)
              obtain ⟨ad240, A240_6, c240_6, e240, hx240_0, hx240_1, hx240_2, hx240_3, hx240_4, hx240_5, hx240_6, hl240_6, hi240_6⟩ := at_T26 (Kd.N_reads' HO_3.out).2.2 x15_1 p240 q240
              obtain rfl : ad231 = ad240 := (by injection e240)
              obtain ⟨ce240, hce240, hMe240, hcc240⟩ := Kd.N_get HO_3.out z26 x15_1 p240 (by first | exact q240 | exact of_decide_eq_true (by first | (with_reducible assumption) | assumption) | (have e_ := (Kd.N_reads' HO_3.out).1; omega))
              obtain ⟨ua240_6, uc240_6, rfl, ul240_6, ge240_6⟩ := k26_openF hMe240
              have hv240_6 := hcc240 6 _ rfl
              rw [add_field _ _ 6 (by omega)] at hv240_6
              replace hv240_6 := Option.some.inj (hv240_6.symm.trans hx240_6)
              injection hv240_6 with hva_ hvn_ hvc_
              rw [hva_] at ge240_6
              rw [hvc_] at ul240_6
              have HL240_6 := Aside0.mk (show Kd.V k26 26 _ w.heap.size _ _ ((rd_T26 t224 x15_1).f3) from Kd.V_mk ul240_6 ge240_6)
              clear hva_ hvn_ hvc_ ge240_6 ul240_6
              clear hcc240 hce240
              have HR240_6 := Aside0.mk hi240_6
              have HC240_6 := Aside0.mk hl240_6
              clear hi240_6 hl240_6
              replace p240 := eq_true p240
              replace q240 := eq_true q240
              have ea_ := Option.some.inj (hx231_6.symm.trans hx240_6)
              injection ea_ with ea_ en_ ec_
              subst ea_
              subst ec_
              clear en_
              go_wp2
              go_ret
              exact ⟨by first | rfl | (simp [errW_none, errW_some] <;> rfl) | (simp [*, errW_none, errW_some] <;> rfl), by repeat (first | (with_reducible first | exact HB.out | apply below_alloc | apply pw_below_drewN | apply below_drew1 | refine below_set ?_ GE223.out) | exact HB.out)⟩
           ·rw [if_neg c32] at H
            have c32b0 : decide (1 < ((rd_T26 t224 x15_1).f0)) = false := decide_eq_false c32
            clear c32
            have H' := Aside0.mk H
            clear H
            have p231 : 0 ≤ (x15_1 : Int) := of_decide_eq_true (by first | (with_reducible assumption) | assumption)
            have q231 : x15_1 < (t224.length : Int) := of_decide_eq_true (by first | (with_reducible assumption) | assumption)
            obtain ⟨ad231, A231_6, c231_6, e231, hx231_0, hx231_1, hx231_2, hx231_3, hx231_4, hx231_5, hx231_6, hl231_6, hi231_6⟩ := at_T26 (Kd.N_reads' HO_3.out).2.2 x15_1 p231 q231
            cases e231
            obtain ⟨ce231, hce231, hMe231, hcc231⟩ := Kd.N_get HO_3.out z26 x15_1 p231 (by first | exact q231 | exact of_decide_eq_true (by first | (with_reducible assumption) | assumption) | (have e_ := (Kd.N_reads' HO_3.out).1; omega))
            obtain ⟨ua231_6, uc231_6, rfl, ul231_6, ge231_6⟩ := k26_openF hMe231
            have hv231_6 := hcc231 6 _ rfl
            rw [add_field _ _ 6 (by omega)] at hv231_6
            replace hv231_6 := Option.some.inj (hv231_6.symm.trans hx231_6)
            injection hv231_6 with hva_ hvn_ hvc_
            rw [hva_] at ge231_6
            rw [hvc_] at ul231_6
            have HL231_6 := Aside0.mk (show Kd.V k26 26 _ w.heap.size _ _ ((rd_T26 t224 x15_1).f3) from Kd.V_mk ul231_6 ge231_6)
            clear hva_ hvn_ hvc_ ge231_6 ul231_6
            clear hcc231 hce231
            have HR231_6 := Aside0.mk hi231_6
            have HC231_6 := Aside0.mk hl231_6
            clear hi231_6 hl231_6
            replace p231 := eq_true p231
            replace q231 := eq_true q231
            have p238 : 0 ≤ (x15_1 : Int) := of_decide_eq_true (by first | (with_reducible assumption) | assumption)
            have q238 : x15_1 < (t224.length : Int) := of_decide_eq_true (by first | (with_reducible assumption) | assumption)
            obtain ⟨ad238, A238_6, c238_6, e238, hx238_0, hx238_1, hx238_2, hx238_3, hx238_4, hx238_5, hx238_6, hl238_6, hi238_6⟩ := at_T26 (Kd.N_reads' HO_3.out).2.2 x15_1 p238 q238
            obtain rfl : ad231 = ad238 := (by injection e238)
            obtain ⟨ce238, hce238, hMe238, hcc238⟩ := Kd.N_get HO_3.out z26 x15_1 p238 (by first | exact q238 | exact of_decide_eq_true (by first | (with_reducible assumption) | assumption) | (have e_ := (Kd.N_reads' HO_3.out).1; omega))
            obtain ⟨ua238_6, uc238_6, rfl, ul238_6, ge238_6⟩ := k26_openF hMe238
            have hv238_6 := hcc238 6 _ rfl
            rw [add_field _ _ 6 (by omega)] at hv238_6
            replace hv238_6 := Option.some.inj (hv238_6.symm.trans hx238_6)
            injection hv238_6 with hva_ hvn_ hvc_
            rw [hva_] at ge238_6
            rw [hvc_] at ul238_6
            have HL238_6 := Aside0.mk (show Kd.V k26 26 _ w.heap.size _ _ ((rd_T26 t224 x15_1).f3) from Kd.V_mk ul238_6 ge238_6)
            clear hva_ hvn_ hvc_ ge238_6 ul238_6
            clear hcc238 hce238
            have HR238_6 := Aside0.mk hi238_6
            have HC238_6 := Aside0.mk hl238_6
            clear hi238_6 hl238_6
            replace p238 := eq_true p238
            replace q238 := eq_true q238
            have ea_ := Option.some.inj (hx231_6.symm.trans hx238_6)
            injection ea_ with ea_ en_ ec_
            subst ea_
            subst ec_
            clear en_
            go_wp2
            go_roundg kj12
            case measure => have := HK1.out; have := HJ12.out; omega
            case rel => exact ⟨(wrap64 (x15_1 + 1)), (by first | rfl | (simp; done) | (simp [*]; done)), H', ⟨by have := HK1.out; have := HJ12.out; omega⟩, ⟨by (with_reducible repeat (first | apply Kd.N_alloc | apply Kd.N_drewN | apply Kd.N_drew)); exact HO_3.out⟩, ⟨by (with_reducible repeat (first | refine blk_drewN ?_ _ | refine blk_drew ?_ | refine blk_alloc ?_ _)); exact BK223.out⟩, ⟨by repeat (first | (with_reducible first | exact HB.out | apply below_alloc | apply pw_below_drewN | apply below_drew1 | refine below_set ?_ GE223.out) | exact HB.out)⟩⟩
         ·rw [if_neg c24] at H
          exact absurd H (by simp)
        ·rw [if_neg c23] at H
         exact absurd H (by simp)
    ·rw [if_neg c12] at H
     have c12b0 : decide (x15_1 < (t224.length : Int)) = false := decide_eq_false c12
     clear c12
     replace H := Option.bind_eq_some_iff.mp H
     obtain ⟨t241, A350, H⟩ := H
     replace H : (sashref05_May.l1 k1 t241 (t241.length : Int) 0) = some r := H
     have A35 := Aside0.mk A350
     clear A350
     have H' := Aside0.mk H
     clear H
     have hcz36_0 : wr.cell? ⟨gb223, 0, none⟩ = some (.int .u8 a0_0) := (blk_cell BK223.out 0).trans rfl
     have hcz36_1 : wr.cell? ⟨gb223, 1, none⟩ = some (.int .i64 a0_1) := (blk_cell BK223.out 1).trans rfl
     have hcz36_2 : wr.cell? ⟨gb223, 2, none⟩ = some (.int .i64 a0_2) := (blk_cell BK223.out 2).trans rfl
     have hcz36_3 : wr.cell? ⟨gb223, 3, none⟩ = some (.int .i64 a0_3) := (blk_cell BK223.out 3).trans rfl
     have hcz36_4 : wr.cell? ⟨gb223, 4, none⟩ = some (.int .i64 a0_4) := (blk_cell BK223.out 4).trans rfl
     have hcz36_5 : wr.cell? ⟨gb223, 5, none⟩ = some (.int .i64 a0_5) := (blk_cell BK223.out 5).trans rfl
     have hcz36_6 : wr.cell? ⟨gb223, 6, none⟩ = some (.slice A0_6 l0_6.length c0_6) := (blk_cell BK223.out 6).trans rfl
     have hfz36_0 := blk_frozen BK223.out 0
     have hfz36_1 := blk_frozen BK223.out 1
     have hfz36_2 := blk_frozen BK223.out 2
     have hfz36_3 := blk_frozen BK223.out 3
     have hfz36_4 := blk_frozen BK223.out 4
     have hfz36_5 := blk_frozen BK223.out 5
     have hfz36_6 := blk_frozen BK223.out 6
     go_wp2_with (first | (go_at_call 54; (with_reducible refine (sashref05_Leaves.calls k1 a0_0 a0_1 a0_2 a0_3 a0_4 a0_5 (fun k_ => k_ < w.heap.size) _ _ l0_6 t241 _ ?side1 A35.out).mono ?_); (case side1 => exact Kd.V_mk HC0_6.out (Kd.F_below (Kd.C_F k26_heap HR0_6.out) (by repeat (first | (with_reducible first | exact HB.out | apply below_alloc | apply pw_below_drewN | apply below_drew1 | refine below_set ?_ GE223.out) | exact HB.out)))); rintro e w37 ⟨v242, rfl, ho0, hb⟩; have n0_ := Aside0.mk (Kd.N_elder' (by (with_reducible repeat (first | apply Kd.N_alloc | apply Kd.N_drewN | apply Kd.N_drew)); exact HO_3.out) (Kd.N_base ho0) hb); have n1_ := Aside0.mk (Kd.N_lower (Kd.N_mono (ok' := fun k_ => some k_ ≠ (.slice Ao11 t224.length co11 : Value).ownBlock ∧ k_ ≠ gb223) ho0 (fun k_ hk_ => ⟨Or.elim hk_ (fun hs_ => fun e_ => Nat.not_le.2 hs_ (Kd.N_base HO_3.out k_ e_.symm)) (fun hn_ => (Kd.fresh' (Kd.N_lt (by (with_reducible repeat (first | apply Kd.N_alloc | apply Kd.N_drewN | apply Kd.N_drew)); exact HO_3.out)) k_ hn_)), Or.elim hk_ (fun hs_ => fun e_ => Nat.not_le.2 hs_ (by rw [e_]; exact GW223.out)) (fun hn_ => (Kd.freshB (g := gb223) (o := .cells #[.int .u8 a0_0, .int .i64 a0_1, .int .i64 a0_2, .int .i64 a0_3, .int .i64 a0_4, .int .i64 a0_5, .slice A0_6 l0_6.length c0_6] 26 (0, 0)) (by (with_reducible repeat (first | refine blk_drewN ?_ _ | refine blk_drew ?_ | refine blk_alloc ?_ _)); exact BK223.out) k_ hn_))⟩)) (below_size (by repeat (first | (with_reducible first | exact HB.out | apply below_alloc | apply pw_below_drewN | apply below_drew1 | refine below_set ?_ GE223.out) | exact HB.out)))); have n2_ := Aside0.mk (blk_below (g := gb223) (o := .cells #[.int .u8 a0_0, .int .i64 a0_1, .int .i64 a0_2, .int .i64 a0_3, .int .i64 a0_4, .int .i64 a0_5, .slice A0_6 l0_6.length c0_6] 26 (0, 0)) (by (with_reducible repeat (first | refine blk_drewN ?_ _ | refine blk_drew ?_ | refine blk_alloc ?_ _)); exact BK223.out) hb); have n3_ := Aside0.mk (below_step (by repeat (first | (with_reducible first | exact HB.out | apply below_alloc | apply pw_below_drewN | apply below_drew1 | refine below_set ?_ GE223.out) | exact HB.out)) hb); clear HO_3; clear BK223; clear HB; have HO_3 := n0_; have HO243 := n1_; have BK223 := n2_; have HB := n3_; clear n0_ n1_ n2_ n3_; (try clear hb); (try clear hb2); (try clear hk); (try clear hi); (try clear ho0); obtain ⟨Ao38, co38, eo38⟩ := Kd.N_slice HO243.out; subst eo38))
     go_loopg [102] k1 (fun kq v102 w' => ∃ (x102_2 : Int), v102 = .int .i64 x102_2 ∧ Aside0 (sashref05_May.l1 kq t241 (t241.length : Int) x102_2 = some r) ∧ Aside0 (kq ≤ k1) ∧ Aside0 (Kd.N k26 26 w' w.heap.size (fun k_ => k_ ≠ gb223) (.slice Ao38 t241.length co38) t241) ∧ Aside0 (w'.heap[gb223]? = some (.cells #[.int .u8 a0_0, .int .i64 a0_1, .int .i64 a0_2, .int .i64 a0_3, .int .i64 a0_4, .int .i64 a0_5, (.slice A0_6 l0_6.length c0_6)] 26 (0, 0))) ∧ Aside0 (Below w.heap.size w w'))
     case atStart => exact ⟨(0), (by first | rfl | (simp; done) | (simp [*]; done)), H', ⟨Nat.le_refl _⟩, ⟨by (with_reducible repeat (first | apply Kd.N_alloc | apply Kd.N_drewN | apply Kd.N_drew)); exact Kd.N_mono HO243.out (fun _ hk => hk.2)⟩, ⟨by (with_reducible repeat (first | refine blk_drewN ?_ _ | refine blk_drew ?_ | refine blk_alloc ?_ _)); exact BK223.out⟩, ⟨by repeat (first | (with_reducible first | exact HB.out | apply below_alloc | apply pw_below_drewN | apply below_drew1 | refine below_set ?_ GE223.out) | exact HB.out)⟩⟩
     case round =>
      clear H'
      try clear c1
      try clear c2
      try clear p2
      try clear q2
      try clear hx2
      try clear c3
      try clear p6
      try clear c12
      try clear c12b0
      try clear c23
      try clear p23
      try clear q23
      try clear hx23
      try clear c24
      try clear p24
      try clear q24
      try clear hx24
      try clear c25
      try clear c25b0
      try clear c25b1
      try clear c29
      try clear c29b0
      try clear c32
      try clear c32b0
      try clear c33
      try clear c33b0
      try clear c33b1
      try clear c34
      try clear c34b0
      try clear c34b1
      try clear hcz36_0
      try clear hcz36_1
      try clear hcz36_2
      try clear hcz36_3
      try clear hcz36_4
      try clear hcz36_5
      try clear hcz36_6
      try clear hfz36_0
      try clear hfz36_1
      try clear hfz36_2
      try clear hfz36_3
      try clear hfz36_4
      try clear hfz36_5
      try clear hfz36_6
      try clear hx231_0
      try clear hx231_1
      try clear hx231_2
      try clear hx231_3
      try clear hx231_4
      try clear hx231_5
      try clear hx231_6
      try clear hx232_0
      try clear hx232_1
      try clear hx232_2
      try clear hx232_3
      try clear hx232_4
      try clear hx232_5
      try clear hx232_6
      try clear hx233_0
      try clear hx233_1
      try clear hx233_2
      try clear hx233_3
      try clear hx233_4
      try clear hx233_5
      try clear hx233_6
      try clear hx234_0
      try clear hx234_1
      try clear hx234_2
      try clear hx234_3
      try clear hx234_4
      try clear hx234_5
      try clear hx234_6
      try clear hx235_0
      try clear hx235_1
      try clear hx235_2
      try clear hx235_3
      try clear hx235_4
      try clear hx235_5
      try clear hx235_6
      try clear hx236_0
      try clear hx236_1
      try clear hx236_2
      try clear hx236_3
      try clear hx236_4
      try clear hx236_5
      try clear hx236_6
      try clear hx237_0
      try clear hx237_1
      try clear hx237_2
      try clear hx237_3
      try clear hx237_4
      try clear hx237_5
      try clear hx237_6
      try clear hx238_0
      try clear hx238_1
      try clear hx238_2
      try clear hx238_3
      try clear hx238_4
      try clear hx238_5
      try clear hx238_6
      try clear hx239_0
      try clear hx239_1
      try clear hx239_2
      try clear hx239_3
      try clear hx239_4
      try clear hx239_5
      try clear hx239_6
      try clear hx240_0
      try clear hx240_1
      try clear hx240_2
      try clear hx240_3
      try clear hx240_4
      try clear hx240_5
      try clear hx240_6
      try clear p231
      try clear p232
      try clear p233
      try clear p234
      try clear p235
      try clear p236
      try clear p237
      try clear p238
      try clear p239
      try clear p240
      try clear q231
      try clear q232
      try clear q233
      try clear q234
      try clear q235
      try clear q236
      try clear q237
      try clear q238
      try clear q239
      try clear q240
      obtain ⟨x102_2, rfl, HA, HK2, HO_5, BK223, HB⟩ := hrel
      cases gk with
      | zero => exact absurd HA.out (by simp [sashref05_May.l1])
      | succ k2 =>
       have H := HA.out
       clear HA
       simp only [sashref05_May.l1] at H
       by_cases c39 : x102_2 < (t241.length : Int)
       ·rw [if_pos c39] at H
        have c39b0 : decide (x102_2 < (t241.length : Int)) = true := decide_eq_true c39
        clear c39
        have H' := Aside0.mk H
        clear H
        go_wp2
        go_loopg [7] k2 (fun kq v7 w' => ∃ (x7_3 : Int), v7 = .int .i64 x7_3 ∧ Aside0 (sashref05_May.l2 kq t241 x102_2 x7_3 (t241.length : Int) x102_2 = some r) ∧ Aside0 (kq ≤ k2) ∧ Aside0 (Kd.N k26 26 w' w.heap.size (fun k_ => k_ ≠ gb223) (.slice Ao38 t241.length co38) t241) ∧ Aside0 (w'.heap[gb223]? = some (.cells #[.int .u8 a0_0, .int .i64 a0_1, .int .i64 a0_2, .int .i64 a0_3, .int .i64 a0_4, .int .i64 a0_5, (.slice A0_6 l0_6.length c0_6)] 26 (0, 0))) ∧ Aside0 (Below w.heap.size w w'))
        case atStart => exact ⟨(0), (by first | rfl | (simp; done) | (simp [*]; done)), H', ⟨Nat.le_refl _⟩, ⟨by (with_reducible repeat (first | apply Kd.N_alloc | apply Kd.N_drewN | apply Kd.N_drew)); exact HO_5.out⟩, ⟨by (with_reducible repeat (first | refine blk_drewN ?_ _ | refine blk_drew ?_ | refine blk_alloc ?_ _)); exact BK223.out⟩, ⟨by repeat (first | (with_reducible first | exact HB.out | apply below_alloc | apply pw_below_drewN | apply below_drew1 | refine below_set ?_ GE223.out) | exact HB.out)⟩⟩
        case round =>
         clear H'
         try clear c1
         try clear c2
         try clear p2
         try clear q2
         try clear hx2
         try clear c3
         try clear p6
         try clear c12
         try clear c12b0
         try clear c23
         try clear p23
         try clear q23
         try clear hx23
         try clear c24
         try clear p24
         try clear q24
         try clear hx24
         try clear c25
         try clear c25b0
         try clear c25b1
         try clear c29
         try clear c29b0
         try clear c32
         try clear c32b0
         try clear c33
         try clear c33b0
         try clear c33b1
         try clear c34
         try clear c34b0
         try clear c34b1
         try clear c39
         try clear c39b0
         try clear hcz36_0
         try clear hcz36_1
         try clear hcz36_2
         try clear hcz36_3
         try clear hcz36_4
         try clear hcz36_5
         try clear hcz36_6
         try clear hfz36_0
         try clear hfz36_1
         try clear hfz36_2
         try clear hfz36_3
         try clear hfz36_4
         try clear hfz36_5
         try clear hfz36_6
         try clear hx231_0
         try clear hx231_1
         try clear hx231_2
         try clear hx231_3
         try clear hx231_4
         try clear hx231_5
         try clear hx231_6
         try clear hx232_0
         try clear hx232_1
         try clear hx232_2
         try clear hx232_3
         try clear hx232_4
         try clear hx232_5
         try clear hx232_6
         try clear hx233_0
         try clear hx233_1
         try clear hx233_2
         try clear hx233_3
         try clear hx233_4
         try clear hx233_5
         try clear hx233_6
         try clear hx234_0
         try clear hx234_1
         try clear hx234_2
         try clear hx234_3
         try clear hx234_4
         try clear hx234_5
         try clear hx234_6
         try clear hx235_0
         try clear hx235_1
         try clear hx235_2
         try clear hx235_3
         try clear hx235_4
         try clear hx235_5
         try clear hx235_6
         try clear hx236_0
         try clear hx236_1
         try clear hx236_2
         try clear hx236_3
         try clear hx236_4
         try clear hx236_5
         try clear hx236_6
         try clear hx237_0
         try clear hx237_1
         try clear hx237_2
         try clear hx237_3
         try clear hx237_4
         try clear hx237_5
         try clear hx237_6
         try clear hx238_0
         try clear hx238_1
         try clear hx238_2
         try clear hx238_3
         try clear hx238_4
         try clear hx238_5
         try clear hx238_6
         try clear hx239_0
         try clear hx239_1
         try clear hx239_2
         try clear hx239_3
         try clear hx239_4
         try clear hx239_5
         try clear hx239_6
         try clear hx240_0
         try clear hx240_1
         try clear hx240_2
         try clear hx240_3
         try clear hx240_4
         try clear hx240_5
         try clear hx240_6
         try clear p2
         try clear p23
         try clear p231
         try clear p232
         try clear p233
         try clear p234
         try clear p235
         try clear p236
         try clear p237
         try clear p238
         try clear p239
         try clear p24
         try clear p240
         try clear p6
         try clear q2
         try clear q23
         try clear q231
         try clear q232
         try clear q233
         try clear q234
         try clear q235
         try clear q236
         try clear q237
         try clear q238
         try clear q239
         try clear q24
         try clear q240
         obtain ⟨x7_3, rfl, HA, HK3, HO_5, BK223, HB⟩ := hrel
         cases gk with
         | zero => exact absurd HA.out (by simp [sashref05_May.l2])
         | succ k3 =>
          have H := HA.out
          clear HA
          simp only [sashref05_May.l2] at H
          by_cases c40 : x7_3 < x102_2
          ·rw [if_pos c40] at H
           have c40b0 : decide (x7_3 < x102_2) = true := decide_eq_true c40
           clear c40
           by_cases c41 : 0 ≤ x102_2
           ·rw [if_pos c41] at H
            have c41b0 : decide (0 ≤ x102_2) = true := decide_eq_true c41
            clear c41
            by_cases c42 : x102_2 < (t241.length : Int)
            ·rw [if_pos c42] at H
             have c42b0 : decide (x102_2 < (t241.length : Int)) = true := decide_eq_true c42
             clear c42
             by_cases c43 : 0 ≤ x7_3
             ·rw [if_pos c43] at H
              have c43b0 : decide (0 ≤ x7_3) = true := decide_eq_true c43
              clear c43
              by_cases c44 : x7_3 < (t241.length : Int)
              ·rw [if_pos c44] at H
               have c44b0 : decide (x7_3 < (t241.length : Int)) = true := decide_eq_true c44
               clear c44
               by_cases c45 : ((rd_T26 t241 x102_2).f2) = ((rd_T26 t241 x7_3).f2)
               ·rw [if_pos c45] at H
                have c45b0 : (((rd_T26 t241 x102_2).f2) == ((rd_T26 t241 x7_3).f2)) = true := beq_iff_eq.mpr c45
                have c45b1 : (((rd_T26 t241 x102_2).f2) != ((rd_T26 t241 x7_3).f2)) = false := bne_eq_false_iff_eq.mpr c45
                clear c45
                obtain rfl := Option.some.inj H
                have p244 : 0 ≤ (x102_2 : Int) := of_decide_eq_true (by first | (with_reducible assumption) | assumption)
                have q244 : x102_2 < (t241.length : Int) := of_decide_eq_true (by first | (with_reducible assumption) | assumption)
                obtain ⟨ad244, A244_6, c244_6, e244, hx244_0, hx244_1, hx244_2, hx244_3, hx244_4, hx244_5, hx244_6, hl244_6, hi244_6⟩ := at_T26 (Kd.N_reads' HO_5.out).2.2 x102_2 p244 q244
                cases e244
                obtain ⟨ce244, hce244, hMe244, hcc244⟩ := Kd.N_get HO_5.out z26 x102_2 p244 (by first | exact q244 | exact of_decide_eq_true (by first | (with_reducible assumption) | assumption) | (have e_ := (Kd.N_reads' HO_5.out).1; omega))
                obtain ⟨ua244_6, uc244_6, rfl, ul244_6, ge244_6⟩ := k26_openF hMe244
                have hv244_6 := hcc244 6 _ rfl
                rw [add_field _ _ 6 (by omega)] at hv244_6
                replace hv244_6 := Option.some.inj (hv244_6.symm.trans hx244_6)
                injection hv244_6 with hva_ hvn_ hvc_
                rw [hva_] at ge244_6
                rw [hvc_] at ul244_6
                have HL244_6 := Aside0.mk (show Kd.V k26 26 _ w.heap.size _ _ ((rd_T26 t241 x102_2).f3) from Kd.V_mk ul244_6 ge244_6)
                clear hva_ hvn_ hvc_ ge244_6 ul244_6
                clear hcc244 hce244
                have HR244_6 := Aside0.mk hi244_6
                have HC244_6 := Aside0.mk hl244_6
                clear hi244_6 hl244_6
                replace p244 := eq_true p244
                replace q244 := eq_true q244
                have p245 : 0 ≤ (x7_3 : Int) := of_decide_eq_true (by first | (with_reducible assumption) | assumption)
                have q245 : x7_3 < (t241.length : Int) := of_decide_eq_true (by first | (with_reducible assumption) | assumption)
                obtain ⟨ad245, A245_6, c245_6, e245, hx245_0, hx245_1, hx245_2, hx245_3, hx245_4, hx245_5, hx245_6, hl245_6, hi245_6⟩ := at_T26 (Kd.N_reads' HO_5.out).2.2 x7_3 p245 q245
                obtain rfl : ad244 = ad245 := (by injection e245)
                obtain ⟨ce245, hce245, hMe245, hcc245⟩ := Kd.N_get HO_5.out z26 x7_3 p245 (by first | exact q245 | exact of_decide_eq_true (by first | (with_reducible assumption) | assumption) | (have e_ := (Kd.N_reads' HO_5.out).1; omega))
                obtain ⟨ua245_6, uc245_6, rfl, ul245_6, ge245_6⟩ := k26_openF hMe245
                have hv245_6 := hcc245 6 _ rfl
                rw [add_field _ _ 6 (by omega)] at hv245_6
                replace hv245_6 := Option.some.inj (hv245_6.symm.trans hx245_6)
                injection hv245_6 with hva_ hvn_ hvc_
                rw [hva_] at ge245_6
                rw [hvc_] at ul245_6
                have HL245_6 := Aside0.mk (show Kd.V k26 26 _ w.heap.size _ _ ((rd_T26 t241 x7_3).f3) from Kd.V_mk ul245_6 ge245_6)
                clear hva_ hvn_ hvc_ ge245_6 ul245_6
                clear hcc245 hce245
                have HR245_6 := Aside0.mk hi245_6
                have HC245_6 := Aside0.mk hl245_6
                clear hi245_6 hl245_6
                replace p245 := eq_true p245
                replace q245 := eq_true q245
                go_wp2
                repeat (go_quiet (fail); try go_wp2)
                go_ret
                exact ⟨by first | rfl | (simp [errW_none, errW_some] <;> rfl) | (simp [*, errW_none, errW_some] <;> rfl), by repeat (first | (with_reducible first | exact HB.out | apply below_alloc | apply pw_below_drewN | apply below_drew1 | refine below_set ?_ GE223.out) | exact HB.out)⟩
               ·rw [if_neg c45] at H
                have c45b0 : (((rd_T26 t241 x102_2).f2) == ((rd_T26 t241 x7_3).f2)) = false := beq_eq_false_iff_ne.mpr c45
                have c45b1 : (((rd_T26 t241 x102_2).f2) != ((rd_T26 t241 x7_3).f2)) = true := bne_iff_ne.mpr c45
                have H' := Aside0.mk H
                clear H
                have p244 : 0 ≤ (x102_2 : Int) := of_decide_eq_true (by first | (with_reducible assumption) | assumption)
                have q244 : x102_2 < (t241.length : Int) := of_decide_eq_true (by first | (with_reducible assumption) | assumption)
                obtain ⟨ad244, A244_6, c244_6, e244, hx244_0, hx244_1, hx244_2, hx244_3, hx244_4, hx244_5, hx244_6, hl244_6, hi244_6⟩ := at_T26 (Kd.N_reads' HO_5.out).2.2 x102_2 p244 q244
                cases e244
                obtain ⟨ce244, hce244, hMe244, hcc244⟩ := Kd.N_get HO_5.out z26 x102_2 p244 (by first | exact q244 | exact of_decide_eq_true (by first | (with_reducible assumption) | assumption) | (have e_ := (Kd.N_reads' HO_5.out).1; omega))
                obtain ⟨ua244_6, uc244_6, rfl, ul244_6, ge244_6⟩ := k26_openF hMe244
                have hv244_6 := hcc244 6 _ rfl
                rw [add_field _ _ 6 (by omega)] at hv244_6
                replace hv244_6 := Option.some.inj (hv244_6.symm.trans hx244_6)
                injection hv244_6 with hva_ hvn_ hvc_
                rw [hva_] at ge244_6
                rw [hvc_] at ul244_6
                have HL244_6 := Aside0.mk (show Kd.V k26 26 _ w.heap.size _ _ ((rd_T26 t241 x102_2).f3) from Kd.V_mk ul244_6 ge244_6)
                clear hva_ hvn_ hvc_ ge244_6 ul244_6
                clear hcc244 hce244
                have HR244_6 := Aside0.mk hi244_6
                have HC244_6 := Aside0.mk hl244_6
                clear hi244_6 hl244_6
                replace p244 := eq_true p244
                replace q244 := eq_true q244
                have p245 : 0 ≤ (x7_3 : Int) := of_decide_eq_true (by first | (with_reducible assumption) | assumption)
                have q245 : x7_3 < (t241.length : Int) := of_decide_eq_true (by first | (with_reducible assumption) | assumption)
                obtain ⟨ad245, A245_6, c245_6, e245, hx245_0, hx245_1, hx245_2, hx245_3, hx245_4, hx245_5, hx245_6, hl245_6, hi245_6⟩ := at_T26 (Kd.N_reads' HO_5.out).2.2 x7_3 p245 q245
                obtain rfl : ad244 = ad245 := (by injection e245)
                obtain ⟨ce245, hce245, hMe245, hcc245⟩ := Kd.N_get HO_5.out z26 x7_3 p245 (by first | exact q245 | exact of_decide_eq_true (by first | (with_reducible assumption) | assumption) | (have e_ := (Kd.N_reads' HO_5.out).1; omega))
                obtain ⟨ua245_6, uc245_6, rfl, ul245_6, ge245_6⟩ := k26_openF hMe245
                have hv245_6 := hcc245 6 _ rfl
                rw [add_field _ _ 6 (by omega)] at hv245_6
                replace hv245_6 := Option.some.inj (hv245_6.symm.trans hx245_6)
                injection hv245_6 with hva_ hvn_ hvc_
                rw [hva_] at ge245_6
                rw [hvc_] at ul245_6
                have HL245_6 := Aside0.mk (show Kd.V k26 26 _ w.heap.size _ _ ((rd_T26 t241 x7_3).f3) from Kd.V_mk ul245_6 ge245_6)
                clear hva_ hvn_ hvc_ ge245_6 ul245_6
                clear hcc245 hce245
                have HR245_6 := Aside0.mk hi245_6
                have HC245_6 := Aside0.mk hl245_6
                clear hi245_6 hl245_6
                replace p245 := eq_true p245
                replace q245 := eq_true q245
                go_wp2
                repeat (go_quiet (fail); try go_wp2)
                go_roundg k3
                case measure => have := HK1.out; have := HK2.out; have := HK3.out; omega
                case rel => exact ⟨(wrap64 (x7_3 + 1)), (by first | rfl | (simp; done) | (simp [*]; done)), H', ⟨by have := HK1.out; have := HK2.out; have := HK3.out; omega⟩, ⟨by (with_reducible repeat (first | apply Kd.N_alloc | apply Kd.N_drewN | apply Kd.N_drew)); exact HO_5.out⟩, ⟨by (with_reducible repeat (first | refine blk_drewN ?_ _ | refine blk_drew ?_ | refine blk_alloc ?_ _)); exact BK223.out⟩, ⟨by repeat (first | (with_reducible first | exact HB.out | apply below_alloc | apply pw_below_drewN | apply below_drew1 | refine below_set ?_ GE223.out) | exact HB.out)⟩⟩
              ·rw [if_neg c44] at H
               exact absurd H (by simp)
             ·rw [if_neg c43] at H
              exact absurd H (by simp)
            ·rw [if_neg c42] at H
             exact absurd H (by simp)
           ·rw [if_neg c41] at H
            exact absurd H (by simp)
          ·rw [if_neg c40] at H
           have c40b0 : decide (x7_3 < x102_2) = false := decide_eq_false c40
           clear c40
           have H' := Aside0.mk H
           clear H
           go_wp2
           repeat (go_quiet (fail); try go_wp2)
           go_roundg k3
           case measure => have := HK1.out; have := HK2.out; have := HK3.out; omega
           case rel => exact ⟨(wrap64 (x102_2 + 1)), (by first | rfl | (simp; done) | (simp [*]; done)), H', ⟨by have := HK1.out; have := HK2.out; have := HK3.out; omega⟩, ⟨by (with_reducible repeat (first | apply Kd.N_alloc | apply Kd.N_drewN | apply Kd.N_drew)); exact HO_5.out⟩, ⟨by (with_reducible repeat (first | refine blk_drewN ?_ _ | refine blk_drew ?_ | refine blk_alloc ?_ _)); exact BK223.out⟩, ⟨by repeat (first | (with_reducible first | exact HB.out | apply below_alloc | apply pw_below_drewN | apply below_drew1 | refine below_set ?_ GE223.out) | exact HB.out)⟩⟩
       ·rw [if_neg c39] at H
        have c39b0 : decide (x102_2 < (t241.length : Int)) = false := decide_eq_false c39
        clear c39
        obtain rfl := Option.some.inj H
        go_wp2
        repeat (go_quiet (fail); try go_wp2)
        go_ret
        exact ⟨by first | rfl | (simp [errW_none, errW_some] <;> rfl) | (simp [*, errW_none, errW_some] <;> rfl), by repeat (first | (with_reducible first | exact HB.out | apply below_alloc | apply pw_below_drewN | apply below_drew1 | refine below_set ?_ GE223.out) | exact HB.out)⟩

end Go.Proofs.YtakhnigalkjhhaaDoor.PTileChecks
