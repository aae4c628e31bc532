/- Printed texts of this seat, cut to what is used. -/
import Derived.Test.YtakhnigalkjhhaaGreatDoorPPrintFitsx0
import Derived.Test.YtakhnigalkjhhaaGreatDoorPPrintFitsx3
namespace Go.Proofs.YtakhnigalkjhhaaGreatDoor.PPrintFits
open Go.RowKit Go.Proofs.YtakhnigalkjhhaaGreatDoorW.PrintWords Go.Proofs.YtakhnigalkjhhaaGreatDoorW.PrintLast Go.Proofs.YtakhnigalkjhhaaGreatDoorW.PrintMore
attribute [local go_sem] max2_int min2_int max_two min_two max_three min_three max_four min_four   -- for this text's walks alone
set_option linter.unusedVariables false
set_option linter.unusedSimpArgs false

mutual
def sashref05_May.l0 : Nat → List (S30) → Int → Int → Int → Int → Int → Int → Int → Int → List (S30) → Option (Bool)
 | 0, _, _, _, _, _, _, _, _, _, _ => none
 | k + 1, x3, x14, x15, x178000, x178001, x178002, x178003, x178004, x178005, x178006 => if x15 < x14 then (if 0 ≤ x15 then (if x15 < (x3.length : Int) then ((sashref04_May.f ((rd_T30 x3 x15).f1.f0) ((rd_T30 x3 x15).f1.f1) ((rd_T30 x3 x15).f1.f2) ((rd_T30 x3 x15).f1.f3)).bind fun t182 => (if t182 = true then (if ((rd_T30 x3 x15).f0) < 1 then (sashref05_May.j1 k x3 x15 x14 x15 true x178000 x178001 x178002 x178003 x178004 x178005 x178006) else (sashref05_May.j1 k x3 x15 x14 x15 (decide (((rd_T30 x3 x15).f0) > 3)) x178000 x178001 x178002 x178003 x178004 x178005 x178006)) else (sashref05_May.j1 k x3 x15 x14 x15 true x178000 x178001 x178002 x178003 x178004 x178005 x178006))) else (none)) else (none)) else ((sashref05_Leaves.f k x178000 x178001 x178002 x178003 x178004 x178005 x178006).bind fun t195 => (sashref05_May.l1 k t195 (t195.length : Int) 0))
def sashref05_May.j1 : Nat → List (S30) → Int → Int → Int → Bool → Int → Int → Int → Int → Int → Int → List (S30) → Option (Bool)
 | 0, _, _, _, _, _, _, _, _, _, _, _, _ => none
 | k + 1, x3, x4, x14, x15, x40, x178000, x178001, x178002, x178003, x178004, x178005, x178006 => if x40 = true then (some false) else (if 0 ≤ x4 then (if x4 < (x3.length : Int) then (if ((rd_T30 x3 x4).f0) = 1 then (if (((rd_T30 x3 x4).f3).length : Int) > 0 then (some false) else (if ((rd_T30 x3 x4).f2) < 0 then (some false) else (if ((rd_T30 x3 x4).f2) > 2147483647 then (some false) else (if ((rd_T30 x3 x4).f0) > 1 then (if (((rd_T30 x3 x4).f3).length : Int) < 2 then (some false) else (if ((rd_T30 x3 x4).f2) = 0 then (sashref05_May.l0 k x3 x14 (wrap64 (x15 + 1)) x178000 x178001 x178002 x178003 x178004 x178005 x178006) else (some false))) else (sashref05_May.l0 k x3 x14 (wrap64 (x15 + 1)) x178000 x178001 x178002 x178003 x178004 x178005 x178006))))) else (if ((rd_T30 x3 x4).f0) > 1 then (if (((rd_T30 x3 x4).f3).length : Int) < 2 then (some false) else (if ((rd_T30 x3 x4).f2) = 0 then (sashref05_May.l0 k x3 x14 (wrap64 (x15 + 1)) x178000 x178001 x178002 x178003 x178004 x178005 x178006) else (some false))) else (sashref05_May.l0 k x3 x14 (wrap64 (x15 + 1)) x178000 x178001 x178002 x178003 x178004 x178005 x178006))) else (none)) else (none))
def sashref05_May.l1 : Nat → List (S30) → Int → Int → Option (Bool)
 | 0, _, _, _ => none
 | k + 1, x5, x101, x102 => if x102 < x101 then (sashref05_May.l2 k x5 x102 0 x101 x102) else (some true)
def sashref05_May.l2 : Nat → List (S30) → Int → Int → Int → Int → Option (Bool)
 | 0, _, _, _, _, _ => none
 | k + 1, x5, x6, x7, x101, x102 => if x7 < x6 then (if 0 ≤ x6 then (if x6 < (x5.length : Int) then (if 0 ≤ x7 then (if x7 < (x5.length : Int) then (if ((rd_T30 x5 x6).f2) = ((rd_T30 x5 x7).f2) then (some false) else (sashref05_May.l2 k x5 x6 (wrap64 (x7 + 1)) x101 x102)) else (none)) else (none)) else (none)) else (none)) else (sashref05_May.l1 k x5 x101 (wrap64 (x102 + 1)))
end
def sashref05_May.f (k : Nat) (a0_0 : Int) (a0_1 : Int) (a0_2 : Int) (a0_3 : Int) (a0_4 : Int) (a0_5 : Int) (l0_6 : List (S30)) : Option (Bool) := (sashref05_All.f k a0_0 a0_1 a0_2 a0_3 a0_4 a0_5 l0_6).bind fun t178 => (if (t178.length : Int) > 20000 then (some false) else (sashref05_May.l0 k t178 (t178.length : Int) 0 a0_0 a0_1 a0_2 a0_3 a0_4 a0_5 l0_6))
set_option maxHeartbeats 8000000 in
set_option maxRecDepth 100000 in
theorem sashref05_May.calls (k : Nat) (a0_0 : Int) (a0_1 : Int) (a0_2 : Int) (a0_3 : Int) (a0_4 : Int) (a0_5 : Int) (A0_6 : Option Addr) (c0_6 : Nat) (l0_6 : List (S30)) (r : Bool) (w : World) (hr0_6 : Kd.C k30 w A0_6 l0_6.length l0_6) (hc0_6 : l0_6.length ≤ c0_6) (h : sashref05_May.f k a0_0 a0_1 a0_2 a0_3 a0_4 a0_5 l0_6 = some r) :
  Calls Tryz.prog 31 #[.agg #[.int .u8 a0_0, .int .i64 a0_1, .int .i64 a0_2, .int .i64 a0_3, .int .i64 a0_4, .int .i64 a0_5, .slice A0_6 l0_6.length c0_6]] w fun e w' => e = .returned (.bool r) ∧ Below w.heap.size w w' := by
 have hu30 := Tryz.underlying30
 have hu28 := Tryz.underlying28
 have HR0_6 := Aside0.mk hr0_6
 have HC0_6 := Aside0.mk hc0_6
 clear hr0_6 hc0_6
 have HB := Aside0.mk (Below.refl w.heap.size w)
 have H : ((sashref05_All.f k a0_0 a0_1 a0_2 a0_3 a0_4 a0_5 l0_6).bind fun t178 => (if (t178.length : Int) > 20000 then (some false) else (sashref05_May.l0 k t178 (t178.length : Int) 0 a0_0 a0_1 a0_2 a0_3 a0_4 a0_5 l0_6))) = some r := h
 clear h
 replace H := Option.bind_eq_some_iff.mp H
 obtain ⟨t178, A20, H⟩ := H
 replace H : (if (t178.length : Int) > 20000 then (some false) else (sashref05_May.l0 k t178 (t178.length : Int) 0 a0_0 a0_1 a0_2 a0_3 a0_4 a0_5 l0_6)) = some r := H
 have A2 := Aside0.mk A20
 clear A20
 by_cases c3 : (t178.length : Int) > 20000
 ·rw [if_pos c3] at H
  have c3b0 : decide (20000 < (t178.length : Int)) = true := decide_eq_true c3
  have c3b1 : decide (20000 < t178.length) = true := decide_eq_true (by omega)
  clear c3
  obtain rfl := Option.some.inj H
  go_enter Tryz.func31, Tryz.ntmps31
  go_wp2_with (first | ((with_reducible refine gate_dst (N := 1) rfl ?_); (try (refine gate_guard (by rfl) ?_; dsimp only)); refine box_event ?hg (N := 1) ?hd (cs := #[.int .u8 a0_0, .int .i64 a0_1, .int .i64 a0_2, .int .i64 a0_3, .int .i64 a0_4, .int .i64 a0_5, .slice A0_6 l0_6.length c0_6]) (t := 30) ?hr ?_; (case hd => rfl); (case hg => rfl); (case hr => first | (go_simp; done) | (go_simp; rfl)); intro gb177 hg w4 hbox hb; have n0_ := Aside0.mk (below_step (by repeat (first | (with_reducible first | exact HB.out | apply below_alloc | apply pw_below_drewN | apply below_drew1) | exact HB.out)) hb); have n1_ := Aside0.mk (hbox); have n2_ := Aside0.mk ((by rw [hg]; exact (below_size (by repeat (first | (with_reducible first | exact HB.out | apply below_alloc | apply pw_below_drewN | apply below_drew1) | exact HB.out))) : w.heap.size ≤ gb177)); have n3_ := Aside0.mk ((by rw [hg]; exact (below_size (by repeat (first | (with_reducible first | exact HB.out | apply below_alloc | apply pw_below_drewN | apply below_drew1) | exact HB.out))) : w.heap.size ≤ gb177)); clear HB; have HB := n0_; have BK177 := n1_; have GW177 := n2_; have GE177 := n3_; clear n0_ n1_ n2_ n3_; clear hb hbox hg; have hcz5_0 : w4.cell? ⟨gb177, 0, none⟩ = some (.int .u8 a0_0) := (blk_cell BK177.out 0).trans rfl; have hcz5_1 : w4.cell? ⟨gb177, 1, none⟩ = some (.int .i64 a0_1) := (blk_cell BK177.out 1).trans rfl; have hcz5_2 : w4.cell? ⟨gb177, 2, none⟩ = some (.int .i64 a0_2) := (blk_cell BK177.out 2).trans rfl; have hcz5_3 : w4.cell? ⟨gb177, 3, none⟩ = some (.int .i64 a0_3) := (blk_cell BK177.out 3).trans rfl; have hcz5_4 : w4.cell? ⟨gb177, 4, none⟩ = some (.int .i64 a0_4) := (blk_cell BK177.out 4).trans rfl; have hcz5_5 : w4.cell? ⟨gb177, 5, none⟩ = some (.int .i64 a0_5) := (blk_cell BK177.out 5).trans rfl; have hcz5_6 : w4.cell? ⟨gb177, 6, none⟩ = some (.slice A0_6 l0_6.length c0_6) := (blk_cell BK177.out 6).trans rfl; have hfz5_0 := blk_frozen BK177.out 0; have hfz5_1 := blk_frozen BK177.out 1; have hfz5_2 := blk_frozen BK177.out 2; have hfz5_3 := blk_frozen BK177.out 3; have hfz5_4 := blk_frozen BK177.out 4; have hfz5_5 := blk_frozen BK177.out 5; have hfz5_6 := blk_frozen BK177.out 6) | (go_at_call 32; (with_reducible refine (sashref05_All.calls k a0_0 a0_1 a0_2 a0_3 a0_4 a0_5 (fun k_ => k_ < w.heap.size) _ _ l0_6 t178 _ ?side1 A2.out).mono ?_); (case side1 => exact Kd.V_mk HC0_6.out (Kd.F_below (Kd.C_F k30_heap HR0_6.out) (by repeat (first | (with_reducible first | exact HB.out | apply below_alloc | apply pw_below_drewN | apply below_drew1 | refine below_set ?_ GE177.out) | exact HB.out)))); rintro e w6 ⟨v179, rfl, ho0, hb⟩; have n0_ := Aside0.mk (Kd.N_lower (Kd.N_mono (ok' := fun k_ => k_ ≠ gb177) ho0 (fun k_ hk_ => Or.elim hk_ (fun hs_ => fun e_ => Nat.not_le.2 hs_ (by rw [e_]; exact GW177.out)) (fun hn_ => (Kd.freshB (g := gb177) (o := .cells #[.int .u8 a0_0, .int .i64 a0_1, .int .i64 a0_2, .int .i64 a0_3, .int .i64 a0_4, .int .i64 a0_5, .slice A0_6 l0_6.length c0_6] 30 (0, 0)) (by (with_reducible repeat (first | refine blk_drewN ?_ _ | refine blk_drew ?_ | refine blk_alloc ?_ _)); exact BK177.out) k_ hn_)))) (below_size (by repeat (first | (with_reducible first | exact HB.out | apply below_alloc | apply pw_below_drewN | apply below_drew1 | refine below_set ?_ GE177.out) | exact HB.out)))); have n1_ := Aside0.mk (blk_below (g := gb177) (o := .cells #[.int .u8 a0_0, .int .i64 a0_1, .int .i64 a0_2, .int .i64 a0_3, .int .i64 a0_4, .int .i64 a0_5, .slice A0_6 l0_6.length c0_6] 30 (0, 0)) (by (with_reducible repeat (first | refine blk_drewN ?_ _ | refine blk_drew ?_ | refine blk_alloc ?_ _)); exact BK177.out) hb); have n2_ := Aside0.mk (below_step (by repeat (first | (with_reducible first | exact HB.out | apply below_alloc | apply pw_below_drewN | apply below_drew1 | refine below_set ?_ GE177.out) | exact HB.out)) hb); clear BK177; clear HB; have HO180 := n0_; have BK177 := n1_; have HB := n2_; clear n0_ n1_ n2_; (try clear hb); (try clear hb2); (try clear hk); (try clear hi); (try clear ho0); obtain ⟨Ao7, co7, eo7⟩ := Kd.N_slice HO180.out; subst eo7))
  go_ret
  exact ⟨by first | rfl | (simp [errW_none, errW_some] <;> rfl) | (simp [*, errW_none, errW_some] <;> rfl), by repeat (first | (with_reducible first | exact HB.out | apply below_alloc | apply pw_below_drewN | apply below_drew1 | refine below_set ?_ GE177.out) | exact HB.out)⟩
 ·rw [if_neg c3] at H
  have c3b0 : decide (20000 < (t178.length : Int)) = false := decide_eq_false c3
  have c3b1 : decide (20000 < t178.length) = false := decide_eq_false (by omega)
  clear c3
  have H' := Aside0.mk H
  clear H
  go_enter Tryz.func31, Tryz.ntmps31
  go_wp2_with (first | ((with_reducible refine gate_dst (N := 1) rfl ?_); (try (refine gate_guard (by rfl) ?_; dsimp only)); refine box_event ?hg (N := 1) ?hd (cs := #[.int .u8 a0_0, .int .i64 a0_1, .int .i64 a0_2, .int .i64 a0_3, .int .i64 a0_4, .int .i64 a0_5, .slice A0_6 l0_6.length c0_6]) (t := 30) ?hr ?_; (case hd => rfl); (case hg => rfl); (case hr => first | (go_simp; done) | (go_simp; rfl)); intro gb177 hg w8 hbox hb; have n0_ := Aside0.mk (below_step (by repeat (first | (with_reducible first | exact HB.out | apply below_alloc | apply pw_below_drewN | apply below_drew1) | exact HB.out)) hb); have n1_ := Aside0.mk (hbox); have n2_ := Aside0.mk ((by rw [hg]; exact (below_size (by repeat (first | (with_reducible first | exact HB.out | apply below_alloc | apply pw_below_drewN | apply below_drew1) | exact HB.out))) : w.heap.size ≤ gb177)); have n3_ := Aside0.mk ((by rw [hg]; exact (below_size (by repeat (first | (with_reducible first | exact HB.out | apply below_alloc | apply pw_below_drewN | apply below_drew1) | exact HB.out))) : w.heap.size ≤ gb177)); clear HB; have HB := n0_; have BK177 := n1_; have GW177 := n2_; have GE177 := n3_; clear n0_ n1_ n2_ n3_; clear hb hbox hg; have hcz9_0 : w8.cell? ⟨gb177, 0, none⟩ = some (.int .u8 a0_0) := (blk_cell BK177.out 0).trans rfl; have hcz9_1 : w8.cell? ⟨gb177, 1, none⟩ = some (.int .i64 a0_1) := (blk_cell BK177.out 1).trans rfl; have hcz9_2 : w8.cell? ⟨gb177, 2, none⟩ = some (.int .i64 a0_2) := (blk_cell BK177.out 2).trans rfl; have hcz9_3 : w8.cell? ⟨gb177, 3, none⟩ = some (.int .i64 a0_3) := (blk_cell BK177.out 3).trans rfl; have hcz9_4 : w8.cell? ⟨gb177, 4, none⟩ = some (.int .i64 a0_4) := (blk_cell BK177.out 4).trans rfl; have hcz9_5 : w8.cell? ⟨gb177, 5, none⟩ = some (.int .i64 a0_5) := (blk_cell BK177.out 5).trans rfl; have hcz9_6 : w8.cell? ⟨gb177, 6, none⟩ = some (.slice A0_6 l0_6.length c0_6) := (blk_cell BK177.out 6).trans rfl; have hfz9_0 := blk_frozen BK177.out 0; have hfz9_1 := blk_frozen BK177.out 1; have hfz9_2 := blk_frozen BK177.out 2; have hfz9_3 := blk_frozen BK177.out 3; have hfz9_4 := blk_frozen BK177.out 4; have hfz9_5 := blk_frozen BK177.out 5; have hfz9_6 := blk_frozen BK177.out 6) | (go_at_call 32; (with_reducible refine (sashref05_All.calls k a0_0 a0_1 a0_2 a0_3 a0_4 a0_5 (fun k_ => k_ < w.heap.size) _ _ l0_6 t178 _ ?side1 A2.out).mono ?_); (case side1 => exact Kd.V_mk HC0_6.out (Kd.F_below (Kd.C_F k30_heap HR0_6.out) (by repeat (first | (with_reducible first | exact HB.out | apply below_alloc | apply pw_below_drewN | apply below_drew1 | refine below_set ?_ GE177.out) | exact HB.out)))); rintro e w10 ⟨v179, rfl, ho0, hb⟩; have n0_ := Aside0.mk (Kd.N_lower (Kd.N_mono (ok' := fun k_ => k_ ≠ gb177) ho0 (fun k_ hk_ => Or.elim hk_ (fun hs_ => fun e_ => Nat.not_le.2 hs_ (by rw [e_]; exact GW177.out)) (fun hn_ => (Kd.freshB (g := gb177) (o := .cells #[.int .u8 a0_0, .int .i64 a0_1, .int .i64 a0_2, .int .i64 a0_3, .int .i64 a0_4, .int .i64 a0_5, .slice A0_6 l0_6.length c0_6] 30 (0, 0)) (by (with_reducible repeat (first | refine blk_drewN ?_ _ | refine blk_drew ?_ | refine blk_alloc ?_ _)); exact BK177.out) k_ hn_)))) (below_size (by repeat (first | (with_reducible first | exact HB.out | apply below_alloc | apply pw_below_drewN | apply below_drew1 | refine below_set ?_ GE177.out) | exact HB.out)))); have n1_ := Aside0.mk (blk_below (g := gb177) (o := .cells #[.int .u8 a0_0, .int .i64 a0_1, .int .i64 a0_2, .int .i64 a0_3, .int .i64 a0_4, .int .i64 a0_5, .slice A0_6 l0_6.length c0_6] 30 (0, 0)) (by (with_reducible repeat (first | refine blk_drewN ?_ _ | refine blk_drew ?_ | refine blk_alloc ?_ _)); exact BK177.out) hb); have n2_ := Aside0.mk (below_step (by repeat (first | (with_reducible first | exact HB.out | apply below_alloc | apply pw_below_drewN | apply below_drew1 | refine below_set ?_ GE177.out) | exact HB.out)) hb); clear BK177; clear HB; have HO180 := n0_; have BK177 := n1_; have HB := n2_; clear n0_ n1_ n2_; (try clear hb); (try clear hb2); (try clear hk); (try clear hi); (try clear ho0); obtain ⟨Ao11, co11, eo11⟩ := Kd.N_slice HO180.out; subst eo11))
  go_loopg [15] k (fun kq v15 w' => ∃ (x15_1 : Int), v15 = .int .i64 x15_1 ∧ Aside0 (sashref05_May.l0 kq t178 (t178.length : Int) x15_1 a0_0 a0_1 a0_2 a0_3 a0_4 a0_5 l0_6 = some r) ∧ Aside0 (kq ≤ k) ∧ Aside0 (Kd.N k30 30 w' w.heap.size (fun k_ => k_ ≠ gb177) (.slice Ao11 t178.length co11) t178) ∧ Aside0 (w'.heap[gb177]? = some (.cells #[.int .u8 a0_0, .int .i64 a0_1, .int .i64 a0_2, .int .i64 a0_3, .int .i64 a0_4, .int .i64 a0_5, (.slice A0_6 l0_6.length c0_6)] 30 (0, 0))) ∧ Aside0 (Below w.heap.size w w'))
  case atStart => exact ⟨(0), (by first | rfl | (simp; done) | (simp [*]; done)), H', ⟨Nat.le_refl _⟩, ⟨by (with_reducible repeat (first | apply Kd.N_alloc | apply Kd.N_drewN | apply Kd.N_drew)); exact HO180.out⟩, ⟨by (with_reducible repeat (first | refine blk_drewN ?_ _ | refine blk_drew ?_ | refine blk_alloc ?_ _)); exact BK177.out⟩, ⟨by repeat (first | (with_reducible first | exact HB.out | apply below_alloc | apply pw_below_drewN | apply below_drew1 | refine below_set ?_ GE177.out) | exact HB.out)⟩⟩
  case round =>
   clear H'
   try clear p2
   try clear c3
   try clear c3b0
   try clear c3b1
   try clear hcz5_0
   try clear hcz5_1
   try clear hcz5_2
   try clear hcz5_3
   try clear hcz5_4
   try clear hcz5_5
   try clear hcz5_6
   try clear hcz9_0
   try clear hcz9_1
   try clear hcz9_2
   try clear hcz9_3
   try clear hcz9_4
   try clear hcz9_5
   try clear hcz9_6
   try clear hfz5_0
   try clear hfz5_1
   try clear hfz5_2
   try clear hfz5_3
   try clear hfz5_4
   try clear hfz5_5
   try clear hfz5_6
   try clear hfz9_0
   try clear hfz9_1
   try clear hfz9_2
   try clear hfz9_3
   try clear hfz9_4
   try clear hfz9_5
   try clear hfz9_6
   obtain ⟨x15_1, rfl, HA, HK1, HO_3, BK177, HB⟩ := hrel
   cases gk with
   | zero => exact absurd HA.out (by simp [sashref05_May.l0])
   | succ k1 =>
    have H := HA.out
    clear HA
    simp only [sashref05_May.l0] at H
    by_cases c12 : x15_1 < (t178.length : Int)
    ·rw [if_pos c12] at H
     have c12b0 : decide (x15_1 < (t178.length : Int)) = true := decide_eq_true c12
     clear c12
     have HC13 := Aside0.mk H
     clear H
     go_upto_region 7 with (fail)
     go_cut [40] (fun v40 wc => ∃ (kq : Nat) (x40_12 : Bool), v40 = .bool x40_12 ∧ Aside0 (sashref05_May.j1 kq t178 x15_1 (t178.length : Int) x15_1 x40_12 a0_0 a0_1 a0_2 a0_3 a0_4 a0_5 l0_6 = some r) ∧ Aside0 (kq ≤ k1) ∧ Aside0 (Kd.N k30 30 wc w.heap.size (fun k_ => k_ ≠ gb177) (.slice Ao11 t178.length co11) t178) ∧ Aside0 (wc.heap[gb177]? = some (.cells #[.int .u8 a0_0, .int .i64 a0_1, .int .i64 a0_2, .int .i64 a0_3, .int .i64 a0_4, .int .i64 a0_5, (.slice A0_6 l0_6.length c0_6)] 30 (0, 0))) ∧ Aside0 (Below w.heap.size w wc))
     case first =>
      have H := HC13.out
      clear HC13
      by_cases c14 : 0 ≤ x15_1
      ·rw [if_pos c14] at H
       have c14b0 : decide (0 ≤ x15_1) = true := decide_eq_true c14
       clear c14
       (first | rw [c14b0] | (simp only [i64_w, i32_w]; rw [c14b0]) | skip)
       by_cases c15 : x15_1 < (t178.length : Int)
       ·rw [if_pos c15] at H
        have c15b0 : decide (x15_1 < (t178.length : Int)) = true := decide_eq_true c15
        clear c15
        replace H := Option.bind_eq_some_iff.mp H
        obtain ⟨t182, A160, H⟩ := H
        replace H : (if t182 = true then (if ((rd_T30 t178 x15_1).f0) < 1 then (sashref05_May.j1 k1 t178 x15_1 (t178.length : Int) x15_1 true a0_0 a0_1 a0_2 a0_3 a0_4 a0_5 l0_6) else (sashref05_May.j1 k1 t178 x15_1 (t178.length : Int) x15_1 (decide (((rd_T30 t178 x15_1).f0) > 3)) a0_0 a0_1 a0_2 a0_3 a0_4 a0_5 l0_6)) else (sashref05_May.j1 k1 t178 x15_1 (t178.length : Int) x15_1 true a0_0 a0_1 a0_2 a0_3 a0_4 a0_5 l0_6)) = some r := H
        have A16 := Aside0.mk A160
        clear A160
        by_cases c17 : t182 = true
        ·subst c17
         have H1 : (if ((rd_T30 t178 x15_1).f0) < 1 then (sashref05_May.j1 k1 t178 x15_1 (t178.length : Int) x15_1 true a0_0 a0_1 a0_2 a0_3 a0_4 a0_5 l0_6) else (sashref05_May.j1 k1 t178 x15_1 (t178.length : Int) x15_1 (decide (((rd_T30 t178 x15_1).f0) > 3)) a0_0 a0_1 a0_2 a0_3 a0_4 a0_5 l0_6)) = some r := by rw [if_pos rfl] at H; exact H
         clear H
         have H := H1
         clear H1
         by_cases c18 : ((rd_T30 t178 x15_1).f0) < 1
         ·rw [if_pos c18] at H
          have c18b0 : decide (((rd_T30 t178 x15_1).f0) < 1) = true := decide_eq_true c18
          clear c18
          have H' := Aside0.mk H
          clear H
          have p181 : 0 ≤ (x15_1 : Int) := of_decide_eq_true (by first | (with_reducible assumption) | assumption)
          have q181 : x15_1 < (t178.length : Int) := of_decide_eq_true (by first | (with_reducible assumption) | assumption)
          obtain ⟨ad181, A181_6, c181_6, e181, hx181_0, hx181_1, hx181_2, hx181_3, hx181_4, hx181_5, hx181_6, hl181_6, hi181_6⟩ := at_T30 (Kd.N_reads' HO_3.out).2.2 x15_1 p181 q181
          cases e181
          obtain ⟨ce181, hce181, hMe181, hcc181⟩ := Kd.N_get HO_3.out z30 x15_1 p181 (by first | exact q181 | exact of_decide_eq_true (by first | (with_reducible assumption) | assumption) | (have e_ := (Kd.N_reads' HO_3.out).1; omega))
          obtain ⟨ua181_6, uc181_6, rfl, ul181_6, ge181_6⟩ := k30_openF hMe181
          have hv181_6 := hcc181 6 _ rfl
          rw [add_field _ _ 6 (by omega)] at hv181_6
          replace hv181_6 := Option.some.inj (hv181_6.symm.trans hx181_6)
          injection hv181_6 with hva_ hvn_ hvc_
          rw [hva_] at ge181_6
          rw [hvc_] at ul181_6
          have HL181_6 := Aside0.mk (show Kd.V k30 30 _ w.heap.size _ _ ((rd_T30 t178 x15_1).f3) from Kd.V_mk ul181_6 ge181_6)
          clear hva_ hvn_ hvc_ ge181_6 ul181_6
          clear hcc181 hce181
          have HR181_6 := Aside0.mk hi181_6
          have HC181_6 := Aside0.mk hl181_6
          clear hi181_6 hl181_6
          replace p181 := eq_true p181
          replace q181 := eq_true q181
          go_wp2_with (first | (go_at_call 44; (with_reducible refine (sashref04_May.calls ((rd_T30 t178 x15_1).f1.f0) ((rd_T30 t178 x15_1).f1.f1) ((rd_T30 t178 x15_1).f1.f2) ((rd_T30 t178 x15_1).f1.f3) true _ A16.out).mono ?_); rintro e w19 ⟨rfl, hb⟩; have n0_ := Aside0.mk (Kd.N_below (by (with_reducible repeat (first | apply Kd.N_alloc | apply Kd.N_drewN | apply Kd.N_drew)); exact HO_3.out) hb); have n1_ := Aside0.mk (Kd.V_below (by (with_reducible repeat (first | apply Kd.V_alloc | apply Kd.V_drewN | apply Kd.V_drew)); exact HL181_6.out) hb); have n2_ := Aside0.mk (blk_below (g := gb177) (o := .cells #[.int .u8 a0_0, .int .i64 a0_1, .int .i64 a0_2, .int .i64 a0_3, .int .i64 a0_4, .int .i64 a0_5, .slice A0_6 l0_6.length c0_6] 30 (0, 0)) (by (with_reducible repeat (first | refine blk_drewN ?_ _ | refine blk_drew ?_ | refine blk_alloc ?_ _)); exact BK177.out) hb); have n3_ := Aside0.mk (Kd.C_below (by repeat (first | (with_reducible exact HR181_6.out) | (with_reducible refine Kd.C_alloc ?_ _) | (with_reducible refine Kd.C_drewN ?_ _) | (with_reducible refine Kd.C_drew ?_) | exact HR181_6.out)) hb); have n4_ := Aside0.mk (below_step (by repeat (first | (with_reducible first | exact HB.out | apply below_alloc | apply pw_below_drewN | apply below_drew1 | refine below_set ?_ GE177.out) | exact HB.out)) hb); clear HO_3; clear HL181_6; clear BK177; clear HR181_6; clear HB; have HO_3 := n0_; have HL181_6 := n1_; have BK177 := n2_; have HR181_6 := n3_; have HB := n4_; clear n0_ n1_ n2_ n3_ n4_; (try clear hb); (try clear hb2); (try clear hk); (try clear hi); have p183 : 0 ≤ (x15_1 : Int) := of_decide_eq_true (by first | (with_reducible assumption) | assumption); have q183 : x15_1 < (t178.length : Int) := of_decide_eq_true (by first | (with_reducible assumption) | assumption); obtain ⟨ad183, A183_6, c183_6, e183, hx183_0, hx183_1, hx183_2, hx183_3, hx183_4, hx183_5, hx183_6, hl183_6, hi183_6⟩ := at_T30 (Kd.N_reads' HO_3.out).2.2 x15_1 p183 q183; obtain rfl : ad181 = ad183 := (by injection e183); obtain ⟨ce183, hce183, hMe183, hcc183⟩ := Kd.N_get HO_3.out z30 x15_1 p183 (by first | exact q183 | exact of_decide_eq_true (by first | (with_reducible assumption) | assumption) | (have e_ := (Kd.N_reads' HO_3.out).1; omega)); obtain ⟨ua183_6, uc183_6, rfl, ul183_6, ge183_6⟩ := k30_openF hMe183; have hv183_6 := hcc183 6 _ rfl; rw [add_field _ _ 6 (by omega)] at hv183_6; replace hv183_6 := Option.some.inj (hv183_6.symm.trans hx183_6); injection hv183_6 with hva_ hvn_ hvc_; rw [hva_] at ge183_6; rw [hvc_] at ul183_6; have HL183_6 := Aside0.mk (show Kd.V k30 30 _ w.heap.size _ _ ((rd_T30 t178 x15_1).f3) from Kd.V_mk ul183_6 ge183_6); clear hva_ hvn_ hvc_ ge183_6 ul183_6; clear hcc183 hce183; have HR183_6 := Aside0.mk hi183_6; have HC183_6 := Aside0.mk hl183_6; clear hi183_6 hl183_6; replace p183 := eq_true p183; replace q183 := eq_true q183))
          go_meet
          case rel => exact ⟨_, (true), (by first | rfl | (simp; done) | (simp [*]; done)), H', ⟨by have := HK1.out; first | omega | exact Nat.le_refl _⟩, ⟨by (with_reducible repeat (first | apply Kd.N_alloc | apply Kd.N_drewN | apply Kd.N_drew)); exact HO_3.out⟩, ⟨by (with_reducible repeat (first | refine blk_drewN ?_ _ | refine blk_drew ?_ | refine blk_alloc ?_ _)); exact BK177.out⟩, ⟨by repeat (first | (with_reducible first | exact HB.out | apply below_alloc | apply pw_below_drewN | apply below_drew1 | refine below_set ?_ GE177.out) | exact HB.out)⟩⟩
         ·rw [if_neg c18] at H
          have c18b0 : decide (((rd_T30 t178 x15_1).f0) < 1) = false := decide_eq_false c18
          clear c18
          have H' := Aside0.mk H
          clear H
          have p181 : 0 ≤ (x15_1 : Int) := of_decide_eq_true (by first | (with_reducible assumption) | assumption)
          have q181 : x15_1 < (t178.length : Int) := of_decide_eq_true (by first | (with_reducible assumption) | assumption)
          obtain ⟨ad181, A181_6, c181_6, e181, hx181_0, hx181_1, hx181_2, hx181_3, hx181_4, hx181_5, hx181_6, hl181_6, hi181_6⟩ := at_T30 (Kd.N_reads' HO_3.out).2.2 x15_1 p181 q181
          cases e181
          obtain ⟨ce181, hce181, hMe181, hcc181⟩ := Kd.N_get HO_3.out z30 x15_1 p181 (by first | exact q181 | exact of_decide_eq_true (by first | (with_reducible assumption) | assumption) | (have e_ := (Kd.N_reads' HO_3.out).1; omega))
          obtain ⟨ua181_6, uc181_6, rfl, ul181_6, ge181_6⟩ := k30_openF hMe181
          have hv181_6 := hcc181 6 _ rfl
          rw [add_field _ _ 6 (by omega)] at hv181_6
          replace hv181_6 := Option.some.inj (hv181_6.symm.trans hx181_6)
          injection hv181_6 with hva_ hvn_ hvc_
          rw [hva_] at ge181_6
          rw [hvc_] at ul181_6
          have HL181_6 := Aside0.mk (show Kd.V k30 30 _ w.heap.size _ _ ((rd_T30 t178 x15_1).f3) from Kd.V_mk ul181_6 ge181_6)
          clear hva_ hvn_ hvc_ ge181_6 ul181_6
          clear hcc181 hce181
          have HR181_6 := Aside0.mk hi181_6
          have HC181_6 := Aside0.mk hl181_6
          clear hi181_6 hl181_6
          replace p181 := eq_true p181
          replace q181 := eq_true q181
          go_wp2_with (first | (go_at_call 44; (with_reducible refine (sashref04_May.calls ((rd_T30 t178 x15_1).f1.f0) ((rd_T30 t178 x15_1).f1.f1) ((rd_T30 t178 x15_1).f1.f2) ((rd_T30 t178 x15_1).f1.f3) true _ A16.out).mono ?_); rintro e w20 ⟨rfl, hb⟩; have n0_ := Aside0.mk (Kd.N_below (by (with_reducible repeat (first | apply Kd.N_alloc | apply Kd.N_drewN | apply Kd.N_drew)); exact HO_3.out) hb); have n1_ := Aside0.mk (Kd.V_below (by (with_reducible repeat (first | apply Kd.V_alloc | apply Kd.V_drewN | apply Kd.V_drew)); exact HL181_6.out) hb); have n2_ := Aside0.mk (blk_below (g := gb177) (o := .cells #[.int .u8 a0_0, .int .i64 a0_1, .int .i64 a0_2, .int .i64 a0_3, .int .i64 a0_4, .int .i64 a0_5, .slice A0_6 l0_6.length c0_6] 30 (0, 0)) (by (with_reducible repeat (first | refine blk_drewN ?_ _ | refine blk_drew ?_ | refine blk_alloc ?_ _)); exact BK177.out) hb); have n3_ := Aside0.mk (Kd.C_below (by repeat (first | (with_reducible exact HR181_6.out) | (with_reducible refine Kd.C_alloc ?_ _) | (with_reducible refine Kd.C_drewN ?_ _) | (with_reducible refine Kd.C_drew ?_) | exact HR181_6.out)) hb); have n4_ := Aside0.mk (below_step (by repeat (first | (with_reducible first | exact HB.out | apply below_alloc | apply pw_below_drewN | apply below_drew1 | refine below_set ?_ GE177.out) | exact HB.out)) hb); clear HO_3; clear HL181_6; clear BK177; clear HR181_6; clear HB; have HO_3 := n0_; have HL181_6 := n1_; have BK177 := n2_; have HR181_6 := n3_; have HB := n4_; clear n0_ n1_ n2_ n3_ n4_; (try clear hb); (try clear hb2); (try clear hk); (try clear hi); have p183 : 0 ≤ (x15_1 : Int) := of_decide_eq_true (by first | (with_reducible assumption) | assumption); have q183 : x15_1 < (t178.length : Int) := of_decide_eq_true (by first | (with_reducible assumption) | assumption); obtain ⟨ad183, A183_6, c183_6, e183, hx183_0, hx183_1, hx183_2, hx183_3, hx183_4, hx183_5, hx183_6, hl183_6, hi183_6⟩ := at_T30 (Kd.N_reads' HO_3.out).2.2 x15_1 p183 q183; obtain rfl : ad181 = ad183 := (by injection e183); obtain ⟨ce183, hce183, hMe183, hcc183⟩ := Kd.N_get HO_3.out z30 x15_1 p183 (by first | exact q183 | exact of_decide_eq_true (by first | (with_reducible assumption) | assumption) | (have e_ := (Kd.N_reads' HO_3.out).1; omega)); obtain ⟨ua183_6, uc183_6, rfl, ul183_6, ge183_6⟩ := k30_openF hMe183; have hv183_6 := hcc183 6 _ rfl; rw [add_field _ _ 6 (by omega)] at hv183_6; replace hv183_6 := Option.some.inj (hv183_6.symm.trans hx183_6); injection hv183_6 with hva_ hvn_ hvc_; rw [hva_] at ge183_6; rw [hvc_] at ul183_6; have HL183_6 := Aside0.mk (show Kd.V k30 30 _ w.heap.size _ _ ((rd_T30 t178 x15_1).f3) from Kd.V_mk ul183_6 ge183_6); clear hva_ hvn_ hvc_ ge183_6 ul183_6; clear hcc183 hce183; have HR183_6 := Aside0.mk hi183_6; have HC183_6 := Aside0.mk hl183_6; clear hi183_6 hl183_6; replace p183 := eq_true p183; replace q183 := eq_true q183; have p184 : 0 ≤ (x15_1 : Int) := of_decide_eq_true (by first | (with_reducible assumption) | assumption); have q184 : x15_1 < (t178.length : Int) := of_decide_eq_true (by first | (with_reducible assumption) | assumption); obtain ⟨ad184, A184_6, c184_6, e184, hx184_0, hx184_1, hx184_2, hx184_3, hx184_4, hx184_5, hx184_6, hl184_6, hi184_6⟩ := at_T30 (Kd.N_reads' HO_3.out).2.2 x15_1 p184 q184; obtain rfl : ad181 = ad184 := (by injection e184); obtain ⟨ce184, hce184, hMe184, hcc184⟩ := Kd.N_get HO_3.out z30 x15_1 p184 (by first | exact q184 | exact of_decide_eq_true (by first | (with_reducible assumption) | assumption) | (have e_ := (Kd.N_reads' HO_3.out).1; omega)); obtain ⟨ua184_6, uc184_6, rfl, ul184_6, ge184_6⟩ := k30_openF hMe184; have hv184_6 := hcc184 6 _ rfl; rw [add_field _ _ 6 (by omega)] at hv184_6; replace hv184_6 := Option.some.inj (hv184_6.symm.trans hx184_6); injection hv184_6 with hva_ hvn_ hvc_; rw [hva_] at ge184_6; rw [hvc_] at ul184_6; have HL184_6 := Aside0.mk (show Kd.V k30 30 _ w.heap.size _ _ ((rd_T30 t178 x15_1).f3) from Kd.V_mk ul184_6 ge184_6); clear hva_ hvn_ hvc_ ge184_6 ul184_6; clear hcc184 hce184; have HR184_6 := Aside0.mk hi184_6; have HC184_6 := Aside0.mk hl184_6; clear hi184_6 hl184_6; replace p184 := eq_true p184; replace q184 := eq_true q184; have ea_ := Option.some.inj (hx183_6.symm.trans hx184_6); injection ea_ with ea_ en_ ec_; subst ea_; subst ec_; clear en_))
          go_meet
          case rel => exact ⟨_, (decide (((rd_T30 t178 x15_1).f0) > 3)), (by first | rfl | (simp; done) | (simp [*]; done)), H', ⟨by have := HK1.out; first | omega | exact Nat.le_refl _⟩, ⟨by (with_reducible repeat (first | apply Kd.N_alloc | apply Kd.N_drewN | apply Kd.N_drew)); exact HO_3.out⟩, ⟨by (with_reducible repeat (first | refine blk_drewN ?_ _ | refine blk_drew ?_ | refine blk_alloc ?_ _)); exact BK177.out⟩, ⟨by repeat (first | (with_reducible first | exact HB.out | apply below_alloc | apply pw_below_drewN | apply below_drew1 | refine below_set ?_ GE177.out) | exact HB.out)⟩⟩
        ·replace c17 := Bool.eq_false_iff.mpr c17
         subst c17
         have H1 : (sashref05_May.j1 k1 t178 x15_1 (t178.length : Int) x15_1 true a0_0 a0_1 a0_2 a0_3 a0_4 a0_5 l0_6) = some r := by rw [if_neg (show ¬ (false = true) by decide)] at H; exact H
         clear H
         have H := H1
         clear H1
         have H' := Aside0.mk H
         clear H
         have p181 : 0 ≤ (x15_1 : Int) := of_decide_eq_true (by first | (with_reducible assumption) | assumption)
         have q181 : x15_1 < (t178.length : Int) := of_decide_eq_true (by first | (with_reducible assumption) | assumption)
         obtain ⟨ad181, A181_6, c181_6, e181, hx181_0, hx181_1, hx181_2, hx181_3, hx181_4, hx181_5, hx181_6, hl181_6, hi181_6⟩ := at_T30 (Kd.N_reads' HO_3.out).2.2 x15_1 p181 q181
         cases e181
         obtain ⟨ce181, hce181, hMe181, hcc181⟩ := Kd.N_get HO_3.out z30 x15_1 p181 (by first | exact q181 | exact of_decide_eq_true (by first | (with_reducible assumption) | assumption) | (have e_ := (Kd.N_reads' HO_3.out).1; omega))
         obtain ⟨ua181_6, uc181_6, rfl, ul181_6, ge181_6⟩ := k30_openF hMe181
         have hv181_6 := hcc181 6 _ rfl
         rw [add_field _ _ 6 (by omega)] at hv181_6
         replace hv181_6 := Option.some.inj (hv181_6.symm.trans hx181_6)
         injection hv181_6 with hva_ hvn_ hvc_
         rw [hva_] at ge181_6
         rw [hvc_] at ul181_6
         have HL181_6 := Aside0.mk (show Kd.V k30 30 _ w.heap.size _ _ ((rd_T30 t178 x15_1).f3) from Kd.V_mk ul181_6 ge181_6)
         clear hva_ hvn_ hvc_ ge181_6 ul181_6
         clear hcc181 hce181
         have HR181_6 := Aside0.mk hi181_6
         have HC181_6 := Aside0.mk hl181_6
         clear hi181_6 hl181_6
         replace p181 := eq_true p181
         replace q181 := eq_true q181
         go_wp2_with (first | (go_at_call 44; (with_reducible refine (sashref04_May.calls ((rd_T30 t178 x15_1).f1.f0) ((rd_T30 t178 x15_1).f1.f1) ((rd_T30 t178 x15_1).f1.f2) ((rd_T30 t178 x15_1).f1.f3) false _ A16.out).mono ?_); rintro e w21 ⟨rfl, hb⟩; have n0_ := Aside0.mk (Kd.N_below (by (with_reducible repeat (first | apply Kd.N_alloc | apply Kd.N_drewN | apply Kd.N_drew)); exact HO_3.out) hb); have n1_ := Aside0.mk (Kd.V_below (by (with_reducible repeat (first | apply Kd.V_alloc | apply Kd.V_drewN | apply Kd.V_drew)); exact HL181_6.out) hb); have n2_ := Aside0.mk (blk_below (g := gb177) (o := .cells #[.int .u8 a0_0, .int .i64 a0_1, .int .i64 a0_2, .int .i64 a0_3, .int .i64 a0_4, .int .i64 a0_5, .slice A0_6 l0_6.length c0_6] 30 (0, 0)) (by (with_reducible repeat (first | refine blk_drewN ?_ _ | refine blk_drew ?_ | refine blk_alloc ?_ _)); exact BK177.out) hb); have n3_ := Aside0.mk (Kd.C_below (by repeat (first | (with_reducible exact HR181_6.out) | (with_reducible refine Kd.C_alloc ?_ _) | (with_reducible refine Kd.C_drewN ?_ _) | (with_reducible refine Kd.C_drew ?_) | exact HR181_6.out)) hb); have n4_ := Aside0.mk (below_step (by repeat (first | (with_reducible first | exact HB.out | apply below_alloc | apply pw_below_drewN | apply below_drew1 | refine below_set ?_ GE177.out) | exact HB.out)) hb); clear HO_3; clear HL181_6; clear BK177; clear HR181_6; clear HB; have HO_3 := n0_; have HL181_6 := n1_; have BK177 := n2_; have HR181_6 := n3_; have HB := n4_; clear n0_ n1_ n2_ n3_ n4_; (try clear hb); (try clear hb2); (try clear hk); (try clear hi)))
         go_meet
         case rel => exact ⟨_, (true), (by first | rfl | (simp; done) | (simp [*]; done)), H', ⟨by have := HK1.out; first | omega | exact Nat.le_refl _⟩, ⟨by (with_reducible repeat (first | apply Kd.N_alloc | apply Kd.N_drewN | apply Kd.N_drew)); exact HO_3.out⟩, ⟨by (with_reducible repeat (first | refine blk_drewN ?_ _ | refine blk_drew ?_ | refine blk_alloc ?_ _)); exact BK177.out⟩, ⟨by repeat (first | (with_reducible first | exact HB.out | apply below_alloc | apply pw_below_drewN | apply below_drew1 | refine below_set ?_ GE177.out) | exact HB.out)⟩⟩
       ·rw [if_neg c15] at H
        exact absurd H (by simp)
      ·rw [if_neg c14] at H
       exact absurd H (by simp)
     case rest =>
      clear HC13
      try clear c1
      try clear p1
      try clear q1
      try clear hx1
      try clear p2
      try clear c3
      try clear c3b0
      try clear c3b1
      try clear c12
      try clear c12b0
      try clear c14
      try clear c14b0
      try clear c15
      try clear c15b0
      try clear c17
      try clear c18
      try clear c18b0
      try clear p18
      try clear q18
      try clear hx18
      try clear hcz5_0
      try clear hcz5_1
      try clear hcz5_2
      try clear hcz5_3
      try clear hcz5_4
      try clear hcz5_5
      try clear hcz5_6
      try clear hcz9_0
      try clear hcz9_1
      try clear hcz9_2
      try clear hcz9_3
      try clear hcz9_4
      try clear hcz9_5
      try clear hcz9_6
      try clear hfz5_0
      try clear hfz5_1
      try clear hfz5_2
      try clear hfz5_3
      try clear hfz5_4
      try clear hfz5_5
      try clear hfz5_6
      try clear hfz9_0
      try clear hfz9_1
      try clear hfz9_2
      try clear hfz9_3
      try clear hfz9_4
      try clear hfz9_5
      try clear hfz9_6
      try clear hx181_0
      try clear hx181_1
      try clear hx181_2
      try clear hx181_3
      try clear hx181_4
      try clear hx181_5
      try clear hx181_6
      try clear hx183_0
      try clear hx183_1
      try clear hx183_2
      try clear hx183_3
      try clear hx183_4
      try clear hx183_5
      try clear hx183_6
      try clear hx184_0
      try clear hx184_1
      try clear hx184_2
      try clear hx184_3
      try clear hx184_4
      try clear hx184_5
      try clear hx184_6
      try clear p181
      try clear p183
      try clear p184
      try clear p2
      try clear q181
      try clear q183
      try clear q184
      obtain ⟨kq, x40_12, rfl, HA, HJ12, HO_3, BK177, HB⟩ := hcut
      cases kq with
      | zero => exact absurd HA.out (by simp [sashref05_May.j1])
      | succ kj12 =>
       have H := HA.out
       clear HA
       simp only [sashref05_May.j1] at H
       by_cases c22 : x40_12 = true
       ·subst c22
        have H1 : (some false) = some r := by rw [if_pos rfl] at H; exact H
        clear H
        have H := H1
        clear H1
        obtain rfl := Option.some.inj H
        go_wp2
        go_ret
        exact ⟨by first | rfl | (simp [errW_none, errW_some] <;> rfl) | (simp [*, errW_none, errW_some] <;> rfl), by repeat (first | (with_reducible first | exact HB.out | apply below_alloc | apply pw_below_drewN | apply below_drew1 | refine below_set ?_ GE177.out) | exact HB.out)⟩
       ·replace c22 := Bool.eq_false_iff.mpr c22
        subst c22
        have H1 : (if 0 ≤ x15_1 then (if x15_1 < (t178.length : Int) then (if ((rd_T30 t178 x15_1).f0) = 1 then (if (((rd_T30 t178 x15_1).f3).length : Int) > 0 then (some false) else (if ((rd_T30 t178 x15_1).f2) < 0 then (some false) else (if ((rd_T30 t178 x15_1).f2) > 2147483647 then (some false) else (if ((rd_T30 t178 x15_1).f0) > 1 then (if (((rd_T30 t178 x15_1).f3).length : Int) < 2 then (some false) else (if ((rd_T30 t178 x15_1).f2) = 0 then (sashref05_May.l0 kj12 t178 (t178.length : Int) (wrap64 (x15_1 + 1)) a0_0 a0_1 a0_2 a0_3 a0_4 a0_5 l0_6) else (some false))) else (sashref05_May.l0 kj12 t178 (t178.length : Int) (wrap64 (x15_1 + 1)) a0_0 a0_1 a0_2 a0_3 a0_4 a0_5 l0_6))))) else (if ((rd_T30 t178 x15_1).f0) > 1 then (if (((rd_T30 t178 x15_1).f3).length : Int) < 2 then (some false) else (if ((rd_T30 t178 x15_1).f2) = 0 then (sashref05_May.l0 kj12 t178 (t178.length : Int) (wrap64 (x15_1 + 1)) a0_0 a0_1 a0_2 a0_3 a0_4 a0_5 l0_6) else (some false))) else (sashref05_May.l0 kj12 t178 (t178.length : Int) (wrap64 (x15_1 + 1)) a0_0 a0_1 a0_2 a0_3 a0_4 a0_5 l0_6))) else (none)) else (none)) = some r := by rw [if_neg (show ¬ (false = true) by decide)] at H; exact H
        clear H
        have H := H1
        clear H1
        by_cases c23 : 0 ≤ x15_1
        ·rw [if_pos c23] at H
         have c23b0 : decide (0 ≤ x15_1) = true := decide_eq_true c23
         clear c23
         by_cases c24 : x15_1 < (t178.length : Int)
         ·rw [if_pos c24] at H
          have c24b0 : decide (x15_1 < (t178.length : Int)) = true := decide_eq_true c24
          clear c24
          by_cases c25 : ((rd_T30 t178 x15_1).f0) = 1
          ·rw [if_pos c25] at H
           have c25b0 : (((rd_T30 t178 x15_1).f0) == 1) = true := beq_iff_eq.mpr c25
           have c25b1 : (((rd_T30 t178 x15_1).f0) != 1) = false := bne_eq_false_iff_eq.mpr c25
           clear c25
           by_cases c26 : (((rd_T30 t178 x15_1).f3).length : Int) > 0
           ·rw [if_pos c26] at H
            have c26b0 : decide (0 < (((rd_T30 t178 x15_1).f3).length : Int)) = true := decide_eq_true c26
            have c26b1 : decide (0 < ((rd_T30 t178 x15_1).f3).length) = true := decide_eq_true (by omega)
            clear c26
            obtain rfl := Option.some.inj H
            have p185 : 0 ≤ (x15_1 : Int) := of_decide_eq_true (by first | (with_reducible assumption) | assumption)
            have q185 : x15_1 < (t178.length : Int) := of_decide_eq_true (by first | (with_reducible assumption) | assumption)
            obtain ⟨ad185, A185_6, c185_6, e185, hx185_0, hx185_1, hx185_2, hx185_3, hx185_4, hx185_5, hx185_6, hl185_6, hi185_6⟩ := at_T30 (Kd.N_reads' HO_3.out).2.2 x15_1 p185 q185
            cases e185
            obtain ⟨ce185, hce185, hMe185, hcc185⟩ := Kd.N_get HO_3.out z30 x15_1 p185 (by first | exact q185 | exact of_decide_eq_true (by first | (with_reducible assumption) | assumption) | (have e_ := (Kd.N_reads' HO_3.out).1; omega))
            obtain ⟨ua185_6, uc185_6, rfl, ul185_6, ge185_6⟩ := k30_openF hMe185
            have hv185_6 := hcc185 6 _ rfl
            rw [add_field _ _ 6 (by omega)] at hv185_6
            replace hv185_6 := Option.some.inj (hv185_6.symm.trans hx185_6)
            injection hv185_6 with hva_ hvn_ hvc_
            rw [hva_] at ge185_6
            rw [hvc_] at ul185_6
            have HL185_6 := Aside0.mk (show Kd.V k30 30 _ w.heap.size _ _ ((rd_T30 t178 x15_1).f3) from Kd.V_mk ul185_6 ge185_6)
            clear hva_ hvn_ hvc_ ge185_6 ul185_6
            clear hcc185 hce185
            have HR185_6 := Aside0.mk hi185_6
            have HC185_6 := Aside0.mk hl185_6
            clear hi185_6 hl185_6
            replace p185 := eq_true p185
            replace q185 := eq_true q185
            have p186 : 0 ≤ (x15_1 : Int) := of_decide_eq_true (by first | (with_reducible assumption) | assumption)
            have q186 : x15_1 < (t178.length : Int) := of_decide_eq_true (by first | (with_reducible assumption) | assumption)
            obtain ⟨ad186, A186_6, c186_6, e186, hx186_0, hx186_1, hx186_2, hx186_3, hx186_4, hx186_5, hx186_6, hl186_6, hi186_6⟩ := at_T30 (Kd.N_reads' HO_3.out).2.2 x15_1 p186 q186
            obtain rfl : ad185 = ad186 := (by injection e186)
            obtain ⟨ce186, hce186, hMe186, hcc186⟩ := Kd.N_get HO_3.out z30 x15_1 p186 (by first | exact q186 | exact of_decide_eq_true (by first | (with_reducible assumption) | assumption) | (have e_ := (Kd.N_reads' HO_3.out).1; omega))
            obtain ⟨ua186_6, uc186_6, rfl, ul186_6, ge186_6⟩ := k30_openF hMe186
            have hv186_6 := hcc186 6 _ rfl
            rw [add_field _ _ 6 (by omega)] at hv186_6
            replace hv186_6 := Option.some.inj (hv186_6.symm.trans hx186_6)
            injection hv186_6 with hva_ hvn_ hvc_
            rw [hva_] at ge186_6
            rw [hvc_] at ul186_6
            have HL186_6 := Aside0.mk (show Kd.V k30 30 _ w.heap.size _ _ ((rd_T30 t178 x15_1).f3) from Kd.V_mk ul186_6 ge186_6)
            clear hva_ hvn_ hvc_ ge186_6 ul186_6
            clear hcc186 hce186
            have HR186_6 := Aside0.mk hi186_6
            have HC186_6 := Aside0.mk hl186_6
            clear hi186_6 hl186_6
            replace p186 := eq_true p186
            replace q186 := eq_true q186
            have ea_ := Option.some.inj (hx185_6.symm.trans hx186_6)
            injection ea_ with ea_ en_ ec_
            subst ea_
            subst ec_
            clear en_
            go_wp2
            go_ret
            exact ⟨by first | rfl | (simp [errW_none, errW_some] <;> rfl) | (simp [*, errW_none, errW_some] <;> rfl), by repeat (first | (with_reducible first | exact HB.out | apply below_alloc | apply pw_below_drewN | apply below_drew1 | refine below_set ?_ GE177.out) | exact HB.out)⟩
           ·rw [if_neg c26] at H
            have c26b0 : decide (0 < (((rd_T30 t178 x15_1).f3).length : Int)) = false := decide_eq_false c26
            have c26b1 : decide (0 < ((rd_T30 t178 x15_1).f3).length) = false := decide_eq_false (by omega)
            clear c26
            by_cases c27 : ((rd_T30 t178 x15_1).f2) < 0
            ·rw [if_pos c27] at H
             have c27b0 : decide (((rd_T30 t178 x15_1).f2) < 0) = true := decide_eq_true c27
             clear c27
             obtain rfl := Option.some.inj H
             have p185 : 0 ≤ (x15_1 : Int) := of_decide_eq_true (by first | (with_reducible assumption) | assumption)
             have q185 : x15_1 < (t178.length : Int) := of_decide_eq_true (by first | (with_reducible assumption) | assumption)
             obtain ⟨ad185, A185_6, c185_6, e185, hx185_0, hx185_1, hx185_2, hx185_3, hx185_4, hx185_5, hx185_6, hl185_6, hi185_6⟩ := at_T30 (Kd.N_reads' HO_3.out).2.2 x15_1 p185 q185
             cases e185
             obtain ⟨ce185, hce185, hMe185, hcc185⟩ := Kd.N_get HO_3.out z30 x15_1 p185 (by first | exact q185 | exact of_decide_eq_true (by first | (with_reducible assumption) | assumption) | (have e_ := (Kd.N_reads' HO_3.out).1; omega))
             obtain ⟨ua185_6, uc185_6, rfl, ul185_6, ge185_6⟩ := k30_openF hMe185
             have hv185_6 := hcc185 6 _ rfl
             rw [add_field _ _ 6 (by omega)] at hv185_6
             replace hv185_6 := Option.some.inj (hv185_6.symm.trans hx185_6)
             injection hv185_6 with hva_ hvn_ hvc_
             rw [hva_] at ge185_6
             rw [hvc_] at ul185_6
             have HL185_6 := Aside0.mk (show Kd.V k30 30 _ w.heap.size _ _ ((rd_T30 t178 x15_1).f3) from Kd.V_mk ul185_6 ge185_6)
             clear hva_ hvn_ hvc_ ge185_6 ul185_6
             clear hcc185 hce185
             have HR185_6 := Aside0.mk hi185_6
             have HC185_6 := Aside0.mk hl185_6
             clear hi185_6 hl185_6
             replace p185 := eq_true p185
             replace q185 := eq_true q185
             have p186 : 0 ≤ (x15_1 : Int) := of_decide_eq_true (by first | (with_reducible assumption) | assumption)
             have q186 : x15_1 < (t178.length : Int) := of_decide_eq_true (by first | (with_reducible assumption) | assumption)
             obtain ⟨ad186, A186_6, c186_6, e186, hx186_0, hx186_1, hx186_2, hx186_3, hx186_4, hx186_5, hx186_6, hl186_6, hi186_6⟩ := at_T30 (Kd.N_reads' HO_3.out).2.2 x15_1 p186 q186
             obtain rfl : ad185 = ad186 := (by injection e186)
             obtain ⟨ce186, hce186, hMe186, hcc186⟩ := Kd.N_get HO_3.out z30 x15_1 p186 (by first | exact q186 | exact of_decide_eq_true (by first | (with_reducible assumption) | assumption) | (have e_ := (Kd.N_reads' HO_3.out).1; omega))
             obtain ⟨ua186_6, uc186_6, rfl, ul186_6, ge186_6⟩ := k30_openF hMe186
             have hv186_6 := hcc186 6 _ rfl
             rw [add_field _ _ 6 (by omega)] at hv186_6
             replace hv186_6 := Option.some.inj (hv186_6.symm.trans hx186_6)
             injection hv186_6 with hva_ hvn_ hvc_
             rw [hva_] at ge186_6
             rw [hvc_] at ul186_6
             have HL186_6 := Aside0.mk (show Kd.V k30 30 _ w.heap.size _ _ ((rd_T30 t178 x15_1).f3) from Kd.V_mk ul186_6 ge186_6)
             clear hva_ hvn_ hvc_ ge186_6 ul186_6
             clear hcc186 hce186
             have HR186_6 := Aside0.mk hi186_6
             have HC186_6 := Aside0.mk hl186_6
             clear hi186_6 hl186_6
             replace p186 := eq_true p186
             replace q186 := eq_true q186
             have ea_ := Option.some.inj (hx185_6.symm.trans hx186_6)
             injection ea_ with ea_ en_ ec_
             subst ea_
             subst ec_
             clear en_
             have p187 : 0 ≤ (x15_1 : Int) := of_decide_eq_true (by first | (with_reducible assumption) | assumption)
             have q187 : x15_1 < (t178.length : Int) := of_decide_eq_true (by first | (with_reducible assumption) | assumption)
             obtain ⟨ad187, A187_6, c187_6, e187, hx187_0, hx187_1, hx187_2, hx187_3, hx187_4, hx187_5, hx187_6, hl187_6, hi187_6⟩ := at_T30 (Kd.N_reads' HO_3.out).2.2 x15_1 p187 q187
             obtain rfl : ad185 = ad187 := (by injection e187)
             obtain ⟨ce187, hce187, hMe187, hcc187⟩ := Kd.N_get HO_3.out z30 x15_1 p187 (by first | exact q187 | exact of_decide_eq_true (by first | (with_reducible assumption) | assumption) | (have e_ := (Kd.N_reads' HO_3.out).1; omega))
             obtain ⟨ua187_6, uc187_6, rfl, ul187_6, ge187_6⟩ := k30_openF hMe187
             have hv187_6 := hcc187 6 _ rfl
             rw [add_field _ _ 6 (by omega)] at hv187_6
             replace hv187_6 := Option.some.inj (hv187_6.symm.trans hx187_6)
             injection hv187_6 with hva_ hvn_ hvc_
             rw [hva_] at ge187_6
             rw [hvc_] at ul187_6
             have HL187_6 := Aside0.mk (show Kd.V k30 30 _ w.heap.size _ _ ((rd_T30 t178 x15_1).f3) from Kd.V_mk ul187_6 ge187_6)
             clear hva_ hvn_ hvc_ ge187_6 ul187_6
             clear hcc187 hce187
             have HR187_6 := Aside0.mk hi187_6
             have HC187_6 := Aside0.mk hl187_6
             clear hi187_6 hl187_6
             replace p187 := eq_true p187
             replace q187 := eq_true q187
             have ea_ := Option.some.inj (hx185_6.symm.trans hx187_6)
             injection ea_ with ea_ en_ ec_
             subst ea_
             subst ec_
             clear en_
             go_wp2
             go_ret
             exact ⟨by first | rfl | (simp [errW_none, errW_some] <;> rfl) | (simp [*, errW_none, errW_some] <;> rfl), by repeat (first | (with_reducible first | exact HB.out | apply below_alloc | apply pw_below_drewN | apply below_drew1 | refine below_set ?_ GE177.out) | exact HB.out)⟩
            ·rw [if_neg c27] at H
             have c27b0 : decide (((rd_T30 t178 x15_1).f2) < 0) = false := decide_eq_false c27
             clear c27
             by_cases c28 : ((rd_T30 t178 x15_1).f2) > 2147483647
             ·rw [if_pos c28] at H
              have c28b0 : decide (2147483647 < ((rd_T30 t178 x15_1).f2)) = true := decide_eq_true c28
              clear c28
              obtain rfl := Option.some.inj H
              have p185 : 0 ≤ (x15_1 : Int) := of_decide_eq_true (by first | (with_reducible assumption) | assumption)
              have q185 : x15_1 < (t178.length : Int) := of_decide_eq_true (by first | (with_reducible assumption) | assumption)
              obtain ⟨ad185, A185_6, c185_6, e185, hx185_0, hx185_1, hx185_2, hx185_3, hx185_4, hx185_5, hx185_6, hl185_6, hi185_6⟩ := at_T30 (Kd.N_reads' HO_3.out).2.2 x15_1 p185 q185
              cases e185
              obtain ⟨ce185, hce185, hMe185, hcc185⟩ := Kd.N_get HO_3.out z30 x15_1 p185 (by first | exact q185 | exact of_decide_eq_true (by first | (with_reducible assumption) | assumption) | (have e_ := (Kd.N_reads' HO_3.out).1; omega))
              obtain ⟨ua185_6, uc185_6, rfl, ul185_6, ge185_6⟩ := k30_openF hMe185
              have hv185_6 := hcc185 6 _ rfl
              rw [add_field _ _ 6 (by omega)] at hv185_6
              replace hv185_6 := Option.some.inj (hv185_6.symm.trans hx185_6)
              injection hv185_6 with hva_ hvn_ hvc_
              rw [hva_] at ge185_6
              rw [hvc_] at ul185_6
              have HL185_6 := Aside0.mk (show Kd.V k30 30 _ w.heap.size _ _ ((rd_T30 t178 x15_1).f3) from Kd.V_mk ul185_6 ge185_6)
              clear hva_ hvn_ hvc_ ge185_6 ul185_6
              clear hcc185 hce185
              have HR185_6 := Aside0.mk hi185_6
              have HC185_6 := Aside0.mk hl185_6
              clear hi185_6 hl185_6
              replace p185 := eq_true p185
              replace q185 := eq_true q185
              have p186 : 0 ≤ (x15_1 : Int) := of_decide_eq_true (by first | (with_reducible assumption) | assumption)
              have q186 : x15_1 < (t178.length : Int) := of_decide_eq_true (by first | (with_reducible assumption) | assumption)
              obtain ⟨ad186, A186_6, c186_6, e186, hx186_0, hx186_1, hx186_2, hx186_3, hx186_4, hx186_5, hx186_6, hl186_6, hi186_6⟩ := at_T30 (Kd.N_reads' HO_3.out).2.2 x15_1 p186 q186
              obtain rfl : ad185 = ad186 := (by injection e186)
              obtain ⟨ce186, hce186, hMe186, hcc186⟩ := Kd.N_get HO_3.out z30 x15_1 p186 (by first | exact q186 | exact of_decide_eq_true (by first | (with_reducible assumption) | assumption) | (have e_ := (Kd.N_reads' HO_3.out).1; omega))
              obtain ⟨ua186_6, uc186_6, rfl, ul186_6, ge186_6⟩ := k30_openF hMe186
              have hv186_6 := hcc186 6 _ rfl
              rw [add_field _ _ 6 (by omega)] at hv186_6
              replace hv186_6 := Option.some.inj (hv186_6.symm.trans hx186_6)
              injection hv186_6 with hva_ hvn_ hvc_
              rw [hva_] at ge186_6
              rw [hvc_] at ul186_6
              have HL186_6 := Aside0.mk (show Kd.V k30 30 _ w.heap.size _ _ ((rd_T30 t178 x15_1).f3) from Kd.V_mk ul186_6 ge186_6)
              clear hva_ hvn_ hvc_ ge186_6 ul186_6
              clear hcc186 hce186
              have HR186_6 := Aside0.mk hi186_6
              have HC186_6 := Aside0.mk hl186_6
              clear hi186_6 hl186_6
              replace p186 := eq_true p186
              replace q186 := eq_true q186
              have ea_ := Option.some.inj (hx185_6.symm.trans hx186_6)
              injection ea_ with ea_ en_ ec_
              subst ea_
              subst ec_
              clear en_
              have p187 : 0 ≤ (x15_1 : Int) := of_decide_eq_true (by first | (with_reducible assumption) | assumption)
              have q187 : x15_1 < (t178.length : Int) := of_decide_eq_true (by first | (with_reducible assumption) | assumption)
              obtain ⟨ad187, A187_6, c187_6, e187, hx187_0, hx187_1, hx187_2, hx187_3, hx187_4, hx187_5, hx187_6, hl187_6, hi187_6⟩ := at_T30 (Kd.N_reads' HO_3.out).2.2 x15_1 p187 q187
              obtain rfl : ad185 = ad187 := (by injection e187)
              obtain ⟨ce187, hce187, hMe187, hcc187⟩ := Kd.N_get HO_3.out z30 x15_1 p187 (by first | exact q187 | exact of_decide_eq_true (by first | (with_reducible assumption) | assumption) | (have e_ := (Kd.N_reads' HO_3.out).1; omega))
              obtain ⟨ua187_6, uc187_6, rfl, ul187_6, ge187_6⟩ := k30_openF hMe187
              have hv187_6 := hcc187 6 _ rfl
              rw [add_field _ _ 6 (by omega)] at hv187_6
              replace hv187_6 := Option.some.inj (hv187_6.symm.trans hx187_6)
              injection hv187_6 with hva_ hvn_ hvc_
              rw [hva_] at ge187_6
              rw [hvc_] at ul187_6
              have HL187_6 := Aside0.mk (show Kd.V k30 30 _ w.heap.size _ _ ((rd_T30 t178 x15_1).f3) from Kd.V_mk ul187_6 ge187_6)
              clear hva_ hvn_ hvc_ ge187_6 ul187_6
              clear hcc187 hce187
              have HR187_6 := Aside0.mk hi187_6
              have HC187_6 := Aside0.mk hl187_6
              clear hi187_6 hl187_6
              replace p187 := eq_true p187
              replace q187 := eq_true q187
              have ea_ := Option.some.inj (hx185_6.symm.trans hx187_6)
              injection ea_ with ea_ en_ ec_
              subst ea_
              subst ec_
              clear en_
              have p188 : 0 ≤ (x15_1 : Int) := of_decide_eq_true (by first | (with_reducible assumption) | assumption)
              have q188 : x15_1 < (t178.length : Int) := of_decide_eq_true (by first | (with_reducible assumption) | assumption)
              obtain ⟨ad188, A188_6, c188_6, e188, hx188_0, hx188_1, hx188_2, hx188_3, hx188_4, hx188_5, hx188_6, hl188_6, hi188_6⟩ := at_T30 (Kd.N_reads' HO_3.out).2.2 x15_1 p188 q188
              obtain rfl : ad185 = ad188 := (by injection e188)
              obtain ⟨ce188, hce188, hMe188, hcc188⟩ := Kd.N_get HO_3.out z30 x15_1 p188 (by first | exact q188 | exact of_decide_eq_true (by first | (with_reducible assumption) | assumption) | (have e_ := (Kd.N_reads' HO_3.out).1; omega))
              obtain ⟨ua188_6, uc188_6, rfl, ul188_6, ge188_6⟩ := k30_openF hMe188
              have hv188_6 := hcc188 6 _ rfl
              rw [add_field _ _ 6 (by omega)] at hv188_6
              replace hv188_6 := Option.some.inj (hv188_6.symm.trans hx188_6)
              injection hv188_6 with hva_ hvn_ hvc_
              rw [hva_] at ge188_6
              rw [hvc_] at ul188_6
              have HL188_6 := Aside0.mk (show Kd.V k30 30 _ w.heap.size _ _ ((rd_T30 t178 x15_1).f3) from Kd.V_mk ul188_6 ge188_6)
              clear hva_ hvn_ hvc_ ge188_6 ul188_6
              clear hcc188 hce188
              have HR188_6 := Aside0.mk hi188_6
              have HC188_6 := Aside0.mk hl188_6
              clear hi188_6 hl188_6
              replace p188 := eq_true p188
              replace q188 := eq_true q188
              have ea_ := Option.some.inj (hx185_6.symm.trans hx188_6)
              injection ea_ with ea_ en_ ec_
              subst ea_
              subst ec_
              clear en_
              go_wp2
              go_ret
              exact ⟨by first | rfl | (simp [errW_none, errW_some] <;> rfl) | (simp [*, errW_none, errW_some] <;> rfl), by repeat (first | (with_reducible first | exact HB.out | apply below_alloc | apply pw_below_drewN | apply below_drew1 | refine below_set ?_ GE177.out) | exact HB.out)⟩
             ·rw [if_neg c28] at H
              have c28b0 : decide (2147483647 < ((rd_T30 t178 x15_1).f2)) = false := decide_eq_false c28
              clear c28
              by_cases c29 : ((rd_T30 t178 x15_1).f0) > 1
              ·rw [if_pos c29] at H
               have c29b0 : decide (1 < ((rd_T30 t178 x15_1).f0)) = true := decide_eq_true c29
               clear c29
               by_cases c30 : (((rd_T30 t178 x15_1).f3).length : Int) < 2
               ·rw [if_pos c30] at H
                have c30b0 : decide ((((rd_T30 t178 x15_1).f3).length : Int) < 2) = true := decide_eq_true c30
                have c30b1 : decide (((rd_T30 t178 x15_1).f3).length < 2) = true := decide_eq_true (by omega)
                clear c30
                obtain rfl := Option.some.inj H
                have p185 : 0 ≤ (x15_1 : Int) := of_decide_eq_true (by first | (with_reducible assumption) | assumption)
                have q185 : x15_1 < (t178.length : Int) := of_decide_eq_true (by first | (with_reducible assumption) | assumption)
                obtain ⟨ad185, A185_6, c185_6, e185, hx185_0, hx185_1, hx185_2, hx185_3, hx185_4, hx185_5, hx185_6, hl185_6, hi185_6⟩ := at_T30 (Kd.N_reads' HO_3.out).2.2 x15_1 p185 q185
                cases e185
                obtain ⟨ce185, hce185, hMe185, hcc185⟩ := Kd.N_get HO_3.out z30 x15_1 p185 (by first | exact q185 | exact of_decide_eq_true (by first | (with_reducible assumption) | assumption) | (have e_ := (Kd.N_reads' HO_3.out).1; omega))
                obtain ⟨ua185_6, uc185_6, rfl, ul185_6, ge185_6⟩ := k30_openF hMe185
                have hv185_6 := hcc185 6 _ rfl
                rw [add_field _ _ 6 (by omega)] at hv185_6
                replace hv185_6 := Option.some.inj (hv185_6.symm.trans hx185_6)
                injection hv185_6 with hva_ hvn_ hvc_
                rw [hva_] at ge185_6
                rw [hvc_] at ul185_6
                have HL185_6 := Aside0.mk (show Kd.V k30 30 _ w.heap.size _ _ ((rd_T30 t178 x15_1).f3) from Kd.V_mk ul185_6 ge185_6)
                clear hva_ hvn_ hvc_ ge185_6 ul185_6
                clear hcc185 hce185
                have HR185_6 := Aside0.mk hi185_6
                have HC185_6 := Aside0.mk hl185_6
                clear hi185_6 hl185_6
                replace p185 := eq_true p185
                replace q185 := eq_true q185
                have p186 : 0 ≤ (x15_1 : Int) := of_decide_eq_true (by first | (with_reducible assumption) | assumption)
                have q186 : x15_1 < (t178.length : Int) := of_decide_eq_true (by first | (with_reducible assumption) | assumption)
                obtain ⟨ad186, A186_6, c186_6, e186, hx186_0, hx186_1, hx186_2, hx186_3, hx186_4, hx186_5, hx186_6, hl186_6, hi186_6⟩ := at_T30 (Kd.N_reads' HO_3.out).2.2 x15_1 p186 q186
                obtain rfl : ad185 = ad186 := (by injection e186)
                obtain ⟨ce186, hce186, hMe186, hcc186⟩ := Kd.N_get HO_3.out z30 x15_1 p186 (by first | exact q186 | exact of_decide_eq_true (by first | (with_reducible assumption) | assumption) | (have e_ := (Kd.N_reads' HO_3.out).1; omega))
                obtain ⟨ua186_6, uc186_6, rfl, ul186_6, ge186_6⟩ := k30_openF hMe186
                have hv186_6 := hcc186 6 _ rfl
                rw [add_field _ _ 6 (by omega)] at hv186_6
                replace hv186_6 := Option.some.inj (hv186_6.symm.trans hx186_6)
                injection hv186_6 with hva_ hvn_ hvc_
                rw [hva_] at ge186_6
                rw [hvc_] at ul186_6
                have HL186_6 := Aside0.mk (show Kd.V k30 30 _ w.heap.size _ _ ((rd_T30 t178 x15_1).f3) from Kd.V_mk ul186_6 ge186_6)
                clear hva_ hvn_ hvc_ ge186_6 ul186_6
                clear hcc186 hce186
                have HR186_6 := Aside0.mk hi186_6
                have HC186_6 := Aside0.mk hl186_6
                clear hi186_6 hl186_6
                replace p186 := eq_true p186
                replace q186 := eq_true q186
                have ea_ := Option.some.inj (hx185_6.symm.trans hx186_6)
                injection ea_ with ea_ en_ ec_
                subst ea_
                subst ec_
                clear en_
                have p187 : 0 ≤ (x15_1 : Int) := of_decide_eq_true (by first | (with_reducible assumption) | assumption)
                have q187 : x15_1 < (t178.length : Int) := of_decide_eq_true (by first | (with_reducible assumption) | assumption)
                obtain ⟨ad187, A187_6, c187_6, e187, hx187_0, hx187_1, hx187_2, hx187_3, hx187_4, hx187_5, hx187_6, hl187_6, hi187_6⟩ := at_T30 (Kd.N_reads' HO_3.out).2.2 x15_1 p187 q187
                obtain rfl : ad185 = ad187 := (by injection e187)
                obtain ⟨ce187, hce187, hMe187, hcc187⟩ := Kd.N_get HO_3.out z30 x15_1 p187 (by first | exact q187 | exact of_decide_eq_true (by first | (with_reducible assumption) | assumption) | (have e_ := (Kd.N_reads' HO_3.out).1; omega))
                obtain ⟨ua187_6, uc187_6, rfl, ul187_6, ge187_6⟩ := k30_openF hMe187
                have hv187_6 := hcc187 6 _ rfl
                rw [add_field _ _ 6 (by omega)] at hv187_6
                replace hv187_6 := Option.some.inj (hv187_6.symm.trans hx187_6)
                injection hv187_6 with hva_ hvn_ hvc_
                rw [hva_] at ge187_6
                rw [hvc_] at ul187_6
                have HL187_6 := Aside0.mk (show Kd.V k30 30 _ w.heap.size _ _ ((rd_T30 t178 x15_1).f3) from Kd.V_mk ul187_6 ge187_6)
                clear hva_ hvn_ hvc_ ge187_6 ul187_6
                clear hcc187 hce187
                have HR187_6 := Aside0.mk hi187_6
                have HC187_6 := Aside0.mk hl187_6
                clear hi187_6 hl187_6
                replace p187 := eq_true p187
                replace q187 := eq_true q187
                have ea_ := Option.some.inj (hx185_6.symm.trans hx187_6)
                injection ea_ with ea_ en_ ec_
                subst ea_
                subst ec_
                clear en_
                have p188 : 0 ≤ (x15_1 : Int) := of_decide_eq_true (by first | (with_reducible assumption) | assumption)
                have q188 : x15_1 < (t178.length : Int) := of_decide_eq_true (by first | (with_reducible assumption) | assumption)
                obtain ⟨ad188, A188_6, c188_6, e188, hx188_0, hx188_1, hx188_2, hx188_3, hx188_4, hx188_5, hx188_6, hl188_6, hi188_6⟩ := at_T30 (Kd.N_reads' HO_3.out).2.2 x15_1 p188 q188
                obtain rfl : ad185 = ad188 := (by injection e188)
                obtain ⟨ce188, hce188, hMe188, hcc188⟩ := Kd.N_get HO_3.out z30 x15_1 p188 (by first | exact q188 | exact of_decide_eq_true (by first | (with_reducible assumption) | assumption) | (have e_ := (Kd.N_reads' HO_3.out).1; omega))
                obtain ⟨ua188_6, uc188_6, rfl, ul188_6, ge188_6⟩ := k30_openF hMe188
                have hv188_6 := hcc188 6 _ rfl
                rw [add_field _ _ 6 (by omega)] at hv188_6
                replace hv188_6 := Option.some.inj (hv188_6.symm.trans hx188_6)
                injection hv188_6 with hva_ hvn_ hvc_
                rw [hva_] at ge188_6
                rw [hvc_] at ul188_6
                have HL188_6 := Aside0.mk (show Kd.V k30 30 _ w.heap.size _ _ ((rd_T30 t178 x15_1).f3) from Kd.V_mk ul188_6 ge188_6)
                clear hva_ hvn_ hvc_ ge188_6 ul188_6
                clear hcc188 hce188
                have HR188_6 := Aside0.mk hi188_6
                have HC188_6 := Aside0.mk hl188_6
                clear hi188_6 hl188_6
                replace p188 := eq_true p188
                replace q188 := eq_true q188
                have ea_ := Option.some.inj (hx185_6.symm.trans hx188_6)
                injection ea_ with ea_ en_ ec_
                subst ea_
                subst ec_
                clear en_
                have p189 : 0 ≤ (x15_1 : Int) := of_decide_eq_true (by first | (with_reducible assumption) | assumption)
                have q189 : x15_1 < (t178.length : Int) := of_decide_eq_true (by first | (with_reducible assumption) | assumption)
                obtain ⟨ad189, A189_6, c189_6, e189, hx189_0, hx189_1, hx189_2, hx189_3, hx189_4, hx189_5, hx189_6, hl189_6, hi189_6⟩ := at_T30 (Kd.N_reads' HO_3.out).2.2 x15_1 p189 q189
                obtain rfl : ad185 = ad189 := (by injection e189)
                obtain ⟨ce189, hce189, hMe189, hcc189⟩ := Kd.N_get HO_3.out z30 x15_1 p189 (by first | exact q189 | exact of_decide_eq_true (by first | (with_reducible assumption) | assumption) | (have e_ := (Kd.N_reads' HO_3.out).1; omega))
                obtain ⟨ua189_6, uc189_6, rfl, ul189_6, ge189_6⟩ := k30_openF hMe189
                have hv189_6 := hcc189 6 _ rfl
                rw [add_field _ _ 6 (by omega)] at hv189_6
                replace hv189_6 := Option.some.inj (hv189_6.symm.trans hx189_6)
                injection hv189_6 with hva_ hvn_ hvc_
                rw [hva_] at ge189_6
                rw [hvc_] at ul189_6
                have HL189_6 := Aside0.mk (show Kd.V k30 30 _ w.heap.size _ _ ((rd_T30 t178 x15_1).f3) from Kd.V_mk ul189_6 ge189_6)
                clear hva_ hvn_ hvc_ ge189_6 ul189_6
                clear hcc189 hce189
                have HR189_6 := Aside0.mk hi189_6
                have HC189_6 := Aside0.mk hl189_6
                clear hi189_6 hl189_6
                replace p189 := eq_true p189
                replace q189 := eq_true q189
                have ea_ := Option.some.inj (hx185_6.symm.trans hx189_6)
                injection ea_ with ea_ en_ ec_
                subst ea_
                subst ec_
                clear en_
                have p190 : 0 ≤ (x15_1 : Int) := of_decide_eq_true (by first | (with_reducible assumption) | assumption)
                have q190 : x15_1 < (t178.length : Int) := of_decide_eq_true (by first | (with_reducible assumption) | assumption)
                obtain ⟨ad190, A190_6, c190_6, e190, hx190_0, hx190_1, hx190_2, hx190_3, hx190_4, hx190_5, hx190_6, hl190_6, hi190_6⟩ := at_T30 (Kd.N_reads' HO_3.out).2.2 x15_1 p190 q190
                obtain rfl : ad185 = ad190 := (by injection e190)
                obtain ⟨ce190, hce190, hMe190, hcc190⟩ := Kd.N_get HO_3.out z30 x15_1 p190 (by first | exact q190 | exact of_decide_eq_true (by first | (with_reducible assumption) | assumption) | (have e_ := (Kd.N_reads' HO_3.out).1; omega))
                obtain ⟨ua190_6, uc190_6, rfl, ul190_6, ge190_6⟩ := k30_openF hMe190
                have hv190_6 := hcc190 6 _ rfl
                rw [add_field _ _ 6 (by omega)] at hv190_6
                replace hv190_6 := Option.some.inj (hv190_6.symm.trans hx190_6)
                injection hv190_6 with hva_ hvn_ hvc_
                rw [hva_] at ge190_6
                rw [hvc_] at ul190_6
                have HL190_6 := Aside0.mk (show Kd.V k30 30 _ w.heap.size _ _ ((rd_T30 t178 x15_1).f3) from Kd.V_mk ul190_6 ge190_6)
                clear hva_ hvn_ hvc_ ge190_6 ul190_6
                clear hcc190 hce190
                have HR190_6 := Aside0.mk hi190_6
                have HC190_6 := Aside0.mk hl190_6
                clear hi190_6 hl190_6
                replace p190 := eq_true p190
                replace q190 := eq_true q190
                have ea_ := Option.some.inj (hx185_6.symm.trans hx190_6)
                injection ea_ with ea_ en_ ec_
                subst ea_
                subst ec_
                clear en_
                go_wp2
                go_ret
                exact ⟨by first | rfl | (simp [errW_none, errW_some] <;> rfl) | (simp [*, errW_none, errW_some] <;> rfl), by repeat (first | (with_reducible first | exact HB.out | apply below_alloc | apply pw_below_drewN | apply below_drew1 | refine below_set ?_ GE177.out) | exact HB.out)⟩
               ·rw [if_neg c30] at H
                have c30b0 : decide ((((rd_T30 t178 x15_1).f3).length : Int) < 2) = false := decide_eq_false c30
                have c30b1 : decide (((rd_T30 t178 x15_1).f3).length < 2) = false := decide_eq_false (by omega)
                clear c30
                by_cases c31 : ((rd_T30 t178 x15_1).f2) = 0
                ·rw [if_pos c31] at H
                 have c31b0 : (((rd_T30 t178 x15_1).f2) == 0) = true := beq_iff_eq.mpr c31
                 have c31b1 : (((rd_T30 t178 x15_1).f2) != 0) = false := bne_eq_false_iff_eq.mpr c31
                 clear c31
                 have H' := Aside0.mk H
                 clear H
                 have p185 : 0 ≤ (x15_1 : Int) := of_decide_eq_true (by first | (with_reducible assumption) | assumption)
                 have q185 : x15_1 < (t178.length : Int) := of_decide_eq_true (by first | (with_reducible assumption) | assumption)
                 obtain ⟨ad185, A185_6, c185_6, e185, hx185_0, hx185_1, hx185_2, hx185_3, hx185_4, hx185_5, hx185_6, hl185_6, hi185_6⟩ := at_T30 (Kd.N_reads' HO_3.out).2.2 x15_1 p185 q185
                 cases e185
                 obtain ⟨ce185, hce185, hMe185, hcc185⟩ := Kd.N_get HO_3.out z30 x15_1 p185 (by first | exact q185 | exact of_decide_eq_true (by first | (with_reducible assumption) | assumption) | (have e_ := (Kd.N_reads' HO_3.out).1; omega))
                 obtain ⟨ua185_6, uc185_6, rfl, ul185_6, ge185_6⟩ := k30_openF hMe185
                 have hv185_6 := hcc185 6 _ rfl
                 rw [add_field _ _ 6 (by omega)] at hv185_6
                 replace hv185_6 := Option.some.inj (hv185_6.symm.trans hx185_6)
                 injection hv185_6 with hva_ hvn_ hvc_
                 rw [hva_] at ge185_6
                 rw [hvc_] at ul185_6
                 have HL185_6 := Aside0.mk (show Kd.V k30 30 _ w.heap.size _ _ ((rd_T30 t178 x15_1).f3) from Kd.V_mk ul185_6 ge185_6)
                 clear hva_ hvn_ hvc_ ge185_6 ul185_6
                 clear hcc185 hce185
                 have HR185_6 := Aside0.mk hi185_6
                 have HC185_6 := Aside0.mk hl185_6
                 clear hi185_6 hl185_6
                 replace p185 := eq_true p185
                 replace q185 := eq_true q185
                 have p186 : 0 ≤ (x15_1 : Int) := of_decide_eq_true (by first | (with_reducible assumption) | assumption)
                 have q186 : x15_1 < (t178.length : Int) := of_decide_eq_true (by first | (with_reducible assumption) | assumption)
                 obtain ⟨ad186, A186_6, c186_6, e186, hx186_0, hx186_1, hx186_2, hx186_3, hx186_4, hx186_5, hx186_6, hl186_6, hi186_6⟩ := at_T30 (Kd.N_reads' HO_3.out).2.2 x15_1 p186 q186
                 obtain rfl : ad185 = ad186 := (by injection e186)
                 obtain ⟨ce186, hce186, hMe186, hcc186⟩ := Kd.N_get HO_3.out z30 x15_1 p186 (by first | exact q186 | exact of_decide_eq_true (by first | (with_reducible assumption) | assumption) | (have e_ := (Kd.N_reads' HO_3.out).1; omega))
                 obtain ⟨ua186_6, uc186_6, rfl, ul186_6, ge186_6⟩ := k30_openF hMe186
                 have hv186_6 := hcc186 6 _ rfl
                 rw [add_field _ _ 6 (by omega)] at hv186_6
                 replace hv186_6 := Option.some.inj (hv186_6.symm.trans hx186_6)
                 injection hv186_6 with hva_ hvn_ hvc_
                 rw [hva_] at ge186_6
                 rw [hvc_] at ul186_6
                 have HL186_6 := Aside0.mk (show Kd.V k30 30 _ w.heap.size _ _ ((rd_T30 t178 x15_1).f3) from Kd.V_mk ul186_6 ge186_6)
                 clear hva_ hvn_ hvc_ ge186_6 ul186_6
                 clear hcc186 hce186
                 have HR186_6 := Aside0.mk hi186_6
                 have HC186_6 := Aside0.mk hl186_6
                 clear hi186_6 hl186_6
                 replace p186 := eq_true p186
                 replace q186 := eq_true q186
                 have ea_ := Option.some.inj (hx185_6.symm.trans hx186_6)
                 injection ea_ with ea_ en_ ec_
                 subst ea_
                 subst ec_
                 clear en_
                 have p187 : 0 ≤ (x15_1 : Int) := of_decide_eq_true (by first | (with_reducible assumption) | assumption)
                 have q187 : x15_1 < (t178.length : Int) := of_decide_eq_true (by first | (with_reducible assumption) | assumption)
                 obtain ⟨ad187, A187_6, c187_6, e187, hx187_0, hx187_1, hx187_2, hx187_3, hx187_4, hx187_5, hx187_6, hl187_6, hi187_6⟩ := at_T30 (Kd.N_reads' HO_3.out).2.2 x15_1 p187 q187
                 obtain rfl : ad185 = ad187 := (by injection e187)
                 obtain ⟨ce187, hce187, hMe187, hcc187⟩ := Kd.N_get HO_3.out z30 x15_1 p187 (by first | exact q187 | exact of_decide_eq_true (by first | (with_reducible assumption) | assumption) | (have e_ := (Kd.N_reads' HO_3.out).1; omega))
                 obtain ⟨ua187_6, uc187_6, rfl, ul187_6, ge187_6⟩ := k30_openF hMe187
                 have hv187_6 := hcc187 6 _ rfl
                 rw [add_field _ _ 6 (by omega)] at hv187_6
                 replace hv187_6 := Option.some.inj (hv187_6.symm.trans hx187_6)
                 injection hv187_6 with hva_ hvn_ hvc_
                 rw [hva_] at ge187_6
                 rw [hvc_] at ul187_6
                 have HL187_6 := Aside0.mk (show Kd.V k30 30 _ w.heap.size _ _ ((rd_T30 t178 x15_1).f3) from Kd.V_mk ul187_6 ge187_6)
                 clear hva_ hvn_ hvc_ ge187_6 ul187_6
                 clear hcc187 hce187
                 have HR187_6 := Aside0.mk hi187_6
                 have HC187_6 := Aside0.mk hl187_6
                 clear hi187_6 hl187_6
                 replace p187 := eq_true p187
                 replace q187 := eq_true q187
                 have ea_ := Option.some.inj (hx185_6.symm.trans hx187_6)
                 injection ea_ with ea_ en_ ec_
                 subst ea_
                 subst ec_
                 clear en_
                 have p188 : 0 ≤ (x15_1 : Int) := of_decide_eq_true (by first | (with_reducible assumption) | assumption)
                 have q188 : x15_1 < (t178.length : Int) := of_decide_eq_true (by first | (with_reducible assumption) | assumption)
                 obtain ⟨ad188, A188_6, c188_6, e188, hx188_0, hx188_1, hx188_2, hx188_3, hx188_4, hx188_5, hx188_6, hl188_6, hi188_6⟩ := at_T30 (Kd.N_reads' HO_3.out).2.2 x15_1 p188 q188
                 obtain rfl : ad185 = ad188 := (by injection e188)
                 obtain ⟨ce188, hce188, hMe188, hcc188⟩ := Kd.N_get HO_3.out z30 x15_1 p188 (by first | exact q188 | exact of_decide_eq_true (by first | (with_reducible assumption) | assumption) | (have e_ := (Kd.N_reads' HO_3.out).1; omega))
                 obtain ⟨ua188_6, uc188_6, rfl, ul188_6, ge188_6⟩ := k30_openF hMe188
                 have hv188_6 := hcc188 6 _ rfl
                 rw [add_field _ _ 6 (by omega)] at hv188_6
                 replace hv188_6 := Option.some.inj (hv188_6.symm.trans hx188_6)
                 injection hv188_6 with hva_ hvn_ hvc_
                 rw [hva_] at ge188_6
                 rw [hvc_] at ul188_6
                 have HL188_6 := Aside0.mk (show Kd.V k30 30 _ w.heap.size _ _ ((rd_T30 t178 x15_1).f3) from Kd.V_mk ul188_6 ge188_6)
                 clear hva_ hvn_ hvc_ ge188_6 ul188_6
                 clear hcc188 hce188
                 have HR188_6 := Aside0.mk hi188_6
                 have HC188_6 := Aside0.mk hl188_6
                 clear hi188_6 hl188_6
                 replace p188 := eq_true p188
                 replace q188 := eq_true q188
                 have ea_ := Option.some.inj (hx185_6.symm.trans hx188_6)
                 injection ea_ with ea_ en_ ec_
                 subst ea_
                 subst ec_
                 clear en_
                 have p189 : 0 ≤ (x15_1 : Int) := of_decide_eq_true (by first | (with_reducible assumption) | assumption)
                 have q189 : x15_1 < (t178.length : Int) := of_decide_eq_true (by first | (with_reducible assumption) | assumption)
                 obtain ⟨ad189, A189_6, c189_6, e189, hx189_0, hx189_1, hx189_2, hx189_3, hx189_4, hx189_5, hx189_6, hl189_6, hi189_6⟩ := at_T30 (Kd.N_reads' HO_3.out).2.2 x15_1 p189 q189
                 obtain rfl : ad185 = ad189 := (by injection e189)
                 obtain ⟨ce189, hce189, hMe189, hcc189⟩ := Kd.N_get HO_3.out z30 x15_1 p189 (by first | exact q189 | exact of_decide_eq_true (by first | (with_reducible assumption) | assumption) | (have e_ := (Kd.N_reads' HO_3.out).1; omega))
                 obtain ⟨ua189_6, uc189_6, rfl, ul189_6, ge189_6⟩ := k30_openF hMe189
                 have hv189_6 := hcc189 6 _ rfl
                 rw [add_field _ _ 6 (by omega)] at hv189_6
                 replace hv189_6 := Option.some.inj (hv189_6.symm.trans hx189_6)
                 injection hv189_6 with hva_ hvn_ hvc_
                 rw [hva_] at ge189_6
                 rw [hvc_] at ul189_6
                 have HL189_6 := Aside0.mk (show Kd.V k30 30 _ w.heap.size _ _ ((rd_T30 t178 x15_1).f3) from Kd.V_mk ul189_6 ge189_6)
                 clear hva_ hvn_ hvc_ ge189_6 ul189_6
                 clear hcc189 hce189
                 have HR189_6 := Aside0.mk hi189_6
                 have HC189_6 := Aside0.mk hl189_6
                 clear hi189_6 hl189_6
                 replace p189 := eq_true p189
                 replace q189 := eq_true q189
                 have ea_ := Option.some.inj (hx185_6.symm.trans hx189_6)
                 injection ea_ with ea_ en_ ec_
                 subst ea_
                 subst ec_
                 clear en_
                 have p190 : 0 ≤ (x15_1 : Int) := of_decide_eq_true (by first | (with_reducible assumption) | assumption)
                 have q190 : x15_1 < (t178.length : Int) := of_decide_eq_true (by first | (with_reducible assumption) | assumption)
                 obtain ⟨ad190, A190_6, c190_6, e190, hx190_0, hx190_1, hx190_2, hx190_3, hx190_4, hx190_5, hx190_6, hl190_6, hi190_6⟩ := at_T30 (Kd.N_reads' HO_3.out).2.2 x15_1 p190 q190
                 obtain rfl : ad185 = ad190 := (by injection e190)
                 obtain ⟨ce190, hce190, hMe190, hcc190⟩ := Kd.N_get HO_3.out z30 x15_1 p190 (by first | exact q190 | exact of_decide_eq_true (by first | (with_reducible assumption) | assumption) | (have e_ := (Kd.N_reads' HO_3.out).1; omega))
                 obtain ⟨ua190_6, uc190_6, rfl, ul190_6, ge190_6⟩ := k30_openF hMe190
                 have hv190_6 := hcc190 6 _ rfl
                 rw [add_field _ _ 6 (by omega)] at hv190_6
                 replace hv190_6 := Option.some.inj (hv190_6.symm.trans hx190_6)
                 injection hv190_6 with hva_ hvn_ hvc_
                 rw [hva_] at ge190_6
                 rw [hvc_] at ul190_6
                 have HL190_6 := Aside0.mk (show Kd.V k30 30 _ w.heap.size _ _ ((rd_T30 t178 x15_1).f3) from Kd.V_mk ul190_6 ge190_6)
                 clear hva_ hvn_ hvc_ ge190_6 ul190_6
                 clear hcc190 hce190
                 have HR190_6 := Aside0.mk hi190_6
                 have HC190_6 := Aside0.mk hl190_6
                 clear hi190_6 hl190_6
                 replace p190 := eq_true p190
                 replace q190 := eq_true q190
                 have ea_ := Option.some.inj (hx185_6.symm.trans hx190_6)
                 injection ea_ with ea_ en_ ec_
                 subst ea_
                 subst ec_
                 clear en_
                 have p191 : 0 ≤ (x15_1 : Int) := of_decide_eq_true (by first | (with_reducible assumption) | assumption)
                 have q191 : x15_1 < (t178.length : Int) := of_decide_eq_true (by first | (with_reducible assumption) | assumption)
                 obtain ⟨ad191, A191_6, c191_6, e191, hx191_0, hx191_1, hx191_2, hx191_3, hx191_4, hx191_5, hx191_6, hl191_6, hi191_6⟩ := at_T30 (Kd.N_reads' HO_3.out).2.2 x15_1 p191 q191
                 obtain rfl : ad185 = ad191 := (by injection e191)
                 obtain ⟨ce191, hce191, hMe191, hcc191⟩ := Kd.N_get HO_3.out z30 x15_1 p191 (by first | exact q191 | exact of_decide_eq_true (by first | (with_reducible assumption) | assumption) | (have e_ := (Kd.N_reads' HO_3.out).1; omega))
                 obtain ⟨ua191_6, uc191_6, rfl, ul191_6, ge191_6⟩ := k30_openF hMe191
                 have hv191_6 := hcc191 6 _ rfl
                 rw [add_field _ _ 6 (by omega)] at hv191_6
                 replace hv191_6 := Option.some.inj (hv191_6.symm.trans hx191_6)
                 injection hv191_6 with hva_ hvn_ hvc_
                 rw [hva_] at ge191_6
                 rw [hvc_] at ul191_6
                 have HL191_6 := Aside0.mk (show Kd.V k30 30 _ w.heap.size _ _ ((rd_T30 t178 x15_1).f3) from Kd.V_mk ul191_6 ge191_6)
                 clear hva_ hvn_ hvc_ ge191_6 ul191_6
                 clear hcc191 hce191
                 have HR191_6 := Aside0.mk hi191_6
                 have HC191_6 := Aside0.mk hl191_6
                 clear hi191_6 hl191_6
                 replace p191 := eq_true p191
                 replace q191 := eq_true q191
                 have ea_ := Option.some.inj (hx185_6.symm.trans hx191_6)
                 injection ea_ with ea_ en_ ec_
                 subst ea_
                 subst ec_
                 clear en_
                 go_wp2
                 go_roundg kj12
                 case measure => have := HK1.out; have := HJ12.out; omega
                 case rel => exact ⟨(wrap64 (x15_1 + 1)), (by first | rfl | (simp; done) | (simp [*]; done)), H', ⟨by have := HK1.out; have := HJ12.out; omega⟩, ⟨by (with_reducible repeat (first | apply Kd.N_alloc | apply Kd.N_drewN | apply Kd.N_drew)); exact HO_3.out⟩, ⟨by (with_reducible repeat (first | refine blk_drewN ?_ _ | refine blk_drew ?_ | refine blk_alloc ?_ _)); exact BK177.out⟩, ⟨by repeat (first | (with_reducible first | exact HB.out | apply below_alloc | apply pw_below_drewN | apply below_drew1 | refine below_set ?_ GE177.out) | exact HB.out)⟩⟩
                ·rw [if_neg c31] at H
                 have c31b0 : (((rd_T30 t178 x15_1).f2) == 0) = false := beq_eq_false_iff_ne.mpr c31
                 have c31b1 : (((rd_T30 t178 x15_1).f2) != 0) = true := bne_iff_ne.mpr c31
                 obtain rfl := Option.some.inj H
                 have p185 : 0 ≤ (x15_1 : Int) := of_decide_eq_true (by first | (with_reducible assumption) | assumption)
                 have q185 : x15_1 < (t178.length : Int) := of_decide_eq_true (by first | (with_reducible assumption) | assumption)
                 obtain ⟨ad185, A185_6, c185_6, e185, hx185_0, hx185_1, hx185_2, hx185_3, hx185_4, hx185_5, hx185_6, hl185_6, hi185_6⟩ := at_T30 (Kd.N_reads' HO_3.out).2.2 x15_1 p185 q185
                 cases e185
                 obtain ⟨ce185, hce185, hMe185, hcc185⟩ := Kd.N_get HO_3.out z30 x15_1 p185 (by first | exact q185 | exact of_decide_eq_true (by first | (with_reducible assumption) | assumption) | (have e_ := (Kd.N_reads' HO_3.out).1; omega))
                 obtain ⟨ua185_6, uc185_6, rfl, ul185_6, ge185_6⟩ := k30_openF hMe185
                 have hv185_6 := hcc185 6 _ rfl
                 rw [add_field _ _ 6 (by omega)] at hv185_6
                 replace hv185_6 := Option.some.inj (hv185_6.symm.trans hx185_6)
                 injection hv185_6 with hva_ hvn_ hvc_
                 rw [hva_] at ge185_6
                 rw [hvc_] at ul185_6
                 have HL185_6 := Aside0.mk (show Kd.V k30 30 _ w.heap.size _ _ ((rd_T30 t178 x15_1).f3) from Kd.V_mk ul185_6 ge185_6)
                 clear hva_ hvn_ hvc_ ge185_6 ul185_6
                 clear hcc185 hce185
                 have HR185_6 := Aside0.mk hi185_6
                 have HC185_6 := Aside0.mk hl185_6
                 clear hi185_6 hl185_6
                 replace p185 := eq_true p185
                 replace q185 := eq_true q185
                 have p186 : 0 ≤ (x15_1 : Int) := of_decide_eq_true (by first | (with_reducible assumption) | assumption)
                 have q186 : x15_1 < (t178.length : Int) := of_decide_eq_true (by first | (with_reducible assumption) | assumption)
                 obtain ⟨ad186, A186_6, c186_6, e186, hx186_0, hx186_1, hx186_2, hx186_3, hx186_4, hx186_5, hx186_6, hl186_6, hi186_6⟩ := at_T30 (Kd.N_reads' HO_3.out).2.2 x15_1 p186 q186
                 obtain rfl : ad185 = ad186 := (by injection e186)
                 obtain ⟨ce186, hce186, hMe186, hcc186⟩ := Kd.N_get HO_3.out z30 x15_1 p186 (by first | exact q186 | exact of_decide_eq_true (by first | (with_reducible assumption) | assumption) | (have e_ := (Kd.N_reads' HO_3.out).1; omega))
                 obtain ⟨ua186_6, uc186_6, rfl, ul186_6, ge186_6⟩ := k30_openF hMe186
                 have hv186_6 := hcc186 6 _ rfl
                 rw [add_field _ _ 6 (by omega)] at hv186_6
                 replace hv186_6 := Option.some.inj (hv186_6.symm.trans hx186_6)
                 injection hv186_6 with hva_ hvn_ hvc_
                 rw [hva_] at ge186_6
                 rw [hvc_] at ul186_6
                 have HL186_6 := Aside0.mk (show Kd.V k30 30 _ w.heap.size _ _ ((rd_T30 t178 x15_1).f3) from Kd.V_mk ul186_6 ge186_6)
                 clear hva_ hvn_ hvc_ ge186_6 ul186_6
                 clear hcc186 hce186
                 have HR186_6 := Aside0.mk hi186_6
                 have HC186_6 := Aside0.mk hl186_6
                 clear hi186_6 hl186_6
                 replace p186 := eq_true p186
                 replace q186 := eq_true q186
                 have ea_ := Option.some.inj (hx185_6.symm.trans hx186_6)
                 injection ea_ with ea_ en_ ec_
                 subst ea_
                 subst ec_
                 clear en_
                 have p187 : 0 ≤ (x15_1 : Int) := of_decide_eq_true (by first | (with_reducible assumption) | assumption)
                 have q187 : x15_1 < (t178.length : Int) := of_decide_eq_true (by first | (with_reducible assumption) | assumption)
                 obtain ⟨ad187, A187_6, c187_6, e187, hx187_0, hx187_1, hx187_2, hx187_3, hx187_4, hx187_5, hx187_6, hl187_6, hi187_6⟩ := at_T30 (Kd.N_reads' HO_3.out).2.2 x15_1 p187 q187
                 obtain rfl : ad185 = ad187 := (by injection e187)
                 obtain ⟨ce187, hce187, hMe187, hcc187⟩ := Kd.N_get HO_3.out z30 x15_1 p187 (by first | exact q187 | exact of_decide_eq_true (by first | (with_reducible assumption) | assumption) | (have e_ := (Kd.N_reads' HO_3.out).1; omega))
                 obtain ⟨ua187_6, uc187_6, rfl, ul187_6, ge187_6⟩ := k30_openF hMe187
                 have hv187_6 := hcc187 6 _ rfl
                 rw [add_field _ _ 6 (by omega)] at hv187_6
                 replace hv187_6 := Option.some.inj (hv187_6.symm.trans hx187_6)
                 injection hv187_6 with hva_ hvn_ hvc_
                 rw [hva_] at ge187_6
                 rw [hvc_] at ul187_6
                 have HL187_6 := Aside0.mk (show Kd.V k30 30 _ w.heap.size _ _ ((rd_T30 t178 x15_1).f3) from Kd.V_mk ul187_6 ge187_6)
                 clear hva_ hvn_ hvc_ ge187_6 ul187_6
                 clear hcc187 hce187
                 have HR187_6 := Aside0.mk hi187_6
                 have HC187_6 := Aside0.mk hl187_6
                 clear hi187_6 hl187_6
                 replace p187 := eq_true p187
                 replace q187 := eq_true q187
                 have ea_ := Option.some.inj (hx185_6.symm.trans hx187_6)
                 injection ea_ with ea_ en_ ec_
                 subst ea_
                 subst ec_
                 clear en_
                 have p188 : 0 ≤ (x15_1 : Int) := of_decide_eq_true (by first | (with_reducible assumption) | assumption)
                 have q188 : x15_1 < (t178.length : Int) := of_decide_eq_true (by first | (with_reducible assumption) | assumption)
                 obtain ⟨ad188, A188_6, c188_6, e188, hx188_0, hx188_1, hx188_2, hx188_3, hx188_4, hx188_5, hx188_6, hl188_6, hi188_6⟩ := at_T30 (Kd.N_reads' HO_3.out).2.2 x15_1 p188 q188
                 obtain rfl : ad185 = ad188 := (by injection e188)
                 obtain ⟨ce188, hce188, hMe188, hcc188⟩ := Kd.N_get HO_3.out z30 x15_1 p188 (by first | exact q188 | exact of_decide_eq_true (by first | (with_reducible assumption) | assumption) | (have e_ := (Kd.N_reads' HO_3.out).1; omega))
                 obtain ⟨ua188_6, uc188_6, rfl, ul188_6, ge188_6⟩ := k30_openF hMe188
                 have hv188_6 := hcc188 6 _ rfl
                 rw [add_field _ _ 6 (by omega)] at hv188_6
                 replace hv188_6 := Option.some.inj (hv188_6.symm.trans hx188_6)
                 injection hv188_6 with hva_ hvn_ hvc_
                 rw [hva_] at ge188_6
                 rw [hvc_] at ul188_6
                 have HL188_6 := Aside0.mk (show Kd.V k30 30 _ w.heap.size _ _ ((rd_T30 t178 x15_1).f3) from Kd.V_mk ul188_6 ge188_6)
                 clear hva_ hvn_ hvc_ ge188_6 ul188_6
                 clear hcc188 hce188
                 have HR188_6 := Aside0.mk hi188_6
                 have HC188_6 := Aside0.mk hl188_6
                 clear hi188_6 hl188_6
                 replace p188 := eq_true p188
                 replace q188 := eq_true q188
                 have ea_ := Option.some.inj (hx185_6.symm.trans hx188_6)
                 injection ea_ with ea_ en_ ec_
                 subst ea_
                 subst ec_
                 clear en_
                 have p189 : 0 ≤ (x15_1 : Int) := of_decide_eq_true (by first | (with_reducible assumption) | assumption)
                 have q189 : x15_1 < (t178.length : Int) := of_decide_eq_true (by first | (with_reducible assumption) | assumption)
                 obtain ⟨ad189, A189_6, c189_6, e189, hx189_0, hx189_1, hx189_2, hx189_3, hx189_4, hx189_5, hx189_6, hl189_6, hi189_6⟩ := at_T30 (Kd.N_reads' HO_3.out).2.2 x15_1 p189 q189
                 obtain rfl : ad185 = ad189 := (by injection e189)
                 obtain ⟨ce189, hce189, hMe189, hcc189⟩ := Kd.N_get HO_3.out z30 x15_1 p189 (by first | exact q189 | exact of_decide_eq_true (by first | (with_reducible assumption) | assumption) | (have e_ := (Kd.N_reads' HO_3.out).1; omega))
                 obtain ⟨ua189_6, uc189_6, rfl, ul189_6, ge189_6⟩ := k30_openF hMe189
                 have hv189_6 := hcc189 6 _ rfl
                 rw [add_field _ _ 6 (by omega)] at hv189_6
                 replace hv189_6 := Option.some.inj (hv189_6.symm.trans hx189_6)
                 injection hv189_6 with hva_ hvn_ hvc_
                 rw [hva_] at ge189_6
                 rw [hvc_] at ul189_6
                 have HL189_6 := Aside0.mk (show Kd.V k30 30 _ w.heap.size _ _ ((rd_T30 t178 x15_1).f3) from Kd.V_mk ul189_6 ge189_6)
                 clear hva_ hvn_ hvc_ ge189_6 ul189_6
                 clear hcc189 hce189
                 have HR189_6 := Aside0.mk hi189_6
                 have HC189_6 := Aside0.mk hl189_6
                 clear hi189_6 hl189_6
                 replace p189 := eq_true p189
                 replace q189 := eq_true q189
                 have ea_ := Option.some.inj (hx185_6.symm.trans hx189_6)
                 injection ea_ with ea_ en_ ec_
                 subst ea_
                 subst ec_
                 clear en_
                 have p190 : 0 ≤ (x15_1 : Int) := of_decide_eq_true (by first | (with_reducible assumption) | assumption)
                 have q190 : x15_1 < (t178.length : Int) := of_decide_eq_true (by first | (with_reducible assumption) | assumption)
                 obtain ⟨ad190, A190_6, c190_6, e190, hx190_0, hx190_1, hx190_2, hx190_3, hx190_4, hx190_5, hx190_6, hl190_6, hi190_6⟩ := at_T30 (Kd.N_reads' HO_3.out).2.2 x15_1 p190 q190
                 obtain rfl : ad185 = ad190 := (by injection e190)
                 obtain ⟨ce190, hce190, hMe190, hcc190⟩ := Kd.N_get HO_3.out z30 x15_1 p190 (by first | exact q190 | exact of_decide_eq_true (by first | (with_reducible assumption) | assumption) | (have e_ := (Kd.N_reads' HO_3.out).1; omega))
                 obtain ⟨ua190_6, uc190_6, rfl, ul190_6, ge190_6⟩ := k30_openF hMe190
                 have hv190_6 := hcc190 6 _ rfl
                 rw [add_field _ _ 6 (by omega)] at hv190_6
                 replace hv190_6 := Option.some.inj (hv190_6.symm.trans hx190_6)
                 injection hv190_6 with hva_ hvn_ hvc_
                 rw [hva_] at ge190_6
                 rw [hvc_] at ul190_6
                 have HL190_6 := Aside0.mk (show Kd.V k30 30 _ w.heap.size _ _ ((rd_T30 t178 x15_1).f3) from Kd.V_mk ul190_6 ge190_6)
                 clear hva_ hvn_ hvc_ ge190_6 ul190_6
                 clear hcc190 hce190
                 have HR190_6 := Aside0.mk hi190_6
                 have HC190_6 := Aside0.mk hl190_6
                 clear hi190_6 hl190_6
                 replace p190 := eq_true p190
                 replace q190 := eq_true q190
                 have ea_ := Option.some.inj (hx185_6.symm.trans hx190_6)
                 injection ea_ with ea_ en_ ec_
                 subst ea_
                 subst ec_
                 clear en_
                 have p191 : 0 ≤ (x15_1 : Int) := of_decide_eq_true (by first | (with_reducible assumption) | assumption)
                 have q191 : x15_1 < (t178.length : Int) := of_decide_eq_true (by first | (with_reducible assumption) | assumption)
                 obtain ⟨ad191, A191_6, c191_6, e191, hx191_0, hx191_1, hx191_2, hx191_3, hx191_4, hx191_5, hx191_6, hl191_6, hi191_6⟩ := at_T30 (Kd.N_reads' HO_3.out).2.2 x15_1 p191 q191
                 obtain rfl : ad185 = ad191 := (by injection e191)
                 obtain ⟨ce191, hce191, hMe191, hcc191⟩ := Kd.N_get HO_3.out z30 x15_1 p191 (by first | exact q191 | exact of_decide_eq_true (by first | (with_reducible assumption) | assumption) | (have e_ := (Kd.N_reads' HO_3.out).1; omega))
                 obtain ⟨ua191_6, uc191_6, rfl, ul191_6, ge191_6⟩ := k30_openF hMe191
                 have hv191_6 := hcc191 6 _ rfl
                 rw [add_field _ _ 6 (by omega)] at hv191_6
                 replace hv191_6 := Option.some.inj (hv191_6.symm.trans hx191_6)
                 injection hv191_6 with hva_ hvn_ hvc_
                 rw [hva_] at ge191_6
                 rw [hvc_] at ul191_6
                 have HL191_6 := Aside0.mk (show Kd.V k30 30 _ w.heap.size _ _ ((rd_T30 t178 x15_1).f3) from Kd.V_mk ul191_6 ge191_6)
                 clear hva_ hvn_ hvc_ ge191_6 ul191_6
                 clear hcc191 hce191
                 have HR191_6 := Aside0.mk hi191_6
                 have HC191_6 := Aside0.mk hl191_6
                 clear hi191_6 hl191_6
                 replace p191 := eq_true p191
                 replace q191 := eq_true q191
                 have ea_ := Option.some.inj (hx185_6.symm.trans hx191_6)
                 injection ea_ with ea_ en_ ec_
                 subst ea_
                 subst ec_
                 clear en_
                 go_wp2
                 go_ret
                 exact ⟨by first | rfl | (simp [errW_none, errW_some] <;> rfl) | (simp [*, errW_none, errW_some] <;> rfl), by repeat (first | (with_reducible first | exact HB.out | apply below_alloc | apply pw_below_drewN | apply below_drew1 | refine below_set ?_ GE177.out) | exact HB.out)⟩
              ·rw [if_neg c29] at H
               have c29b0 : decide (1 < ((rd_T30 t178 x15_1).f0)) = false := decide_eq_false c29
               clear c29
               have H' := Aside0.mk H
               clear H
               have p185 : 0 ≤ (x15_1 : Int) := of_decide_eq_true (by first | (with_reducible assumption) | assumption)
               have q185 : x15_1 < (t178.length : Int) := of_decide_eq_true (by first | (with_reducible assumption) | assumption)
               obtain ⟨ad185, A185_6, c185_6, e185, hx185_0, hx185_1, hx185_2, hx185_3, hx185_4, hx185_5, hx185_6, hl185_6, hi185_6⟩ := at_T30 (Kd.N_reads' HO_3.out).2.2 x15_1 p185 q185
               cases e185
               obtain ⟨ce185, hce185, hMe185, hcc185⟩ := Kd.N_get HO_3.out z30 x15_1 p185 (by first | exact q185 | exact of_decide_eq_true (by first | (with_reducible assumption) | assumption) | (have e_ := (Kd.N_reads' HO_3.out).1; omega))
               obtain ⟨ua185_6, uc185_6, rfl, ul185_6, ge185_6⟩ := k30_openF hMe185
               have hv185_6 := hcc185 6 _ rfl
               rw [add_field _ _ 6 (by omega)] at hv185_6
               replace hv185_6 := Option.some.inj (hv185_6.symm.trans hx185_6)
               injection hv185_6 with hva_ hvn_ hvc_
               rw [hva_] at ge185_6
               rw [hvc_] at ul185_6
               have HL185_6 := Aside0.mk (show Kd.V k30 30 _ w.heap.size _ _ ((rd_T30 t178 x15_1).f3) from Kd.V_mk ul185_6 ge185_6)
               clear hva_ hvn_ hvc_ ge185_6 ul185_6
               clear hcc185 hce185
               have HR185_6 := Aside0.mk hi185_6
               have HC185_6 := Aside0.mk hl185_6
               clear hi185_6 hl185_6
               replace p185 := eq_true p185
               replace q185 := eq_true q185
               have p186 : 0 ≤ (x15_1 : Int) := of_decide_eq_true (by first | (with_reducible assumption) | assumption)
               have q186 : x15_1 < (t178.length : Int) := of_decide_eq_true (by first | (with_reducible assumption) | assumption)
               obtain ⟨ad186, A186_6, c186_6, e186, hx186_0, hx186_1, hx186_2, hx186_3, hx186_4, hx186_5, hx186_6, hl186_6, hi186_6⟩ := at_T30 (Kd.N_reads' HO_3.out).2.2 x15_1 p186 q186
               obtain rfl : ad185 = ad186 := (by injection e186)
               obtain ⟨ce186, hce186, hMe186, hcc186⟩ := Kd.N_get HO_3.out z30 x15_1 p186 (by first | exact q186 | exact of_decide_eq_true (by first | (with_reducible assumption) | assumption) | (have e_ := (Kd.N_reads' HO_3.out).1; omega))
               obtain ⟨ua186_6, uc186_6, rfl, ul186_6, ge186_6⟩ := k30_openF hMe186
               have hv186_6 := hcc186 6 _ rfl
               rw [add_field _ _ 6 (by omega)] at hv186_6
               replace hv186_6 := Option.some.inj (hv186_6.symm.trans hx186_6)
               injection hv186_6 with hva_ hvn_ hvc_
               rw [hva_] at ge186_6
               rw [hvc_] at ul186_6
               have HL186_6 := Aside0.mk (show Kd.V k30 30 _ w.heap.size _ _ ((rd_T30 t178 x15_1).f3) from Kd.V_mk ul186_6 ge186_6)
               clear hva_ hvn_ hvc_ ge186_6 ul186_6
               clear hcc186 hce186
               have HR186_6 := Aside0.mk hi186_6
               have HC186_6 := Aside0.mk hl186_6
               clear hi186_6 hl186_6
               replace p186 := eq_true p186
               replace q186 := eq_true q186
               have ea_ := Option.some.inj (hx185_6.symm.trans hx186_6)
               injection ea_ with ea_ en_ ec_
               subst ea_
               subst ec_
               clear en_
               have p187 : 0 ≤ (x15_1 : Int) := of_decide_eq_true (by first | (with_reducible assumption) | assumption)
               have q187 : x15_1 < (t178.length : Int) := of_decide_eq_true (by first | (with_reducible assumption) | assumption)
               obtain ⟨ad187, A187_6, c187_6, e187, hx187_0, hx187_1, hx187_2, hx187_3, hx187_4, hx187_5, hx187_6, hl187_6, hi187_6⟩ := at_T30 (Kd.N_reads' HO_3.out).2.2 x15_1 p187 q187
               obtain rfl : ad185 = ad187 := (by injection e187)
               obtain ⟨ce187, hce187, hMe187, hcc187⟩ := Kd.N_get HO_3.out z30 x15_1 p187 (by first | exact q187 | exact of_decide_eq_true (by first | (with_reducible assumption) | assumption) | (have e_ := (Kd.N_reads' HO_3.out).1; omega))
               obtain ⟨ua187_6, uc187_6, rfl, ul187_6, ge187_6⟩ := k30_openF hMe187
               have hv187_6 := hcc187 6 _ rfl
               rw [add_field _ _ 6 (by omega)] at hv187_6
               replace hv187_6 := Option.some.inj (hv187_6.symm.trans hx187_6)
               injection hv187_6 with hva_ hvn_ hvc_
               rw [hva_] at ge187_6
               rw [hvc_] at ul187_6
               have HL187_6 := Aside0.mk (show Kd.V k30 30 _ w.heap.size _ _ ((rd_T30 t178 x15_1).f3) from Kd.V_mk ul187_6 ge187_6)
               clear hva_ hvn_ hvc_ ge187_6 ul187_6
               clear hcc187 hce187
               have HR187_6 := Aside0.mk hi187_6
               have HC187_6 := Aside0.mk hl187_6
               clear hi187_6 hl187_6
               replace p187 := eq_true p187
               replace q187 := eq_true q187
               have ea_ := Option.some.inj (hx185_6.symm.trans hx187_6)
               injection ea_ with ea_ en_ ec_
               subst ea_
               subst ec_
               clear en_
               have p188 : 0 ≤ (x15_1 : Int) := of_decide_eq_true (by first | (with_reducible assumption) | assumption)
               have q188 : x15_1 < (t178.length : Int) := of_decide_eq_true (by first | (with_reducible assumption) | assumption)
               obtain ⟨ad188, A188_6, c188_6, e188, hx188_0, hx188_1, hx188_2, hx188_3, hx188_4, hx188_5, hx188_6, hl188_6, hi188_6⟩ := at_T30 (Kd.N_reads' HO_3.out).2.2 x15_1 p188 q188
               obtain rfl : ad185 = ad188 := (by injection e188)
               obtain ⟨ce188, hce188, hMe188, hcc188⟩ := Kd.N_get HO_3.out z30 x15_1 p188 (by first | exact q188 | exact of_decide_eq_true (by first | (with_reducible assumption) | assumption) | (have e_ := (Kd.N_reads' HO_3.out).1; omega))
               obtain ⟨ua188_6, uc188_6, rfl, ul188_6, ge188_6⟩ := k30_openF hMe188
               have hv188_6 := hcc188 6 _ rfl
               rw [add_field _ _ 6 (by omega)] at hv188_6
               replace hv188_6 := Option.some.inj (hv188_6.symm.trans hx188_6)
               injection hv188_6 with hva_ hvn_ hvc_
               rw [hva_] at ge188_6
               rw [hvc_] at ul188_6
               have HL188_6 := Aside0.mk (show Kd.V k30 30 _ w.heap.size _ _ ((rd_T30 t178 x15_1).f3) from Kd.V_mk ul188_6 ge188_6)
               clear hva_ hvn_ hvc_ ge188_6 ul188_6
               clear hcc188 hce188
               have HR188_6 := Aside0.mk hi188_6
               have HC188_6 := Aside0.mk hl188_6
               clear hi188_6 hl188_6
               replace p188 := eq_true p188
               replace q188 := eq_true q188
               have ea_ := Option.some.inj (hx185_6.symm.trans hx188_6)
               injection ea_ with ea_ en_ ec_
               subst ea_
               subst ec_
               clear en_
               have p189 : 0 ≤ (x15_1 : Int) := of_decide_eq_true (by first | (with_reducible assumption) | assumption)
               have q189 : x15_1 < (t178.length : Int) := of_decide_eq_true (by first | (with_reducible assumption) | assumption)
               obtain ⟨ad189, A189_6, c189_6, e189, hx189_0, hx189_1, hx189_2, hx189_3, hx189_4, hx189_5, hx189_6, hl189_6, hi189_6⟩ := at_T30 (Kd.N_reads' HO_3.out).2.2 x15_1 p189 q189
               obtain rfl : ad185 = ad189 := (by injection e189)
               obtain ⟨ce189, hce189, hMe189, hcc189⟩ := Kd.N_get HO_3.out z30 x15_1 p189 (by first | exact q189 | exact of_decide_eq_true (by first | (with_reducible assumption) | assumption) | (have e_ := (Kd.N_reads' HO_3.out).1; omega))
               obtain ⟨ua189_6, uc189_6, rfl, ul189_6, ge189_6⟩ := k30_openF hMe189
               have hv189_6 := hcc189 6 _ rfl
               rw [add_field _ _ 6 (by omega)] at hv189_6
               replace hv189_6 := Option.some.inj (hv189_6.symm.trans hx189_6)
               injection hv189_6 with hva_ hvn_ hvc_
               rw [hva_] at ge189_6
               rw [hvc_] at ul189_6
               have HL189_6 := Aside0.mk (show Kd.V k30 30 _ w.heap.size _ _ ((rd_T30 t178 x15_1).f3) from Kd.V_mk ul189_6 ge189_6)
               clear hva_ hvn_ hvc_ ge189_6 ul189_6
               clear hcc189 hce189
               have HR189_6 := Aside0.mk hi189_6
               have HC189_6 := Aside0.mk hl189_6
               clear hi189_6 hl189_6
               replace p189 := eq_true p189
               replace q189 := eq_true q189
               have ea_ := Option.some.inj (hx185_6.symm.trans hx189_6)
               injection ea_ with ea_ en_ ec_
               subst ea_
               subst ec_
               clear en_
               go_wp2
               go_roundg kj12
               case measure => have := HK1.out; have := HJ12.out; omega
               case rel => exact ⟨(wrap64 (x15_1 + 1)), (by first | rfl | (simp; done) | (simp [*]; done)), H', ⟨by have := HK1.out; have := HJ12.out; omega⟩, ⟨by (with_reducible repeat (first | apply Kd.N_alloc | apply Kd.N_drewN | apply Kd.N_drew)); exact HO_3.out⟩, ⟨by (with_reducible repeat (first | refine blk_drewN ?_ _ | refine blk_drew ?_ | refine blk_alloc ?_ _)); exact BK177.out⟩, ⟨by repeat (first | (with_reducible first | exact HB.out | apply below_alloc | apply pw_below_drewN | apply below_drew1 | refine below_set ?_ GE177.out) | exact HB.out)⟩⟩
          ·rw [if_neg c25] at H
           have c25b0 : (((rd_T30 t178 x15_1).f0) == 1) = false := beq_eq_false_iff_ne.mpr c25
           have c25b1 : (((rd_T30 t178 x15_1).f0) != 1) = true := bne_iff_ne.mpr c25
           by_cases c32 : ((rd_T30 t178 x15_1).f0) > 1
           ·rw [if_pos c32] at H
            have c32b0 : decide (1 < ((rd_T30 t178 x15_1).f0)) = true := decide_eq_true c32
            clear c32
            by_cases c33 : (((rd_T30 t178 x15_1).f3).length : Int) < 2
            ·rw [if_pos c33] at H
             have c33b0 : decide ((((rd_T30 t178 x15_1).f3).length : Int) < 2) = true := decide_eq_true c33
             have c33b1 : decide (((rd_T30 t178 x15_1).f3).length < 2) = true := decide_eq_true (by omega)
             clear c33
             obtain rfl := Option.some.inj H
             have p185 : 0 ≤ (x15_1 : Int) := of_decide_eq_true (by first | (with_reducible assumption) | assumption)
             have q185 : x15_1 < (t178.length : Int) := of_decide_eq_true (by first | (with_reducible assumption) | assumption)
             obtain ⟨ad185, A185_6, c185_6, e185, hx185_0, hx185_1, hx185_2, hx185_3, hx185_4, hx185_5, hx185_6, hl185_6, hi185_6⟩ := at_T30 (Kd.N_reads' HO_3.out).2.2 x15_1 p185 q185
             cases e185
             obtain ⟨ce185, hce185, hMe185, hcc185⟩ := Kd.N_get HO_3.out z30 x15_1 p185 (by first | exact q185 | exact of_decide_eq_true (by first | (with_reducible assumption) | assumption) | (have e_ := (Kd.N_reads' HO_3.out).1; omega))
             obtain ⟨ua185_6, uc185_6, rfl, ul185_6, ge185_6⟩ := k30_openF hMe185
             have hv185_6 := hcc185 6 _ rfl
             rw [add_field _ _ 6 (by omega)] at hv185_6
             replace hv185_6 := Option.some.inj (hv185_6.symm.trans hx185_6)
             injection hv185_6 with hva_ hvn_ hvc_
             rw [hva_] at ge185_6
             rw [hvc_] at ul185_6
             have HL185_6 := Aside0.mk (show Kd.V k30 30 _ w.heap.size _ _ ((rd_T30 t178 x15_1).f3) from Kd.V_mk ul185_6 ge185_6)
             clear hva_ hvn_ hvc_ ge185_6 ul185_6
             clear hcc185 hce185
             have HR185_6 := Aside0.mk hi185_6
             have HC185_6 := Aside0.mk hl185_6
             clear hi185_6 hl185_6
             replace p185 := eq_true p185
             replace q185 := eq_true q185
             have p192 : 0 ≤ (x15_1 : Int) := of_decide_eq_true (by first | (with_reducible assumption) | assumption)
             have q192 : x15_1 < (t178.length : Int) := of_decide_eq_true (by first | (with_reducible assumption) | assumption)
             obtain ⟨ad192, A192_6, c192_6, e192, hx192_0, hx192_1, hx192_2, hx192_3, hx192_4, hx192_5, hx192_6, hl192_6, hi192_6⟩ := at_T30 (Kd.N_reads' HO_3.out).2.2 x15_1 p192 q192
             obtain rfl : ad185 = ad192 := (by injection e192)
             obtain ⟨ce192, hce192, hMe192, hcc192⟩ := Kd.N_get HO_3.out z30 x15_1 p192 (by first | exact q192 | exact of_decide_eq_true (by first | (with_reducible assumption) | assumption) | (have e_ := (Kd.N_reads' HO_3.out).1; omega))
             obtain ⟨ua192_6, uc192_6, rfl, ul192_6, ge192_6⟩ := k30_openF hMe192
             have hv192_6 := hcc192 6 _ rfl
             rw [add_field _ _ 6 (by omega)] at hv192_6
             replace hv192_6 := Option.some.inj (hv192_6.symm.trans hx192_6)
             injection hv192_6 with hva_ hvn_ hvc_
             rw [hva_] at ge192_6
             rw [hvc_] at ul192_6
             have HL192_6 := Aside0.mk (show Kd.V k30 30 _ w.heap.size _ _ ((rd_T30 t178 x15_1).f3) from Kd.V_mk ul192_6 ge192_6)
             clear hva_ hvn_ hvc_ ge192_6 ul192_6
             clear hcc192 hce192
             have HR192_6 := Aside0.mk hi192_6
             have HC192_6 := Aside0.mk hl192_6
             clear hi192_6 hl192_6
             replace p192 := eq_true p192
             replace q192 := eq_true q192
             have ea_ := Option.some.inj (hx185_6.symm.trans hx192_6)
             injection ea_ with ea_ en_ ec_
             subst ea_
             subst ec_
             clear en_
             have p193 : 0 ≤ (x15_1 : Int) := of_decide_eq_true (by first | (with_reducible assumption) | assumption)
             have q193 : x15_1 < (t178.length : Int) := of_decide_eq_true (by first | (with_reducible assumption) | assumption)
             obtain ⟨ad193, A193_6, c193_6, e193, hx193_0, hx193_1, hx193_2, hx193_3, hx193_4, hx193_5, hx193_6, hl193_6, hi193_6⟩ := at_T30 (Kd.N_reads' HO_3.out).2.2 x15_1 p193 q193
             obtain rfl : ad185 = ad193 := (by injection e193)
             obtain ⟨ce193, hce193, hMe193, hcc193⟩ := Kd.N_get HO_3.out z30 x15_1 p193 (by first | exact q193 | exact of_decide_eq_true (by first | (with_reducible assumption) | assumption) | (have e_ := (Kd.N_reads' HO_3.out).1; omega))
             obtain ⟨ua193_6, uc193_6, rfl, ul193_6, ge193_6⟩ := k30_openF hMe193
             have hv193_6 := hcc193 6 _ rfl
             rw [add_field _ _ 6 (by omega)] at hv193_6
             replace hv193_6 := Option.some.inj (hv193_6.symm.trans hx193_6)
             injection hv193_6 with hva_ hvn_ hvc_
             rw [hva_] at ge193_6
             rw [hvc_] at ul193_6
             have HL193_6 := Aside0.mk (show Kd.V k30 30 _ w.heap.size _ _ ((rd_T30 t178 x15_1).f3) from Kd.V_mk ul193_6 ge193_6)
             clear hva_ hvn_ hvc_ ge193_6 ul193_6
             clear hcc193 hce193
             have HR193_6 := Aside0.mk hi193_6
             have HC193_6 := Aside0.mk hl193_6
             clear hi193_6 hl193_6
             replace p193 := eq_true p193
             replace q193 := eq_true q193
             have ea_ := Option.some.inj (hx185_6.symm.trans hx193_6)
             injection ea_ with ea_ en_ ec_
             subst ea_
             subst ec_
             clear en_
             go_wp2
             go_ret
             exact ⟨by first | rfl | (simp [errW_none, errW_some] <;> rfl) | (simp [*, errW_none, errW_some] <;> rfl), by repeat (first | (with_reducible first | exact HB.out | apply below_alloc | apply pw_below_drewN | apply below_drew1 | refine below_set ?_ GE177.out) | exact HB.out)⟩
            ·rw [if_neg c33] at H
             have c33b0 : decide ((((rd_T30 t178 x15_1).f3).length : Int) < 2) = false := decide_eq_false c33
             have c33b1 : decide (((rd_T30 t178 x15_1).f3).length < 2) = false := decide_eq_false (by omega)
             clear c33
             by_cases c34 : ((rd_T30 t178 x15_1).f2) = 0
             ·rw [if_pos c34] at H
              have c34b0 : (((rd_T30 t178 x15_1).f2) == 0) = true := beq_iff_eq.mpr c34
              have c34b1 : (((rd_T30 t178 x15_1).f2) != 0) = false := bne_eq_false_iff_eq.mpr c34
              clear c34
              have H' := Aside0.mk H
              clear H
              have p185 : 0 ≤ (x15_1 : Int) := of_decide_eq_true (by first | (with_reducible assumption) | assumption)
              have q185 : x15_1 < (t178.length : Int) := of_decide_eq_true (by first | (with_reducible assumption) | assumption)
              obtain ⟨ad185, A185_6, c185_6, e185, hx185_0, hx185_1, hx185_2, hx185_3, hx185_4, hx185_5, hx185_6, hl185_6, hi185_6⟩ := at_T30 (Kd.N_reads' HO_3.out).2.2 x15_1 p185 q185
              cases e185
              obtain ⟨ce185, hce185, hMe185, hcc185⟩ := Kd.N_get HO_3.out z30 x15_1 p185 (by first | exact q185 | exact of_decide_eq_true (by first | (with_reducible assumption) | assumption) | (have e_ := (Kd.N_reads' HO_3.out).1; omega))
              obtain ⟨ua185_6, uc185_6, rfl, ul185_6, ge185_6⟩ := k30_openF hMe185
              have hv185_6 := hcc185 6 _ rfl
              rw [add_field _ _ 6 (by omega)] at hv185_6
              replace hv185_6 := Option.some.inj (hv185_6.symm.trans hx185_6)
              injection hv185_6 with hva_ hvn_ hvc_
              rw [hva_] at ge185_6
              rw [hvc_] at ul185_6
              have HL185_6 := Aside0.mk (show Kd.V k30 30 _ w.heap.size _ _ ((rd_T30 t178 x15_1).f3) from Kd.V_mk ul185_6 ge185_6)
              clear hva_ hvn_ hvc_ ge185_6 ul185_6
              clear hcc185 hce185
              have HR185_6 := Aside0.mk hi185_6
              have HC185_6 := Aside0.mk hl185_6
              clear hi185_6 hl185_6
              replace p185 := eq_true p185
              replace q185 := eq_true q185
              have p192 : 0 ≤ (x15_1 : Int) := of_decide_eq_true (by first | (with_reducible assumption) | assumption)
              have q192 : x15_1 < (t178.length : Int) := of_decide_eq_true (by first | (with_reducible assumption) | assumption)
              obtain ⟨ad192, A192_6, c192_6, e192, hx192_0, hx192_1, hx192_2, hx192_3, hx192_4, hx192_5, hx192_6, hl192_6, hi192_6⟩ := at_T30 (Kd.N_reads' HO_3.out).2.2 x15_1 p192 q192
              obtain rfl : ad185 = ad192 := (by injection e192)
              obtain ⟨ce192, hce192, hMe192, hcc192⟩ := Kd.N_get HO_3.out z30 x15_1 p192 (by first | exact q192 | exact of_decide_eq_true (by first | (with_reducible assumption) | assumption) | (have e_ := (Kd.N_reads' HO_3.out).1; omega))
              obtain ⟨ua192_6, uc192_6, rfl, ul192_6, ge192_6⟩ := k30_openF hMe192
              have hv192_6 := hcc192 6 _ rfl
              rw [add_field _ _ 6 (by omega)] at hv192_6
              replace hv192_6 := Option.some.inj (hv192_6.symm.trans hx192_6)
              injection hv192_6 with hva_ hvn_ hvc_
              rw [hva_] at ge192_6
              rw [hvc_] at ul192_6
              have HL192_6 := Aside0.mk (show Kd.V k30 30 _ w.heap.size _ _ ((rd_T30 t178 x15_1).f3) from Kd.V_mk ul192_6 ge192_6)
              clear hva_ hvn_ hvc_ ge192_6 ul192_6
              clear hcc192 hce192
              have HR192_6 := Aside0.mk hi192_6
              have HC192_6 := Aside0.mk hl192_6
              clear hi192_6 hl192_6
              replace p192 := eq_true p192
              replace q192 := eq_true q192
              have ea_ := Option.some.inj (hx185_6.symm.trans hx192_6)
              injection ea_ with ea_ en_ ec_
              subst ea_
              subst ec_
              clear en_
              have p193 : 0 ≤ (x15_1 : Int) := of_decide_eq_true (by first | (with_reducible assumption) | assumption)
              have q193 : x15_1 < (t178.length : Int) := of_decide_eq_true (by first | (with_reducible assumption) | assumption)
              obtain ⟨ad193, A193_6, c193_6, e193, hx193_0, hx193_1, hx193_2, hx193_3, hx193_4, hx193_5, hx193_6, hl193_6, hi193_6⟩ := at_T30 (Kd.N_reads' HO_3.out).2.2 x15_1 p193 q193
              obtain rfl : ad185 = ad193 := (by injection e193)
              obtain ⟨ce193, hce193, hMe193, hcc193⟩ := Kd.N_get HO_3.out z30 x15_1 p193 (by first | exact q193 | exact of_decide_eq_true (by first | (with_reducible assumption) | assumption) | (have e_ := (Kd.N_reads' HO_3.out).1; omega))
              obtain ⟨ua193_6, uc193_6, rfl, ul193_6, ge193_6⟩ := k30_openF hMe193
              have hv193_6 := hcc193 6 _ rfl
              rw [add_field _ _ 6 (by omega)] at hv193_6
              replace hv193_6 := Option.some.inj (hv193_6.symm.trans hx193_6)
              injection hv193_6 with hva_ hvn_ hvc_
              rw [hva_] at ge193_6
              rw [hvc_] at ul193_6
              have HL193_6 := Aside0.mk (show Kd.V k30 30 _ w.heap.size _ _ ((rd_T30 t178 x15_1).f3) from Kd.V_mk ul193_6 ge193_6)
              clear hva_ hvn_ hvc_ ge193_6 ul193_6
              clear hcc193 hce193
              have HR193_6 := Aside0.mk hi193_6
              have HC193_6 := Aside0.mk hl193_6
              clear hi193_6 hl193_6
              replace p193 := eq_true p193
              replace q193 := eq_true q193
              have ea_ := Option.some.inj (hx185_6.symm.trans hx193_6)
              injection ea_ with ea_ en_ ec_
              subst ea_
              subst ec_
              clear en_
              have p194 : 0 ≤ (x15_1 : Int) := of_decide_eq_true (by first | (with_reducible assumption) | assumption)
              have q194 : x15_1 < (t178.length : Int) := of_decide_eq_true (by first | (with_reducible assumption) | assumption)
              obtain ⟨ad194, A194_6, c194_6, e194, hx194_0, hx194_1, hx194_2, hx194_3, hx194_4, hx194_5, hx194_6, hl194_6, hi194_6⟩ := at_T30 (Kd.N_reads' HO_3.out).2.2 x15_1 p194 q194
              obtain rfl : ad185 = ad194 := (by injection e194)
              obtain ⟨ce194, hce194, hMe194, hcc194⟩ := Kd.N_get HO_3.out z30 x15_1 p194 (by first | exact q194 | exact of_decide_eq_true (by first | (with_reducible assumption) | assumption) | (have e_ := (Kd.N_reads' HO_3.out).1; omega))
              obtain ⟨ua194_6, uc194_6, rfl, ul194_6, ge194_6⟩ := k30_openF hMe194
              have hv194_6 := hcc194 6 _ rfl
              rw [add_field _ _ 6 (by omega)] at hv194_6
              replace hv194_6 := Option.some.inj (hv194_6.symm.trans hx194_6)
              injection hv194_6 with hva_ hvn_ hvc_
              rw [hva_] at ge194_6
              rw [hvc_] at ul194_6
              have HL194_6 := Aside0.mk (show Kd.V k30 30 _ w.heap.size _ _ ((rd_T30 t178 x15_1).f3) from Kd.V_mk ul194_6 ge194_6)
              clear hva_ hvn_ hvc_ ge194_6 ul194_6
              clear hcc194 hce194
              have HR194_6 := Aside0.mk hi194_6
              have HC194_6 := Aside0.mk hl194_6
              clear hi194_6 hl194_6
              replace p194 := eq_true p194
              replace q194 := eq_true q194
              have ea_ := Option.some.inj (hx185_6.symm.trans hx194_6)
              injection ea_ with ea_ en_ ec_
              subst ea_
              subst ec_
              clear en_
              go_wp2
              go_roundg kj12
              case measure => have := HK1.out; have := HJ12.out; omega
              case rel => exact ⟨(wrap64 (x15_1 + 1)), (by first | rfl | (simp; done) | (simp [*]; done)), H', ⟨by have := HK1.out; have := HJ12.out; omega⟩, ⟨by (with_reducible repeat (first | apply Kd.N_alloc | apply Kd.N_drewN | apply Kd.N_drew)); exact HO_3.out⟩, ⟨by (with_reducible repeat (first | refine blk_drewN ?_ _ | refine blk_drew ?_ | refine blk_alloc ?_ _)); exact BK177.out⟩, ⟨by repeat (first | (with_reducible first | exact HB.out | apply below_alloc | apply pw_below_drewN | apply below_drew1 | refine below_set ?_ GE177.out) | exact HB.out)⟩⟩
             ·rw [if_neg c34] at H
              have c34b0 : (((rd_T30 t178 x15_1).f2) == 0) = false := beq_eq_false_iff_ne.mpr c34
              have c34b1 : (((rd_T30 t178 x15_1).f2) != 0) = true := bne_iff_ne.mpr c34
              obtain rfl := Option.some.inj H
              have p185 : 0 ≤ (x15_1 : Int) := of_decide_eq_true (by first | (with_reducible assumption) | assumption)
              have q185 : x15_1 < (t178.length : Int) := of_decide_eq_true (by first | (with_reducible assumption) | assumption)
              obtain ⟨ad185, A185_6, c185_6, e185, hx185_0, hx185_1, hx185_2, hx185_3, hx185_4, hx185_5, hx185_6, hl185_6, hi185_6⟩ := at_T30 (Kd.N_reads' HO_3.out).2.2 x15_1 p185 q185
              cases e185
              obtain ⟨ce185, hce185, hMe185, hcc185⟩ := Kd.N_get HO_3.out z30 x15_1 p185 (by first | exact q185 | exact of_decide_eq_true (by first | (with_reducible assumption) | assumption) | (have e_ := (Kd.N_reads' HO_3.out).1; omega))
              obtain ⟨ua185_6, uc185_6, rfl, ul185_6, ge185_6⟩ := k30_openF hMe185
              have hv185_6 := hcc185 6 _ rfl
              rw [add_field _ _ 6 (by omega)] at hv185_6
              replace hv185_6 := Option.some.inj (hv185_6.symm.trans hx185_6)
              injection hv185_6 with hva_ hvn_ hvc_
              rw [hva_] at ge185_6
              rw [hvc_] at ul185_6
              have HL185_6 := Aside0.mk (show Kd.V k30 30 _ w.heap.size _ _ ((rd_T30 t178 x15_1).f3) from Kd.V_mk ul185_6 ge185_6)
              clear hva_ hvn_ hvc_ ge185_6 ul185_6
              clear hcc185 hce185
              have HR185_6 := Aside0.mk hi185_6
              have HC185_6 := Aside0.mk hl185_6
              clear hi185_6 hl185_6
              replace p185 := eq_true p185
              replace q185 := eq_true q185
              have p192 : 0 ≤ (x15_1 : Int) := of_decide_eq_true (by first | (with_reducible assumption) | assumption)
              have q192 : x15_1 < (t178.length : Int) := of_decide_eq_true (by first | (with_reducible assumption) | assumption)
              obtain ⟨ad192, A192_6, c192_6, e192, hx192_0, hx192_1, hx192_2, hx192_3, hx192_4, hx192_5, hx192_6, hl192_6, hi192_6⟩ := at_T30 (Kd.N_reads' HO_3.out).2.2 x15_1 p192 q192
              obtain rfl : ad185 = ad192 := (by injection e192)
              obtain ⟨ce192, hce192, hMe192, hcc192⟩ := Kd.N_get HO_3.out z30 x15_1 p192 (by first | exact q192 | exact of_decide_eq_true (by first | (with_reducible assumption) | assumption) | (have e_ := (Kd.N_reads' HO_3.out).1; omega))
              obtain ⟨ua192_6, uc192_6, rfl, ul192_6, ge192_6⟩ := k30_openF hMe192
              have hv192_6 := hcc192 6 _ rfl
              rw [add_field _ _ 6 (by omega)] at hv192_6
              replace hv192_6 := Option.some.inj (hv192_6.symm.trans hx192_6)
              injection hv192_6 with hva_ hvn_ hvc_
              rw [hva_] at ge192_6
              rw [hvc_] at ul192_6
              have HL192_6 := Aside0.mk (show Kd.V k30 30 _ w.heap.size _ _ ((rd_T30 t178 x15_1).f3) from Kd.V_mk ul192_6 ge192_6)
              clear hva_ hvn_ hvc_ ge192_6 ul192_6
              clear hcc192 hce192
              have HR192_6 := Aside0.mk hi192_6
              have HC192_6 := Aside0.mk hl192_6
              clear hi192_6 hl192_6
              replace p192 := eq_true p192
              replace q192 := eq_true q192
              have ea_ := Option.some.inj (hx185_6.symm.trans hx192_6)
              injection ea_ with ea_ en_ ec_
              subst ea_
              subst ec_
              clear en_
              have p193 : 0 ≤ (x15_1 : Int) := of_decide_eq_true (by first | (with_reducible assumption) | assumption)
              have q193 : x15_1 < (t178.length : Int) := of_decide_eq_true (by first | (with_reducible assumption) | assumption)
              obtain ⟨ad193, A193_6, c193_6, e193, hx193_0, hx193_1, hx193_2, hx193_3, hx193_4, hx193_5, hx193_6, hl193_6, hi193_6⟩ := at_T30 (Kd.N_reads' HO_3.out).2.2 x15_1 p193 q193
              obtain rfl : ad185 = ad193 := (by injection e193)
              obtain ⟨ce193, hce193, hMe193, hcc193⟩ := Kd.N_get HO_3.out z30 x15_1 p193 (by first | exact q193 | exact of_decide_eq_true (by first | (with_reducible assumption) | assumption) | (have e_ := (Kd.N_reads' HO_3.out).1; omega))
              obtain ⟨ua193_6, uc193_6, rfl, ul193_6, ge193_6⟩ := k30_openF hMe193
              have hv193_6 := hcc193 6 _ rfl
              rw [add_field _ _ 6 (by omega)] at hv193_6
              replace hv193_6 := Option.some.inj (hv193_6.symm.trans hx193_6)
              injection hv193_6 with hva_ hvn_ hvc_
              rw [hva_] at ge193_6
              rw [hvc_] at ul193_6
              have HL193_6 := Aside0.mk (show Kd.V k30 30 _ w.heap.size _ _ ((rd_T30 t178 x15_1).f3) from Kd.V_mk ul193_6 ge193_6)
              clear hva_ hvn_ hvc_ ge193_6 ul193_6
              clear hcc193 hce193
              have HR193_6 := Aside0.mk hi193_6
              have HC193_6 := Aside0.mk hl193_6
              clear hi193_6 hl193_6
              replace p193 := eq_true p193
              replace q193 := eq_true q193
              have ea_ := Option.some.inj (hx185_6.symm.trans hx193_6)
              injection ea_ with ea_ en_ ec_
              subst ea_
              subst ec_
              clear en_
              have p194 : 0 ≤ (x15_1 : Int) := of_decide_eq_true (by first | (with_reducible assumption) | assumption)
              have q194 : x15_1 < (t178.length : Int) := of_decide_eq_true (by first | (with_reducible assumption) | assumption)
              obtain ⟨ad194, A194_6, c194_6, e194, hx194_0, hx194_1, hx194_2, hx194_3, hx194_4, hx194_5, hx194_6, hl194_6, hi194_6⟩ := at_T30 (Kd.N_reads' HO_3.out).2.2 x15_1 p194 q194
              obtain rfl : ad185 = ad194 := (by injection e194)
              obtain ⟨ce194, hce194, hMe194, hcc194⟩ := Kd.N_get HO_3.out z30 x15_1 p194 (by first | exact q194 | exact of_decide_eq_true (by first | (with_reducible assumption) | assumption) | (have e_ := (Kd.N_reads' HO_3.out).1; omega))
              obtain ⟨ua194_6, uc194_6, rfl, ul194_6, ge194_6⟩ := k30_openF hMe194
              have hv194_6 := hcc194 6 _ rfl
              rw [add_field _ _ 6 (by omega)] at hv194_6
              replace hv194_6 := Option.some.inj (hv194_6.symm.trans hx194_6)
              injection hv194_6 with hva_ hvn_ hvc_
              rw [hva_] at ge194_6
              rw [hvc_] at ul194_6
              have HL194_6 := Aside0.mk (show Kd.V k30 30 _ w.heap.size _ _ ((rd_T30 t178 x15_1).f3) from Kd.V_mk ul194_6 ge194_6)
              clear hva_ hvn_ hvc_ ge194_6 ul194_6
              clear hcc194 hce194
              have HR194_6 := Aside0.mk hi194_6
              have HC194_6 := Aside0.mk hl194_6
              clear hi194_6 hl194_6
              replace p194 := eq_true p194
              replace q194 := eq_true q194
              have ea_ := Option.some.inj (hx185_6.symm.trans hx194_6)
              injection ea_ with ea_ en_ ec_
              subst ea_
              subst ec_
              clear en_
              go_wp2
              go_ret
              exact ⟨by first | rfl | (simp [errW_none, errW_some] <;> rfl) | (simp [*, errW_none, errW_some] <;> rfl), by repeat (first | (with_reducible first | exact HB.out | apply below_alloc | apply pw_below_drewN | apply below_drew1 | refine below_set ?_ GE177.out) | exact HB.out)⟩
           ·rw [if_neg c32] at H
            have c32b0 : decide (1 < ((rd_T30 t178 x15_1).f0)) = false := decide_eq_false c32
            clear c32
            have H' := Aside0.mk H
            clear H
            have p185 : 0 ≤ (x15_1 : Int) := of_decide_eq_true (by first | (with_reducible assumption) | assumption)
            have q185 : x15_1 < (t178.length : Int) := of_decide_eq_true (by first | (with_reducible assumption) | assumption)
            obtain ⟨ad185, A185_6, c185_6, e185, hx185_0, hx185_1, hx185_2, hx185_3, hx185_4, hx185_5, hx185_6, hl185_6, hi185_6⟩ := at_T30 (Kd.N_reads' HO_3.out).2.2 x15_1 p185 q185
            cases e185
            obtain ⟨ce185, hce185, hMe185, hcc185⟩ := Kd.N_get HO_3.out z30 x15_1 p185 (by first | exact q185 | exact of_decide_eq_true (by first | (with_reducible assumption) | assumption) | (have e_ := (Kd.N_reads' HO_3.out).1; omega))
            obtain ⟨ua185_6, uc185_6, rfl, ul185_6, ge185_6⟩ := k30_openF hMe185
            have hv185_6 := hcc185 6 _ rfl
            rw [add_field _ _ 6 (by omega)] at hv185_6
            replace hv185_6 := Option.some.inj (hv185_6.symm.trans hx185_6)
            injection hv185_6 with hva_ hvn_ hvc_
            rw [hva_] at ge185_6
            rw [hvc_] at ul185_6
            have HL185_6 := Aside0.mk (show Kd.V k30 30 _ w.heap.size _ _ ((rd_T30 t178 x15_1).f3) from Kd.V_mk ul185_6 ge185_6)
            clear hva_ hvn_ hvc_ ge185_6 ul185_6
            clear hcc185 hce185
            have HR185_6 := Aside0.mk hi185_6
            have HC185_6 := Aside0.mk hl185_6
            clear hi185_6 hl185_6
            replace p185 := eq_true p185
            replace q185 := eq_true q185
            have p192 : 0 ≤ (x15_1 : Int) := of_decide_eq_true (by first | (with_reducible assumption) | assumption)
            have q192 : x15_1 < (t178.length : Int) := of_decide_eq_true (by first | (with_reducible assumption) | assumption)
            obtain ⟨ad192, A192_6, c192_6, e192, hx192_0, hx192_1, hx192_2, hx192_3, hx192_4, hx192_5, hx192_6, hl192_6, hi192_6⟩ := at_T30 (Kd.N_reads' HO_3.out).2.2 x15_1 p192 q192
            obtain rfl : ad185 = ad192 := (by injection e192)
            obtain ⟨ce192, hce192, hMe192, hcc192⟩ := Kd.N_get HO_3.out z30 x15_1 p192 (by first | exact q192 | exact of_decide_eq_true (by first | (with_reducible assumption) | assumption) | (have e_ := (Kd.N_reads' HO_3.out).1; omega))
            obtain ⟨ua192_6, uc192_6, rfl, ul192_6, ge192_6⟩ := k30_openF hMe192
            have hv192_6 := hcc192 6 _ rfl
            rw [add_field _ _ 6 (by omega)] at hv192_6
            replace hv192_6 := Option.some.inj (hv192_6.symm.trans hx192_6)
            injection hv192_6 with hva_ hvn_ hvc_
            rw [hva_] at ge192_6
            rw [hvc_] at ul192_6
            have HL192_6 := Aside0.mk (show Kd.V k30 30 _ w.heap.size _ _ ((rd_T30 t178 x15_1).f3) from Kd.V_mk ul192_6 ge192_6)
            clear hva_ hvn_ hvc_ ge192_6 ul192_6
            clear hcc192 hce192
            have HR192_6 := Aside0.mk hi192_6
            have HC192_6 := Aside0.mk hl192_6
            clear hi192_6 hl192_6
            replace p192 := eq_true p192
            replace q192 := eq_true q192
            have ea_ := Option.some.inj (hx185_6.symm.trans hx192_6)
            injection ea_ with ea_ en_ ec_
            subst ea_
            subst ec_
            clear en_
            go_wp2
            go_roundg kj12
            case measure => have := HK1.out; have := HJ12.out; omega
            case rel => exact ⟨(wrap64 (x15_1 + 1)), (by first | rfl | (simp; done) | (simp [*]; done)), H', ⟨by have := HK1.out; have := HJ12.out; omega⟩, ⟨by (with_reducible repeat (first | apply Kd.N_alloc | apply Kd.N_drewN | apply Kd.N_drew)); exact HO_3.out⟩, ⟨by (with_reducible repeat (first | refine blk_drewN ?_ _ | refine blk_drew ?_ | refine blk_alloc ?_ _)); exact BK177.out⟩, ⟨by repeat (first | (with_reducible first | exact HB.out | apply below_alloc | apply pw_below_drewN | apply below_drew1 | refine below_set ?_ GE177.out) | exact HB.out)⟩⟩
         ·rw [if_neg c24] at H
          exact absurd H (by simp)
        ·rw [if_neg c23] at H
         exact absurd H (by simp)
    ·rw [if_neg c12] at H
     have c12b0 : decide (x15_1 < (t178.length : Int)) = false := decide_eq_false c12
     clear c12
     replace H := Option.bind_eq_some_iff.mp H
     obtain ⟨t195, A350, H⟩ := H
     replace H : (sashref05_May.l1 k1 t195 (t195.length : Int) 0) = some r := H
     have A35 := Aside0.mk A350
     clear A350
     have H' := Aside0.mk H
     clear H
     have hcz36_0 : wr.cell? ⟨gb177, 0, none⟩ = some (.int .u8 a0_0) := (blk_cell BK177.out 0).trans rfl
     have hcz36_1 : wr.cell? ⟨gb177, 1, none⟩ = some (.int .i64 a0_1) := (blk_cell BK177.out 1).trans rfl
     have hcz36_2 : wr.cell? ⟨gb177, 2, none⟩ = some (.int .i64 a0_2) := (blk_cell BK177.out 2).trans rfl
     have hcz36_3 : wr.cell? ⟨gb177, 3, none⟩ = some (.int .i64 a0_3) := (blk_cell BK177.out 3).trans rfl
     have hcz36_4 : wr.cell? ⟨gb177, 4, none⟩ = some (.int .i64 a0_4) := (blk_cell BK177.out 4).trans rfl
     have hcz36_5 : wr.cell? ⟨gb177, 5, none⟩ = some (.int .i64 a0_5) := (blk_cell BK177.out 5).trans rfl
     have hcz36_6 : wr.cell? ⟨gb177, 6, none⟩ = some (.slice A0_6 l0_6.length c0_6) := (blk_cell BK177.out 6).trans rfl
     have hfz36_0 := blk_frozen BK177.out 0
     have hfz36_1 := blk_frozen BK177.out 1
     have hfz36_2 := blk_frozen BK177.out 2
     have hfz36_3 := blk_frozen BK177.out 3
     have hfz36_4 := blk_frozen BK177.out 4
     have hfz36_5 := blk_frozen BK177.out 5
     have hfz36_6 := blk_frozen BK177.out 6
     go_wp2_with (first | (go_at_call 45; (with_reducible refine (sashref05_Leaves.calls k1 a0_0 a0_1 a0_2 a0_3 a0_4 a0_5 (fun k_ => k_ < w.heap.size) _ _ l0_6 t195 _ ?side1 A35.out).mono ?_); (case side1 => exact Kd.V_mk HC0_6.out (Kd.F_below (Kd.C_F k30_heap HR0_6.out) (by repeat (first | (with_reducible first | exact HB.out | apply below_alloc | apply pw_below_drewN | apply below_drew1 | refine below_set ?_ GE177.out) | exact HB.out)))); rintro e w37 ⟨v196, rfl, ho0, hb⟩; have n0_ := Aside0.mk (Kd.N_elder' (by (with_reducible repeat (first | apply Kd.N_alloc | apply Kd.N_drewN | apply Kd.N_drew)); exact HO_3.out) (Kd.N_base ho0) hb); have n1_ := Aside0.mk (Kd.N_lower (Kd.N_mono (ok' := fun k_ => some k_ ≠ (.slice Ao11 t178.length co11 : Value).ownBlock ∧ k_ ≠ gb177) ho0 (fun k_ hk_ => ⟨Or.elim hk_ (fun hs_ => fun e_ => Nat.not_le.2 hs_ (Kd.N_base HO_3.out k_ e_.symm)) (fun hn_ => (Kd.fresh' (Kd.N_lt (by (with_reducible repeat (first | apply Kd.N_alloc | apply Kd.N_drewN | apply Kd.N_drew)); exact HO_3.out)) k_ hn_)), Or.elim hk_ (fun hs_ => fun e_ => Nat.not_le.2 hs_ (by rw [e_]; exact GW177.out)) (fun hn_ => (Kd.freshB (g := gb177) (o := .cells #[.int .u8 a0_0, .int .i64 a0_1, .int .i64 a0_2, .int .i64 a0_3, .int .i64 a0_4, .int .i64 a0_5, .slice A0_6 l0_6.length c0_6] 30 (0, 0)) (by (with_reducible repeat (first | refine blk_drewN ?_ _ | refine blk_drew ?_ | refine blk_alloc ?_ _)); exact BK177.out) k_ hn_))⟩)) (below_size (by repeat (first | (with_reducible first | exact HB.out | apply below_alloc | apply pw_below_drewN | apply below_drew1 | refine below_set ?_ GE177.out) | exact HB.out)))); have n2_ := Aside0.mk (blk_below (g := gb177) (o := .cells #[.int .u8 a0_0, .int .i64 a0_1, .int .i64 a0_2, .int .i64 a0_3, .int .i64 a0_4, .int .i64 a0_5, .slice A0_6 l0_6.length c0_6] 30 (0, 0)) (by (with_reducible repeat (first | refine blk_drewN ?_ _ | refine blk_drew ?_ | refine blk_alloc ?_ _)); exact BK177.out) hb); have n3_ := Aside0.mk (below_step (by repeat (first | (with_reducible first | exact HB.out | apply below_alloc | apply pw_below_drewN | apply below_drew1 | refine below_set ?_ GE177.out) | exact HB.out)) hb); clear HO_3; clear BK177; clear HB; have HO_3 := n0_; have HO197 := n1_; have BK177 := n2_; have HB := n3_; clear n0_ n1_ n2_ n3_; (try clear hb); (try clear hb2); (try clear hk); (try clear hi); (try clear ho0); obtain ⟨Ao38, co38, eo38⟩ := Kd.N_slice HO197.out; subst eo38))
     go_loopg [102] k1 (fun kq v102 w' => ∃ (x102_2 : Int), v102 = .int .i64 x102_2 ∧ Aside0 (sashref05_May.l1 kq t195 (t195.length : Int) x102_2 = some r) ∧ Aside0 (kq ≤ k1) ∧ Aside0 (Kd.N k30 30 w' w.heap.size (fun k_ => k_ ≠ gb177) (.slice Ao38 t195.length co38) t195) ∧ Aside0 (w'.heap[gb177]? = some (.cells #[.int .u8 a0_0, .int .i64 a0_1, .int .i64 a0_2, .int .i64 a0_3, .int .i64 a0_4, .int .i64 a0_5, (.slice A0_6 l0_6.length c0_6)] 30 (0, 0))) ∧ Aside0 (Below w.heap.size w w'))
     case atStart => exact ⟨(0), (by first | rfl | (simp; done) | (simp [*]; done)), H', ⟨Nat.le_refl _⟩, ⟨by (with_reducible repeat (first | apply Kd.N_alloc | apply Kd.N_drewN | apply Kd.N_drew)); exact Kd.N_mono HO197.out (fun _ hk => hk.2)⟩, ⟨by (with_reducible repeat (first | refine blk_drewN ?_ _ | refine blk_drew ?_ | refine blk_alloc ?_ _)); exact BK177.out⟩, ⟨by repeat (first | (with_reducible first | exact HB.out | apply below_alloc | apply pw_below_drewN | apply below_drew1 | refine below_set ?_ GE177.out) | exact HB.out)⟩⟩
     case round =>
      clear H'
      try clear c1
      try clear p1
      try clear q1
      try clear hx1
      try clear c2
      try clear p2
      try clear c3
      try clear p6
      try clear c12
      try clear c12b0
      try clear c18
      try clear p18
      try clear q18
      try clear hx18
      try clear c19
      try clear p19
      try clear q19
      try clear hx19
      try clear c23
      try clear c24
      try clear c25
      try clear c25b0
      try clear c25b1
      try clear c29
      try clear c29b0
      try clear c32
      try clear c32b0
      try clear c33
      try clear c33b0
      try clear c33b1
      try clear c34
      try clear c34b0
      try clear c34b1
      try clear hcz36_0
      try clear hcz36_1
      try clear hcz36_2
      try clear hcz36_3
      try clear hcz36_4
      try clear hcz36_5
      try clear hcz36_6
      try clear hfz36_0
      try clear hfz36_1
      try clear hfz36_2
      try clear hfz36_3
      try clear hfz36_4
      try clear hfz36_5
      try clear hfz36_6
      try clear hx185_0
      try clear hx185_1
      try clear hx185_2
      try clear hx185_3
      try clear hx185_4
      try clear hx185_5
      try clear hx185_6
      try clear hx186_0
      try clear hx186_1
      try clear hx186_2
      try clear hx186_3
      try clear hx186_4
      try clear hx186_5
      try clear hx186_6
      try clear hx187_0
      try clear hx187_1
      try clear hx187_2
      try clear hx187_3
      try clear hx187_4
      try clear hx187_5
      try clear hx187_6
      try clear hx188_0
      try clear hx188_1
      try clear hx188_2
      try clear hx188_3
      try clear hx188_4
      try clear hx188_5
      try clear hx188_6
      try clear hx189_0
      try clear hx189_1
      try clear hx189_2
      try clear hx189_3
      try clear hx189_4
      try clear hx189_5
      try clear hx189_6
      try clear hx190_0
      try clear hx190_1
      try clear hx190_2
      try clear hx190_3
      try clear hx190_4
      try clear hx190_5
      try clear hx190_6
      try clear hx191_0
      try clear hx191_1
      try clear hx191_2
      try clear hx191_3
      try clear hx191_4
      try clear hx191_5
      try clear hx191_6
      try clear hx192_0
      try clear hx192_1
      try clear hx192_2
      try clear hx192_3
      try clear hx192_4
      try clear hx192_5
      try clear hx192_6
      try clear hx193_0
      try clear hx193_1
      try clear hx193_2
      try clear hx193_3
      try clear hx193_4
      try clear hx193_5
      try clear hx193_6
      try clear hx194_0
      try clear hx194_1
      try clear hx194_2
      try clear hx194_3
      try clear hx194_4
      try clear hx194_5
      try clear hx194_6
      try clear p185
      try clear p186
      try clear p187
      try clear p188
      try clear p189
      try clear p190
      try clear p191
      try clear p192
      try clear p193
      try clear p194
      try clear q185
      try clear q186
      try clear q187
      try clear q188
      try clear q189
      try clear q190
      try clear q191
      try clear q192
      try clear q193
      try clear q194
      obtain ⟨x102_2, rfl, HA, HK2, HO_5, BK177, HB⟩ := hrel
      cases gk with
      | zero => exact absurd HA.out (by simp [sashref05_May.l1])
      | succ k2 =>
       have H := HA.out
       clear HA
       simp only [sashref05_May.l1] at H
       by_cases c39 : x102_2 < (t195.length : Int)
       ·rw [if_pos c39] at H
        have c39b0 : decide (x102_2 < (t195.length : Int)) = true := decide_eq_true c39
        clear c39
        have H' := Aside0.mk H
        clear H
        go_wp2
        go_loopg [7] k2 (fun kq v7 w' => ∃ (x7_3 : Int), v7 = .int .i64 x7_3 ∧ Aside0 (sashref05_May.l2 kq t195 x102_2 x7_3 (t195.length : Int) x102_2 = some r) ∧ Aside0 (kq ≤ k2) ∧ Aside0 (Kd.N k30 30 w' w.heap.size (fun k_ => k_ ≠ gb177) (.slice Ao38 t195.length co38) t195) ∧ Aside0 (w'.heap[gb177]? = some (.cells #[.int .u8 a0_0, .int .i64 a0_1, .int .i64 a0_2, .int .i64 a0_3, .int .i64 a0_4, .int .i64 a0_5, (.slice A0_6 l0_6.length c0_6)] 30 (0, 0))) ∧ Aside0 (Below w.heap.size w w'))
        case atStart => exact ⟨(0), (by first | rfl | (simp; done) | (simp [*]; done)), H', ⟨Nat.le_refl _⟩, ⟨by (with_reducible repeat (first | apply Kd.N_alloc | apply Kd.N_drewN | apply Kd.N_drew)); exact HO_5.out⟩, ⟨by (with_reducible repeat (first | refine blk_drewN ?_ _ | refine blk_drew ?_ | refine blk_alloc ?_ _)); exact BK177.out⟩, ⟨by repeat (first | (with_reducible first | exact HB.out | apply below_alloc | apply pw_below_drewN | apply below_drew1 | refine below_set ?_ GE177.out) | exact HB.out)⟩⟩
        case round =>
         clear H'
         try clear c1
         try clear p1
         try clear q1
         try clear hx1
         try clear c2
         try clear p2
         try clear c3
         try clear p6
         try clear c12
         try clear c12b0
         try clear c18
         try clear p18
         try clear q18
         try clear hx18
         try clear c19
         try clear p19
         try clear q19
         try clear hx19
         try clear c23
         try clear c24
         try clear c25
         try clear c25b0
         try clear c25b1
         try clear c29
         try clear c29b0
         try clear c32
         try clear c32b0
         try clear c33
         try clear c33b0
         try clear c33b1
         try clear c34
         try clear c34b0
         try clear c34b1
         try clear c39
         try clear c39b0
         try clear hcz36_0
         try clear hcz36_1
         try clear hcz36_2
         try clear hcz36_3
         try clear hcz36_4
         try clear hcz36_5
         try clear hcz36_6
         try clear hfz36_0
         try clear hfz36_1
         try clear hfz36_2
         try clear hfz36_3
         try clear hfz36_4
         try clear hfz36_5
         try clear hfz36_6
         try clear hx185_0
         try clear hx185_1
         try clear hx185_2
         try clear hx185_3
         try clear hx185_4
         try clear hx185_5
         try clear hx185_6
         try clear hx186_0
         try clear hx186_1
         try clear hx186_2
         try clear hx186_3
         try clear hx186_4
         try clear hx186_5
         try clear hx186_6
         try clear hx187_0
         try clear hx187_1
         try clear hx187_2
         try clear hx187_3
         try clear hx187_4
         try clear hx187_5
         try clear hx187_6
         try clear hx188_0
         try clear hx188_1
         try clear hx188_2
         try clear hx188_3
         try clear hx188_4
         try clear hx188_5
         try clear hx188_6
         try clear hx189_0
         try clear hx189_1
         try clear hx189_2
         try clear hx189_3
         try clear hx189_4
         try clear hx189_5
         try clear hx189_6
         try clear hx190_0
         try clear hx190_1
         try clear hx190_2
         try clear hx190_3
         try clear hx190_4
         try clear hx190_5
         try clear hx190_6
         try clear hx191_0
         try clear hx191_1
         try clear hx191_2
         try clear hx191_3
         try clear hx191_4
         try clear hx191_5
         try clear hx191_6
         try clear hx192_0
         try clear hx192_1
         try clear hx192_2
         try clear hx192_3
         try clear hx192_4
         try clear hx192_5
         try clear hx192_6
         try clear hx193_0
         try clear hx193_1
         try clear hx193_2
         try clear hx193_3
         try clear hx193_4
         try clear hx193_5
         try clear hx193_6
         try clear hx194_0
         try clear hx194_1
         try clear hx194_2
         try clear hx194_3
         try clear hx194_4
         try clear hx194_5
         try clear hx194_6
         try clear p1
         try clear p18
         try clear p185
         try clear p186
         try clear p187
         try clear p188
         try clear p189
         try clear p19
         try clear p190
         try clear p191
         try clear p192
         try clear p193
         try clear p194
         try clear p2
         try clear p6
         try clear q1
         try clear q18
         try clear q185
         try clear q186
         try clear q187
         try clear q188
         try clear q189
         try clear q19
         try clear q190
         try clear q191
         try clear q192
         try clear q193
         try clear q194
         obtain ⟨x7_3, rfl, HA, HK3, HO_5, BK177, HB⟩ := hrel
         cases gk with
         | zero => exact absurd HA.out (by simp [sashref05_May.l2])
         | succ k3 =>
          have H := HA.out
          clear HA
          simp only [sashref05_May.l2] at H
          by_cases c40 : x7_3 < x102_2
          ·rw [if_pos c40] at H
           have c40b0 : decide (x7_3 < x102_2) = true := decide_eq_true c40
           clear c40
           by_cases c41 : 0 ≤ x102_2
           ·rw [if_pos c41] at H
            have c41b0 : decide (0 ≤ x102_2) = true := decide_eq_true c41
            clear c41
            by_cases c42 : x102_2 < (t195.length : Int)
            ·rw [if_pos c42] at H
             have c42b0 : decide (x102_2 < (t195.length : Int)) = true := decide_eq_true c42
             clear c42
             by_cases c43 : 0 ≤ x7_3
             ·rw [if_pos c43] at H
              have c43b0 : decide (0 ≤ x7_3) = true := decide_eq_true c43
              clear c43
              by_cases c44 : x7_3 < (t195.length : Int)
              ·rw [if_pos c44] at H
               have c44b0 : decide (x7_3 < (t195.length : Int)) = true := decide_eq_true c44
               clear c44
               by_cases c45 : ((rd_T30 t195 x102_2).f2) = ((rd_T30 t195 x7_3).f2)
               ·rw [if_pos c45] at H
                have c45b0 : (((rd_T30 t195 x102_2).f2) == ((rd_T30 t195 x7_3).f2)) = true := beq_iff_eq.mpr c45
                have c45b1 : (((rd_T30 t195 x102_2).f2) != ((rd_T30 t195 x7_3).f2)) = false := bne_eq_false_iff_eq.mpr c45
                clear c45
                obtain rfl := Option.some.inj H
                have p198 : 0 ≤ (x102_2 : Int) := of_decide_eq_true (by first | (with_reducible assumption) | assumption)
                have q198 : x102_2 < (t195.length : Int) := of_decide_eq_true (by first | (with_reducible assumption) | assumption)
                obtain ⟨ad198, A198_6, c198_6, e198, hx198_0, hx198_1, hx198_2, hx198_3, hx198_4, hx198_5, hx198_6, hl198_6, hi198_6⟩ := at_T30 (Kd.N_reads' HO_5.out).2.2 x102_2 p198 q198
                cases e198
                obtain ⟨ce198, hce198, hMe198, hcc198⟩ := Kd.N_get HO_5.out z30 x102_2 p198 (by first | exact q198 | exact of_decide_eq_true (by first | (with_reducible assumption) | assumption) | (have e_ := (Kd.N_reads' HO_5.out).1; omega))
                obtain ⟨ua198_6, uc198_6, rfl, ul198_6, ge198_6⟩ := k30_openF hMe198
                have hv198_6 := hcc198 6 _ rfl
                rw [add_field _ _ 6 (by omega)] at hv198_6
                replace hv198_6 := Option.some.inj (hv198_6.symm.trans hx198_6)
                injection hv198_6 with hva_ hvn_ hvc_
                rw [hva_] at ge198_6
                rw [hvc_] at ul198_6
                have HL198_6 := Aside0.mk (show Kd.V k30 30 _ w.heap.size _ _ ((rd_T30 t195 x102_2).f3) from Kd.V_mk ul198_6 ge198_6)
                clear hva_ hvn_ hvc_ ge198_6 ul198_6
                clear hcc198 hce198
                have HR198_6 := Aside0.mk hi198_6
                have HC198_6 := Aside0.mk hl198_6
                clear hi198_6 hl198_6
                replace p198 := eq_true p198
                replace q198 := eq_true q198
                have p199 : 0 ≤ (x7_3 : Int) := of_decide_eq_true (by first | (with_reducible assumption) | assumption)
                have q199 : x7_3 < (t195.length : Int) := of_decide_eq_true (by first | (with_reducible assumption) | assumption)
                obtain ⟨ad199, A199_6, c199_6, e199, hx199_0, hx199_1, hx199_2, hx199_3, hx199_4, hx199_5, hx199_6, hl199_6, hi199_6⟩ := at_T30 (Kd.N_reads' HO_5.out).2.2 x7_3 p199 q199
                obtain rfl : ad198 = ad199 := (by injection e199)
                obtain ⟨ce199, hce199, hMe199, hcc199⟩ := Kd.N_get HO_5.out z30 x7_3 p199 (by first | exact q199 | exact of_decide_eq_true (by first | (with_reducible assumption) | assumption) | (have e_ := (Kd.N_reads' HO_5.out).1; omega))
                obtain ⟨ua199_6, uc199_6, rfl, ul199_6, ge199_6⟩ := k30_openF hMe199
                have hv199_6 := hcc199 6 _ rfl
                rw [add_field _ _ 6 (by omega)] at hv199_6
                replace hv199_6 := Option.some.inj (hv199_6.symm.trans hx199_6)
                injection hv199_6 with hva_ hvn_ hvc_
                rw [hva_] at ge199_6
                rw [hvc_] at ul199_6
                have HL199_6 := Aside0.mk (show Kd.V k30 30 _ w.heap.size _ _ ((rd_T30 t195 x7_3).f3) from Kd.V_mk ul199_6 ge199_6)
                clear hva_ hvn_ hvc_ ge199_6 ul199_6
                clear hcc199 hce199
                have HR199_6 := Aside0.mk hi199_6
                have HC199_6 := Aside0.mk hl199_6
                clear hi199_6 hl199_6
                replace p199 := eq_true p199
                replace q199 := eq_true q199
                go_wp2
                repeat (go_quiet (fail); try go_wp2)
                go_ret
                exact ⟨by first | rfl | (simp [errW_none, errW_some] <;> rfl) | (simp [*, errW_none, errW_some] <;> rfl), by repeat (first | (with_reducible first | exact HB.out | apply below_alloc | apply pw_below_drewN | apply below_drew1 | refine below_set ?_ GE177.out) | exact HB.out)⟩
               ·rw [if_neg c45] at H
                have c45b0 : (((rd_T30 t195 x102_2).f2) == ((rd_T30 t195 x7_3).f2)) = false := beq_eq_false_iff_ne.mpr c45
                have c45b1 : (((rd_T30 t195 x102_2).f2) != ((rd_T30 t195 x7_3).f2)) = true := bne_iff_ne.mpr c45
                have H' := Aside0.mk H
                clear H
                have p198 : 0 ≤ (x102_2 : Int) := of_decide_eq_true (by first | (with_reducible assumption) | assumption)
                have q198 : x102_2 < (t195.length : Int) := of_decide_eq_true (by first | (with_reducible assumption) | assumption)
                obtain ⟨ad198, A198_6, c198_6, e198, hx198_0, hx198_1, hx198_2, hx198_3, hx198_4, hx198_5, hx198_6, hl198_6, hi198_6⟩ := at_T30 (Kd.N_reads' HO_5.out).2.2 x102_2 p198 q198
                cases e198
                obtain ⟨ce198, hce198, hMe198, hcc198⟩ := Kd.N_get HO_5.out z30 x102_2 p198 (by first | exact q198 | exact of_decide_eq_true (by first | (with_reducible assumption) | assumption) | (have e_ := (Kd.N_reads' HO_5.out).1; omega))
                obtain ⟨ua198_6, uc198_6, rfl, ul198_6, ge198_6⟩ := k30_openF hMe198
                have hv198_6 := hcc198 6 _ rfl
                rw [add_field _ _ 6 (by omega)] at hv198_6
                replace hv198_6 := Option.some.inj (hv198_6.symm.trans hx198_6)
                injection hv198_6 with hva_ hvn_ hvc_
                rw [hva_] at ge198_6
                rw [hvc_] at ul198_6
                have HL198_6 := Aside0.mk (show Kd.V k30 30 _ w.heap.size _ _ ((rd_T30 t195 x102_2).f3) from Kd.V_mk ul198_6 ge198_6)
                clear hva_ hvn_ hvc_ ge198_6 ul198_6
                clear hcc198 hce198
                have HR198_6 := Aside0.mk hi198_6
                have HC198_6 := Aside0.mk hl198_6
                clear hi198_6 hl198_6
                replace p198 := eq_true p198
                replace q198 := eq_true q198
                have p199 : 0 ≤ (x7_3 : Int) := of_decide_eq_true (by first | (with_reducible assumption) | assumption)
                have q199 : x7_3 < (t195.length : Int) := of_decide_eq_true (by first | (with_reducible assumption) | assumption)
                obtain ⟨ad199, A199_6, c199_6, e199, hx199_0, hx199_1, hx199_2, hx199_3, hx199_4, hx199_5, hx199_6, hl199_6, hi199_6⟩ := at_T30 (Kd.N_reads' HO_5.out).2.2 x7_3 p199 q199
                obtain rfl : ad198 = ad199 := (by injection e199)
                obtain ⟨ce199, hce199, hMe199, hcc199⟩ := Kd.N_get HO_5.out z30 x7_3 p199 (by first | exact q199 | exact of_decide_eq_true (by first | (with_reducible assumption) | assumption) | (have e_ := (Kd.N_reads' HO_5.out).1; omega))
                obtain ⟨ua199_6, uc199_6, rfl, ul199_6, ge199_6⟩ := k30_openF hMe199
                have hv199_6 := hcc199 6 _ rfl
                rw [add_field _ _ 6 (by omega)] at hv199_6
                replace hv199_6 := Option.some.inj (hv199_6.symm.trans hx199_6)
                injection hv199_6 with hva_ hvn_ hvc_
                rw [hva_] at ge199_6
                rw [hvc_] at ul199_6
                have HL199_6 := Aside0.mk (show Kd.V k30 30 _ w.heap.size _ _ ((rd_T30 t195 x7_3).f3) from Kd.V_mk ul199_6 ge199_6)
                clear hva_ hvn_ hvc_ ge199_6 ul199_6
                clear hcc199 hce199
                have HR199_6 := Aside0.mk hi199_6
                have HC199_6 := Aside0.mk hl199_6
                clear hi199_6 hl199_6
                replace p199 := eq_true p199
                replace q199 := eq_true q199
                go_wp2
                repeat (go_quiet (fail); try go_wp2)
                go_roundg k3
                case measure => have := HK1.out; have := HK2.out; have := HK3.out; omega
                case rel => exact ⟨(wrap64 (x7_3 + 1)), (by first | rfl | (simp; done) | (simp [*]; done)), H', ⟨by have := HK1.out; have := HK2.out; have := HK3.out; omega⟩, ⟨by (with_reducible repeat (first | apply Kd.N_alloc | apply Kd.N_drewN | apply Kd.N_drew)); exact HO_5.out⟩, ⟨by (with_reducible repeat (first | refine blk_drewN ?_ _ | refine blk_drew ?_ | refine blk_alloc ?_ _)); exact BK177.out⟩, ⟨by repeat (first | (with_reducible first | exact HB.out | apply below_alloc | apply pw_below_drewN | apply below_drew1 | refine below_set ?_ GE177.out) | exact HB.out)⟩⟩
              ·rw [if_neg c44] at H
               exact absurd H (by simp)
             ·rw [if_neg c43] at H
              exact absurd H (by simp)
            ·rw [if_neg c42] at H
             exact absurd H (by simp)
           ·rw [if_neg c41] at H
            exact absurd H (by simp)
          ·rw [if_neg c40] at H
           have c40b0 : decide (x7_3 < x102_2) = false := decide_eq_false c40
           clear c40
           have H' := Aside0.mk H
           clear H
           go_wp2
           repeat (go_quiet (fail); try go_wp2)
           go_roundg k3
           case measure => have := HK1.out; have := HK2.out; have := HK3.out; omega
           case rel => exact ⟨(wrap64 (x102_2 + 1)), (by first | rfl | (simp; done) | (simp [*]; done)), H', ⟨by have := HK1.out; have := HK2.out; have := HK3.out; omega⟩, ⟨by (with_reducible repeat (first | apply Kd.N_alloc | apply Kd.N_drewN | apply Kd.N_drew)); exact HO_5.out⟩, ⟨by (with_reducible repeat (first | refine blk_drewN ?_ _ | refine blk_drew ?_ | refine blk_alloc ?_ _)); exact BK177.out⟩, ⟨by repeat (first | (with_reducible first | exact HB.out | apply below_alloc | apply pw_below_drewN | apply below_drew1 | refine below_set ?_ GE177.out) | exact HB.out)⟩⟩
       ·rw [if_neg c39] at H
        have c39b0 : decide (x102_2 < (t195.length : Int)) = false := decide_eq_false c39
        clear c39
        obtain rfl := Option.some.inj H
        go_wp2
        repeat (go_quiet (fail); try go_wp2)
        go_ret
        exact ⟨by first | rfl | (simp [errW_none, errW_some] <;> rfl) | (simp [*, errW_none, errW_some] <;> rfl), by repeat (first | (with_reducible first | exact HB.out | apply below_alloc | apply pw_below_drewN | apply below_drew1 | refine below_set ?_ GE177.out) | exact HB.out)⟩

end Go.Proofs.YtakhnigalkjhhaaGreatDoor.PPrintFits
