/- Printed texts of this seat, cut to what is used. -/
import Derived.Test.YtakhnigalkjhhaaPTileHitsx0
import Derived.Test.YtakhnigalkjhhaaPTileHitsx3
namespace Go.Proofs.Ytakhnigalkjhhaa.PTileHits
open Go.RowKit Go.Proofs.YtakhnigalkjhhaaW.PrintWords Go.Proofs.YtakhnigalkjhhaaW.PrintLast Go.Proofs.YtakhnigalkjhhaaW.PrintMore
attribute [local go_sem] max2_int min2_int max_two min_two max_three min_three max_four min_four   -- for this text's walks alone
set_option linter.unusedVariables false
set_option linter.unusedSimpArgs false

mutual
def sashref05_May.l0 : Nat → List (S29) → Int → Int → Int → Int → Int → Int → Int → Int → List (S29) → Option (Bool)
  | 0, _, _, _, _, _, _, _, _, _, _ => none
  | k + 1, x3, x14, x15, x212000, x212001, x212002, x212003, x212004, x212005, x212006 => if x15 < x14 then (if 0 ≤ x15 then (if x15 < (x3.length : Int) then ((sashref04_May.f ((rd_T29 x3 x15).f1.f0) ((rd_T29 x3 x15).f1.f1) ((rd_T29 x3 x15).f1.f2) ((rd_T29 x3 x15).f1.f3)).bind fun t216 => (if t216 = true then (if ((rd_T29 x3 x15).f0) < 1 then (sashref05_May.j1 k x3 x15 x14 x15 true x212000 x212001 x212002 x212003 x212004 x212005 x212006) else (sashref05_May.j1 k x3 x15 x14 x15 (decide (((rd_T29 x3 x15).f0) > 3)) x212000 x212001 x212002 x212003 x212004 x212005 x212006)) else (sashref05_May.j1 k x3 x15 x14 x15 true x212000 x212001 x212002 x212003 x212004 x212005 x212006))) else (none)) else (none)) else ((sashref05_Leaves.f k x212000 x212001 x212002 x212003 x212004 x212005 x212006).bind fun t229 => (sashref05_May.l1 k t229 (t229.length : Int) 0))
def sashref05_May.j1 : Nat → List (S29) → Int → Int → Int → Bool → Int → Int → Int → Int → Int → Int → List (S29) → Option (Bool)
  | 0, _, _, _, _, _, _, _, _, _, _, _, _ => none
  | k + 1, x3, x4, x14, x15, x40, x212000, x212001, x212002, x212003, x212004, x212005, x212006 => if x40 = true then (some false) else (if 0 ≤ x4 then (if x4 < (x3.length : Int) then (if ((rd_T29 x3 x4).f0) = 1 then (if (((rd_T29 x3 x4).f3).length : Int) > 0 then (some false) else (if ((rd_T29 x3 x4).f2) < 0 then (some false) else (if ((rd_T29 x3 x4).f2) > 2147483647 then (some false) else (if ((rd_T29 x3 x4).f0) > 1 then (if (((rd_T29 x3 x4).f3).length : Int) < 2 then (some false) else (if ((rd_T29 x3 x4).f2) = 0 then (sashref05_May.l0 k x3 x14 (wrap64 (x15 + 1)) x212000 x212001 x212002 x212003 x212004 x212005 x212006) else (some false))) else (sashref05_May.l0 k x3 x14 (wrap64 (x15 + 1)) x212000 x212001 x212002 x212003 x212004 x212005 x212006))))) else (if ((rd_T29 x3 x4).f0) > 1 then (if (((rd_T29 x3 x4).f3).length : Int) < 2 then (some false) else (if ((rd_T29 x3 x4).f2) = 0 then (sashref05_May.l0 k x3 x14 (wrap64 (x15 + 1)) x212000 x212001 x212002 x212003 x212004 x212005 x212006) else (some false))) else (sashref05_May.l0 k x3 x14 (wrap64 (x15 + 1)) x212000 x212001 x212002 x212003 x212004 x212005 x212006))) else (none)) else (none))
def sashref05_May.l1 : Nat → List (S29) → Int → Int → Option (Bool)
  | 0, _, _, _ => none
  | k + 1, x5, x101, x102 => if x102 < x101 then (sashref05_May.l2 k x5 x102 0 x101 x102) else (some true)
def sashref05_May.l2 : Nat → List (S29) → Int → Int → Int → Int → Option (Bool)
  | 0, _, _, _, _, _ => none
  | k + 1, x5, x6, x7, x101, x102 => if x7 < x6 then (if 0 ≤ x6 then (if x6 < (x5.length : Int) then (if 0 ≤ x7 then (if x7 < (x5.length : Int) then (if ((rd_T29 x5 x6).f2) = ((rd_T29 x5 x7).f2) then (some false) else (sashref05_May.l2 k x5 x6 (wrap64 (x7 + 1)) x101 x102)) else (none)) else (none)) else (none)) else (none)) else (sashref05_May.l1 k x5 x101 (wrap64 (x102 + 1)))
end
def sashref05_May.f (k : Nat) (a0_0 : Int) (a0_1 : Int) (a0_2 : Int) (a0_3 : Int) (a0_4 : Int) (a0_5 : Int) (l0_6 : List (S29)) : Option (Bool) := (sashref05_All.f k a0_0 a0_1 a0_2 a0_3 a0_4 a0_5 l0_6).bind fun t212 => (if (t212.length : Int) > 20000 then (some false) else (sashref05_May.l0 k t212 (t212.length : Int) 0 a0_0 a0_1 a0_2 a0_3 a0_4 a0_5 l0_6))
set_option maxHeartbeats 8000000 in
set_option maxRecDepth 100000 in
theorem sashref05_May.calls (k : Nat) (a0_0 : Int) (a0_1 : Int) (a0_2 : Int) (a0_3 : Int) (a0_4 : Int) (a0_5 : Int) (A0_6 : Option Addr) (c0_6 : Nat) (l0_6 : List (S29)) (r : Bool) (w : World) (hr0_6 : Kd.C k29 w A0_6 l0_6.length l0_6) (hc0_6 : l0_6.length ≤ c0_6) (h : sashref05_May.f k a0_0 a0_1 a0_2 a0_3 a0_4 a0_5 l0_6 = some r) :
    Calls Try.prog 33 #[.agg #[.int .u8 a0_0, .int .i64 a0_1, .int .i64 a0_2, .int .i64 a0_3, .int .i64 a0_4, .int .i64 a0_5, .slice A0_6 l0_6.length c0_6]] w fun e w' => e = .returned (.bool r) ∧ Below w.heap.size w w' := by
  have hu29 := Try.underlying29
  have hu27 := Try.underlying27
  have HR0_6 := Aside0.mk hr0_6
  have HC0_6 := Aside0.mk hc0_6
  clear hr0_6 hc0_6
  have HB := Aside0.mk (Below.refl w.heap.size w)
  have H : ((sashref05_All.f k a0_0 a0_1 a0_2 a0_3 a0_4 a0_5 l0_6).bind fun t212 => (if (t212.length : Int) > 20000 then (some false) else (sashref05_May.l0 k t212 (t212.length : Int) 0 a0_0 a0_1 a0_2 a0_3 a0_4 a0_5 l0_6))) = some r := h
  clear h
  replace H := Option.bind_eq_some_iff.mp H
  obtain ⟨t212, A20, H⟩ := H
  replace H : (if (t212.length : Int) > 20000 then (some false) else (sashref05_May.l0 k t212 (t212.length : Int) 0 a0_0 a0_1 a0_2 a0_3 a0_4 a0_5 l0_6)) = some r := H
  have A2 := Aside0.mk A20
  clear A20
  by_cases c3 : (t212.length : Int) > 20000
  · rw [if_pos c3] at H
    have c3b0 : decide (20000 < (t212.length : Int)) = true := decide_eq_true c3
    have c3b1 : decide (20000 < t212.length) = true := decide_eq_true (by omega)
    clear c3
    obtain rfl := Option.some.inj H
    go_enter Try.func33, Try.ntmps33
    go_wp2_with (first | ((with_reducible refine gate_dst (N := 1) rfl ?_); (try (refine gate_guard (by rfl) ?_; dsimp only)); refine box_event ?hg (N := 1) ?hd (cs := #[.int .u8 a0_0, .int .i64 a0_1, .int .i64 a0_2, .int .i64 a0_3, .int .i64 a0_4, .int .i64 a0_5, .slice A0_6 l0_6.length c0_6]) (t := 29) ?hr ?_; (case hd => rfl); (case hg => rfl); (case hr => first | (go_simp; done) | (go_simp; rfl)); intro gb211 hg w4 hbox hb; have n0_ := Aside0.mk (below_step (by repeat (first | (with_reducible first | exact HB.out | apply below_alloc | apply pw_below_drewN | apply below_drew1) | exact HB.out)) hb); have n1_ := Aside0.mk (hbox); have n2_ := Aside0.mk ((by rw [hg]; exact (below_size (by repeat (first | (with_reducible first | exact HB.out | apply below_alloc | apply pw_below_drewN | apply below_drew1) | exact HB.out))) : w.heap.size ≤ gb211)); have n3_ := Aside0.mk ((by rw [hg]; exact (below_size (by repeat (first | (with_reducible first | exact HB.out | apply below_alloc | apply pw_below_drewN | apply below_drew1) | exact HB.out))) : w.heap.size ≤ gb211)); clear HB; have HB := n0_; have BK211 := n1_; have GW211 := n2_; have GE211 := n3_; clear n0_ n1_ n2_ n3_; clear hb hbox hg; have hcz5_0 : w4.cell? ⟨gb211, 0, none⟩ = some (.int .u8 a0_0) := (blk_cell BK211.out 0).trans rfl; have hcz5_1 : w4.cell? ⟨gb211, 1, none⟩ = some (.int .i64 a0_1) := (blk_cell BK211.out 1).trans rfl; have hcz5_2 : w4.cell? ⟨gb211, 2, none⟩ = some (.int .i64 a0_2) := (blk_cell BK211.out 2).trans rfl; have hcz5_3 : w4.cell? ⟨gb211, 3, none⟩ = some (.int .i64 a0_3) := (blk_cell BK211.out 3).trans rfl; have hcz5_4 : w4.cell? ⟨gb211, 4, none⟩ = some (.int .i64 a0_4) := (blk_cell BK211.out 4).trans rfl; have hcz5_5 : w4.cell? ⟨gb211, 5, none⟩ = some (.int .i64 a0_5) := (blk_cell BK211.out 5).trans rfl; have hcz5_6 : w4.cell? ⟨gb211, 6, none⟩ = some (.slice A0_6 l0_6.length c0_6) := (blk_cell BK211.out 6).trans rfl; have hfz5_0 := blk_frozen BK211.out 0; have hfz5_1 := blk_frozen BK211.out 1; have hfz5_2 := blk_frozen BK211.out 2; have hfz5_3 := blk_frozen BK211.out 3; have hfz5_4 := blk_frozen BK211.out 4; have hfz5_5 := blk_frozen BK211.out 5; have hfz5_6 := blk_frozen BK211.out 6) | (go_at_call 34; (with_reducible refine (sashref05_All.calls k a0_0 a0_1 a0_2 a0_3 a0_4 a0_5 (fun k_ => k_ < w.heap.size) _ _ l0_6 t212 _ ?side1 A2.out).mono ?_); (case side1 => exact Kd.V_mk HC0_6.out (Kd.F_below (Kd.C_F k29_heap HR0_6.out) (by repeat (first | (with_reducible first | exact HB.out | apply below_alloc | apply pw_below_drewN | apply below_drew1 | refine below_set ?_ GE211.out) | exact HB.out)))); rintro e w6 ⟨v213, rfl, ho0, hb⟩; have n0_ := Aside0.mk (Kd.N_lower (Kd.N_mono (ok' := fun k_ => k_ ≠ gb211) ho0 (fun k_ hk_ => Or.elim hk_ (fun hs_ => fun e_ => Nat.not_le.2 hs_ (by rw [e_]; exact GW211.out)) (fun hn_ => (Kd.freshB (g := gb211) (o := .cells #[.int .u8 a0_0, .int .i64 a0_1, .int .i64 a0_2, .int .i64 a0_3, .int .i64 a0_4, .int .i64 a0_5, .slice A0_6 l0_6.length c0_6] 29 (0, 0)) (by (with_reducible repeat (first | refine blk_drewN ?_ _ | refine blk_drew ?_ | refine blk_alloc ?_ _)); exact BK211.out) k_ hn_)))) (below_size (by repeat (first | (with_reducible first | exact HB.out | apply below_alloc | apply pw_below_drewN | apply below_drew1 | refine below_set ?_ GE211.out) | exact HB.out)))); have n1_ := Aside0.mk (blk_below (g := gb211) (o := .cells #[.int .u8 a0_0, .int .i64 a0_1, .int .i64 a0_2, .int .i64 a0_3, .int .i64 a0_4, .int .i64 a0_5, .slice A0_6 l0_6.length c0_6] 29 (0, 0)) (by (with_reducible repeat (first | refine blk_drewN ?_ _ | refine blk_drew ?_ | refine blk_alloc ?_ _)); exact BK211.out) hb); have n2_ := Aside0.mk (below_step (by repeat (first | (with_reducible first | exact HB.out | apply below_alloc | apply pw_below_drewN | apply below_drew1 | refine below_set ?_ GE211.out) | exact HB.out)) hb); clear BK211; clear HB; have HO214 := n0_; have BK211 := n1_; have HB := n2_; clear n0_ n1_ n2_; (try clear hb); (try clear hb2); (try clear hk); (try clear hi); (try clear ho0); obtain ⟨Ao7, co7, eo7⟩ := Kd.N_slice HO214.out; subst eo7))
    repeat (go_quiet (first | ((with_reducible refine gate_dst (N := 1) rfl ?_); (try (refine gate_guard (by rfl) ?_; dsimp only)); refine box_event ?hg (N := 1) ?hd (cs := #[.int .u8 a0_0, .int .i64 a0_1, .int .i64 a0_2, .int .i64 a0_3, .int .i64 a0_4, .int .i64 a0_5, .slice A0_6 l0_6.length c0_6]) (t := 29) ?hr ?_; (case hd => rfl); (case hg => rfl); (case hr => first | (go_simp; done) | (go_simp; rfl)); intro gb211 hg w4 hbox hb; have n0_ := Aside0.mk (below_step (by repeat (first | (with_reducible first | exact HB.out | apply below_alloc | apply pw_below_drewN | apply below_drew1) | exact HB.out)) hb); have n1_ := Aside0.mk (hbox); have n2_ := Aside0.mk ((by rw [hg]; exact (below_size (by repeat (first | (with_reducible first | exact HB.out | apply below_alloc | apply pw_below_drewN | apply below_drew1) | exact HB.out))) : w.heap.size ≤ gb211)); have n3_ := Aside0.mk ((by rw [hg]; exact (below_size (by repeat (first | (with_reducible first | exact HB.out | apply below_alloc | apply pw_below_drewN | apply below_drew1) | exact HB.out))) : w.heap.size ≤ gb211)); clear HB; have HB := n0_; have BK211 := n1_; have GW211 := n2_; have GE211 := n3_; clear n0_ n1_ n2_ n3_; clear hb hbox hg; have hcz5_0 : w4.cell? ⟨gb211, 0, none⟩ = some (.int .u8 a0_0) := (blk_cell BK211.out 0).trans rfl; have hcz5_1 : w4.cell? ⟨gb211, 1, none⟩ = some (.int .i64 a0_1) := (blk_cell BK211.out 1).trans rfl; have hcz5_2 : w4.cell? ⟨gb211, 2, none⟩ = some (.int .i64 a0_2) := (blk_cell BK211.out 2).trans rfl; have hcz5_3 : w4.cell? ⟨gb211, 3, none⟩ = some (.int .i64 a0_3) := (blk_cell BK211.out 3).trans rfl; have hcz5_4 : w4.cell? ⟨gb211, 4, none⟩ = some (.int .i64 a0_4) := (blk_cell BK211.out 4).trans rfl; have hcz5_5 : w4.cell? ⟨gb211, 5, none⟩ = some (.int .i64 a0_5) := (blk_cell BK211.out 5).trans rfl; have hcz5_6 : w4.cell? ⟨gb211, 6, none⟩ = some (.slice A0_6 l0_6.length c0_6) := (blk_cell BK211.out 6).trans rfl; have hfz5_0 := blk_frozen BK211.out 0; have hfz5_1 := blk_frozen BK211.out 1; have hfz5_2 := blk_frozen BK211.out 2; have hfz5_3 := blk_frozen BK211.out 3; have hfz5_4 := blk_frozen BK211.out 4; have hfz5_5 := blk_frozen BK211.out 5; have hfz5_6 := blk_frozen BK211.out 6) | (go_at_call 34; (with_reducible refine (sashref05_All.calls k a0_0 a0_1 a0_2 a0_3 a0_4 a0_5 (fun k_ => k_ < w.heap.size) _ _ l0_6 t212 _ ?side1 A2.out).mono ?_); (case side1 => exact Kd.V_mk HC0_6.out (Kd.F_below (Kd.C_F k29_heap HR0_6.out) (by repeat (first | (with_reducible first | exact HB.out | apply below_alloc | apply pw_below_drewN | apply below_drew1 | refine below_set ?_ GE211.out) | exact HB.out)))); rintro e w6 ⟨v213, rfl, ho0, hb⟩; have n0_ := Aside0.mk (Kd.N_lower (Kd.N_mono (ok' := fun k_ => k_ ≠ gb211) ho0 (fun k_ hk_ => Or.elim hk_ (fun hs_ => fun e_ => Nat.not_le.2 hs_ (by rw [e_]; exact GW211.out)) (fun hn_ => (Kd.freshB (g := gb211) (o := .cells #[.int .u8 a0_0, .int .i64 a0_1, .int .i64 a0_2, .int .i64 a0_3, .int .i64 a0_4, .int .i64 a0_5, .slice A0_6 l0_6.length c0_6] 29 (0, 0)) (by (with_reducible repeat (first | refine blk_drewN ?_ _ | refine blk_drew ?_ | refine blk_alloc ?_ _)); exact BK211.out) k_ hn_)))) (below_size (by repeat (first | (with_reducible first | exact HB.out | apply below_alloc | apply pw_below_drewN | apply below_drew1 | refine below_set ?_ GE211.out) | exact HB.out)))); have n1_ := Aside0.mk (blk_below (g := gb211) (o := .cells #[.int .u8 a0_0, .int .i64 a0_1, .int .i64 a0_2, .int .i64 a0_3, .int .i64 a0_4, .int .i64 a0_5, .slice A0_6 l0_6.length c0_6] 29 (0, 0)) (by (with_reducible repeat (first | refine blk_drewN ?_ _ | refine blk_drew ?_ | refine blk_alloc ?_ _)); exact BK211.out) hb); have n2_ := Aside0.mk (below_step (by repeat (first | (with_reducible first | exact HB.out | apply below_alloc | apply pw_below_drewN | apply below_drew1 | refine below_set ?_ GE211.out) | exact HB.out)) hb); clear BK211; clear HB; have HO214 := n0_; have BK211 := n1_; have HB := n2_; clear n0_ n1_ n2_; (try clear hb); (try clear hb2); (try clear hk); (try clear hi); (try clear ho0); obtain ⟨Ao7, co7, eo7⟩ := Kd.N_slice HO214.out; subst eo7)); try go_wp2_with (first | ((with_reducible refine gate_dst (N := 1) rfl ?_); (try (refine gate_guard (by rfl) ?_; dsimp only)); refine box_event ?hg (N := 1) ?hd (cs := #[.int .u8 a0_0, .int .i64 a0_1, .int .i64 a0_2, .int .i64 a0_3, .int .i64 a0_4, .int .i64 a0_5, .slice A0_6 l0_6.length c0_6]) (t := 29) ?hr ?_; (case hd => rfl); (case hg => rfl); (case hr => first | (go_simp; done) | (go_simp; rfl)); intro gb211 hg w4 hbox hb; have n0_ := Aside0.mk (below_step (by repeat (first | (with_reducible first | exact HB.out | apply below_alloc | apply pw_below_drewN | apply below_drew1) | exact HB.out)) hb); have n1_ := Aside0.mk (hbox); have n2_ := Aside0.mk ((by rw [hg]; exact (below_size (by repeat (first | (with_reducible first | exact HB.out | apply below_alloc | apply pw_below_drewN | apply below_drew1) | exact HB.out))) : w.heap.size ≤ gb211)); have n3_ := Aside0.mk ((by rw [hg]; exact (below_size (by repeat (first | (with_reducible first | exact HB.out | apply below_alloc | apply pw_below_drewN | apply below_drew1) | exact HB.out))) : w.heap.size ≤ gb211)); clear HB; have HB := n0_; have BK211 := n1_; have GW211 := n2_; have GE211 := n3_; clear n0_ n1_ n2_ n3_; clear hb hbox hg; have hcz5_0 : w4.cell? ⟨gb211, 0, none⟩ = some (.int .u8 a0_0) := (blk_cell BK211.out 0).trans rfl; have hcz5_1 : w4.cell? ⟨gb211, 1, none⟩ = some (.int .i64 a0_1) := (blk_cell BK211.out 1).trans rfl; have hcz5_2 : w4.cell? ⟨gb211, 2, none⟩ = some (.int .i64 a0_2) := (blk_cell BK211.out 2).trans rfl; have hcz5_3 : w4.cell? ⟨gb211, 3, none⟩ = some (.int .i64 a0_3) := (blk_cell BK211.out 3).trans rfl; have hcz5_4 : w4.cell? ⟨gb211, 4, none⟩ = some (.int .i64 a0_4) := (blk_cell BK211.out 4).trans rfl; have hcz5_5 : w4.cell? ⟨gb211, 5, none⟩ = some (.int .i64 a0_5) := (blk_cell BK211.out 5).trans rfl; have hcz5_6 : w4.cell? ⟨gb211, 6, none⟩ = some (.slice A0_6 l0_6.length c0_6) := (blk_cell BK211.out 6).trans rfl; have hfz5_0 := blk_frozen BK211.out 0; have hfz5_1 := blk_frozen BK211.out 1; have hfz5_2 := blk_frozen BK211.out 2; have hfz5_3 := blk_frozen BK211.out 3; have hfz5_4 := blk_frozen BK211.out 4; have hfz5_5 := blk_frozen BK211.out 5; have hfz5_6 := blk_frozen BK211.out 6) | (go_at_call 34; (with_reducible refine (sashref05_All.calls k a0_0 a0_1 a0_2 a0_3 a0_4 a0_5 (fun k_ => k_ < w.heap.size) _ _ l0_6 t212 _ ?side1 A2.out).mono ?_); (case side1 => exact Kd.V_mk HC0_6.out (Kd.F_below (Kd.C_F k29_heap HR0_6.out) (by repeat (first | (with_reducible first | exact HB.out | apply below_alloc | apply pw_below_drewN | apply below_drew1 | refine below_set ?_ GE211.out) | exact HB.out)))); rintro e w6 ⟨v213, rfl, ho0, hb⟩; have n0_ := Aside0.mk (Kd.N_lower (Kd.N_mono (ok' := fun k_ => k_ ≠ gb211) ho0 (fun k_ hk_ => Or.elim hk_ (fun hs_ => fun e_ => Nat.not_le.2 hs_ (by rw [e_]; exact GW211.out)) (fun hn_ => (Kd.freshB (g := gb211) (o := .cells #[.int .u8 a0_0, .int .i64 a0_1, .int .i64 a0_2, .int .i64 a0_3, .int .i64 a0_4, .int .i64 a0_5, .slice A0_6 l0_6.length c0_6] 29 (0, 0)) (by (with_reducible repeat (first | refine blk_drewN ?_ _ | refine blk_drew ?_ | refine blk_alloc ?_ _)); exact BK211.out) k_ hn_)))) (below_size (by repeat (first | (with_reducible first | exact HB.out | apply below_alloc | apply pw_below_drewN | apply below_drew1 | refine below_set ?_ GE211.out) | exact HB.out)))); have n1_ := Aside0.mk (blk_below (g := gb211) (o := .cells #[.int .u8 a0_0, .int .i64 a0_1, .int .i64 a0_2, .int .i64 a0_3, .int .i64 a0_4, .int .i64 a0_5, .slice A0_6 l0_6.length c0_6] 29 (0, 0)) (by (with_reducible repeat (first | refine blk_drewN ?_ _ | refine blk_drew ?_ | refine blk_alloc ?_ _)); exact BK211.out) hb); have n2_ := Aside0.mk (below_step (by repeat (first | (with_reducible first | exact HB.out | apply below_alloc | apply pw_below_drewN | apply below_drew1 | refine below_set ?_ GE211.out) | exact HB.out)) hb); clear BK211; clear HB; have HO214 := n0_; have BK211 := n1_; have HB := n2_; clear n0_ n1_ n2_; (try clear hb); (try clear hb2); (try clear hk); (try clear hi); (try clear ho0); obtain ⟨Ao7, co7, eo7⟩ := Kd.N_slice HO214.out; subst eo7)))
    go_ret
    exact ⟨by first | rfl | (simp [errW_none, errW_some] <;> rfl) | (simp [*, errW_none, errW_some] <;> rfl), by repeat (first | (with_reducible first | exact HB.out | apply below_alloc | apply pw_below_drewN | apply below_drew1 | refine below_set ?_ GE211.out) | exact HB.out)⟩
  · rw [if_neg c3] at H
    have c3b0 : decide (20000 < (t212.length : Int)) = false := decide_eq_false c3
    have c3b1 : decide (20000 < t212.length) = false := decide_eq_false (by omega)
    clear c3
    have H' := Aside0.mk H
    clear H
    go_enter Try.func33, Try.ntmps33
    go_wp2_with (first | ((with_reducible refine gate_dst (N := 1) rfl ?_); (try (refine gate_guard (by rfl) ?_; dsimp only)); refine box_event ?hg (N := 1) ?hd (cs := #[.int .u8 a0_0, .int .i64 a0_1, .int .i64 a0_2, .int .i64 a0_3, .int .i64 a0_4, .int .i64 a0_5, .slice A0_6 l0_6.length c0_6]) (t := 29) ?hr ?_; (case hd => rfl); (case hg => rfl); (case hr => first | (go_simp; done) | (go_simp; rfl)); intro gb211 hg w8 hbox hb; have n0_ := Aside0.mk (below_step (by repeat (first | (with_reducible first | exact HB.out | apply below_alloc | apply pw_below_drewN | apply below_drew1) | exact HB.out)) hb); have n1_ := Aside0.mk (hbox); have n2_ := Aside0.mk ((by rw [hg]; exact (below_size (by repeat (first | (with_reducible first | exact HB.out | apply below_alloc | apply pw_below_drewN | apply below_drew1) | exact HB.out))) : w.heap.size ≤ gb211)); have n3_ := Aside0.mk ((by rw [hg]; exact (below_size (by repeat (first | (with_reducible first | exact HB.out | apply below_alloc | apply pw_below_drewN | apply below_drew1) | exact HB.out))) : w.heap.size ≤ gb211)); clear HB; have HB := n0_; have BK211 := n1_; have GW211 := n2_; have GE211 := n3_; clear n0_ n1_ n2_ n3_; clear hb hbox hg; have hcz9_0 : w8.cell? ⟨gb211, 0, none⟩ = some (.int .u8 a0_0) := (blk_cell BK211.out 0).trans rfl; have hcz9_1 : w8.cell? ⟨gb211, 1, none⟩ = some (.int .i64 a0_1) := (blk_cell BK211.out 1).trans rfl; have hcz9_2 : w8.cell? ⟨gb211, 2, none⟩ = some (.int .i64 a0_2) := (blk_cell BK211.out 2).trans rfl; have hcz9_3 : w8.cell? ⟨gb211, 3, none⟩ = some (.int .i64 a0_3) := (blk_cell BK211.out 3).trans rfl; have hcz9_4 : w8.cell? ⟨gb211, 4, none⟩ = some (.int .i64 a0_4) := (blk_cell BK211.out 4).trans rfl; have hcz9_5 : w8.cell? ⟨gb211, 5, none⟩ = some (.int .i64 a0_5) := (blk_cell BK211.out 5).trans rfl; have hcz9_6 : w8.cell? ⟨gb211, 6, none⟩ = some (.slice A0_6 l0_6.length c0_6) := (blk_cell BK211.out 6).trans rfl; have hfz9_0 := blk_frozen BK211.out 0; have hfz9_1 := blk_frozen BK211.out 1; have hfz9_2 := blk_frozen BK211.out 2; have hfz9_3 := blk_frozen BK211.out 3; have hfz9_4 := blk_frozen BK211.out 4; have hfz9_5 := blk_frozen BK211.out 5; have hfz9_6 := blk_frozen BK211.out 6) | (go_at_call 34; (with_reducible refine (sashref05_All.calls k a0_0 a0_1 a0_2 a0_3 a0_4 a0_5 (fun k_ => k_ < w.heap.size) _ _ l0_6 t212 _ ?side1 A2.out).mono ?_); (case side1 => exact Kd.V_mk HC0_6.out (Kd.F_below (Kd.C_F k29_heap HR0_6.out) (by repeat (first | (with_reducible first | exact HB.out | apply below_alloc | apply pw_below_drewN | apply below_drew1 | refine below_set ?_ GE211.out) | exact HB.out)))); rintro e w10 ⟨v213, rfl, ho0, hb⟩; have n0_ := Aside0.mk (Kd.N_lower (Kd.N_mono (ok' := fun k_ => k_ ≠ gb211) ho0 (fun k_ hk_ => Or.elim hk_ (fun hs_ => fun e_ => Nat.not_le.2 hs_ (by rw [e_]; exact GW211.out)) (fun hn_ => (Kd.freshB (g := gb211) (o := .cells #[.int .u8 a0_0, .int .i64 a0_1, .int .i64 a0_2, .int .i64 a0_3, .int .i64 a0_4, .int .i64 a0_5, .slice A0_6 l0_6.length c0_6] 29 (0, 0)) (by (with_reducible repeat (first | refine blk_drewN ?_ _ | refine blk_drew ?_ | refine blk_alloc ?_ _)); exact BK211.out) k_ hn_)))) (below_size (by repeat (first | (with_reducible first | exact HB.out | apply below_alloc | apply pw_below_drewN | apply below_drew1 | refine below_set ?_ GE211.out) | exact HB.out)))); have n1_ := Aside0.mk (blk_below (g := gb211) (o := .cells #[.int .u8 a0_0, .int .i64 a0_1, .int .i64 a0_2, .int .i64 a0_3, .int .i64 a0_4, .int .i64 a0_5, .slice A0_6 l0_6.length c0_6] 29 (0, 0)) (by (with_reducible repeat (first | refine blk_drewN ?_ _ | refine blk_drew ?_ | refine blk_alloc ?_ _)); exact BK211.out) hb); have n2_ := Aside0.mk (below_step (by repeat (first | (with_reducible first | exact HB.out | apply below_alloc | apply pw_below_drewN | apply below_drew1 | refine below_set ?_ GE211.out) | exact HB.out)) hb); clear BK211; clear HB; have HO214 := n0_; have BK211 := n1_; have HB := n2_; clear n0_ n1_ n2_; (try clear hb); (try clear hb2); (try clear hk); (try clear hi); (try clear ho0); obtain ⟨Ao11, co11, eo11⟩ := Kd.N_slice HO214.out; subst eo11))
    repeat (go_quiet (first | ((with_reducible refine gate_dst (N := 1) rfl ?_); (try (refine gate_guard (by rfl) ?_; dsimp only)); refine box_event ?hg (N := 1) ?hd (cs := #[.int .u8 a0_0, .int .i64 a0_1, .int .i64 a0_2, .int .i64 a0_3, .int .i64 a0_4, .int .i64 a0_5, .slice A0_6 l0_6.length c0_6]) (t := 29) ?hr ?_; (case hd => rfl); (case hg => rfl); (case hr => first | (go_simp; done) | (go_simp; rfl)); intro gb211 hg w8 hbox hb; have n0_ := Aside0.mk (below_step (by repeat (first | (with_reducible first | exact HB.out | apply below_alloc | apply pw_below_drewN | apply below_drew1) | exact HB.out)) hb); have n1_ := Aside0.mk (hbox); have n2_ := Aside0.mk ((by rw [hg]; exact (below_size (by repeat (first | (with_reducible first | exact HB.out | apply below_alloc | apply pw_below_drewN | apply below_drew1) | exact HB.out))) : w.heap.size ≤ gb211)); have n3_ := Aside0.mk ((by rw [hg]; exact (below_size (by repeat (first | (with_reducible first | exact HB.out | apply below_alloc | apply pw_below_drewN | apply below_drew1) | exact HB.out))) : w.heap.size ≤ gb211)); clear HB; have HB := n0_; have BK211 := n1_; have GW211 := n2_; have GE211 := n3_; clear n0_ n1_ n2_ n3_; clear hb hbox hg; have hcz9_0 : w8.cell? ⟨gb211, 0, none⟩ = some (.int .u8 a0_0) := (blk_cell BK211.out 0).trans rfl; have hcz9_1 : w8.cell? ⟨gb211, 1, none⟩ = some (.int .i64 a0_1) := (blk_cell BK211.out 1).trans rfl; have hcz9_2 : w8.cell? ⟨gb211, 2, none⟩ = some (.int .i64 a0_2) := (blk_cell BK211.out 2).trans rfl; have hcz9_3 : w8.cell? ⟨gb211, 3, none⟩ = some (.int .i64 a0_3) := (blk_cell BK211.out 3).trans rfl; have hcz9_4 : w8.cell? ⟨gb211, 4, none⟩ = some (.int .i64 a0_4) := (blk_cell BK211.out 4).trans rfl; have hcz9_5 : w8.cell? ⟨gb211, 5, none⟩ = some (.int .i64 a0_5) := (blk_cell BK211.out 5).trans rfl; have hcz9_6 : w8.cell? ⟨gb211, 6, none⟩ = some (.slice A0_6 l0_6.length c0_6) := (blk_cell BK211.out 6).trans rfl; have hfz9_0 := blk_frozen BK211.out 0; have hfz9_1 := blk_frozen BK211.out 1; have hfz9_2 := blk_frozen BK211.out 2; have hfz9_3 := blk_frozen BK211.out 3; have hfz9_4 := blk_frozen BK211.out 4; have hfz9_5 := blk_frozen BK211.out 5; have hfz9_6 := blk_frozen BK211.out 6) | (go_at_call 34; (with_reducible refine (sashref05_All.calls k a0_0 a0_1 a0_2 a0_3 a0_4 a0_5 (fun k_ => k_ < w.heap.size) _ _ l0_6 t212 _ ?side1 A2.out).mono ?_); (case side1 => exact Kd.V_mk HC0_6.out (Kd.F_below (Kd.C_F k29_heap HR0_6.out) (by repeat (first | (with_reducible first | exact HB.out | apply below_alloc | apply pw_below_drewN | apply below_drew1 | refine below_set ?_ GE211.out) | exact HB.out)))); rintro e w10 ⟨v213, rfl, ho0, hb⟩; have n0_ := Aside0.mk (Kd.N_lower (Kd.N_mono (ok' := fun k_ => k_ ≠ gb211) ho0 (fun k_ hk_ => Or.elim hk_ (fun hs_ => fun e_ => Nat.not_le.2 hs_ (by rw [e_]; exact GW211.out)) (fun hn_ => (Kd.freshB (g := gb211) (o := .cells #[.int .u8 a0_0, .int .i64 a0_1, .int .i64 a0_2, .int .i64 a0_3, .int .i64 a0_4, .int .i64 a0_5, .slice A0_6 l0_6.length c0_6] 29 (0, 0)) (by (with_reducible repeat (first | refine blk_drewN ?_ _ | refine blk_drew ?_ | refine blk_alloc ?_ _)); exact BK211.out) k_ hn_)))) (below_size (by repeat (first | (with_reducible first | exact HB.out | apply below_alloc | apply pw_below_drewN | apply below_drew1 | refine below_set ?_ GE211.out) | exact HB.out)))); have n1_ := Aside0.mk (blk_below (g := gb211) (o := .cells #[.int .u8 a0_0, .int .i64 a0_1, .int .i64 a0_2, .int .i64 a0_3, .int .i64 a0_4, .int .i64 a0_5, .slice A0_6 l0_6.length c0_6] 29 (0, 0)) (by (with_reducible repeat (first | refine blk_drewN ?_ _ | refine blk_drew ?_ | refine blk_alloc ?_ _)); exact BK211.out) hb); have n2_ := Aside0.mk (below_step (by repeat (first | (with_reducible first | exact HB.out | apply below_alloc | apply pw_below_drewN | apply below_drew1 | refine below_set ?_ GE211.out) | exact HB.out)) hb); clear BK211; clear HB; have HO214 := n0_; have BK211 := n1_; have HB := n2_; clear n0_ n1_ n2_; (try clear hb); (try clear hb2); (try clear hk); (try clear hi); (try clear ho0); obtain ⟨Ao11, co11, eo11⟩ := Kd.N_slice HO214.out; subst eo11)); try go_wp2_with (first | ((with_reducible refine gate_dst (N := 1) rfl ?_); (try (refine gate_guard (by rfl) ?_; dsimp only)); refine box_event ?hg (N := 1) ?hd (cs := #[.int .u8 a0_0, .int .i64 a0_1, .int .i64 a0_2, .int .i64 a0_3, .int .i64 a0_4, .int .i64 a0_5, .slice A0_6 l0_6.length c0_6]) (t := 29) ?hr ?_; (case hd => rfl); (case hg => rfl); (case hr => first | (go_simp; done) | (go_simp; rfl)); intro gb211 hg w8 hbox hb; have n0_ := Aside0.mk (below_step (by repeat (first | (with_reducible first | exact HB.out | apply below_alloc | apply pw_below_drewN | apply below_drew1) | exact HB.out)) hb); have n1_ := Aside0.mk (hbox); have n2_ := Aside0.mk ((by rw [hg]; exact (below_size (by repeat (first | (with_reducible first | exact HB.out | apply below_alloc | apply pw_below_drewN | apply below_drew1) | exact HB.out))) : w.heap.size ≤ gb211)); have n3_ := Aside0.mk ((by rw [hg]; exact (below_size (by repeat (first | (with_reducible first | exact HB.out | apply below_alloc | apply pw_below_drewN | apply below_drew1) | exact HB.out))) : w.heap.size ≤ gb211)); clear HB; have HB := n0_; have BK211 := n1_; have GW211 := n2_; have GE211 := n3_; clear n0_ n1_ n2_ n3_; clear hb hbox hg; have hcz9_0 : w8.cell? ⟨gb211, 0, none⟩ = some (.int .u8 a0_0) := (blk_cell BK211.out 0).trans rfl; have hcz9_1 : w8.cell? ⟨gb211, 1, none⟩ = some (.int .i64 a0_1) := (blk_cell BK211.out 1).trans rfl; have hcz9_2 : w8.cell? ⟨gb211, 2, none⟩ = some (.int .i64 a0_2) := (blk_cell BK211.out 2).trans rfl; have hcz9_3 : w8.cell? ⟨gb211, 3, none⟩ = some (.int .i64 a0_3) := (blk_cell BK211.out 3).trans rfl; have hcz9_4 : w8.cell? ⟨gb211, 4, none⟩ = some (.int .i64 a0_4) := (blk_cell BK211.out 4).trans rfl; have hcz9_5 : w8.cell? ⟨gb211, 5, none⟩ = some (.int .i64 a0_5) := (blk_cell BK211.out 5).trans rfl; have hcz9_6 : w8.cell? ⟨gb211, 6, none⟩ = some (.slice A0_6 l0_6.length c0_6) := (blk_cell BK211.out 6).trans rfl; have hfz9_0 := blk_frozen BK211.out 0; have hfz9_1 := blk_frozen BK211.out 1; have hfz9_2 := blk_frozen BK211.out 2; have hfz9_3 := blk_frozen BK211.out 3; have hfz9_4 := blk_frozen BK211.out 4; have hfz9_5 := blk_frozen BK211.out 5; have hfz9_6 := blk_frozen BK211.out 6) | (go_at_call 34; (with_reducible refine (sashref05_All.calls k a0_0 a0_1 a0_2 a0_3 a0_4 a0_5 (fun k_ => k_ < w.heap.size) _ _ l0_6 t212 _ ?side1 A2.out).mono ?_); (case side1 => exact Kd.V_mk HC0_6.out (Kd.F_below (Kd.C_F k29_heap HR0_6.out) (by repeat (first | (with_reducible first | exact HB.out | apply below_alloc | apply pw_below_drewN | apply below_drew1 | refine below_set ?_ GE211.out) | exact HB.out)))); rintro e w10 ⟨v213, rfl, ho0, hb⟩; have n0_ := Aside0.mk (Kd.N_lower (Kd.N_mono (ok' := fun k_ => k_ ≠ gb211) ho0 (fun k_ hk_ => Or.elim hk_ (fun hs_ => fun e_ => Nat.not_le.2 hs_ (by rw [e_]; exact GW211.out)) (fun hn_ => (Kd.freshB (g := gb211) (o := .cells #[.int .u8 a0_0, .int .i64 a0_1, .int .i64 a0_2, .int .i64 a0_3, .int .i64 a0_4, .int .i64 a0_5, .slice A0_6 l0_6.length c0_6] 29 (0, 0)) (by (with_reducible repeat (first | refine blk_drewN ?_ _ | refine blk_drew ?_ | refine blk_alloc ?_ _)); exact BK211.out) k_ hn_)))) (below_size (by repeat (first | (with_reducible first | exact HB.out | apply below_alloc | apply pw_below_drewN | apply below_drew1 | refine below_set ?_ GE211.out) | exact HB.out)))); have n1_ := Aside0.mk (blk_below (g := gb211) (o := .cells #[.int .u8 a0_0, .int .i64 a0_1, .int .i64 a0_2, .int .i64 a0_3, .int .i64 a0_4, .int .i64 a0_5, .slice A0_6 l0_6.length c0_6] 29 (0, 0)) (by (with_reducible repeat (first | refine blk_drewN ?_ _ | refine blk_drew ?_ | refine blk_alloc ?_ _)); exact BK211.out) hb); have n2_ := Aside0.mk (below_step (by repeat (first | (with_reducible first | exact HB.out | apply below_alloc | apply pw_below_drewN | apply below_drew1 | refine below_set ?_ GE211.out) | exact HB.out)) hb); clear BK211; clear HB; have HO214 := n0_; have BK211 := n1_; have HB := n2_; clear n0_ n1_ n2_; (try clear hb); (try clear hb2); (try clear hk); (try clear hi); (try clear ho0); obtain ⟨Ao11, co11, eo11⟩ := Kd.N_slice HO214.out; subst eo11)))
    go_loopg [15] k (fun kq v15 w' => ∃ (x15_1 : Int), v15 = .int .i64 x15_1 ∧ Aside0 (sashref05_May.l0 kq t212 (t212.length : Int) x15_1 a0_0 a0_1 a0_2 a0_3 a0_4 a0_5 l0_6 = some r) ∧ Aside0 (kq ≤ k) ∧ Aside0 (Kd.N k29 29 w' w.heap.size (fun k_ => k_ ≠ gb211) (.slice Ao11 t212.length co11) t212) ∧ Aside0 (w'.heap[gb211]? = some (.cells #[.int .u8 a0_0, .int .i64 a0_1, .int .i64 a0_2, .int .i64 a0_3, .int .i64 a0_4, .int .i64 a0_5, (.slice A0_6 l0_6.length c0_6)] 29 (0, 0))) ∧ Aside0 (Below w.heap.size w w'))
    case atStart => exact ⟨(0), (by first | rfl | (simp; done) | (simp [*]; done)), H', ⟨Nat.le_refl _⟩, ⟨by (with_reducible repeat (first | apply Kd.N_alloc | apply Kd.N_drewN | apply Kd.N_drew)); exact HO214.out⟩, ⟨by (with_reducible repeat (first | refine blk_drewN ?_ _ | refine blk_drew ?_ | refine blk_alloc ?_ _)); exact BK211.out⟩, ⟨by repeat (first | (with_reducible first | exact HB.out | apply below_alloc | apply pw_below_drewN | apply below_drew1 | refine below_set ?_ GE211.out) | exact HB.out)⟩⟩
    case round =>
      clear H'
      try clear p2
      try clear c3
      try clear c3b0
      try clear c3b1
      try clear hcz5_0
      try clear hcz5_1
      try clear hcz5_2
      try clear hcz5_3
      try clear hcz5_4
      try clear hcz5_5
      try clear hcz5_6
      try clear hcz9_0
      try clear hcz9_1
      try clear hcz9_2
      try clear hcz9_3
      try clear hcz9_4
      try clear hcz9_5
      try clear hcz9_6
      try clear hfz5_0
      try clear hfz5_1
      try clear hfz5_2
      try clear hfz5_3
      try clear hfz5_4
      try clear hfz5_5
      try clear hfz5_6
      try clear hfz9_0
      try clear hfz9_1
      try clear hfz9_2
      try clear hfz9_3
      try clear hfz9_4
      try clear hfz9_5
      try clear hfz9_6
      obtain ⟨x15_1, rfl, HA, HK1, HO_3, BK211, HB⟩ := hrel
      cases gk with
      | zero => exact absurd HA.out (by simp [sashref05_May.l0])
      | succ k1 =>
        have H := HA.out
        clear HA
        simp only [sashref05_May.l0] at H
        by_cases c12 : x15_1 < (t212.length : Int)
        · rw [if_pos c12] at H
          have c12b0 : decide (x15_1 < (t212.length : Int)) = true := decide_eq_true c12
          clear c12
          have HC13 := Aside0.mk H
          clear H
          go_upto_region 7 with (fail)
          repeat (go_quiet (fail); go_upto_region 7 with (fail))
          go_cut [40] (fun v40 wc => ∃ (kq : Nat) (x40_12 : Bool), v40 = .bool x40_12 ∧ Aside0 (sashref05_May.j1 kq t212 x15_1 (t212.length : Int) x15_1 x40_12 a0_0 a0_1 a0_2 a0_3 a0_4 a0_5 l0_6 = some r) ∧ Aside0 (kq ≤ k1) ∧ Aside0 (Kd.N k29 29 wc w.heap.size (fun k_ => k_ ≠ gb211) (.slice Ao11 t212.length co11) t212) ∧ Aside0 (wc.heap[gb211]? = some (.cells #[.int .u8 a0_0, .int .i64 a0_1, .int .i64 a0_2, .int .i64 a0_3, .int .i64 a0_4, .int .i64 a0_5, (.slice A0_6 l0_6.length c0_6)] 29 (0, 0))) ∧ Aside0 (Below w.heap.size w wc))
          case first =>
            have H := HC13.out
            clear HC13
            by_cases c14 : 0 ≤ x15_1
            · rw [if_pos c14] at H
              have c14b0 : decide (0 ≤ x15_1) = true := decide_eq_true c14
              clear c14
              (first | rw [c14b0] | (simp only [i64_w, i32_w]; rw [c14b0]) | skip)
              by_cases c15 : x15_1 < (t212.length : Int)
              · rw [if_pos c15] at H
                have c15b0 : decide (x15_1 < (t212.length : Int)) = true := decide_eq_true c15
                clear c15
                replace H := Option.bind_eq_some_iff.mp H
                obtain ⟨t216, A160, H⟩ := H
                replace H : (if t216 = true then (if ((rd_T29 t212 x15_1).f0) < 1 then (sashref05_May.j1 k1 t212 x15_1 (t212.length : Int) x15_1 true a0_0 a0_1 a0_2 a0_3 a0_4 a0_5 l0_6) else (sashref05_May.j1 k1 t212 x15_1 (t212.length : Int) x15_1 (decide (((rd_T29 t212 x15_1).f0) > 3)) a0_0 a0_1 a0_2 a0_3 a0_4 a0_5 l0_6)) else (sashref05_May.j1 k1 t212 x15_1 (t212.length : Int) x15_1 true a0_0 a0_1 a0_2 a0_3 a0_4 a0_5 l0_6)) = some r := H
                have A16 := Aside0.mk A160
                clear A160
                by_cases c17 : t216 = true
                · subst c17
                  have H1 : (if ((rd_T29 t212 x15_1).f0) < 1 then (sashref05_May.j1 k1 t212 x15_1 (t212.length : Int) x15_1 true a0_0 a0_1 a0_2 a0_3 a0_4 a0_5 l0_6) else (sashref05_May.j1 k1 t212 x15_1 (t212.length : Int) x15_1 (decide (((rd_T29 t212 x15_1).f0) > 3)) a0_0 a0_1 a0_2 a0_3 a0_4 a0_5 l0_6)) = some r := by rw [if_pos rfl] at H; exact H
                  clear H
                  have H := H1
                  clear H1
                  by_cases c18 : ((rd_T29 t212 x15_1).f0) < 1
                  · rw [if_pos c18] at H
                    have c18b0 : decide (((rd_T29 t212 x15_1).f0) < 1) = true := decide_eq_true c18
                    clear c18
                    have H' := Aside0.mk H
                    clear H
                    have p215 : 0 ≤ (x15_1 : Int) := of_decide_eq_true (by first | (with_reducible assumption) | assumption)
                    have q215 : x15_1 < (t212.length : Int) := of_decide_eq_true (by first | (with_reducible assumption) | assumption)
                    obtain ⟨ad215, A215_6, c215_6, e215, hx215_0, hx215_1, hx215_2, hx215_3, hx215_4, hx215_5, hx215_6, hl215_6, hi215_6⟩ := at_T29 (Kd.N_reads' HO_3.out).2.2 x15_1 p215 q215
                    cases e215
                    obtain ⟨ce215, hce215, hMe215, hcc215⟩ := Kd.N_get HO_3.out z29 x15_1 p215 (by first | exact q215 | exact of_decide_eq_true (by first | (with_reducible assumption) | assumption) | (have e_ := (Kd.N_reads' HO_3.out).1; omega))
                    obtain ⟨ua215_6, uc215_6, rfl, ul215_6, ge215_6⟩ := k29_openF hMe215
                    have hv215_6 := hcc215 6 _ rfl
                    rw [add_field _ _ 6 (by omega)] at hv215_6
                    replace hv215_6 := Option.some.inj (hv215_6.symm.trans hx215_6)
                    injection hv215_6 with hva_ hvn_ hvc_
                    rw [hva_] at ge215_6
                    rw [hvc_] at ul215_6
                    have HL215_6 := Aside0.mk (show Kd.V k29 29 _ w.heap.size _ _ ((rd_T29 t212 x15_1).f3) from Kd.V_mk ul215_6 ge215_6)
                    clear hva_ hvn_ hvc_ ge215_6 ul215_6
                    clear hcc215 hce215
                    have HR215_6 := Aside0.mk hi215_6
                    have HC215_6 := Aside0.mk hl215_6
                    clear hi215_6 hl215_6
                    replace p215 := eq_true p215
                    replace q215 := eq_true q215
                    go_wp2_with (first | (go_at_call 28; (with_reducible refine (sashref04_May.calls ((rd_T29 t212 x15_1).f1.f0) ((rd_T29 t212 x15_1).f1.f1) ((rd_T29 t212 x15_1).f1.f2) ((rd_T29 t212 x15_1).f1.f3) true _ A16.out).mono ?_); rintro e w19 ⟨rfl, hb⟩; have n0_ := Aside0.mk (Kd.N_below (by (with_reducible repeat (first | apply Kd.N_alloc | apply Kd.N_drewN | apply Kd.N_drew)); exact HO_3.out) hb); have n1_ := Aside0.mk (Kd.V_below (by (with_reducible repeat (first | apply Kd.V_alloc | apply Kd.V_drewN | apply Kd.V_drew)); exact HL215_6.out) hb); have n2_ := Aside0.mk (blk_below (g := gb211) (o := .cells #[.int .u8 a0_0, .int .i64 a0_1, .int .i64 a0_2, .int .i64 a0_3, .int .i64 a0_4, .int .i64 a0_5, .slice A0_6 l0_6.length c0_6] 29 (0, 0)) (by (with_reducible repeat (first | refine blk_drewN ?_ _ | refine blk_drew ?_ | refine blk_alloc ?_ _)); exact BK211.out) hb); have n3_ := Aside0.mk (Kd.C_below (by repeat (first | (with_reducible exact HR215_6.out) | (with_reducible refine Kd.C_alloc ?_ _) | (with_reducible refine Kd.C_drewN ?_ _) | (with_reducible refine Kd.C_drew ?_) | exact HR215_6.out)) hb); have n4_ := Aside0.mk (below_step (by repeat (first | (with_reducible first | exact HB.out | apply below_alloc | apply pw_below_drewN | apply below_drew1 | refine below_set ?_ GE211.out) | exact HB.out)) hb); clear HO_3; clear HL215_6; clear BK211; clear HR215_6; clear HB; have HO_3 := n0_; have HL215_6 := n1_; have BK211 := n2_; have HR215_6 := n3_; have HB := n4_; clear n0_ n1_ n2_ n3_ n4_; (try clear hb); (try clear hb2); (try clear hk); (try clear hi); have p217 : 0 ≤ (x15_1 : Int) := of_decide_eq_true (by first | (with_reducible assumption) | assumption); have q217 : x15_1 < (t212.length : Int) := of_decide_eq_true (by first | (with_reducible assumption) | assumption); obtain ⟨ad217, A217_6, c217_6, e217, hx217_0, hx217_1, hx217_2, hx217_3, hx217_4, hx217_5, hx217_6, hl217_6, hi217_6⟩ := at_T29 (Kd.N_reads' HO_3.out).2.2 x15_1 p217 q217; obtain rfl : ad215 = ad217 := (by injection e217); obtain ⟨ce217, hce217, hMe217, hcc217⟩ := Kd.N_get HO_3.out z29 x15_1 p217 (by first | exact q217 | exact of_decide_eq_true (by first | (with_reducible assumption) | assumption) | (have e_ := (Kd.N_reads' HO_3.out).1; omega)); obtain ⟨ua217_6, uc217_6, rfl, ul217_6, ge217_6⟩ := k29_openF hMe217; have hv217_6 := hcc217 6 _ rfl; rw [add_field _ _ 6 (by omega)] at hv217_6; replace hv217_6 := Option.some.inj (hv217_6.symm.trans hx217_6); injection hv217_6 with hva_ hvn_ hvc_; rw [hva_] at ge217_6; rw [hvc_] at ul217_6; have HL217_6 := Aside0.mk (show Kd.V k29 29 _ w.heap.size _ _ ((rd_T29 t212 x15_1).f3) from Kd.V_mk ul217_6 ge217_6); clear hva_ hvn_ hvc_ ge217_6 ul217_6; clear hcc217 hce217; have HR217_6 := Aside0.mk hi217_6; have HC217_6 := Aside0.mk hl217_6; clear hi217_6 hl217_6; replace p217 := eq_true p217; replace q217 := eq_true q217))
                    repeat (go_quiet (first | (go_at_call 28; (with_reducible refine (sashref04_May.calls ((rd_T29 t212 x15_1).f1.f0) ((rd_T29 t212 x15_1).f1.f1) ((rd_T29 t212 x15_1).f1.f2) ((rd_T29 t212 x15_1).f1.f3) true _ A16.out).mono ?_); rintro e w19 ⟨rfl, hb⟩; have n0_ := Aside0.mk (Kd.N_below (by (with_reducible repeat (first | apply Kd.N_alloc | apply Kd.N_drewN | apply Kd.N_drew)); exact HO_3.out) hb); have n1_ := Aside0.mk (Kd.V_below (by (with_reducible repeat (first | apply Kd.V_alloc | apply Kd.V_drewN | apply Kd.V_drew)); exact HL215_6.out) hb); have n2_ := Aside0.mk (blk_below (g := gb211) (o := .cells #[.int .u8 a0_0, .int .i64 a0_1, .int .i64 a0_2, .int .i64 a0_3, .int .i64 a0_4, .int .i64 a0_5, .slice A0_6 l0_6.length c0_6] 29 (0, 0)) (by (with_reducible repeat (first | refine blk_drewN ?_ _ | refine blk_drew ?_ | refine blk_alloc ?_ _)); exact BK211.out) hb); have n3_ := Aside0.mk (Kd.C_below (by repeat (first | (with_reducible exact HR215_6.out) | (with_reducible refine Kd.C_alloc ?_ _) | (with_reducible refine Kd.C_drewN ?_ _) | (with_reducible refine Kd.C_drew ?_) | exact HR215_6.out)) hb); have n4_ := Aside0.mk (below_step (by repeat (first | (with_reducible first | exact HB.out | apply below_alloc | apply pw_below_drewN | apply below_drew1 | refine below_set ?_ GE211.out) | exact HB.out)) hb); clear HO_3; clear HL215_6; clear BK211; clear HR215_6; clear HB; have HO_3 := n0_; have HL215_6 := n1_; have BK211 := n2_; have HR215_6 := n3_; have HB := n4_; clear n0_ n1_ n2_ n3_ n4_; (try clear hb); (try clear hb2); (try clear hk); (try clear hi); have p217 : 0 ≤ (x15_1 : Int) := of_decide_eq_true (by first | (with_reducible assumption) | assumption); have q217 : x15_1 < (t212.length : Int) := of_decide_eq_true (by first | (with_reducible assumption) | assumption); obtain ⟨ad217, A217_6, c217_6, e217, hx217_0, hx217_1, hx217_2, hx217_3, hx217_4, hx217_5, hx217_6, hl217_6, hi217_6⟩ := at_T29 (Kd.N_reads' HO_3.out).2.2 x15_1 p217 q217; obtain rfl : ad215 = ad217 := (by injection e217); obtain ⟨ce217, hce217, hMe217, hcc217⟩ := Kd.N_get HO_3.out z29 x15_1 p217 (by first | exact q217 | exact of_decide_eq_true (by first | (with_reducible assumption) | assumption) | (have e_ := (Kd.N_reads' HO_3.out).1; omega)); obtain ⟨ua217_6, uc217_6, rfl, ul217_6, ge217_6⟩ := k29_openF hMe217; have hv217_6 := hcc217 6 _ rfl; rw [add_field _ _ 6 (by omega)] at hv217_6; replace hv217_6 := Option.some.inj (hv217_6.symm.trans hx217_6); injection hv217_6 with hva_ hvn_ hvc_; rw [hva_] at ge217_6; rw [hvc_] at ul217_6; have HL217_6 := Aside0.mk (show Kd.V k29 29 _ w.heap.size _ _ ((rd_T29 t212 x15_1).f3) from Kd.V_mk ul217_6 ge217_6); clear hva_ hvn_ hvc_ ge217_6 ul217_6; clear hcc217 hce217; have HR217_6 := Aside0.mk hi217_6; have HC217_6 := Aside0.mk hl217_6; clear hi217_6 hl217_6; replace p217 := eq_true p217; replace q217 := eq_true q217)); try go_wp2_with (first | (go_at_call 28; (with_reducible refine (sashref04_May.calls ((rd_T29 t212 x15_1).f1.f0) ((rd_T29 t212 x15_1).f1.f1) ((rd_T29 t212 x15_1).f1.f2) ((rd_T29 t212 x15_1).f1.f3) true _ A16.out).mono ?_); rintro e w19 ⟨rfl, hb⟩; have n0_ := Aside0.mk (Kd.N_below (by (with_reducible repeat (first | apply Kd.N_alloc | apply Kd.N_drewN | apply Kd.N_drew)); exact HO_3.out) hb); have n1_ := Aside0.mk (Kd.V_below (by (with_reducible repeat (first | apply Kd.V_alloc | apply Kd.V_drewN | apply Kd.V_drew)); exact HL215_6.out) hb); have n2_ := Aside0.mk (blk_below (g := gb211) (o := .cells #[.int .u8 a0_0, .int .i64 a0_1, .int .i64 a0_2, .int .i64 a0_3, .int .i64 a0_4, .int .i64 a0_5, .slice A0_6 l0_6.length c0_6] 29 (0, 0)) (by (with_reducible repeat (first | refine blk_drewN ?_ _ | refine blk_drew ?_ | refine blk_alloc ?_ _)); exact BK211.out) hb); have n3_ := Aside0.mk (Kd.C_below (by repeat (first | (with_reducible exact HR215_6.out) | (with_reducible refine Kd.C_alloc ?_ _) | (with_reducible refine Kd.C_drewN ?_ _) | (with_reducible refine Kd.C_drew ?_) | exact HR215_6.out)) hb); have n4_ := Aside0.mk (below_step (by repeat (first | (with_reducible first | exact HB.out | apply below_alloc | apply pw_below_drewN | apply below_drew1 | refine below_set ?_ GE211.out) | exact HB.out)) hb); clear HO_3; clear HL215_6; clear BK211; clear HR215_6; clear HB; have HO_3 := n0_; have HL215_6 := n1_; have BK211 := n2_; have HR215_6 := n3_; have HB := n4_; clear n0_ n1_ n2_ n3_ n4_; (try clear hb); (try clear hb2); (try clear hk); (try clear hi); have p217 : 0 ≤ (x15_1 : Int) := of_decide_eq_true (by first | (with_reducible assumption) | assumption); have q217 : x15_1 < (t212.length : Int) := of_decide_eq_true (by first | (with_reducible assumption) | assumption); obtain ⟨ad217, A217_6, c217_6, e217, hx217_0, hx217_1, hx217_2, hx217_3, hx217_4, hx217_5, hx217_6, hl217_6, hi217_6⟩ := at_T29 (Kd.N_reads' HO_3.out).2.2 x15_1 p217 q217; obtain rfl : ad215 = ad217 := (by injection e217); obtain ⟨ce217, hce217, hMe217, hcc217⟩ := Kd.N_get HO_3.out z29 x15_1 p217 (by first | exact q217 | exact of_decide_eq_true (by first | (with_reducible assumption) | assumption) | (have e_ := (Kd.N_reads' HO_3.out).1; omega)); obtain ⟨ua217_6, uc217_6, rfl, ul217_6, ge217_6⟩ := k29_openF hMe217; have hv217_6 := hcc217 6 _ rfl; rw [add_field _ _ 6 (by omega)] at hv217_6; replace hv217_6 := Option.some.inj (hv217_6.symm.trans hx217_6); injection hv217_6 with hva_ hvn_ hvc_; rw [hva_] at ge217_6; rw [hvc_] at ul217_6; have HL217_6 := Aside0.mk (show Kd.V k29 29 _ w.heap.size _ _ ((rd_T29 t212 x15_1).f3) from Kd.V_mk ul217_6 ge217_6); clear hva_ hvn_ hvc_ ge217_6 ul217_6; clear hcc217 hce217; have HR217_6 := Aside0.mk hi217_6; have HC217_6 := Aside0.mk hl217_6; clear hi217_6 hl217_6; replace p217 := eq_true p217; replace q217 := eq_true q217)))
                    go_meet
                    case rel => exact ⟨_, (true), (by first | rfl | (simp; done) | (simp [*]; done)), H', ⟨by have := HK1.out; first | omega | exact Nat.le_refl _⟩, ⟨by (with_reducible repeat (first | apply Kd.N_alloc | apply Kd.N_drewN | apply Kd.N_drew)); exact HO_3.out⟩, ⟨by (with_reducible repeat (first | refine blk_drewN ?_ _ | refine blk_drew ?_ | refine blk_alloc ?_ _)); exact BK211.out⟩, ⟨by repeat (first | (with_reducible first | exact HB.out | apply below_alloc | apply pw_below_drewN | apply below_drew1 | refine below_set ?_ GE211.out) | exact HB.out)⟩⟩
                  · rw [if_neg c18] at H
                    have c18b0 : decide (((rd_T29 t212 x15_1).f0) < 1) = false := decide_eq_false c18
                    clear c18
                    have H' := Aside0.mk H
                    clear H
                    have p215 : 0 ≤ (x15_1 : Int) := of_decide_eq_true (by first | (with_reducible assumption) | assumption)
                    have q215 : x15_1 < (t212.length : Int) := of_decide_eq_true (by first | (with_reducible assumption) | assumption)
                    obtain ⟨ad215, A215_6, c215_6, e215, hx215_0, hx215_1, hx215_2, hx215_3, hx215_4, hx215_5, hx215_6, hl215_6, hi215_6⟩ := at_T29 (Kd.N_reads' HO_3.out).2.2 x15_1 p215 q215
                    cases e215
                    obtain ⟨ce215, hce215, hMe215, hcc215⟩ := Kd.N_get HO_3.out z29 x15_1 p215 (by first | exact q215 | exact of_decide_eq_true (by first | (with_reducible assumption) | assumption) | (have e_ := (Kd.N_reads' HO_3.out).1; omega))
                    obtain ⟨ua215_6, uc215_6, rfl, ul215_6, ge215_6⟩ := k29_openF hMe215
                    have hv215_6 := hcc215 6 _ rfl
                    rw [add_field _ _ 6 (by omega)] at hv215_6
                    replace hv215_6 := Option.some.inj (hv215_6.symm.trans hx215_6)
                    injection hv215_6 with hva_ hvn_ hvc_
                    rw [hva_] at ge215_6
                    rw [hvc_] at ul215_6
                    have HL215_6 := Aside0.mk (show Kd.V k29 29 _ w.heap.size _ _ ((rd_T29 t212 x15_1).f3) from Kd.V_mk ul215_6 ge215_6)
                    clear hva_ hvn_ hvc_ ge215_6 ul215_6
                    clear hcc215 hce215
                    have HR215_6 := Aside0.mk hi215_6
                    have HC215_6 := Aside0.mk hl215_6
                    clear hi215_6 hl215_6
                    replace p215 := eq_true p215
                    replace q215 := eq_true q215
                    go_wp2_with (first | (go_at_call 28; (with_reducible refine (sashref04_May.calls ((rd_T29 t212 x15_1).f1.f0) ((rd_T29 t212 x15_1).f1.f1) ((rd_T29 t212 x15_1).f1.f2) ((rd_T29 t212 x15_1).f1.f3) true _ A16.out).mono ?_); rintro e w20 ⟨rfl, hb⟩; have n0_ := Aside0.mk (Kd.N_below (by (with_reducible repeat (first | apply Kd.N_alloc | apply Kd.N_drewN | apply Kd.N_drew)); exact HO_3.out) hb); have n1_ := Aside0.mk (Kd.V_below (by (with_reducible repeat (first | apply Kd.V_alloc | apply Kd.V_drewN | apply Kd.V_drew)); exact HL215_6.out) hb); have n2_ := Aside0.mk (blk_below (g := gb211) (o := .cells #[.int .u8 a0_0, .int .i64 a0_1, .int .i64 a0_2, .int .i64 a0_3, .int .i64 a0_4, .int .i64 a0_5, .slice A0_6 l0_6.length c0_6] 29 (0, 0)) (by (with_reducible repeat (first | refine blk_drewN ?_ _ | refine blk_drew ?_ | refine blk_alloc ?_ _)); exact BK211.out) hb); have n3_ := Aside0.mk (Kd.C_below (by repeat (first | (with_reducible exact HR215_6.out) | (with_reducible refine Kd.C_alloc ?_ _) | (with_reducible refine Kd.C_drewN ?_ _) | (with_reducible refine Kd.C_drew ?_) | exact HR215_6.out)) hb); have n4_ := Aside0.mk (below_step (by repeat (first | (with_reducible first | exact HB.out | apply below_alloc | apply pw_below_drewN | apply below_drew1 | refine below_set ?_ GE211.out) | exact HB.out)) hb); clear HO_3; clear HL215_6; clear BK211; clear HR215_6; clear HB; have HO_3 := n0_; have HL215_6 := n1_; have BK211 := n2_; have HR215_6 := n3_; have HB := n4_; clear n0_ n1_ n2_ n3_ n4_; (try clear hb); (try clear hb2); (try clear hk); (try clear hi); have p217 : 0 ≤ (x15_1 : Int) := of_decide_eq_true (by first | (with_reducible assumption) | assumption); have q217 : x15_1 < (t212.length : Int) := of_decide_eq_true (by first | (with_reducible assumption) | assumption); obtain ⟨ad217, A217_6, c217_6, e217, hx217_0, hx217_1, hx217_2, hx217_3, hx217_4, hx217_5, hx217_6, hl217_6, hi217_6⟩ := at_T29 (Kd.N_reads' HO_3.out).2.2 x15_1 p217 q217; obtain rfl : ad215 = ad217 := (by injection e217); obtain ⟨ce217, hce217, hMe217, hcc217⟩ := Kd.N_get HO_3.out z29 x15_1 p217 (by first | exact q217 | exact of_decide_eq_true (by first | (with_reducible assumption) | assumption) | (have e_ := (Kd.N_reads' HO_3.out).1; omega)); obtain ⟨ua217_6, uc217_6, rfl, ul217_6, ge217_6⟩ := k29_openF hMe217; have hv217_6 := hcc217 6 _ rfl; rw [add_field _ _ 6 (by omega)] at hv217_6; replace hv217_6 := Option.some.inj (hv217_6.symm.trans hx217_6); injection hv217_6 with hva_ hvn_ hvc_; rw [hva_] at ge217_6; rw [hvc_] at ul217_6; have HL217_6 := Aside0.mk (show Kd.V k29 29 _ w.heap.size _ _ ((rd_T29 t212 x15_1).f3) from Kd.V_mk ul217_6 ge217_6); clear hva_ hvn_ hvc_ ge217_6 ul217_6; clear hcc217 hce217; have HR217_6 := Aside0.mk hi217_6; have HC217_6 := Aside0.mk hl217_6; clear hi217_6 hl217_6; replace p217 := eq_true p217; replace q217 := eq_true q217; have p218 : 0 ≤ (x15_1 : Int) := of_decide_eq_true (by first | (with_reducible assumption) | assumption); have q218 : x15_1 < (t212.length : Int) := of_decide_eq_true (by first | (with_reducible assumption) | assumption); obtain ⟨ad218, A218_6, c218_6, e218, hx218_0, hx218_1, hx218_2, hx218_3, hx218_4, hx218_5, hx218_6, hl218_6, hi218_6⟩ := at_T29 (Kd.N_reads' HO_3.out).2.2 x15_1 p218 q218; obtain rfl : ad215 = ad218 := (by injection e218); obtain ⟨ce218, hce218, hMe218, hcc218⟩ := Kd.N_get HO_3.out z29 x15_1 p218 (by first | exact q218 | exact of_decide_eq_true (by first | (with_reducible assumption) | assumption) | (have e_ := (Kd.N_reads' HO_3.out).1; omega)); obtain ⟨ua218_6, uc218_6, rfl, ul218_6, ge218_6⟩ := k29_openF hMe218; have hv218_6 := hcc218 6 _ rfl; rw [add_field _ _ 6 (by omega)] at hv218_6; replace hv218_6 := Option.some.inj (hv218_6.symm.trans hx218_6); injection hv218_6 with hva_ hvn_ hvc_; rw [hva_] at ge218_6; rw [hvc_] at ul218_6; have HL218_6 := Aside0.mk (show Kd.V k29 29 _ w.heap.size _ _ ((rd_T29 t212 x15_1).f3) from Kd.V_mk ul218_6 ge218_6); clear hva_ hvn_ hvc_ ge218_6 ul218_6; clear hcc218 hce218; have HR218_6 := Aside0.mk hi218_6; have HC218_6 := Aside0.mk hl218_6; clear hi218_6 hl218_6; replace p218 := eq_true p218; replace q218 := eq_true q218; have ea_ := Option.some.inj (hx217_6.symm.trans hx218_6); injection ea_ with ea_ en_ ec_; subst ea_; subst ec_; clear en_))
                    repeat (go_quiet (first | (go_at_call 28; (with_reducible refine (sashref04_May.calls ((rd_T29 t212 x15_1).f1.f0) ((rd_T29 t212 x15_1).f1.f1) ((rd_T29 t212 x15_1).f1.f2) ((rd_T29 t212 x15_1).f1.f3) true _ A16.out).mono ?_); rintro e w20 ⟨rfl, hb⟩; have n0_ := Aside0.mk (Kd.N_below (by (with_reducible repeat (first | apply Kd.N_alloc | apply Kd.N_drewN | apply Kd.N_drew)); exact HO_3.out) hb); have n1_ := Aside0.mk (Kd.V_below (by (with_reducible repeat (first | apply Kd.V_alloc | apply Kd.V_drewN | apply Kd.V_drew)); exact HL215_6.out) hb); have n2_ := Aside0.mk (blk_below (g := gb211) (o := .cells #[.int .u8 a0_0, .int .i64 a0_1, .int .i64 a0_2, .int .i64 a0_3, .int .i64 a0_4, .int .i64 a0_5, .slice A0_6 l0_6.length c0_6] 29 (0, 0)) (by (with_reducible repeat (first | refine blk_drewN ?_ _ | refine blk_drew ?_ | refine blk_alloc ?_ _)); exact BK211.out) hb); have n3_ := Aside0.mk (Kd.C_below (by repeat (first | (with_reducible exact HR215_6.out) | (with_reducible refine Kd.C_alloc ?_ _) | (with_reducible refine Kd.C_drewN ?_ _) | (with_reducible refine Kd.C_drew ?_) | exact HR215_6.out)) hb); have n4_ := Aside0.mk (below_step (by repeat (first | (with_reducible first | exact HB.out | apply below_alloc | apply pw_below_drewN | apply below_drew1 | refine below_set ?_ GE211.out) | exact HB.out)) hb); clear HO_3; clear HL215_6; clear BK211; clear HR215_6; clear HB; have HO_3 := n0_; have HL215_6 := n1_; have BK211 := n2_; have HR215_6 := n3_; have HB := n4_; clear n0_ n1_ n2_ n3_ n4_; (try clear hb); (try clear hb2); (try clear hk); (try clear hi); have p217 : 0 ≤ (x15_1 : Int) := of_decide_eq_true (by first | (with_reducible assumption) | assumption); have q217 : x15_1 < (t212.length : Int) := of_decide_eq_true (by first | (with_reducible assumption) | assumption); obtain ⟨ad217, A217_6, c217_6, e217, hx217_0, hx217_1, hx217_2, hx217_3, hx217_4, hx217_5, hx217_6, hl217_6, hi217_6⟩ := at_T29 (Kd.N_reads' HO_3.out).2.2 x15_1 p217 q217; obtain rfl : ad215 = ad217 := (by injection e217); obtain ⟨ce217, hce217, hMe217, hcc217⟩ := Kd.N_get HO_3.out z29 x15_1 p217 (by first | exact q217 | exact of_decide_eq_true (by first | (with_reducible assumption) | assumption) | (have e_ := (Kd.N_reads' HO_3.out).1; omega)); obtain ⟨ua217_6, uc217_6, rfl, ul217_6, ge217_6⟩ := k29_openF hMe217; have hv217_6 := hcc217 6 _ rfl; rw [add_field _ _ 6 (by omega)] at hv217_6; replace hv217_6 := Option.some.inj (hv217_6.symm.trans hx217_6); injection hv217_6 with hva_ hvn_ hvc_; rw [hva_] at ge217_6; rw [hvc_] at ul217_6; have HL217_6 := Aside0.mk (show Kd.V k29 29 _ w.heap.size _ _ ((rd_T29 t212 x15_1).f3) from Kd.V_mk ul217_6 ge217_6); clear hva_ hvn_ hvc_ ge217_6 ul217_6; clear hcc217 hce217; have HR217_6 := Aside0.mk hi217_6; have HC217_6 := Aside0.mk hl217_6; clear hi217_6 hl217_6; replace p217 := eq_true p217; replace q217 := eq_true q217; have p218 : 0 ≤ (x15_1 : Int) := of_decide_eq_true (by first | (with_reducible assumption) | assumption); have q218 : x15_1 < (t212.length : Int) := of_decide_eq_true (by first | (with_reducible assumption) | assumption); obtain ⟨ad218, A218_6, c218_6, e218, hx218_0, hx218_1, hx218_2, hx218_3, hx218_4, hx218_5, hx218_6, hl218_6, hi218_6⟩ := at_T29 (Kd.N_reads' HO_3.out).2.2 x15_1 p218 q218; obtain rfl : ad215 = ad218 := (by injection e218); obtain ⟨ce218, hce218, hMe218, hcc218⟩ := Kd.N_get HO_3.out z29 x15_1 p218 (by first | exact q218 | exact of_decide_eq_true (by first | (with_reducible assumption) | assumption) | (have e_ := (Kd.N_reads' HO_3.out).1; omega)); obtain ⟨ua218_6, uc218_6, rfl, ul218_6, ge218_6⟩ := k29_openF hMe218; have hv218_6 := hcc218 6 _ rfl; rw [add_field _ _ 6 (by omega)] at hv218_6; replace hv218_6 := Option.some.inj (hv218_6.symm.trans hx218_6); injection hv218_6 with hva_ hvn_ hvc_; rw [hva_] at ge218_6; rw [hvc_] at ul218_6; have HL218_6 := Aside0.mk (show Kd.V k29 29 _ w.heap.size _ _ ((rd_T29 t212 x15_1).f3) from Kd.V_mk ul218_6 ge218_6); clear hva_ hvn_ hvc_ ge218_6 ul218_6; clear hcc218 hce218; have HR218_6 := Aside0.mk hi218_6; have HC218_6 := Aside0.mk hl218_6; clear hi218_6 hl218_6; replace p218 := eq_true p218; replace q218 := eq_true q218; have ea_ := Option.some.inj (hx217_6.symm.trans hx218_6); injection ea_ with ea_ en_ ec_; subst ea_; subst ec_; clear en_)); try go_wp2_with (first | (go_at_call 28; (with_reducible refine (sashref04_May.calls ((rd_T29 t212 x15_1).f1.f0) ((rd_T29 t212 x15_1).f1.f1) ((rd_T29 t212 x15_1).f1.f2) ((rd_T29 t212 x15_1).f1.f3) true _ A16.out).mono ?_); rintro e w20 ⟨rfl, hb⟩; have n0_ := Aside0.mk (Kd.N_below (by (with_reducible repeat (first | apply Kd.N_alloc | apply Kd.N_drewN | apply Kd.N_drew)); exact HO_3.out) hb); have n1_ := Aside0.mk (Kd.V_below (by (with_reducible repeat (first | apply Kd.V_alloc | apply Kd.V_drewN | apply Kd.V_drew)); exact HL215_6.out) hb); have n2_ := Aside0.mk (blk_below (g := gb211) (o := .cells #[.int .u8 a0_0, .int .i64 a0_1, .int .i64 a0_2, .int .i64 a0_3, .int .i64 a0_4, .int .i64 a0_5, .slice A0_6 l0_6.length c0_6] 29 (0, 0)) (by (with_reducible repeat (first | refine blk_drewN ?_ _ | refine blk_drew ?_ | refine blk_alloc ?_ _)); exact BK211.out) hb); have n3_ := Aside0.mk (Kd.C_below (by repeat (first | (with_reducible exact HR215_6.out) | (with_reducible refine Kd.C_alloc ?_ _) | (with_reducible refine Kd.C_drewN ?_ _) | (with_reducible refine Kd.C_drew ?_) | exact HR215_6.out)) hb); have n4_ := Aside0.mk (below_step (by repeat (first | (with_reducible first | exact HB.out | apply below_alloc | apply pw_below_drewN | apply below_drew1 | refine below_set ?_ GE211.out) | exact HB.out)) hb); clear HO_3; clear HL215_6; clear BK211; clear HR215_6; clear HB; have HO_3 := n0_; have HL215_6 := n1_; have BK211 := n2_; have HR215_6 := n3_; have HB := n4_; clear n0_ n1_ n2_ n3_ n4_; (try clear hb); (try clear hb2); (try clear hk); (try clear hi); have p217 : 0 ≤ (x15_1 : Int) := of_decide_eq_true (by first | (with_reducible assumption) | assumption); have q217 : x15_1 < (t212.length : Int) := of_decide_eq_true (by first | (with_reducible assumption) | assumption); obtain ⟨ad217, A217_6, c217_6, e217, hx217_0, hx217_1, hx217_2, hx217_3, hx217_4, hx217_5, hx217_6, hl217_6, hi217_6⟩ := at_T29 (Kd.N_reads' HO_3.out).2.2 x15_1 p217 q217; obtain rfl : ad215 = ad217 := (by injection e217); obtain ⟨ce217, hce217, hMe217, hcc217⟩ := Kd.N_get HO_3.out z29 x15_1 p217 (by first | exact q217 | exact of_decide_eq_true (by first | (with_reducible assumption) | assumption) | (have e_ := (Kd.N_reads' HO_3.out).1; omega)); obtain ⟨ua217_6, uc217_6, rfl, ul217_6, ge217_6⟩ := k29_openF hMe217; have hv217_6 := hcc217 6 _ rfl; rw [add_field _ _ 6 (by omega)] at hv217_6; replace hv217_6 := Option.some.inj (hv217_6.symm.trans hx217_6); injection hv217_6 with hva_ hvn_ hvc_; rw [hva_] at ge217_6; rw [hvc_] at ul217_6; have HL217_6 := Aside0.mk (show Kd.V k29 29 _ w.heap.size _ _ ((rd_T29 t212 x15_1).f3) from Kd.V_mk ul217_6 ge217_6); clear hva_ hvn_ hvc_ ge217_6 ul217_6; clear hcc217 hce217; have HR217_6 := Aside0.mk hi217_6; have HC217_6 := Aside0.mk hl217_6; clear hi217_6 hl217_6; replace p217 := eq_true p217; replace q217 := eq_true q217; have p218 : 0 ≤ (x15_1 : Int) := of_decide_eq_true (by first | (with_reducible assumption) | assumption); have q218 : x15_1 < (t212.length : Int) := of_decide_eq_true (by first | (with_reducible assumption) | assumption); obtain ⟨ad218, A218_6, c218_6, e218, hx218_0, hx218_1, hx218_2, hx218_3, hx218_4, hx218_5, hx218_6, hl218_6, hi218_6⟩ := at_T29 (Kd.N_reads' HO_3.out).2.2 x15_1 p218 q218; obtain rfl : ad215 = ad218 := (by injection e218); obtain ⟨ce218, hce218, hMe218, hcc218⟩ := Kd.N_get HO_3.out z29 x15_1 p218 (by first | exact q218 | exact of_decide_eq_true (by first | (with_reducible assumption) | assumption) | (have e_ := (Kd.N_reads' HO_3.out).1; omega)); obtain ⟨ua218_6, uc218_6, rfl, ul218_6, ge218_6⟩ := k29_openF hMe218; have hv218_6 := hcc218 6 _ rfl; rw [add_field _ _ 6 (by omega)] at hv218_6; replace hv218_6 := Option.some.inj (hv218_6.symm.trans hx218_6); injection hv218_6 with hva_ hvn_ hvc_; rw [hva_] at ge218_6; rw [hvc_] at ul218_6; have HL218_6 := Aside0.mk (show Kd.V k29 29 _ w.heap.size _ _ ((rd_T29 t212 x15_1).f3) from Kd.V_mk ul218_6 ge218_6); clear hva_ hvn_ hvc_ ge218_6 ul218_6; clear hcc218 hce218; have HR218_6 := Aside0.mk hi218_6; have HC218_6 := Aside0.mk hl218_6; clear hi218_6 hl218_6; replace p218 := eq_true p218; replace q218 := eq_true q218; have ea_ := Option.some.inj (hx217_6.symm.trans hx218_6); injection ea_ with ea_ en_ ec_; subst ea_; subst ec_; clear en_)))
                    go_meet
                    case rel => exact ⟨_, (decide (((rd_T29 t212 x15_1).f0) > 3)), (by first | rfl | (simp; done) | (simp [*]; done)), H', ⟨by have := HK1.out; first | omega | exact Nat.le_refl _⟩, ⟨by (with_reducible repeat (first | apply Kd.N_alloc | apply Kd.N_drewN | apply Kd.N_drew)); exact HO_3.out⟩, ⟨by (with_reducible repeat (first | refine blk_drewN ?_ _ | refine blk_drew ?_ | refine blk_alloc ?_ _)); exact BK211.out⟩, ⟨by repeat (first | (with_reducible first | exact HB.out | apply below_alloc | apply pw_below_drewN | apply below_drew1 | refine below_set ?_ GE211.out) | exact HB.out)⟩⟩
                · replace c17 := Bool.eq_false_iff.mpr c17
                  subst c17
                  have H1 : (sashref05_May.j1 k1 t212 x15_1 (t212.length : Int) x15_1 true a0_0 a0_1 a0_2 a0_3 a0_4 a0_5 l0_6) = some r := by rw [if_neg (show ¬ (false = true) by decide)] at H; exact H
                  clear H
                  have H := H1
                  clear H1
                  have H' := Aside0.mk H
                  clear H
                  have p215 : 0 ≤ (x15_1 : Int) := of_decide_eq_true (by first | (with_reducible assumption) | assumption)
                  have q215 : x15_1 < (t212.length : Int) := of_decide_eq_true (by first | (with_reducible assumption) | assumption)
                  obtain ⟨ad215, A215_6, c215_6, e215, hx215_0, hx215_1, hx215_2, hx215_3, hx215_4, hx215_5, hx215_6, hl215_6, hi215_6⟩ := at_T29 (Kd.N_reads' HO_3.out).2.2 x15_1 p215 q215
                  cases e215
                  obtain ⟨ce215, hce215, hMe215, hcc215⟩ := Kd.N_get HO_3.out z29 x15_1 p215 (by first | exact q215 | exact of_decide_eq_true (by first | (with_reducible assumption) | assumption) | (have e_ := (Kd.N_reads' HO_3.out).1; omega))
                  obtain ⟨ua215_6, uc215_6, rfl, ul215_6, ge215_6⟩ := k29_openF hMe215
                  have hv215_6 := hcc215 6 _ rfl
                  rw [add_field _ _ 6 (by omega)] at hv215_6
                  replace hv215_6 := Option.some.inj (hv215_6.symm.trans hx215_6)
                  injection hv215_6 with hva_ hvn_ hvc_
                  rw [hva_] at ge215_6
                  rw [hvc_] at ul215_6
                  have HL215_6 := Aside0.mk (show Kd.V k29 29 _ w.heap.size _ _ ((rd_T29 t212 x15_1).f3) from Kd.V_mk ul215_6 ge215_6)
                  clear hva_ hvn_ hvc_ ge215_6 ul215_6
                  clear hcc215 hce215
                  have HR215_6 := Aside0.mk hi215_6
                  have HC215_6 := Aside0.mk hl215_6
                  clear hi215_6 hl215_6
                  replace p215 := eq_true p215
                  replace q215 := eq_true q215
                  go_wp2_with (first | (go_at_call 28; (with_reducible refine (sashref04_May.calls ((rd_T29 t212 x15_1).f1.f0) ((rd_T29 t212 x15_1).f1.f1) ((rd_T29 t212 x15_1).f1.f2) ((rd_T29 t212 x15_1).f1.f3) false _ A16.out).mono ?_); rintro e w21 ⟨rfl, hb⟩; have n0_ := Aside0.mk (Kd.N_below (by (with_reducible repeat (first | apply Kd.N_alloc | apply Kd.N_drewN | apply Kd.N_drew)); exact HO_3.out) hb); have n1_ := Aside0.mk (Kd.V_below (by (with_reducible repeat (first | apply Kd.V_alloc | apply Kd.V_drewN | apply Kd.V_drew)); exact HL215_6.out) hb); have n2_ := Aside0.mk (blk_below (g := gb211) (o := .cells #[.int .u8 a0_0, .int .i64 a0_1, .int .i64 a0_2, .int .i64 a0_3, .int .i64 a0_4, .int .i64 a0_5, .slice A0_6 l0_6.length c0_6] 29 (0, 0)) (by (with_reducible repeat (first | refine blk_drewN ?_ _ | refine blk_drew ?_ | refine blk_alloc ?_ _)); exact BK211.out) hb); have n3_ := Aside0.mk (Kd.C_below (by repeat (first | (with_reducible exact HR215_6.out) | (with_reducible refine Kd.C_alloc ?_ _) | (with_reducible refine Kd.C_drewN ?_ _) | (with_reducible refine Kd.C_drew ?_) | exact HR215_6.out)) hb); have n4_ := Aside0.mk (below_step (by repeat (first | (with_reducible first | exact HB.out | apply below_alloc | apply pw_below_drewN | apply below_drew1 | refine below_set ?_ GE211.out) | exact HB.out)) hb); clear HO_3; clear HL215_6; clear BK211; clear HR215_6; clear HB; have HO_3 := n0_; have HL215_6 := n1_; have BK211 := n2_; have HR215_6 := n3_; have HB := n4_; clear n0_ n1_ n2_ n3_ n4_; (try clear hb); (try clear hb2); (try clear hk); (try clear hi)))
                  repeat (go_quiet (first | (go_at_call 28; (with_reducible refine (sashref04_May.calls ((rd_T29 t212 x15_1).f1.f0) ((rd_T29 t212 x15_1).f1.f1) ((rd_T29 t212 x15_1).f1.f2) ((rd_T29 t212 x15_1).f1.f3) false _ A16.out).mono ?_); rintro e w21 ⟨rfl, hb⟩; have n0_ := Aside0.mk (Kd.N_below (by (with_reducible repeat (first | apply Kd.N_alloc | apply Kd.N_drewN | apply Kd.N_drew)); exact HO_3.out) hb); have n1_ := Aside0.mk (Kd.V_below (by (with_reducible repeat (first | apply Kd.V_alloc | apply Kd.V_drewN | apply Kd.V_drew)); exact HL215_6.out) hb); have n2_ := Aside0.mk (blk_below (g := gb211) (o := .cells #[.int .u8 a0_0, .int .i64 a0_1, .int .i64 a0_2, .int .i64 a0_3, .int .i64 a0_4, .int .i64 a0_5, .slice A0_6 l0_6.length c0_6] 29 (0, 0)) (by (with_reducible repeat (first | refine blk_drewN ?_ _ | refine blk_drew ?_ | refine blk_alloc ?_ _)); exact BK211.out) hb); have n3_ := Aside0.mk (Kd.C_below (by repeat (first | (with_reducible exact HR215_6.out) | (with_reducible refine Kd.C_alloc ?_ _) | (with_reducible refine Kd.C_drewN ?_ _) | (with_reducible refine Kd.C_drew ?_) | exact HR215_6.out)) hb); have n4_ := Aside0.mk (below_step (by repeat (first | (with_reducible first | exact HB.out | apply below_alloc | apply pw_below_drewN | apply below_drew1 | refine below_set ?_ GE211.out) | exact HB.out)) hb); clear HO_3; clear HL215_6; clear BK211; clear HR215_6; clear HB; have HO_3 := n0_; have HL215_6 := n1_; have BK211 := n2_; have HR215_6 := n3_; have HB := n4_; clear n0_ n1_ n2_ n3_ n4_; (try clear hb); (try clear hb2); (try clear hk); (try clear hi))); try go_wp2_with (first | (go_at_call 28; (with_reducible refine (sashref04_May.calls ((rd_T29 t212 x15_1).f1.f0) ((rd_T29 t212 x15_1).f1.f1) ((rd_T29 t212 x15_1).f1.f2) ((rd_T29 t212 x15_1).f1.f3) false _ A16.out).mono ?_); rintro e w21 ⟨rfl, hb⟩; have n0_ := Aside0.mk (Kd.N_below (by (with_reducible repeat (first | apply Kd.N_alloc | apply Kd.N_drewN | apply Kd.N_drew)); exact HO_3.out) hb); have n1_ := Aside0.mk (Kd.V_below (by (with_reducible repeat (first | apply Kd.V_alloc | apply Kd.V_drewN | apply Kd.V_drew)); exact HL215_6.out) hb); have n2_ := Aside0.mk (blk_below (g := gb211) (o := .cells #[.int .u8 a0_0, .int .i64 a0_1, .int .i64 a0_2, .int .i64 a0_3, .int .i64 a0_4, .int .i64 a0_5, .slice A0_6 l0_6.length c0_6] 29 (0, 0)) (by (with_reducible repeat (first | refine blk_drewN ?_ _ | refine blk_drew ?_ | refine blk_alloc ?_ _)); exact BK211.out) hb); have n3_ := Aside0.mk (Kd.C_below (by repeat (first | (with_reducible exact HR215_6.out) | (with_reducible refine Kd.C_alloc ?_ _) | (with_reducible refine Kd.C_drewN ?_ _) | (with_reducible refine Kd.C_drew ?_) | exact HR215_6.out)) hb); have n4_ := Aside0.mk (below_step (by repeat (first | (with_reducible first | exact HB.out | apply below_alloc | apply pw_below_drewN | apply below_drew1 | refine below_set ?_ GE211.out) | exact HB.out)) hb); clear HO_3; clear HL215_6; clear BK211; clear HR215_6; clear HB; have HO_3 := n0_; have HL215_6 := n1_; have BK211 := n2_; have HR215_6 := n3_; have HB := n4_; clear n0_ n1_ n2_ n3_ n4_; (try clear hb); (try clear hb2); (try clear hk); (try clear hi))))
                  go_meet
                  case rel => exact ⟨_, (true), (by first | rfl | (simp; done) | (simp [*]; done)), H', ⟨by have := HK1.out; first | omega | exact Nat.le_refl _⟩, ⟨by (with_reducible repeat (first | apply Kd.N_alloc | apply Kd.N_drewN | apply Kd.N_drew)); exact HO_3.out⟩, ⟨by (with_reducible repeat (first | refine blk_drewN ?_ _ | refine blk_drew ?_ | refine blk_alloc ?_ _)); exact BK211.out⟩, ⟨by repeat (first | (with_reducible first | exact HB.out | apply below_alloc | apply pw_below_drewN | apply below_drew1 | refine below_set ?_ GE211.out) | exact HB.out)⟩⟩
              · rw [if_neg c15] at H
                exact absurd H (by simp)
            · rw [if_neg c14] at H
              exact absurd H (by simp)
          case rest =>
            clear HC13
            try clear c1
            try clear c2
            try clear p2
            try clear q2
            try clear hx2
            try clear c3
            try clear c3b0
            try clear c3b1
            try clear c12
            try clear c12b0
            try clear c14
            try clear c14b0
            try clear c15
            try clear c15b0
            try clear c17
            try clear c18
            try clear c18b0
            try clear c21
            try clear p21
            try clear q21
            try clear hx21
            try clear hcz5_0
            try clear hcz5_1
            try clear hcz5_2
            try clear hcz5_3
            try clear hcz5_4
            try clear hcz5_5
            try clear hcz5_6
            try clear hcz9_0
            try clear hcz9_1
            try clear hcz9_2
            try clear hcz9_3
            try clear hcz9_4
            try clear hcz9_5
            try clear hcz9_6
            try clear hfz5_0
            try clear hfz5_1
            try clear hfz5_2
            try clear hfz5_3
            try clear hfz5_4
            try clear hfz5_5
            try clear hfz5_6
            try clear hfz9_0
            try clear hfz9_1
            try clear hfz9_2
            try clear hfz9_3
            try clear hfz9_4
            try clear hfz9_5
            try clear hfz9_6
            try clear hx215_0
            try clear hx215_1
            try clear hx215_2
            try clear hx215_3
            try clear hx215_4
            try clear hx215_5
            try clear hx215_6
            try clear hx217_0
            try clear hx217_1
            try clear hx217_2
            try clear hx217_3
            try clear hx217_4
            try clear hx217_5
            try clear hx217_6
            try clear hx218_0
            try clear hx218_1
            try clear hx218_2
            try clear hx218_3
            try clear hx218_4
            try clear hx218_5
            try clear hx218_6
            try clear p2
            try clear p215
            try clear p217
            try clear p218
            try clear q215
            try clear q217
            try clear q218
            obtain ⟨kq, x40_12, rfl, HA, HJ12, HO_3, BK211, HB⟩ := hcut
            cases kq with
            | zero => exact absurd HA.out (by simp [sashref05_May.j1])
            | succ kj12 =>
              have H := HA.out
              clear HA
              simp only [sashref05_May.j1] at H
              by_cases c22 : x40_12 = true
              · subst c22
                have H1 : (some false) = some r := by rw [if_pos rfl] at H; exact H
                clear H
                have H := H1
                clear H1
                obtain rfl := Option.some.inj H
                go_wp2
                repeat (go_quiet (fail); try go_wp2)
                go_ret
                exact ⟨by first | rfl | (simp [errW_none, errW_some] <;> rfl) | (simp [*, errW_none, errW_some] <;> rfl), by repeat (first | (with_reducible first | exact HB.out | apply below_alloc | apply pw_below_drewN | apply below_drew1 | refine below_set ?_ GE211.out) | exact HB.out)⟩
              · replace c22 := Bool.eq_false_iff.mpr c22
                subst c22
                have H1 : (if 0 ≤ x15_1 then (if x15_1 < (t212.length : Int) then (if ((rd_T29 t212 x15_1).f0) = 1 then (if (((rd_T29 t212 x15_1).f3).length : Int) > 0 then (some false) else (if ((rd_T29 t212 x15_1).f2) < 0 then (some false) else (if ((rd_T29 t212 x15_1).f2) > 2147483647 then (some false) else (if ((rd_T29 t212 x15_1).f0) > 1 then (if (((rd_T29 t212 x15_1).f3).length : Int) < 2 then (some false) else (if ((rd_T29 t212 x15_1).f2) = 0 then (sashref05_May.l0 kj12 t212 (t212.length : Int) (wrap64 (x15_1 + 1)) a0_0 a0_1 a0_2 a0_3 a0_4 a0_5 l0_6) else (some false))) else (sashref05_May.l0 kj12 t212 (t212.length : Int) (wrap64 (x15_1 + 1)) a0_0 a0_1 a0_2 a0_3 a0_4 a0_5 l0_6))))) else (if ((rd_T29 t212 x15_1).f0) > 1 then (if (((rd_T29 t212 x15_1).f3).length : Int) < 2 then (some false) else (if ((rd_T29 t212 x15_1).f2) = 0 then (sashref05_May.l0 kj12 t212 (t212.length : Int) (wrap64 (x15_1 + 1)) a0_0 a0_1 a0_2 a0_3 a0_4 a0_5 l0_6) else (some false))) else (sashref05_May.l0 kj12 t212 (t212.length : Int) (wrap64 (x15_1 + 1)) a0_0 a0_1 a0_2 a0_3 a0_4 a0_5 l0_6))) else (none)) else (none)) = some r := by rw [if_neg (show ¬ (false = true) by decide)] at H; exact H
                clear H
                have H := H1
                clear H1
                by_cases c23 : 0 ≤ x15_1
                · rw [if_pos c23] at H
                  have c23b0 : decide (0 ≤ x15_1) = true := decide_eq_true c23
                  clear c23
                  by_cases c24 : x15_1 < (t212.length : Int)
                  · rw [if_pos c24] at H
                    have c24b0 : decide (x15_1 < (t212.length : Int)) = true := decide_eq_true c24
                    clear c24
                    by_cases c25 : ((rd_T29 t212 x15_1).f0) = 1
                    · rw [if_pos c25] at H
                      have c25b0 : (((rd_T29 t212 x15_1).f0) == 1) = true := beq_iff_eq.mpr c25
                      have c25b1 : (((rd_T29 t212 x15_1).f0) != 1) = false := bne_eq_false_iff_eq.mpr c25
                      clear c25
                      by_cases c26 : (((rd_T29 t212 x15_1).f3).length : Int) > 0
                      · rw [if_pos c26] at H
                        have c26b0 : decide (0 < (((rd_T29 t212 x15_1).f3).length : Int)) = true := decide_eq_true c26
                        have c26b1 : decide (0 < ((rd_T29 t212 x15_1).f3).length) = true := decide_eq_true (by omega)
                        clear c26
                        obtain rfl := Option.some.inj H
                        have p219 : 0 ≤ (x15_1 : Int) := of_decide_eq_true (by first | (with_reducible assumption) | assumption)
                        have q219 : x15_1 < (t212.length : Int) := of_decide_eq_true (by first | (with_reducible assumption) | assumption)
                        obtain ⟨ad219, A219_6, c219_6, e219, hx219_0, hx219_1, hx219_2, hx219_3, hx219_4, hx219_5, hx219_6, hl219_6, hi219_6⟩ := at_T29 (Kd.N_reads' HO_3.out).2.2 x15_1 p219 q219
                        cases e219
                        obtain ⟨ce219, hce219, hMe219, hcc219⟩ := Kd.N_get HO_3.out z29 x15_1 p219 (by first | exact q219 | exact of_decide_eq_true (by first | (with_reducible assumption) | assumption) | (have e_ := (Kd.N_reads' HO_3.out).1; omega))
                        obtain ⟨ua219_6, uc219_6, rfl, ul219_6, ge219_6⟩ := k29_openF hMe219
                        have hv219_6 := hcc219 6 _ rfl
                        rw [add_field _ _ 6 (by omega)] at hv219_6
                        replace hv219_6 := Option.some.inj (hv219_6.symm.trans hx219_6)
                        injection hv219_6 with hva_ hvn_ hvc_
                        rw [hva_] at ge219_6
                        rw [hvc_] at ul219_6
                        have HL219_6 := Aside0.mk (show Kd.V k29 29 _ w.heap.size _ _ ((rd_T29 t212 x15_1).f3) from Kd.V_mk ul219_6 ge219_6)
                        clear hva_ hvn_ hvc_ ge219_6 ul219_6
                        clear hcc219 hce219
                        have HR219_6 := Aside0.mk hi219_6
                        have HC219_6 := Aside0.mk hl219_6
                        clear hi219_6 hl219_6
                        replace p219 := eq_true p219
                        replace q219 := eq_true q219
                        have p220 : 0 ≤ (x15_1 : Int) := of_decide_eq_true (by first | (with_reducible assumption) | assumption)
                        have q220 : x15_1 < (t212.length : Int) := of_decide_eq_true (by first | (with_reducible assumption) | assumption)
                        obtain ⟨ad220, A220_6, c220_6, e220, hx220_0, hx220_1, hx220_2, hx220_3, hx220_4, hx220_5, hx220_6, hl220_6, hi220_6⟩ := at_T29 (Kd.N_reads' HO_3.out).2.2 x15_1 p220 q220
                        obtain rfl : ad219 = ad220 := (by injection e220)
                        obtain ⟨ce220, hce220, hMe220, hcc220⟩ := Kd.N_get HO_3.out z29 x15_1 p220 (by first | exact q220 | exact of_decide_eq_true (by first | (with_reducible assumption) | assumption) | (have e_ := (Kd.N_reads' HO_3.out).1; omega))
                        obtain ⟨ua220_6, uc220_6, rfl, ul220_6, ge220_6⟩ := k29_openF hMe220
                        have hv220_6 := hcc220 6 _ rfl
                        rw [add_field _ _ 6 (by omega)] at hv220_6
                        replace hv220_6 := Option.some.inj (hv220_6.symm.trans hx220_6)
                        injection hv220_6 with hva_ hvn_ hvc_
                        rw [hva_] at ge220_6
                        rw [hvc_] at ul220_6
                        have HL220_6 := Aside0.mk (show Kd.V k29 29 _ w.heap.size _ _ ((rd_T29 t212 x15_1).f3) from Kd.V_mk ul220_6 ge220_6)
                        clear hva_ hvn_ hvc_ ge220_6 ul220_6
                        clear hcc220 hce220
                        have HR220_6 := Aside0.mk hi220_6
                        have HC220_6 := Aside0.mk hl220_6
                        clear hi220_6 hl220_6
                        replace p220 := eq_true p220
                        replace q220 := eq_true q220
                        have ea_ := Option.some.inj (hx219_6.symm.trans hx220_6)
                        injection ea_ with ea_ en_ ec_
                        subst ea_
                        subst ec_
                        clear en_
                        go_wp2
                        repeat (go_quiet (fail); try go_wp2)
                        go_ret
                        exact ⟨by first | rfl | (simp [errW_none, errW_some] <;> rfl) | (simp [*, errW_none, errW_some] <;> rfl), by repeat (first | (with_reducible first | exact HB.out | apply below_alloc | apply pw_below_drewN | apply below_drew1 | refine below_set ?_ GE211.out) | exact HB.out)⟩
                      · rw [if_neg c26] at H
                        have c26b0 : decide (0 < (((rd_T29 t212 x15_1).f3).length : Int)) = false := decide_eq_false c26
                        have c26b1 : decide (0 < ((rd_T29 t212 x15_1).f3).length) = false := decide_eq_false (by omega)
                        clear c26
                        by_cases c27 : ((rd_T29 t212 x15_1).f2) < 0
                        · rw [if_pos c27] at H
                          have c27b0 : decide (((rd_T29 t212 x15_1).f2) < 0) = true := decide_eq_true c27
                          clear c27
                          obtain rfl := Option.some.inj H
                          have p219 : 0 ≤ (x15_1 : Int) := of_decide_eq_true (by first | (with_reducible assumption) | assumption)
                          have q219 : x15_1 < (t212.length : Int) := of_decide_eq_true (by first | (with_reducible assumption) | assumption)
                          obtain ⟨ad219, A219_6, c219_6, e219, hx219_0, hx219_1, hx219_2, hx219_3, hx219_4, hx219_5, hx219_6, hl219_6, hi219_6⟩ := at_T29 (Kd.N_reads' HO_3.out).2.2 x15_1 p219 q219
                          cases e219
                          obtain ⟨ce219, hce219, hMe219, hcc219⟩ := Kd.N_get HO_3.out z29 x15_1 p219 (by first | exact q219 | exact of_decide_eq_true (by first | (with_reducible assumption) | assumption) | (have e_ := (Kd.N_reads' HO_3.out).1; omega))
                          obtain ⟨ua219_6, uc219_6, rfl, ul219_6, ge219_6⟩ := k29_openF hMe219
                          have hv219_6 := hcc219 6 _ rfl
                          rw [add_field _ _ 6 (by omega)] at hv219_6
                          replace hv219_6 := Option.some.inj (hv219_6.symm.trans hx219_6)
                          injection hv219_6 with hva_ hvn_ hvc_
                          rw [hva_] at ge219_6
                          rw [hvc_] at ul219_6
                          have HL219_6 := Aside0.mk (show Kd.V k29 29 _ w.heap.size _ _ ((rd_T29 t212 x15_1).f3) from Kd.V_mk ul219_6 ge219_6)
                          clear hva_ hvn_ hvc_ ge219_6 ul219_6
                          clear hcc219 hce219
                          have HR219_6 := Aside0.mk hi219_6
                          have HC219_6 := Aside0.mk hl219_6
                          clear hi219_6 hl219_6
                          replace p219 := eq_true p219
                          replace q219 := eq_true q219
                          have p220 : 0 ≤ (x15_1 : Int) := of_decide_eq_true (by first | (with_reducible assumption) | assumption)
                          have q220 : x15_1 < (t212.length : Int) := of_decide_eq_true (by first | (with_reducible assumption) | assumption)
                          obtain ⟨ad220, A220_6, c220_6, e220, hx220_0, hx220_1, hx220_2, hx220_3, hx220_4, hx220_5, hx220_6, hl220_6, hi220_6⟩ := at_T29 (Kd.N_reads' HO_3.out).2.2 x15_1 p220 q220
                          obtain rfl : ad219 = ad220 := (by injection e220)
                          obtain ⟨ce220, hce220, hMe220, hcc220⟩ := Kd.N_get HO_3.out z29 x15_1 p220 (by first | exact q220 | exact of_decide_eq_true (by first | (with_reducible assumption) | assumption) | (have e_ := (Kd.N_reads' HO_3.out).1; omega))
                          obtain ⟨ua220_6, uc220_6, rfl, ul220_6, ge220_6⟩ := k29_openF hMe220
                          have hv220_6 := hcc220 6 _ rfl
                          rw [add_field _ _ 6 (by omega)] at hv220_6
                          replace hv220_6 := Option.some.inj (hv220_6.symm.trans hx220_6)
                          injection hv220_6 with hva_ hvn_ hvc_
                          rw [hva_] at ge220_6
                          rw [hvc_] at ul220_6
                          have HL220_6 := Aside0.mk (show Kd.V k29 29 _ w.heap.size _ _ ((rd_T29 t212 x15_1).f3) from Kd.V_mk ul220_6 ge220_6)
                          clear hva_ hvn_ hvc_ ge220_6 ul220_6
                          clear hcc220 hce220
                          have HR220_6 := Aside0.mk hi220_6
                          have HC220_6 := Aside0.mk hl220_6
                          clear hi220_6 hl220_6
                          replace p220 := eq_true p220
                          replace q220 := eq_true q220
                          have ea_ := Option.some.inj (hx219_6.symm.trans hx220_6)
                          injection ea_ with ea_ en_ ec_
                          subst ea_
                          subst ec_
                          clear en_
                          have p221 : 0 ≤ (x15_1 : Int) := of_decide_eq_true (by first | (with_reducible assumption) | assumption)
                          have q221 : x15_1 < (t212.length : Int) := of_decide_eq_true (by first | (with_reducible assumption) | assumption)
                          obtain ⟨ad221, A221_6, c221_6, e221, hx221_0, hx221_1, hx221_2, hx221_3, hx221_4, hx221_5, hx221_6, hl221_6, hi221_6⟩ := at_T29 (Kd.N_reads' HO_3.out).2.2 x15_1 p221 q221
                          obtain rfl : ad219 = ad221 := (by injection e221)
                          obtain ⟨ce221, hce221, hMe221, hcc221⟩ := Kd.N_get HO_3.out z29 x15_1 p221 (by first | exact q221 | exact of_decide_eq_true (by first | (with_reducible assumption) | assumption) | (have e_ := (Kd.N_reads' HO_3.out).1; omega))
                          obtain ⟨ua221_6, uc221_6, rfl, ul221_6, ge221_6⟩ := k29_openF hMe221
                          have hv221_6 := hcc221 6 _ rfl
                          rw [add_field _ _ 6 (by omega)] at hv221_6
                          replace hv221_6 := Option.some.inj (hv221_6.symm.trans hx221_6)
                          injection hv221_6 with hva_ hvn_ hvc_
                          rw [hva_] at ge221_6
                          rw [hvc_] at ul221_6
                          have HL221_6 := Aside0.mk (show Kd.V k29 29 _ w.heap.size _ _ ((rd_T29 t212 x15_1).f3) from Kd.V_mk ul221_6 ge221_6)
                          clear hva_ hvn_ hvc_ ge221_6 ul221_6
                          clear hcc221 hce221
                          have HR221_6 := Aside0.mk hi221_6
                          have HC221_6 := Aside0.mk hl221_6
                          clear hi221_6 hl221_6
                          replace p221 := eq_true p221
                          replace q221 := eq_true q221
                          have ea_ := Option.some.inj (hx219_6.symm.trans hx221_6)
                          injection ea_ with ea_ en_ ec_
                          subst ea_
                          subst ec_
                          clear en_
                          go_wp2
                          repeat (go_quiet (fail); try go_wp2)
                          go_ret
                          exact ⟨by first | rfl | (simp [errW_none, errW_some] <;> rfl) | (simp [*, errW_none, errW_some] <;> rfl), by repeat (first | (with_reducible first | exact HB.out | apply below_alloc | apply pw_below_drewN | apply below_drew1 | refine below_set ?_ GE211.out) | exact HB.out)⟩
                        · rw [if_neg c27] at H
                          have c27b0 : decide (((rd_T29 t212 x15_1).f2) < 0) = false := decide_eq_false c27
                          clear c27
                          by_cases c28 : ((rd_T29 t212 x15_1).f2) > 2147483647
                          · rw [if_pos c28] at H
                            have c28b0 : decide (2147483647 < ((rd_T29 t212 x15_1).f2)) = true := decide_eq_true c28
                            clear c28
                            obtain rfl := Option.some.inj H
                            have p219 : 0 ≤ (x15_1 : Int) := of_decide_eq_true (by first | (with_reducible assumption) | assumption)
                            have q219 : x15_1 < (t212.length : Int) := of_decide_eq_true (by first | (with_reducible assumption) | assumption)
                            obtain ⟨ad219, A219_6, c219_6, e219, hx219_0, hx219_1, hx219_2, hx219_3, hx219_4, hx219_5, hx219_6, hl219_6, hi219_6⟩ := at_T29 (Kd.N_reads' HO_3.out).2.2 x15_1 p219 q219
                            cases e219
                            obtain ⟨ce219, hce219, hMe219, hcc219⟩ := Kd.N_get HO_3.out z29 x15_1 p219 (by first | exact q219 | exact of_decide_eq_true (by first | (with_reducible assumption) | assumption) | (have e_ := (Kd.N_reads' HO_3.out).1; omega))
                            obtain ⟨ua219_6, uc219_6, rfl, ul219_6, ge219_6⟩ := k29_openF hMe219
                            have hv219_6 := hcc219 6 _ rfl
                            rw [add_field _ _ 6 (by omega)] at hv219_6
                            replace hv219_6 := Option.some.inj (hv219_6.symm.trans hx219_6)
                            injection hv219_6 with hva_ hvn_ hvc_
                            rw [hva_] at ge219_6
                            rw [hvc_] at ul219_6
                            have HL219_6 := Aside0.mk (show Kd.V k29 29 _ w.heap.size _ _ ((rd_T29 t212 x15_1).f3) from Kd.V_mk ul219_6 ge219_6)
                            clear hva_ hvn_ hvc_ ge219_6 ul219_6
                            clear hcc219 hce219
                            have HR219_6 := Aside0.mk hi219_6
                            have HC219_6 := Aside0.mk hl219_6
                            clear hi219_6 hl219_6
                            replace p219 := eq_true p219
                            replace q219 := eq_true q219
                            have p220 : 0 ≤ (x15_1 : Int) := of_decide_eq_true (by first | (with_reducible assumption) | assumption)
                            have q220 : x15_1 < (t212.length : Int) := of_decide_eq_true (by first | (with_reducible assumption) | assumption)
                            obtain ⟨ad220, A220_6, c220_6, e220, hx220_0, hx220_1, hx220_2, hx220_3, hx220_4, hx220_5, hx220_6, hl220_6, hi220_6⟩ := at_T29 (Kd.N_reads' HO_3.out).2.2 x15_1 p220 q220
                            obtain rfl : ad219 = ad220 := (by injection e220)
                            obtain ⟨ce220, hce220, hMe220, hcc220⟩ := Kd.N_get HO_3.out z29 x15_1 p220 (by first | exact q220 | exact of_decide_eq_true (by first | (with_reducible assumption) | assumption) | (have e_ := (Kd.N_reads' HO_3.out).1; omega))
                            obtain ⟨ua220_6, uc220_6, rfl, ul220_6, ge220_6⟩ := k29_openF hMe220
                            have hv220_6 := hcc220 6 _ rfl
                            rw [add_field _ _ 6 (by omega)] at hv220_6
                            replace hv220_6 := Option.some.inj (hv220_6.symm.trans hx220_6)
                            injection hv220_6 with hva_ hvn_ hvc_
                            rw [hva_] at ge220_6
                            rw [hvc_] at ul220_6
                            have HL220_6 := Aside0.mk (show Kd.V k29 29 _ w.heap.size _ _ ((rd_T29 t212 x15_1).f3) from Kd.V_mk ul220_6 ge220_6)
                            clear hva_ hvn_ hvc_ ge220_6 ul220_6
                            clear hcc220 hce220
                            have HR220_6 := Aside0.mk hi220_6
                            have HC220_6 := Aside0.mk hl220_6
                            clear hi220_6 hl220_6
                            replace p220 := eq_true p220
                            replace q220 := eq_true q220
                            have ea_ := Option.some.inj (hx219_6.symm.trans hx220_6)
                            injection ea_ with ea_ en_ ec_
                            subst ea_
                            subst ec_
                            clear en_
                            have p221 : 0 ≤ (x15_1 : Int) := of_decide_eq_true (by first | (with_reducible assumption) | assumption)
                            have q221 : x15_1 < (t212.length : Int) := of_decide_eq_true (by first | (with_reducible assumption) | assumption)
                            obtain ⟨ad221, A221_6, c221_6, e221, hx221_0, hx221_1, hx221_2, hx221_3, hx221_4, hx221_5, hx221_6, hl221_6, hi221_6⟩ := at_T29 (Kd.N_reads' HO_3.out).2.2 x15_1 p221 q221
                            obtain rfl : ad219 = ad221 := (by injection e221)
                            obtain ⟨ce221, hce221, hMe221, hcc221⟩ := Kd.N_get HO_3.out z29 x15_1 p221 (by first | exact q221 | exact of_decide_eq_true (by first | (with_reducible assumption) | assumption) | (have e_ := (Kd.N_reads' HO_3.out).1; omega))
                            obtain ⟨ua221_6, uc221_6, rfl, ul221_6, ge221_6⟩ := k29_openF hMe221
                            have hv221_6 := hcc221 6 _ rfl
                            rw [add_field _ _ 6 (by omega)] at hv221_6
                            replace hv221_6 := Option.some.inj (hv221_6.symm.trans hx221_6)
                            injection hv221_6 with hva_ hvn_ hvc_
                            rw [hva_] at ge221_6
                            rw [hvc_] at ul221_6
                            have HL221_6 := Aside0.mk (show Kd.V k29 29 _ w.heap.size _ _ ((rd_T29 t212 x15_1).f3) from Kd.V_mk ul221_6 ge221_6)
                            clear hva_ hvn_ hvc_ ge221_6 ul221_6
                            clear hcc221 hce221
                            have HR221_6 := Aside0.mk hi221_6
                            have HC221_6 := Aside0.mk hl221_6
                            clear hi221_6 hl221_6
                            replace p221 := eq_true p221
                            replace q221 := eq_true q221
                            have ea_ := Option.some.inj (hx219_6.symm.trans hx221_6)
                            injection ea_ with ea_ en_ ec_
                            subst ea_
                            subst ec_
                            clear en_
                            have p222 : 0 ≤ (x15_1 : Int) := of_decide_eq_true (by first | (with_reducible assumption) | assumption)
                            have q222 : x15_1 < (t212.length : Int) := of_decide_eq_true (by first | (with_reducible assumption) | assumption)
                            obtain ⟨ad222, A222_6, c222_6, e222, hx222_0, hx222_1, hx222_2, hx222_3, hx222_4, hx222_5, hx222_6, hl222_6, hi222_6⟩ := at_T29 (Kd.N_reads' HO_3.out).2.2 x15_1 p222 q222
                            obtain rfl : ad219 = ad222 := (by injection e222)
                            obtain ⟨ce222, hce222, hMe222, hcc222⟩ := Kd.N_get HO_3.out z29 x15_1 p222 (by first | exact q222 | exact of_decide_eq_true (by first | (with_reducible assumption) | assumption) | (have e_ := (Kd.N_reads' HO_3.out).1; omega))
                            obtain ⟨ua222_6, uc222_6, rfl, ul222_6, ge222_6⟩ := k29_openF hMe222
                            have hv222_6 := hcc222 6 _ rfl
                            rw [add_field _ _ 6 (by omega)] at hv222_6
                            replace hv222_6 := Option.some.inj (hv222_6.symm.trans hx222_6)
                            injection hv222_6 with hva_ hvn_ hvc_
                            rw [hva_] at ge222_6
                            rw [hvc_] at ul222_6
                            have HL222_6 := Aside0.mk (show Kd.V k29 29 _ w.heap.size _ _ ((rd_T29 t212 x15_1).f3) from Kd.V_mk ul222_6 ge222_6)
                            clear hva_ hvn_ hvc_ ge222_6 ul222_6
                            clear hcc222 hce222
                            have HR222_6 := Aside0.mk hi222_6
                            have HC222_6 := Aside0.mk hl222_6
                            clear hi222_6 hl222_6
                            replace p222 := eq_true p222
                            replace q222 := eq_true q222
                            have ea_ := Option.some.inj (hx219_6.symm.trans hx222_6)
                            injection ea_ with ea_ en_ ec_
                            subst ea_
                            subst ec_
                            clear en_
                            go_wp2
                            repeat (go_quiet (fail); try go_wp2)
                            go_ret
                            exact ⟨by first | rfl | (simp [errW_none, errW_some] <;> rfl) | (simp [*, errW_none, errW_some] <;> rfl), by repeat (first | (with_reducible first | exact HB.out | apply below_alloc | apply pw_below_drewN | apply below_drew1 | refine below_set ?_ GE211.out) | exact HB.out)⟩
                          · rw [if_neg c28] at H
                            have c28b0 : decide (2147483647 < ((rd_T29 t212 x15_1).f2)) = false := decide_eq_false c28
                            clear c28
                            by_cases c29 : ((rd_T29 t212 x15_1).f0) > 1
                            · rw [if_pos c29] at H
                              have c29b0 : decide (1 < ((rd_T29 t212 x15_1).f0)) = true := decide_eq_true c29
                              clear c29
                              by_cases c30 : (((rd_T29 t212 x15_1).f3).length : Int) < 2
                              · rw [if_pos c30] at H
                                have c30b0 : decide ((((rd_T29 t212 x15_1).f3).length : Int) < 2) = true := decide_eq_true c30
                                have c30b1 : decide (((rd_T29 t212 x15_1).f3).length < 2) = true := decide_eq_true (by omega)
                                clear c30
                                obtain rfl := Option.some.inj H
                                have p219 : 0 ≤ (x15_1 : Int) := of_decide_eq_true (by first | (with_reducible assumption) | assumption)
                                have q219 : x15_1 < (t212.length : Int) := of_decide_eq_true (by first | (with_reducible assumption) | assumption)
                                obtain ⟨ad219, A219_6, c219_6, e219, hx219_0, hx219_1, hx219_2, hx219_3, hx219_4, hx219_5, hx219_6, hl219_6, hi219_6⟩ := at_T29 (Kd.N_reads' HO_3.out).2.2 x15_1 p219 q219
                                cases e219
                                obtain ⟨ce219, hce219, hMe219, hcc219⟩ := Kd.N_get HO_3.out z29 x15_1 p219 (by first | exact q219 | exact of_decide_eq_true (by first | (with_reducible assumption) | assumption) | (have e_ := (Kd.N_reads' HO_3.out).1; omega))
                                obtain ⟨ua219_6, uc219_6, rfl, ul219_6, ge219_6⟩ := k29_openF hMe219
                                have hv219_6 := hcc219 6 _ rfl
                                rw [add_field _ _ 6 (by omega)] at hv219_6
                                replace hv219_6 := Option.some.inj (hv219_6.symm.trans hx219_6)
                                injection hv219_6 with hva_ hvn_ hvc_
                                rw [hva_] at ge219_6
                                rw [hvc_] at ul219_6
                                have HL219_6 := Aside0.mk (show Kd.V k29 29 _ w.heap.size _ _ ((rd_T29 t212 x15_1).f3) from Kd.V_mk ul219_6 ge219_6)
                                clear hva_ hvn_ hvc_ ge219_6 ul219_6
                                clear hcc219 hce219
                                have HR219_6 := Aside0.mk hi219_6
                                have HC219_6 := Aside0.mk hl219_6
                                clear hi219_6 hl219_6
                                replace p219 := eq_true p219
                                replace q219 := eq_true q219
                                have p220 : 0 ≤ (x15_1 : Int) := of_decide_eq_true (by first | (with_reducible assumption) | assumption)
                                have q220 : x15_1 < (t212.length : Int) := of_decide_eq_true (by first | (with_reducible assumption) | assumption)
                                obtain ⟨ad220, A220_6, c220_6, e220, hx220_0, hx220_1, hx220_2, hx220_3, hx220_4, hx220_5, hx220_6, hl220_6, hi220_6⟩ := at_T29 (Kd.N_reads' HO_3.out).2.2 x15_1 p220 q220
                                obtain rfl : ad219 = ad220 := (by injection e220)
                                obtain ⟨ce220, hce220, hMe220, hcc220⟩ := Kd.N_get HO_3.out z29 x15_1 p220 (by first | exact q220 | exact of_decide_eq_true (by first | (with_reducible assumption) | assumption) | (have e_ := (Kd.N_reads' HO_3.out).1; omega))
                                obtain ⟨ua220_6, uc220_6, rfl, ul220_6, ge220_6⟩ := k29_openF hMe220
                                have hv220_6 := hcc220 6 _ rfl
                                rw [add_field _ _ 6 (by omega)] at hv220_6
                                replace hv220_6 := Option.some.inj (hv220_6.symm.trans hx220_6)
                                injection hv220_6 with hva_ hvn_ hvc_
                                rw [hva_] at ge220_6
                                rw [hvc_] at ul220_6
                                have HL220_6 := Aside0.mk (show Kd.V k29 29 _ w.heap.size _ _ ((rd_T29 t212 x15_1).f3) from Kd.V_mk ul220_6 ge220_6)
                                clear hva_ hvn_ hvc_ ge220_6 ul220_6
                                clear hcc220 hce220
                                have HR220_6 := Aside0.mk hi220_6
                                have HC220_6 := Aside0.mk hl220_6
                                clear hi220_6 hl220_6
                                replace p220 := eq_true p220
                                replace q220 := eq_true q220
                                have ea_ := Option.some.inj (hx219_6.symm.trans hx220_6)
                                injection ea_ with ea_ en_ ec_
                                subst ea_
                                subst ec_
                                clear en_
                                have p221 : 0 ≤ (x15_1 : Int) := of_decide_eq_true (by first | (with_reducible assumption) | assumption)
                                have q221 : x15_1 < (t212.length : Int) := of_decide_eq_true (by first | (with_reducible assumption) | assumption)
                                obtain ⟨ad221, A221_6, c221_6, e221, hx221_0, hx221_1, hx221_2, hx221_3, hx221_4, hx221_5, hx221_6, hl221_6, hi221_6⟩ := at_T29 (Kd.N_reads' HO_3.out).2.2 x15_1 p221 q221
                                obtain rfl : ad219 = ad221 := (by injection e221)
                                obtain ⟨ce221, hce221, hMe221, hcc221⟩ := Kd.N_get HO_3.out z29 x15_1 p221 (by first | exact q221 | exact of_decide_eq_true (by first | (with_reducible assumption) | assumption) | (have e_ := (Kd.N_reads' HO_3.out).1; omega))
                                obtain ⟨ua221_6, uc221_6, rfl, ul221_6, ge221_6⟩ := k29_openF hMe221
                                have hv221_6 := hcc221 6 _ rfl
                                rw [add_field _ _ 6 (by omega)] at hv221_6
                                replace hv221_6 := Option.some.inj (hv221_6.symm.trans hx221_6)
                                injection hv221_6 with hva_ hvn_ hvc_
                                rw [hva_] at ge221_6
                                rw [hvc_] at ul221_6
                                have HL221_6 := Aside0.mk (show Kd.V k29 29 _ w.heap.size _ _ ((rd_T29 t212 x15_1).f3) from Kd.V_mk ul221_6 ge221_6)
                                clear hva_ hvn_ hvc_ ge221_6 ul221_6
                                clear hcc221 hce221
                                have HR221_6 := Aside0.mk hi221_6
                                have HC221_6 := Aside0.mk hl221_6
                                clear hi221_6 hl221_6
                                replace p221 := eq_true p221
                                replace q221 := eq_true q221
                                have ea_ := Option.some.inj (hx219_6.symm.trans hx221_6)
                                injection ea_ with ea_ en_ ec_
                                subst ea_
                                subst ec_
                                clear en_
                                have p222 : 0 ≤ (x15_1 : Int) := of_decide_eq_true (by first | (with_reducible assumption) | assumption)
                                have q222 : x15_1 < (t212.length : Int) := of_decide_eq_true (by first | (with_reducible assumption) | assumption)
                                obtain ⟨ad222, A222_6, c222_6, e222, hx222_0, hx222_1, hx222_2, hx222_3, hx222_4, hx222_5, hx222_6, hl222_6, hi222_6⟩ := at_T29 (Kd.N_reads' HO_3.out).2.2 x15_1 p222 q222
                                obtain rfl : ad219 = ad222 := (by injection e222)
                                obtain ⟨ce222, hce222, hMe222, hcc222⟩ := Kd.N_get HO_3.out z29 x15_1 p222 (by first | exact q222 | exact of_decide_eq_true (by first | (with_reducible assumption) | assumption) | (have e_ := (Kd.N_reads' HO_3.out).1; omega))
                                obtain ⟨ua222_6, uc222_6, rfl, ul222_6, ge222_6⟩ := k29_openF hMe222
                                have hv222_6 := hcc222 6 _ rfl
                                rw [add_field _ _ 6 (by omega)] at hv222_6
                                replace hv222_6 := Option.some.inj (hv222_6.symm.trans hx222_6)
                                injection hv222_6 with hva_ hvn_ hvc_
                                rw [hva_] at ge222_6
                                rw [hvc_] at ul222_6
                                have HL222_6 := Aside0.mk (show Kd.V k29 29 _ w.heap.size _ _ ((rd_T29 t212 x15_1).f3) from Kd.V_mk ul222_6 ge222_6)
                                clear hva_ hvn_ hvc_ ge222_6 ul222_6
                                clear hcc222 hce222
                                have HR222_6 := Aside0.mk hi222_6
                                have HC222_6 := Aside0.mk hl222_6
                                clear hi222_6 hl222_6
                                replace p222 := eq_true p222
                                replace q222 := eq_true q222
                                have ea_ := Option.some.inj (hx219_6.symm.trans hx222_6)
                                injection ea_ with ea_ en_ ec_
                                subst ea_
                                subst ec_
                                clear en_
                                have p223 : 0 ≤ (x15_1 : Int) := of_decide_eq_true (by first | (with_reducible assumption) | assumption)
                                have q223 : x15_1 < (t212.length : Int) := of_decide_eq_true (by first | (with_reducible assumption) | assumption)
                                obtain ⟨ad223, A223_6, c223_6, e223, hx223_0, hx223_1, hx223_2, hx223_3, hx223_4, hx223_5, hx223_6, hl223_6, hi223_6⟩ := at_T29 (Kd.N_reads' HO_3.out).2.2 x15_1 p223 q223
                                obtain rfl : ad219 = ad223 := (by injection e223)
                                obtain ⟨ce223, hce223, hMe223, hcc223⟩ := Kd.N_get HO_3.out z29 x15_1 p223 (by first | exact q223 | exact of_decide_eq_true (by first | (with_reducible assumption) | assumption) | (have e_ := (Kd.N_reads' HO_3.out).1; omega))
                                obtain ⟨ua223_6, uc223_6, rfl, ul223_6, ge223_6⟩ := k29_openF hMe223
                                have hv223_6 := hcc223 6 _ rfl
                                rw [add_field _ _ 6 (by omega)] at hv223_6
                                replace hv223_6 := Option.some.inj (hv223_6.symm.trans hx223_6)
                                injection hv223_6 with hva_ hvn_ hvc_
                                rw [hva_] at ge223_6
                                rw [hvc_] at ul223_6
                                have HL223_6 := Aside0.mk (show Kd.V k29 29 _ w.heap.size _ _ ((rd_T29 t212 x15_1).f3) from Kd.V_mk ul223_6 ge223_6)
                                clear hva_ hvn_ hvc_ ge223_6 ul223_6
                                clear hcc223 hce223
                                have HR223_6 := Aside0.mk hi223_6
                                have HC223_6 := Aside0.mk hl223_6
                                clear hi223_6 hl223_6
                                replace p223 := eq_true p223
                                replace q223 := eq_true q223
                                have ea_ := Option.some.inj (hx219_6.symm.trans hx223_6)
                                injection ea_ with ea_ en_ ec_
                                subst ea_
                                subst ec_
                                clear en_
                                have p224 : 0 ≤ (x15_1 : Int) := of_decide_eq_true (by first | (with_reducible assumption) | assumption)
                                have q224 : x15_1 < (t212.length : Int) := of_decide_eq_true (by first | (with_reducible assumption) | assumption)
                                obtain ⟨ad224, A224_6, c224_6, e224, hx224_0, hx224_1, hx224_2, hx224_3, hx224_4, hx224_5, hx224_6, hl224_6, hi224_6⟩ := at_T29 (Kd.N_reads' HO_3.out).2.2 x15_1 p224 q224
                                obtain rfl : ad219 = ad224 := (by injection e224)
                                obtain ⟨ce224, hce224, hMe224, hcc224⟩ := Kd.N_get HO_3.out z29 x15_1 p224 (by first | exact q224 | exact of_decide_eq_true (by first | (with_reducible assumption) | assumption) | (have e_ := (Kd.N_reads' HO_3.out).1; omega))
                                obtain ⟨ua224_6, uc224_6, rfl, ul224_6, ge224_6⟩ := k29_openF hMe224
                                have hv224_6 := hcc224 6 _ rfl
                                rw [add_field _ _ 6 (by omega)] at hv224_6
                                replace hv224_6 := Option.some.inj (hv224_6.symm.trans hx224_6)
                                injection hv224_6 with hva_ hvn_ hvc_
                                rw [hva_] at ge224_6
                                rw [hvc_] at ul224_6
                                have HL224_6 := Aside0.mk (show Kd.V k29 29 _ w.heap.size _ _ ((rd_T29 t212 x15_1).f3) from Kd.V_mk ul224_6 ge224_6)
                                clear hva_ hvn_ hvc_ ge224_6 ul224_6
                                clear hcc224 hce224
                                have HR224_6 := Aside0.mk hi224_6
                                have HC224_6 := Aside0.mk hl224_6
                                clear hi224_6 hl224_6
                                replace p224 := eq_true p224
                                replace q224 := eq_true q224
                                have ea_ := Option.some.inj (hx219_6.symm.trans hx224_6)
                                injection ea_ with ea_ en_ ec_
                                subst ea_
                                subst ec_
                                clear en_
                                go_wp2
                                repeat (go_quiet (fail); try go_wp2)
                                go_ret
                                exact ⟨by first | rfl | (simp [errW_none, errW_some] <;> rfl) | (simp [*, errW_none, errW_some] <;> rfl), by repeat (first | (with_reducible first | exact HB.out | apply below_alloc | apply pw_below_drewN | apply below_drew1 | refine below_set ?_ GE211.out) | exact HB.out)⟩
                              · rw [if_neg c30] at H
                                have c30b0 : decide ((((rd_T29 t212 x15_1).f3).length : Int) < 2) = false := decide_eq_false c30
                                have c30b1 : decide (((rd_T29 t212 x15_1).f3).length < 2) = false := decide_eq_false (by omega)
                                clear c30
                                by_cases c31 : ((rd_T29 t212 x15_1).f2) = 0
                                · rw [if_pos c31] at H
                                  have c31b0 : (((rd_T29 t212 x15_1).f2) == 0) = true := beq_iff_eq.mpr c31
                                  have c31b1 : (((rd_T29 t212 x15_1).f2) != 0) = false := bne_eq_false_iff_eq.mpr c31
                                  clear c31
                                  have H' := Aside0.mk H
                                  clear H
                                  have p219 : 0 ≤ (x15_1 : Int) := of_decide_eq_true (by first | (with_reducible assumption) | assumption)
                                  have q219 : x15_1 < (t212.length : Int) := of_decide_eq_true (by first | (with_reducible assumption) | assumption)
                                  obtain ⟨ad219, A219_6, c219_6, e219, hx219_0, hx219_1, hx219_2, hx219_3, hx219_4, hx219_5, hx219_6, hl219_6, hi219_6⟩ := at_T29 (Kd.N_reads' HO_3.out).2.2 x15_1 p219 q219
                                  cases e219
                                  obtain ⟨ce219, hce219, hMe219, hcc219⟩ := Kd.N_get HO_3.out z29 x15_1 p219 (by first | exact q219 | exact of_decide_eq_true (by first | (with_reducible assumption) | assumption) | (have e_ := (Kd.N_reads' HO_3.out).1; omega))
                                  obtain ⟨ua219_6, uc219_6, rfl, ul219_6, ge219_6⟩ := k29_openF hMe219
                                  have hv219_6 := hcc219 6 _ rfl
                                  rw [add_field _ _ 6 (by omega)] at hv219_6
                                  replace hv219_6 := Option.some.inj (hv219_6.symm.trans hx219_6)
                                  injection hv219_6 with hva_ hvn_ hvc_
                                  rw [hva_] at ge219_6
                                  rw [hvc_] at ul219_6
                                  have HL219_6 := Aside0.mk (show Kd.V k29 29 _ w.heap.size _ _ ((rd_T29 t212 x15_1).f3) from Kd.V_mk ul219_6 ge219_6)
                                  clear hva_ hvn_ hvc_ ge219_6 ul219_6
                                  clear hcc219 hce219
                                  have HR219_6 := Aside0.mk hi219_6
                                  have HC219_6 := Aside0.mk hl219_6
                                  clear hi219_6 hl219_6
                                  replace p219 := eq_true p219
                                  replace q219 := eq_true q219
                                  have p220 : 0 ≤ (x15_1 : Int) := of_decide_eq_true (by first | (with_reducible assumption) | assumption)
                                  have q220 : x15_1 < (t212.length : Int) := of_decide_eq_true (by first | (with_reducible assumption) | assumption)
                                  obtain ⟨ad220, A220_6, c220_6, e220, hx220_0, hx220_1, hx220_2, hx220_3, hx220_4, hx220_5, hx220_6, hl220_6, hi220_6⟩ := at_T29 (Kd.N_reads' HO_3.out).2.2 x15_1 p220 q220
                                  obtain rfl : ad219 = ad220 := (by injection e220)
                                  obtain ⟨ce220, hce220, hMe220, hcc220⟩ := Kd.N_get HO_3.out z29 x15_1 p220 (by first | exact q220 | exact of_decide_eq_true (by first | (with_reducible assumption) | assumption) | (have e_ := (Kd.N_reads' HO_3.out).1; omega))
                                  obtain ⟨ua220_6, uc220_6, rfl, ul220_6, ge220_6⟩ := k29_openF hMe220
                                  have hv220_6 := hcc220 6 _ rfl
                                  rw [add_field _ _ 6 (by omega)] at hv220_6
                                  replace hv220_6 := Option.some.inj (hv220_6.symm.trans hx220_6)
                                  injection hv220_6 with hva_ hvn_ hvc_
                                  rw [hva_] at ge220_6
                                  rw [hvc_] at ul220_6
                                  have HL220_6 := Aside0.mk (show Kd.V k29 29 _ w.heap.size _ _ ((rd_T29 t212 x15_1).f3) from Kd.V_mk ul220_6 ge220_6)
                                  clear hva_ hvn_ hvc_ ge220_6 ul220_6
                                  clear hcc220 hce220
                                  have HR220_6 := Aside0.mk hi220_6
                                  have HC220_6 := Aside0.mk hl220_6
                                  clear hi220_6 hl220_6
                                  replace p220 := eq_true p220
                                  replace q220 := eq_true q220
                                  have ea_ := Option.some.inj (hx219_6.symm.trans hx220_6)
                                  injection ea_ with ea_ en_ ec_
                                  subst ea_
                                  subst ec_
                                  clear en_
                                  have p221 : 0 ≤ (x15_1 : Int) := of_decide_eq_true (by first | (with_reducible assumption) | assumption)
                                  have q221 : x15_1 < (t212.length : Int) := of_decide_eq_true (by first | (with_reducible assumption) | assumption)
                                  obtain ⟨ad221, A221_6, c221_6, e221, hx221_0, hx221_1, hx221_2, hx221_3, hx221_4, hx221_5, hx221_6, hl221_6, hi221_6⟩ := at_T29 (Kd.N_reads' HO_3.out).2.2 x15_1 p221 q221
                                  obtain rfl : ad219 = ad221 := (by injection e221)
                                  obtain ⟨ce221, hce221, hMe221, hcc221⟩ := Kd.N_get HO_3.out z29 x15_1 p221 (by first | exact q221 | exact of_decide_eq_true (by first | (with_reducible assumption) | assumption) | (have e_ := (Kd.N_reads' HO_3.out).1; omega))
                                  obtain ⟨ua221_6, uc221_6, rfl, ul221_6, ge221_6⟩ := k29_openF hMe221
                                  have hv221_6 := hcc221 6 _ rfl
                                  rw [add_field _ _ 6 (by omega)] at hv221_6
                                  replace hv221_6 := Option.some.inj (hv221_6.symm.trans hx221_6)
                                  injection hv221_6 with hva_ hvn_ hvc_
                                  rw [hva_] at ge221_6
                                  rw [hvc_] at ul221_6
                                  have HL221_6 := Aside0.mk (show Kd.V k29 29 _ w.heap.size _ _ ((rd_T29 t212 x15_1).f3) from Kd.V_mk ul221_6 ge221_6)
                                  clear hva_ hvn_ hvc_ ge221_6 ul221_6
                                  clear hcc221 hce221
                                  have HR221_6 := Aside0.mk hi221_6
                                  have HC221_6 := Aside0.mk hl221_6
                                  clear hi221_6 hl221_6
                                  replace p221 := eq_true p221
                                  replace q221 := eq_true q221
                                  have ea_ := Option.some.inj (hx219_6.symm.trans hx221_6)
                                  injection ea_ with ea_ en_ ec_
                                  subst ea_
                                  subst ec_
                                  clear en_
                                  have p222 : 0 ≤ (x15_1 : Int) := of_decide_eq_true (by first | (with_reducible assumption) | assumption)
                                  have q222 : x15_1 < (t212.length : Int) := of_decide_eq_true (by first | (with_reducible assumption) | assumption)
                                  obtain ⟨ad222, A222_6, c222_6, e222, hx222_0, hx222_1, hx222_2, hx222_3, hx222_4, hx222_5, hx222_6, hl222_6, hi222_6⟩ := at_T29 (Kd.N_reads' HO_3.out).2.2 x15_1 p222 q222
                                  obtain rfl : ad219 = ad222 := (by injection e222)
                                  obtain ⟨ce222, hce222, hMe222, hcc222⟩ := Kd.N_get HO_3.out z29 x15_1 p222 (by first | exact q222 | exact of_decide_eq_true (by first | (with_reducible assumption) | assumption) | (have e_ := (Kd.N_reads' HO_3.out).1; omega))
                                  obtain ⟨ua222_6, uc222_6, rfl, ul222_6, ge222_6⟩ := k29_openF hMe222
                                  have hv222_6 := hcc222 6 _ rfl
                                  rw [add_field _ _ 6 (by omega)] at hv222_6
                                  replace hv222_6 := Option.some.inj (hv222_6.symm.trans hx222_6)
                                  injection hv222_6 with hva_ hvn_ hvc_
                                  rw [hva_] at ge222_6
                                  rw [hvc_] at ul222_6
                                  have HL222_6 := Aside0.mk (show Kd.V k29 29 _ w.heap.size _ _ ((rd_T29 t212 x15_1).f3) from Kd.V_mk ul222_6 ge222_6)
                                  clear hva_ hvn_ hvc_ ge222_6 ul222_6
                                  clear hcc222 hce222
                                  have HR222_6 := Aside0.mk hi222_6
                                  have HC222_6 := Aside0.mk hl222_6
                                  clear hi222_6 hl222_6
                                  replace p222 := eq_true p222
                                  replace q222 := eq_true q222
                                  have ea_ := Option.some.inj (hx219_6.symm.trans hx222_6)
                                  injection ea_ with ea_ en_ ec_
                                  subst ea_
                                  subst ec_
                                  clear en_
                                  have p223 : 0 ≤ (x15_1 : Int) := of_decide_eq_true (by first | (with_reducible assumption) | assumption)
                                  have q223 : x15_1 < (t212.length : Int) := of_decide_eq_true (by first | (with_reducible assumption) | assumption)
                                  obtain ⟨ad223, A223_6, c223_6, e223, hx223_0, hx223_1, hx223_2, hx223_3, hx223_4, hx223_5, hx223_6, hl223_6, hi223_6⟩ := at_T29 (Kd.N_reads' HO_3.out).2.2 x15_1 p223 q223
                                  obtain rfl : ad219 = ad223 := (by injection e223)
                                  obtain ⟨ce223, hce223, hMe223, hcc223⟩ := Kd.N_get HO_3.out z29 x15_1 p223 (by first | exact q223 | exact of_decide_eq_true (by first | (with_reducible assumption) | assumption) | (have e_ := (Kd.N_reads' HO_3.out).1; omega))
                                  obtain ⟨ua223_6, uc223_6, rfl, ul223_6, ge223_6⟩ := k29_openF hMe223
                                  have hv223_6 := hcc223 6 _ rfl
                                  rw [add_field _ _ 6 (by omega)] at hv223_6
                                  replace hv223_6 := Option.some.inj (hv223_6.symm.trans hx223_6)
                                  injection hv223_6 with hva_ hvn_ hvc_
                                  rw [hva_] at ge223_6
                                  rw [hvc_] at ul223_6
                                  have HL223_6 := Aside0.mk (show Kd.V k29 29 _ w.heap.size _ _ ((rd_T29 t212 x15_1).f3) from Kd.V_mk ul223_6 ge223_6)
                                  clear hva_ hvn_ hvc_ ge223_6 ul223_6
                                  clear hcc223 hce223
                                  have HR223_6 := Aside0.mk hi223_6
                                  have HC223_6 := Aside0.mk hl223_6
                                  clear hi223_6 hl223_6
                                  replace p223 := eq_true p223
                                  replace q223 := eq_true q223
                                  have ea_ := Option.some.inj (hx219_6.symm.trans hx223_6)
                                  injection ea_ with ea_ en_ ec_
                                  subst ea_
                                  subst ec_
                                  clear en_
                                  have p224 : 0 ≤ (x15_1 : Int) := of_decide_eq_true (by first | (with_reducible assumption) | assumption)
                                  have q224 : x15_1 < (t212.length : Int) := of_decide_eq_true (by first | (with_reducible assumption) | assumption)
                                  obtain ⟨ad224, A224_6, c224_6, e224, hx224_0, hx224_1, hx224_2, hx224_3, hx224_4, hx224_5, hx224_6, hl224_6, hi224_6⟩ := at_T29 (Kd.N_reads' HO_3.out).2.2 x15_1 p224 q224
                                  obtain rfl : ad219 = ad224 := (by injection e224)
                                  obtain ⟨ce224, hce224, hMe224, hcc224⟩ := Kd.N_get HO_3.out z29 x15_1 p224 (by first | exact q224 | exact of_decide_eq_true (by first | (with_reducible assumption) | assumption) | (have e_ := (Kd.N_reads' HO_3.out).1; omega))
                                  obtain ⟨ua224_6, uc224_6, rfl, ul224_6, ge224_6⟩ := k29_openF hMe224
                                  have hv224_6 := hcc224 6 _ rfl
                                  rw [add_field _ _ 6 (by omega)] at hv224_6
                                  replace hv224_6 := Option.some.inj (hv224_6.symm.trans hx224_6)
                                  injection hv224_6 with hva_ hvn_ hvc_
                                  rw [hva_] at ge224_6
                                  rw [hvc_] at ul224_6
                                  have HL224_6 := Aside0.mk (show Kd.V k29 29 _ w.heap.size _ _ ((rd_T29 t212 x15_1).f3) from Kd.V_mk ul224_6 ge224_6)
                                  clear hva_ hvn_ hvc_ ge224_6 ul224_6
                                  clear hcc224 hce224
                                  have HR224_6 := Aside0.mk hi224_6
                                  have HC224_6 := Aside0.mk hl224_6
                                  clear hi224_6 hl224_6
                                  replace p224 := eq_true p224
                                  replace q224 := eq_true q224
                                  have ea_ := Option.some.inj (hx219_6.symm.trans hx224_6)
                                  injection ea_ with ea_ en_ ec_
                                  subst ea_
                                  subst ec_
                                  clear en_
                                  have p225 : 0 ≤ (x15_1 : Int) := of_decide_eq_true (by first | (with_reducible assumption) | assumption)
                                  have q225 : x15_1 < (t212.length : Int) := of_decide_eq_true (by first | (with_reducible assumption) | assumption)
                                  obtain ⟨ad225, A225_6, c225_6, e225, hx225_0, hx225_1, hx225_2, hx225_3, hx225_4, hx225_5, hx225_6, hl225_6, hi225_6⟩ := at_T29 (Kd.N_reads' HO_3.out).2.2 x15_1 p225 q225
                                  obtain rfl : ad219 = ad225 := (by injection e225)
                                  obtain ⟨ce225, hce225, hMe225, hcc225⟩ := Kd.N_get HO_3.out z29 x15_1 p225 (by first | exact q225 | exact of_decide_eq_true (by first | (with_reducible assumption) | assumption) | (have e_ := (Kd.N_reads' HO_3.out).1; omega))
                                  obtain ⟨ua225_6, uc225_6, rfl, ul225_6, ge225_6⟩ := k29_openF hMe225
                                  have hv225_6 := hcc225 6 _ rfl
                                  rw [add_field _ _ 6 (by omega)] at hv225_6
                                  replace hv225_6 := Option.some.inj (hv225_6.symm.trans hx225_6)
                                  injection hv225_6 with hva_ hvn_ hvc_
                                  rw [hva_] at ge225_6
                                  rw [hvc_] at ul225_6
                                  have HL225_6 := Aside0.mk (show Kd.V k29 29 _ w.heap.size _ _ ((rd_T29 t212 x15_1).f3) from Kd.V_mk ul225_6 ge225_6)
                                  clear hva_ hvn_ hvc_ ge225_6 ul225_6
                                  clear hcc225 hce225
                                  have HR225_6 := Aside0.mk hi225_6
                                  have HC225_6 := Aside0.mk hl225_6
                                  clear hi225_6 hl225_6
                                  replace p225 := eq_true p225
                                  replace q225 := eq_true q225
                                  have ea_ := Option.some.inj (hx219_6.symm.trans hx225_6)
                                  injection ea_ with ea_ en_ ec_
                                  subst ea_
                                  subst ec_
                                  clear en_
                                  go_wp2
                                  repeat (go_quiet (fail); try go_wp2)
                                  go_roundg kj12
                                  case measure => have := HK1.out; have := HJ12.out; omega
                                  case rel => exact ⟨(wrap64 (x15_1 + 1)), (by first | rfl | (simp; done) | (simp [*]; done)), H', ⟨by have := HK1.out; have := HJ12.out; omega⟩, ⟨by (with_reducible repeat (first | apply Kd.N_alloc | apply Kd.N_drewN | apply Kd.N_drew)); exact HO_3.out⟩, ⟨by (with_reducible repeat (first | refine blk_drewN ?_ _ | refine blk_drew ?_ | refine blk_alloc ?_ _)); exact BK211.out⟩, ⟨by repeat (first | (with_reducible first | exact HB.out | apply below_alloc | apply pw_below_drewN | apply below_drew1 | refine below_set ?_ GE211.out) | exact HB.out)⟩⟩
                                · rw [if_neg c31] at H
                                  have c31b0 : (((rd_T29 t212 x15_1).f2) == 0) = false := beq_eq_false_iff_ne.mpr c31
                                  have c31b1 : (((rd_T29 t212 x15_1).f2) != 0) = true := bne_iff_ne.mpr c31
                                  obtain rfl := Option.some.inj H
                                  have p219 : 0 ≤ (x15_1 : Int) := of_decide_eq_true (by first | (with_reducible assumption) | assumption)
                                  have q219 : x15_1 < (t212.length : Int) := of_decide_eq_true (by first | (with_reducible assumption) | assumption)
                                  obtain ⟨ad219, A219_6, c219_6, e219, hx219_0, hx219_1, hx219_2, hx219_3, hx219_4, hx219_5, hx219_6, hl219_6, hi219_6⟩ := at_T29 (Kd.N_reads' HO_3.out).2.2 x15_1 p219 q219
                                  cases e219
                                  obtain ⟨ce219, hce219, hMe219, hcc219⟩ := Kd.N_get HO_3.out z29 x15_1 p219 (by first | exact q219 | exact of_decide_eq_true (by first | (with_reducible assumption) | assumption) | (have e_ := (Kd.N_reads' HO_3.out).1; omega))
                                  obtain ⟨ua219_6, uc219_6, rfl, ul219_6, ge219_6⟩ := k29_openF hMe219
                                  have hv219_6 := hcc219 6 _ rfl
                                  rw [add_field _ _ 6 (by omega)] at hv219_6
                                  replace hv219_6 := Option.some.inj (hv219_6.symm.trans hx219_6)
                                  injection hv219_6 with hva_ hvn_ hvc_
                                  rw [hva_] at ge219_6
                                  rw [hvc_] at ul219_6
                                  have HL219_6 := Aside0.mk (show Kd.V k29 29 _ w.heap.size _ _ ((rd_T29 t212 x15_1).f3) from Kd.V_mk ul219_6 ge219_6)
                                  clear hva_ hvn_ hvc_ ge219_6 ul219_6
                                  clear hcc219 hce219
                                  have HR219_6 := Aside0.mk hi219_6
                                  have HC219_6 := Aside0.mk hl219_6
                                  clear hi219_6 hl219_6
                                  replace p219 := eq_true p219
                                  replace q219 := eq_true q219
                                  have p220 : 0 ≤ (x15_1 : Int) := of_decide_eq_true (by first | (with_reducible assumption) | assumption)
                                  have q220 : x15_1 < (t212.length : Int) := of_decide_eq_true (by first | (with_reducible assumption) | assumption)
                                  obtain ⟨ad220, A220_6, c220_6, e220, hx220_0, hx220_1, hx220_2, hx220_3, hx220_4, hx220_5, hx220_6, hl220_6, hi220_6⟩ := at_T29 (Kd.N_reads' HO_3.out).2.2 x15_1 p220 q220
                                  obtain rfl : ad219 = ad220 := (by injection e220)
                                  obtain ⟨ce220, hce220, hMe220, hcc220⟩ := Kd.N_get HO_3.out z29 x15_1 p220 (by first | exact q220 | exact of_decide_eq_true (by first | (with_reducible assumption) | assumption) | (have e_ := (Kd.N_reads' HO_3.out).1; omega))
                                  obtain ⟨ua220_6, uc220_6, rfl, ul220_6, ge220_6⟩ := k29_openF hMe220
                                  have hv220_6 := hcc220 6 _ rfl
                                  rw [add_field _ _ 6 (by omega)] at hv220_6
                                  replace hv220_6 := Option.some.inj (hv220_6.symm.trans hx220_6)
                                  injection hv220_6 with hva_ hvn_ hvc_
                                  rw [hva_] at ge220_6
                                  rw [hvc_] at ul220_6
                                  have HL220_6 := Aside0.mk (show Kd.V k29 29 _ w.heap.size _ _ ((rd_T29 t212 x15_1).f3) from Kd.V_mk ul220_6 ge220_6)
                                  clear hva_ hvn_ hvc_ ge220_6 ul220_6
                                  clear hcc220 hce220
                                  have HR220_6 := Aside0.mk hi220_6
                                  have HC220_6 := Aside0.mk hl220_6
                                  clear hi220_6 hl220_6
                                  replace p220 := eq_true p220
                                  replace q220 := eq_true q220
                                  have ea_ := Option.some.inj (hx219_6.symm.trans hx220_6)
                                  injection ea_ with ea_ en_ ec_
                                  subst ea_
                                  subst ec_
                                  clear en_
                                  have p221 : 0 ≤ (x15_1 : Int) := of_decide_eq_true (by first | (with_reducible assumption) | assumption)
                                  have q221 : x15_1 < (t212.length : Int) := of_decide_eq_true (by first | (with_reducible assumption) | assumption)
                                  obtain ⟨ad221, A221_6, c221_6, e221, hx221_0, hx221_1, hx221_2, hx221_3, hx221_4, hx221_5, hx221_6, hl221_6, hi221_6⟩ := at_T29 (Kd.N_reads' HO_3.out).2.2 x15_1 p221 q221
                                  obtain rfl : ad219 = ad221 := (by injection e221)
                                  obtain ⟨ce221, hce221, hMe221, hcc221⟩ := Kd.N_get HO_3.out z29 x15_1 p221 (by first | exact q221 | exact of_decide_eq_true (by first | (with_reducible assumption) | assumption) | (have e_ := (Kd.N_reads' HO_3.out).1; omega))
                                  obtain ⟨ua221_6, uc221_6, rfl, ul221_6, ge221_6⟩ := k29_openF hMe221
                                  have hv221_6 := hcc221 6 _ rfl
                                  rw [add_field _ _ 6 (by omega)] at hv221_6
                                  replace hv221_6 := Option.some.inj (hv221_6.symm.trans hx221_6)
                                  injection hv221_6 with hva_ hvn_ hvc_
                                  rw [hva_] at ge221_6
                                  rw [hvc_] at ul221_6
                                  have HL221_6 := Aside0.mk (show Kd.V k29 29 _ w.heap.size _ _ ((rd_T29 t212 x15_1).f3) from Kd.V_mk ul221_6 ge221_6)
                                  clear hva_ hvn_ hvc_ ge221_6 ul221_6
                                  clear hcc221 hce221
                                  have HR221_6 := Aside0.mk hi221_6
                                  have HC221_6 := Aside0.mk hl221_6
                                  clear hi221_6 hl221_6
                                  replace p221 := eq_true p221
                                  replace q221 := eq_true q221
                                  have ea_ := Option.some.inj (hx219_6.symm.trans hx221_6)
                                  injection ea_ with ea_ en_ ec_
                                  subst ea_
                                  subst ec_
                                  clear en_
                                  have p222 : 0 ≤ (x15_1 : Int) := of_decide_eq_true (by first | (with_reducible assumption) | assumption)
                                  have q222 : x15_1 < (t212.length : Int) := of_decide_eq_true (by first | (with_reducible assumption) | assumption)
                                  obtain ⟨ad222, A222_6, c222_6, e222, hx222_0, hx222_1, hx222_2, hx222_3, hx222_4, hx222_5, hx222_6, hl222_6, hi222_6⟩ := at_T29 (Kd.N_reads' HO_3.out).2.2 x15_1 p222 q222
                                  obtain rfl : ad219 = ad222 := (by injection e222)
                                  obtain ⟨ce222, hce222, hMe222, hcc222⟩ := Kd.N_get HO_3.out z29 x15_1 p222 (by first | exact q222 | exact of_decide_eq_true (by first | (with_reducible assumption) | assumption) | (have e_ := (Kd.N_reads' HO_3.out).1; omega))
                                  obtain ⟨ua222_6, uc222_6, rfl, ul222_6, ge222_6⟩ := k29_openF hMe222
                                  have hv222_6 := hcc222 6 _ rfl
                                  rw [add_field _ _ 6 (by omega)] at hv222_6
                                  replace hv222_6 := Option.some.inj (hv222_6.symm.trans hx222_6)
                                  injection hv222_6 with hva_ hvn_ hvc_
                                  rw [hva_] at ge222_6
                                  rw [hvc_] at ul222_6
                                  have HL222_6 := Aside0.mk (show Kd.V k29 29 _ w.heap.size _ _ ((rd_T29 t212 x15_1).f3) from Kd.V_mk ul222_6 ge222_6)
                                  clear hva_ hvn_ hvc_ ge222_6 ul222_6
                                  clear hcc222 hce222
                                  have HR222_6 := Aside0.mk hi222_6
                                  have HC222_6 := Aside0.mk hl222_6
                                  clear hi222_6 hl222_6
                                  replace p222 := eq_true p222
                                  replace q222 := eq_true q222
                                  have ea_ := Option.some.inj (hx219_6.symm.trans hx222_6)
                                  injection ea_ with ea_ en_ ec_
                                  subst ea_
                                  subst ec_
                                  clear en_
                                  have p223 : 0 ≤ (x15_1 : Int) := of_decide_eq_true (by first | (with_reducible assumption) | assumption)
                                  have q223 : x15_1 < (t212.length : Int) := of_decide_eq_true (by first | (with_reducible assumption) | assumption)
                                  obtain ⟨ad223, A223_6, c223_6, e223, hx223_0, hx223_1, hx223_2, hx223_3, hx223_4, hx223_5, hx223_6, hl223_6, hi223_6⟩ := at_T29 (Kd.N_reads' HO_3.out).2.2 x15_1 p223 q223
                                  obtain rfl : ad219 = ad223 := (by injection e223)
                                  obtain ⟨ce223, hce223, hMe223, hcc223⟩ := Kd.N_get HO_3.out z29 x15_1 p223 (by first | exact q223 | exact of_decide_eq_true (by first | (with_reducible assumption) | assumption) | (have e_ := (Kd.N_reads' HO_3.out).1; omega))
                                  obtain ⟨ua223_6, uc223_6, rfl, ul223_6, ge223_6⟩ := k29_openF hMe223
                                  have hv223_6 := hcc223 6 _ rfl
                                  rw [add_field _ _ 6 (by omega)] at hv223_6
                                  replace hv223_6 := Option.some.inj (hv223_6.symm.trans hx223_6)
                                  injection hv223_6 with hva_ hvn_ hvc_
                                  rw [hva_] at ge223_6
                                  rw [hvc_] at ul223_6
                                  have HL223_6 := Aside0.mk (show Kd.V k29 29 _ w.heap.size _ _ ((rd_T29 t212 x15_1).f3) from Kd.V_mk ul223_6 ge223_6)
                                  clear hva_ hvn_ hvc_ ge223_6 ul223_6
                                  clear hcc223 hce223
                                  have HR223_6 := Aside0.mk hi223_6
                                  have HC223_6 := Aside0.mk hl223_6
                                  clear hi223_6 hl223_6
                                  replace p223 := eq_true p223
                                  replace q223 := eq_true q223
                                  have ea_ := Option.some.inj (hx219_6.symm.trans hx223_6)
                                  injection ea_ with ea_ en_ ec_
                                  subst ea_
                                  subst ec_
                                  clear en_
                                  have p224 : 0 ≤ (x15_1 : Int) := of_decide_eq_true (by first | (with_reducible assumption) | assumption)
                                  have q224 : x15_1 < (t212.length : Int) := of_decide_eq_true (by first | (with_reducible assumption) | assumption)
                                  obtain ⟨ad224, A224_6, c224_6, e224, hx224_0, hx224_1, hx224_2, hx224_3, hx224_4, hx224_5, hx224_6, hl224_6, hi224_6⟩ := at_T29 (Kd.N_reads' HO_3.out).2.2 x15_1 p224 q224
                                  obtain rfl : ad219 = ad224 := (by injection e224)
                                  obtain ⟨ce224, hce224, hMe224, hcc224⟩ := Kd.N_get HO_3.out z29 x15_1 p224 (by first | exact q224 | exact of_decide_eq_true (by first | (with_reducible assumption) | assumption) | (have e_ := (Kd.N_reads' HO_3.out).1; omega))
                                  obtain ⟨ua224_6, uc224_6, rfl, ul224_6, ge224_6⟩ := k29_openF hMe224
                                  have hv224_6 := hcc224 6 _ rfl
                                  rw [add_field _ _ 6 (by omega)] at hv224_6
                                  replace hv224_6 := Option.some.inj (hv224_6.symm.trans hx224_6)
                                  injection hv224_6 with hva_ hvn_ hvc_
                                  rw [hva_] at ge224_6
                                  rw [hvc_] at ul224_6
                                  have HL224_6 := Aside0.mk (show Kd.V k29 29 _ w.heap.size _ _ ((rd_T29 t212 x15_1).f3) from Kd.V_mk ul224_6 ge224_6)
                                  clear hva_ hvn_ hvc_ ge224_6 ul224_6
                                  clear hcc224 hce224
                                  have HR224_6 := Aside0.mk hi224_6
                                  have HC224_6 := Aside0.mk hl224_6
                                  clear hi224_6 hl224_6
                                  replace p224 := eq_true p224
                                  replace q224 := eq_true q224
                                  have ea_ := Option.some.inj (hx219_6.symm.trans hx224_6)
                                  injection ea_ with ea_ en_ ec_
                                  subst ea_
                                  subst ec_
                                  clear en_
                                  have p225 : 0 ≤ (x15_1 : Int) := of_decide_eq_true (by first | (with_reducible assumption) | assumption)
                                  have q225 : x15_1 < (t212.length : Int) := of_decide_eq_true (by first | (with_reducible assumption) | assumption)
                                  obtain ⟨ad225, A225_6, c225_6, e225, hx225_0, hx225_1, hx225_2, hx225_3, hx225_4, hx225_5, hx225_6, hl225_6, hi225_6⟩ := at_T29 (Kd.N_reads' HO_3.out).2.2 x15_1 p225 q225
                                  obtain rfl : ad219 = ad225 := (by injection e225)
                                  obtain ⟨ce225, hce225, hMe225, hcc225⟩ := Kd.N_get HO_3.out z29 x15_1 p225 (by first | exact q225 | exact of_decide_eq_true (by first | (with_reducible assumption) | assumption) | (have e_ := (Kd.N_reads' HO_3.out).1; omega))
                                  obtain ⟨ua225_6, uc225_6, rfl, ul225_6, ge225_6⟩ := k29_openF hMe225
                                  have hv225_6 := hcc225 6 _ rfl
                                  rw [add_field _ _ 6 (by omega)] at hv225_6
                                  replace hv225_6 := Option.some.inj (hv225_6.symm.trans hx225_6)
                                  injection hv225_6 with hva_ hvn_ hvc_
                                  rw [hva_] at ge225_6
                                  rw [hvc_] at ul225_6
                                  have HL225_6 := Aside0.mk (show Kd.V k29 29 _ w.heap.size _ _ ((rd_T29 t212 x15_1).f3) from Kd.V_mk ul225_6 ge225_6)
                                  clear hva_ hvn_ hvc_ ge225_6 ul225_6
                                  clear hcc225 hce225
                                  have HR225_6 := Aside0.mk hi225_6
                                  have HC225_6 := Aside0.mk hl225_6
                                  clear hi225_6 hl225_6
                                  replace p225 := eq_true p225
                                  replace q225 := eq_true q225
                                  have ea_ := Option.some.inj (hx219_6.symm.trans hx225_6)
                                  injection ea_ with ea_ en_ ec_
                                  subst ea_
                                  subst ec_
                                  clear en_
                                  go_wp2
                                  repeat (go_quiet (fail); try go_wp2)
                                  go_ret
                                  exact ⟨by first | rfl | (simp [errW_none, errW_some] <;> rfl) | (simp [*, errW_none, errW_some] <;> rfl), by repeat (first | (with_reducible first | exact HB.out | apply below_alloc | apply pw_below_drewN | apply below_drew1 | refine below_set ?_ GE211.out) | exact HB.out)⟩
                            · rw [if_neg c29] at H
                              have c29b0 : decide (1 < ((rd_T29 t212 x15_1).f0)) = false := decide_eq_false c29
                              clear c29
                              have H' := Aside0.mk H
                              clear H
                              have p219 : 0 ≤ (x15_1 : Int) := of_decide_eq_true (by first | (with_reducible assumption) | assumption)
                              have q219 : x15_1 < (t212.length : Int) := of_decide_eq_true (by first | (with_reducible assumption) | assumption)
                              obtain ⟨ad219, A219_6, c219_6, e219, hx219_0, hx219_1, hx219_2, hx219_3, hx219_4, hx219_5, hx219_6, hl219_6, hi219_6⟩ := at_T29 (Kd.N_reads' HO_3.out).2.2 x15_1 p219 q219
                              cases e219
                              obtain ⟨ce219, hce219, hMe219, hcc219⟩ := Kd.N_get HO_3.out z29 x15_1 p219 (by first | exact q219 | exact of_decide_eq_true (by first | (with_reducible assumption) | assumption) | (have e_ := (Kd.N_reads' HO_3.out).1; omega))
                              obtain ⟨ua219_6, uc219_6, rfl, ul219_6, ge219_6⟩ := k29_openF hMe219
                              have hv219_6 := hcc219 6 _ rfl
                              rw [add_field _ _ 6 (by omega)] at hv219_6
                              replace hv219_6 := Option.some.inj (hv219_6.symm.trans hx219_6)
                              injection hv219_6 with hva_ hvn_ hvc_
                              rw [hva_] at ge219_6
                              rw [hvc_] at ul219_6
                              have HL219_6 := Aside0.mk (show Kd.V k29 29 _ w.heap.size _ _ ((rd_T29 t212 x15_1).f3) from Kd.V_mk ul219_6 ge219_6)
                              clear hva_ hvn_ hvc_ ge219_6 ul219_6
                              clear hcc219 hce219
                              have HR219_6 := Aside0.mk hi219_6
                              have HC219_6 := Aside0.mk hl219_6
                              clear hi219_6 hl219_6
                              replace p219 := eq_true p219
                              replace q219 := eq_true q219
                              have p220 : 0 ≤ (x15_1 : Int) := of_decide_eq_true (by first | (with_reducible assumption) | assumption)
                              have q220 : x15_1 < (t212.length : Int) := of_decide_eq_true (by first | (with_reducible assumption) | assumption)
                              obtain ⟨ad220, A220_6, c220_6, e220, hx220_0, hx220_1, hx220_2, hx220_3, hx220_4, hx220_5, hx220_6, hl220_6, hi220_6⟩ := at_T29 (Kd.N_reads' HO_3.out).2.2 x15_1 p220 q220
                              obtain rfl : ad219 = ad220 := (by injection e220)
                              obtain ⟨ce220, hce220, hMe220, hcc220⟩ := Kd.N_get HO_3.out z29 x15_1 p220 (by first | exact q220 | exact of_decide_eq_true (by first | (with_reducible assumption) | assumption) | (have e_ := (Kd.N_reads' HO_3.out).1; omega))
                              obtain ⟨ua220_6, uc220_6, rfl, ul220_6, ge220_6⟩ := k29_openF hMe220
                              have hv220_6 := hcc220 6 _ rfl
                              rw [add_field _ _ 6 (by omega)] at hv220_6
                              replace hv220_6 := Option.some.inj (hv220_6.symm.trans hx220_6)
                              injection hv220_6 with hva_ hvn_ hvc_
                              rw [hva_] at ge220_6
                              rw [hvc_] at ul220_6
                              have HL220_6 := Aside0.mk (show Kd.V k29 29 _ w.heap.size _ _ ((rd_T29 t212 x15_1).f3) from Kd.V_mk ul220_6 ge220_6)
                              clear hva_ hvn_ hvc_ ge220_6 ul220_6
                              clear hcc220 hce220
                              have HR220_6 := Aside0.mk hi220_6
                              have HC220_6 := Aside0.mk hl220_6
                              clear hi220_6 hl220_6
                              replace p220 := eq_true p220
                              replace q220 := eq_true q220
                              have ea_ := Option.some.inj (hx219_6.symm.trans hx220_6)
                              injection ea_ with ea_ en_ ec_
                              subst ea_
                              subst ec_
                              clear en_
                              have p221 : 0 ≤ (x15_1 : Int) := of_decide_eq_true (by first | (with_reducible assumption) | assumption)
                              have q221 : x15_1 < (t212.length : Int) := of_decide_eq_true (by first | (with_reducible assumption) | assumption)
                              obtain ⟨ad221, A221_6, c221_6, e221, hx221_0, hx221_1, hx221_2, hx221_3, hx221_4, hx221_5, hx221_6, hl221_6, hi221_6⟩ := at_T29 (Kd.N_reads' HO_3.out).2.2 x15_1 p221 q221
                              obtain rfl : ad219 = ad221 := (by injection e221)
                              obtain ⟨ce221, hce221, hMe221, hcc221⟩ := Kd.N_get HO_3.out z29 x15_1 p221 (by first | exact q221 | exact of_decide_eq_true (by first | (with_reducible assumption) | assumption) | (have e_ := (Kd.N_reads' HO_3.out).1; omega))
                              obtain ⟨ua221_6, uc221_6, rfl, ul221_6, ge221_6⟩ := k29_openF hMe221
                              have hv221_6 := hcc221 6 _ rfl
                              rw [add_field _ _ 6 (by omega)] at hv221_6
                              replace hv221_6 := Option.some.inj (hv221_6.symm.trans hx221_6)
                              injection hv221_6 with hva_ hvn_ hvc_
                              rw [hva_] at ge221_6
                              rw [hvc_] at ul221_6
                              have HL221_6 := Aside0.mk (show Kd.V k29 29 _ w.heap.size _ _ ((rd_T29 t212 x15_1).f3) from Kd.V_mk ul221_6 ge221_6)
                              clear hva_ hvn_ hvc_ ge221_6 ul221_6
                              clear hcc221 hce221
                              have HR221_6 := Aside0.mk hi221_6
                              have HC221_6 := Aside0.mk hl221_6
                              clear hi221_6 hl221_6
                              replace p221 := eq_true p221
                              replace q221 := eq_true q221
                              have ea_ := Option.some.inj (hx219_6.symm.trans hx221_6)
                              injection ea_ with ea_ en_ ec_
                              subst ea_
                              subst ec_
                              clear en_
                              have p222 : 0 ≤ (x15_1 : Int) := of_decide_eq_true (by first | (with_reducible assumption) | assumption)
                              have q222 : x15_1 < (t212.length : Int) := of_decide_eq_true (by first | (with_reducible assumption) | assumption)
                              obtain ⟨ad222, A222_6, c222_6, e222, hx222_0, hx222_1, hx222_2, hx222_3, hx222_4, hx222_5, hx222_6, hl222_6, hi222_6⟩ := at_T29 (Kd.N_reads' HO_3.out).2.2 x15_1 p222 q222
                              obtain rfl : ad219 = ad222 := (by injection e222)
                              obtain ⟨ce222, hce222, hMe222, hcc222⟩ := Kd.N_get HO_3.out z29 x15_1 p222 (by first | exact q222 | exact of_decide_eq_true (by first | (with_reducible assumption) | assumption) | (have e_ := (Kd.N_reads' HO_3.out).1; omega))
                              obtain ⟨ua222_6, uc222_6, rfl, ul222_6, ge222_6⟩ := k29_openF hMe222
                              have hv222_6 := hcc222 6 _ rfl
                              rw [add_field _ _ 6 (by omega)] at hv222_6
                              replace hv222_6 := Option.some.inj (hv222_6.symm.trans hx222_6)
                              injection hv222_6 with hva_ hvn_ hvc_
                              rw [hva_] at ge222_6
                              rw [hvc_] at ul222_6
                              have HL222_6 := Aside0.mk (show Kd.V k29 29 _ w.heap.size _ _ ((rd_T29 t212 x15_1).f3) from Kd.V_mk ul222_6 ge222_6)
                              clear hva_ hvn_ hvc_ ge222_6 ul222_6
                              clear hcc222 hce222
                              have HR222_6 := Aside0.mk hi222_6
                              have HC222_6 := Aside0.mk hl222_6
                              clear hi222_6 hl222_6
                              replace p222 := eq_true p222
                              replace q222 := eq_true q222
                              have ea_ := Option.some.inj (hx219_6.symm.trans hx222_6)
                              injection ea_ with ea_ en_ ec_
                              subst ea_
                              subst ec_
                              clear en_
                              have p223 : 0 ≤ (x15_1 : Int) := of_decide_eq_true (by first | (with_reducible assumption) | assumption)
                              have q223 : x15_1 < (t212.length : Int) := of_decide_eq_true (by first | (with_reducible assumption) | assumption)
                              obtain ⟨ad223, A223_6, c223_6, e223, hx223_0, hx223_1, hx223_2, hx223_3, hx223_4, hx223_5, hx223_6, hl223_6, hi223_6⟩ := at_T29 (Kd.N_reads' HO_3.out).2.2 x15_1 p223 q223
                              obtain rfl : ad219 = ad223 := (by injection e223)
                              obtain ⟨ce223, hce223, hMe223, hcc223⟩ := Kd.N_get HO_3.out z29 x15_1 p223 (by first | exact q223 | exact of_decide_eq_true (by first | (with_reducible assumption) | assumption) | (have e_ := (Kd.N_reads' HO_3.out).1; omega))
                              obtain ⟨ua223_6, uc223_6, rfl, ul223_6, ge223_6⟩ := k29_openF hMe223
                              have hv223_6 := hcc223 6 _ rfl
                              rw [add_field _ _ 6 (by omega)] at hv223_6
                              replace hv223_6 := Option.some.inj (hv223_6.symm.trans hx223_6)
                              injection hv223_6 with hva_ hvn_ hvc_
                              rw [hva_] at ge223_6
                              rw [hvc_] at ul223_6
                              have HL223_6 := Aside0.mk (show Kd.V k29 29 _ w.heap.size _ _ ((rd_T29 t212 x15_1).f3) from Kd.V_mk ul223_6 ge223_6)
                              clear hva_ hvn_ hvc_ ge223_6 ul223_6
                              clear hcc223 hce223
                              have HR223_6 := Aside0.mk hi223_6
                              have HC223_6 := Aside0.mk hl223_6
                              clear hi223_6 hl223_6
                              replace p223 := eq_true p223
                              replace q223 := eq_true q223
                              have ea_ := Option.some.inj (hx219_6.symm.trans hx223_6)
                              injection ea_ with ea_ en_ ec_
                              subst ea_
                              subst ec_
                              clear en_
                              go_wp2
                              repeat (go_quiet (fail); try go_wp2)
                              go_roundg kj12
                              case measure => have := HK1.out; have := HJ12.out; omega
                              case rel => exact ⟨(wrap64 (x15_1 + 1)), (by first | rfl | (simp; done) | (simp [*]; done)), H', ⟨by have := HK1.out; have := HJ12.out; omega⟩, ⟨by (with_reducible repeat (first | apply Kd.N_alloc | apply Kd.N_drewN | apply Kd.N_drew)); exact HO_3.out⟩, ⟨by (with_reducible repeat (first | refine blk_drewN ?_ _ | refine blk_drew ?_ | refine blk_alloc ?_ _)); exact BK211.out⟩, ⟨by repeat (first | (with_reducible first | exact HB.out | apply below_alloc | apply pw_below_drewN | apply below_drew1 | refine below_set ?_ GE211.out) | exact HB.out)⟩⟩
                    · rw [if_neg c25] at H
                      have c25b0 : (((rd_T29 t212 x15_1).f0) == 1) = false := beq_eq_false_iff_ne.mpr c25
                      have c25b1 : (((rd_T29 t212 x15_1).f0) != 1) = true := bne_iff_ne.mpr c25
                      by_cases c32 : ((rd_T29 t212 x15_1).f0) > 1
                      · rw [if_pos c32] at H
                        have c32b0 : decide (1 < ((rd_T29 t212 x15_1).f0)) = true := decide_eq_true c32
                        clear c32
                        by_cases c33 : (((rd_T29 t212 x15_1).f3).length : Int) < 2
                        · rw [if_pos c33] at H
                          have c33b0 : decide ((((rd_T29 t212 x15_1).f3).length : Int) < 2) = true := decide_eq_true c33
                          have c33b1 : decide (((rd_T29 t212 x15_1).f3).length < 2) = true := decide_eq_true (by omega)
                          clear c33
                          obtain rfl := Option.some.inj H
                          have p219 : 0 ≤ (x15_1 : Int) := of_decide_eq_true (by first | (with_reducible assumption) | assumption)
                          have q219 : x15_1 < (t212.length : Int) := of_decide_eq_true (by first | (with_reducible assumption) | assumption)
                          obtain ⟨ad219, A219_6, c219_6, e219, hx219_0, hx219_1, hx219_2, hx219_3, hx219_4, hx219_5, hx219_6, hl219_6, hi219_6⟩ := at_T29 (Kd.N_reads' HO_3.out).2.2 x15_1 p219 q219
                          cases e219
                          obtain ⟨ce219, hce219, hMe219, hcc219⟩ := Kd.N_get HO_3.out z29 x15_1 p219 (by first | exact q219 | exact of_decide_eq_true (by first | (with_reducible assumption) | assumption) | (have e_ := (Kd.N_reads' HO_3.out).1; omega))
                          obtain ⟨ua219_6, uc219_6, rfl, ul219_6, ge219_6⟩ := k29_openF hMe219
                          have hv219_6 := hcc219 6 _ rfl
                          rw [add_field _ _ 6 (by omega)] at hv219_6
                          replace hv219_6 := Option.some.inj (hv219_6.symm.trans hx219_6)
                          injection hv219_6 with hva_ hvn_ hvc_
                          rw [hva_] at ge219_6
                          rw [hvc_] at ul219_6
                          have HL219_6 := Aside0.mk (show Kd.V k29 29 _ w.heap.size _ _ ((rd_T29 t212 x15_1).f3) from Kd.V_mk ul219_6 ge219_6)
                          clear hva_ hvn_ hvc_ ge219_6 ul219_6
                          clear hcc219 hce219
                          have HR219_6 := Aside0.mk hi219_6
                          have HC219_6 := Aside0.mk hl219_6
                          clear hi219_6 hl219_6
                          replace p219 := eq_true p219
                          replace q219 := eq_true q219
                          have p226 : 0 ≤ (x15_1 : Int) := of_decide_eq_true (by first | (with_reducible assumption) | assumption)
                          have q226 : x15_1 < (t212.length : Int) := of_decide_eq_true (by first | (with_reducible assumption) | assumption)
                          obtain ⟨ad226, A226_6, c226_6, e226, hx226_0, hx226_1, hx226_2, hx226_3, hx226_4, hx226_5, hx226_6, hl226_6, hi226_6⟩ := at_T29 (Kd.N_reads' HO_3.out).2.2 x15_1 p226 q226
                          obtain rfl : ad219 = ad226 := (by injection e226)
                          obtain ⟨ce226, hce226, hMe226, hcc226⟩ := Kd.N_get HO_3.out z29 x15_1 p226 (by first | exact q226 | exact of_decide_eq_true (by first | (with_reducible assumption) | assumption) | (have e_ := (Kd.N_reads' HO_3.out).1; omega))
                          obtain ⟨ua226_6, uc226_6, rfl, ul226_6, ge226_6⟩ := k29_openF hMe226
                          have hv226_6 := hcc226 6 _ rfl
                          rw [add_field _ _ 6 (by omega)] at hv226_6
                          replace hv226_6 := Option.some.inj (hv226_6.symm.trans hx226_6)
                          injection hv226_6 with hva_ hvn_ hvc_
                          rw [hva_] at ge226_6
                          rw [hvc_] at ul226_6
                          have HL226_6 := Aside0.mk (show Kd.V k29 29 _ w.heap.size _ _ ((rd_T29 t212 x15_1).f3) from Kd.V_mk ul226_6 ge226_6)
                          clear hva_ hvn_ hvc_ ge226_6 ul226_6
                          clear hcc226 hce226
                          have HR226_6 := Aside0.mk hi226_6
                          have HC226_6 := Aside0.mk hl226_6
                          clear hi226_6 hl226_6
                          replace p226 := eq_true p226
                          replace q226 := eq_true q226
                          have ea_ := Option.some.inj (hx219_6.symm.trans hx226_6)
                          injection ea_ with ea_ en_ ec_
                          subst ea_
                          subst ec_
                          clear en_
                          have p227 : 0 ≤ (x15_1 : Int) := of_decide_eq_true (by first | (with_reducible assumption) | assumption)
                          have q227 : x15_1 < (t212.length : Int) := of_decide_eq_true (by first | (with_reducible assumption) | assumption)
                          obtain ⟨ad227, A227_6, c227_6, e227, hx227_0, hx227_1, hx227_2, hx227_3, hx227_4, hx227_5, hx227_6, hl227_6, hi227_6⟩ := at_T29 (Kd.N_reads' HO_3.out).2.2 x15_1 p227 q227
                          obtain rfl : ad219 = ad227 := (by injection e227)
                          obtain ⟨ce227, hce227, hMe227, hcc227⟩ := Kd.N_get HO_3.out z29 x15_1 p227 (by first | exact q227 | exact of_decide_eq_true (by first | (with_reducible assumption) | assumption) | (have e_ := (Kd.N_reads' HO_3.out).1; omega))
                          obtain ⟨ua227_6, uc227_6, rfl, ul227_6, ge227_6⟩ := k29_openF hMe227
                          have hv227_6 := hcc227 6 _ rfl
                          rw [add_field _ _ 6 (by omega)] at hv227_6
                          replace hv227_6 := Option.some.inj (hv227_6.symm.trans hx227_6)
                          injection hv227_6 with hva_ hvn_ hvc_
                          rw [hva_] at ge227_6
                          rw [hvc_] at ul227_6
                          have HL227_6 := Aside0.mk (show Kd.V k29 29 _ w.heap.size _ _ ((rd_T29 t212 x15_1).f3) from Kd.V_mk ul227_6 ge227_6)
                          clear hva_ hvn_ hvc_ ge227_6 ul227_6
                          clear hcc227 hce227
                          have HR227_6 := Aside0.mk hi227_6
                          have HC227_6 := Aside0.mk hl227_6
                          clear hi227_6 hl227_6
                          replace p227 := eq_true p227
                          replace q227 := eq_true q227
                          have ea_ := Option.some.inj (hx219_6.symm.trans hx227_6)
                          injection ea_ with ea_ en_ ec_
                          subst ea_
                          subst ec_
                          clear en_
                          go_wp2
                          repeat (go_quiet (fail); try go_wp2)
                          go_ret
                          exact ⟨by first | rfl | (simp [errW_none, errW_some] <;> rfl) | (simp [*, errW_none, errW_some] <;> rfl), by repeat (first | (with_reducible first | exact HB.out | apply below_alloc | apply pw_below_drewN | apply below_drew1 | refine below_set ?_ GE211.out) | exact HB.out)⟩
                        · rw [if_neg c33] at H
                          have c33b0 : decide ((((rd_T29 t212 x15_1).f3).length : Int) < 2) = false := decide_eq_false c33
                          have c33b1 : decide (((rd_T29 t212 x15_1).f3).length < 2) = false := decide_eq_false (by omega)
                          clear c33
                          by_cases c34 : ((rd_T29 t212 x15_1).f2) = 0
                          · rw [if_pos c34] at H
                            have c34b0 : (((rd_T29 t212 x15_1).f2) == 0) = true := beq_iff_eq.mpr c34
                            have c34b1 : (((rd_T29 t212 x15_1).f2) != 0) = false := bne_eq_false_iff_eq.mpr c34
                            clear c34
                            have H' := Aside0.mk H
                            clear H
                            have p219 : 0 ≤ (x15_1 : Int) := of_decide_eq_true (by first | (with_reducible assumption) | assumption)
                            have q219 : x15_1 < (t212.length : Int) := of_decide_eq_true (by first | (with_reducible assumption) | assumption)
                            obtain ⟨ad219, A219_6, c219_6, e219, hx219_0, hx219_1, hx219_2, hx219_3, hx219_4, hx219_5, hx219_6, hl219_6, hi219_6⟩ := at_T29 (Kd.N_reads' HO_3.out).2.2 x15_1 p219 q219
                            cases e219
                            obtain ⟨ce219, hce219, hMe219, hcc219⟩ := Kd.N_get HO_3.out z29 x15_1 p219 (by first | exact q219 | exact of_decide_eq_true (by first | (with_reducible assumption) | assumption) | (have e_ := (Kd.N_reads' HO_3.out).1; omega))
                            obtain ⟨ua219_6, uc219_6, rfl, ul219_6, ge219_6⟩ := k29_openF hMe219
                            have hv219_6 := hcc219 6 _ rfl
                            rw [add_field _ _ 6 (by omega)] at hv219_6
                            replace hv219_6 := Option.some.inj (hv219_6.symm.trans hx219_6)
                            injection hv219_6 with hva_ hvn_ hvc_
                            rw [hva_] at ge219_6
                            rw [hvc_] at ul219_6
                            have HL219_6 := Aside0.mk (show Kd.V k29 29 _ w.heap.size _ _ ((rd_T29 t212 x15_1).f3) from Kd.V_mk ul219_6 ge219_6)
                            clear hva_ hvn_ hvc_ ge219_6 ul219_6
                            clear hcc219 hce219
                            have HR219_6 := Aside0.mk hi219_6
                            have HC219_6 := Aside0.mk hl219_6
                            clear hi219_6 hl219_6
                            replace p219 := eq_true p219
                            replace q219 := eq_true q219
                            have p226 : 0 ≤ (x15_1 : Int) := of_decide_eq_true (by first | (with_reducible assumption) | assumption)
                            have q226 : x15_1 < (t212.length : Int) := of_decide_eq_true (by first | (with_reducible assumption) | assumption)
                            obtain ⟨ad226, A226_6, c226_6, e226, hx226_0, hx226_1, hx226_2, hx226_3, hx226_4, hx226_5, hx226_6, hl226_6, hi226_6⟩ := at_T29 (Kd.N_reads' HO_3.out).2.2 x15_1 p226 q226
                            obtain rfl : ad219 = ad226 := (by injection e226)
                            obtain ⟨ce226, hce226, hMe226, hcc226⟩ := Kd.N_get HO_3.out z29 x15_1 p226 (by first | exact q226 | exact of_decide_eq_true (by first | (with_reducible assumption) | assumption) | (have e_ := (Kd.N_reads' HO_3.out).1; omega))
                            obtain ⟨ua226_6, uc226_6, rfl, ul226_6, ge226_6⟩ := k29_openF hMe226
                            have hv226_6 := hcc226 6 _ rfl
                            rw [add_field _ _ 6 (by omega)] at hv226_6
                            replace hv226_6 := Option.some.inj (hv226_6.symm.trans hx226_6)
                            injection hv226_6 with hva_ hvn_ hvc_
                            rw [hva_] at ge226_6
                            rw [hvc_] at ul226_6
                            have HL226_6 := Aside0.mk (show Kd.V k29 29 _ w.heap.size _ _ ((rd_T29 t212 x15_1).f3) from Kd.V_mk ul226_6 ge226_6)
                            clear hva_ hvn_ hvc_ ge226_6 ul226_6
                            clear hcc226 hce226
                            have HR226_6 := Aside0.mk hi226_6
                            have HC226_6 := Aside0.mk hl226_6
                            clear hi226_6 hl226_6
                            replace p226 := eq_true p226
                            replace q226 := eq_true q226
                            have ea_ := Option.some.inj (hx219_6.symm.trans hx226_6)
                            injection ea_ with ea_ en_ ec_
                            subst ea_
                            subst ec_
                            clear en_
                            have p227 : 0 ≤ (x15_1 : Int) := of_decide_eq_true (by first | (with_reducible assumption) | assumption)
                            have q227 : x15_1 < (t212.length : Int) := of_decide_eq_true (by first | (with_reducible assumption) | assumption)
                            obtain ⟨ad227, A227_6, c227_6, e227, hx227_0, hx227_1, hx227_2, hx227_3, hx227_4, hx227_5, hx227_6, hl227_6, hi227_6⟩ := at_T29 (Kd.N_reads' HO_3.out).2.2 x15_1 p227 q227
                            obtain rfl : ad219 = ad227 := (by injection e227)
                            obtain ⟨ce227, hce227, hMe227, hcc227⟩ := Kd.N_get HO_3.out z29 x15_1 p227 (by first | exact q227 | exact of_decide_eq_true (by first | (with_reducible assumption) | assumption) | (have e_ := (Kd.N_reads' HO_3.out).1; omega))
                            obtain ⟨ua227_6, uc227_6, rfl, ul227_6, ge227_6⟩ := k29_openF hMe227
                            have hv227_6 := hcc227 6 _ rfl
                            rw [add_field _ _ 6 (by omega)] at hv227_6
                            replace hv227_6 := Option.some.inj (hv227_6.symm.trans hx227_6)
                            injection hv227_6 with hva_ hvn_ hvc_
                            rw [hva_] at ge227_6
                            rw [hvc_] at ul227_6
                            have HL227_6 := Aside0.mk (show Kd.V k29 29 _ w.heap.size _ _ ((rd_T29 t212 x15_1).f3) from Kd.V_mk ul227_6 ge227_6)
                            clear hva_ hvn_ hvc_ ge227_6 ul227_6
                            clear hcc227 hce227
                            have HR227_6 := Aside0.mk hi227_6
                            have HC227_6 := Aside0.mk hl227_6
                            clear hi227_6 hl227_6
                            replace p227 := eq_true p227
                            replace q227 := eq_true q227
                            have ea_ := Option.some.inj (hx219_6.symm.trans hx227_6)
                            injection ea_ with ea_ en_ ec_
                            subst ea_
                            subst ec_
                            clear en_
                            have p228 : 0 ≤ (x15_1 : Int) := of_decide_eq_true (by first | (with_reducible assumption) | assumption)
                            have q228 : x15_1 < (t212.length : Int) := of_decide_eq_true (by first | (with_reducible assumption) | assumption)
                            obtain ⟨ad228, A228_6, c228_6, e228, hx228_0, hx228_1, hx228_2, hx228_3, hx228_4, hx228_5, hx228_6, hl228_6, hi228_6⟩ := at_T29 (Kd.N_reads' HO_3.out).2.2 x15_1 p228 q228
                            obtain rfl : ad219 = ad228 := (by injection e228)
                            obtain ⟨ce228, hce228, hMe228, hcc228⟩ := Kd.N_get HO_3.out z29 x15_1 p228 (by first | exact q228 | exact of_decide_eq_true (by first | (with_reducible assumption) | assumption) | (have e_ := (Kd.N_reads' HO_3.out).1; omega))
                            obtain ⟨ua228_6, uc228_6, rfl, ul228_6, ge228_6⟩ := k29_openF hMe228
                            have hv228_6 := hcc228 6 _ rfl
                            rw [add_field _ _ 6 (by omega)] at hv228_6
                            replace hv228_6 := Option.some.inj (hv228_6.symm.trans hx228_6)
                            injection hv228_6 with hva_ hvn_ hvc_
                            rw [hva_] at ge228_6
                            rw [hvc_] at ul228_6
                            have HL228_6 := Aside0.mk (show Kd.V k29 29 _ w.heap.size _ _ ((rd_T29 t212 x15_1).f3) from Kd.V_mk ul228_6 ge228_6)
                            clear hva_ hvn_ hvc_ ge228_6 ul228_6
                            clear hcc228 hce228
                            have HR228_6 := Aside0.mk hi228_6
                            have HC228_6 := Aside0.mk hl228_6
                            clear hi228_6 hl228_6
                            replace p228 := eq_true p228
                            replace q228 := eq_true q228
                            have ea_ := Option.some.inj (hx219_6.symm.trans hx228_6)
                            injection ea_ with ea_ en_ ec_
                            subst ea_
                            subst ec_
                            clear en_
                            go_wp2
                            repeat (go_quiet (fail); try go_wp2)
                            go_roundg kj12
                            case measure => have := HK1.out; have := HJ12.out; omega
                            case rel => exact ⟨(wrap64 (x15_1 + 1)), (by first | rfl | (simp; done) | (simp [*]; done)), H', ⟨by have := HK1.out; have := HJ12.out; omega⟩, ⟨by (with_reducible repeat (first | apply Kd.N_alloc | apply Kd.N_drewN | apply Kd.N_drew)); exact HO_3.out⟩, ⟨by (with_reducible repeat (first | refine blk_drewN ?_ _ | refine blk_drew ?_ | refine blk_alloc ?_ _)); exact BK211.out⟩, ⟨by repeat (first | (with_reducible first | exact HB.out | apply below_alloc | apply pw_below_drewN | apply below_drew1 | refine below_set ?_ GE211.out) | exact HB.out)⟩⟩
                          · rw [if_neg c34] at H
                            have c34b0 : (((rd_T29 t212 x15_1).f2) == 0) = false := beq_eq_false_iff_ne.mpr c34
                            have c34b1 : (((rd_T29 t212 x15_1).f2) != 0) = true := bne_iff_ne.mpr c34
                            obtain rfl := Option.some.inj H
                            have p219 : 0 ≤ (x15_1 : Int) := of_decide_eq_true (by first | (with_reducible assumption) | assumption)
                            have q219 : x15_1 < (t212.length : Int) := of_decide_eq_true (by first | (with_reducible assumption) | assumption)
                            obtain ⟨ad219, A219_6, c219_6, e219, hx219_0, hx219_1, hx219_2, hx219_3, hx219_4, hx219_5, hx219_6, hl219_6, hi219_6⟩ := at_T29 (Kd.N_reads' HO_3.out).2.2 x15_1 p219 q219
                            cases e219
                            obtain ⟨ce219, hce219, hMe219, hcc219⟩ := Kd.N_get HO_3.out z29 x15_1 p219 (by first | exact q219 | exact of_decide_eq_true (by first | (with_reducible assumption) | assumption) | (have e_ := (Kd.N_reads' HO_3.out).1; omega))
                            obtain ⟨ua219_6, uc219_6, rfl, ul219_6, ge219_6⟩ := k29_openF hMe219
                            have hv219_6 := hcc219 6 _ rfl
                            rw [add_field _ _ 6 (by omega)] at hv219_6
                            replace hv219_6 := Option.some.inj (hv219_6.symm.trans hx219_6)
                            injection hv219_6 with hva_ hvn_ hvc_
                            rw [hva_] at ge219_6
                            rw [hvc_] at ul219_6
                            have HL219_6 := Aside0.mk (show Kd.V k29 29 _ w.heap.size _ _ ((rd_T29 t212 x15_1).f3) from Kd.V_mk ul219_6 ge219_6)
                            clear hva_ hvn_ hvc_ ge219_6 ul219_6
                            clear hcc219 hce219
                            have HR219_6 := Aside0.mk hi219_6
                            have HC219_6 := Aside0.mk hl219_6
                            clear hi219_6 hl219_6
                            replace p219 := eq_true p219
                            replace q219 := eq_true q219
                            have p226 : 0 ≤ (x15_1 : Int) := of_decide_eq_true (by first | (with_reducible assumption) | assumption)
                            have q226 : x15_1 < (t212.length : Int) := of_decide_eq_true (by first | (with_reducible assumption) | assumption)
                            obtain ⟨ad226, A226_6, c226_6, e226, hx226_0, hx226_1, hx226_2, hx226_3, hx226_4, hx226_5, hx226_6, hl226_6, hi226_6⟩ := at_T29 (Kd.N_reads' HO_3.out).2.2 x15_1 p226 q226
                            obtain rfl : ad219 = ad226 := (by injection e226)
                            obtain ⟨ce226, hce226, hMe226, hcc226⟩ := Kd.N_get HO_3.out z29 x15_1 p226 (by first | exact q226 | exact of_decide_eq_true (by first | (with_reducible assumption) | assumption) | (have e_ := (Kd.N_reads' HO_3.out).1; omega))
                            obtain ⟨ua226_6, uc226_6, rfl, ul226_6, ge226_6⟩ := k29_openF hMe226
                            have hv226_6 := hcc226 6 _ rfl
                            rw [add_field _ _ 6 (by omega)] at hv226_6
                            replace hv226_6 := Option.some.inj (hv226_6.symm.trans hx226_6)
                            injection hv226_6 with hva_ hvn_ hvc_
                            rw [hva_] at ge226_6
                            rw [hvc_] at ul226_6
                            have HL226_6 := Aside0.mk (show Kd.V k29 29 _ w.heap.size _ _ ((rd_T29 t212 x15_1).f3) from Kd.V_mk ul226_6 ge226_6)
                            clear hva_ hvn_ hvc_ ge226_6 ul226_6
                            clear hcc226 hce226
                            have HR226_6 := Aside0.mk hi226_6
                            have HC226_6 := Aside0.mk hl226_6
                            clear hi226_6 hl226_6
                            replace p226 := eq_true p226
                            replace q226 := eq_true q226
                            have ea_ := Option.some.inj (hx219_6.symm.trans hx226_6)
                            injection ea_ with ea_ en_ ec_
                            subst ea_
                            subst ec_
                            clear en_
                            have p227 : 0 ≤ (x15_1 : Int) := of_decide_eq_true (by first | (with_reducible assumption) | assumption)
                            have q227 : x15_1 < (t212.length : Int) := of_decide_eq_true (by first | (with_reducible assumption) | assumption)
                            obtain ⟨ad227, A227_6, c227_6, e227, hx227_0, hx227_1, hx227_2, hx227_3, hx227_4, hx227_5, hx227_6, hl227_6, hi227_6⟩ := at_T29 (Kd.N_reads' HO_3.out).2.2 x15_1 p227 q227
                            obtain rfl : ad219 = ad227 := (by injection e227)
                            obtain ⟨ce227, hce227, hMe227, hcc227⟩ := Kd.N_get HO_3.out z29 x15_1 p227 (by first | exact q227 | exact of_decide_eq_true (by first | (with_reducible assumption) | assumption) | (have e_ := (Kd.N_reads' HO_3.out).1; omega))
                            obtain ⟨ua227_6, uc227_6, rfl, ul227_6, ge227_6⟩ := k29_openF hMe227
                            have hv227_6 := hcc227 6 _ rfl
                            rw [add_field _ _ 6 (by omega)] at hv227_6
                            replace hv227_6 := Option.some.inj (hv227_6.symm.trans hx227_6)
                            injection hv227_6 with hva_ hvn_ hvc_
                            rw [hva_] at ge227_6
                            rw [hvc_] at ul227_6
                            have HL227_6 := Aside0.mk (show Kd.V k29 29 _ w.heap.size _ _ ((rd_T29 t212 x15_1).f3) from Kd.V_mk ul227_6 ge227_6)
                            clear hva_ hvn_ hvc_ ge227_6 ul227_6
                            clear hcc227 hce227
                            have HR227_6 := Aside0.mk hi227_6
                            have HC227_6 := Aside0.mk hl227_6
                            clear hi227_6 hl227_6
                            replace p227 := eq_true p227
                            replace q227 := eq_true q227
                            have ea_ := Option.some.inj (hx219_6.symm.trans hx227_6)
                            injection ea_ with ea_ en_ ec_
                            subst ea_
                            subst ec_
                            clear en_
                            have p228 : 0 ≤ (x15_1 : Int) := of_decide_eq_true (by first | (with_reducible assumption) | assumption)
                            have q228 : x15_1 < (t212.length : Int) := of_decide_eq_true (by first | (with_reducible assumption) | assumption)
                            obtain ⟨ad228, A228_6, c228_6, e228, hx228_0, hx228_1, hx228_2, hx228_3, hx228_4, hx228_5, hx228_6, hl228_6, hi228_6⟩ := at_T29 (Kd.N_reads' HO_3.out).2.2 x15_1 p228 q228
                            obtain rfl : ad219 = ad228 := (by injection e228)
                            obtain ⟨ce228, hce228, hMe228, hcc228⟩ := Kd.N_get HO_3.out z29 x15_1 p228 (by first | exact q228 | exact of_decide_eq_true (by first | (with_reducible assumption) | assumption) | (have e_ := (Kd.N_reads' HO_3.out).1; omega))
                            obtain ⟨ua228_6, uc228_6, rfl, ul228_6, ge228_6⟩ := k29_openF hMe228
                            have hv228_6 := hcc228 6 _ rfl
                            rw [add_field _ _ 6 (by omega)] at hv228_6
                            replace hv228_6 := Option.some.inj (hv228_6.symm.trans hx228_6)
                            injection hv228_6 with hva_ hvn_ hvc_
                            rw [hva_] at ge228_6
                            rw [hvc_] at ul228_6
                            have HL228_6 := Aside0.mk (show Kd.V k29 29 _ w.heap.size _ _ ((rd_T29 t212 x15_1).f3) from Kd.V_mk ul228_6 ge228_6)
                            clear hva_ hvn_ hvc_ ge228_6 ul228_6
                            clear hcc228 hce228
                            have HR228_6 := Aside0.mk hi228_6
                            have HC228_6 := Aside0.mk hl228_6
                            clear hi228_6 hl228_6
                            replace p228 := eq_true p228
                            replace q228 := eq_true q228
                            have ea_ := Option.some.inj (hx219_6.symm.trans hx228_6)
                            injection ea_ with ea_ en_ ec_
                            subst ea_
                            subst ec_
                            clear en_
                            go_wp2
                            repeat (go_quiet (fail); try go_wp2)
                            go_ret
                            exact ⟨by first | rfl | (simp [errW_none, errW_some] <;> rfl) | (simp [*, errW_none, errW_some] <;> rfl), by repeat (first | (with_reducible first | exact HB.out | apply below_alloc | apply pw_below_drewN | apply below_drew1 | refine below_set ?_ GE211.out) | exact HB.out)⟩
                      · rw [if_neg c32] at H
                        have c32b0 : decide (1 < ((rd_T29 t212 x15_1).f0)) = false := decide_eq_false c32
                        clear c32
                        have H' := Aside0.mk H
                        clear H
                        have p219 : 0 ≤ (x15_1 : Int) := of_decide_eq_true (by first | (with_reducible assumption) | assumption)
                        have q219 : x15_1 < (t212.length : Int) := of_decide_eq_true (by first | (with_reducible assumption) | assumption)
                        obtain ⟨ad219, A219_6, c219_6, e219, hx219_0, hx219_1, hx219_2, hx219_3, hx219_4, hx219_5, hx219_6, hl219_6, hi219_6⟩ := at_T29 (Kd.N_reads' HO_3.out).2.2 x15_1 p219 q219
                        cases e219
                        obtain ⟨ce219, hce219, hMe219, hcc219⟩ := Kd.N_get HO_3.out z29 x15_1 p219 (by first | exact q219 | exact of_decide_eq_true (by first | (with_reducible assumption) | assumption) | (have e_ := (Kd.N_reads' HO_3.out).1; omega))
                        obtain ⟨ua219_6, uc219_6, rfl, ul219_6, ge219_6⟩ := k29_openF hMe219
                        have hv219_6 := hcc219 6 _ rfl
                        rw [add_field _ _ 6 (by omega)] at hv219_6
                        replace hv219_6 := Option.some.inj (hv219_6.symm.trans hx219_6)
                        injection hv219_6 with hva_ hvn_ hvc_
                        rw [hva_] at ge219_6
                        rw [hvc_] at ul219_6
                        have HL219_6 := Aside0.mk (show Kd.V k29 29 _ w.heap.size _ _ ((rd_T29 t212 x15_1).f3) from Kd.V_mk ul219_6 ge219_6)
                        clear hva_ hvn_ hvc_ ge219_6 ul219_6
                        clear hcc219 hce219
                        have HR219_6 := Aside0.mk hi219_6
                        have HC219_6 := Aside0.mk hl219_6
                        clear hi219_6 hl219_6
                        replace p219 := eq_true p219
                        replace q219 := eq_true q219
                        have p226 : 0 ≤ (x15_1 : Int) := of_decide_eq_true (by first | (with_reducible assumption) | assumption)
                        have q226 : x15_1 < (t212.length : Int) := of_decide_eq_true (by first | (with_reducible assumption) | assumption)
                        obtain ⟨ad226, A226_6, c226_6, e226, hx226_0, hx226_1, hx226_2, hx226_3, hx226_4, hx226_5, hx226_6, hl226_6, hi226_6⟩ := at_T29 (Kd.N_reads' HO_3.out).2.2 x15_1 p226 q226
                        obtain rfl : ad219 = ad226 := (by injection e226)
                        obtain ⟨ce226, hce226, hMe226, hcc226⟩ := Kd.N_get HO_3.out z29 x15_1 p226 (by first | exact q226 | exact of_decide_eq_true (by first | (with_reducible assumption) | assumption) | (have e_ := (Kd.N_reads' HO_3.out).1; omega))
                        obtain ⟨ua226_6, uc226_6, rfl, ul226_6, ge226_6⟩ := k29_openF hMe226
                        have hv226_6 := hcc226 6 _ rfl
                        rw [add_field _ _ 6 (by omega)] at hv226_6
                        replace hv226_6 := Option.some.inj (hv226_6.symm.trans hx226_6)
                        injection hv226_6 with hva_ hvn_ hvc_
                        rw [hva_] at ge226_6
                        rw [hvc_] at ul226_6
                        have HL226_6 := Aside0.mk (show Kd.V k29 29 _ w.heap.size _ _ ((rd_T29 t212 x15_1).f3) from Kd.V_mk ul226_6 ge226_6)
                        clear hva_ hvn_ hvc_ ge226_6 ul226_6
                        clear hcc226 hce226
                        have HR226_6 := Aside0.mk hi226_6
                        have HC226_6 := Aside0.mk hl226_6
                        clear hi226_6 hl226_6
                        replace p226 := eq_true p226
                        replace q226 := eq_true q226
                        have ea_ := Option.some.inj (hx219_6.symm.trans hx226_6)
                        injection ea_ with ea_ en_ ec_
                        subst ea_
                        subst ec_
                        clear en_
                        go_wp2
                        repeat (go_quiet (fail); try go_wp2)
                        go_roundg kj12
                        case measure => have := HK1.out; have := HJ12.out; omega
                        case rel => exact ⟨(wrap64 (x15_1 + 1)), (by first | rfl | (simp; done) | (simp [*]; done)), H', ⟨by have := HK1.out; have := HJ12.out; omega⟩, ⟨by (with_reducible repeat (first | apply Kd.N_alloc | apply Kd.N_drewN | apply Kd.N_drew)); exact HO_3.out⟩, ⟨by (with_reducible repeat (first | refine blk_drewN ?_ _ | refine blk_drew ?_ | refine blk_alloc ?_ _)); exact BK211.out⟩, ⟨by repeat (first | (with_reducible first | exact HB.out | apply below_alloc | apply pw_below_drewN | apply below_drew1 | refine below_set ?_ GE211.out) | exact HB.out)⟩⟩
                  · rw [if_neg c24] at H
                    exact absurd H (by simp)
                · rw [if_neg c23] at H
                  exact absurd H (by simp)
        · rw [if_neg c12] at H
          have c12b0 : decide (x15_1 < (t212.length : Int)) = false := decide_eq_false c12
          clear c12
          replace H := Option.bind_eq_some_iff.mp H
          obtain ⟨t229, A350, H⟩ := H
          replace H : (sashref05_May.l1 k1 t229 (t229.length : Int) 0) = some r := H
          have A35 := Aside0.mk A350
          clear A350
          have H' := Aside0.mk H
          clear H
          have hcz36_0 : wr.cell? ⟨gb211, 0, none⟩ = some (.int .u8 a0_0) := (blk_cell BK211.out 0).trans rfl
          have hcz36_1 : wr.cell? ⟨gb211, 1, none⟩ = some (.int .i64 a0_1) := (blk_cell BK211.out 1).trans rfl
          have hcz36_2 : wr.cell? ⟨gb211, 2, none⟩ = some (.int .i64 a0_2) := (blk_cell BK211.out 2).trans rfl
          have hcz36_3 : wr.cell? ⟨gb211, 3, none⟩ = some (.int .i64 a0_3) := (blk_cell BK211.out 3).trans rfl
          have hcz36_4 : wr.cell? ⟨gb211, 4, none⟩ = some (.int .i64 a0_4) := (blk_cell BK211.out 4).trans rfl
          have hcz36_5 : wr.cell? ⟨gb211, 5, none⟩ = some (.int .i64 a0_5) := (blk_cell BK211.out 5).trans rfl
          have hcz36_6 : wr.cell? ⟨gb211, 6, none⟩ = some (.slice A0_6 l0_6.length c0_6) := (blk_cell BK211.out 6).trans rfl
          have hfz36_0 := blk_frozen BK211.out 0
          have hfz36_1 := blk_frozen BK211.out 1
          have hfz36_2 := blk_frozen BK211.out 2
          have hfz36_3 := blk_frozen BK211.out 3
          have hfz36_4 := blk_frozen BK211.out 4
          have hfz36_5 := blk_frozen BK211.out 5
          have hfz36_6 := blk_frozen BK211.out 6
          go_wp2_with (first | (go_at_call 25; (with_reducible refine (sashref05_Leaves.calls k1 a0_0 a0_1 a0_2 a0_3 a0_4 a0_5 (fun k_ => k_ < w.heap.size) _ _ l0_6 t229 _ ?side1 A35.out).mono ?_); (case side1 => exact Kd.V_mk HC0_6.out (Kd.F_below (Kd.C_F k29_heap HR0_6.out) (by repeat (first | (with_reducible first | exact HB.out | apply below_alloc | apply pw_below_drewN | apply below_drew1 | refine below_set ?_ GE211.out) | exact HB.out)))); rintro e w37 ⟨v230, rfl, ho0, hb⟩; have n0_ := Aside0.mk (Kd.N_elder' (by (with_reducible repeat (first | apply Kd.N_alloc | apply Kd.N_drewN | apply Kd.N_drew)); exact HO_3.out) (Kd.N_base ho0) hb); have n1_ := Aside0.mk (Kd.N_lower (Kd.N_mono (ok' := fun k_ => some k_ ≠ (.slice Ao11 t212.length co11 : Value).ownBlock ∧ k_ ≠ gb211) ho0 (fun k_ hk_ => ⟨Or.elim hk_ (fun hs_ => fun e_ => Nat.not_le.2 hs_ (Kd.N_base HO_3.out k_ e_.symm)) (fun hn_ => (Kd.fresh' (Kd.N_lt (by (with_reducible repeat (first | apply Kd.N_alloc | apply Kd.N_drewN | apply Kd.N_drew)); exact HO_3.out)) k_ hn_)), Or.elim hk_ (fun hs_ => fun e_ => Nat.not_le.2 hs_ (by rw [e_]; exact GW211.out)) (fun hn_ => (Kd.freshB (g := gb211) (o := .cells #[.int .u8 a0_0, .int .i64 a0_1, .int .i64 a0_2, .int .i64 a0_3, .int .i64 a0_4, .int .i64 a0_5, .slice A0_6 l0_6.length c0_6] 29 (0, 0)) (by (with_reducible repeat (first | refine blk_drewN ?_ _ | refine blk_drew ?_ | refine blk_alloc ?_ _)); exact BK211.out) k_ hn_))⟩)) (below_size (by repeat (first | (with_reducible first | exact HB.out | apply below_alloc | apply pw_below_drewN | apply below_drew1 | refine below_set ?_ GE211.out) | exact HB.out)))); have n2_ := Aside0.mk (blk_below (g := gb211) (o := .cells #[.int .u8 a0_0, .int .i64 a0_1, .int .i64 a0_2, .int .i64 a0_3, .int .i64 a0_4, .int .i64 a0_5, .slice A0_6 l0_6.length c0_6] 29 (0, 0)) (by (with_reducible repeat (first | refine blk_drewN ?_ _ | refine blk_drew ?_ | refine blk_alloc ?_ _)); exact BK211.out) hb); have n3_ := Aside0.mk (below_step (by repeat (first | (with_reducible first | exact HB.out | apply below_alloc | apply pw_below_drewN | apply below_drew1 | refine below_set ?_ GE211.out) | exact HB.out)) hb); clear HO_3; clear BK211; clear HB; have HO_3 := n0_; have HO231 := n1_; have BK211 := n2_; have HB := n3_; clear n0_ n1_ n2_ n3_; (try clear hb); (try clear hb2); (try clear hk); (try clear hi); (try clear ho0); obtain ⟨Ao38, co38, eo38⟩ := Kd.N_slice HO231.out; subst eo38))
          repeat (go_quiet (first | (go_at_call 25; (with_reducible refine (sashref05_Leaves.calls k1 a0_0 a0_1 a0_2 a0_3 a0_4 a0_5 (fun k_ => k_ < w.heap.size) _ _ l0_6 t229 _ ?side1 A35.out).mono ?_); (case side1 => exact Kd.V_mk HC0_6.out (Kd.F_below (Kd.C_F k29_heap HR0_6.out) (by repeat (first | (with_reducible first | exact HB.out | apply below_alloc | apply pw_below_drewN | apply below_drew1 | refine below_set ?_ GE211.out) | exact HB.out)))); rintro e w37 ⟨v230, rfl, ho0, hb⟩; have n0_ := Aside0.mk (Kd.N_elder' (by (with_reducible repeat (first | apply Kd.N_alloc | apply Kd.N_drewN | apply Kd.N_drew)); exact HO_3.out) (Kd.N_base ho0) hb); have n1_ := Aside0.mk (Kd.N_lower (Kd.N_mono (ok' := fun k_ => some k_ ≠ (.slice Ao11 t212.length co11 : Value).ownBlock ∧ k_ ≠ gb211) ho0 (fun k_ hk_ => ⟨Or.elim hk_ (fun hs_ => fun e_ => Nat.not_le.2 hs_ (Kd.N_base HO_3.out k_ e_.symm)) (fun hn_ => (Kd.fresh' (Kd.N_lt (by (with_reducible repeat (first | apply Kd.N_alloc | apply Kd.N_drewN | apply Kd.N_drew)); exact HO_3.out)) k_ hn_)), Or.elim hk_ (fun hs_ => fun e_ => Nat.not_le.2 hs_ (by rw [e_]; exact GW211.out)) (fun hn_ => (Kd.freshB (g := gb211) (o := .cells #[.int .u8 a0_0, .int .i64 a0_1, .int .i64 a0_2, .int .i64 a0_3, .int .i64 a0_4, .int .i64 a0_5, .slice A0_6 l0_6.length c0_6] 29 (0, 0)) (by (with_reducible repeat (first | refine blk_drewN ?_ _ | refine blk_drew ?_ | refine blk_alloc ?_ _)); exact BK211.out) k_ hn_))⟩)) (below_size (by repeat (first | (with_reducible first | exact HB.out | apply below_alloc | apply pw_below_drewN | apply below_drew1 | refine below_set ?_ GE211.out) | exact HB.out)))); have n2_ := Aside0.mk (blk_below (g := gb211) (o := .cells #[.int .u8 a0_0, .int .i64 a0_1, .int .i64 a0_2, .int .i64 a0_3, .int .i64 a0_4, .int .i64 a0_5, .slice A0_6 l0_6.length c0_6] 29 (0, 0)) (by (with_reducible repeat (first | refine blk_drewN ?_ _ | refine blk_drew ?_ | refine blk_alloc ?_ _)); exact BK211.out) hb); have n3_ := Aside0.mk (below_step (by repeat (first | (with_reducible first | exact HB.out | apply below_alloc | apply pw_below_drewN | apply below_drew1 | refine below_set ?_ GE211.out) | exact HB.out)) hb); clear HO_3; clear BK211; clear HB; have HO_3 := n0_; have HO231 := n1_; have BK211 := n2_; have HB := n3_; clear n0_ n1_ n2_ n3_; (try clear hb); (try clear hb2); (try clear hk); (try clear hi); (try clear ho0); obtain ⟨Ao38, co38, eo38⟩ := Kd.N_slice HO231.out; subst eo38)); try go_wp2_with (first | (go_at_call 25; (with_reducible refine (sashref05_Leaves.calls k1 a0_0 a0_1 a0_2 a0_3 a0_4 a0_5 (fun k_ => k_ < w.heap.size) _ _ l0_6 t229 _ ?side1 A35.out).mono ?_); (case side1 => exact Kd.V_mk HC0_6.out (Kd.F_below (Kd.C_F k29_heap HR0_6.out) (by repeat (first | (with_reducible first | exact HB.out | apply below_alloc | apply pw_below_drewN | apply below_drew1 | refine below_set ?_ GE211.out) | exact HB.out)))); rintro e w37 ⟨v230, rfl, ho0, hb⟩; have n0_ := Aside0.mk (Kd.N_elder' (by (with_reducible repeat (first | apply Kd.N_alloc | apply Kd.N_drewN | apply Kd.N_drew)); exact HO_3.out) (Kd.N_base ho0) hb); have n1_ := Aside0.mk (Kd.N_lower (Kd.N_mono (ok' := fun k_ => some k_ ≠ (.slice Ao11 t212.length co11 : Value).ownBlock ∧ k_ ≠ gb211) ho0 (fun k_ hk_ => ⟨Or.elim hk_ (fun hs_ => fun e_ => Nat.not_le.2 hs_ (Kd.N_base HO_3.out k_ e_.symm)) (fun hn_ => (Kd.fresh' (Kd.N_lt (by (with_reducible repeat (first | apply Kd.N_alloc | apply Kd.N_drewN | apply Kd.N_drew)); exact HO_3.out)) k_ hn_)), Or.elim hk_ (fun hs_ => fun e_ => Nat.not_le.2 hs_ (by rw [e_]; exact GW211.out)) (fun hn_ => (Kd.freshB (g := gb211) (o := .cells #[.int .u8 a0_0, .int .i64 a0_1, .int .i64 a0_2, .int .i64 a0_3, .int .i64 a0_4, .int .i64 a0_5, .slice A0_6 l0_6.length c0_6] 29 (0, 0)) (by (with_reducible repeat (first | refine blk_drewN ?_ _ | refine blk_drew ?_ | refine blk_alloc ?_ _)); exact BK211.out) k_ hn_))⟩)) (below_size (by repeat (first | (with_reducible first | exact HB.out | apply below_alloc | apply pw_below_drewN | apply below_drew1 | refine below_set ?_ GE211.out) | exact HB.out)))); have n2_ := Aside0.mk (blk_below (g := gb211) (o := .cells #[.int .u8 a0_0, .int .i64 a0_1, .int .i64 a0_2, .int .i64 a0_3, .int .i64 a0_4, .int .i64 a0_5, .slice A0_6 l0_6.length c0_6] 29 (0, 0)) (by (with_reducible repeat (first | refine blk_drewN ?_ _ | refine blk_drew ?_ | refine blk_alloc ?_ _)); exact BK211.out) hb); have n3_ := Aside0.mk (below_step (by repeat (first | (with_reducible first | exact HB.out | apply below_alloc | apply pw_below_drewN | apply below_drew1 | refine below_set ?_ GE211.out) | exact HB.out)) hb); clear HO_3; clear BK211; clear HB; have HO_3 := n0_; have HO231 := n1_; have BK211 := n2_; have HB := n3_; clear n0_ n1_ n2_ n3_; (try clear hb); (try clear hb2); (try clear hk); (try clear hi); (try clear ho0); obtain ⟨Ao38, co38, eo38⟩ := Kd.N_slice HO231.out; subst eo38)))
          go_loopg [102] k1 (fun kq v102 w' => ∃ (x102_2 : Int), v102 = .int .i64 x102_2 ∧ Aside0 (sashref05_May.l1 kq t229 (t229.length : Int) x102_2 = some r) ∧ Aside0 (kq ≤ k1) ∧ Aside0 (Kd.N k29 29 w' w.heap.size (fun k_ => k_ ≠ gb211) (.slice Ao38 t229.length co38) t229) ∧ Aside0 (w'.heap[gb211]? = some (.cells #[.int .u8 a0_0, .int .i64 a0_1, .int .i64 a0_2, .int .i64 a0_3, .int .i64 a0_4, .int .i64 a0_5, (.slice A0_6 l0_6.length c0_6)] 29 (0, 0))) ∧ Aside0 (Below w.heap.size w w'))
          case atStart => exact ⟨(0), (by first | rfl | (simp; done) | (simp [*]; done)), H', ⟨Nat.le_refl _⟩, ⟨by (with_reducible repeat (first | apply Kd.N_alloc | apply Kd.N_drewN | apply Kd.N_drew)); exact Kd.N_mono HO231.out (fun _ hk => hk.2)⟩, ⟨by (with_reducible repeat (first | refine blk_drewN ?_ _ | refine blk_drew ?_ | refine blk_alloc ?_ _)); exact BK211.out⟩, ⟨by repeat (first | (with_reducible first | exact HB.out | apply below_alloc | apply pw_below_drewN | apply below_drew1 | refine below_set ?_ GE211.out) | exact HB.out)⟩⟩
          case round =>
            clear H'
            try clear c1
            try clear c2
            try clear p2
            try clear q2
            try clear hx2
            try clear c3
            try clear p6
            try clear c12
            try clear c12b0
            try clear c21
            try clear p21
            try clear q21
            try clear hx21
            try clear c22
            try clear p22
            try clear q22
            try clear hx22
            try clear c23
            try clear c24
            try clear c25
            try clear c25b0
            try clear c25b1
            try clear c29
            try clear c29b0
            try clear c32
            try clear c32b0
            try clear c33
            try clear c33b0
            try clear c33b1
            try clear c34
            try clear c34b0
            try clear c34b1
            try clear hcz36_0
            try clear hcz36_1
            try clear hcz36_2
            try clear hcz36_3
            try clear hcz36_4
            try clear hcz36_5
            try clear hcz36_6
            try clear hfz36_0
            try clear hfz36_1
            try clear hfz36_2
            try clear hfz36_3
            try clear hfz36_4
            try clear hfz36_5
            try clear hfz36_6
            try clear hx219_0
            try clear hx219_1
            try clear hx219_2
            try clear hx219_3
            try clear hx219_4
            try clear hx219_5
            try clear hx219_6
            try clear hx220_0
            try clear hx220_1
            try clear hx220_2
            try clear hx220_3
            try clear hx220_4
            try clear hx220_5
            try clear hx220_6
            try clear hx221_0
            try clear hx221_1
            try clear hx221_2
            try clear hx221_3
            try clear hx221_4
            try clear hx221_5
            try clear hx221_6
            try clear hx222_0
            try clear hx222_1
            try clear hx222_2
            try clear hx222_3
            try clear hx222_4
            try clear hx222_5
            try clear hx222_6
            try clear hx223_0
            try clear hx223_1
            try clear hx223_2
            try clear hx223_3
            try clear hx223_4
            try clear hx223_5
            try clear hx223_6
            try clear hx224_0
            try clear hx224_1
            try clear hx224_2
            try clear hx224_3
            try clear hx224_4
            try clear hx224_5
            try clear hx224_6
            try clear hx225_0
            try clear hx225_1
            try clear hx225_2
            try clear hx225_3
            try clear hx225_4
            try clear hx225_5
            try clear hx225_6
            try clear hx226_0
            try clear hx226_1
            try clear hx226_2
            try clear hx226_3
            try clear hx226_4
            try clear hx226_5
            try clear hx226_6
            try clear hx227_0
            try clear hx227_1
            try clear hx227_2
            try clear hx227_3
            try clear hx227_4
            try clear hx227_5
            try clear hx227_6
            try clear hx228_0
            try clear hx228_1
            try clear hx228_2
            try clear hx228_3
            try clear hx228_4
            try clear hx228_5
            try clear hx228_6
            try clear p219
            try clear p220
            try clear p221
            try clear p222
            try clear p223
            try clear p224
            try clear p225
            try clear p226
            try clear p227
            try clear p228
            try clear q219
            try clear q220
            try clear q221
            try clear q222
            try clear q223
            try clear q224
            try clear q225
            try clear q226
            try clear q227
            try clear q228
            obtain ⟨x102_2, rfl, HA, HK2, HO_5, BK211, HB⟩ := hrel
            cases gk with
            | zero => exact absurd HA.out (by simp [sashref05_May.l1])
            | succ k2 =>
              have H := HA.out
              clear HA
              simp only [sashref05_May.l1] at H
              by_cases c39 : x102_2 < (t229.length : Int)
              · rw [if_pos c39] at H
                have c39b0 : decide (x102_2 < (t229.length : Int)) = true := decide_eq_true c39
                clear c39
                have H' := Aside0.mk H
                clear H
                go_wp2
                repeat (go_quiet (fail); try go_wp2)
                go_loopg [7] k2 (fun kq v7 w' => ∃ (x7_3 : Int), v7 = .int .i64 x7_3 ∧ Aside0 (sashref05_May.l2 kq t229 x102_2 x7_3 (t229.length : Int) x102_2 = some r) ∧ Aside0 (kq ≤ k2) ∧ Aside0 (Kd.N k29 29 w' w.heap.size (fun k_ => k_ ≠ gb211) (.slice Ao38 t229.length co38) t229) ∧ Aside0 (w'.heap[gb211]? = some (.cells #[.int .u8 a0_0, .int .i64 a0_1, .int .i64 a0_2, .int .i64 a0_3, .int .i64 a0_4, .int .i64 a0_5, (.slice A0_6 l0_6.length c0_6)] 29 (0, 0))) ∧ Aside0 (Below w.heap.size w w'))
                case atStart => exact ⟨(0), (by first | rfl | (simp; done) | (simp [*]; done)), H', ⟨Nat.le_refl _⟩, ⟨by (with_reducible repeat (first | apply Kd.N_alloc | apply Kd.N_drewN | apply Kd.N_drew)); exact HO_5.out⟩, ⟨by (with_reducible repeat (first | refine blk_drewN ?_ _ | refine blk_drew ?_ | refine blk_alloc ?_ _)); exact BK211.out⟩, ⟨by repeat (first | (with_reducible first | exact HB.out | apply below_alloc | apply pw_below_drewN | apply below_drew1 | refine below_set ?_ GE211.out) | exact HB.out)⟩⟩
                case round =>
                  clear H'
                  try clear c1
                  try clear c2
                  try clear p2
                  try clear q2
                  try clear hx2
                  try clear c3
                  try clear p6
                  try clear c12
                  try clear c12b0
                  try clear c21
                  try clear p21
                  try clear q21
                  try clear hx21
                  try clear c22
                  try clear p22
                  try clear q22
                  try clear hx22
                  try clear c23
                  try clear c24
                  try clear c25
                  try clear c25b0
                  try clear c25b1
                  try clear c29
                  try clear c29b0
                  try clear c32
                  try clear c32b0
                  try clear c33
                  try clear c33b0
                  try clear c33b1
                  try clear c34
                  try clear c34b0
                  try clear c34b1
                  try clear c39
                  try clear c39b0
                  try clear hcz36_0
                  try clear hcz36_1
                  try clear hcz36_2
                  try clear hcz36_3
                  try clear hcz36_4
                  try clear hcz36_5
                  try clear hcz36_6
                  try clear hfz36_0
                  try clear hfz36_1
                  try clear hfz36_2
                  try clear hfz36_3
                  try clear hfz36_4
                  try clear hfz36_5
                  try clear hfz36_6
                  try clear hx219_0
                  try clear hx219_1
                  try clear hx219_2
                  try clear hx219_3
                  try clear hx219_4
                  try clear hx219_5
                  try clear hx219_6
                  try clear hx220_0
                  try clear hx220_1
                  try clear hx220_2
                  try clear hx220_3
                  try clear hx220_4
                  try clear hx220_5
                  try clear hx220_6
                  try clear hx221_0
                  try clear hx221_1
                  try clear hx221_2
                  try clear hx221_3
                  try clear hx221_4
                  try clear hx221_5
                  try clear hx221_6
                  try clear hx222_0
                  try clear hx222_1
                  try clear hx222_2
                  try clear hx222_3
                  try clear hx222_4
                  try clear hx222_5
                  try clear hx222_6
                  try clear hx223_0
                  try clear hx223_1
                  try clear hx223_2
                  try clear hx223_3
                  try clear hx223_4
                  try clear hx223_5
                  try clear hx223_6
                  try clear hx224_0
                  try clear hx224_1
                  try clear hx224_2
                  try clear hx224_3
                  try clear hx224_4
                  try clear hx224_5
                  try clear hx224_6
                  try clear hx225_0
                  try clear hx225_1
                  try clear hx225_2
                  try clear hx225_3
                  try clear hx225_4
                  try clear hx225_5
                  try clear hx225_6
                  try clear hx226_0
                  try clear hx226_1
                  try clear hx226_2
                  try clear hx226_3
                  try clear hx226_4
                  try clear hx226_5
                  try clear hx226_6
                  try clear hx227_0
                  try clear hx227_1
                  try clear hx227_2
                  try clear hx227_3
                  try clear hx227_4
                  try clear hx227_5
                  try clear hx227_6
                  try clear hx228_0
                  try clear hx228_1
                  try clear hx228_2
                  try clear hx228_3
                  try clear hx228_4
                  try clear hx228_5
                  try clear hx228_6
                  try clear p2
                  try clear p21
                  try clear p219
                  try clear p22
                  try clear p220
                  try clear p221
                  try clear p222
                  try clear p223
                  try clear p224
                  try clear p225
                  try clear p226
                  try clear p227
                  try clear p228
                  try clear p6
                  try clear q2
                  try clear q21
                  try clear q219
                  try clear q22
                  try clear q220
                  try clear q221
                  try clear q222
                  try clear q223
                  try clear q224
                  try clear q225
                  try clear q226
                  try clear q227
                  try clear q228
                  obtain ⟨x7_3, rfl, HA, HK3, HO_5, BK211, HB⟩ := hrel
                  cases gk with
                  | zero => exact absurd HA.out (by simp [sashref05_May.l2])
                  | succ k3 =>
                    have H := HA.out
                    clear HA
                    simp only [sashref05_May.l2] at H
                    by_cases c40 : x7_3 < x102_2
                    · rw [if_pos c40] at H
                      have c40b0 : decide (x7_3 < x102_2) = true := decide_eq_true c40
                      clear c40
                      by_cases c41 : 0 ≤ x102_2
                      · rw [if_pos c41] at H
                        have c41b0 : decide (0 ≤ x102_2) = true := decide_eq_true c41
                        clear c41
                        by_cases c42 : x102_2 < (t229.length : Int)
                        · rw [if_pos c42] at H
                          have c42b0 : decide (x102_2 < (t229.length : Int)) = true := decide_eq_true c42
                          clear c42
                          by_cases c43 : 0 ≤ x7_3
                          · rw [if_pos c43] at H
                            have c43b0 : decide (0 ≤ x7_3) = true := decide_eq_true c43
                            clear c43
                            by_cases c44 : x7_3 < (t229.length : Int)
                            · rw [if_pos c44] at H
                              have c44b0 : decide (x7_3 < (t229.length : Int)) = true := decide_eq_true c44
                              clear c44
                              by_cases c45 : ((rd_T29 t229 x102_2).f2) = ((rd_T29 t229 x7_3).f2)
                              · rw [if_pos c45] at H
                                have c45b0 : (((rd_T29 t229 x102_2).f2) == ((rd_T29 t229 x7_3).f2)) = true := beq_iff_eq.mpr c45
                                have c45b1 : (((rd_T29 t229 x102_2).f2) != ((rd_T29 t229 x7_3).f2)) = false := bne_eq_false_iff_eq.mpr c45
                                clear c45
                                obtain rfl := Option.some.inj H
                                have p232 : 0 ≤ (x102_2 : Int) := of_decide_eq_true (by first | (with_reducible assumption) | assumption)
                                have q232 : x102_2 < (t229.length : Int) := of_decide_eq_true (by first | (with_reducible assumption) | assumption)
                                obtain ⟨ad232, A232_6, c232_6, e232, hx232_0, hx232_1, hx232_2, hx232_3, hx232_4, hx232_5, hx232_6, hl232_6, hi232_6⟩ := at_T29 (Kd.N_reads' HO_5.out).2.2 x102_2 p232 q232
                                cases e232
                                obtain ⟨ce232, hce232, hMe232, hcc232⟩ := Kd.N_get HO_5.out z29 x102_2 p232 (by first | exact q232 | exact of_decide_eq_true (by first | (with_reducible assumption) | assumption) | (have e_ := (Kd.N_reads' HO_5.out).1; omega))
                                obtain ⟨ua232_6, uc232_6, rfl, ul232_6, ge232_6⟩ := k29_openF hMe232
                                have hv232_6 := hcc232 6 _ rfl
                                rw [add_field _ _ 6 (by omega)] at hv232_6
                                replace hv232_6 := Option.some.inj (hv232_6.symm.trans hx232_6)
                                injection hv232_6 with hva_ hvn_ hvc_
                                rw [hva_] at ge232_6
                                rw [hvc_] at ul232_6
                                have HL232_6 := Aside0.mk (show Kd.V k29 29 _ w.heap.size _ _ ((rd_T29 t229 x102_2).f3) from Kd.V_mk ul232_6 ge232_6)
                                clear hva_ hvn_ hvc_ ge232_6 ul232_6
                                clear hcc232 hce232
                                have HR232_6 := Aside0.mk hi232_6
                                have HC232_6 := Aside0.mk hl232_6
                                clear hi232_6 hl232_6
                                replace p232 := eq_true p232
                                replace q232 := eq_true q232
                                have p233 : 0 ≤ (x7_3 : Int) := of_decide_eq_true (by first | (with_reducible assumption) | assumption)
                                have q233 : x7_3 < (t229.length : Int) := of_decide_eq_true (by first | (with_reducible assumption) | assumption)
                                obtain ⟨ad233, A233_6, c233_6, e233, hx233_0, hx233_1, hx233_2, hx233_3, hx233_4, hx233_5, hx233_6, hl233_6, hi233_6⟩ := at_T29 (Kd.N_reads' HO_5.out).2.2 x7_3 p233 q233
                                obtain rfl : ad232 = ad233 := (by injection e233)
                                obtain ⟨ce233, hce233, hMe233, hcc233⟩ := Kd.N_get HO_5.out z29 x7_3 p233 (by first | exact q233 | exact of_decide_eq_true (by first | (with_reducible assumption) | assumption) | (have e_ := (Kd.N_reads' HO_5.out).1; omega))
                                obtain ⟨ua233_6, uc233_6, rfl, ul233_6, ge233_6⟩ := k29_openF hMe233
                                have hv233_6 := hcc233 6 _ rfl
                                rw [add_field _ _ 6 (by omega)] at hv233_6
                                replace hv233_6 := Option.some.inj (hv233_6.symm.trans hx233_6)
                                injection hv233_6 with hva_ hvn_ hvc_
                                rw [hva_] at ge233_6
                                rw [hvc_] at ul233_6
                                have HL233_6 := Aside0.mk (show Kd.V k29 29 _ w.heap.size _ _ ((rd_T29 t229 x7_3).f3) from Kd.V_mk ul233_6 ge233_6)
                                clear hva_ hvn_ hvc_ ge233_6 ul233_6
                                clear hcc233 hce233
                                have HR233_6 := Aside0.mk hi233_6
                                have HC233_6 := Aside0.mk hl233_6
                                clear hi233_6 hl233_6
                                replace p233 := eq_true p233
                                replace q233 := eq_true q233
                                go_wp2
                                repeat (go_quiet (fail); try go_wp2)
                                go_ret
                                exact ⟨by first | rfl | (simp [errW_none, errW_some] <;> rfl) | (simp [*, errW_none, errW_some] <;> rfl), by repeat (first | (with_reducible first | exact HB.out | apply below_alloc | apply pw_below_drewN | apply below_drew1 | refine below_set ?_ GE211.out) | exact HB.out)⟩
                              · rw [if_neg c45] at H
                                have c45b0 : (((rd_T29 t229 x102_2).f2) == ((rd_T29 t229 x7_3).f2)) = false := beq_eq_false_iff_ne.mpr c45
                                have c45b1 : (((rd_T29 t229 x102_2).f2) != ((rd_T29 t229 x7_3).f2)) = true := bne_iff_ne.mpr c45
                                have H' := Aside0.mk H
                                clear H
                                have p232 : 0 ≤ (x102_2 : Int) := of_decide_eq_true (by first | (with_reducible assumption) | assumption)
                                have q232 : x102_2 < (t229.length : Int) := of_decide_eq_true (by first | (with_reducible assumption) | assumption)
                                obtain ⟨ad232, A232_6, c232_6, e232, hx232_0, hx232_1, hx232_2, hx232_3, hx232_4, hx232_5, hx232_6, hl232_6, hi232_6⟩ := at_T29 (Kd.N_reads' HO_5.out).2.2 x102_2 p232 q232
                                cases e232
                                obtain ⟨ce232, hce232, hMe232, hcc232⟩ := Kd.N_get HO_5.out z29 x102_2 p232 (by first | exact q232 | exact of_decide_eq_true (by first | (with_reducible assumption) | assumption) | (have e_ := (Kd.N_reads' HO_5.out).1; omega))
                                obtain ⟨ua232_6, uc232_6, rfl, ul232_6, ge232_6⟩ := k29_openF hMe232
                                have hv232_6 := hcc232 6 _ rfl
                                rw [add_field _ _ 6 (by omega)] at hv232_6
                                replace hv232_6 := Option.some.inj (hv232_6.symm.trans hx232_6)
                                injection hv232_6 with hva_ hvn_ hvc_
                                rw [hva_] at ge232_6
                                rw [hvc_] at ul232_6
                                have HL232_6 := Aside0.mk (show Kd.V k29 29 _ w.heap.size _ _ ((rd_T29 t229 x102_2).f3) from Kd.V_mk ul232_6 ge232_6)
                                clear hva_ hvn_ hvc_ ge232_6 ul232_6
                                clear hcc232 hce232
                                have HR232_6 := Aside0.mk hi232_6
                                have HC232_6 := Aside0.mk hl232_6
                                clear hi232_6 hl232_6
                                replace p232 := eq_true p232
                                replace q232 := eq_true q232
                                have p233 : 0 ≤ (x7_3 : Int) := of_decide_eq_true (by first | (with_reducible assumption) | assumption)
                                have q233 : x7_3 < (t229.length : Int) := of_decide_eq_true (by first | (with_reducible assumption) | assumption)
                                obtain ⟨ad233, A233_6, c233_6, e233, hx233_0, hx233_1, hx233_2, hx233_3, hx233_4, hx233_5, hx233_6, hl233_6, hi233_6⟩ := at_T29 (Kd.N_reads' HO_5.out).2.2 x7_3 p233 q233
                                obtain rfl : ad232 = ad233 := (by injection e233)
                                obtain ⟨ce233, hce233, hMe233, hcc233⟩ := Kd.N_get HO_5.out z29 x7_3 p233 (by first | exact q233 | exact of_decide_eq_true (by first | (with_reducible assumption) | assumption) | (have e_ := (Kd.N_reads' HO_5.out).1; omega))
                                obtain ⟨ua233_6, uc233_6, rfl, ul233_6, ge233_6⟩ := k29_openF hMe233
                                have hv233_6 := hcc233 6 _ rfl
                                rw [add_field _ _ 6 (by omega)] at hv233_6
                                replace hv233_6 := Option.some.inj (hv233_6.symm.trans hx233_6)
                                injection hv233_6 with hva_ hvn_ hvc_
                                rw [hva_] at ge233_6
                                rw [hvc_] at ul233_6
                                have HL233_6 := Aside0.mk (show Kd.V k29 29 _ w.heap.size _ _ ((rd_T29 t229 x7_3).f3) from Kd.V_mk ul233_6 ge233_6)
                                clear hva_ hvn_ hvc_ ge233_6 ul233_6
                                clear hcc233 hce233
                                have HR233_6 := Aside0.mk hi233_6
                                have HC233_6 := Aside0.mk hl233_6
                                clear hi233_6 hl233_6
                                replace p233 := eq_true p233
                                replace q233 := eq_true q233
                                go_wp2
                                repeat (go_quiet (fail); try go_wp2)
                                go_roundg k3
                                case measure => have := HK1.out; have := HK2.out; have := HK3.out; omega
                                case rel => exact ⟨(wrap64 (x7_3 + 1)), (by first | rfl | (simp; done) | (simp [*]; done)), H', ⟨by have := HK1.out; have := HK2.out; have := HK3.out; omega⟩, ⟨by (with_reducible repeat (first | apply Kd.N_alloc | apply Kd.N_drewN | apply Kd.N_drew)); exact HO_5.out⟩, ⟨by (with_reducible repeat (first | refine blk_drewN ?_ _ | refine blk_drew ?_ | refine blk_alloc ?_ _)); exact BK211.out⟩, ⟨by repeat (first | (with_reducible first | exact HB.out | apply below_alloc | apply pw_below_drewN | apply below_drew1 | refine below_set ?_ GE211.out) | exact HB.out)⟩⟩
                            · rw [if_neg c44] at H
                              exact absurd H (by simp)
                          · rw [if_neg c43] at H
                            exact absurd H (by simp)
                        · rw [if_neg c42] at H
                          exact absurd H (by simp)
                      · rw [if_neg c41] at H
                        exact absurd H (by simp)
                    · rw [if_neg c40] at H
                      have c40b0 : decide (x7_3 < x102_2) = false := decide_eq_false c40
                      clear c40
                      have H' := Aside0.mk H
                      clear H
                      go_wp2
                      repeat (go_quiet (fail); try go_wp2)
                      go_roundg k3
                      case measure => have := HK1.out; have := HK2.out; have := HK3.out; omega
                      case rel => exact ⟨(wrap64 (x102_2 + 1)), (by first | rfl | (simp; done) | (simp [*]; done)), H', ⟨by have := HK1.out; have := HK2.out; have := HK3.out; omega⟩, ⟨by (with_reducible repeat (first | apply Kd.N_alloc | apply Kd.N_drewN | apply Kd.N_drew)); exact HO_5.out⟩, ⟨by (with_reducible repeat (first | refine blk_drewN ?_ _ | refine blk_drew ?_ | refine blk_alloc ?_ _)); exact BK211.out⟩, ⟨by repeat (first | (with_reducible first | exact HB.out | apply below_alloc | apply pw_below_drewN | apply below_drew1 | refine below_set ?_ GE211.out) | exact HB.out)⟩⟩
              · rw [if_neg c39] at H
                have c39b0 : decide (x102_2 < (t229.length : Int)) = false := decide_eq_false c39
                clear c39
                obtain rfl := Option.some.inj H
                go_wp2
                repeat (go_quiet (fail); try go_wp2)
                go_ret
                exact ⟨by first | rfl | (simp [errW_none, errW_some] <;> rfl) | (simp [*, errW_none, errW_some] <;> rfl), by repeat (first | (with_reducible first | exact HB.out | apply below_alloc | apply pw_below_drewN | apply below_drew1 | refine below_set ?_ GE211.out) | exact HB.out)⟩

end Go.Proofs.Ytakhnigalkjhhaa.PTileHits
