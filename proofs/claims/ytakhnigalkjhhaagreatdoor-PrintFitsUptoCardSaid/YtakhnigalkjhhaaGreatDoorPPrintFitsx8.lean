/- Printed texts of this seat, cut to what is used. -/
import Derived.Test.YtakhnigalkjhhaaGreatDoorPPrintFitsx0
import Derived.Test.YtakhnigalkjhhaaGreatDoorPPrintFitsx3
import Derived.Test.YtakhnigalkjhhaaGreatDoorPPrintFitsx4
import Derived.Test.YtakhnigalkjhhaaGreatDoorPPrintFitsx7
namespace Go.Proofs.YtakhnigalkjhhaaGreatDoor.PPrintFits
open Go.RowKit Go.Proofs.YtakhnigalkjhhaaGreatDoorW.PrintWords Go.Proofs.YtakhnigalkjhhaaGreatDoorW.PrintLast Go.Proofs.YtakhnigalkjhhaaGreatDoorW.PrintMore
attribute [local go_sem] max2_int min2_int max_two min_two max_three min_three max_four min_four   -- for this text's walks alone
set_option linter.unusedVariables false
set_option linter.unusedSimpArgs false

def sashref06_Check.l0 : Nat → List (S28) → List (S30) → List (S28) → Int → Int → Option ((List (S28)) × Int × Int)
 | 0, _, _, _, _, _ => none
 | k + 1, x5, x6, x7, x20, x21 => if x21 < x20 then (if 0 ≤ x21 then (if x21 < (x6.length : Int) then ((sashref06_one.f k ((rd_T30 x6 x21).f0) ((rd_T30 x6 x21).f1.f0) ((rd_T30 x6 x21).f1.f1) ((rd_T30 x6 x21).f1.f2) ((rd_T30 x6 x21).f1.f3) ((rd_T30 x6 x21).f2) ((rd_T30 x6 x21).f3)).bind fun bt273 => (if bt273.2 = true then (if x7.length + bt273.1.length < 4398046511104 then (sashref06_Check.l0 k x5 x6 (x7 ++ bt273.1) x20 (wrap64 (x21 + 1))) else (none)) else (some (x5, 5, x21)))) else (none)) else (none)) else (some (x7, 0, 0))
def sashref06_Check.f (k : Nat) (a0_0 : Int) (a0_1 : Int) (a0_2 : Int) (a0_3 : Int) (a0_4 : Int) (a0_5 : Int) (l0_6 : List (S30)) : Option ((List (S28)) × Int × Int) := (some (([] : List (S28)) : List (S28))).bind fun y262 => ((sashref05_May.f k a0_0 a0_1 a0_2 a0_3 a0_4 a0_5 l0_6).bind fun t265 => (if t265 = true then ((sashref05_All.f k a0_0 a0_1 a0_2 a0_3 a0_4 a0_5 l0_6).bind fun t266 => (sashref06_Check.l0 k y262 t266 (([] : List (S28))) (t266.length : Int) 0)) else (some (y262, 1, 0))))
set_option maxHeartbeats 8000000 in
set_option maxRecDepth 100000 in
theorem sashref06_Check.calls (k : Nat) (a0_0 : Int) (a0_1 : Int) (a0_2 : Int) (a0_3 : Int) (a0_4 : Int) (a0_5 : Int) (A0_6 : Option Addr) (c0_6 : Nat) (l0_6 : List (S30)) (r1 : List (S28)) (r2 : Int) (r3 : Int) (w : World) (hr0_6 : Kd.C k30 w A0_6 l0_6.length l0_6) (hc0_6 : l0_6.length ≤ c0_6) (h : sashref06_Check.f k a0_0 a0_1 a0_2 a0_3 a0_4 a0_5 l0_6 = some (r1, r2, r3)) :
  Calls Tryz.prog 20 #[.agg #[.int .u8 a0_0, .int .i64 a0_1, .int .i64 a0_2, .int .i64 a0_3, .int .i64 a0_4, .int .i64 a0_5, .slice A0_6 l0_6.length c0_6]] w fun e w' => ∃ v0_ : Value, e = .returned (.tuple #[v0_, .int .i64 r2, .int .i64 r3]) ∧ Kd.R k28 28 w' w.heap.size (fun _ => True) v0_ r1 ∧ Below w.heap.size w w' := by
 have hu30 := Tryz.underlying30
 have HR0_6 := Aside0.mk hr0_6
 have HC0_6 := Aside0.mk hc0_6
 clear hr0_6 hc0_6
 have HB := Aside0.mk (Below.refl w.heap.size w)
 have H : ((some (([] : List (S28)) : List (S28))).bind fun y262 => ((sashref05_May.f k a0_0 a0_1 a0_2 a0_3 a0_4 a0_5 l0_6).bind fun t265 => (if t265 = true then ((sashref05_All.f k a0_0 a0_1 a0_2 a0_3 a0_4 a0_5 l0_6).bind fun t266 => (sashref06_Check.l0 k y262 t266 (([] : List (S28))) (t266.length : Int) 0)) else (some (y262, 1, 0))))) = some (r1, r2, r3) := h
 clear h
 obtain ⟨y262, hy262⟩ : ∃ y_ : List (S28), y_ = (([] : List (S28))) := ⟨_, rfl⟩
 replace H : ((sashref05_May.f k a0_0 a0_1 a0_2 a0_3 a0_4 a0_5 l0_6).bind fun t265 => (if t265 = true then ((sashref05_All.f k a0_0 a0_1 a0_2 a0_3 a0_4 a0_5 l0_6).bind fun t266 => (sashref06_Check.l0 k y262 t266 (([] : List (S28))) (t266.length : Int) 0)) else (some (y262, 1, 0)))) = some (r1, r2, r3) := by first | (rw [hy262]; with_reducible exact H) | (have H2_ := (Option.bind_some _ _).symm.trans H; rw [hy262]; with_reducible exact H2_) | (have H2_ := (Option.bind_some _ _).symm.trans H; with_reducible exact H2_) | with_reducible exact H | (rw [hy262]; exact H) | exact H
 have Ny262 := Aside0.mk hy262
 clear hy262
 replace H := Option.bind_eq_some_iff.mp H
 obtain ⟨t265, A20, H⟩ := H
 replace H : (if t265 = true then ((sashref05_All.f k a0_0 a0_1 a0_2 a0_3 a0_4 a0_5 l0_6).bind fun t266 => (sashref06_Check.l0 k y262 t266 (([] : List (S28))) (t266.length : Int) 0)) else (some (y262, 1, 0))) = some (r1, r2, r3) := H
 have A2 := Aside0.mk A20
 clear A20
 by_cases c3 : t265 = true
 ·subst c3
  have H1 : ((sashref05_All.f k a0_0 a0_1 a0_2 a0_3 a0_4 a0_5 l0_6).bind fun t266 => (sashref06_Check.l0 k y262 t266 (([] : List (S28))) (t266.length : Int) 0)) = some (r1, r2, r3) := by rw [if_pos rfl] at H; exact H
  clear H
  have H := H1
  clear H1
  replace H := Option.bind_eq_some_iff.mp H
  obtain ⟨t266, A40, H⟩ := H
  replace H : (sashref06_Check.l0 k y262 t266 (([] : List (S28))) (t266.length : Int) 0) = some (r1, r2, r3) := H
  have A4 := Aside0.mk A40
  clear A40
  obtain ⟨y269, hy269⟩ : ∃ y_ : List (S28), y_ = (([] : List (S28))) := ⟨_, rfl⟩
  replace H : (sashref06_Check.l0 k y262 t266 y269 (t266.length : Int) 0) = some (r1, r2, r3) := by first | (rw [hy269]; with_reducible exact H) | (have H2_ := (Option.bind_some _ _).symm.trans H; rw [hy269]; with_reducible exact H2_) | (have H2_ := (Option.bind_some _ _).symm.trans H; with_reducible exact H2_) | with_reducible exact H | (rw [hy269]; exact H) | exact H
  have Ny269 := Aside0.mk hy269
  clear hy269
  have H' := Aside0.mk H
  clear H
  go_enter Tryz.func20, Tryz.ntmps20
  go_wp2_with (first | ((with_reducible refine gate_dst (N := 1) rfl ?_); refine box_event ?hg (N := 1) ?hd (cs := #[.int .u8 a0_0, .int .i64 a0_1, .int .i64 a0_2, .int .i64 a0_3, .int .i64 a0_4, .int .i64 a0_5, .slice A0_6 l0_6.length c0_6]) (t := 30) ?hr ?_; (case hd => rfl); (case hg => rfl); (case hr => first | (go_simp; done) | (go_simp; rfl)); intro gb261 hg w5 hbox hb; have n0_ := Aside0.mk (below_step (by repeat (first | (with_reducible first | exact HB.out | apply below_alloc | apply pw_below_drewN | apply below_drew1) | exact HB.out)) hb); have n1_ := Aside0.mk (hbox); have n2_ := Aside0.mk ((by rw [hg]; exact (below_size (by repeat (first | (with_reducible first | exact HB.out | apply below_alloc | apply pw_below_drewN | apply below_drew1) | exact HB.out))) : w.heap.size ≤ gb261)); have n3_ := Aside0.mk ((by rw [hg]; exact (below_size (by repeat (first | (with_reducible first | exact HB.out | apply below_alloc | apply pw_below_drewN | apply below_drew1) | exact HB.out))) : w.heap.size ≤ gb261)); clear HB; have HB := n0_; have BK261 := n1_; have GW261 := n2_; have GE261 := n3_; clear n0_ n1_ n2_ n3_; clear hb hbox hg) | ((with_reducible refine gate_dst (N := 11) rfl ?_); refine Kd.R_lit k28 _ 28 ?hg (N := 11) ?hd (xs := ([] : List (S28))) (inner := []) (ok := fun _ => True) (okp := fun _ => True) ?hr ?hp (fun _ hk => hk) trivial (Below.refl _ _) (Nat.le_refl _) (by simp) ?_; (case hd => rfl); (case hg => rfl); (case hr => first | (go_simp; done) | (go_simp; rfl)); (case hp => exact (Reps.none _ _)); intro v263 w6 ho7 hb hg_ hnew_; clear hg_ hnew_; (first | rw [← Ny262.out] at ho7 | (simp only [Int.reduceToNat] at ho7; rw [← Ny262.out] at ho7)); have n0_ := Aside0.mk (Kd.R_lower ho7 (below_size (by repeat (first | (with_reducible first | exact HB.out | apply below_alloc | apply pw_below_drewN | apply below_drew1 | refine below_set ?_ GE261.out) | exact HB.out)))); have n1_ := Aside0.mk (blk_below (g := gb261) (o := .cells #[.int .u8 a0_0, .int .i64 a0_1, .int .i64 a0_2, .int .i64 a0_3, .int .i64 a0_4, .int .i64 a0_5, .slice A0_6 l0_6.length c0_6] 30 (0, 0)) (by (with_reducible repeat (first | refine blk_drewN ?_ _ | refine blk_drew ?_ | refine blk_alloc ?_ _)); exact BK261.out) hb); have n2_ := Aside0.mk (below_step (by repeat (first | (with_reducible first | exact HB.out | apply below_alloc | apply pw_below_drewN | apply below_drew1 | refine below_set ?_ GE261.out) | exact HB.out)) hb); clear BK261; clear HB; have HO264 := n0_; have BK261 := n1_; have HB := n2_; clear n0_ n1_ n2_; clear hb ho7; have hcz8_0 : w6.cell? ⟨gb261, 0, none⟩ = some (.int .u8 a0_0) := (blk_cell BK261.out 0).trans rfl; have hcz8_1 : w6.cell? ⟨gb261, 1, none⟩ = some (.int .i64 a0_1) := (blk_cell BK261.out 1).trans rfl; have hcz8_2 : w6.cell? ⟨gb261, 2, none⟩ = some (.int .i64 a0_2) := (blk_cell BK261.out 2).trans rfl; have hcz8_3 : w6.cell? ⟨gb261, 3, none⟩ = some (.int .i64 a0_3) := (blk_cell BK261.out 3).trans rfl; have hcz8_4 : w6.cell? ⟨gb261, 4, none⟩ = some (.int .i64 a0_4) := (blk_cell BK261.out 4).trans rfl; have hcz8_5 : w6.cell? ⟨gb261, 5, none⟩ = some (.int .i64 a0_5) := (blk_cell BK261.out 5).trans rfl; have hcz8_6 : w6.cell? ⟨gb261, 6, none⟩ = some (.slice A0_6 l0_6.length c0_6) := (blk_cell BK261.out 6).trans rfl; have hfz8_0 := blk_frozen BK261.out 0; have hfz8_1 := blk_frozen BK261.out 1; have hfz8_2 := blk_frozen BK261.out 2; have hfz8_3 := blk_frozen BK261.out 3; have hfz8_4 := blk_frozen BK261.out 4; have hfz8_5 := blk_frozen BK261.out 5; have hfz8_6 := blk_frozen BK261.out 6) | ((with_reducible refine gate_callee (f := 31) rfl ?_); refine goesL_ (some 13) rfl rfl Tryz.func31 (by kernel_rfl) rfl #[.agg #[.int .u8 a0_0, .int .i64 a0_1, .int .i64 a0_2, .int .i64 a0_3, .int .i64 a0_4, .int .i64 a0_5, .slice A0_6 l0_6.length c0_6]] rfl (by (try simp only [List.map_toArray, List.map_cons, List.map_nil]); first | done | rfl | (simp only [List.length_drop, List.length_take]; rfl)) ?_; (with_reducible refine (sashref05_May.calls k a0_0 a0_1 a0_2 a0_3 a0_4 a0_5 _ _ l0_6 true _ ?side1 ?side2 A2.out).mono ?_); (case side1 => repeat (first | exact (Kd.C_below HR0_6.out HB.out) | (with_reducible refine Kd.C_alloc ?_ _) | (with_reducible refine Kd.C_drewN ?_ _) | (with_reducible refine Kd.C_drew ?_))); (case side2 => exact HC0_6.out); rintro e w9 ⟨rfl, hb⟩; refine ⟨_, rfl, ?_⟩; have n0_ := Aside0.mk (Kd.R_below (by (with_reducible repeat (first | apply Kd.R_alloc | apply Kd.R_drewN | apply Kd.R_drew)); exact HO264.out) hb); have n1_ := Aside0.mk (blk_below (g := gb261) (o := .cells #[.int .u8 a0_0, .int .i64 a0_1, .int .i64 a0_2, .int .i64 a0_3, .int .i64 a0_4, .int .i64 a0_5, .slice A0_6 l0_6.length c0_6] 30 (0, 0)) (by (with_reducible repeat (first | refine blk_drewN ?_ _ | refine blk_drew ?_ | refine blk_alloc ?_ _)); exact BK261.out) hb); have n2_ := Aside0.mk (below_step (by repeat (first | (with_reducible first | exact HB.out | apply below_alloc | apply pw_below_drewN | apply below_drew1 | refine below_set ?_ GE261.out) | exact HB.out)) hb); clear HO264; clear BK261; clear HB; have HO264 := n0_; have BK261 := n1_; have HB := n2_; clear n0_ n1_ n2_; (try clear hb); (try clear hb2); (try clear hk); (try clear hi); have hcz10_0 : w9.cell? ⟨gb261, 0, none⟩ = some (.int .u8 a0_0) := (blk_cell BK261.out 0).trans rfl; have hcz10_1 : w9.cell? ⟨gb261, 1, none⟩ = some (.int .i64 a0_1) := (blk_cell BK261.out 1).trans rfl; have hcz10_2 : w9.cell? ⟨gb261, 2, none⟩ = some (.int .i64 a0_2) := (blk_cell BK261.out 2).trans rfl; have hcz10_3 : w9.cell? ⟨gb261, 3, none⟩ = some (.int .i64 a0_3) := (blk_cell BK261.out 3).trans rfl; have hcz10_4 : w9.cell? ⟨gb261, 4, none⟩ = some (.int .i64 a0_4) := (blk_cell BK261.out 4).trans rfl; have hcz10_5 : w9.cell? ⟨gb261, 5, none⟩ = some (.int .i64 a0_5) := (blk_cell BK261.out 5).trans rfl; have hcz10_6 : w9.cell? ⟨gb261, 6, none⟩ = some (.slice A0_6 l0_6.length c0_6) := (blk_cell BK261.out 6).trans rfl; have hfz10_0 := blk_frozen BK261.out 0; have hfz10_1 := blk_frozen BK261.out 1; have hfz10_2 := blk_frozen BK261.out 2; have hfz10_3 := blk_frozen BK261.out 3; have hfz10_4 := blk_frozen BK261.out 4; have hfz10_5 := blk_frozen BK261.out 5; have hfz10_6 := blk_frozen BK261.out 6) | ((with_reducible refine gate_callee (f := 32) rfl ?_); refine goesL_ (some 17) rfl rfl Tryz.func32 (by kernel_rfl) rfl #[.agg #[.int .u8 a0_0, .int .i64 a0_1, .int .i64 a0_2, .int .i64 a0_3, .int .i64 a0_4, .int .i64 a0_5, .slice A0_6 l0_6.length c0_6]] rfl (by (try simp only [List.map_toArray, List.map_cons, List.map_nil]); first | done | rfl | (simp only [List.length_drop, List.length_take]; rfl)) ?_; (with_reducible refine (sashref05_All.calls k a0_0 a0_1 a0_2 a0_3 a0_4 a0_5 (fun k_ => k_ < w.heap.size) _ _ l0_6 t266 _ ?side1 A4.out).mono ?_); (case side1 => exact Kd.V_mk HC0_6.out (Kd.F_below (Kd.C_F k30_heap HR0_6.out) (by repeat (first | (with_reducible first | exact HB.out | apply below_alloc | apply pw_below_drewN | apply below_drew1 | refine below_set ?_ GE261.out) | exact HB.out)))); rintro e w11 ⟨v267, rfl, ho0, hb⟩; refine ⟨_, rfl, ?_⟩; have n0_ := Aside0.mk (Kd.R_below (by (with_reducible repeat (first | apply Kd.R_alloc | apply Kd.R_drewN | apply Kd.R_drew)); exact HO264.out) hb); have n1_ := Aside0.mk (Kd.N_lower (Kd.N_mono (ok' := fun k_ => some k_ ≠ (v263 : Value).ownBlock ∧ k_ ≠ gb261) ho0 (fun k_ hk_ => ⟨Or.elim hk_ (fun hs_ => fun e_ => Nat.not_le.2 hs_ (Kd.R_base HO264.out k_ e_.symm)) (fun hn_ => (Kd.fresh' (Kd.R_lt (by (with_reducible repeat (first | apply Kd.R_alloc | apply Kd.R_drewN | apply Kd.R_drew)); exact HO264.out)) k_ hn_)), Or.elim hk_ (fun hs_ => fun e_ => Nat.not_le.2 hs_ (by rw [e_]; exact GW261.out)) (fun hn_ => (Kd.freshB (g := gb261) (o := .cells #[.int .u8 a0_0, .int .i64 a0_1, .int .i64 a0_2, .int .i64 a0_3, .int .i64 a0_4, .int .i64 a0_5, .slice A0_6 l0_6.length c0_6] 30 (0, 0)) (by (with_reducible repeat (first | refine blk_drewN ?_ _ | refine blk_drew ?_ | refine blk_alloc ?_ _)); exact BK261.out) k_ hn_))⟩)) (below_size (by repeat (first | (with_reducible first | exact HB.out | apply below_alloc | apply pw_below_drewN | apply below_drew1 | refine below_set ?_ GE261.out) | exact HB.out)))); have n2_ := Aside0.mk (blk_below (g := gb261) (o := .cells #[.int .u8 a0_0, .int .i64 a0_1, .int .i64 a0_2, .int .i64 a0_3, .int .i64 a0_4, .int .i64 a0_5, .slice A0_6 l0_6.length c0_6] 30 (0, 0)) (by (with_reducible repeat (first | refine blk_drewN ?_ _ | refine blk_drew ?_ | refine blk_alloc ?_ _)); exact BK261.out) hb); have n3_ := Aside0.mk (below_step (by repeat (first | (with_reducible first | exact HB.out | apply below_alloc | apply pw_below_drewN | apply below_drew1 | refine below_set ?_ GE261.out) | exact HB.out)) hb); clear HO264; clear BK261; clear HB; have HO264 := n0_; have HO268 := n1_; have BK261 := n2_; have HB := n3_; clear n0_ n1_ n2_ n3_; (try clear hb); (try clear hb2); (try clear hk); (try clear hi); (try clear ho0)) | ((with_reducible refine gate_dst (N := 18) rfl ?_); refine Kd.R_lit k28 _ 28 ?hg (N := 18) ?hd (xs := ([] : List (S28))) (inner := []) (ok := fun _ => True) (okp := fun _ => True) ?hr ?hp (fun _ hk => hk) trivial (Below.refl _ _) (Nat.le_refl _) (by simp) ?_; (case hd => rfl); (case hg => rfl); (case hr => first | (go_simp; done) | (go_simp; rfl)); (case hp => exact (Reps.none _ _)); intro v270 w12 ho13 hb hg_ hnew_; clear hg_ hnew_; (first | rw [← Ny269.out] at ho13 | (simp only [Int.reduceToNat] at ho13; rw [← Ny269.out] at ho13)); have n0_ := Aside0.mk (Kd.R_elder' (by (with_reducible repeat (first | apply Kd.R_alloc | apply Kd.R_drewN | apply Kd.R_drew)); exact HO264.out) (Kd.R_base ho13) hb); have n1_ := Aside0.mk (Kd.N_elder' (by (with_reducible repeat (first | apply Kd.N_alloc | apply Kd.N_drewN | apply Kd.N_drew)); exact HO268.out) (Kd.R_base ho13) hb); have n2_ := Aside0.mk (Kd.R_lower (Kd.R_new' ho13 (Kd.R_lt (by (with_reducible repeat (first | apply Kd.R_alloc | apply Kd.R_drewN | apply Kd.R_drew)); exact HO264.out))) (below_size (by repeat (first | (with_reducible first | exact HB.out | apply below_alloc | apply pw_below_drewN | apply below_drew1 | refine below_set ?_ GE261.out) | exact HB.out)))); have n3_ := Aside0.mk (blk_below (g := gb261) (o := .cells #[.int .u8 a0_0, .int .i64 a0_1, .int .i64 a0_2, .int .i64 a0_3, .int .i64 a0_4, .int .i64 a0_5, .slice A0_6 l0_6.length c0_6] 30 (0, 0)) (by (with_reducible repeat (first | refine blk_drewN ?_ _ | refine blk_drew ?_ | refine blk_alloc ?_ _)); exact BK261.out) hb); have n4_ := Aside0.mk (below_step (by repeat (first | (with_reducible first | exact HB.out | apply below_alloc | apply pw_below_drewN | apply below_drew1 | refine below_set ?_ GE261.out) | exact HB.out)) hb); clear HO264; clear HO268; clear BK261; clear HB; have HO264 := n0_; have HO268 := n1_; have HO271 := n2_; have BK261 := n3_; have HB := n4_; clear n0_ n1_ n2_ n3_ n4_; clear hb ho13; obtain ⟨Ao14, co14, eo14⟩ := Kd.N_slice HO268.out; subst eo14))
  go_loopg [7, 21] k (fun kq v7 v21 w' => ∃ (x7_1 : List (S28)) (x21_1 : Int), v21 = .int .i64 x21_1 ∧ Aside0 (sashref06_Check.l0 kq y262 t266 x7_1 (t266.length : Int) x21_1 = some (r1, r2, r3)) ∧ Aside0 (kq ≤ k) ∧ Aside0 (Kd.R k28 28 w' w.heap.size (fun k_ => some k_ ≠ (v7 : Value).ownBlock) v263 y262) ∧ Aside0 (Kd.N k30 30 w' w.heap.size (fun k_ => some k_ ≠ (v263 : Value).ownBlock ∧ some k_ ≠ (v7 : Value).ownBlock ∧ k_ ≠ gb261) (.slice Ao14 t266.length co14) t266) ∧ Aside0 (Kd.R k28 28 w' w.heap.size (fun k_ => some k_ ≠ (v263 : Value).ownBlock) v7 x7_1) ∧ Aside0 (w'.heap[gb261]? = some (.cells #[.int .u8 a0_0, .int .i64 a0_1, .int .i64 a0_2, .int .i64 a0_3, .int .i64 a0_4, .int .i64 a0_5, (.slice A0_6 l0_6.length c0_6)] 30 (0, 0))) ∧ Aside0 (Below w.heap.size w w'))
  case atStart => exact ⟨(y269), (0), (by first | rfl | (simp; done) | (simp [*]; done)), H', ⟨Nat.le_refl _⟩, ⟨by (with_reducible repeat (first | apply Kd.R_alloc | apply Kd.R_drewN | apply Kd.R_drew)); exact Kd.R_mono HO264.out (fun _ hk => hk.2)⟩, ⟨by (with_reducible repeat (first | apply Kd.N_alloc | apply Kd.N_drewN | apply Kd.N_drew)); exact Kd.N_mono HO268.out (fun _ hk => ⟨hk.1.1, ⟨hk.2, hk.1.2⟩⟩)⟩, ⟨by (with_reducible repeat (first | apply Kd.R_alloc | apply Kd.R_drewN | apply Kd.R_drew)); exact Kd.R_mono HO271.out (fun _ hk => hk.2)⟩, ⟨by (with_reducible repeat (first | refine blk_drewN ?_ _ | refine blk_drew ?_ | refine blk_alloc ?_ _)); exact BK261.out⟩, ⟨by repeat (first | (with_reducible first | exact HB.out | apply below_alloc | apply pw_below_drewN | apply below_drew1 | refine below_set ?_ GE261.out) | exact HB.out)⟩⟩
  case round =>
   clear H'
   try clear c2
   try clear p2
   try clear c3
   try clear hcz10_0
   try clear hcz10_1
   try clear hcz10_2
   try clear hcz10_3
   try clear hcz10_4
   try clear hcz10_5
   try clear hcz10_6
   try clear hcz8_0
   try clear hcz8_1
   try clear hcz8_2
   try clear hcz8_3
   try clear hcz8_4
   try clear hcz8_5
   try clear hcz8_6
   try clear hfz10_0
   try clear hfz10_1
   try clear hfz10_2
   try clear hfz10_3
   try clear hfz10_4
   try clear hfz10_5
   try clear hfz10_6
   try clear hfz8_0
   try clear hfz8_1
   try clear hfz8_2
   try clear hfz8_3
   try clear hfz8_4
   try clear hfz8_5
   try clear hfz8_6
   obtain ⟨x7_1, x21_1, rfl, HA, HK1, HO_5, HO_6, HO_7, BK261, HB⟩ := hrel
   cases gk with
   | zero => exact absurd HA.out (by simp [sashref06_Check.l0])
   | succ k1 =>
    have H := HA.out
    clear HA
    simp only [sashref06_Check.l0] at H
    by_cases c15 : x21_1 < (t266.length : Int)
    ·rw [if_pos c15] at H
     have c15b0 : decide (x21_1 < (t266.length : Int)) = true := decide_eq_true c15
     clear c15
     by_cases c16 : 0 ≤ x21_1
     ·rw [if_pos c16] at H
      have c16b0 : decide (0 ≤ x21_1) = true := decide_eq_true c16
      clear c16
      by_cases c17 : x21_1 < (t266.length : Int)
      ·rw [if_pos c17] at H
       have c17b0 : decide (x21_1 < (t266.length : Int)) = true := decide_eq_true c17
       clear c17
       replace H := Option.bind_eq_some_iff.mp H
       obtain ⟨⟨t273, t276⟩, A180, H⟩ := H
       replace H : (if t276 = true then (if x7_1.length + t273.length < 4398046511104 then (sashref06_Check.l0 k1 y262 t266 (x7_1 ++ t273) (t266.length : Int) (wrap64 (x21_1 + 1))) else (none)) else (some (y262, 5, x21_1))) = some (r1, r2, r3) := H
       have A18 := Aside0.mk A180
       clear A180
       by_cases c19 : t276 = true
       ·subst c19
        have H1 : (if x7_1.length + t273.length < 4398046511104 then (sashref06_Check.l0 k1 y262 t266 (x7_1 ++ t273) (t266.length : Int) (wrap64 (x21_1 + 1))) else (none)) = some (r1, r2, r3) := by rw [if_pos rfl] at H; exact H
        clear H
        have H := H1
        clear H1
        by_cases c20 : x7_1.length + t273.length < 4398046511104
        ·rw [if_pos c20] at H
         have LMc20 := Aside0.mk c20
         clear c20
         obtain ⟨y277, hy277⟩ : ∃ y_ : List (S28), y_ = (x7_1 ++ t273) := ⟨_, rfl⟩
         replace H : (sashref06_Check.l0 k1 y262 t266 y277 (t266.length : Int) (wrap64 (x21_1 + 1))) = some (r1, r2, r3) := by first | (rw [hy277]; with_reducible exact H) | (have H2_ := (Option.bind_some _ _).symm.trans H; rw [hy277]; with_reducible exact H2_) | (have H2_ := (Option.bind_some _ _).symm.trans H; with_reducible exact H2_) | with_reducible exact H | (rw [hy277]; exact H) | exact H
         have Ny277 := Aside0.mk hy277
         clear hy277
         have H' := Aside0.mk H
         clear H
         have p272 : 0 ≤ (x21_1 : Int) := of_decide_eq_true (by first | (with_reducible assumption) | assumption)
         have q272 : x21_1 < (t266.length : Int) := of_decide_eq_true (by first | (with_reducible assumption) | assumption)
         obtain ⟨ad272, A272_6, c272_6, e272, hx272_0, hx272_1, hx272_2, hx272_3, hx272_4, hx272_5, hx272_6, hl272_6, hi272_6⟩ := at_T30 (Kd.N_reads' HO_6.out).2.2 x21_1 p272 q272
         cases e272
         obtain ⟨ce272, hce272, hMe272, hcc272⟩ := Kd.N_get HO_6.out z30 x21_1 p272 (by first | exact q272 | exact of_decide_eq_true (by first | (with_reducible assumption) | assumption) | (have e_ := (Kd.N_reads' HO_6.out).1; omega))
         obtain ⟨ua272_6, uc272_6, rfl, ul272_6, ge272_6⟩ := k30_openF hMe272
         have hv272_6 := hcc272 6 _ rfl
         rw [add_field _ _ 6 (by omega)] at hv272_6
         replace hv272_6 := Option.some.inj (hv272_6.symm.trans hx272_6)
         injection hv272_6 with hva_ hvn_ hvc_
         rw [hva_] at ge272_6
         rw [hvc_] at ul272_6
         have HL272_6 := Aside0.mk (show Kd.V k30 30 _ w.heap.size _ _ ((rd_T30 t266 x21_1).f3) from Kd.V_mk ul272_6 ge272_6)
         clear hva_ hvn_ hvc_ ge272_6 ul272_6
         clear hcc272 hce272
         have HR272_6 := Aside0.mk hi272_6
         have HC272_6 := Aside0.mk hl272_6
         clear hi272_6 hl272_6
         replace p272 := eq_true p272
         replace q272 := eq_true q272
         go_wp2_with (first | ((with_reducible refine gate_callee (f := 33) rfl ?_); refine goesL_ (some 29) rfl rfl Tryz.func33 (by kernel_rfl) rfl #[.agg #[.int .u8 ((rd_T30 t266 x21_1).f0), .int .i64 ((rd_T30 t266 x21_1).f1.f0), .int .i64 ((rd_T30 t266 x21_1).f1.f1), .int .i64 ((rd_T30 t266 x21_1).f1.f2), .int .i64 ((rd_T30 t266 x21_1).f1.f3), .int .i64 ((rd_T30 t266 x21_1).f2), .slice A272_6 ((rd_T30 t266 x21_1).f3).length c272_6]] rfl (by (try simp only [List.map_toArray, List.map_cons, List.map_nil]); first | done | rfl | (simp only [List.length_drop, List.length_take]; rfl)) ?_; (with_reducible refine (sashref06_one.calls k1 ((rd_T30 t266 x21_1).f0) ((rd_T30 t266 x21_1).f1.f0) ((rd_T30 t266 x21_1).f1.f1) ((rd_T30 t266 x21_1).f1.f2) ((rd_T30 t266 x21_1).f1.f3) ((rd_T30 t266 x21_1).f2) _ _ ((rd_T30 t266 x21_1).f3) t273 true _ ?side1 ?side2 A18.out).mono ?_); (case side1 => repeat (first | exact (by repeat (first | (with_reducible exact HR272_6.out) | (with_reducible refine Kd.C_alloc ?_ _) | (with_reducible refine Kd.C_drewN ?_ _) | (with_reducible refine Kd.C_drew ?_) | exact HR272_6.out)) | (with_reducible refine Kd.C_alloc ?_ _) | (with_reducible refine Kd.C_drewN ?_ _) | (with_reducible refine Kd.C_drew ?_))); (case side2 => exact HC272_6.out); rintro e w21 ⟨v274, rfl, ho0, hb⟩; refine ⟨_, rfl, ?_⟩; have n0_ := Aside0.mk (Kd.R_below (by (with_reducible repeat (first | apply Kd.R_alloc | apply Kd.R_drewN | apply Kd.R_drew)); exact HO_5.out) hb); have n1_ := Aside0.mk (Kd.N_below (by (with_reducible repeat (first | apply Kd.N_alloc | apply Kd.N_drewN | apply Kd.N_drew)); exact HO_6.out) hb); have n2_ := Aside0.mk (Kd.R_below (by (with_reducible repeat (first | apply Kd.R_alloc | apply Kd.R_drewN | apply Kd.R_drew)); exact HO_7.out) hb); have n3_ := Aside0.mk (Kd.V_below (by (with_reducible repeat (first | apply Kd.V_alloc | apply Kd.V_drewN | apply Kd.V_drew)); exact HL272_6.out) hb); have n4_ := Aside0.mk (Kd.V_lower (Kd.V_mono (ok' := fun k_ => some k_ ≠ (v263 : Value).ownBlock ∧ some k_ ≠ (.slice (some ad272) t266.length co14 : Value).ownBlock ∧ some k_ ≠ (u7 : Value).ownBlock ∧ k_ ≠ gb261) ho0 (fun k_ hk_ => ⟨(Kd.fresh' (Kd.R_lt (by (with_reducible repeat (first | apply Kd.R_alloc | apply Kd.R_drewN | apply Kd.R_drew)); exact HO_5.out)) k_ hk_), (Kd.fresh' (Kd.N_lt (by (with_reducible repeat (first | apply Kd.N_alloc | apply Kd.N_drewN | apply Kd.N_drew)); exact HO_6.out)) k_ hk_), (Kd.fresh' (Kd.R_lt (by (with_reducible repeat (first | apply Kd.R_alloc | apply Kd.R_drewN | apply Kd.R_drew)); exact HO_7.out)) k_ hk_), (Kd.freshB (g := gb261) (o := .cells #[.int .u8 a0_0, .int .i64 a0_1, .int .i64 a0_2, .int .i64 a0_3, .int .i64 a0_4, .int .i64 a0_5, .slice A0_6 l0_6.length c0_6] 30 (0, 0)) (by (with_reducible repeat (first | refine blk_drewN ?_ _ | refine blk_drew ?_ | refine blk_alloc ?_ _)); exact BK261.out) k_ hk_)⟩)) (below_size (by repeat (first | (with_reducible first | exact HB.out | apply below_alloc | apply pw_below_drewN | apply below_drew1 | refine below_set ?_ GE261.out) | exact HB.out)))); have n5_ := Aside0.mk (blk_below (g := gb261) (o := .cells #[.int .u8 a0_0, .int .i64 a0_1, .int .i64 a0_2, .int .i64 a0_3, .int .i64 a0_4, .int .i64 a0_5, .slice A0_6 l0_6.length c0_6] 30 (0, 0)) (by (with_reducible repeat (first | refine blk_drewN ?_ _ | refine blk_drew ?_ | refine blk_alloc ?_ _)); exact BK261.out) hb); have n6_ := Aside0.mk (Kd.C_below (by repeat (first | (with_reducible exact HR272_6.out) | (with_reducible refine Kd.C_alloc ?_ _) | (with_reducible refine Kd.C_drewN ?_ _) | (with_reducible refine Kd.C_drew ?_) | exact HR272_6.out)) hb); have n7_ := Aside0.mk (below_step (by repeat (first | (with_reducible first | exact HB.out | apply below_alloc | apply pw_below_drewN | apply below_drew1 | refine below_set ?_ GE261.out) | exact HB.out)) hb); clear HO_5; clear HO_6; clear HO_7; clear HL272_6; clear BK261; clear HR272_6; clear HB; have HO_5 := n0_; have HO_6 := n1_; have HO_7 := n2_; have HL272_6 := n3_; have HO275 := n4_; have BK261 := n5_; have HR272_6 := n6_; have HB := n7_; clear n0_ n1_ n2_ n3_ n4_ n5_ n6_ n7_; (try clear hb); (try clear hb2); (try clear hk); (try clear hi); (try clear ho0); obtain ⟨Ao23, co23, eo23⟩ := Kd.V_slice HO275.out; subst eo23) | ((with_reducible refine gate_builtin (b := .append) (xs := #[.tmp 36, .tmp 37]) rfl ?_); at_builtin; refine Kd.R_append_rows k28 (w0 := w) w.heap.size rfl (.tmp 36) (.tmp 37) 41 28 (.agg #[(.int .i64 0), (.int .i64 0), (.int .i64 0), (.int .i64 0)]) 32 rfl Tryz.underlying41 info28 rfl (by decide) (by omega) u7 x7_1 t273 _ _ _ (fun k_ => some k_ ≠ (v263 : Value).ownBlock) (fun _ => False) rfl rfl ?aO ?aR (fun _ _ h => h) (fun _ h => h.elim) ?aF ?aB ?aS ?aL ?_; (case aR => repeat (first | exact (Kd.V_reads' HO275.out).2.2 | (with_reducible refine Kd.C_alloc ?_ _) | (with_reducible refine Kd.C_drewN ?_ _) | (with_reducible refine Kd.C_drew ?_))); (case aB => exact (by repeat (first | (with_reducible first | exact HB.out | apply below_alloc | apply pw_below_drewN | apply below_drew1 | refine below_set ?_ GE261.out) | exact HB.out))); (case aF => exact (fun k_ hk => Kd.fresh' (Kd.R_lt (by (with_reducible repeat (first | apply Kd.R_alloc | apply Kd.R_drewN | apply Kd.R_drew)); exact HO_5.out)) k_ hk)); (case aO => exact (by (with_reducible repeat (first | apply Kd.R_alloc | apply Kd.R_drewN | apply Kd.R_drew)); exact HO_7.out)); (case aS => exact (below_size (by repeat (first | (with_reducible first | exact HB.out | apply below_alloc | apply pw_below_drewN | apply below_drew1 | refine below_set ?_ GE261.out) | exact HB.out)))); (case aL => have := LMc20.out; omega); intro v278 w22 ho hb hg hat; rw [← Ny277.out] at ho; have n0_ := Aside0.mk (Kd.R_after (ok := (fun _ => True)) (by (with_reducible repeat (first | apply Kd.R_alloc | apply Kd.R_drewN | apply Kd.R_drew)); exact Kd.R_mono HO_5.out (fun _ hk => ⟨trivial, hk⟩)) hg hat); have n1_ := Aside0.mk (Kd.N_afterv (ok := (fun k_ => some k_ ≠ (v263 : Value).ownBlock ∧ k_ ≠ gb261)) (by (with_reducible repeat (first | apply Kd.N_alloc | apply Kd.N_drewN | apply Kd.N_drew)); exact Kd.N_mono HO_6.out (fun _ hk => ⟨⟨hk.1, hk.2.2⟩, hk.2.1⟩)) hg hat); have n2_ := Aside0.mk (blk_grown (g := gb261) (o := .cells #[.int .u8 a0_0, .int .i64 a0_1, .int .i64 a0_2, .int .i64 a0_3, .int .i64 a0_4, .int .i64 a0_5, .slice A0_6 l0_6.length c0_6] 30 (0, 0)) (by (with_reducible repeat (first | refine blk_drewN ?_ _ | refine blk_drew ?_ | refine blk_alloc ?_ _)); exact BK261.out) hg (Kd.R_ne HO_7.out BK261.out (by decide))); have n3_ := Aside0.mk (Kd.V_afterv (ok := (fun k_ => some k_ ≠ (v263 : Value).ownBlock ∧ some k_ ≠ (.slice (some ad272) t266.length co14 : Value).ownBlock ∧ k_ ≠ gb261)) (by (with_reducible repeat (first | apply Kd.V_alloc | apply Kd.V_drewN | apply Kd.V_drew)); exact Kd.V_mono HL272_6.out (fun _ hk => ⟨⟨hk.1.1, ⟨hk.2, hk.1.2.2⟩⟩, hk.1.2.1⟩)) hg hat); have n4_ := Aside0.mk (Kd.V_afterv (ok := (fun k_ => some k_ ≠ (v263 : Value).ownBlock ∧ some k_ ≠ (.slice (some ad272) t266.length co14 : Value).ownBlock ∧ k_ ≠ gb261)) (by (with_reducible repeat (first | apply Kd.V_alloc | apply Kd.V_drewN | apply Kd.V_drew)); exact Kd.V_mono HO275.out (fun _ hk => ⟨⟨hk.1, ⟨hk.2.1, hk.2.2.2⟩⟩, hk.2.2.1⟩)) hg hat); have n5_ := Aside0.mk (hb); have n6_ := Aside0.mk (ho); clear HO_5; clear HO_6; clear BK261; clear HL272_6; clear HO275; clear HB; clear HO_7; have HO_5 := n0_; have HO_6 := n1_; have BK261 := n2_; have HL272_6 := n3_; have HO275 := n4_; have HB := n5_; have HO279 := n6_; clear n0_ n1_ n2_ n3_ n4_ n5_ n6_; clear ho hb hg hat))
         go_roundg k1
         case measure => have := HK1.out; omega
         case rel => exact ⟨(y277), (wrap64 (x21_1 + 1)), (by first | rfl | (simp; done) | (simp [*]; done)), H', ⟨by have := HK1.out; omega⟩, ⟨by (with_reducible repeat (first | apply Kd.R_alloc | apply Kd.R_drewN | apply Kd.R_drew)); exact Kd.R_mono HO_5.out (fun _ hk => hk.2)⟩, ⟨by (with_reducible repeat (first | apply Kd.N_alloc | apply Kd.N_drewN | apply Kd.N_drew)); exact Kd.N_mono HO_6.out (fun _ hk => ⟨hk.1.1, ⟨hk.2, hk.1.2⟩⟩)⟩, ⟨by (with_reducible repeat (first | apply Kd.R_alloc | apply Kd.R_drewN | apply Kd.R_drew)); exact HO279.out⟩, ⟨by (with_reducible repeat (first | refine blk_drewN ?_ _ | refine blk_drew ?_ | refine blk_alloc ?_ _)); exact BK261.out⟩, ⟨by repeat (first | (with_reducible first | exact HB.out | apply below_alloc | apply pw_below_drewN | apply below_drew1 | refine below_set ?_ GE261.out) | exact HB.out)⟩⟩
        ·rw [if_neg c20] at H
         exact absurd H (by simp)
       ·replace c19 := Bool.eq_false_iff.mpr c19
        subst c19
        have H1 : (some (y262, 5, x21_1)) = some (r1, r2, r3) := by rw [if_neg (show ¬ (false = true) by decide)] at H; exact H
        clear H
        have H := H1
        clear H1
        simp only [Option.some.injEq, Prod.mk.injEq] at H
        obtain ⟨rfl, rfl, rfl⟩ := H
        have p272 : 0 ≤ (x21_1 : Int) := of_decide_eq_true (by first | (with_reducible assumption) | assumption)
        have q272 : x21_1 < (t266.length : Int) := of_decide_eq_true (by first | (with_reducible assumption) | assumption)
        obtain ⟨ad272, A272_6, c272_6, e272, hx272_0, hx272_1, hx272_2, hx272_3, hx272_4, hx272_5, hx272_6, hl272_6, hi272_6⟩ := at_T30 (Kd.N_reads' HO_6.out).2.2 x21_1 p272 q272
        cases e272
        obtain ⟨ce272, hce272, hMe272, hcc272⟩ := Kd.N_get HO_6.out z30 x21_1 p272 (by first | exact q272 | exact of_decide_eq_true (by first | (with_reducible assumption) | assumption) | (have e_ := (Kd.N_reads' HO_6.out).1; omega))
        obtain ⟨ua272_6, uc272_6, rfl, ul272_6, ge272_6⟩ := k30_openF hMe272
        have hv272_6 := hcc272 6 _ rfl
        rw [add_field _ _ 6 (by omega)] at hv272_6
        replace hv272_6 := Option.some.inj (hv272_6.symm.trans hx272_6)
        injection hv272_6 with hva_ hvn_ hvc_
        rw [hva_] at ge272_6
        rw [hvc_] at ul272_6
        have HL272_6 := Aside0.mk (show Kd.V k30 30 _ w.heap.size _ _ ((rd_T30 t266 x21_1).f3) from Kd.V_mk ul272_6 ge272_6)
        clear hva_ hvn_ hvc_ ge272_6 ul272_6
        clear hcc272 hce272
        have HR272_6 := Aside0.mk hi272_6
        have HC272_6 := Aside0.mk hl272_6
        clear hi272_6 hl272_6
        replace p272 := eq_true p272
        replace q272 := eq_true q272
        go_wp2_with (first | ((with_reducible refine gate_callee (f := 33) rfl ?_); refine goesL_ (some 29) rfl rfl Tryz.func33 (by kernel_rfl) rfl #[.agg #[.int .u8 ((rd_T30 t266 x21_1).f0), .int .i64 ((rd_T30 t266 x21_1).f1.f0), .int .i64 ((rd_T30 t266 x21_1).f1.f1), .int .i64 ((rd_T30 t266 x21_1).f1.f2), .int .i64 ((rd_T30 t266 x21_1).f1.f3), .int .i64 ((rd_T30 t266 x21_1).f2), .slice A272_6 ((rd_T30 t266 x21_1).f3).length c272_6]] rfl (by (try simp only [List.map_toArray, List.map_cons, List.map_nil]); first | done | rfl | (simp only [List.length_drop, List.length_take]; rfl)) ?_; (with_reducible refine (sashref06_one.calls k1 ((rd_T30 t266 x21_1).f0) ((rd_T30 t266 x21_1).f1.f0) ((rd_T30 t266 x21_1).f1.f1) ((rd_T30 t266 x21_1).f1.f2) ((rd_T30 t266 x21_1).f1.f3) ((rd_T30 t266 x21_1).f2) _ _ ((rd_T30 t266 x21_1).f3) t273 false _ ?side1 ?side2 A18.out).mono ?_); (case side1 => repeat (first | exact (by repeat (first | (with_reducible exact HR272_6.out) | (with_reducible refine Kd.C_alloc ?_ _) | (with_reducible refine Kd.C_drewN ?_ _) | (with_reducible refine Kd.C_drew ?_) | exact HR272_6.out)) | (with_reducible refine Kd.C_alloc ?_ _) | (with_reducible refine Kd.C_drewN ?_ _) | (with_reducible refine Kd.C_drew ?_))); (case side2 => exact HC272_6.out); rintro e w24 ⟨v274, rfl, ho0, hb⟩; refine ⟨_, rfl, ?_⟩; have n0_ := Aside0.mk (Kd.R_below (by (with_reducible repeat (first | apply Kd.R_alloc | apply Kd.R_drewN | apply Kd.R_drew)); exact HO_5.out) hb); have n1_ := Aside0.mk (Kd.N_below (by (with_reducible repeat (first | apply Kd.N_alloc | apply Kd.N_drewN | apply Kd.N_drew)); exact HO_6.out) hb); have n2_ := Aside0.mk (Kd.R_below (by (with_reducible repeat (first | apply Kd.R_alloc | apply Kd.R_drewN | apply Kd.R_drew)); exact HO_7.out) hb); have n3_ := Aside0.mk (Kd.V_below (by (with_reducible repeat (first | apply Kd.V_alloc | apply Kd.V_drewN | apply Kd.V_drew)); exact HL272_6.out) hb); have n4_ := Aside0.mk (Kd.V_lower (Kd.V_mono (ok' := fun k_ => some k_ ≠ (v263 : Value).ownBlock ∧ some k_ ≠ (.slice (some ad272) t266.length co14 : Value).ownBlock ∧ some k_ ≠ (u7 : Value).ownBlock ∧ k_ ≠ gb261) ho0 (fun k_ hk_ => ⟨(Kd.fresh' (Kd.R_lt (by (with_reducible repeat (first | apply Kd.R_alloc | apply Kd.R_drewN | apply Kd.R_drew)); exact HO_5.out)) k_ hk_), (Kd.fresh' (Kd.N_lt (by (with_reducible repeat (first | apply Kd.N_alloc | apply Kd.N_drewN | apply Kd.N_drew)); exact HO_6.out)) k_ hk_), (Kd.fresh' (Kd.R_lt (by (with_reducible repeat (first | apply Kd.R_alloc | apply Kd.R_drewN | apply Kd.R_drew)); exact HO_7.out)) k_ hk_), (Kd.freshB (g := gb261) (o := .cells #[.int .u8 a0_0, .int .i64 a0_1, .int .i64 a0_2, .int .i64 a0_3, .int .i64 a0_4, .int .i64 a0_5, .slice A0_6 l0_6.length c0_6] 30 (0, 0)) (by (with_reducible repeat (first | refine blk_drewN ?_ _ | refine blk_drew ?_ | refine blk_alloc ?_ _)); exact BK261.out) k_ hk_)⟩)) (below_size (by repeat (first | (with_reducible first | exact HB.out | apply below_alloc | apply pw_below_drewN | apply below_drew1 | refine below_set ?_ GE261.out) | exact HB.out)))); have n5_ := Aside0.mk (blk_below (g := gb261) (o := .cells #[.int .u8 a0_0, .int .i64 a0_1, .int .i64 a0_2, .int .i64 a0_3, .int .i64 a0_4, .int .i64 a0_5, .slice A0_6 l0_6.length c0_6] 30 (0, 0)) (by (with_reducible repeat (first | refine blk_drewN ?_ _ | refine blk_drew ?_ | refine blk_alloc ?_ _)); exact BK261.out) hb); have n6_ := Aside0.mk (Kd.C_below (by repeat (first | (with_reducible exact HR272_6.out) | (with_reducible refine Kd.C_alloc ?_ _) | (with_reducible refine Kd.C_drewN ?_ _) | (with_reducible refine Kd.C_drew ?_) | exact HR272_6.out)) hb); have n7_ := Aside0.mk (below_step (by repeat (first | (with_reducible first | exact HB.out | apply below_alloc | apply pw_below_drewN | apply below_drew1 | refine below_set ?_ GE261.out) | exact HB.out)) hb); clear HO_5; clear HO_6; clear HO_7; clear HL272_6; clear BK261; clear HR272_6; clear HB; have HO_5 := n0_; have HO_6 := n1_; have HO_7 := n2_; have HL272_6 := n3_; have HO275 := n4_; have BK261 := n5_; have HR272_6 := n6_; have HB := n7_; clear n0_ n1_ n2_ n3_ n4_ n5_ n6_ n7_; (try clear hb); (try clear hb2); (try clear hk); (try clear hi); (try clear ho0)))
        go_ret3
        exact ⟨_, by first | rfl | (simp [errW_none, errW_some] <;> rfl) | (simp [*, errW_none, errW_some] <;> rfl), by (with_reducible repeat (first | apply Kd.R_alloc | apply Kd.R_drewN | apply Kd.R_drew)); exact Kd.R_mono HO_5.out (fun _ hk => trivial), by repeat (first | (with_reducible first | exact HB.out | apply below_alloc | apply pw_below_drewN | apply below_drew1 | refine below_set ?_ GE261.out) | exact HB.out)⟩
      ·rw [if_neg c17] at H
       exact absurd H (by simp)
     ·rw [if_neg c16] at H
      exact absurd H (by simp)
    ·rw [if_neg c15] at H
     have c15b0 : decide (x21_1 < (t266.length : Int)) = false := decide_eq_false c15
     clear c15
     simp only [Option.some.injEq, Prod.mk.injEq] at H
     obtain ⟨rfl, rfl, rfl⟩ := H
     go_wp2
     go_ret3
     exact ⟨_, by first | rfl | (simp [errW_none, errW_some] <;> rfl) | (simp [*, errW_none, errW_some] <;> rfl), by (with_reducible repeat (first | apply Kd.R_alloc | apply Kd.R_drewN | apply Kd.R_drew)); exact Kd.R_mono HO_7.out (fun _ hk => trivial), by repeat (first | (with_reducible first | exact HB.out | apply below_alloc | apply pw_below_drewN | apply below_drew1 | refine below_set ?_ GE261.out) | exact HB.out)⟩
 ·replace c3 := Bool.eq_false_iff.mpr c3
  subst c3
  have H1 : (some (y262, 1, 0)) = some (r1, r2, r3) := by rw [if_neg (show ¬ (false = true) by decide)] at H; exact H
  clear H
  have H := H1
  clear H1
  simp only [Option.some.injEq, Prod.mk.injEq] at H
  obtain ⟨rfl, rfl, rfl⟩ := H
  go_enter Tryz.func20, Tryz.ntmps20
  go_wp2_with (first | ((with_reducible refine gate_dst (N := 1) rfl ?_); refine box_event ?hg (N := 1) ?hd (cs := #[.int .u8 a0_0, .int .i64 a0_1, .int .i64 a0_2, .int .i64 a0_3, .int .i64 a0_4, .int .i64 a0_5, .slice A0_6 l0_6.length c0_6]) (t := 30) ?hr ?_; (case hd => rfl); (case hg => rfl); (case hr => first | (go_simp; done) | (go_simp; rfl)); intro gb261 hg w25 hbox hb; have n0_ := Aside0.mk (below_step (by repeat (first | (with_reducible first | exact HB.out | apply below_alloc | apply pw_below_drewN | apply below_drew1) | exact HB.out)) hb); have n1_ := Aside0.mk (hbox); have n2_ := Aside0.mk ((by rw [hg]; exact (below_size (by repeat (first | (with_reducible first | exact HB.out | apply below_alloc | apply pw_below_drewN | apply below_drew1) | exact HB.out))) : w.heap.size ≤ gb261)); have n3_ := Aside0.mk ((by rw [hg]; exact (below_size (by repeat (first | (with_reducible first | exact HB.out | apply below_alloc | apply pw_below_drewN | apply below_drew1) | exact HB.out))) : w.heap.size ≤ gb261)); clear HB; have HB := n0_; have BK261 := n1_; have GW261 := n2_; have GE261 := n3_; clear n0_ n1_ n2_ n3_; clear hb hbox hg) | ((with_reducible refine gate_dst (N := 11) rfl ?_); refine Kd.R_lit k28 _ 28 ?hg (N := 11) ?hd (xs := ([] : List (S28))) (inner := []) (ok := fun _ => True) (okp := fun _ => True) ?hr ?hp (fun _ hk => hk) trivial (Below.refl _ _) (Nat.le_refl _) (by simp) ?_; (case hd => rfl); (case hg => rfl); (case hr => first | (go_simp; done) | (go_simp; rfl)); (case hp => exact (Reps.none _ _)); intro v263 w26 ho27 hb hg_ hnew_; clear hg_ hnew_; (first | rw [← Ny262.out] at ho27 | (simp only [Int.reduceToNat] at ho27; rw [← Ny262.out] at ho27)); have n0_ := Aside0.mk (Kd.R_lower ho27 (below_size (by repeat (first | (with_reducible first | exact HB.out | apply below_alloc | apply pw_below_drewN | apply below_drew1 | refine below_set ?_ GE261.out) | exact HB.out)))); have n1_ := Aside0.mk (blk_below (g := gb261) (o := .cells #[.int .u8 a0_0, .int .i64 a0_1, .int .i64 a0_2, .int .i64 a0_3, .int .i64 a0_4, .int .i64 a0_5, .slice A0_6 l0_6.length c0_6] 30 (0, 0)) (by (with_reducible repeat (first | refine blk_drewN ?_ _ | refine blk_drew ?_ | refine blk_alloc ?_ _)); exact BK261.out) hb); have n2_ := Aside0.mk (below_step (by repeat (first | (with_reducible first | exact HB.out | apply below_alloc | apply pw_below_drewN | apply below_drew1 | refine below_set ?_ GE261.out) | exact HB.out)) hb); clear BK261; clear HB; have HO264 := n0_; have BK261 := n1_; have HB := n2_; clear n0_ n1_ n2_; clear hb ho27; have hcz28_0 : w26.cell? ⟨gb261, 0, none⟩ = some (.int .u8 a0_0) := (blk_cell BK261.out 0).trans rfl; have hcz28_1 : w26.cell? ⟨gb261, 1, none⟩ = some (.int .i64 a0_1) := (blk_cell BK261.out 1).trans rfl; have hcz28_2 : w26.cell? ⟨gb261, 2, none⟩ = some (.int .i64 a0_2) := (blk_cell BK261.out 2).trans rfl; have hcz28_3 : w26.cell? ⟨gb261, 3, none⟩ = some (.int .i64 a0_3) := (blk_cell BK261.out 3).trans rfl; have hcz28_4 : w26.cell? ⟨gb261, 4, none⟩ = some (.int .i64 a0_4) := (blk_cell BK261.out 4).trans rfl; have hcz28_5 : w26.cell? ⟨gb261, 5, none⟩ = some (.int .i64 a0_5) := (blk_cell BK261.out 5).trans rfl; have hcz28_6 : w26.cell? ⟨gb261, 6, none⟩ = some (.slice A0_6 l0_6.length c0_6) := (blk_cell BK261.out 6).trans rfl; have hfz28_0 := blk_frozen BK261.out 0; have hfz28_1 := blk_frozen BK261.out 1; have hfz28_2 := blk_frozen BK261.out 2; have hfz28_3 := blk_frozen BK261.out 3; have hfz28_4 := blk_frozen BK261.out 4; have hfz28_5 := blk_frozen BK261.out 5; have hfz28_6 := blk_frozen BK261.out 6) | ((with_reducible refine gate_callee (f := 31) rfl ?_); refine goesL_ (some 13) rfl rfl Tryz.func31 (by kernel_rfl) rfl #[.agg #[.int .u8 a0_0, .int .i64 a0_1, .int .i64 a0_2, .int .i64 a0_3, .int .i64 a0_4, .int .i64 a0_5, .slice A0_6 l0_6.length c0_6]] rfl (by (try simp only [List.map_toArray, List.map_cons, List.map_nil]); first | done | rfl | (simp only [List.length_drop, List.length_take]; rfl)) ?_; (with_reducible refine (sashref05_May.calls k a0_0 a0_1 a0_2 a0_3 a0_4 a0_5 _ _ l0_6 false _ ?side1 ?side2 A2.out).mono ?_); (case side1 => repeat (first | exact (Kd.C_below HR0_6.out HB.out) | (with_reducible refine Kd.C_alloc ?_ _) | (with_reducible refine Kd.C_drewN ?_ _) | (with_reducible refine Kd.C_drew ?_))); (case side2 => exact HC0_6.out); rintro e w29 ⟨rfl, hb⟩; refine ⟨_, rfl, ?_⟩; have n0_ := Aside0.mk (Kd.R_below (by (with_reducible repeat (first | apply Kd.R_alloc | apply Kd.R_drewN | apply Kd.R_drew)); exact HO264.out) hb); have n1_ := Aside0.mk (blk_below (g := gb261) (o := .cells #[.int .u8 a0_0, .int .i64 a0_1, .int .i64 a0_2, .int .i64 a0_3, .int .i64 a0_4, .int .i64 a0_5, .slice A0_6 l0_6.length c0_6] 30 (0, 0)) (by (with_reducible repeat (first | refine blk_drewN ?_ _ | refine blk_drew ?_ | refine blk_alloc ?_ _)); exact BK261.out) hb); have n2_ := Aside0.mk (below_step (by repeat (first | (with_reducible first | exact HB.out | apply below_alloc | apply pw_below_drewN | apply below_drew1 | refine below_set ?_ GE261.out) | exact HB.out)) hb); clear HO264; clear BK261; clear HB; have HO264 := n0_; have BK261 := n1_; have HB := n2_; clear n0_ n1_ n2_; (try clear hb); (try clear hb2); (try clear hk); (try clear hi)))
  go_ret3
  exact ⟨_, by first | rfl | (simp [errW_none, errW_some] <;> rfl) | (simp [*, errW_none, errW_some] <;> rfl), by (with_reducible repeat (first | apply Kd.R_alloc | apply Kd.R_drewN | apply Kd.R_drew)); exact HO264.out, by repeat (first | (with_reducible first | exact HB.out | apply below_alloc | apply pw_below_drewN | apply below_drew1 | refine below_set ?_ GE261.out) | exact HB.out)⟩

def sashref06_Tiles.f (k : Nat) (a0_0 : Int) (a0_1 : Int) (a0_2 : Int) (a0_3 : Int) (a0_4 : Int) (a0_5 : Int) (l0_6 : List (S30)) : Option (Bool) := (sashref06_Check.f k a0_0 a0_1 a0_2 a0_3 a0_4 a0_5 l0_6).bind fun bt281 => (some (bt281.2.1 == 0))
set_option maxHeartbeats 8000000 in
set_option maxRecDepth 100000 in
theorem sashref06_Tiles.calls (k : Nat) (a0_0 : Int) (a0_1 : Int) (a0_2 : Int) (a0_3 : Int) (a0_4 : Int) (a0_5 : Int) (A0_6 : Option Addr) (c0_6 : Nat) (l0_6 : List (S30)) (r : Bool) (w : World) (hr0_6 : Kd.C k30 w A0_6 l0_6.length l0_6) (hc0_6 : l0_6.length ≤ c0_6) (h : sashref06_Tiles.f k a0_0 a0_1 a0_2 a0_3 a0_4 a0_5 l0_6 = some r) :
  Calls Tryz.prog 10 #[.agg #[.int .u8 a0_0, .int .i64 a0_1, .int .i64 a0_2, .int .i64 a0_3, .int .i64 a0_4, .int .i64 a0_5, .slice A0_6 l0_6.length c0_6]] w fun e w' => e = .returned (.bool r) ∧ Below w.heap.size w w' := by
 have hu30 := Tryz.underlying30
 have HR0_6 := Aside0.mk hr0_6
 have HC0_6 := Aside0.mk hc0_6
 clear hr0_6 hc0_6
 have HB := Aside0.mk (Below.refl w.heap.size w)
 have H : ((sashref06_Check.f k a0_0 a0_1 a0_2 a0_3 a0_4 a0_5 l0_6).bind fun bt281 => (some (bt281.2.1 == 0))) = some r := h
 clear h
 replace H := Option.bind_eq_some_iff.mp H
 obtain ⟨⟨t281, t284, t285⟩, A20, H⟩ := H
 replace H : (some (t284 == 0)) = some r := H
 have A2 := Aside0.mk A20
 clear A20
 obtain rfl := Option.some.inj H
 go_enter Tryz.func10, Tryz.ntmps10
 go_wp2_with (first | ((with_reducible refine gate_dst (N := 1) rfl ?_); refine box_event ?hg (N := 1) ?hd (cs := #[.int .u8 a0_0, .int .i64 a0_1, .int .i64 a0_2, .int .i64 a0_3, .int .i64 a0_4, .int .i64 a0_5, .slice A0_6 l0_6.length c0_6]) (t := 30) ?hr ?_; (case hd => rfl); (case hg => rfl); (case hr => first | (go_simp; done) | (go_simp; rfl)); intro gb280 hg w3 hbox hb; have n0_ := Aside0.mk (below_step (by repeat (first | (with_reducible first | exact HB.out | apply below_alloc | apply pw_below_drewN | apply below_drew1) | exact HB.out)) hb); have n1_ := Aside0.mk (hbox); have n2_ := Aside0.mk ((by rw [hg]; exact (below_size (by repeat (first | (with_reducible first | exact HB.out | apply below_alloc | apply pw_below_drewN | apply below_drew1) | exact HB.out))) : w.heap.size ≤ gb280)); have n3_ := Aside0.mk ((by rw [hg]; exact (below_size (by repeat (first | (with_reducible first | exact HB.out | apply below_alloc | apply pw_below_drewN | apply below_drew1) | exact HB.out))) : w.heap.size ≤ gb280)); clear HB; have HB := n0_; have BK280 := n1_; have GW280 := n2_; have GE280 := n3_; clear n0_ n1_ n2_ n3_; clear hb hbox hg; have hcz4_0 : w3.cell? ⟨gb280, 0, none⟩ = some (.int .u8 a0_0) := (blk_cell BK280.out 0).trans rfl; have hcz4_1 : w3.cell? ⟨gb280, 1, none⟩ = some (.int .i64 a0_1) := (blk_cell BK280.out 1).trans rfl; have hcz4_2 : w3.cell? ⟨gb280, 2, none⟩ = some (.int .i64 a0_2) := (blk_cell BK280.out 2).trans rfl; have hcz4_3 : w3.cell? ⟨gb280, 3, none⟩ = some (.int .i64 a0_3) := (blk_cell BK280.out 3).trans rfl; have hcz4_4 : w3.cell? ⟨gb280, 4, none⟩ = some (.int .i64 a0_4) := (blk_cell BK280.out 4).trans rfl; have hcz4_5 : w3.cell? ⟨gb280, 5, none⟩ = some (.int .i64 a0_5) := (blk_cell BK280.out 5).trans rfl; have hcz4_6 : w3.cell? ⟨gb280, 6, none⟩ = some (.slice A0_6 l0_6.length c0_6) := (blk_cell BK280.out 6).trans rfl; have hfz4_0 := blk_frozen BK280.out 0; have hfz4_1 := blk_frozen BK280.out 1; have hfz4_2 := blk_frozen BK280.out 2; have hfz4_3 := blk_frozen BK280.out 3; have hfz4_4 := blk_frozen BK280.out 4; have hfz4_5 := blk_frozen BK280.out 5; have hfz4_6 := blk_frozen BK280.out 6) | ((with_reducible refine gate_callee (f := 20) rfl ?_); refine goesL_ (some 8) rfl rfl Tryz.func20 (by kernel_rfl) rfl #[.agg #[.int .u8 a0_0, .int .i64 a0_1, .int .i64 a0_2, .int .i64 a0_3, .int .i64 a0_4, .int .i64 a0_5, .slice A0_6 l0_6.length c0_6]] rfl (by (try simp only [List.map_toArray, List.map_cons, List.map_nil]); first | done | rfl | (simp only [List.length_drop, List.length_take]; rfl)) ?_; (with_reducible refine (sashref06_Check.calls k a0_0 a0_1 a0_2 a0_3 a0_4 a0_5 _ _ l0_6 t281 t284 t285 _ ?side1 ?side2 A2.out).mono ?_); (case side1 => repeat (first | exact (Kd.C_below HR0_6.out HB.out) | (with_reducible refine Kd.C_alloc ?_ _) | (with_reducible refine Kd.C_drewN ?_ _) | (with_reducible refine Kd.C_drew ?_))); (case side2 => exact HC0_6.out); rintro e w5 ⟨v282, rfl, ho0, hb⟩; refine ⟨_, rfl, ?_⟩; have n0_ := Aside0.mk (Kd.R_lower ho0 (below_size (by repeat (first | (with_reducible first | exact HB.out | apply below_alloc | apply pw_below_drewN | apply below_drew1 | refine below_set ?_ GE280.out) | exact HB.out)))); have n1_ := Aside0.mk (blk_below (g := gb280) (o := .cells #[.int .u8 a0_0, .int .i64 a0_1, .int .i64 a0_2, .int .i64 a0_3, .int .i64 a0_4, .int .i64 a0_5, .slice A0_6 l0_6.length c0_6] 30 (0, 0)) (by (with_reducible repeat (first | refine blk_drewN ?_ _ | refine blk_drew ?_ | refine blk_alloc ?_ _)); exact BK280.out) hb); have n2_ := Aside0.mk (below_step (by repeat (first | (with_reducible first | exact HB.out | apply below_alloc | apply pw_below_drewN | apply below_drew1 | refine below_set ?_ GE280.out) | exact HB.out)) hb); clear BK280; clear HB; have HO283 := n0_; have BK280 := n1_; have HB := n2_; clear n0_ n1_ n2_; (try clear hb); (try clear hb2); (try clear hk); (try clear hi); (try clear ho0)))
 go_ret
 exact ⟨by first | rfl | (simp [errW_none, errW_some] <;> rfl) | (simp [*, errW_none, errW_some] <;> rfl), by repeat (first | (with_reducible first | exact HB.out | apply below_alloc | apply pw_below_drewN | apply below_drew1 | refine below_set ?_ GE280.out) | exact HB.out)⟩

def sashref01_Digit.f (a0 : Int) : Option (ByteArray) := if 0 ≤ a0 then (if a0 ≤ (wrap64 (a0 + 1)) then (if (wrap64 (a0 + 1)) ≤ 16 then (some ((⟨#[48, 49, 50, 51, 52, 53, 54, 55, 56, 57, 97, 98, 99, 100, 101, 102]⟩ : ByteArray).extract (a0 : Int).toNat ((wrap64 (a0 + 1)) : Int).toNat)) else (none)) else (none)) else (none)
set_option maxHeartbeats 8000000 in
set_option maxRecDepth 100000 in
theorem sashref01_Digit.calls (a0 : Int) (r : ByteArray) (w : World) (h : sashref01_Digit.f a0 = some r) :
  Calls Tryz.prog 34 #[.int .i64 a0] w fun e w' => e = .returned (.string r) ∧ Drawn0 w w' := by
 have H : (if 0 ≤ a0 then (if a0 ≤ (wrap64 (a0 + 1)) then (if (wrap64 (a0 + 1)) ≤ 16 then (some ((⟨#[48, 49, 50, 51, 52, 53, 54, 55, 56, 57, 97, 98, 99, 100, 101, 102]⟩ : ByteArray).extract (a0 : Int).toNat ((wrap64 (a0 + 1)) : Int).toNat)) else (none)) else (none)) else (none)) = some r := h
 clear h
 by_cases c2 : 0 ≤ a0
 ·rw [if_pos c2] at H
  have c2b0 := eq_true c2
  have c2b1 : decide (0 ≤ a0) = true := decide_eq_true c2
  clear c2
  by_cases c3 : a0 ≤ (wrap64 (a0 + 1))
  ·rw [if_pos c3] at H
   have c3b0 := eq_true c3
   have c3b1 : decide (a0 ≤ (wrap64 (a0 + 1))) = true := decide_eq_true c3
   by_cases c4 : (wrap64 (a0 + 1)) ≤ 16
   ·rw [if_pos c4] at H
    have c4b0 := eq_true c4
    have c4b1 : decide ((wrap64 (a0 + 1)) ≤ 16) = true := decide_eq_true c4
    obtain rfl := Option.some.inj H
    go_enter Tryz.func34, Tryz.ntmps34
    go_wp2
    go_ret
    exact ⟨by first | rfl | (simp; done) | (simp [*]; done), by repeat (first | exact Drawn0.refl _ | apply Drawn0.step)⟩
   ·rw [if_neg c4] at H
    exact absurd H (by simp)
  ·rw [if_neg c3] at H
   exact absurd H (by simp)
 ·rw [if_neg c2] at H
  exact absurd H (by simp)

def sashref01_Hex.f (a0 : Int) : Option (ByteArray) := (sashref01_Digit.f (wrap64 (Int.tdiv (wrap64 (a0)) 4096))).bind fun t286 => ((sashref01_Digit.f (Int.tmod (wrap64 (Int.tdiv (wrap64 (a0)) 256)) 16)).bind fun t287 => (if t286.size + t287.size ≤ 9223372036854775807 then ((sashref01_Digit.f (Int.tmod (wrap64 (Int.tdiv (wrap64 (a0)) 16)) 16)).bind fun t288 => (if (t286 ++ t287).size + t288.size ≤ 9223372036854775807 then ((sashref01_Digit.f (Int.tmod (wrap64 (a0)) 16)).bind fun t289 => (if ((t286 ++ t287) ++ t288).size + t289.size ≤ 9223372036854775807 then (some (((t286 ++ t287) ++ t288) ++ t289)) else (none))) else (none))) else (none)))
set_option maxHeartbeats 8000000 in
set_option maxRecDepth 100000 in
theorem sashref01_Hex.calls (a0 : Int) (r : ByteArray) (w : World) (h : sashref01_Hex.f a0 = some r) :
  Calls Tryz.prog 21 #[.int .u16 a0] w fun e w' => e = .returned (.string r) ∧ Drawn0 w w' := by
 have H : ((sashref01_Digit.f (wrap64 (Int.tdiv (wrap64 (a0)) 4096))).bind fun t286 => ((sashref01_Digit.f (Int.tmod (wrap64 (Int.tdiv (wrap64 (a0)) 256)) 16)).bind fun t287 => (if t286.size + t287.size ≤ 9223372036854775807 then ((sashref01_Digit.f (Int.tmod (wrap64 (Int.tdiv (wrap64 (a0)) 16)) 16)).bind fun t288 => (if (t286 ++ t287).size + t288.size ≤ 9223372036854775807 then ((sashref01_Digit.f (Int.tmod (wrap64 (a0)) 16)).bind fun t289 => (if ((t286 ++ t287) ++ t288).size + t289.size ≤ 9223372036854775807 then (some (((t286 ++ t287) ++ t288) ++ t289)) else (none))) else (none))) else (none)))) = some r := h
 clear h
 replace H := Option.bind_eq_some_iff.mp H
 obtain ⟨t286, A20, H⟩ := H
 replace H : ((sashref01_Digit.f (Int.tmod (wrap64 (Int.tdiv (wrap64 (a0)) 256)) 16)).bind fun t287 => (if t286.size + t287.size ≤ 9223372036854775807 then ((sashref01_Digit.f (Int.tmod (wrap64 (Int.tdiv (wrap64 (a0)) 16)) 16)).bind fun t288 => (if (t286 ++ t287).size + t288.size ≤ 9223372036854775807 then ((sashref01_Digit.f (Int.tmod (wrap64 (a0)) 16)).bind fun t289 => (if ((t286 ++ t287) ++ t288).size + t289.size ≤ 9223372036854775807 then (some (((t286 ++ t287) ++ t288) ++ t289)) else (none))) else (none))) else (none))) = some r := H
 have A2 := Aside0.mk A20
 clear A20
 replace H := Option.bind_eq_some_iff.mp H
 obtain ⟨t287, A30, H⟩ := H
 replace H : (if t286.size + t287.size ≤ 9223372036854775807 then ((sashref01_Digit.f (Int.tmod (wrap64 (Int.tdiv (wrap64 (a0)) 16)) 16)).bind fun t288 => (if (t286 ++ t287).size + t288.size ≤ 9223372036854775807 then ((sashref01_Digit.f (Int.tmod (wrap64 (a0)) 16)).bind fun t289 => (if ((t286 ++ t287) ++ t288).size + t289.size ≤ 9223372036854775807 then (some (((t286 ++ t287) ++ t288) ++ t289)) else (none))) else (none))) else (none)) = some r := H
 have A3 := Aside0.mk A30
 clear A30
 by_cases c4 : t286.size + t287.size ≤ 9223372036854775807
 ·rw [if_pos c4] at H
  have c4b0 := eq_true c4
  have c4b1 : decide (t286.size + t287.size ≤ 9223372036854775807) = true := decide_eq_true c4
  try have c4b2 : (9223372036854775807 < t286.size + t287.size) = False := eq_false (Nat.not_lt.2 c4)
  try (have c4s := c4; simp only [ByteArray.size_append, (show (⟨#[120]⟩ : ByteArray).size = 1 from rfl), (show (⟨#[44]⟩ : ByteArray).size = 1 from rfl)] at c4s; have c4s1 := decide_eq_true c4s; have c4s2 := eq_false (Nat.not_lt.2 c4s); have c4s3 := eq_true c4s)
  replace H := Option.bind_eq_some_iff.mp H
  obtain ⟨t288, A50, H⟩ := H
  replace H : (if (t286 ++ t287).size + t288.size ≤ 9223372036854775807 then ((sashref01_Digit.f (Int.tmod (wrap64 (a0)) 16)).bind fun t289 => (if ((t286 ++ t287) ++ t288).size + t289.size ≤ 9223372036854775807 then (some (((t286 ++ t287) ++ t288) ++ t289)) else (none))) else (none)) = some r := H
  have A5 := Aside0.mk A50
  clear A50
  by_cases c6 : (t286 ++ t287).size + t288.size ≤ 9223372036854775807
  ·rw [if_pos c6] at H
   have c6b0 := eq_true c6
   have c6b1 : decide ((t286 ++ t287).size + t288.size ≤ 9223372036854775807) = true := decide_eq_true c6
   try have c6b2 : (9223372036854775807 < (t286 ++ t287).size + t288.size) = False := eq_false (Nat.not_lt.2 c6)
   try (have c6s := c6; simp only [ByteArray.size_append, (show (⟨#[120]⟩ : ByteArray).size = 1 from rfl), (show (⟨#[44]⟩ : ByteArray).size = 1 from rfl)] at c6s; have c6s1 := decide_eq_true c6s; have c6s2 := eq_false (Nat.not_lt.2 c6s); have c6s3 := eq_true c6s)
   replace H := Option.bind_eq_some_iff.mp H
   obtain ⟨t289, A70, H⟩ := H
   replace H : (if ((t286 ++ t287) ++ t288).size + t289.size ≤ 9223372036854775807 then (some (((t286 ++ t287) ++ t288) ++ t289)) else (none)) = some r := H
   have A7 := Aside0.mk A70
   clear A70
   by_cases c8 : ((t286 ++ t287) ++ t288).size + t289.size ≤ 9223372036854775807
   ·rw [if_pos c8] at H
    have c8b0 := eq_true c8
    have c8b1 : decide (((t286 ++ t287) ++ t288).size + t289.size ≤ 9223372036854775807) = true := decide_eq_true c8
    try have c8b2 : (9223372036854775807 < ((t286 ++ t287) ++ t288).size + t289.size) = False := eq_false (Nat.not_lt.2 c8)
    try (have c8s := c8; simp only [ByteArray.size_append, (show (⟨#[120]⟩ : ByteArray).size = 1 from rfl), (show (⟨#[44]⟩ : ByteArray).size = 1 from rfl)] at c8s; have c8s1 := decide_eq_true c8s; have c8s2 := eq_false (Nat.not_lt.2 c8s); have c8s3 := eq_true c8s)
    obtain rfl := Option.some.inj H
    go_enter Tryz.func21, Tryz.ntmps21
    go_wp2_with (first | ((with_reducible refine gate_callee (f := 34) rfl ?_); refine goesL_ (some 8) rfl rfl Tryz.func34 (by kernel_rfl) rfl #[.int .i64 (wrap64 (Int.tdiv (wrap64 (a0)) 4096))] rfl (by (try simp only [List.map_toArray, List.map_cons, List.map_nil]); first | done | rfl | (simp only [List.length_drop, List.length_take]; rfl)) ?_; (with_reducible refine (sashref01_Digit.calls (wrap64 (Int.tdiv (wrap64 (a0)) 4096)) t286 _ A2.out).mono ?_); rintro e w' ⟨rfl, ⟨nd, rfl⟩⟩; refine ⟨_, rfl, ?_⟩) | ((with_reducible refine gate_callee (f := 34) rfl ?_); refine goesL_ (some 12) rfl rfl Tryz.func34 (by kernel_rfl) rfl #[.int .i64 (Int.tmod (wrap64 (Int.tdiv (wrap64 (a0)) 256)) 16)] rfl (by (try simp only [List.map_toArray, List.map_cons, List.map_nil]); first | done | rfl | (simp only [List.length_drop, List.length_take]; rfl)) ?_; (with_reducible refine (sashref01_Digit.calls (Int.tmod (wrap64 (Int.tdiv (wrap64 (a0)) 256)) 16) t287 _ A3.out).mono ?_); rintro e w' ⟨rfl, ⟨nd, rfl⟩⟩; refine ⟨_, rfl, ?_⟩) | ((with_reducible refine gate_callee (f := 34) rfl ?_); refine goesL_ (some 17) rfl rfl Tryz.func34 (by kernel_rfl) rfl #[.int .i64 (Int.tmod (wrap64 (Int.tdiv (wrap64 (a0)) 16)) 16)] rfl (by (try simp only [List.map_toArray, List.map_cons, List.map_nil]); first | done | rfl | (simp only [List.length_drop, List.length_take]; rfl)) ?_; (with_reducible refine (sashref01_Digit.calls (Int.tmod (wrap64 (Int.tdiv (wrap64 (a0)) 16)) 16) t288 _ A5.out).mono ?_); rintro e w' ⟨rfl, ⟨nd, rfl⟩⟩; refine ⟨_, rfl, ?_⟩) | ((with_reducible refine gate_callee (f := 34) rfl ?_); refine goesL_ (some 21) rfl rfl Tryz.func34 (by kernel_rfl) rfl #[.int .i64 (Int.tmod (wrap64 (a0)) 16)] rfl (by (try simp only [List.map_toArray, List.map_cons, List.map_nil]); first | done | rfl | (simp only [List.length_drop, List.length_take]; rfl)) ?_; (with_reducible refine (sashref01_Digit.calls (Int.tmod (wrap64 (a0)) 16) t289 _ A7.out).mono ?_); rintro e w' ⟨rfl, ⟨nd, rfl⟩⟩; refine ⟨_, rfl, ?_⟩))
    go_ret
    exact ⟨by first | rfl | (simp; done) | (simp [*]; done), by repeat (first | exact Drawn0.refl _ | apply Drawn0.step)⟩
   ·rw [if_neg c8] at H
    exact absurd H (by simp)
  ·rw [if_neg c6] at H
   exact absurd H (by simp)
 ·rw [if_neg c4] at H
  exact absurd H (by simp)

def sashref02_From.l0 : Nat → ByteArray → Int → Int → Option (Int)
 | 0, _, _, _ => none
 | k + 1, x1, x5, x6 => if x6 < (x1.size : Int) then (if 0 ≤ x6 then (sashref02_From.l0 k x1 (Int.tmod (wrap64 ((wrap64 ((wrap64 (Int.tdiv x5 2)) + (wrap64 ((Int.tmod x5 2) * 32768)))) + (wrap64 (bt x1 x6)))) 65536) (wrap64 (x6 + 1))) else (none)) else (some (IntKind.u16.wrap (x5)))
def sashref02_From.f (k : Nat) (a0 : Int) (a1 : ByteArray) : Option (Int) := sashref02_From.l0 k a1 (wrap64 (a0)) 0
theorem sashref02_From.mono_l : ∀ k, (∀ y0 y1 y2, LeO (sashref02_From.l0 k y0 y1 y2) (sashref02_From.l0 (k + 1) y0 y1 y2))
 | 0 => fun _ _ _ r h => by simp [sashref02_From.l0] at h
 | k + 1 => by
  have ih0 := sashref02_From.mono_l k
  ·intro y0 y1 y2
   unfold sashref02_From.l0
   repeat' first
   | (with_reducible exact ih0 _ _ _)
   | (with_reducible exact LeO.refl _)
   | (with_reducible exact LeO.none _)
   | (with_reducible refine LeO.ite ?_ ?_)
   | (with_reducible refine LeO.bind ?_ (fun _ => ?_))
   | exact ih0 _ _ _
   | exact LeO.none _
   | refine LeO.ite ?_ ?_
   | refine LeO.bind ?_ (fun _ => ?_)
theorem sashref02_From.mono : ∀ a0 a1 k, LeO (sashref02_From.f k a0 a1) (sashref02_From.f (k + 1) a0 a1) := by
 intro a0 a1 k
 have ih0 := sashref02_From.mono_l k
 unfold sashref02_From.f
 repeat' first
   | (with_reducible exact ih0 _ _ _)
   | (with_reducible exact LeO.refl _)
   | (with_reducible exact LeO.none _)
   | (with_reducible refine LeO.ite ?_ ?_)
   | (with_reducible refine LeO.bind ?_ (fun _ => ?_))
   | exact ih0 _ _ _
   | exact LeO.none _
   | refine LeO.ite ?_ ?_
   | refine LeO.bind ?_ (fun _ => ?_)
set_option maxHeartbeats 8000000 in
set_option maxRecDepth 100000 in
theorem sashref02_From.calls (k : Nat) (a0 : Int) (a1 : ByteArray) (r : Int) (w : World) (h : sashref02_From.f k a0 a1 = some r) :
  Calls Tryz.prog 22 #[.int .u16 a0, .string a1] w fun e w' => e = .returned (.int .u16 r) ∧ Drawn0 w w' := by
 have H : (sashref02_From.l0 k a1 (wrap64 (a0)) 0) = some r := h
 clear h
 have H' := Aside0.mk H
 clear H
 go_enter Tryz.func22, Tryz.ntmps22
 go_wp2
 go_loopg [5, 6] k (fun kq v5 v6 w' => ∃ (x5_1 : Int) (x6_1 : Int), v5 = .int .i64 x5_1 ∧ v6 = .int .i64 x6_1 ∧ Aside0 (sashref02_From.l0 kq a1 x5_1 x6_1 = some r) ∧ Aside0 (kq ≤ k) ∧ Drawn0 w w')
 case atStart => exact ⟨(wrap64 (a0)), (0), (by first | rfl | (simp; done) | (simp [*]; done)), (by first | rfl | (simp; done) | (simp [*]; done)), H', ⟨Nat.le_refl _⟩, by repeat (first | exact Drawn0.refl _ | apply Drawn0.step)⟩
 case round =>
  clear H'
  try clear c2
  try clear p2
  obtain ⟨x5_1, x6_1, rfl, rfl, HA, HK1, ⟨m1, rfl⟩⟩ := hrel
  cases gk with
  | zero => exact absurd HA.out (by simp [sashref02_From.l0])
  | succ k1 =>
   have H := HA.out
   clear HA
   simp only [sashref02_From.l0] at H
   by_cases c3 : x6_1 < (a1.size : Int)
   ·rw [if_pos c3] at H
    have c3b0 : decide (x6_1 < (a1.size : Int)) = true := decide_eq_true c3
    clear c3
    by_cases c4 : 0 ≤ x6_1
    ·rw [if_pos c4] at H
     have c4b0 : decide (0 ≤ x6_1) = true := decide_eq_true c4
     clear c4
     have H' := Aside0.mk H
     clear H
     have p5 : 0 ≤ (x6_1 : Int) := of_decide_eq_true (by first | (with_reducible assumption) | assumption)
     have q5 : x6_1 < (a1.size : Int) := of_decide_eq_true (by first | (with_reducible assumption) | assumption)
     have hx5 := bt_at a1 x6_1
     replace p5 := eq_true p5
     replace q5 := eq_true q5
     go_wp2
     go_roundg k1
     case measure => have := HK1.out; omega
     case rel => exact ⟨(Int.tmod (wrap64 ((wrap64 ((wrap64 (Int.tdiv x5_1 2)) + (wrap64 ((Int.tmod x5_1 2) * 32768)))) + (wrap64 (bt a1 x6_1)))) 65536), (wrap64 (x6_1 + 1)), (by first | rfl | (simp; done) | (simp [*]; done)), (by first | rfl | (simp; done) | (simp [*]; done)), H', ⟨by have := HK1.out; omega⟩, by repeat (first | exact Drawn0.refl _ | apply Drawn0.step)⟩
    ·rw [if_neg c4] at H
     exact absurd H (by simp)
   ·rw [if_neg c3] at H
    have c3b0 : decide (x6_1 < (a1.size : Int)) = false := decide_eq_false c3
    clear c3
    obtain rfl := Option.some.inj H
    go_wp2
    go_ret
    exact ⟨by first | rfl | (simp; done) | (simp [*]; done), by repeat (first | exact Drawn0.refl _ | apply Drawn0.step)⟩

def sashref02_Put.f (k : Nat) (a0 : ByteArray) : Option (ByteArray) := (sashref02_From.f k 0 a0).bind fun t290 => ((sashref01_Hex.f t290).bind fun t291 => (if t291.size + 1 ≤ 9223372036854775807 then (if (t291 ++ (⟨#[44]⟩ : ByteArray)).size + a0.size ≤ 9223372036854775807 then (some ((t291 ++ (⟨#[44]⟩ : ByteArray)) ++ a0)) else (none)) else (none)))
theorem sashref02_Put.mono : ∀ a0 k, LeO (sashref02_Put.f k a0) (sashref02_Put.f (k + 1) a0) := by
 intro a0 k
 unfold sashref02_Put.f
 repeat' first
   | (with_reducible exact sashref02_From.mono _ _ _)
   | (with_reducible exact LeO.refl _)
   | (with_reducible exact LeO.none _)
   | (with_reducible refine LeO.ite ?_ ?_)
   | (with_reducible refine LeO.bind ?_ (fun _ => ?_))
   | exact sashref02_From.mono _ _ _
   | exact LeO.none _
   | refine LeO.ite ?_ ?_
   | refine LeO.bind ?_ (fun _ => ?_)
set_option maxHeartbeats 8000000 in
set_option maxRecDepth 100000 in
theorem sashref02_Put.calls (k : Nat) (a0 : ByteArray) (r : ByteArray) (w : World) (h : sashref02_Put.f k a0 = some r) :
  Calls Tryz.prog 11 #[.string a0] w fun e w' => e = .returned (.string r) ∧ Drawn0 w w' := by
 have H : ((sashref02_From.f k 0 a0).bind fun t290 => ((sashref01_Hex.f t290).bind fun t291 => (if t291.size + 1 ≤ 9223372036854775807 then (if (t291 ++ (⟨#[44]⟩ : ByteArray)).size + a0.size ≤ 9223372036854775807 then (some ((t291 ++ (⟨#[44]⟩ : ByteArray)) ++ a0)) else (none)) else (none)))) = some r := h
 clear h
 replace H := Option.bind_eq_some_iff.mp H
 obtain ⟨t290, A20, H⟩ := H
 replace H : ((sashref01_Hex.f t290).bind fun t291 => (if t291.size + 1 ≤ 9223372036854775807 then (if (t291 ++ (⟨#[44]⟩ : ByteArray)).size + a0.size ≤ 9223372036854775807 then (some ((t291 ++ (⟨#[44]⟩ : ByteArray)) ++ a0)) else (none)) else (none))) = some r := H
 have A2 := Aside0.mk A20
 clear A20
 replace H := Option.bind_eq_some_iff.mp H
 obtain ⟨t291, A30, H⟩ := H
 replace H : (if t291.size + 1 ≤ 9223372036854775807 then (if (t291 ++ (⟨#[44]⟩ : ByteArray)).size + a0.size ≤ 9223372036854775807 then (some ((t291 ++ (⟨#[44]⟩ : ByteArray)) ++ a0)) else (none)) else (none)) = some r := H
 have A3 := Aside0.mk A30
 clear A30
 by_cases c4 : t291.size + 1 ≤ 9223372036854775807
 ·rw [if_pos c4] at H
  have c4b0 := eq_true c4
  have c4b1 : decide (t291.size + 1 ≤ 9223372036854775807) = true := decide_eq_true c4
  try have c4b2 : (9223372036854775807 < t291.size + 1) = False := eq_false (Nat.not_lt.2 c4)
  try (have c4s := c4; simp only [ByteArray.size_append, (show (⟨#[120]⟩ : ByteArray).size = 1 from rfl), (show (⟨#[44]⟩ : ByteArray).size = 1 from rfl)] at c4s; have c4s1 := decide_eq_true c4s; have c4s2 := eq_false (Nat.not_lt.2 c4s); have c4s3 := eq_true c4s)
  by_cases c5 : (t291 ++ (⟨#[44]⟩ : ByteArray)).size + a0.size ≤ 9223372036854775807
  ·rw [if_pos c5] at H
   have c5b0 := eq_true c5
   have c5b1 : decide ((t291 ++ (⟨#[44]⟩ : ByteArray)).size + a0.size ≤ 9223372036854775807) = true := decide_eq_true c5
   try have c5b2 : (9223372036854775807 < (t291 ++ (⟨#[44]⟩ : ByteArray)).size + a0.size) = False := eq_false (Nat.not_lt.2 c5)
   try (have c5s := c5; simp only [ByteArray.size_append, (show (⟨#[120]⟩ : ByteArray).size = 1 from rfl), (show (⟨#[44]⟩ : ByteArray).size = 1 from rfl)] at c5s; have c5s1 := decide_eq_true c5s; have c5s2 := eq_false (Nat.not_lt.2 c5s); have c5s3 := eq_true c5s)
   obtain rfl := Option.some.inj H
   go_enter Tryz.func11, Tryz.ntmps11
   go_wp2_with (first | ((with_reducible refine gate_callee (f := 22) rfl ?_); refine goesL_ (some 4) rfl rfl Tryz.func22 (by kernel_rfl) rfl #[.int .u16 0, .string a0] rfl (by (try simp only [List.map_toArray, List.map_cons, List.map_nil]); first | done | rfl | (simp only [List.length_drop, List.length_take]; rfl)) ?_; (with_reducible refine (sashref02_From.calls k 0 a0 t290 _ A2.out).mono ?_); rintro e w' ⟨rfl, ⟨nd, rfl⟩⟩; refine ⟨_, rfl, ?_⟩) | ((with_reducible refine gate_callee (f := 21) rfl ?_); refine goesL_ (some 5) rfl rfl Tryz.func21 (by kernel_rfl) rfl #[.int .u16 t290] rfl (by (try simp only [List.map_toArray, List.map_cons, List.map_nil]); first | done | rfl | (simp only [List.length_drop, List.length_take]; rfl)) ?_; (with_reducible refine (sashref01_Hex.calls t290 t291 _ A3.out).mono ?_); rintro e w' ⟨rfl, ⟨nd, rfl⟩⟩; refine ⟨_, rfl, ?_⟩))
   go_ret
   exact ⟨by first | rfl | (simp; done) | (simp [*]; done), by repeat (first | exact Drawn0.refl _ | apply Drawn0.step)⟩
  ·rw [if_neg c5] at H
   exact absurd H (by simp)
 ·rw [if_neg c4] at H
  exact absurd H (by simp)

mutual
def sashref01_Digits.j0 : Nat → Int → Bool → Option (ByteArray)
 | 0, _, _ => none
 | k + 1, x0, x9 => if x9 = true then (some (⟨#[]⟩ : ByteArray)) else ((sashref01_Digit.f (Int.tmod x0 10)).bind fun t292 => (sashref01_Digits.l0 k x0 t292))
def sashref01_Digits.l0 : Nat → Int → ByteArray → Option (ByteArray)
 | 0, _, _ => none
 | k + 1, x0, x3 => if x0 > 9 then ((sashref01_Digit.f (Int.tmod (wrap64 (Int.tdiv x0 10)) 10)).bind fun t293 => (if t293.size + x3.size ≤ 9223372036854775807 then (sashref01_Digits.l0 k (wrap64 (Int.tdiv x0 10)) (t293 ++ x3)) else (none))) else (some x3)
end
def sashref01_Digits.f (k : Nat) (a0 : Int) : Option (ByteArray) := if a0 < 0 then (sashref01_Digits.j0 k a0 true) else (sashref01_Digits.j0 k a0 (decide (a0 > 2147483647)))
theorem sashref01_Digits.mono_l : ∀ k, (∀ y0 y1, LeO (sashref01_Digits.j0 k y0 y1) (sashref01_Digits.j0 (k + 1) y0 y1)) ∧ (∀ y0 y1, LeO (sashref01_Digits.l0 k y0 y1) (sashref01_Digits.l0 (k + 1) y0 y1))
 | 0 => ⟨fun _ _ r h => by simp [sashref01_Digits.j0] at h, fun _ _ r h => by simp [sashref01_Digits.l0] at h⟩
 | k + 1 => by
  obtain ⟨ih0, ih1⟩ := sashref01_Digits.mono_l k
  refine ⟨?_, ?_⟩
  ·intro y0 y1
   unfold sashref01_Digits.j0
   repeat' first
   | (with_reducible exact ih0 _ _)
   | (with_reducible exact ih1 _ _)
   | (with_reducible exact LeO.refl _)
   | (with_reducible exact LeO.none _)
   | (with_reducible refine LeO.ite ?_ ?_)
   | (with_reducible refine LeO.bind ?_ (fun _ => ?_))
   | exact ih0 _ _
   | exact ih1 _ _
   | exact LeO.none _
   | refine LeO.ite ?_ ?_
   | refine LeO.bind ?_ (fun _ => ?_)
  ·intro y0 y1
   unfold sashref01_Digits.l0
   repeat' first
   | (with_reducible exact ih0 _ _)
   | (with_reducible exact ih1 _ _)
   | (with_reducible exact LeO.refl _)
   | (with_reducible exact LeO.none _)
   | (with_reducible refine LeO.ite ?_ ?_)
   | (with_reducible refine LeO.bind ?_ (fun _ => ?_))
   | exact ih0 _ _
   | exact ih1 _ _
   | exact LeO.none _
   | refine LeO.ite ?_ ?_
   | refine LeO.bind ?_ (fun _ => ?_)
theorem sashref01_Digits.mono : ∀ a0 k, LeO (sashref01_Digits.f k a0) (sashref01_Digits.f (k + 1) a0) := by
 intro a0 k
 obtain ⟨ih0, ih1⟩ := sashref01_Digits.mono_l k
 unfold sashref01_Digits.f
 repeat' first
   | (with_reducible exact ih0 _ _)
   | (with_reducible exact ih1 _ _)
   | (with_reducible exact LeO.refl _)
   | (with_reducible exact LeO.none _)
   | (with_reducible refine LeO.ite ?_ ?_)
   | (with_reducible refine LeO.bind ?_ (fun _ => ?_))
   | exact ih0 _ _
   | exact ih1 _ _
   | exact LeO.none _
   | refine LeO.ite ?_ ?_
   | refine LeO.bind ?_ (fun _ => ?_)
set_option maxHeartbeats 8000000 in
set_option maxRecDepth 100000 in
theorem sashref01_Digits.calls (k : Nat) (a0 : Int) (r : ByteArray) (w : World) (h : sashref01_Digits.f k a0 = some r) :
  Calls Tryz.prog 24 #[.int .i64 a0] w fun e w' => e = .returned (.string r) ∧ Drawn0 w w' := by
 have H : (if a0 < 0 then (sashref01_Digits.j0 k a0 true) else (sashref01_Digits.j0 k a0 (decide (a0 > 2147483647)))) = some r := h
 clear h
 have HC2 := Aside0.mk H
 clear H
 go_enter Tryz.func24, Tryz.ntmps24
 go_upto_region 1 with (fail)
 go_cut [9] (fun v9 wc => ∃ (kq : Nat) (x9_1 : Bool), v9 = .bool x9_1 ∧ Aside0 (sashref01_Digits.j0 kq a0 x9_1 = some r) ∧ Aside0 (kq ≤ k) ∧ Drawn0 w wc)
 case first =>
  have H := HC2.out
  clear HC2
  by_cases c3 : a0 < 0
  ·rw [if_pos c3] at H
   have c3b0 : decide (a0 < 0) = true := decide_eq_true c3
   clear c3
   (first | rw [c3b0] | (simp only [i64_w, i32_w]; rw [c3b0]) | skip)
   have H' := Aside0.mk H
   clear H
   go_wp2
   go_meet
   case rel => exact ⟨_, (true), (by first | rfl | (simp; done) | (simp [*]; done)), H', ⟨by first | omega | exact Nat.le_refl _⟩, by repeat (first | exact Drawn0.refl _ | apply Drawn0.step)⟩
  ·rw [if_neg c3] at H
   have c3b0 : decide (a0 < 0) = false := decide_eq_false c3
   clear c3
   (first | rw [c3b0] | (simp only [i64_w, i32_w]; rw [c3b0]) | skip)
   have H' := Aside0.mk H
   clear H
   go_wp2
   go_meet
   case rel => exact ⟨_, (decide (a0 > 2147483647)), (by first | rfl | (simp; done) | (simp [*]; done)), H', ⟨by first | omega | exact Nat.le_refl _⟩, by repeat (first | exact Drawn0.refl _ | apply Drawn0.step)⟩
 case rest =>
  clear HC2
  try clear c2
  try clear p2
  try clear c3
  try clear c3b0
  obtain ⟨kq, x9_1, rfl, HA, HJ1, ⟨mc1, rfl⟩⟩ := hcut
  cases kq with
  | zero => exact absurd HA.out (by simp [sashref01_Digits.j0])
  | succ kj1 =>
   have H := HA.out
   clear HA
   simp only [sashref01_Digits.j0] at H
   by_cases c4 : x9_1 = true
   ·subst c4
    have H1 : (some (⟨#[]⟩ : ByteArray)) = some r := by rw [if_pos rfl] at H; exact H
    clear H
    have H := H1
    clear H1
    obtain rfl := Option.some.inj H
    go_wp2
    go_ret
    exact ⟨by first | rfl | (simp; done) | (simp [*]; done), by repeat (first | exact Drawn0.refl _ | apply Drawn0.step)⟩
   ·replace c4 := Bool.eq_false_iff.mpr c4
    subst c4
    have H1 : ((sashref01_Digit.f (Int.tmod a0 10)).bind fun t292 => (sashref01_Digits.l0 kj1 a0 t292)) = some r := by rw [if_neg (show ¬ (false = true) by decide)] at H; exact H
    clear H
    have H := H1
    clear H1
    replace H := Option.bind_eq_some_iff.mp H
    obtain ⟨t292, A50, H⟩ := H
    replace H : (sashref01_Digits.l0 kj1 a0 t292) = some r := H
    have A5 := Aside0.mk A50
    clear A50
    have H' := Aside0.mk H
    clear H
    go_wp2_with (first | ((with_reducible refine gate_callee (f := 34) rfl ?_); refine goesL_ (some 12) rfl rfl Tryz.func34 (by kernel_rfl) rfl #[.int .i64 (Int.tmod a0 10)] rfl (by (try simp only [List.map_toArray, List.map_cons, List.map_nil]); first | done | rfl | (simp only [List.length_drop, List.length_take]; rfl)) ?_; (with_reducible refine (sashref01_Digit.calls (Int.tmod a0 10) t292 _ A5.out).mono ?_); rintro e w' ⟨rfl, ⟨nd, rfl⟩⟩; refine ⟨_, rfl, ?_⟩))
    go_loopg [0, 3] kj1 (fun kq v0 v3 w' => ∃ (x0_2 : Int) (x3_2 : ByteArray), v0 = .int .i64 x0_2 ∧ v3 = .string x3_2 ∧ Aside0 (sashref01_Digits.l0 kq x0_2 x3_2 = some r) ∧ Aside0 (kq ≤ kj1) ∧ Drawn0 w w')
    case atStart => exact ⟨(a0), (t292), (by first | rfl | (simp; done) | (simp [*]; done)), (by first | rfl | (simp; done) | (simp [*]; done)), H', ⟨Nat.le_refl _⟩, by repeat (first | exact Drawn0.refl _ | apply Drawn0.step)⟩
    case round =>
     clear H'
     try clear c1
     try clear c2
     try clear p2
     try clear c3
     try clear c3b0
     try clear c4
     try clear p2
     obtain ⟨x0_2, x3_2, rfl, rfl, HA, HK2, ⟨m2, rfl⟩⟩ := hrel
     cases gk with
     | zero => exact absurd HA.out (by simp [sashref01_Digits.l0])
     | succ k2 =>
      have H := HA.out
      clear HA
      simp only [sashref01_Digits.l0] at H
      by_cases c6 : x0_2 > 9
      ·rw [if_pos c6] at H
       have c6b0 : decide (9 < x0_2) = true := decide_eq_true c6
       clear c6
       replace H := Option.bind_eq_some_iff.mp H
       obtain ⟨t293, A70, H⟩ := H
       replace H : (if t293.size + x3_2.size ≤ 9223372036854775807 then (sashref01_Digits.l0 k2 (wrap64 (Int.tdiv x0_2 10)) (t293 ++ x3_2)) else (none)) = some r := H
       have A7 := Aside0.mk A70
       clear A70
       by_cases c8 : t293.size + x3_2.size ≤ 9223372036854775807
       ·rw [if_pos c8] at H
        have c8b0 := eq_true c8
        have c8b1 : decide (t293.size + x3_2.size ≤ 9223372036854775807) = true := decide_eq_true c8
        try have c8b2 : (9223372036854775807 < t293.size + x3_2.size) = False := eq_false (Nat.not_lt.2 c8)
        try (have c8s := c8; simp only [ByteArray.size_append, (show (⟨#[120]⟩ : ByteArray).size = 1 from rfl), (show (⟨#[44]⟩ : ByteArray).size = 1 from rfl)] at c8s; have c8s1 := decide_eq_true c8s; have c8s2 := eq_false (Nat.not_lt.2 c8s); have c8s3 := eq_true c8s)
        have H' := Aside0.mk H
        clear H
        go_wp2_with (first | ((with_reducible refine gate_callee (f := 34) rfl ?_); refine goesL_ (some 19) rfl rfl Tryz.func34 (by kernel_rfl) rfl #[.int .i64 (Int.tmod (wrap64 (Int.tdiv x0_2 10)) 10)] rfl (by (try simp only [List.map_toArray, List.map_cons, List.map_nil]); first | done | rfl | (simp only [List.length_drop, List.length_take]; rfl)) ?_; (with_reducible refine (sashref01_Digit.calls (Int.tmod (wrap64 (Int.tdiv x0_2 10)) 10) t293 _ A7.out).mono ?_); rintro e w' ⟨rfl, ⟨nd, rfl⟩⟩; refine ⟨_, rfl, ?_⟩))
        go_roundg k2
        case measure => have := HJ1.out; have := HK2.out; omega
        case rel => exact ⟨(wrap64 (Int.tdiv x0_2 10)), (t293 ++ x3_2), (by first | rfl | (simp; done) | (simp [*]; done)), (by first | rfl | (simp; done) | (simp [*]; done)), H', ⟨by have := HJ1.out; have := HK2.out; omega⟩, by repeat (first | exact Drawn0.refl _ | apply Drawn0.step)⟩
       ·rw [if_neg c8] at H
        exact absurd H (by simp)
      ·rw [if_neg c6] at H
       have c6b0 : decide (9 < x0_2) = false := decide_eq_false c6
       clear c6
       obtain rfl := Option.some.inj H
       go_wp2
       go_ret
       exact ⟨by first | rfl | (simp; done) | (simp [*]; done), by repeat (first | exact Drawn0.refl _ | apply Drawn0.step)⟩

def sashref10_Head.f (k : Nat) (a0_0 : Int) (a0_1 : Int) (a0_2 : Int) (a0_3 : Int) : Option (ByteArray) := (sashref01_Digits.f k a0_2).bind fun t295 => (if t295.size + 1 ≤ 9223372036854775807 then ((sashref01_Digits.f k a0_3).bind fun t296 => (if (t295 ++ (⟨#[120]⟩ : ByteArray)).size + t296.size ≤ 9223372036854775807 then (if ((t295 ++ (⟨#[120]⟩ : ByteArray)) ++ t296).size + 1 ≤ 9223372036854775807 then ((sashref01_Digits.f k a0_0).bind fun t297 => (if (((t295 ++ (⟨#[120]⟩ : ByteArray)) ++ t296) ++ (⟨#[44]⟩ : ByteArray)).size + t297.size ≤ 9223372036854775807 then (if ((((t295 ++ (⟨#[120]⟩ : ByteArray)) ++ t296) ++ (⟨#[44]⟩ : ByteArray)) ++ t297).size + 1 ≤ 9223372036854775807 then ((sashref01_Digits.f k a0_1).bind fun t298 => (if (((((t295 ++ (⟨#[120]⟩ : ByteArray)) ++ t296) ++ (⟨#[44]⟩ : ByteArray)) ++ t297) ++ (⟨#[44]⟩ : ByteArray)).size + t298.size ≤ 9223372036854775807 then (some ((((((t295 ++ (⟨#[120]⟩ : ByteArray)) ++ t296) ++ (⟨#[44]⟩ : ByteArray)) ++ t297) ++ (⟨#[44]⟩ : ByteArray)) ++ t298)) else (none))) else (none)) else (none))) else (none)) else (none))) else (none))
set_option maxHeartbeats 8000000 in
set_option maxRecDepth 100000 in
theorem sashref10_Head.calls (k : Nat) (a0_0 : Int) (a0_1 : Int) (a0_2 : Int) (a0_3 : Int) (r : ByteArray) (w : World) (h : sashref10_Head.f k a0_0 a0_1 a0_2 a0_3 = some r) :
  Calls Tryz.prog 23 #[.agg #[.int .i64 a0_0, .int .i64 a0_1, .int .i64 a0_2, .int .i64 a0_3]] w fun e w' => e = .returned (.string r) ∧ Below w.heap.size w w' := by
 have hu28 := Tryz.underlying28
 have HB := Aside0.mk (Below.refl w.heap.size w)
 have H : ((sashref01_Digits.f k a0_2).bind fun t295 => (if t295.size + 1 ≤ 9223372036854775807 then ((sashref01_Digits.f k a0_3).bind fun t296 => (if (t295 ++ (⟨#[120]⟩ : ByteArray)).size + t296.size ≤ 9223372036854775807 then (if ((t295 ++ (⟨#[120]⟩ : ByteArray)) ++ t296).size + 1 ≤ 9223372036854775807 then ((sashref01_Digits.f k a0_0).bind fun t297 => (if (((t295 ++ (⟨#[120]⟩ : ByteArray)) ++ t296) ++ (⟨#[44]⟩ : ByteArray)).size + t297.size ≤ 9223372036854775807 then (if ((((t295 ++ (⟨#[120]⟩ : ByteArray)) ++ t296) ++ (⟨#[44]⟩ : ByteArray)) ++ t297).size + 1 ≤ 9223372036854775807 then ((sashref01_Digits.f k a0_1).bind fun t298 => (if (((((t295 ++ (⟨#[120]⟩ : ByteArray)) ++ t296) ++ (⟨#[44]⟩ : ByteArray)) ++ t297) ++ (⟨#[44]⟩ : ByteArray)).size + t298.size ≤ 9223372036854775807 then (some ((((((t295 ++ (⟨#[120]⟩ : ByteArray)) ++ t296) ++ (⟨#[44]⟩ : ByteArray)) ++ t297) ++ (⟨#[44]⟩ : ByteArray)) ++ t298)) else (none))) else (none)) else (none))) else (none)) else (none))) else (none))) = some r := h
 clear h
 replace H := Option.bind_eq_some_iff.mp H
 obtain ⟨t295, A20, H⟩ := H
 replace H : (if t295.size + 1 ≤ 9223372036854775807 then ((sashref01_Digits.f k a0_3).bind fun t296 => (if (t295 ++ (⟨#[120]⟩ : ByteArray)).size + t296.size ≤ 9223372036854775807 then (if ((t295 ++ (⟨#[120]⟩ : ByteArray)) ++ t296).size + 1 ≤ 9223372036854775807 then ((sashref01_Digits.f k a0_0).bind fun t297 => (if (((t295 ++ (⟨#[120]⟩ : ByteArray)) ++ t296) ++ (⟨#[44]⟩ : ByteArray)).size + t297.size ≤ 9223372036854775807 then (if ((((t295 ++ (⟨#[120]⟩ : ByteArray)) ++ t296) ++ (⟨#[44]⟩ : ByteArray)) ++ t297).size + 1 ≤ 9223372036854775807 then ((sashref01_Digits.f k a0_1).bind fun t298 => (if (((((t295 ++ (⟨#[120]⟩ : ByteArray)) ++ t296) ++ (⟨#[44]⟩ : ByteArray)) ++ t297) ++ (⟨#[44]⟩ : ByteArray)).size + t298.size ≤ 9223372036854775807 then (some ((((((t295 ++ (⟨#[120]⟩ : ByteArray)) ++ t296) ++ (⟨#[44]⟩ : ByteArray)) ++ t297) ++ (⟨#[44]⟩ : ByteArray)) ++ t298)) else (none))) else (none)) else (none))) else (none)) else (none))) else (none)) = some r := H
 have A2 := Aside0.mk A20
 clear A20
 by_cases c3 : t295.size + 1 ≤ 9223372036854775807
 ·rw [if_pos c3] at H
  have c3b0 := eq_true c3
  have c3b1 : decide (t295.size + 1 ≤ 9223372036854775807) = true := decide_eq_true c3
  try have c3b2 : (9223372036854775807 < t295.size + 1) = False := eq_false (Nat.not_lt.2 c3)
  try (have c3s := c3; simp only [ByteArray.size_append, (show (⟨#[120]⟩ : ByteArray).size = 1 from rfl), (show (⟨#[44]⟩ : ByteArray).size = 1 from rfl)] at c3s; have c3s1 := decide_eq_true c3s; have c3s2 := eq_false (Nat.not_lt.2 c3s); have c3s3 := eq_true c3s)
  replace H := Option.bind_eq_some_iff.mp H
  obtain ⟨t296, A40, H⟩ := H
  replace H : (if (t295 ++ (⟨#[120]⟩ : ByteArray)).size + t296.size ≤ 9223372036854775807 then (if ((t295 ++ (⟨#[120]⟩ : ByteArray)) ++ t296).size + 1 ≤ 9223372036854775807 then ((sashref01_Digits.f k a0_0).bind fun t297 => (if (((t295 ++ (⟨#[120]⟩ : ByteArray)) ++ t296) ++ (⟨#[44]⟩ : ByteArray)).size + t297.size ≤ 9223372036854775807 then (if ((((t295 ++ (⟨#[120]⟩ : ByteArray)) ++ t296) ++ (⟨#[44]⟩ : ByteArray)) ++ t297).size + 1 ≤ 9223372036854775807 then ((sashref01_Digits.f k a0_1).bind fun t298 => (if (((((t295 ++ (⟨#[120]⟩ : ByteArray)) ++ t296) ++ (⟨#[44]⟩ : ByteArray)) ++ t297) ++ (⟨#[44]⟩ : ByteArray)).size + t298.size ≤ 9223372036854775807 then (some ((((((t295 ++ (⟨#[120]⟩ : ByteArray)) ++ t296) ++ (⟨#[44]⟩ : ByteArray)) ++ t297) ++ (⟨#[44]⟩ : ByteArray)) ++ t298)) else (none))) else (none)) else (none))) else (none)) else (none)) = some r := H
  have A4 := Aside0.mk A40
  clear A40
  by_cases c5 : (t295 ++ (⟨#[120]⟩ : ByteArray)).size + t296.size ≤ 9223372036854775807
  ·rw [if_pos c5] at H
   have c5b0 := eq_true c5
   have c5b1 : decide ((t295 ++ (⟨#[120]⟩ : ByteArray)).size + t296.size ≤ 9223372036854775807) = true := decide_eq_true c5
   try have c5b2 : (9223372036854775807 < (t295 ++ (⟨#[120]⟩ : ByteArray)).size + t296.size) = False := eq_false (Nat.not_lt.2 c5)
   try (have c5s := c5; simp only [ByteArray.size_append, (show (⟨#[120]⟩ : ByteArray).size = 1 from rfl), (show (⟨#[44]⟩ : ByteArray).size = 1 from rfl)] at c5s; have c5s1 := decide_eq_true c5s; have c5s2 := eq_false (Nat.not_lt.2 c5s); have c5s3 := eq_true c5s)
   by_cases c6 : ((t295 ++ (⟨#[120]⟩ : ByteArray)) ++ t296).size + 1 ≤ 9223372036854775807
   ·rw [if_pos c6] at H
    have c6b0 := eq_true c6
    have c6b1 : decide (((t295 ++ (⟨#[120]⟩ : ByteArray)) ++ t296).size + 1 ≤ 9223372036854775807) = true := decide_eq_true c6
    try have c6b2 : (9223372036854775807 < ((t295 ++ (⟨#[120]⟩ : ByteArray)) ++ t296).size + 1) = False := eq_false (Nat.not_lt.2 c6)
    try (have c6s := c6; simp only [ByteArray.size_append, (show (⟨#[120]⟩ : ByteArray).size = 1 from rfl), (show (⟨#[44]⟩ : ByteArray).size = 1 from rfl)] at c6s; have c6s1 := decide_eq_true c6s; have c6s2 := eq_false (Nat.not_lt.2 c6s); have c6s3 := eq_true c6s)
    replace H := Option.bind_eq_some_iff.mp H
    obtain ⟨t297, A70, H⟩ := H
    replace H : (if (((t295 ++ (⟨#[120]⟩ : ByteArray)) ++ t296) ++ (⟨#[44]⟩ : ByteArray)).size + t297.size ≤ 9223372036854775807 then (if ((((t295 ++ (⟨#[120]⟩ : ByteArray)) ++ t296) ++ (⟨#[44]⟩ : ByteArray)) ++ t297).size + 1 ≤ 9223372036854775807 then ((sashref01_Digits.f k a0_1).bind fun t298 => (if (((((t295 ++ (⟨#[120]⟩ : ByteArray)) ++ t296) ++ (⟨#[44]⟩ : ByteArray)) ++ t297) ++ (⟨#[44]⟩ : ByteArray)).size + t298.size ≤ 9223372036854775807 then (some ((((((t295 ++ (⟨#[120]⟩ : ByteArray)) ++ t296) ++ (⟨#[44]⟩ : ByteArray)) ++ t297) ++ (⟨#[44]⟩ : ByteArray)) ++ t298)) else (none))) else (none)) else (none)) = some r := H
    have A7 := Aside0.mk A70
    clear A70
    by_cases c8 : (((t295 ++ (⟨#[120]⟩ : ByteArray)) ++ t296) ++ (⟨#[44]⟩ : ByteArray)).size + t297.size ≤ 9223372036854775807
    ·rw [if_pos c8] at H
     have c8b0 := eq_true c8
     have c8b1 : decide ((((t295 ++ (⟨#[120]⟩ : ByteArray)) ++ t296) ++ (⟨#[44]⟩ : ByteArray)).size + t297.size ≤ 9223372036854775807) = true := decide_eq_true c8
     try have c8b2 : (9223372036854775807 < (((t295 ++ (⟨#[120]⟩ : ByteArray)) ++ t296) ++ (⟨#[44]⟩ : ByteArray)).size + t297.size) = False := eq_false (Nat.not_lt.2 c8)
     try (have c8s := c8; simp only [ByteArray.size_append, (show (⟨#[120]⟩ : ByteArray).size = 1 from rfl), (show (⟨#[44]⟩ : ByteArray).size = 1 from rfl)] at c8s; have c8s1 := decide_eq_true c8s; have c8s2 := eq_false (Nat.not_lt.2 c8s); have c8s3 := eq_true c8s)
     by_cases c9 : ((((t295 ++ (⟨#[120]⟩ : ByteArray)) ++ t296) ++ (⟨#[44]⟩ : ByteArray)) ++ t297).size + 1 ≤ 9223372036854775807
     ·rw [if_pos c9] at H
      have c9b0 := eq_true c9
      have c9b1 : decide (((((t295 ++ (⟨#[120]⟩ : ByteArray)) ++ t296) ++ (⟨#[44]⟩ : ByteArray)) ++ t297).size + 1 ≤ 9223372036854775807) = true := decide_eq_true c9
      try have c9b2 : (9223372036854775807 < ((((t295 ++ (⟨#[120]⟩ : ByteArray)) ++ t296) ++ (⟨#[44]⟩ : ByteArray)) ++ t297).size + 1) = False := eq_false (Nat.not_lt.2 c9)
      try (have c9s := c9; simp only [ByteArray.size_append, (show (⟨#[120]⟩ : ByteArray).size = 1 from rfl), (show (⟨#[44]⟩ : ByteArray).size = 1 from rfl)] at c9s; have c9s1 := decide_eq_true c9s; have c9s2 := eq_false (Nat.not_lt.2 c9s); have c9s3 := eq_true c9s)
      replace H := Option.bind_eq_some_iff.mp H
      obtain ⟨t298, A100, H⟩ := H
      replace H : (if (((((t295 ++ (⟨#[120]⟩ : ByteArray)) ++ t296) ++ (⟨#[44]⟩ : ByteArray)) ++ t297) ++ (⟨#[44]⟩ : ByteArray)).size + t298.size ≤ 9223372036854775807 then (some ((((((t295 ++ (⟨#[120]⟩ : ByteArray)) ++ t296) ++ (⟨#[44]⟩ : ByteArray)) ++ t297) ++ (⟨#[44]⟩ : ByteArray)) ++ t298)) else (none)) = some r := H
      have A10 := Aside0.mk A100
      clear A100
      by_cases c11 : (((((t295 ++ (⟨#[120]⟩ : ByteArray)) ++ t296) ++ (⟨#[44]⟩ : ByteArray)) ++ t297) ++ (⟨#[44]⟩ : ByteArray)).size + t298.size ≤ 9223372036854775807
      ·rw [if_pos c11] at H
       have c11b0 := eq_true c11
       have c11b1 : decide ((((((t295 ++ (⟨#[120]⟩ : ByteArray)) ++ t296) ++ (⟨#[44]⟩ : ByteArray)) ++ t297) ++ (⟨#[44]⟩ : ByteArray)).size + t298.size ≤ 9223372036854775807) = true := decide_eq_true c11
       try have c11b2 : (9223372036854775807 < (((((t295 ++ (⟨#[120]⟩ : ByteArray)) ++ t296) ++ (⟨#[44]⟩ : ByteArray)) ++ t297) ++ (⟨#[44]⟩ : ByteArray)).size + t298.size) = False := eq_false (Nat.not_lt.2 c11)
       try (have c11s := c11; simp only [ByteArray.size_append, (show (⟨#[120]⟩ : ByteArray).size = 1 from rfl), (show (⟨#[44]⟩ : ByteArray).size = 1 from rfl)] at c11s; have c11s1 := decide_eq_true c11s; have c11s2 := eq_false (Nat.not_lt.2 c11s); have c11s3 := eq_true c11s)
       obtain rfl := Option.some.inj H
       go_enter Tryz.func23, Tryz.ntmps23
       go_wp2_with (first | ((with_reducible refine gate_dst (N := 1) rfl ?_); refine box_event ?hg (N := 1) ?hd (cs := #[.int .i64 a0_0, .int .i64 a0_1, .int .i64 a0_2, .int .i64 a0_3]) (t := 28) ?hr ?_; (case hd => rfl); (case hg => rfl); (case hr => first | (go_simp; done) | (go_simp; rfl)); intro gb294 hg w12 hbox hb; have n0_ := Aside0.mk (below_step (by repeat (first | (with_reducible first | exact HB.out | apply below_alloc | apply pw_below_drewN | apply below_drew1) | exact HB.out)) hb); have n1_ := Aside0.mk (hbox); have n2_ := Aside0.mk ((by rw [hg]; exact (below_size (by repeat (first | (with_reducible first | exact HB.out | apply below_alloc | apply pw_below_drewN | apply below_drew1) | exact HB.out))) : w.heap.size ≤ gb294)); have n3_ := Aside0.mk ((by rw [hg]; exact (below_size (by repeat (first | (with_reducible first | exact HB.out | apply below_alloc | apply pw_below_drewN | apply below_drew1) | exact HB.out))) : w.heap.size ≤ gb294)); clear HB; have HB := n0_; have BK294 := n1_; have GW294 := n2_; have GE294 := n3_; clear n0_ n1_ n2_ n3_; clear hb hbox hg; have hcz13_0 : w12.cell? ⟨gb294, 0, none⟩ = some (.int .i64 a0_0) := (blk_cell BK294.out 0).trans rfl; have hcz13_1 : w12.cell? ⟨gb294, 1, none⟩ = some (.int .i64 a0_1) := (blk_cell BK294.out 1).trans rfl; have hcz13_2 : w12.cell? ⟨gb294, 2, none⟩ = some (.int .i64 a0_2) := (blk_cell BK294.out 2).trans rfl; have hcz13_3 : w12.cell? ⟨gb294, 3, none⟩ = some (.int .i64 a0_3) := (blk_cell BK294.out 3).trans rfl; have hfz13_0 := blk_frozen BK294.out 0; have hfz13_1 := blk_frozen BK294.out 1; have hfz13_2 := blk_frozen BK294.out 2; have hfz13_3 := blk_frozen BK294.out 3) | (go_at_call 24; (with_reducible refine (sashref01_Digits.calls k a0_2 t295 _ A2.out).mono ?_); rintro e w' ⟨rfl, ⟨nd, rfl⟩⟩; (try first | exact ⟨rfl, _, World.drewN_drewN _ _ _⟩ | exact ⟨rfl, _, Eq.trans (World.drewN_drewN _ _ _) (congrArg (World.drewN _) (Nat.add_assoc _ _ _))⟩)) | (go_at_call 24; (with_reducible refine (sashref01_Digits.calls k a0_3 t296 _ A4.out).mono ?_); rintro e w' ⟨rfl, ⟨nd, rfl⟩⟩; (try first | exact ⟨rfl, _, World.drewN_drewN _ _ _⟩ | exact ⟨rfl, _, Eq.trans (World.drewN_drewN _ _ _) (congrArg (World.drewN _) (Nat.add_assoc _ _ _))⟩)) | (go_at_call 24; (with_reducible refine (sashref01_Digits.calls k a0_0 t297 _ A7.out).mono ?_); rintro e w' ⟨rfl, ⟨nd, rfl⟩⟩; (try first | exact ⟨rfl, _, World.drewN_drewN _ _ _⟩ | exact ⟨rfl, _, Eq.trans (World.drewN_drewN _ _ _) (congrArg (World.drewN _) (Nat.add_assoc _ _ _))⟩)) | (go_at_call 24; (with_reducible refine (sashref01_Digits.calls k a0_1 t298 _ A10.out).mono ?_); rintro e w' ⟨rfl, ⟨nd, rfl⟩⟩; (try first | exact ⟨rfl, _, World.drewN_drewN _ _ _⟩ | exact ⟨rfl, _, Eq.trans (World.drewN_drewN _ _ _) (congrArg (World.drewN _) (Nat.add_assoc _ _ _))⟩)))
       repeat (go_quiet (first | ((with_reducible refine gate_dst (N := 1) rfl ?_); refine box_event ?hg (N := 1) ?hd (cs := #[.int .i64 a0_0, .int .i64 a0_1, .int .i64 a0_2, .int .i64 a0_3]) (t := 28) ?hr ?_; (case hd => rfl); (case hg => rfl); (case hr => first | (go_simp; done) | (go_simp; rfl)); intro gb294 hg w12 hbox hb; have n0_ := Aside0.mk (below_step (by repeat (first | (with_reducible first | exact HB.out | apply below_alloc | apply pw_below_drewN | apply below_drew1) | exact HB.out)) hb); have n1_ := Aside0.mk (hbox); have n2_ := Aside0.mk ((by rw [hg]; exact (below_size (by repeat (first | (with_reducible first | exact HB.out | apply below_alloc | apply pw_below_drewN | apply below_drew1) | exact HB.out))) : w.heap.size ≤ gb294)); have n3_ := Aside0.mk ((by rw [hg]; exact (below_size (by repeat (first | (with_reducible first | exact HB.out | apply below_alloc | apply pw_below_drewN | apply below_drew1) | exact HB.out))) : w.heap.size ≤ gb294)); clear HB; have HB := n0_; have BK294 := n1_; have GW294 := n2_; have GE294 := n3_; clear n0_ n1_ n2_ n3_; clear hb hbox hg; have hcz13_0 : w12.cell? ⟨gb294, 0, none⟩ = some (.int .i64 a0_0) := (blk_cell BK294.out 0).trans rfl; have hcz13_1 : w12.cell? ⟨gb294, 1, none⟩ = some (.int .i64 a0_1) := (blk_cell BK294.out 1).trans rfl; have hcz13_2 : w12.cell? ⟨gb294, 2, none⟩ = some (.int .i64 a0_2) := (blk_cell BK294.out 2).trans rfl; have hcz13_3 : w12.cell? ⟨gb294, 3, none⟩ = some (.int .i64 a0_3) := (blk_cell BK294.out 3).trans rfl; have hfz13_0 := blk_frozen BK294.out 0; have hfz13_1 := blk_frozen BK294.out 1; have hfz13_2 := blk_frozen BK294.out 2; have hfz13_3 := blk_frozen BK294.out 3) | (go_at_call 24; (with_reducible refine (sashref01_Digits.calls k a0_2 t295 _ A2.out).mono ?_); rintro e w' ⟨rfl, ⟨nd, rfl⟩⟩; (try first | exact ⟨rfl, _, World.drewN_drewN _ _ _⟩ | exact ⟨rfl, _, Eq.trans (World.drewN_drewN _ _ _) (congrArg (World.drewN _) (Nat.add_assoc _ _ _))⟩)) | (go_at_call 24; (with_reducible refine (sashref01_Digits.calls k a0_3 t296 _ A4.out).mono ?_); rintro e w' ⟨rfl, ⟨nd, rfl⟩⟩; (try first | exact ⟨rfl, _, World.drewN_drewN _ _ _⟩ | exact ⟨rfl, _, Eq.trans (World.drewN_drewN _ _ _) (congrArg (World.drewN _) (Nat.add_assoc _ _ _))⟩)) | (go_at_call 24; (with_reducible refine (sashref01_Digits.calls k a0_0 t297 _ A7.out).mono ?_); rintro e w' ⟨rfl, ⟨nd, rfl⟩⟩; (try first | exact ⟨rfl, _, World.drewN_drewN _ _ _⟩ | exact ⟨rfl, _, Eq.trans (World.drewN_drewN _ _ _) (congrArg (World.drewN _) (Nat.add_assoc _ _ _))⟩)) | (go_at_call 24; (with_reducible refine (sashref01_Digits.calls k a0_1 t298 _ A10.out).mono ?_); rintro e w' ⟨rfl, ⟨nd, rfl⟩⟩; (try first | exact ⟨rfl, _, World.drewN_drewN _ _ _⟩ | exact ⟨rfl, _, Eq.trans (World.drewN_drewN _ _ _) (congrArg (World.drewN _) (Nat.add_assoc _ _ _))⟩))); try go_wp2_with (first | ((with_reducible refine gate_dst (N := 1) rfl ?_); refine box_event ?hg (N := 1) ?hd (cs := #[.int .i64 a0_0, .int .i64 a0_1, .int .i64 a0_2, .int .i64 a0_3]) (t := 28) ?hr ?_; (case hd => rfl); (case hg => rfl); (case hr => first | (go_simp; done) | (go_simp; rfl)); intro gb294 hg w12 hbox hb; have n0_ := Aside0.mk (below_step (by repeat (first | (with_reducible first | exact HB.out | apply below_alloc | apply pw_below_drewN | apply below_drew1) | exact HB.out)) hb); have n1_ := Aside0.mk (hbox); have n2_ := Aside0.mk ((by rw [hg]; exact (below_size (by repeat (first | (with_reducible first | exact HB.out | apply below_alloc | apply pw_below_drewN | apply below_drew1) | exact HB.out))) : w.heap.size ≤ gb294)); have n3_ := Aside0.mk ((by rw [hg]; exact (below_size (by repeat (first | (with_reducible first | exact HB.out | apply below_alloc | apply pw_below_drewN | apply below_drew1) | exact HB.out))) : w.heap.size ≤ gb294)); clear HB; have HB := n0_; have BK294 := n1_; have GW294 := n2_; have GE294 := n3_; clear n0_ n1_ n2_ n3_; clear hb hbox hg; have hcz13_0 : w12.cell? ⟨gb294, 0, none⟩ = some (.int .i64 a0_0) := (blk_cell BK294.out 0).trans rfl; have hcz13_1 : w12.cell? ⟨gb294, 1, none⟩ = some (.int .i64 a0_1) := (blk_cell BK294.out 1).trans rfl; have hcz13_2 : w12.cell? ⟨gb294, 2, none⟩ = some (.int .i64 a0_2) := (blk_cell BK294.out 2).trans rfl; have hcz13_3 : w12.cell? ⟨gb294, 3, none⟩ = some (.int .i64 a0_3) := (blk_cell BK294.out 3).trans rfl; have hfz13_0 := blk_frozen BK294.out 0; have hfz13_1 := blk_frozen BK294.out 1; have hfz13_2 := blk_frozen BK294.out 2; have hfz13_3 := blk_frozen BK294.out 3) | (go_at_call 24; (with_reducible refine (sashref01_Digits.calls k a0_2 t295 _ A2.out).mono ?_); rintro e w' ⟨rfl, ⟨nd, rfl⟩⟩; (try first | exact ⟨rfl, _, World.drewN_drewN _ _ _⟩ | exact ⟨rfl, _, Eq.trans (World.drewN_drewN _ _ _) (congrArg (World.drewN _) (Nat.add_assoc _ _ _))⟩)) | (go_at_call 24; (with_reducible refine (sashref01_Digits.calls k a0_3 t296 _ A4.out).mono ?_); rintro e w' ⟨rfl, ⟨nd, rfl⟩⟩; (try first | exact ⟨rfl, _, World.drewN_drewN _ _ _⟩ | exact ⟨rfl, _, Eq.trans (World.drewN_drewN _ _ _) (congrArg (World.drewN _) (Nat.add_assoc _ _ _))⟩)) | (go_at_call 24; (with_reducible refine (sashref01_Digits.calls k a0_0 t297 _ A7.out).mono ?_); rintro e w' ⟨rfl, ⟨nd, rfl⟩⟩; (try first | exact ⟨rfl, _, World.drewN_drewN _ _ _⟩ | exact ⟨rfl, _, Eq.trans (World.drewN_drewN _ _ _) (congrArg (World.drewN _) (Nat.add_assoc _ _ _))⟩)) | (go_at_call 24; (with_reducible refine (sashref01_Digits.calls k a0_1 t298 _ A10.out).mono ?_); rintro e w' ⟨rfl, ⟨nd, rfl⟩⟩; (try first | exact ⟨rfl, _, World.drewN_drewN _ _ _⟩ | exact ⟨rfl, _, Eq.trans (World.drewN_drewN _ _ _) (congrArg (World.drewN _) (Nat.add_assoc _ _ _))⟩))))
       go_ret
       exact ⟨by first | rfl | (simp [errW_none, errW_some] <;> rfl) | (simp [*, errW_none, errW_some] <;> rfl), by repeat (first | (with_reducible first | exact HB.out | apply below_alloc | apply pw_below_drewN | apply below_drew1 | refine below_set ?_ GE294.out) | exact HB.out)⟩
      ·rw [if_neg c11] at H
       exact absurd H (by simp)
     ·rw [if_neg c9] at H
      exact absurd H (by simp)
    ·rw [if_neg c8] at H
     exact absurd H (by simp)
   ·rw [if_neg c6] at H
    exact absurd H (by simp)
  ·rw [if_neg c5] at H
   exact absurd H (by simp)
 ·rw [if_neg c3] at H
  exact absurd H (by simp)

end Go.Proofs.YtakhnigalkjhhaaGreatDoor.PPrintFits
