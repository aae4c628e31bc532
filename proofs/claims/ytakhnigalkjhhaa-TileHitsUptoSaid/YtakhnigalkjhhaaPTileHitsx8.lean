/- Printed texts of this seat, cut to what is used. -/
import Derived.Test.YtakhnigalkjhhaaPTileHitsx0
import Derived.Test.YtakhnigalkjhhaaPTileHitsx3
import Derived.Test.YtakhnigalkjhhaaPTileHitsx4
import Derived.Test.YtakhnigalkjhhaaPTileHitsx7
namespace Go.Proofs.Ytakhnigalkjhhaa.PTileHits
open Go.RowKit Go.Proofs.YtakhnigalkjhhaaW.PrintWords Go.Proofs.YtakhnigalkjhhaaW.PrintLast Go.Proofs.YtakhnigalkjhhaaW.PrintMore
attribute [local go_sem] max2_int min2_int max_two min_two max_three min_three max_four min_four   -- for this text's walks alone
set_option linter.unusedVariables false
set_option linter.unusedSimpArgs false

def sashref06_Check.l0 : Nat → List (S27) → List (S29) → List (S27) → Int → Int → Option ((List (S27)) × Int × Int)
  | 0, _, _, _, _, _ => none
  | k + 1, x5, x6, x7, x20, x21 => if x21 < x20 then (if 0 ≤ x21 then (if x21 < (x6.length : Int) then ((sashref06_one.f k ((rd_T29 x6 x21).f0) ((rd_T29 x6 x21).f1.f0) ((rd_T29 x6 x21).f1.f1) ((rd_T29 x6 x21).f1.f2) ((rd_T29 x6 x21).f1.f3) ((rd_T29 x6 x21).f2) ((rd_T29 x6 x21).f3)).bind fun bt307 => (if bt307.2 = true then (if x7.length + bt307.1.length < 4398046511104 then (sashref06_Check.l0 k x5 x6 (x7 ++ bt307.1) x20 (wrap64 (x21 + 1))) else (none)) else (some (x5, 5, x21)))) else (none)) else (none)) else (some (x7, 0, 0))
def sashref06_Check.f (k : Nat) (a0_0 : Int) (a0_1 : Int) (a0_2 : Int) (a0_3 : Int) (a0_4 : Int) (a0_5 : Int) (l0_6 : List (S29)) : Option ((List (S27)) × Int × Int) := (some (([] : List (S27)) : List (S27))).bind fun y296 => ((sashref05_May.f k a0_0 a0_1 a0_2 a0_3 a0_4 a0_5 l0_6).bind fun t299 => (if t299 = true then ((sashref05_All.f k a0_0 a0_1 a0_2 a0_3 a0_4 a0_5 l0_6).bind fun t300 => (sashref06_Check.l0 k y296 t300 (([] : List (S27))) (t300.length : Int) 0)) else (some (y296, 1, 0))))
set_option maxHeartbeats 8000000 in
set_option maxRecDepth 100000 in
theorem sashref06_Check.calls (k : Nat) (a0_0 : Int) (a0_1 : Int) (a0_2 : Int) (a0_3 : Int) (a0_4 : Int) (a0_5 : Int) (A0_6 : Option Addr) (c0_6 : Nat) (l0_6 : List (S29)) (r1 : List (S27)) (r2 : Int) (r3 : Int) (w : World) (hr0_6 : Kd.C k29 w A0_6 l0_6.length l0_6) (hc0_6 : l0_6.length ≤ c0_6) (h : sashref06_Check.f k a0_0 a0_1 a0_2 a0_3 a0_4 a0_5 l0_6 = some (r1, r2, r3)) :
    Calls Try.prog 20 #[.agg #[.int .u8 a0_0, .int .i64 a0_1, .int .i64 a0_2, .int .i64 a0_3, .int .i64 a0_4, .int .i64 a0_5, .slice A0_6 l0_6.length c0_6]] w fun e w' => ∃ v0_ : Value, e = .returned (.tuple #[v0_, .int .i64 r2, .int .i64 r3]) ∧ Kd.R k27 27 w' w.heap.size (fun _ => True) v0_ r1 ∧ Below w.heap.size w w' := by
  have hu29 := Try.underlying29
  have HR0_6 := Aside0.mk hr0_6
  have HC0_6 := Aside0.mk hc0_6
  clear hr0_6 hc0_6
  have HB := Aside0.mk (Below.refl w.heap.size w)
  have H : ((some (([] : List (S27)) : List (S27))).bind fun y296 => ((sashref05_May.f k a0_0 a0_1 a0_2 a0_3 a0_4 a0_5 l0_6).bind fun t299 => (if t299 = true then ((sashref05_All.f k a0_0 a0_1 a0_2 a0_3 a0_4 a0_5 l0_6).bind fun t300 => (sashref06_Check.l0 k y296 t300 (([] : List (S27))) (t300.length : Int) 0)) else (some (y296, 1, 0))))) = some (r1, r2, r3) := h
  clear h
  obtain ⟨y296, hy296⟩ : ∃ y_ : List (S27), y_ = (([] : List (S27))) := ⟨_, rfl⟩
  replace H : ((sashref05_May.f k a0_0 a0_1 a0_2 a0_3 a0_4 a0_5 l0_6).bind fun t299 => (if t299 = true then ((sashref05_All.f k a0_0 a0_1 a0_2 a0_3 a0_4 a0_5 l0_6).bind fun t300 => (sashref06_Check.l0 k y296 t300 (([] : List (S27))) (t300.length : Int) 0)) else (some (y296, 1, 0)))) = some (r1, r2, r3) := by first | (rw [hy296]; with_reducible exact H) | (have H2_ := (Option.bind_some _ _).symm.trans H; rw [hy296]; with_reducible exact H2_) | (have H2_ := (Option.bind_some _ _).symm.trans H; with_reducible exact H2_) | with_reducible exact H | (rw [hy296]; exact H) | exact H
  have Ny296 := Aside0.mk hy296
  clear hy296
  replace H := Option.bind_eq_some_iff.mp H
  obtain ⟨t299, A20, H⟩ := H
  replace H : (if t299 = true then ((sashref05_All.f k a0_0 a0_1 a0_2 a0_3 a0_4 a0_5 l0_6).bind fun t300 => (sashref06_Check.l0 k y296 t300 (([] : List (S27))) (t300.length : Int) 0)) else (some (y296, 1, 0))) = some (r1, r2, r3) := H
  have A2 := Aside0.mk A20
  clear A20
  by_cases c3 : t299 = true
  · subst c3
    have H1 : ((sashref05_All.f k a0_0 a0_1 a0_2 a0_3 a0_4 a0_5 l0_6).bind fun t300 => (sashref06_Check.l0 k y296 t300 (([] : List (S27))) (t300.length : Int) 0)) = some (r1, r2, r3) := by rw [if_pos rfl] at H; exact H
    clear H
    have H := H1
    clear H1
    replace H := Option.bind_eq_some_iff.mp H
    obtain ⟨t300, A40, H⟩ := H
    replace H : (sashref06_Check.l0 k y296 t300 (([] : List (S27))) (t300.length : Int) 0) = some (r1, r2, r3) := H
    have A4 := Aside0.mk A40
    clear A40
    obtain ⟨y303, hy303⟩ : ∃ y_ : List (S27), y_ = (([] : List (S27))) := ⟨_, rfl⟩
    replace H : (sashref06_Check.l0 k y296 t300 y303 (t300.length : Int) 0) = some (r1, r2, r3) := by first | (rw [hy303]; with_reducible exact H) | (have H2_ := (Option.bind_some _ _).symm.trans H; rw [hy303]; with_reducible exact H2_) | (have H2_ := (Option.bind_some _ _).symm.trans H; with_reducible exact H2_) | with_reducible exact H | (rw [hy303]; exact H) | exact H
    have Ny303 := Aside0.mk hy303
    clear hy303
    have H' := Aside0.mk H
    clear H
    go_enter Try.func20, Try.ntmps20
    go_wp2_with (first | ((with_reducible refine gate_dst (N := 1) rfl ?_); refine box_event ?hg (N := 1) ?hd (cs := #[.int .u8 a0_0, .int .i64 a0_1, .int .i64 a0_2, .int .i64 a0_3, .int .i64 a0_4, .int .i64 a0_5, .slice A0_6 l0_6.length c0_6]) (t := 29) ?hr ?_; (case hd => rfl); (case hg => rfl); (case hr => first | (go_simp; done) | (go_simp; rfl)); intro gb295 hg w5 hbox hb; have n0_ := Aside0.mk (below_step (by repeat (first | (with_reducible first | exact HB.out | apply below_alloc | apply pw_below_drewN | apply below_drew1) | exact HB.out)) hb); have n1_ := Aside0.mk (hbox); have n2_ := Aside0.mk ((by rw [hg]; exact (below_size (by repeat (first | (with_reducible first | exact HB.out | apply below_alloc | apply pw_below_drewN | apply below_drew1) | exact HB.out))) : w.heap.size ≤ gb295)); have n3_ := Aside0.mk ((by rw [hg]; exact (below_size (by repeat (first | (with_reducible first | exact HB.out | apply below_alloc | apply pw_below_drewN | apply below_drew1) | exact HB.out))) : w.heap.size ≤ gb295)); clear HB; have HB := n0_; have BK295 := n1_; have GW295 := n2_; have GE295 := n3_; clear n0_ n1_ n2_ n3_; clear hb hbox hg) | ((with_reducible refine gate_dst (N := 11) rfl ?_); refine Kd.R_lit k27 _ 27 ?hg (N := 11) ?hd (xs := ([] : List (S27))) (inner := []) (ok := fun _ => True) (okp := fun _ => True) ?hr ?hp (fun _ hk => hk) trivial (Below.refl _ _) (Nat.le_refl _) (by simp) ?_; (case hd => rfl); (case hg => rfl); (case hr => first | (go_simp; done) | (go_simp; rfl)); (case hp => exact (Reps.none _ _)); intro v297 w6 ho7 hb hg_ hnew_; clear hg_ hnew_; (first | rw [← Ny296.out] at ho7 | (simp only [Int.reduceToNat] at ho7; rw [← Ny296.out] at ho7)); have n0_ := Aside0.mk (Kd.R_lower ho7 (below_size (by repeat (first | (with_reducible first | exact HB.out | apply below_alloc | apply pw_below_drewN | apply below_drew1 | refine below_set ?_ GE295.out) | exact HB.out)))); have n1_ := Aside0.mk (blk_below (g := gb295) (o := .cells #[.int .u8 a0_0, .int .i64 a0_1, .int .i64 a0_2, .int .i64 a0_3, .int .i64 a0_4, .int .i64 a0_5, .slice A0_6 l0_6.length c0_6] 29 (0, 0)) (by (with_reducible repeat (first | refine blk_drewN ?_ _ | refine blk_drew ?_ | refine blk_alloc ?_ _)); exact BK295.out) hb); have n2_ := Aside0.mk (below_step (by repeat (first | (with_reducible first | exact HB.out | apply below_alloc | apply pw_below_drewN | apply below_drew1 | refine below_set ?_ GE295.out) | exact HB.out)) hb); clear BK295; clear HB; have HO298 := n0_; have BK295 := n1_; have HB := n2_; clear n0_ n1_ n2_; clear hb ho7; have hcz8_0 : w6.cell? ⟨gb295, 0, none⟩ = some (.int .u8 a0_0) := (blk_cell BK295.out 0).trans rfl; have hcz8_1 : w6.cell? ⟨gb295, 1, none⟩ = some (.int .i64 a0_1) := (blk_cell BK295.out 1).trans rfl; have hcz8_2 : w6.cell? ⟨gb295, 2, none⟩ = some (.int .i64 a0_2) := (blk_cell BK295.out 2).trans rfl; have hcz8_3 : w6.cell? ⟨gb295, 3, none⟩ = some (.int .i64 a0_3) := (blk_cell BK295.out 3).trans rfl; have hcz8_4 : w6.cell? ⟨gb295, 4, none⟩ = some (.int .i64 a0_4) := (blk_cell BK295.out 4).trans rfl; have hcz8_5 : w6.cell? ⟨gb295, 5, none⟩ = some (.int .i64 a0_5) := (blk_cell BK295.out 5).trans rfl; have hcz8_6 : w6.cell? ⟨gb295, 6, none⟩ = some (.slice A0_6 l0_6.length c0_6) := (blk_cell BK295.out 6).trans rfl; have hfz8_0 := blk_frozen BK295.out 0; have hfz8_1 := blk_frozen BK295.out 1; have hfz8_2 := blk_frozen BK295.out 2; have hfz8_3 := blk_frozen BK295.out 3; have hfz8_4 := blk_frozen BK295.out 4; have hfz8_5 := blk_frozen BK295.out 5; have hfz8_6 := blk_frozen BK295.out 6) | ((with_reducible refine gate_callee (f := 33) rfl ?_); refine goesL_ (some 13) rfl rfl Try.func33 (by kernel_rfl) rfl #[.agg #[.int .u8 a0_0, .int .i64 a0_1, .int .i64 a0_2, .int .i64 a0_3, .int .i64 a0_4, .int .i64 a0_5, .slice A0_6 l0_6.length c0_6]] rfl (by (try simp only [List.map_toArray, List.map_cons, List.map_nil]); first | done | rfl | (simp only [List.length_drop, List.length_take]; rfl)) ?_; (with_reducible refine (sashref05_May.calls k a0_0 a0_1 a0_2 a0_3 a0_4 a0_5 _ _ l0_6 true _ ?side1 ?side2 A2.out).mono ?_); (case side1 => repeat (first | exact (Kd.C_below HR0_6.out HB.out) | (with_reducible refine Kd.C_alloc ?_ _) | (with_reducible refine Kd.C_drewN ?_ _) | (with_reducible refine Kd.C_drew ?_))); (case side2 => exact HC0_6.out); rintro e w9 ⟨rfl, hb⟩; refine ⟨_, rfl, ?_⟩; have n0_ := Aside0.mk (Kd.R_below (by (with_reducible repeat (first | apply Kd.R_alloc | apply Kd.R_drewN | apply Kd.R_drew)); exact HO298.out) hb); have n1_ := Aside0.mk (blk_below (g := gb295) (o := .cells #[.int .u8 a0_0, .int .i64 a0_1, .int .i64 a0_2, .int .i64 a0_3, .int .i64 a0_4, .int .i64 a0_5, .slice A0_6 l0_6.length c0_6] 29 (0, 0)) (by (with_reducible repeat (first | refine blk_drewN ?_ _ | refine blk_drew ?_ | refine blk_alloc ?_ _)); exact BK295.out) hb); have n2_ := Aside0.mk (below_step (by repeat (first | (with_reducible first | exact HB.out | apply below_alloc | apply pw_below_drewN | apply below_drew1 | refine below_set ?_ GE295.out) | exact HB.out)) hb); clear HO298; clear BK295; clear HB; have HO298 := n0_; have BK295 := n1_; have HB := n2_; clear n0_ n1_ n2_; (try clear hb); (try clear hb2); (try clear hk); (try clear hi); have hcz10_0 : w9.cell? ⟨gb295, 0, none⟩ = some (.int .u8 a0_0) := (blk_cell BK295.out 0).trans rfl; have hcz10_1 : w9.cell? ⟨gb295, 1, none⟩ = some (.int .i64 a0_1) := (blk_cell BK295.out 1).trans rfl; have hcz10_2 : w9.cell? ⟨gb295, 2, none⟩ = some (.int .i64 a0_2) := (blk_cell BK295.out 2).trans rfl; have hcz10_3 : w9.cell? ⟨gb295, 3, none⟩ = some (.int .i64 a0_3) := (blk_cell BK295.out 3).trans rfl; have hcz10_4 : w9.cell? ⟨gb295, 4, none⟩ = some (.int .i64 a0_4) := (blk_cell BK295.out 4).trans rfl; have hcz10_5 : w9.cell? ⟨gb295, 5, none⟩ = some (.int .i64 a0_5) := (blk_cell BK295.out 5).trans rfl; have hcz10_6 : w9.cell? ⟨gb295, 6, none⟩ = some (.slice A0_6 l0_6.length c0_6) := (blk_cell BK295.out 6).trans rfl; have hfz10_0 := blk_frozen BK295.out 0; have hfz10_1 := blk_frozen BK295.out 1; have hfz10_2 := blk_frozen BK295.out 2; have hfz10_3 := blk_frozen BK295.out 3; have hfz10_4 := blk_frozen BK295.out 4; have hfz10_5 := blk_frozen BK295.out 5; have hfz10_6 := blk_frozen BK295.out 6) | ((with_reducible refine gate_callee (f := 34) rfl ?_); refine goesL_ (some 17) rfl rfl Try.func34 (by kernel_rfl) rfl #[.agg #[.int .u8 a0_0, .int .i64 a0_1, .int .i64 a0_2, .int .i64 a0_3, .int .i64 a0_4, .int .i64 a0_5, .slice A0_6 l0_6.length c0_6]] rfl (by (try simp only [List.map_toArray, List.map_cons, List.map_nil]); first | done | rfl | (simp only [List.length_drop, List.length_take]; rfl)) ?_; (with_reducible refine (sashref05_All.calls k a0_0 a0_1 a0_2 a0_3 a0_4 a0_5 (fun k_ => k_ < w.heap.size) _ _ l0_6 t300 _ ?side1 A4.out).mono ?_); (case side1 => exact Kd.V_mk HC0_6.out (Kd.F_below (Kd.C_F k29_heap HR0_6.out) (by repeat (first | (with_reducible first | exact HB.out | apply below_alloc | apply pw_below_drewN | apply below_drew1 | refine below_set ?_ GE295.out) | exact HB.out)))); rintro e w11 ⟨v301, rfl, ho0, hb⟩; refine ⟨_, rfl, ?_⟩; have n0_ := Aside0.mk (Kd.R_below (by (with_reducible repeat (first | apply Kd.R_alloc | apply Kd.R_drewN | apply Kd.R_drew)); exact HO298.out) hb); have n1_ := Aside0.mk (Kd.N_lower (Kd.N_mono (ok' := fun k_ => some k_ ≠ (v297 : Value).ownBlock ∧ k_ ≠ gb295) ho0 (fun k_ hk_ => ⟨Or.elim hk_ (fun hs_ => fun e_ => Nat.not_le.2 hs_ (Kd.R_base HO298.out k_ e_.symm)) (fun hn_ => (Kd.fresh' (Kd.R_lt (by (with_reducible repeat (first | apply Kd.R_alloc | apply Kd.R_drewN | apply Kd.R_drew)); exact HO298.out)) k_ hn_)), Or.elim hk_ (fun hs_ => fun e_ => Nat.not_le.2 hs_ (by rw [e_]; exact GW295.out)) (fun hn_ => (Kd.freshB (g := gb295) (o := .cells #[.int .u8 a0_0, .int .i64 a0_1, .int .i64 a0_2, .int .i64 a0_3, .int .i64 a0_4, .int .i64 a0_5, .slice A0_6 l0_6.length c0_6] 29 (0, 0)) (by (with_reducible repeat (first | refine blk_drewN ?_ _ | refine blk_drew ?_ | refine blk_alloc ?_ _)); exact BK295.out) k_ hn_))⟩)) (below_size (by repeat (first | (with_reducible first | exact HB.out | apply below_alloc | apply pw_below_drewN | apply below_drew1 | refine below_set ?_ GE295.out) | exact HB.out)))); have n2_ := Aside0.mk (blk_below (g := gb295) (o := .cells #[.int .u8 a0_0, .int .i64 a0_1, .int .i64 a0_2, .int .i64 a0_3, .int .i64 a0_4, .int .i64 a0_5, .slice A0_6 l0_6.length c0_6] 29 (0, 0)) (by (with_reducible repeat (first | refine blk_drewN ?_ _ | refine blk_drew ?_ | refine blk_alloc ?_ _)); exact BK295.out) hb); have n3_ := Aside0.mk (below_step (by repeat (first | (with_reducible first | exact HB.out | apply below_alloc | apply pw_below_drewN | apply below_drew1 | refine below_set ?_ GE295.out) | exact HB.out)) hb); clear HO298; clear BK295; clear HB; have HO298 := n0_; have HO302 := n1_; have BK295 := n2_; have HB := n3_; clear n0_ n1_ n2_ n3_; (try clear hb); (try clear hb2); (try clear hk); (try clear hi); (try clear ho0)) | ((with_reducible refine gate_dst (N := 18) rfl ?_); refine Kd.R_lit k27 _ 27 ?hg (N := 18) ?hd (xs := ([] : List (S27))) (inner := []) (ok := fun _ => True) (okp := fun _ => True) ?hr ?hp (fun _ hk => hk) trivial (Below.refl _ _) (Nat.le_refl _) (by simp) ?_; (case hd => rfl); (case hg => rfl); (case hr => first | (go_simp; done) | (go_simp; rfl)); (case hp => exact (Reps.none _ _)); intro v304 w12 ho13 hb hg_ hnew_; clear hg_ hnew_; (first | rw [← Ny303.out] at ho13 | (simp only [Int.reduceToNat] at ho13; rw [← Ny303.out] at ho13)); have n0_ := Aside0.mk (Kd.R_elder' (by (with_reducible repeat (first | apply Kd.R_alloc | apply Kd.R_drewN | apply Kd.R_drew)); exact HO298.out) (Kd.R_base ho13) hb); have n1_ := Aside0.mk (Kd.N_elder' (by (with_reducible repeat (first | apply Kd.N_alloc | apply Kd.N_drewN | apply Kd.N_drew)); exact HO302.out) (Kd.R_base ho13) hb); have n2_ := Aside0.mk (Kd.R_lower (Kd.R_new' ho13 (Kd.R_lt (by (with_reducible repeat (first | apply Kd.R_alloc | apply Kd.R_drewN | apply Kd.R_drew)); exact HO298.out))) (below_size (by repeat (first | (with_reducible first | exact HB.out | apply below_alloc | apply pw_below_drewN | apply below_drew1 | refine below_set ?_ GE295.out) | exact HB.out)))); have n3_ := Aside0.mk (blk_below (g := gb295) (o := .cells #[.int .u8 a0_0, .int .i64 a0_1, .int .i64 a0_2, .int .i64 a0_3, .int .i64 a0_4, .int .i64 a0_5, .slice A0_6 l0_6.length c0_6] 29 (0, 0)) (by (with_reducible repeat (first | refine blk_drewN ?_ _ | refine blk_drew ?_ | refine blk_alloc ?_ _)); exact BK295.out) hb); have n4_ := Aside0.mk (below_step (by repeat (first | (with_reducible first | exact HB.out | apply below_alloc | apply pw_below_drewN | apply below_drew1 | refine below_set ?_ GE295.out) | exact HB.out)) hb); clear HO298; clear HO302; clear BK295; clear HB; have HO298 := n0_; have HO302 := n1_; have HO305 := n2_; have BK295 := n3_; have HB := n4_; clear n0_ n1_ n2_ n3_ n4_; clear hb ho13; obtain ⟨Ao14, co14, eo14⟩ := Kd.N_slice HO302.out; subst eo14))
    go_loopg [7, 21] k (fun kq v7 v21 w' => ∃ (x7_1 : List (S27)) (x21_1 : Int), v21 = .int .i64 x21_1 ∧ Aside0 (sashref06_Check.l0 kq y296 t300 x7_1 (t300.length : Int) x21_1 = some (r1, r2, r3)) ∧ Aside0 (kq ≤ k) ∧ Aside0 (Kd.R k27 27 w' w.heap.size (fun k_ => some k_ ≠ (v7 : Value).ownBlock) v297 y296) ∧ Aside0 (Kd.N k29 29 w' w.heap.size (fun k_ => some k_ ≠ (v297 : Value).ownBlock ∧ some k_ ≠ (v7 : Value).ownBlock ∧ k_ ≠ gb295) (.slice Ao14 t300.length co14) t300) ∧ Aside0 (Kd.R k27 27 w' w.heap.size (fun k_ => some k_ ≠ (v297 : Value).ownBlock) v7 x7_1) ∧ Aside0 (w'.heap[gb295]? = some (.cells #[.int .u8 a0_0, .int .i64 a0_1, .int .i64 a0_2, .int .i64 a0_3, .int .i64 a0_4, .int .i64 a0_5, (.slice A0_6 l0_6.length c0_6)] 29 (0, 0))) ∧ Aside0 (Below w.heap.size w w'))
    case atStart => exact ⟨(y303), (0), (by first | rfl | (simp; done) | (simp [*]; done)), H', ⟨Nat.le_refl _⟩, ⟨by (with_reducible repeat (first | apply Kd.R_alloc | apply Kd.R_drewN | apply Kd.R_drew)); exact Kd.R_mono HO298.out (fun _ hk => hk.2)⟩, ⟨by (with_reducible repeat (first | apply Kd.N_alloc | apply Kd.N_drewN | apply Kd.N_drew)); exact Kd.N_mono HO302.out (fun _ hk => ⟨hk.1.1, ⟨hk.2, hk.1.2⟩⟩)⟩, ⟨by (with_reducible repeat (first | apply Kd.R_alloc | apply Kd.R_drewN | apply Kd.R_drew)); exact Kd.R_mono HO305.out (fun _ hk => hk.2)⟩, ⟨by (with_reducible repeat (first | refine blk_drewN ?_ _ | refine blk_drew ?_ | refine blk_alloc ?_ _)); exact BK295.out⟩, ⟨by repeat (first | (with_reducible first | exact HB.out | apply below_alloc | apply pw_below_drewN | apply below_drew1 | refine below_set ?_ GE295.out) | exact HB.out)⟩⟩
    case round =>
      clear H'
      try clear c2
      try clear p2
      try clear c3
      try clear hcz10_0
      try clear hcz10_1
      try clear hcz10_2
      try clear hcz10_3
      try clear hcz10_4
      try clear hcz10_5
      try clear hcz10_6
      try clear hcz8_0
      try clear hcz8_1
      try clear hcz8_2
      try clear hcz8_3
      try clear hcz8_4
      try clear hcz8_5
      try clear hcz8_6
      try clear hfz10_0
      try clear hfz10_1
      try clear hfz10_2
      try clear hfz10_3
      try clear hfz10_4
      try clear hfz10_5
      try clear hfz10_6
      try clear hfz8_0
      try clear hfz8_1
      try clear hfz8_2
      try clear hfz8_3
      try clear hfz8_4
      try clear hfz8_5
      try clear hfz8_6
      obtain ⟨x7_1, x21_1, rfl, HA, HK1, HO_5, HO_6, HO_7, BK295, HB⟩ := hrel
      cases gk with
      | zero => exact absurd HA.out (by simp [sashref06_Check.l0])
      | succ k1 =>
        have H := HA.out
        clear HA
        simp only [sashref06_Check.l0] at H
        by_cases c15 : x21_1 < (t300.length : Int)
        · rw [if_pos c15] at H
          have c15b0 : decide (x21_1 < (t300.length : Int)) = true := decide_eq_true c15
          clear c15
          by_cases c16 : 0 ≤ x21_1
          · rw [if_pos c16] at H
            have c16b0 : decide (0 ≤ x21_1) = true := decide_eq_true c16
            clear c16
            by_cases c17 : x21_1 < (t300.length : Int)
            · rw [if_pos c17] at H
              have c17b0 : decide (x21_1 < (t300.length : Int)) = true := decide_eq_true c17
              clear c17
              replace H := Option.bind_eq_some_iff.mp H
              obtain ⟨⟨t307, t310⟩, A180, H⟩ := H
              replace H : (if t310 = true then (if x7_1.length + t307.length < 4398046511104 then (sashref06_Check.l0 k1 y296 t300 (x7_1 ++ t307) (t300.length : Int) (wrap64 (x21_1 + 1))) else (none)) else (some (y296, 5, x21_1))) = some (r1, r2, r3) := H
              have A18 := Aside0.mk A180
              clear A180
              by_cases c19 : t310 = true
              · subst c19
                have H1 : (if x7_1.length + t307.length < 4398046511104 then (sashref06_Check.l0 k1 y296 t300 (x7_1 ++ t307) (t300.length : Int) (wrap64 (x21_1 + 1))) else (none)) = some (r1, r2, r3) := by rw [if_pos rfl] at H; exact H
                clear H
                have H := H1
                clear H1
                by_cases c20 : x7_1.length + t307.length < 4398046511104
                · rw [if_pos c20] at H
                  have LMc20 := Aside0.mk c20
                  clear c20
                  obtain ⟨y311, hy311⟩ : ∃ y_ : List (S27), y_ = (x7_1 ++ t307) := ⟨_, rfl⟩
                  replace H : (sashref06_Check.l0 k1 y296 t300 y311 (t300.length : Int) (wrap64 (x21_1 + 1))) = some (r1, r2, r3) := by first | (rw [hy311]; with_reducible exact H) | (have H2_ := (Option.bind_some _ _).symm.trans H; rw [hy311]; with_reducible exact H2_) | (have H2_ := (Option.bind_some _ _).symm.trans H; with_reducible exact H2_) | with_reducible exact H | (rw [hy311]; exact H) | exact H
                  have Ny311 := Aside0.mk hy311
                  clear hy311
                  have H' := Aside0.mk H
                  clear H
                  have p306 : 0 ≤ (x21_1 : Int) := of_decide_eq_true (by first | (with_reducible assumption) | assumption)
                  have q306 : x21_1 < (t300.length : Int) := of_decide_eq_true (by first | (with_reducible assumption) | assumption)
                  obtain ⟨ad306, A306_6, c306_6, e306, hx306_0, hx306_1, hx306_2, hx306_3, hx306_4, hx306_5, hx306_6, hl306_6, hi306_6⟩ := at_T29 (Kd.N_reads' HO_6.out).2.2 x21_1 p306 q306
                  cases e306
                  obtain ⟨ce306, hce306, hMe306, hcc306⟩ := Kd.N_get HO_6.out z29 x21_1 p306 (by first | exact q306 | exact of_decide_eq_true (by first | (with_reducible assumption) | assumption) | (have e_ := (Kd.N_reads' HO_6.out).1; omega))
                  obtain ⟨ua306_6, uc306_6, rfl, ul306_6, ge306_6⟩ := k29_openF hMe306
                  have hv306_6 := hcc306 6 _ rfl
                  rw [add_field _ _ 6 (by omega)] at hv306_6
                  replace hv306_6 := Option.some.inj (hv306_6.symm.trans hx306_6)
                  injection hv306_6 with hva_ hvn_ hvc_
                  rw [hva_] at ge306_6
                  rw [hvc_] at ul306_6
                  have HL306_6 := Aside0.mk (show Kd.V k29 29 _ w.heap.size _ _ ((rd_T29 t300 x21_1).f3) from Kd.V_mk ul306_6 ge306_6)
                  clear hva_ hvn_ hvc_ ge306_6 ul306_6
                  clear hcc306 hce306
                  have HR306_6 := Aside0.mk hi306_6
                  have HC306_6 := Aside0.mk hl306_6
                  clear hi306_6 hl306_6
                  replace p306 := eq_true p306
                  replace q306 := eq_true q306
                  go_wp2_with (first | ((with_reducible refine gate_callee (f := 35) rfl ?_); refine goesL_ (some 29) rfl rfl Try.func35 (by kernel_rfl) rfl #[.agg #[.int .u8 ((rd_T29 t300 x21_1).f0), .int .i64 ((rd_T29 t300 x21_1).f1.f0), .int .i64 ((rd_T29 t300 x21_1).f1.f1), .int .i64 ((rd_T29 t300 x21_1).f1.f2), .int .i64 ((rd_T29 t300 x21_1).f1.f3), .int .i64 ((rd_T29 t300 x21_1).f2), .slice A306_6 ((rd_T29 t300 x21_1).f3).length c306_6]] rfl (by (try simp only [List.map_toArray, List.map_cons, List.map_nil]); first | done | rfl | (simp only [List.length_drop, List.length_take]; rfl)) ?_; (with_reducible refine (sashref06_one.calls k1 ((rd_T29 t300 x21_1).f0) ((rd_T29 t300 x21_1).f1.f0) ((rd_T29 t300 x21_1).f1.f1) ((rd_T29 t300 x21_1).f1.f2) ((rd_T29 t300 x21_1).f1.f3) ((rd_T29 t300 x21_1).f2) _ _ ((rd_T29 t300 x21_1).f3) t307 true _ ?side1 ?side2 A18.out).mono ?_); (case side1 => repeat (first | exact (by repeat (first | (with_reducible exact HR306_6.out) | (with_reducible refine Kd.C_alloc ?_ _) | (with_reducible refine Kd.C_drewN ?_ _) | (with_reducible refine Kd.C_drew ?_) | exact HR306_6.out)) | (with_reducible refine Kd.C_alloc ?_ _) | (with_reducible refine Kd.C_drewN ?_ _) | (with_reducible refine Kd.C_drew ?_))); (case side2 => exact HC306_6.out); rintro e w21 ⟨v308, rfl, ho0, hb⟩; refine ⟨_, rfl, ?_⟩; have n0_ := Aside0.mk (Kd.R_below (by (with_reducible repeat (first | apply Kd.R_alloc | apply Kd.R_drewN | apply Kd.R_drew)); exact HO_5.out) hb); have n1_ := Aside0.mk (Kd.N_below (by (with_reducible repeat (first | apply Kd.N_alloc | apply Kd.N_drewN | apply Kd.N_drew)); exact HO_6.out) hb); have n2_ := Aside0.mk (Kd.R_below (by (with_reducible repeat (first | apply Kd.R_alloc | apply Kd.R_drewN | apply Kd.R_drew)); exact HO_7.out) hb); have n3_ := Aside0.mk (Kd.V_below (by (with_reducible repeat (first | apply Kd.V_alloc | apply Kd.V_drewN | apply Kd.V_drew)); exact HL306_6.out) hb); have n4_ := Aside0.mk (Kd.V_lower (Kd.V_mono (ok' := fun k_ => some k_ ≠ (v297 : Value).ownBlock ∧ some k_ ≠ (.slice (some ad306) t300.length co14 : Value).ownBlock ∧ some k_ ≠ (u7 : Value).ownBlock ∧ k_ ≠ gb295) ho0 (fun k_ hk_ => ⟨(Kd.fresh' (Kd.R_lt (by (with_reducible repeat (first | apply Kd.R_alloc | apply Kd.R_drewN | apply Kd.R_drew)); exact HO_5.out)) k_ hk_), (Kd.fresh' (Kd.N_lt (by (with_reducible repeat (first | apply Kd.N_alloc | apply Kd.N_drewN | apply Kd.N_drew)); exact HO_6.out)) k_ hk_), (Kd.fresh' (Kd.R_lt (by (with_reducible repeat (first | apply Kd.R_alloc | apply Kd.R_drewN | apply Kd.R_drew)); exact HO_7.out)) k_ hk_), (Kd.freshB (g := gb295) (o := .cells #[.int .u8 a0_0, .int .i64 a0_1, .int .i64 a0_2, .int .i64 a0_3, .int .i64 a0_4, .int .i64 a0_5, .slice A0_6 l0_6.length c0_6] 29 (0, 0)) (by (with_reducible repeat (first | refine blk_drewN ?_ _ | refine blk_drew ?_ | refine blk_alloc ?_ _)); exact BK295.out) k_ hk_)⟩)) (below_size (by repeat (first | (with_reducible first | exact HB.out | apply below_alloc | apply pw_below_drewN | apply below_drew1 | refine below_set ?_ GE295.out) | exact HB.out)))); have n5_ := Aside0.mk (blk_below (g := gb295) (o := .cells #[.int .u8 a0_0, .int .i64 a0_1, .int .i64 a0_2, .int .i64 a0_3, .int .i64 a0_4, .int .i64 a0_5, .slice A0_6 l0_6.length c0_6] 29 (0, 0)) (by (with_reducible repeat (first | refine blk_drewN ?_ _ | refine blk_drew ?_ | refine blk_alloc ?_ _)); exact BK295.out) hb); have n6_ := Aside0.mk (Kd.C_below (by repeat (first | (with_reducible exact HR306_6.out) | (with_reducible refine Kd.C_alloc ?_ _) | (with_reducible refine Kd.C_drewN ?_ _) | (with_reducible refine Kd.C_drew ?_) | exact HR306_6.out)) hb); have n7_ := Aside0.mk (below_step (by repeat (first | (with_reducible first | exact HB.out | apply below_alloc | apply pw_below_drewN | apply below_drew1 | refine below_set ?_ GE295.out) | exact HB.out)) hb); clear HO_5; clear HO_6; clear HO_7; clear HL306_6; clear BK295; clear HR306_6; clear HB; have HO_5 := n0_; have HO_6 := n1_; have HO_7 := n2_; have HL306_6 := n3_; have HO309 := n4_; have BK295 := n5_; have HR306_6 := n6_; have HB := n7_; clear n0_ n1_ n2_ n3_ n4_ n5_ n6_ n7_; (try clear hb); (try clear hb2); (try clear hk); (try clear hi); (try clear ho0); obtain ⟨Ao23, co23, eo23⟩ := Kd.V_slice HO309.out; subst eo23) | ((with_reducible refine gate_builtin (b := .append) (xs := #[.tmp 36, .tmp 37]) rfl ?_); at_builtin; refine Kd.R_append_rows k27 (w0 := w) w.heap.size rfl (.tmp 36) (.tmp 37) 31 27 (.agg #[(.int .i64 0), (.int .i64 0), (.int .i64 0), (.int .i64 0)]) 32 rfl Try.underlying31 info27 rfl (by decide) (by omega) u7 x7_1 t307 _ _ _ (fun k_ => some k_ ≠ (v297 : Value).ownBlock) (fun _ => False) rfl rfl ?aO ?aR (fun _ _ h => h) (fun _ h => h.elim) ?aF ?aB ?aS ?aL ?_; (case aR => repeat (first | exact (Kd.V_reads' HO309.out).2.2 | (with_reducible refine Kd.C_alloc ?_ _) | (with_reducible refine Kd.C_drewN ?_ _) | (with_reducible refine Kd.C_drew ?_))); (case aB => exact (by repeat (first | (with_reducible first | exact HB.out | apply below_alloc | apply pw_below_drewN | apply below_drew1 | refine below_set ?_ GE295.out) | exact HB.out))); (case aF => exact (fun k_ hk => Kd.fresh' (Kd.R_lt (by (with_reducible repeat (first | apply Kd.R_alloc | apply Kd.R_drewN | apply Kd.R_drew)); exact HO_5.out)) k_ hk)); (case aO => exact (by (with_reducible repeat (first | apply Kd.R_alloc | apply Kd.R_drewN | apply Kd.R_drew)); exact HO_7.out)); (case aS => exact (below_size (by repeat (first | (with_reducible first | exact HB.out | apply below_alloc | apply pw_below_drewN | apply below_drew1 | refine below_set ?_ GE295.out) | exact HB.out)))); (case aL => have := LMc20.out; omega); intro v312 w22 ho hb hg hat; rw [← Ny311.out] at ho; have n0_ := Aside0.mk (Kd.R_after (ok := (fun _ => True)) (by (with_reducible repeat (first | apply Kd.R_alloc | apply Kd.R_drewN | apply Kd.R_drew)); exact Kd.R_mono HO_5.out (fun _ hk => ⟨trivial, hk⟩)) hg hat); have n1_ := Aside0.mk (Kd.N_afterv (ok := (fun k_ => some k_ ≠ (v297 : Value).ownBlock ∧ k_ ≠ gb295)) (by (with_reducible repeat (first | apply Kd.N_alloc | apply Kd.N_drewN | apply Kd.N_drew)); exact Kd.N_mono HO_6.out (fun _ hk => ⟨⟨hk.1, hk.2.2⟩, hk.2.1⟩)) hg hat); have n2_ := Aside0.mk (blk_grown (g := gb295) (o := .cells #[.int .u8 a0_0, .int .i64 a0_1, .int .i64 a0_2, .int .i64 a0_3, .int .i64 a0_4, .int .i64 a0_5, .slice A0_6 l0_6.length c0_6] 29 (0, 0)) (by (with_reducible repeat (first | refine blk_drewN ?_ _ | refine blk_drew ?_ | refine blk_alloc ?_ _)); exact BK295.out) hg (Kd.R_ne HO_7.out BK295.out (by decide))); have n3_ := Aside0.mk (Kd.V_afterv (ok := (fun k_ => some k_ ≠ (v297 : Value).ownBlock ∧ some k_ ≠ (.slice (some ad306) t300.length co14 : Value).ownBlock ∧ k_ ≠ gb295)) (by (with_reducible repeat (first | apply Kd.V_alloc | apply Kd.V_drewN | apply Kd.V_drew)); exact Kd.V_mono HL306_6.out (fun _ hk => ⟨⟨hk.1.1, ⟨hk.2, hk.1.2.2⟩⟩, hk.1.2.1⟩)) hg hat); have n4_ := Aside0.mk (Kd.V_afterv (ok := (fun k_ => some k_ ≠ (v297 : Value).ownBlock ∧ some k_ ≠ (.slice (some ad306) t300.length co14 : Value).ownBlock ∧ k_ ≠ gb295)) (by (with_reducible repeat (first | apply Kd.V_alloc | apply Kd.V_drewN | apply Kd.V_drew)); exact Kd.V_mono HO309.out (fun _ hk => ⟨⟨hk.1, ⟨hk.2.1, hk.2.2.2⟩⟩, hk.2.2.1⟩)) hg hat); have n5_ := Aside0.mk (hb); have n6_ := Aside0.mk (ho); clear HO_5; clear HO_6; clear BK295; clear HL306_6; clear HO309; clear HB; clear HO_7; have HO_5 := n0_; have HO_6 := n1_; have BK295 := n2_; have HL306_6 := n3_; have HO309 := n4_; have HB := n5_; have HO313 := n6_; clear n0_ n1_ n2_ n3_ n4_ n5_ n6_; clear ho hb hg hat))
                  go_roundg k1
                  case measure => have := HK1.out; omega
                  case rel => exact ⟨(y311), (wrap64 (x21_1 + 1)), (by first | rfl | (simp; done) | (simp [*]; done)), H', ⟨by have := HK1.out; omega⟩, ⟨by (with_reducible repeat (first | apply Kd.R_alloc | apply Kd.R_drewN | apply Kd.R_drew)); exact Kd.R_mono HO_5.out (fun _ hk => hk.2)⟩, ⟨by (with_reducible repeat (first | apply Kd.N_alloc | apply Kd.N_drewN | apply Kd.N_drew)); exact Kd.N_mono HO_6.out (fun _ hk => ⟨hk.1.1, ⟨hk.2, hk.1.2⟩⟩)⟩, ⟨by (with_reducible repeat (first | apply Kd.R_alloc | apply Kd.R_drewN | apply Kd.R_drew)); exact HO313.out⟩, ⟨by (with_reducible repeat (first | refine blk_drewN ?_ _ | refine blk_drew ?_ | refine blk_alloc ?_ _)); exact BK295.out⟩, ⟨by repeat (first | (with_reducible first | exact HB.out | apply below_alloc | apply pw_below_drewN | apply below_drew1 | refine below_set ?_ GE295.out) | exact HB.out)⟩⟩
                · rw [if_neg c20] at H
                  exact absurd H (by simp)
              · replace c19 := Bool.eq_false_iff.mpr c19
                subst c19
                have H1 : (some (y296, 5, x21_1)) = some (r1, r2, r3) := by rw [if_neg (show ¬ (false = true) by decide)] at H; exact H
                clear H
                have H := H1
                clear H1
                simp only [Option.some.injEq, Prod.mk.injEq] at H
                obtain ⟨rfl, rfl, rfl⟩ := H
                have p306 : 0 ≤ (x21_1 : Int) := of_decide_eq_true (by first | (with_reducible assumption) | assumption)
                have q306 : x21_1 < (t300.length : Int) := of_decide_eq_true (by first | (with_reducible assumption) | assumption)
                obtain ⟨ad306, A306_6, c306_6, e306, hx306_0, hx306_1, hx306_2, hx306_3, hx306_4, hx306_5, hx306_6, hl306_6, hi306_6⟩ := at_T29 (Kd.N_reads' HO_6.out).2.2 x21_1 p306 q306
                cases e306
                obtain ⟨ce306, hce306, hMe306, hcc306⟩ := Kd.N_get HO_6.out z29 x21_1 p306 (by first | exact q306 | exact of_decide_eq_true (by first | (with_reducible assumption) | assumption) | (have e_ := (Kd.N_reads' HO_6.out).1; omega))
                obtain ⟨ua306_6, uc306_6, rfl, ul306_6, ge306_6⟩ := k29_openF hMe306
                have hv306_6 := hcc306 6 _ rfl
                rw [add_field _ _ 6 (by omega)] at hv306_6
                replace hv306_6 := Option.some.inj (hv306_6.symm.trans hx306_6)
                injection hv306_6 with hva_ hvn_ hvc_
                rw [hva_] at ge306_6
                rw [hvc_] at ul306_6
                have HL306_6 := Aside0.mk (show Kd.V k29 29 _ w.heap.size _ _ ((rd_T29 t300 x21_1).f3) from Kd.V_mk ul306_6 ge306_6)
                clear hva_ hvn_ hvc_ ge306_6 ul306_6
                clear hcc306 hce306
                have HR306_6 := Aside0.mk hi306_6
                have HC306_6 := Aside0.mk hl306_6
                clear hi306_6 hl306_6
                replace p306 := eq_true p306
                replace q306 := eq_true q306
                go_wp2_with (first | ((with_reducible refine gate_callee (f := 35) rfl ?_); refine goesL_ (some 29) rfl rfl Try.func35 (by kernel_rfl) rfl #[.agg #[.int .u8 ((rd_T29 t300 x21_1).f0), .int .i64 ((rd_T29 t300 x21_1).f1.f0), .int .i64 ((rd_T29 t300 x21_1).f1.f1), .int .i64 ((rd_T29 t300 x21_1).f1.f2), .int .i64 ((rd_T29 t300 x21_1).f1.f3), .int .i64 ((rd_T29 t300 x21_1).f2), .slice A306_6 ((rd_T29 t300 x21_1).f3).length c306_6]] rfl (by (try simp only [List.map_toArray, List.map_cons, List.map_nil]); first | done | rfl | (simp only [List.length_drop, List.length_take]; rfl)) ?_; (with_reducible refine (sashref06_one.calls k1 ((rd_T29 t300 x21_1).f0) ((rd_T29 t300 x21_1).f1.f0) ((rd_T29 t300 x21_1).f1.f1) ((rd_T29 t300 x21_1).f1.f2) ((rd_T29 t300 x21_1).f1.f3) ((rd_T29 t300 x21_1).f2) _ _ ((rd_T29 t300 x21_1).f3) t307 false _ ?side1 ?side2 A18.out).mono ?_); (case side1 => repeat (first | exact (by repeat (first | (with_reducible exact HR306_6.out) | (with_reducible refine Kd.C_alloc ?_ _) | (with_reducible refine Kd.C_drewN ?_ _) | (with_reducible refine Kd.C_drew ?_) | exact HR306_6.out)) | (with_reducible refine Kd.C_alloc ?_ _) | (with_reducible refine Kd.C_drewN ?_ _) | (with_reducible refine Kd.C_drew ?_))); (case side2 => exact HC306_6.out); rintro e w24 ⟨v308, rfl, ho0, hb⟩; refine ⟨_, rfl, ?_⟩; have n0_ := Aside0.mk (Kd.R_below (by (with_reducible repeat (first | apply Kd.R_alloc | apply Kd.R_drewN | apply Kd.R_drew)); exact HO_5.out) hb); have n1_ := Aside0.mk (Kd.N_below (by (with_reducible repeat (first | apply Kd.N_alloc | apply Kd.N_drewN | apply Kd.N_drew)); exact HO_6.out) hb); have n2_ := Aside0.mk (Kd.R_below (by (with_reducible repeat (first | apply Kd.R_alloc | apply Kd.R_drewN | apply Kd.R_drew)); exact HO_7.out) hb); have n3_ := Aside0.mk (Kd.V_below (by (with_reducible repeat (first | apply Kd.V_alloc | apply Kd.V_drewN | apply Kd.V_drew)); exact HL306_6.out) hb); have n4_ := Aside0.mk (Kd.V_lower (Kd.V_mono (ok' := fun k_ => some k_ ≠ (v297 : Value).ownBlock ∧ some k_ ≠ (.slice (some ad306) t300.length co14 : Value).ownBlock ∧ some k_ ≠ (u7 : Value).ownBlock ∧ k_ ≠ gb295) ho0 (fun k_ hk_ => ⟨(Kd.fresh' (Kd.R_lt (by (with_reducible repeat (first | apply Kd.R_alloc | apply Kd.R_drewN | apply Kd.R_drew)); exact HO_5.out)) k_ hk_), (Kd.fresh' (Kd.N_lt (by (with_reducible repeat (first | apply Kd.N_alloc | apply Kd.N_drewN | apply Kd.N_drew)); exact HO_6.out)) k_ hk_), (Kd.fresh' (Kd.R_lt (by (with_reducible repeat (first | apply Kd.R_alloc | apply Kd.R_drewN | apply Kd.R_drew)); exact HO_7.out)) k_ hk_), (Kd.freshB (g := gb295) (o := .cells #[.int .u8 a0_0, .int .i64 a0_1, .int .i64 a0_2, .int .i64 a0_3, .int .i64 a0_4, .int .i64 a0_5, .slice A0_6 l0_6.length c0_6] 29 (0, 0)) (by (with_reducible repeat (first | refine blk_drewN ?_ _ | refine blk_drew ?_ | refine blk_alloc ?_ _)); exact BK295.out) k_ hk_)⟩)) (below_size (by repeat (first | (with_reducible first | exact HB.out | apply below_alloc | apply pw_below_drewN | apply below_drew1 | refine below_set ?_ GE295.out) | exact HB.out)))); have n5_ := Aside0.mk (blk_below (g := gb295) (o := .cells #[.int .u8 a0_0, .int .i64 a0_1, .int .i64 a0_2, .int .i64 a0_3, .int .i64 a0_4, .int .i64 a0_5, .slice A0_6 l0_6.length c0_6] 29 (0, 0)) (by (with_reducible repeat (first | refine blk_drewN ?_ _ | refine blk_drew ?_ | refine blk_alloc ?_ _)); exact BK295.out) hb); have n6_ := Aside0.mk (Kd.C_below (by repeat (first | (with_reducible exact HR306_6.out) | (with_reducible refine Kd.C_alloc ?_ _) | (with_reducible refine Kd.C_drewN ?_ _) | (with_reducible refine Kd.C_drew ?_) | exact HR306_6.out)) hb); have n7_ := Aside0.mk (below_step (by repeat (first | (with_reducible first | exact HB.out | apply below_alloc | apply pw_below_drewN | apply below_drew1 | refine below_set ?_ GE295.out) | exact HB.out)) hb); clear HO_5; clear HO_6; clear HO_7; clear HL306_6; clear BK295; clear HR306_6; clear HB; have HO_5 := n0_; have HO_6 := n1_; have HO_7 := n2_; have HL306_6 := n3_; have HO309 := n4_; have BK295 := n5_; have HR306_6 := n6_; have HB := n7_; clear n0_ n1_ n2_ n3_ n4_ n5_ n6_ n7_; (try clear hb); (try clear hb2); (try clear hk); (try clear hi); (try clear ho0)))
                go_ret3
                exact ⟨_, by first | rfl | (simp [errW_none, errW_some] <;> rfl) | (simp [*, errW_none, errW_some] <;> rfl), by (with_reducible repeat (first | apply Kd.R_alloc | apply Kd.R_drewN | apply Kd.R_drew)); exact Kd.R_mono HO_5.out (fun _ hk => trivial), by repeat (first | (with_reducible first | exact HB.out | apply below_alloc | apply pw_below_drewN | apply below_drew1 | refine below_set ?_ GE295.out) | exact HB.out)⟩
            · rw [if_neg c17] at H
              exact absurd H (by simp)
          · rw [if_neg c16] at H
            exact absurd H (by simp)
        · rw [if_neg c15] at H
          have c15b0 : decide (x21_1 < (t300.length : Int)) = false := decide_eq_false c15
          clear c15
          simp only [Option.some.injEq, Prod.mk.injEq] at H
          obtain ⟨rfl, rfl, rfl⟩ := H
          go_wp2
          go_ret3
          exact ⟨_, by first | rfl | (simp [errW_none, errW_some] <;> rfl) | (simp [*, errW_none, errW_some] <;> rfl), by (with_reducible repeat (first | apply Kd.R_alloc | apply Kd.R_drewN | apply Kd.R_drew)); exact Kd.R_mono HO_7.out (fun _ hk => trivial), by repeat (first | (with_reducible first | exact HB.out | apply below_alloc | apply pw_below_drewN | apply below_drew1 | refine below_set ?_ GE295.out) | exact HB.out)⟩
  · replace c3 := Bool.eq_false_iff.mpr c3
    subst c3
    have H1 : (some (y296, 1, 0)) = some (r1, r2, r3) := by rw [if_neg (show ¬ (false = true) by decide)] at H; exact H
    clear H
    have H := H1
    clear H1
    simp only [Option.some.injEq, Prod.mk.injEq] at H
    obtain ⟨rfl, rfl, rfl⟩ := H
    go_enter Try.func20, Try.ntmps20
    go_wp2_with (first | ((with_reducible refine gate_dst (N := 1) rfl ?_); refine box_event ?hg (N := 1) ?hd (cs := #[.int .u8 a0_0, .int .i64 a0_1, .int .i64 a0_2, .int .i64 a0_3, .int .i64 a0_4, .int .i64 a0_5, .slice A0_6 l0_6.length c0_6]) (t := 29) ?hr ?_; (case hd => rfl); (case hg => rfl); (case hr => first | (go_simp; done) | (go_simp; rfl)); intro gb295 hg w25 hbox hb; have n0_ := Aside0.mk (below_step (by repeat (first | (with_reducible first | exact HB.out | apply below_alloc | apply pw_below_drewN | apply below_drew1) | exact HB.out)) hb); have n1_ := Aside0.mk (hbox); have n2_ := Aside0.mk ((by rw [hg]; exact (below_size (by repeat (first | (with_reducible first | exact HB.out | apply below_alloc | apply pw_below_drewN | apply below_drew1) | exact HB.out))) : w.heap.size ≤ gb295)); have n3_ := Aside0.mk ((by rw [hg]; exact (below_size (by repeat (first | (with_reducible first | exact HB.out | apply below_alloc | apply pw_below_drewN | apply below_drew1) | exact HB.out))) : w.heap.size ≤ gb295)); clear HB; have HB := n0_; have BK295 := n1_; have GW295 := n2_; have GE295 := n3_; clear n0_ n1_ n2_ n3_; clear hb hbox hg) | ((with_reducible refine gate_dst (N := 11) rfl ?_); refine Kd.R_lit k27 _ 27 ?hg (N := 11) ?hd (xs := ([] : List (S27))) (inner := []) (ok := fun _ => True) (okp := fun _ => True) ?hr ?hp (fun _ hk => hk) trivial (Below.refl _ _) (Nat.le_refl _) (by simp) ?_; (case hd => rfl); (case hg => rfl); (case hr => first | (go_simp; done) | (go_simp; rfl)); (case hp => exact (Reps.none _ _)); intro v297 w26 ho27 hb hg_ hnew_; clear hg_ hnew_; (first | rw [← Ny296.out] at ho27 | (simp only [Int.reduceToNat] at ho27; rw [← Ny296.out] at ho27)); have n0_ := Aside0.mk (Kd.R_lower ho27 (below_size (by repeat (first | (with_reducible first | exact HB.out | apply below_alloc | apply pw_below_drewN | apply below_drew1 | refine below_set ?_ GE295.out) | exact HB.out)))); have n1_ := Aside0.mk (blk_below (g := gb295) (o := .cells #[.int .u8 a0_0, .int .i64 a0_1, .int .i64 a0_2, .int .i64 a0_3, .int .i64 a0_4, .int .i64 a0_5, .slice A0_6 l0_6.length c0_6] 29 (0, 0)) (by (with_reducible repeat (first | refine blk_drewN ?_ _ | refine blk_drew ?_ | refine blk_alloc ?_ _)); exact BK295.out) hb); have n2_ := Aside0.mk (below_step (by repeat (first | (with_reducible first | exact HB.out | apply below_alloc | apply pw_below_drewN | apply below_drew1 | refine below_set ?_ GE295.out) | exact HB.out)) hb); clear BK295; clear HB; have HO298 := n0_; have BK295 := n1_; have HB := n2_; clear n0_ n1_ n2_; clear hb ho27; have hcz28_0 : w26.cell? ⟨gb295, 0, none⟩ = some (.int .u8 a0_0) := (blk_cell BK295.out 0).trans rfl; have hcz28_1 : w26.cell? ⟨gb295, 1, none⟩ = some (.int .i64 a0_1) := (blk_cell BK295.out 1).trans rfl; have hcz28_2 : w26.cell? ⟨gb295, 2, none⟩ = some (.int .i64 a0_2) := (blk_cell BK295.out 2).trans rfl; have hcz28_3 : w26.cell? ⟨gb295, 3, none⟩ = some (.int .i64 a0_3) := (blk_cell BK295.out 3).trans rfl; have hcz28_4 : w26.cell? ⟨gb295, 4, none⟩ = some (.int .i64 a0_4) := (blk_cell BK295.out 4).trans rfl; have hcz28_5 : w26.cell? ⟨gb295, 5, none⟩ = some (.int .i64 a0_5) := (blk_cell BK295.out 5).trans rfl; have hcz28_6 : w26.cell? ⟨gb295, 6, none⟩ = some (.slice A0_6 l0_6.length c0_6) := (blk_cell BK295.out 6).trans rfl; have hfz28_0 := blk_frozen BK295.out 0; have hfz28_1 := blk_frozen BK295.out 1; have hfz28_2 := blk_frozen BK295.out 2; have hfz28_3 := blk_frozen BK295.out 3; have hfz28_4 := blk_frozen BK295.out 4; have hfz28_5 := blk_frozen BK295.out 5; have hfz28_6 := blk_frozen BK295.out 6) | ((with_reducible refine gate_callee (f := 33) rfl ?_); refine goesL_ (some 13) rfl rfl Try.func33 (by kernel_rfl) rfl #[.agg #[.int .u8 a0_0, .int .i64 a0_1, .int .i64 a0_2, .int .i64 a0_3, .int .i64 a0_4, .int .i64 a0_5, .slice A0_6 l0_6.length c0_6]] rfl (by (try simp only [List.map_toArray, List.map_cons, List.map_nil]); first | done | rfl | (simp only [List.length_drop, List.length_take]; rfl)) ?_; (with_reducible refine (sashref05_May.calls k a0_0 a0_1 a0_2 a0_3 a0_4 a0_5 _ _ l0_6 false _ ?side1 ?side2 A2.out).mono ?_); (case side1 => repeat (first | exact (Kd.C_below HR0_6.out HB.out) | (with_reducible refine Kd.C_alloc ?_ _) | (with_reducible refine Kd.C_drewN ?_ _) | (with_reducible refine Kd.C_drew ?_))); (case side2 => exact HC0_6.out); rintro e w29 ⟨rfl, hb⟩; refine ⟨_, rfl, ?_⟩; have n0_ := Aside0.mk (Kd.R_below (by (with_reducible repeat (first | apply Kd.R_alloc | apply Kd.R_drewN | apply Kd.R_drew)); exact HO298.out) hb); have n1_ := Aside0.mk (blk_below (g := gb295) (o := .cells #[.int .u8 a0_0, .int .i64 a0_1, .int .i64 a0_2, .int .i64 a0_3, .int .i64 a0_4, .int .i64 a0_5, .slice A0_6 l0_6.length c0_6] 29 (0, 0)) (by (with_reducible repeat (first | refine blk_drewN ?_ _ | refine blk_drew ?_ | refine blk_alloc ?_ _)); exact BK295.out) hb); have n2_ := Aside0.mk (below_step (by repeat (first | (with_reducible first | exact HB.out | apply below_alloc | apply pw_below_drewN | apply below_drew1 | refine below_set ?_ GE295.out) | exact HB.out)) hb); clear HO298; clear BK295; clear HB; have HO298 := n0_; have BK295 := n1_; have HB := n2_; clear n0_ n1_ n2_; (try clear hb); (try clear hb2); (try clear hk); (try clear hi)))
    go_ret3
    exact ⟨_, by first | rfl | (simp [errW_none, errW_some] <;> rfl) | (simp [*, errW_none, errW_some] <;> rfl), by (with_reducible repeat (first | apply Kd.R_alloc | apply Kd.R_drewN | apply Kd.R_drew)); exact HO298.out, by repeat (first | (with_reducible first | exact HB.out | apply below_alloc | apply pw_below_drewN | apply below_drew1 | refine below_set ?_ GE295.out) | exact HB.out)⟩

def sashref06_Tiles.f (k : Nat) (a0_0 : Int) (a0_1 : Int) (a0_2 : Int) (a0_3 : Int) (a0_4 : Int) (a0_5 : Int) (l0_6 : List (S29)) : Option (Bool) := (sashref06_Check.f k a0_0 a0_1 a0_2 a0_3 a0_4 a0_5 l0_6).bind fun bt315 => (some (bt315.2.1 == 0))
set_option maxHeartbeats 8000000 in
set_option maxRecDepth 100000 in
theorem sashref06_Tiles.calls (k : Nat) (a0_0 : Int) (a0_1 : Int) (a0_2 : Int) (a0_3 : Int) (a0_4 : Int) (a0_5 : Int) (A0_6 : Option Addr) (c0_6 : Nat) (l0_6 : List (S29)) (r : Bool) (w : World) (hr0_6 : Kd.C k29 w A0_6 l0_6.length l0_6) (hc0_6 : l0_6.length ≤ c0_6) (h : sashref06_Tiles.f k a0_0 a0_1 a0_2 a0_3 a0_4 a0_5 l0_6 = some r) :
    Calls Try.prog 9 #[.agg #[.int .u8 a0_0, .int .i64 a0_1, .int .i64 a0_2, .int .i64 a0_3, .int .i64 a0_4, .int .i64 a0_5, .slice A0_6 l0_6.length c0_6]] w fun e w' => e = .returned (.bool r) ∧ Below w.heap.size w w' := by
  have hu29 := Try.underlying29
  have HR0_6 := Aside0.mk hr0_6
  have HC0_6 := Aside0.mk hc0_6
  clear hr0_6 hc0_6
  have HB := Aside0.mk (Below.refl w.heap.size w)
  have H : ((sashref06_Check.f k a0_0 a0_1 a0_2 a0_3 a0_4 a0_5 l0_6).bind fun bt315 => (some (bt315.2.1 == 0))) = some r := h
  clear h
  replace H := Option.bind_eq_some_iff.mp H
  obtain ⟨⟨t315, t318, t319⟩, A20, H⟩ := H
  replace H : (some (t318 == 0)) = some r := H
  have A2 := Aside0.mk A20
  clear A20
  obtain rfl := Option.some.inj H
  go_enter Try.func9, Try.ntmps9
  go_wp2_with (first | ((with_reducible refine gate_dst (N := 1) rfl ?_); refine box_event ?hg (N := 1) ?hd (cs := #[.int .u8 a0_0, .int .i64 a0_1, .int .i64 a0_2, .int .i64 a0_3, .int .i64 a0_4, .int .i64 a0_5, .slice A0_6 l0_6.length c0_6]) (t := 29) ?hr ?_; (case hd => rfl); (case hg => rfl); (case hr => first | (go_simp; done) | (go_simp; rfl)); intro gb314 hg w3 hbox hb; have n0_ := Aside0.mk (below_step (by repeat (first | (with_reducible first | exact HB.out | apply below_alloc | apply pw_below_drewN | apply below_drew1) | exact HB.out)) hb); have n1_ := Aside0.mk (hbox); have n2_ := Aside0.mk ((by rw [hg]; exact (below_size (by repeat (first | (with_reducible first | exact HB.out | apply below_alloc | apply pw_below_drewN | apply below_drew1) | exact HB.out))) : w.heap.size ≤ gb314)); have n3_ := Aside0.mk ((by rw [hg]; exact (below_size (by repeat (first | (with_reducible first | exact HB.out | apply below_alloc | apply pw_below_drewN | apply below_drew1) | exact HB.out))) : w.heap.size ≤ gb314)); clear HB; have HB := n0_; have BK314 := n1_; have GW314 := n2_; have GE314 := n3_; clear n0_ n1_ n2_ n3_; clear hb hbox hg; have hcz4_0 : w3.cell? ⟨gb314, 0, none⟩ = some (.int .u8 a0_0) := (blk_cell BK314.out 0).trans rfl; have hcz4_1 : w3.cell? ⟨gb314, 1, none⟩ = some (.int .i64 a0_1) := (blk_cell BK314.out 1).trans rfl; have hcz4_2 : w3.cell? ⟨gb314, 2, none⟩ = some (.int .i64 a0_2) := (blk_cell BK314.out 2).trans rfl; have hcz4_3 : w3.cell? ⟨gb314, 3, none⟩ = some (.int .i64 a0_3) := (blk_cell BK314.out 3).trans rfl; have hcz4_4 : w3.cell? ⟨gb314, 4, none⟩ = some (.int .i64 a0_4) := (blk_cell BK314.out 4).trans rfl; have hcz4_5 : w3.cell? ⟨gb314, 5, none⟩ = some (.int .i64 a0_5) := (blk_cell BK314.out 5).trans rfl; have hcz4_6 : w3.cell? ⟨gb314, 6, none⟩ = some (.slice A0_6 l0_6.length c0_6) := (blk_cell BK314.out 6).trans rfl; have hfz4_0 := blk_frozen BK314.out 0; have hfz4_1 := blk_frozen BK314.out 1; have hfz4_2 := blk_frozen BK314.out 2; have hfz4_3 := blk_frozen BK314.out 3; have hfz4_4 := blk_frozen BK314.out 4; have hfz4_5 := blk_frozen BK314.out 5; have hfz4_6 := blk_frozen BK314.out 6) | ((with_reducible refine gate_callee (f := 20) rfl ?_); refine goesL_ (some 8) rfl rfl Try.func20 (by kernel_rfl) rfl #[.agg #[.int .u8 a0_0, .int .i64 a0_1, .int .i64 a0_2, .int .i64 a0_3, .int .i64 a0_4, .int .i64 a0_5, .slice A0_6 l0_6.length c0_6]] rfl (by (try simp only [List.map_toArray, List.map_cons, List.map_nil]); first | done | rfl | (simp only [List.length_drop, List.length_take]; rfl)) ?_; (with_reducible refine (sashref06_Check.calls k a0_0 a0_1 a0_2 a0_3 a0_4 a0_5 _ _ l0_6 t315 t318 t319 _ ?side1 ?side2 A2.out).mono ?_); (case side1 => repeat (first | exact (Kd.C_below HR0_6.out HB.out) | (with_reducible refine Kd.C_alloc ?_ _) | (with_reducible refine Kd.C_drewN ?_ _) | (with_reducible refine Kd.C_drew ?_))); (case side2 => exact HC0_6.out); rintro e w5 ⟨v316, rfl, ho0, hb⟩; refine ⟨_, rfl, ?_⟩; have n0_ := Aside0.mk (Kd.R_lower ho0 (below_size (by repeat (first | (with_reducible first | exact HB.out | apply below_alloc | apply pw_below_drewN | apply below_drew1 | refine below_set ?_ GE314.out) | exact HB.out)))); have n1_ := Aside0.mk (blk_below (g := gb314) (o := .cells #[.int .u8 a0_0, .int .i64 a0_1, .int .i64 a0_2, .int .i64 a0_3, .int .i64 a0_4, .int .i64 a0_5, .slice A0_6 l0_6.length c0_6] 29 (0, 0)) (by (with_reducible repeat (first | refine blk_drewN ?_ _ | refine blk_drew ?_ | refine blk_alloc ?_ _)); exact BK314.out) hb); have n2_ := Aside0.mk (below_step (by repeat (first | (with_reducible first | exact HB.out | apply below_alloc | apply pw_below_drewN | apply below_drew1 | refine below_set ?_ GE314.out) | exact HB.out)) hb); clear BK314; clear HB; have HO317 := n0_; have BK314 := n1_; have HB := n2_; clear n0_ n1_ n2_; (try clear hb); (try clear hb2); (try clear hk); (try clear hi); (try clear ho0)))
  go_ret
  exact ⟨by first | rfl | (simp [errW_none, errW_some] <;> rfl) | (simp [*, errW_none, errW_some] <;> rfl), by repeat (first | (with_reducible first | exact HB.out | apply below_alloc | apply pw_below_drewN | apply below_drew1 | refine below_set ?_ GE314.out) | exact HB.out)⟩

mutual
def sashref05_count.l0 : Nat → Int → Int → Int → Int → Int → Int → Int → Int → Int → Int → List (S29) → Option (Int)
  | 0, _, _, _, _, _, _, _, _, _, _, _ => none
  | k + 1, x1, x5, x9, x10, x321000, x321001, x321002, x321003, x321004, x321005, x321006 => if x10 < x9 then (if x5 > x1 then (some x5) else (if 0 ≤ x10 then (if x10 < (x321006.length : Int) then ((sashref05_count.f k ((rd_T29 x321006 x10).f0) ((rd_T29 x321006 x10).f1.f0) ((rd_T29 x321006 x10).f1.f1) ((rd_T29 x321006 x10).f1.f2) ((rd_T29 x321006 x10).f1.f3) ((rd_T29 x321006 x10).f2) ((rd_T29 x321006 x10).f3) x1).bind fun t322 => (sashref05_count.l0 k x1 (wrap64 (x5 + t322)) x9 (wrap64 (x10 + 1)) x321000 x321001 x321002 x321003 x321004 x321005 x321006)) else (none)) else (none))) else (some x5)
def sashref05_count.f : Nat → Int → Int → Int → Int → Int → Int → List (S29) → Int → Option (Int)
  | 0, _, _, _, _, _, _, _, _ => none
  | k + 1, a0_0, a0_1, a0_2, a0_3, a0_4, a0_5, l0_6, a1 => sashref05_count.l0 k a1 1 (l0_6.length : Int) 0 a0_0 a0_1 a0_2 a0_3 a0_4 a0_5 l0_6
end
set_option maxHeartbeats 8000000 in
set_option maxRecDepth 100000 in
theorem sashref05_count.calls (k : Nat) : ∀ (a0_0 : Int) (a0_1 : Int) (a0_2 : Int) (a0_3 : Int) (a0_4 : Int) (a0_5 : Int) (A0_6 : Option Addr) (c0_6 : Nat) (l0_6 : List (S29)) (a1 : Int) (r : Int) (w : World) (hr0_6 : Kd.C k29 w A0_6 l0_6.length l0_6) (hc0_6 : l0_6.length ≤ c0_6) (h : sashref05_count.f k a0_0 a0_1 a0_2 a0_3 a0_4 a0_5 l0_6 a1 = some r),
    Calls Try.prog 24 #[.agg #[.int .u8 a0_0, .int .i64 a0_1, .int .i64 a0_2, .int .i64 a0_3, .int .i64 a0_4, .int .i64 a0_5, .slice A0_6 l0_6.length c0_6], .int .i64 a1] w fun e w' => e = .returned (.int .i64 r) ∧ Below w.heap.size w w' := by
  induction k using Nat.strongRecOn with
  | _ k ih =>
  intro a0_0 a0_1 a0_2 a0_3 a0_4 a0_5 A0_6 c0_6 l0_6 a1 r w hr0_6 hc0_6 h
  cases k with
  | zero => exact absurd h (by simp [sashref05_count.f])
  | succ k =>
  simp only [sashref05_count.f] at h
  have hu29 := Try.underlying29
  have HR0_6 := Aside0.mk hr0_6
  have HC0_6 := Aside0.mk hc0_6
  clear hr0_6 hc0_6
  have HB := Aside0.mk (Below.refl w.heap.size w)
  have H : (sashref05_count.l0 k a1 1 (l0_6.length : Int) 0 a0_0 a0_1 a0_2 a0_3 a0_4 a0_5 l0_6) = some r := h
  clear h
  have H' := Aside0.mk H
  clear H
  go_enter Try.func24, Try.ntmps24
  go_wp2_with (first | ((with_reducible refine gate_dst (N := 2) rfl ?_); refine box_event ?hg (N := 2) ?hd (cs := #[.int .u8 a0_0, .int .i64 a0_1, .int .i64 a0_2, .int .i64 a0_3, .int .i64 a0_4, .int .i64 a0_5, .slice A0_6 l0_6.length c0_6]) (t := 29) ?hr ?_; (case hd => rfl); (case hg => rfl); (case hr => first | (go_simp; done) | (go_simp; rfl)); intro gb320 hg w3 hbox hb; have n0_ := Aside0.mk (below_step (by repeat (first | (with_reducible first | exact HB.out | apply below_alloc | apply pw_below_drewN | apply below_drew1) | exact HB.out)) hb); have n1_ := Aside0.mk (hbox); have n2_ := Aside0.mk ((by rw [hg]; exact (below_size (by repeat (first | (with_reducible first | exact HB.out | apply below_alloc | apply pw_below_drewN | apply below_drew1) | exact HB.out))) : w.heap.size ≤ gb320)); have n3_ := Aside0.mk ((by rw [hg]; exact (below_size (by repeat (first | (with_reducible first | exact HB.out | apply below_alloc | apply pw_below_drewN | apply below_drew1) | exact HB.out))) : w.heap.size ≤ gb320)); clear HB; have HB := n0_; have BK320 := n1_; have GW320 := n2_; have GE320 := n3_; clear n0_ n1_ n2_ n3_; clear hb hbox hg; have hcz4_0 : w3.cell? ⟨gb320, 0, none⟩ = some (.int .u8 a0_0) := (blk_cell BK320.out 0).trans rfl; have hcz4_1 : w3.cell? ⟨gb320, 1, none⟩ = some (.int .i64 a0_1) := (blk_cell BK320.out 1).trans rfl; have hcz4_2 : w3.cell? ⟨gb320, 2, none⟩ = some (.int .i64 a0_2) := (blk_cell BK320.out 2).trans rfl; have hcz4_3 : w3.cell? ⟨gb320, 3, none⟩ = some (.int .i64 a0_3) := (blk_cell BK320.out 3).trans rfl; have hcz4_4 : w3.cell? ⟨gb320, 4, none⟩ = some (.int .i64 a0_4) := (blk_cell BK320.out 4).trans rfl; have hcz4_5 : w3.cell? ⟨gb320, 5, none⟩ = some (.int .i64 a0_5) := (blk_cell BK320.out 5).trans rfl; have hcz4_6 : w3.cell? ⟨gb320, 6, none⟩ = some (.slice A0_6 l0_6.length c0_6) := (blk_cell BK320.out 6).trans rfl; have hfz4_0 := blk_frozen BK320.out 0; have hfz4_1 := blk_frozen BK320.out 1; have hfz4_2 := blk_frozen BK320.out 2; have hfz4_3 := blk_frozen BK320.out 3; have hfz4_4 := blk_frozen BK320.out 4; have hfz4_5 := blk_frozen BK320.out 5; have hfz4_6 := blk_frozen BK320.out 6))
  go_loopg [5, 10] k (fun kq v5 v10 w' => ∃ (x5_1 : Int) (x10_1 : Int), v5 = .int .i64 x5_1 ∧ v10 = .int .i64 x10_1 ∧ Aside0 (sashref05_count.l0 kq a1 x5_1 (l0_6.length : Int) x10_1 a0_0 a0_1 a0_2 a0_3 a0_4 a0_5 l0_6 = some r) ∧ Aside0 (kq ≤ k) ∧ Aside0 (w'.heap[gb320]? = some (.cells #[.int .u8 a0_0, .int .i64 a0_1, .int .i64 a0_2, .int .i64 a0_3, .int .i64 a0_4, .int .i64 a0_5, (.slice A0_6 l0_6.length c0_6)] 29 (0, 0))) ∧ Aside0 (Below w.heap.size w w'))
  case atStart => exact ⟨(1), (0), (by first | rfl | (simp; done) | (simp [*]; done)), (by first | rfl | (simp; done) | (simp [*]; done)), H', ⟨Nat.le_refl _⟩, ⟨by (with_reducible repeat (first | refine blk_drewN ?_ _ | refine blk_drew ?_ | refine blk_alloc ?_ _)); exact BK320.out⟩, ⟨by repeat (first | (with_reducible first | exact HB.out | apply below_alloc | apply pw_below_drewN | apply below_drew1 | refine below_set ?_ GE320.out) | exact HB.out)⟩⟩
  case round =>
    clear H'
    try clear c2
    try clear p2
    try clear hcz4_0
    try clear hcz4_1
    try clear hcz4_2
    try clear hcz4_3
    try clear hcz4_4
    try clear hcz4_5
    try clear hcz4_6
    try clear hfz4_0
    try clear hfz4_1
    try clear hfz4_2
    try clear hfz4_3
    try clear hfz4_4
    try clear hfz4_5
    try clear hfz4_6
    obtain ⟨x5_1, x10_1, rfl, rfl, HA, HK1, BK320, HB⟩ := hrel
    cases gk with
    | zero => exact absurd HA.out (by simp [sashref05_count.l0])
    | succ k1 =>
      have H := HA.out
      clear HA
      simp only [sashref05_count.l0] at H
      by_cases c5 : x10_1 < (l0_6.length : Int)
      · rw [if_pos c5] at H
        have c5b0 : decide (x10_1 < (l0_6.length : Int)) = true := decide_eq_true c5
        clear c5
        by_cases c6 : x5_1 > a1
        · rw [if_pos c6] at H
          have c6b0 : decide (a1 < x5_1) = true := decide_eq_true c6
          clear c6
          obtain rfl := Option.some.inj H
          go_wp2
          go_ret
          exact ⟨by first | rfl | (simp [errW_none, errW_some] <;> rfl) | (simp [*, errW_none, errW_some] <;> rfl), by repeat (first | (with_reducible first | exact HB.out | apply below_alloc | apply pw_below_drewN | apply below_drew1 | refine below_set ?_ GE320.out) | exact HB.out)⟩
        · rw [if_neg c6] at H
          have c6b0 : decide (a1 < x5_1) = false := decide_eq_false c6
          clear c6
          by_cases c7 : 0 ≤ x10_1
          · rw [if_pos c7] at H
            have c7b0 : decide (0 ≤ x10_1) = true := decide_eq_true c7
            clear c7
            by_cases c8 : x10_1 < (l0_6.length : Int)
            · rw [if_pos c8] at H
              have c8b0 : decide (x10_1 < (l0_6.length : Int)) = true := decide_eq_true c8
              clear c8
              replace H := Option.bind_eq_some_iff.mp H
              obtain ⟨t322, A90, H⟩ := H
              replace H : (sashref05_count.l0 k1 a1 (wrap64 (x5_1 + t322)) (l0_6.length : Int) (wrap64 (x10_1 + 1)) a0_0 a0_1 a0_2 a0_3 a0_4 a0_5 l0_6) = some r := H
              have A9 := Aside0.mk A90
              clear A90
              have H' := Aside0.mk H
              clear H
              have hcz10_0 : wr.cell? ⟨gb320, 0, none⟩ = some (.int .u8 a0_0) := (blk_cell BK320.out 0).trans rfl
              have hcz10_1 : wr.cell? ⟨gb320, 1, none⟩ = some (.int .i64 a0_1) := (blk_cell BK320.out 1).trans rfl
              have hcz10_2 : wr.cell? ⟨gb320, 2, none⟩ = some (.int .i64 a0_2) := (blk_cell BK320.out 2).trans rfl
              have hcz10_3 : wr.cell? ⟨gb320, 3, none⟩ = some (.int .i64 a0_3) := (blk_cell BK320.out 3).trans rfl
              have hcz10_4 : wr.cell? ⟨gb320, 4, none⟩ = some (.int .i64 a0_4) := (blk_cell BK320.out 4).trans rfl
              have hcz10_5 : wr.cell? ⟨gb320, 5, none⟩ = some (.int .i64 a0_5) := (blk_cell BK320.out 5).trans rfl
              have hcz10_6 : wr.cell? ⟨gb320, 6, none⟩ = some (.slice A0_6 l0_6.length c0_6) := (blk_cell BK320.out 6).trans rfl
              have hfz10_0 := blk_frozen BK320.out 0
              have hfz10_1 := blk_frozen BK320.out 1
              have hfz10_2 := blk_frozen BK320.out 2
              have hfz10_3 := blk_frozen BK320.out 3
              have hfz10_4 := blk_frozen BK320.out 4
              have hfz10_5 := blk_frozen BK320.out 5
              have hfz10_6 := blk_frozen BK320.out 6
              have p321 : 0 ≤ (x10_1 : Int) := of_decide_eq_true (by first | (with_reducible assumption) | assumption)
              have q321 : x10_1 < (l0_6.length : Int) := of_decide_eq_true (by first | (with_reducible assumption) | assumption)
              obtain ⟨ad321, A321_6, c321_6, e321, hx321_0, hx321_1, hx321_2, hx321_3, hx321_4, hx321_5, hx321_6, hl321_6, hi321_6⟩ := at_T29 HR0_6.out x10_1 p321 q321
              cases e321
              replace hx321_0 := (HB.out.cell (World.block_lt_of_cell? w _ hx321_0)).trans hx321_0
              replace hx321_1 := (HB.out.cell (World.block_lt_of_cell? w _ hx321_1)).trans hx321_1
              replace hx321_2 := (HB.out.cell (World.block_lt_of_cell? w _ hx321_2)).trans hx321_2
              replace hx321_3 := (HB.out.cell (World.block_lt_of_cell? w _ hx321_3)).trans hx321_3
              replace hx321_4 := (HB.out.cell (World.block_lt_of_cell? w _ hx321_4)).trans hx321_4
              replace hx321_5 := (HB.out.cell (World.block_lt_of_cell? w _ hx321_5)).trans hx321_5
              replace hx321_6 := (HB.out.cell (World.block_lt_of_cell? w _ hx321_6)).trans hx321_6
              have HR321_6 := Aside0.mk hi321_6
              have HC321_6 := Aside0.mk hl321_6
              clear hi321_6 hl321_6
              replace p321 := eq_true p321
              replace q321 := eq_true q321
              go_wp2_with (first | ((with_reducible refine gate_callee (f := 24) rfl ?_); refine goesL_ (some 24) rfl rfl Try.func24 (by kernel_rfl) rfl #[.agg #[.int .u8 ((rd_T29 l0_6 x10_1).f0), .int .i64 ((rd_T29 l0_6 x10_1).f1.f0), .int .i64 ((rd_T29 l0_6 x10_1).f1.f1), .int .i64 ((rd_T29 l0_6 x10_1).f1.f2), .int .i64 ((rd_T29 l0_6 x10_1).f1.f3), .int .i64 ((rd_T29 l0_6 x10_1).f2), .slice A321_6 ((rd_T29 l0_6 x10_1).f3).length c321_6], .int .i64 a1] rfl (by (try simp only [List.map_toArray, List.map_cons, List.map_nil]); first | done | rfl | (simp only [List.length_drop, List.length_take]; rfl)) ?_; (with_reducible refine (ih k1 (by have := HK1.out; omega) ((rd_T29 l0_6 x10_1).f0) ((rd_T29 l0_6 x10_1).f1.f0) ((rd_T29 l0_6 x10_1).f1.f1) ((rd_T29 l0_6 x10_1).f1.f2) ((rd_T29 l0_6 x10_1).f1.f3) ((rd_T29 l0_6 x10_1).f2) _ _ ((rd_T29 l0_6 x10_1).f3) a1 t322 _ ?side1 ?side2 A9.out).mono ?_); (case side1 => repeat (first | exact (Kd.C_below HR321_6.out HB.out) | (with_reducible refine Kd.C_alloc ?_ _) | (with_reducible refine Kd.C_drewN ?_ _) | (with_reducible refine Kd.C_drew ?_))); (case side2 => exact HC321_6.out); rintro e w11 ⟨rfl, hb⟩; refine ⟨_, rfl, ?_⟩; have n0_ := Aside0.mk (blk_below (g := gb320) (o := .cells #[.int .u8 a0_0, .int .i64 a0_1, .int .i64 a0_2, .int .i64 a0_3, .int .i64 a0_4, .int .i64 a0_5, .slice (some ad321) l0_6.length c0_6] 29 (0, 0)) (by (with_reducible repeat (first | refine blk_drewN ?_ _ | refine blk_drew ?_ | refine blk_alloc ?_ _)); exact BK320.out) hb); have n1_ := Aside0.mk (below_step (by repeat (first | (with_reducible first | exact HB.out | apply below_alloc | apply pw_below_drewN | apply below_drew1 | refine below_set ?_ GE320.out) | exact HB.out)) hb); clear BK320; clear HB; have BK320 := n0_; have HB := n1_; clear n0_ n1_; (try clear hb); (try clear hb2); (try clear hk); (try clear hi)))
              go_roundg k1
              case measure => have := HK1.out; omega
              case rel => exact ⟨(wrap64 (x5_1 + t322)), (wrap64 (x10_1 + 1)), (by first | rfl | (simp; done) | (simp [*]; done)), (by first | rfl | (simp; done) | (simp [*]; done)), H', ⟨by have := HK1.out; omega⟩, ⟨by (with_reducible repeat (first | refine blk_drewN ?_ _ | refine blk_drew ?_ | refine blk_alloc ?_ _)); exact BK320.out⟩, ⟨by repeat (first | (with_reducible first | exact HB.out | apply below_alloc | apply pw_below_drewN | apply below_drew1 | refine below_set ?_ GE320.out) | exact HB.out)⟩⟩
            · rw [if_neg c8] at H
              exact absurd H (by simp)
          · rw [if_neg c7] at H
            exact absurd H (by simp)
      · rw [if_neg c5] at H
        have c5b0 : decide (x10_1 < (l0_6.length : Int)) = false := decide_eq_false c5
        clear c5
        obtain rfl := Option.some.inj H
        go_wp2
        go_ret
        exact ⟨by first | rfl | (simp [errW_none, errW_some] <;> rfl) | (simp [*, errW_none, errW_some] <;> rfl), by repeat (first | (with_reducible first | exact HB.out | apply below_alloc | apply pw_below_drewN | apply below_drew1 | refine below_set ?_ GE320.out) | exact HB.out)⟩

def sashref05_Great.f (k : Nat) (a0_0 : Int) (a0_1 : Int) (a0_2 : Int) (a0_3 : Int) (a0_4 : Int) (a0_5 : Int) (l0_6 : List (S29)) : Option (Bool) := (sashref05_count.f k a0_0 a0_1 a0_2 a0_3 a0_4 a0_5 l0_6 200).bind fun t324 => (some (decide (t324 > 200)))
set_option maxHeartbeats 8000000 in
set_option maxRecDepth 100000 in
theorem sashref05_Great.calls (k : Nat) (a0_0 : Int) (a0_1 : Int) (a0_2 : Int) (a0_3 : Int) (a0_4 : Int) (a0_5 : Int) (A0_6 : Option Addr) (c0_6 : Nat) (l0_6 : List (S29)) (r : Bool) (w : World) (hr0_6 : Kd.C k29 w A0_6 l0_6.length l0_6) (hc0_6 : l0_6.length ≤ c0_6) (h : sashref05_Great.f k a0_0 a0_1 a0_2 a0_3 a0_4 a0_5 l0_6 = some r) :
    Calls Try.prog 11 #[.agg #[.int .u8 a0_0, .int .i64 a0_1, .int .i64 a0_2, .int .i64 a0_3, .int .i64 a0_4, .int .i64 a0_5, .slice A0_6 l0_6.length c0_6]] w fun e w' => e = .returned (.bool r) ∧ Below w.heap.size w w' := by
  have hu29 := Try.underlying29
  have HR0_6 := Aside0.mk hr0_6
  have HC0_6 := Aside0.mk hc0_6
  clear hr0_6 hc0_6
  have HB := Aside0.mk (Below.refl w.heap.size w)
  have H : ((sashref05_count.f k a0_0 a0_1 a0_2 a0_3 a0_4 a0_5 l0_6 200).bind fun t324 => (some (decide (t324 > 200)))) = some r := h
  clear h
  replace H := Option.bind_eq_some_iff.mp H
  obtain ⟨t324, A20, H⟩ := H
  replace H : (some (decide (t324 > 200))) = some r := H
  have A2 := Aside0.mk A20
  clear A20
  obtain rfl := Option.some.inj H
  go_enter Try.func11, Try.ntmps11
  go_wp2_with (first | ((with_reducible refine gate_dst (N := 1) rfl ?_); refine box_event ?hg (N := 1) ?hd (cs := #[.int .u8 a0_0, .int .i64 a0_1, .int .i64 a0_2, .int .i64 a0_3, .int .i64 a0_4, .int .i64 a0_5, .slice A0_6 l0_6.length c0_6]) (t := 29) ?hr ?_; (case hd => rfl); (case hg => rfl); (case hr => first | (go_simp; done) | (go_simp; rfl)); intro gb323 hg w3 hbox hb; have n0_ := Aside0.mk (below_step (by repeat (first | (with_reducible first | exact HB.out | apply below_alloc | apply pw_below_drewN | apply below_drew1) | exact HB.out)) hb); have n1_ := Aside0.mk (hbox); have n2_ := Aside0.mk ((by rw [hg]; exact (below_size (by repeat (first | (with_reducible first | exact HB.out | apply below_alloc | apply pw_below_drewN | apply below_drew1) | exact HB.out))) : w.heap.size ≤ gb323)); have n3_ := Aside0.mk ((by rw [hg]; exact (below_size (by repeat (first | (with_reducible first | exact HB.out | apply below_alloc | apply pw_below_drewN | apply below_drew1) | exact HB.out))) : w.heap.size ≤ gb323)); clear HB; have HB := n0_; have BK323 := n1_; have GW323 := n2_; have GE323 := n3_; clear n0_ n1_ n2_ n3_; clear hb hbox hg; have hcz4_0 : w3.cell? ⟨gb323, 0, none⟩ = some (.int .u8 a0_0) := (blk_cell BK323.out 0).trans rfl; have hcz4_1 : w3.cell? ⟨gb323, 1, none⟩ = some (.int .i64 a0_1) := (blk_cell BK323.out 1).trans rfl; have hcz4_2 : w3.cell? ⟨gb323, 2, none⟩ = some (.int .i64 a0_2) := (blk_cell BK323.out 2).trans rfl; have hcz4_3 : w3.cell? ⟨gb323, 3, none⟩ = some (.int .i64 a0_3) := (blk_cell BK323.out 3).trans rfl; have hcz4_4 : w3.cell? ⟨gb323, 4, none⟩ = some (.int .i64 a0_4) := (blk_cell BK323.out 4).trans rfl; have hcz4_5 : w3.cell? ⟨gb323, 5, none⟩ = some (.int .i64 a0_5) := (blk_cell BK323.out 5).trans rfl; have hcz4_6 : w3.cell? ⟨gb323, 6, none⟩ = some (.slice A0_6 l0_6.length c0_6) := (blk_cell BK323.out 6).trans rfl; have hfz4_0 := blk_frozen BK323.out 0; have hfz4_1 := blk_frozen BK323.out 1; have hfz4_2 := blk_frozen BK323.out 2; have hfz4_3 := blk_frozen BK323.out 3; have hfz4_4 := blk_frozen BK323.out 4; have hfz4_5 := blk_frozen BK323.out 5; have hfz4_6 := blk_frozen BK323.out 6) | ((with_reducible refine gate_callee (f := 24) rfl ?_); refine goesL_ (some 4) rfl rfl Try.func24 (by kernel_rfl) rfl #[.agg #[.int .u8 a0_0, .int .i64 a0_1, .int .i64 a0_2, .int .i64 a0_3, .int .i64 a0_4, .int .i64 a0_5, .slice A0_6 l0_6.length c0_6], .int .i64 200] rfl (by (try simp only [List.map_toArray, List.map_cons, List.map_nil]); first | done | rfl | (simp only [List.length_drop, List.length_take]; rfl)) ?_; (with_reducible refine (sashref05_count.calls k a0_0 a0_1 a0_2 a0_3 a0_4 a0_5 _ _ l0_6 200 t324 _ ?side1 ?side2 A2.out).mono ?_); (case side1 => repeat (first | exact (Kd.C_below HR0_6.out HB.out) | (with_reducible refine Kd.C_alloc ?_ _) | (with_reducible refine Kd.C_drewN ?_ _) | (with_reducible refine Kd.C_drew ?_))); (case side2 => exact HC0_6.out); rintro e w5 ⟨rfl, hb⟩; refine ⟨_, rfl, ?_⟩; have n0_ := Aside0.mk (blk_below (g := gb323) (o := .cells #[.int .u8 a0_0, .int .i64 a0_1, .int .i64 a0_2, .int .i64 a0_3, .int .i64 a0_4, .int .i64 a0_5, .slice A0_6 l0_6.length c0_6] 29 (0, 0)) (by (with_reducible repeat (first | refine blk_drewN ?_ _ | refine blk_drew ?_ | refine blk_alloc ?_ _)); exact BK323.out) hb); have n1_ := Aside0.mk (below_step (by repeat (first | (with_reducible first | exact HB.out | apply below_alloc | apply pw_below_drewN | apply below_drew1 | refine below_set ?_ GE323.out) | exact HB.out)) hb); clear BK323; clear HB; have BK323 := n0_; have HB := n1_; clear n0_ n1_; (try clear hb); (try clear hb2); (try clear hk); (try clear hi)))
  go_ret
  exact ⟨by first | rfl | (simp [errW_none, errW_some] <;> rfl) | (simp [*, errW_none, errW_some] <;> rfl), by repeat (first | (with_reducible first | exact HB.out | apply below_alloc | apply pw_below_drewN | apply below_drew1 | refine below_set ?_ GE323.out) | exact HB.out)⟩

def sashref04_Has.f (a0_0 : Int) (a0_1 : Int) (a0_2 : Int) (a0_3 : Int) (a1 : Int) (a2 : Int) : Option (Bool) := (sashref04_May.f a0_0 a0_1 a0_2 a0_3).bind fun t326 => (if t326 = true then (if a0_0 ≤ a1 then (if a1 ≤ (wrap64 ((wrap64 (a0_0 + a0_2)) - 1)) then (if a0_1 ≤ a2 then (some (decide (a2 ≤ (wrap64 ((wrap64 (a0_1 + a0_3)) - 1))))) else (some false)) else (some false)) else (some false)) else (some false))
set_option maxHeartbeats 8000000 in
set_option maxRecDepth 100000 in
theorem sashref04_Has.calls (a0_0 : Int) (a0_1 : Int) (a0_2 : Int) (a0_3 : Int) (a1 : Int) (a2 : Int) (r : Bool) (w : World) (h : sashref04_Has.f a0_0 a0_1 a0_2 a0_3 a1 a2 = some r) :
    Calls Try.prog 19 #[.agg #[.int .i64 a0_0, .int .i64 a0_1, .int .i64 a0_2, .int .i64 a0_3], .int .i64 a1, .int .i64 a2] w fun e w' => e = .returned (.bool r) ∧ Below w.heap.size w w' := by
  have hu27 := Try.underlying27
  have HB := Aside0.mk (Below.refl w.heap.size w)
  have H : ((sashref04_May.f a0_0 a0_1 a0_2 a0_3).bind fun t326 => (if t326 = true then (if a0_0 ≤ a1 then (if a1 ≤ (wrap64 ((wrap64 (a0_0 + a0_2)) - 1)) then (if a0_1 ≤ a2 then (some (decide (a2 ≤ (wrap64 ((wrap64 (a0_1 + a0_3)) - 1))))) else (some false)) else (some false)) else (some false)) else (some false))) = some r := h
  clear h
  replace H := Option.bind_eq_some_iff.mp H
  obtain ⟨t326, A40, H⟩ := H
  replace H : (if t326 = true then (if a0_0 ≤ a1 then (if a1 ≤ (wrap64 ((wrap64 (a0_0 + a0_2)) - 1)) then (if a0_1 ≤ a2 then (some (decide (a2 ≤ (wrap64 ((wrap64 (a0_1 + a0_3)) - 1))))) else (some false)) else (some false)) else (some false)) else (some false)) = some r := H
  have A4 := Aside0.mk A40
  clear A40
  by_cases c5 : t326 = true
  · subst c5
    have H1 : (if a0_0 ≤ a1 then (if a1 ≤ (wrap64 ((wrap64 (a0_0 + a0_2)) - 1)) then (if a0_1 ≤ a2 then (some (decide (a2 ≤ (wrap64 ((wrap64 (a0_1 + a0_3)) - 1))))) else (some false)) else (some false)) else (some false)) = some r := by rw [if_pos rfl] at H; exact H
    clear H
    have H := H1
    clear H1
    by_cases c6 : a0_0 ≤ a1
    · rw [if_pos c6] at H
      have c6b0 : decide (a0_0 ≤ a1) = true := decide_eq_true c6
      clear c6
      by_cases c7 : a1 ≤ (wrap64 ((wrap64 (a0_0 + a0_2)) - 1))
      · rw [if_pos c7] at H
        have c7b0 : decide (a1 ≤ (wrap64 ((wrap64 (a0_0 + a0_2)) - 1))) = true := decide_eq_true c7
        clear c7
        by_cases c8 : a0_1 ≤ a2
        · rw [if_pos c8] at H
          have c8b0 : decide (a0_1 ≤ a2) = true := decide_eq_true c8
          clear c8
          obtain rfl := Option.some.inj H
          go_enter Try.func19, Try.ntmps19
          go_wp2_with (first | ((with_reducible refine gate_dst (N := 3) rfl ?_); refine box_event ?hg (N := 3) ?hd (cs := #[.int .i64 a0_0, .int .i64 a0_1, .int .i64 a0_2, .int .i64 a0_3]) (t := 27) ?hr ?_; (case hd => rfl); (case hg => rfl); (case hr => first | (go_simp; done) | (go_simp; rfl)); intro gb325 hg w9 hbox hb; have n0_ := Aside0.mk (below_step (by repeat (first | (with_reducible first | exact HB.out | apply below_alloc | apply pw_below_drewN | apply below_drew1) | exact HB.out)) hb); have n1_ := Aside0.mk (hbox); have n2_ := Aside0.mk ((by rw [hg]; exact (below_size (by repeat (first | (with_reducible first | exact HB.out | apply below_alloc | apply pw_below_drewN | apply below_drew1) | exact HB.out))) : w.heap.size ≤ gb325)); have n3_ := Aside0.mk ((by rw [hg]; exact (below_size (by repeat (first | (with_reducible first | exact HB.out | apply below_alloc | apply pw_below_drewN | apply below_drew1) | exact HB.out))) : w.heap.size ≤ gb325)); clear HB; have HB := n0_; have BK325 := n1_; have GW325 := n2_; have GE325 := n3_; clear n0_ n1_ n2_ n3_; clear hb hbox hg; have hcz10_0 : w9.cell? ⟨gb325, 0, none⟩ = some (.int .i64 a0_0) := (blk_cell BK325.out 0).trans rfl; have hcz10_1 : w9.cell? ⟨gb325, 1, none⟩ = some (.int .i64 a0_1) := (blk_cell BK325.out 1).trans rfl; have hcz10_2 : w9.cell? ⟨gb325, 2, none⟩ = some (.int .i64 a0_2) := (blk_cell BK325.out 2).trans rfl; have hcz10_3 : w9.cell? ⟨gb325, 3, none⟩ = some (.int .i64 a0_3) := (blk_cell BK325.out 3).trans rfl; have hfz10_0 := blk_frozen BK325.out 0; have hfz10_1 := blk_frozen BK325.out 1; have hfz10_2 := blk_frozen BK325.out 2; have hfz10_3 := blk_frozen BK325.out 3) | ((with_reducible refine gate_callee (f := 28) rfl ?_); refine goesL_ (some 8) rfl rfl Try.func28 (by kernel_rfl) rfl #[.agg #[.int .i64 a0_0, .int .i64 a0_1, .int .i64 a0_2, .int .i64 a0_3]] rfl (by (try simp only [List.map_toArray, List.map_cons, List.map_nil]); first | done | rfl | (simp only [List.length_drop, List.length_take]; rfl)) ?_; (with_reducible refine (sashref04_May.calls a0_0 a0_1 a0_2 a0_3 true _ A4.out).mono ?_); rintro e w11 ⟨rfl, hb⟩; refine ⟨_, rfl, ?_⟩; have n0_ := Aside0.mk (blk_below (g := gb325) (o := .cells #[.int .i64 a0_0, .int .i64 a0_1, .int .i64 a0_2, .int .i64 a0_3] 27 (0, 0)) (by (with_reducible repeat (first | refine blk_drewN ?_ _ | refine blk_drew ?_ | refine blk_alloc ?_ _)); exact BK325.out) hb); have n1_ := Aside0.mk (below_step (by repeat (first | (with_reducible first | exact HB.out | apply below_alloc | apply pw_below_drewN | apply below_drew1 | refine below_set ?_ GE325.out) | exact HB.out)) hb); clear BK325; clear HB; have BK325 := n0_; have HB := n1_; clear n0_ n1_; (try clear hb); (try clear hb2); (try clear hk); (try clear hi); have hcz12_0 : w11.cell? ⟨gb325, 0, none⟩ = some (.int .i64 a0_0) := (blk_cell BK325.out 0).trans rfl; have hcz12_1 : w11.cell? ⟨gb325, 1, none⟩ = some (.int .i64 a0_1) := (blk_cell BK325.out 1).trans rfl; have hcz12_2 : w11.cell? ⟨gb325, 2, none⟩ = some (.int .i64 a0_2) := (blk_cell BK325.out 2).trans rfl; have hcz12_3 : w11.cell? ⟨gb325, 3, none⟩ = some (.int .i64 a0_3) := (blk_cell BK325.out 3).trans rfl; have hfz12_0 := blk_frozen BK325.out 0; have hfz12_1 := blk_frozen BK325.out 1; have hfz12_2 := blk_frozen BK325.out 2; have hfz12_3 := blk_frozen BK325.out 3))
          go_ret
          exact ⟨by first | rfl | (simp [errW_none, errW_some] <;> rfl) | (simp [*, errW_none, errW_some] <;> rfl), by repeat (first | (with_reducible first | exact HB.out | apply below_alloc | apply pw_below_drewN | apply below_drew1 | refine below_set ?_ GE325.out) | exact HB.out)⟩
        · rw [if_neg c8] at H
          have c8b0 : decide (a0_1 ≤ a2) = false := decide_eq_false c8
          clear c8
          obtain rfl := Option.some.inj H
          go_enter Try.func19, Try.ntmps19
          go_wp2_with (first | ((with_reducible refine gate_dst (N := 3) rfl ?_); refine box_event ?hg (N := 3) ?hd (cs := #[.int .i64 a0_0, .int .i64 a0_1, .int .i64 a0_2, .int .i64 a0_3]) (t := 27) ?hr ?_; (case hd => rfl); (case hg => rfl); (case hr => first | (go_simp; done) | (go_simp; rfl)); intro gb325 hg w13 hbox hb; have n0_ := Aside0.mk (below_step (by repeat (first | (with_reducible first | exact HB.out | apply below_alloc | apply pw_below_drewN | apply below_drew1) | exact HB.out)) hb); have n1_ := Aside0.mk (hbox); have n2_ := Aside0.mk ((by rw [hg]; exact (below_size (by repeat (first | (with_reducible first | exact HB.out | apply below_alloc | apply pw_below_drewN | apply below_drew1) | exact HB.out))) : w.heap.size ≤ gb325)); have n3_ := Aside0.mk ((by rw [hg]; exact (below_size (by repeat (first | (with_reducible first | exact HB.out | apply below_alloc | apply pw_below_drewN | apply below_drew1) | exact HB.out))) : w.heap.size ≤ gb325)); clear HB; have HB := n0_; have BK325 := n1_; have GW325 := n2_; have GE325 := n3_; clear n0_ n1_ n2_ n3_; clear hb hbox hg; have hcz14_0 : w13.cell? ⟨gb325, 0, none⟩ = some (.int .i64 a0_0) := (blk_cell BK325.out 0).trans rfl; have hcz14_1 : w13.cell? ⟨gb325, 1, none⟩ = some (.int .i64 a0_1) := (blk_cell BK325.out 1).trans rfl; have hcz14_2 : w13.cell? ⟨gb325, 2, none⟩ = some (.int .i64 a0_2) := (blk_cell BK325.out 2).trans rfl; have hcz14_3 : w13.cell? ⟨gb325, 3, none⟩ = some (.int .i64 a0_3) := (blk_cell BK325.out 3).trans rfl; have hfz14_0 := blk_frozen BK325.out 0; have hfz14_1 := blk_frozen BK325.out 1; have hfz14_2 := blk_frozen BK325.out 2; have hfz14_3 := blk_frozen BK325.out 3) | ((with_reducible refine gate_callee (f := 28) rfl ?_); refine goesL_ (some 8) rfl rfl Try.func28 (by kernel_rfl) rfl #[.agg #[.int .i64 a0_0, .int .i64 a0_1, .int .i64 a0_2, .int .i64 a0_3]] rfl (by (try simp only [List.map_toArray, List.map_cons, List.map_nil]); first | done | rfl | (simp only [List.length_drop, List.length_take]; rfl)) ?_; (with_reducible refine (sashref04_May.calls a0_0 a0_1 a0_2 a0_3 true _ A4.out).mono ?_); rintro e w15 ⟨rfl, hb⟩; refine ⟨_, rfl, ?_⟩; have n0_ := Aside0.mk (blk_below (g := gb325) (o := .cells #[.int .i64 a0_0, .int .i64 a0_1, .int .i64 a0_2, .int .i64 a0_3] 27 (0, 0)) (by (with_reducible repeat (first | refine blk_drewN ?_ _ | refine blk_drew ?_ | refine blk_alloc ?_ _)); exact BK325.out) hb); have n1_ := Aside0.mk (below_step (by repeat (first | (with_reducible first | exact HB.out | apply below_alloc | apply pw_below_drewN | apply below_drew1 | refine below_set ?_ GE325.out) | exact HB.out)) hb); clear BK325; clear HB; have BK325 := n0_; have HB := n1_; clear n0_ n1_; (try clear hb); (try clear hb2); (try clear hk); (try clear hi); have hcz16_0 : w15.cell? ⟨gb325, 0, none⟩ = some (.int .i64 a0_0) := (blk_cell BK325.out 0).trans rfl; have hcz16_1 : w15.cell? ⟨gb325, 1, none⟩ = some (.int .i64 a0_1) := (blk_cell BK325.out 1).trans rfl; have hcz16_2 : w15.cell? ⟨gb325, 2, none⟩ = some (.int .i64 a0_2) := (blk_cell BK325.out 2).trans rfl; have hcz16_3 : w15.cell? ⟨gb325, 3, none⟩ = some (.int .i64 a0_3) := (blk_cell BK325.out 3).trans rfl; have hfz16_0 := blk_frozen BK325.out 0; have hfz16_1 := blk_frozen BK325.out 1; have hfz16_2 := blk_frozen BK325.out 2; have hfz16_3 := blk_frozen BK325.out 3))
          go_ret
          exact ⟨by first | rfl | (simp [errW_none, errW_some] <;> rfl) | (simp [*, errW_none, errW_some] <;> rfl), by repeat (first | (with_reducible first | exact HB.out | apply below_alloc | apply pw_below_drewN | apply below_drew1 | refine below_set ?_ GE325.out) | exact HB.out)⟩
      · rw [if_neg c7] at H
        have c7b0 : decide (a1 ≤ (wrap64 ((wrap64 (a0_0 + a0_2)) - 1))) = false := decide_eq_false c7
        clear c7
        obtain rfl := Option.some.inj H
        go_enter Try.func19, Try.ntmps19
        go_wp2_with (first | ((with_reducible refine gate_dst (N := 3) rfl ?_); refine box_event ?hg (N := 3) ?hd (cs := #[.int .i64 a0_0, .int .i64 a0_1, .int .i64 a0_2, .int .i64 a0_3]) (t := 27) ?hr ?_; (case hd => rfl); (case hg => rfl); (case hr => first | (go_simp; done) | (go_simp; rfl)); intro gb325 hg w17 hbox hb; have n0_ := Aside0.mk (below_step (by repeat (first | (with_reducible first | exact HB.out | apply below_alloc | apply pw_below_drewN | apply below_drew1) | exact HB.out)) hb); have n1_ := Aside0.mk (hbox); have n2_ := Aside0.mk ((by rw [hg]; exact (below_size (by repeat (first | (with_reducible first | exact HB.out | apply below_alloc | apply pw_below_drewN | apply below_drew1) | exact HB.out))) : w.heap.size ≤ gb325)); have n3_ := Aside0.mk ((by rw [hg]; exact (below_size (by repeat (first | (with_reducible first | exact HB.out | apply below_alloc | apply pw_below_drewN | apply below_drew1) | exact HB.out))) : w.heap.size ≤ gb325)); clear HB; have HB := n0_; have BK325 := n1_; have GW325 := n2_; have GE325 := n3_; clear n0_ n1_ n2_ n3_; clear hb hbox hg; have hcz18_0 : w17.cell? ⟨gb325, 0, none⟩ = some (.int .i64 a0_0) := (blk_cell BK325.out 0).trans rfl; have hcz18_1 : w17.cell? ⟨gb325, 1, none⟩ = some (.int .i64 a0_1) := (blk_cell BK325.out 1).trans rfl; have hcz18_2 : w17.cell? ⟨gb325, 2, none⟩ = some (.int .i64 a0_2) := (blk_cell BK325.out 2).trans rfl; have hcz18_3 : w17.cell? ⟨gb325, 3, none⟩ = some (.int .i64 a0_3) := (blk_cell BK325.out 3).trans rfl; have hfz18_0 := blk_frozen BK325.out 0; have hfz18_1 := blk_frozen BK325.out 1; have hfz18_2 := blk_frozen BK325.out 2; have hfz18_3 := blk_frozen BK325.out 3) | ((with_reducible refine gate_callee (f := 28) rfl ?_); refine goesL_ (some 8) rfl rfl Try.func28 (by kernel_rfl) rfl #[.agg #[.int .i64 a0_0, .int .i64 a0_1, .int .i64 a0_2, .int .i64 a0_3]] rfl (by (try simp only [List.map_toArray, List.map_cons, List.map_nil]); first | done | rfl | (simp only [List.length_drop, List.length_take]; rfl)) ?_; (with_reducible refine (sashref04_May.calls a0_0 a0_1 a0_2 a0_3 true _ A4.out).mono ?_); rintro e w19 ⟨rfl, hb⟩; refine ⟨_, rfl, ?_⟩; have n0_ := Aside0.mk (blk_below (g := gb325) (o := .cells #[.int .i64 a0_0, .int .i64 a0_1, .int .i64 a0_2, .int .i64 a0_3] 27 (0, 0)) (by (with_reducible repeat (first | refine blk_drewN ?_ _ | refine blk_drew ?_ | refine blk_alloc ?_ _)); exact BK325.out) hb); have n1_ := Aside0.mk (below_step (by repeat (first | (with_reducible first | exact HB.out | apply below_alloc | apply pw_below_drewN | apply below_drew1 | refine below_set ?_ GE325.out) | exact HB.out)) hb); clear BK325; clear HB; have BK325 := n0_; have HB := n1_; clear n0_ n1_; (try clear hb); (try clear hb2); (try clear hk); (try clear hi); have hcz20_0 : w19.cell? ⟨gb325, 0, none⟩ = some (.int .i64 a0_0) := (blk_cell BK325.out 0).trans rfl; have hcz20_1 : w19.cell? ⟨gb325, 1, none⟩ = some (.int .i64 a0_1) := (blk_cell BK325.out 1).trans rfl; have hcz20_2 : w19.cell? ⟨gb325, 2, none⟩ = some (.int .i64 a0_2) := (blk_cell BK325.out 2).trans rfl; have hcz20_3 : w19.cell? ⟨gb325, 3, none⟩ = some (.int .i64 a0_3) := (blk_cell BK325.out 3).trans rfl; have hfz20_0 := blk_frozen BK325.out 0; have hfz20_1 := blk_frozen BK325.out 1; have hfz20_2 := blk_frozen BK325.out 2; have hfz20_3 := blk_frozen BK325.out 3))
        go_ret
        exact ⟨by first | rfl | (simp [errW_none, errW_some] <;> rfl) | (simp [*, errW_none, errW_some] <;> rfl), by repeat (first | (with_reducible first | exact HB.out | apply below_alloc | apply pw_below_drewN | apply below_drew1 | refine below_set ?_ GE325.out) | exact HB.out)⟩
    · rw [if_neg c6] at H
      have c6b0 : decide (a0_0 ≤ a1) = false := decide_eq_false c6
      clear c6
      obtain rfl := Option.some.inj H
      go_enter Try.func19, Try.ntmps19
      go_wp2_with (first | ((with_reducible refine gate_dst (N := 3) rfl ?_); refine box_event ?hg (N := 3) ?hd (cs := #[.int .i64 a0_0, .int .i64 a0_1, .int .i64 a0_2, .int .i64 a0_3]) (t := 27) ?hr ?_; (case hd => rfl); (case hg => rfl); (case hr => first | (go_simp; done) | (go_simp; rfl)); intro gb325 hg w21 hbox hb; have n0_ := Aside0.mk (below_step (by repeat (first | (with_reducible first | exact HB.out | apply below_alloc | apply pw_below_drewN | apply below_drew1) | exact HB.out)) hb); have n1_ := Aside0.mk (hbox); have n2_ := Aside0.mk ((by rw [hg]; exact (below_size (by repeat (first | (with_reducible first | exact HB.out | apply below_alloc | apply pw_below_drewN | apply below_drew1) | exact HB.out))) : w.heap.size ≤ gb325)); have n3_ := Aside0.mk ((by rw [hg]; exact (below_size (by repeat (first | (with_reducible first | exact HB.out | apply below_alloc | apply pw_below_drewN | apply below_drew1) | exact HB.out))) : w.heap.size ≤ gb325)); clear HB; have HB := n0_; have BK325 := n1_; have GW325 := n2_; have GE325 := n3_; clear n0_ n1_ n2_ n3_; clear hb hbox hg; have hcz22_0 : w21.cell? ⟨gb325, 0, none⟩ = some (.int .i64 a0_0) := (blk_cell BK325.out 0).trans rfl; have hcz22_1 : w21.cell? ⟨gb325, 1, none⟩ = some (.int .i64 a0_1) := (blk_cell BK325.out 1).trans rfl; have hcz22_2 : w21.cell? ⟨gb325, 2, none⟩ = some (.int .i64 a0_2) := (blk_cell BK325.out 2).trans rfl; have hcz22_3 : w21.cell? ⟨gb325, 3, none⟩ = some (.int .i64 a0_3) := (blk_cell BK325.out 3).trans rfl; have hfz22_0 := blk_frozen BK325.out 0; have hfz22_1 := blk_frozen BK325.out 1; have hfz22_2 := blk_frozen BK325.out 2; have hfz22_3 := blk_frozen BK325.out 3) | ((with_reducible refine gate_callee (f := 28) rfl ?_); refine goesL_ (some 8) rfl rfl Try.func28 (by kernel_rfl) rfl #[.agg #[.int .i64 a0_0, .int .i64 a0_1, .int .i64 a0_2, .int .i64 a0_3]] rfl (by (try simp only [List.map_toArray, List.map_cons, List.map_nil]); first | done | rfl | (simp only [List.length_drop, List.length_take]; rfl)) ?_; (with_reducible refine (sashref04_May.calls a0_0 a0_1 a0_2 a0_3 true _ A4.out).mono ?_); rintro e w23 ⟨rfl, hb⟩; refine ⟨_, rfl, ?_⟩; have n0_ := Aside0.mk (blk_below (g := gb325) (o := .cells #[.int .i64 a0_0, .int .i64 a0_1, .int .i64 a0_2, .int .i64 a0_3] 27 (0, 0)) (by (with_reducible repeat (first | refine blk_drewN ?_ _ | refine blk_drew ?_ | refine blk_alloc ?_ _)); exact BK325.out) hb); have n1_ := Aside0.mk (below_step (by repeat (first | (with_reducible first | exact HB.out | apply below_alloc | apply pw_below_drewN | apply below_drew1 | refine below_set ?_ GE325.out) | exact HB.out)) hb); clear BK325; clear HB; have BK325 := n0_; have HB := n1_; clear n0_ n1_; (try clear hb); (try clear hb2); (try clear hk); (try clear hi); have hcz24_0 : w23.cell? ⟨gb325, 0, none⟩ = some (.int .i64 a0_0) := (blk_cell BK325.out 0).trans rfl; have hcz24_1 : w23.cell? ⟨gb325, 1, none⟩ = some (.int .i64 a0_1) := (blk_cell BK325.out 1).trans rfl; have hcz24_2 : w23.cell? ⟨gb325, 2, none⟩ = some (.int .i64 a0_2) := (blk_cell BK325.out 2).trans rfl; have hcz24_3 : w23.cell? ⟨gb325, 3, none⟩ = some (.int .i64 a0_3) := (blk_cell BK325.out 3).trans rfl; have hfz24_0 := blk_frozen BK325.out 0; have hfz24_1 := blk_frozen BK325.out 1; have hfz24_2 := blk_frozen BK325.out 2; have hfz24_3 := blk_frozen BK325.out 3))
      go_ret
      exact ⟨by first | rfl | (simp [errW_none, errW_some] <;> rfl) | (simp [*, errW_none, errW_some] <;> rfl), by repeat (first | (with_reducible first | exact HB.out | apply below_alloc | apply pw_below_drewN | apply below_drew1 | refine below_set ?_ GE325.out) | exact HB.out)⟩
  · replace c5 := Bool.eq_false_iff.mpr c5
    subst c5
    have H1 : (some false) = some r := by rw [if_neg (show ¬ (false = true) by decide)] at H; exact H
    clear H
    have H := H1
    clear H1
    obtain rfl := Option.some.inj H
    go_enter Try.func19, Try.ntmps19
    go_wp2_with (first | ((with_reducible refine gate_dst (N := 3) rfl ?_); refine box_event ?hg (N := 3) ?hd (cs := #[.int .i64 a0_0, .int .i64 a0_1, .int .i64 a0_2, .int .i64 a0_3]) (t := 27) ?hr ?_; (case hd => rfl); (case hg => rfl); (case hr => first | (go_simp; done) | (go_simp; rfl)); intro gb325 hg w25 hbox hb; have n0_ := Aside0.mk (below_step (by repeat (first | (with_reducible first | exact HB.out | apply below_alloc | apply pw_below_drewN | apply below_drew1) | exact HB.out)) hb); have n1_ := Aside0.mk (hbox); have n2_ := Aside0.mk ((by rw [hg]; exact (below_size (by repeat (first | (with_reducible first | exact HB.out | apply below_alloc | apply pw_below_drewN | apply below_drew1) | exact HB.out))) : w.heap.size ≤ gb325)); have n3_ := Aside0.mk ((by rw [hg]; exact (below_size (by repeat (first | (with_reducible first | exact HB.out | apply below_alloc | apply pw_below_drewN | apply below_drew1) | exact HB.out))) : w.heap.size ≤ gb325)); clear HB; have HB := n0_; have BK325 := n1_; have GW325 := n2_; have GE325 := n3_; clear n0_ n1_ n2_ n3_; clear hb hbox hg; have hcz26_0 : w25.cell? ⟨gb325, 0, none⟩ = some (.int .i64 a0_0) := (blk_cell BK325.out 0).trans rfl; have hcz26_1 : w25.cell? ⟨gb325, 1, none⟩ = some (.int .i64 a0_1) := (blk_cell BK325.out 1).trans rfl; have hcz26_2 : w25.cell? ⟨gb325, 2, none⟩ = some (.int .i64 a0_2) := (blk_cell BK325.out 2).trans rfl; have hcz26_3 : w25.cell? ⟨gb325, 3, none⟩ = some (.int .i64 a0_3) := (blk_cell BK325.out 3).trans rfl; have hfz26_0 := blk_frozen BK325.out 0; have hfz26_1 := blk_frozen BK325.out 1; have hfz26_2 := blk_frozen BK325.out 2; have hfz26_3 := blk_frozen BK325.out 3) | ((with_reducible refine gate_callee (f := 28) rfl ?_); refine goesL_ (some 8) rfl rfl Try.func28 (by kernel_rfl) rfl #[.agg #[.int .i64 a0_0, .int .i64 a0_1, .int .i64 a0_2, .int .i64 a0_3]] rfl (by (try simp only [List.map_toArray, List.map_cons, List.map_nil]); first | done | rfl | (simp only [List.length_drop, List.length_take]; rfl)) ?_; (with_reducible refine (sashref04_May.calls a0_0 a0_1 a0_2 a0_3 false _ A4.out).mono ?_); rintro e w27 ⟨rfl, hb⟩; refine ⟨_, rfl, ?_⟩; have n0_ := Aside0.mk (blk_below (g := gb325) (o := .cells #[.int .i64 a0_0, .int .i64 a0_1, .int .i64 a0_2, .int .i64 a0_3] 27 (0, 0)) (by (with_reducible repeat (first | refine blk_drewN ?_ _ | refine blk_drew ?_ | refine blk_alloc ?_ _)); exact BK325.out) hb); have n1_ := Aside0.mk (below_step (by repeat (first | (with_reducible first | exact HB.out | apply below_alloc | apply pw_below_drewN | apply below_drew1 | refine below_set ?_ GE325.out) | exact HB.out)) hb); clear BK325; clear HB; have BK325 := n0_; have HB := n1_; clear n0_ n1_; (try clear hb); (try clear hb2); (try clear hk); (try clear hi)))
    go_ret
    exact ⟨by first | rfl | (simp [errW_none, errW_some] <;> rfl) | (simp [*, errW_none, errW_some] <;> rfl), by repeat (first | (with_reducible first | exact HB.out | apply below_alloc | apply pw_below_drewN | apply below_drew1 | refine below_set ?_ GE325.out) | exact HB.out)⟩

def sashref06_Hit.l0 : Nat → Int → Int → List (S29) → Int → Int → Option (Int × Bool)
  | 0, _, _, _, _, _ => none
  | k + 1, x1, x2, x8, x16, x17 => if x17 < x16 then (if 0 ≤ x17 then (if x17 < (x8.length : Int) then ((sashref04_Has.f ((rd_T29 x8 x17).f1.f0) ((rd_T29 x8 x17).f1.f1) ((rd_T29 x8 x17).f1.f2) ((rd_T29 x8 x17).f1.f3) x1 x2).bind fun t333 => (if t333 = true then (some ((rd_T29 x8 x17).f2, true)) else (sashref06_Hit.l0 k x1 x2 x8 x16 (wrap64 (x17 + 1))))) else (none)) else (none)) else (some (0, false))
def sashref06_Hit.f (k : Nat) (a0_0 : Int) (a0_1 : Int) (a0_2 : Int) (a0_3 : Int) (a0_4 : Int) (a0_5 : Int) (l0_6 : List (S29)) (a1 : Int) (a2 : Int) : Option (Int × Bool) := (sashref06_Tiles.f k a0_0 a0_1 a0_2 a0_3 a0_4 a0_5 l0_6).bind fun t328 => (if t328 = true then ((sashref05_Leaves.f k a0_0 a0_1 a0_2 a0_3 a0_4 a0_5 l0_6).bind fun t329 => (sashref06_Hit.l0 k a1 a2 t329 (t329.length : Int) 0)) else (some (0, false)))
set_option maxHeartbeats 8000000 in
set_option maxRecDepth 100000 in
theorem sashref06_Hit.calls (k : Nat) (a0_0 : Int) (a0_1 : Int) (a0_2 : Int) (a0_3 : Int) (a0_4 : Int) (a0_5 : Int) (A0_6 : Option Addr) (c0_6 : Nat) (l0_6 : List (S29)) (a1 : Int) (a2 : Int) (r1 : Int) (r2 : Bool) (w : World) (hr0_6 : Kd.C k29 w A0_6 l0_6.length l0_6) (hc0_6 : l0_6.length ≤ c0_6) (h : sashref06_Hit.f k a0_0 a0_1 a0_2 a0_3 a0_4 a0_5 l0_6 a1 a2 = some (r1, r2)) :
    Calls Try.prog 18 #[.agg #[.int .u8 a0_0, .int .i64 a0_1, .int .i64 a0_2, .int .i64 a0_3, .int .i64 a0_4, .int .i64 a0_5, .slice A0_6 l0_6.length c0_6], .int .i64 a1, .int .i64 a2] w fun e w' => e = .returned (.tuple #[.int .i64 r1, .bool r2]) ∧ Below w.heap.size w w' := by
  have hu29 := Try.underlying29
  have hu27 := Try.underlying27
  have HR0_6 := Aside0.mk hr0_6
  have HC0_6 := Aside0.mk hc0_6
  clear hr0_6 hc0_6
  have HB := Aside0.mk (Below.refl w.heap.size w)
  have H : ((sashref06_Tiles.f k a0_0 a0_1 a0_2 a0_3 a0_4 a0_5 l0_6).bind fun t328 => (if t328 = true then ((sashref05_Leaves.f k a0_0 a0_1 a0_2 a0_3 a0_4 a0_5 l0_6).bind fun t329 => (sashref06_Hit.l0 k a1 a2 t329 (t329.length : Int) 0)) else (some (0, false)))) = some (r1, r2) := h
  clear h
  replace H := Option.bind_eq_some_iff.mp H
  obtain ⟨t328, A40, H⟩ := H
  replace H : (if t328 = true then ((sashref05_Leaves.f k a0_0 a0_1 a0_2 a0_3 a0_4 a0_5 l0_6).bind fun t329 => (sashref06_Hit.l0 k a1 a2 t329 (t329.length : Int) 0)) else (some (0, false))) = some (r1, r2) := H
  have A4 := Aside0.mk A40
  clear A40
  by_cases c5 : t328 = true
  · subst c5
    have H1 : ((sashref05_Leaves.f k a0_0 a0_1 a0_2 a0_3 a0_4 a0_5 l0_6).bind fun t329 => (sashref06_Hit.l0 k a1 a2 t329 (t329.length : Int) 0)) = some (r1, r2) := by rw [if_pos rfl] at H; exact H
    clear H
    have H := H1
    clear H1
    replace H := Option.bind_eq_some_iff.mp H
    obtain ⟨t329, A60, H⟩ := H
    replace H : (sashref06_Hit.l0 k a1 a2 t329 (t329.length : Int) 0) = some (r1, r2) := H
    have A6 := Aside0.mk A60
    clear A60
    have H' := Aside0.mk H
    clear H
    go_enter Try.func18, Try.ntmps18
    go_wp2_with (first | ((with_reducible refine gate_dst (N := 3) rfl ?_); refine box_event ?hg (N := 3) ?hd (cs := #[.int .u8 a0_0, .int .i64 a0_1, .int .i64 a0_2, .int .i64 a0_3, .int .i64 a0_4, .int .i64 a0_5, .slice A0_6 l0_6.length c0_6]) (t := 29) ?hr ?_; (case hd => rfl); (case hg => rfl); (case hr => first | (go_simp; done) | (go_simp; rfl)); intro gb327 hg w7 hbox hb; have n0_ := Aside0.mk (below_step (by repeat (first | (with_reducible first | exact HB.out | apply below_alloc | apply pw_below_drewN | apply below_drew1) | exact HB.out)) hb); have n1_ := Aside0.mk (hbox); have n2_ := Aside0.mk ((by rw [hg]; exact (below_size (by repeat (first | (with_reducible first | exact HB.out | apply below_alloc | apply pw_below_drewN | apply below_drew1) | exact HB.out))) : w.heap.size ≤ gb327)); have n3_ := Aside0.mk ((by rw [hg]; exact (below_size (by repeat (first | (with_reducible first | exact HB.out | apply below_alloc | apply pw_below_drewN | apply below_drew1) | exact HB.out))) : w.heap.size ≤ gb327)); clear HB; have HB := n0_; have BK327 := n1_; have GW327 := n2_; have GE327 := n3_; clear n0_ n1_ n2_ n3_; clear hb hbox hg; have hcz8_0 : w7.cell? ⟨gb327, 0, none⟩ = some (.int .u8 a0_0) := (blk_cell BK327.out 0).trans rfl; have hcz8_1 : w7.cell? ⟨gb327, 1, none⟩ = some (.int .i64 a0_1) := (blk_cell BK327.out 1).trans rfl; have hcz8_2 : w7.cell? ⟨gb327, 2, none⟩ = some (.int .i64 a0_2) := (blk_cell BK327.out 2).trans rfl; have hcz8_3 : w7.cell? ⟨gb327, 3, none⟩ = some (.int .i64 a0_3) := (blk_cell BK327.out 3).trans rfl; have hcz8_4 : w7.cell? ⟨gb327, 4, none⟩ = some (.int .i64 a0_4) := (blk_cell BK327.out 4).trans rfl; have hcz8_5 : w7.cell? ⟨gb327, 5, none⟩ = some (.int .i64 a0_5) := (blk_cell BK327.out 5).trans rfl; have hcz8_6 : w7.cell? ⟨gb327, 6, none⟩ = some (.slice A0_6 l0_6.length c0_6) := (blk_cell BK327.out 6).trans rfl; have hfz8_0 := blk_frozen BK327.out 0; have hfz8_1 := blk_frozen BK327.out 1; have hfz8_2 := blk_frozen BK327.out 2; have hfz8_3 := blk_frozen BK327.out 3; have hfz8_4 := blk_frozen BK327.out 4; have hfz8_5 := blk_frozen BK327.out 5; have hfz8_6 := blk_frozen BK327.out 6) | ((with_reducible refine gate_callee (f := 9) rfl ?_); refine goesL_ (some 11) rfl rfl Try.func9 (by kernel_rfl) rfl #[.agg #[.int .u8 a0_0, .int .i64 a0_1, .int .i64 a0_2, .int .i64 a0_3, .int .i64 a0_4, .int .i64 a0_5, .slice A0_6 l0_6.length c0_6]] rfl (by (try simp only [List.map_toArray, List.map_cons, List.map_nil]); first | done | rfl | (simp only [List.length_drop, List.length_take]; rfl)) ?_; (with_reducible refine (sashref06_Tiles.calls k a0_0 a0_1 a0_2 a0_3 a0_4 a0_5 _ _ l0_6 true _ ?side1 ?side2 A4.out).mono ?_); (case side1 => repeat (first | exact (Kd.C_below HR0_6.out HB.out) | (with_reducible refine Kd.C_alloc ?_ _) | (with_reducible refine Kd.C_drewN ?_ _) | (with_reducible refine Kd.C_drew ?_))); (case side2 => exact HC0_6.out); rintro e w9 ⟨rfl, hb⟩; refine ⟨_, rfl, ?_⟩; have n0_ := Aside0.mk (blk_below (g := gb327) (o := .cells #[.int .u8 a0_0, .int .i64 a0_1, .int .i64 a0_2, .int .i64 a0_3, .int .i64 a0_4, .int .i64 a0_5, .slice A0_6 l0_6.length c0_6] 29 (0, 0)) (by (with_reducible repeat (first | refine blk_drewN ?_ _ | refine blk_drew ?_ | refine blk_alloc ?_ _)); exact BK327.out) hb); have n1_ := Aside0.mk (below_step (by repeat (first | (with_reducible first | exact HB.out | apply below_alloc | apply pw_below_drewN | apply below_drew1 | refine below_set ?_ GE327.out) | exact HB.out)) hb); clear BK327; clear HB; have BK327 := n0_; have HB := n1_; clear n0_ n1_; (try clear hb); (try clear hb2); (try clear hk); (try clear hi); have hcz10_0 : w9.cell? ⟨gb327, 0, none⟩ = some (.int .u8 a0_0) := (blk_cell BK327.out 0).trans rfl; have hcz10_1 : w9.cell? ⟨gb327, 1, none⟩ = some (.int .i64 a0_1) := (blk_cell BK327.out 1).trans rfl; have hcz10_2 : w9.cell? ⟨gb327, 2, none⟩ = some (.int .i64 a0_2) := (blk_cell BK327.out 2).trans rfl; have hcz10_3 : w9.cell? ⟨gb327, 3, none⟩ = some (.int .i64 a0_3) := (blk_cell BK327.out 3).trans rfl; have hcz10_4 : w9.cell? ⟨gb327, 4, none⟩ = some (.int .i64 a0_4) := (blk_cell BK327.out 4).trans rfl; have hcz10_5 : w9.cell? ⟨gb327, 5, none⟩ = some (.int .i64 a0_5) := (blk_cell BK327.out 5).trans rfl; have hcz10_6 : w9.cell? ⟨gb327, 6, none⟩ = some (.slice A0_6 l0_6.length c0_6) := (blk_cell BK327.out 6).trans rfl; have hfz10_0 := blk_frozen BK327.out 0; have hfz10_1 := blk_frozen BK327.out 1; have hfz10_2 := blk_frozen BK327.out 2; have hfz10_3 := blk_frozen BK327.out 3; have hfz10_4 := blk_frozen BK327.out 4; have hfz10_5 := blk_frozen BK327.out 5; have hfz10_6 := blk_frozen BK327.out 6) | ((with_reducible refine gate_callee (f := 25) rfl ?_); refine goesL_ (some 14) rfl rfl Try.func25 (by kernel_rfl) rfl #[.agg #[.int .u8 a0_0, .int .i64 a0_1, .int .i64 a0_2, .int .i64 a0_3, .int .i64 a0_4, .int .i64 a0_5, .slice A0_6 l0_6.length c0_6]] rfl (by (try simp only [List.map_toArray, List.map_cons, List.map_nil]); first | done | rfl | (simp only [List.length_drop, List.length_take]; rfl)) ?_; (with_reducible refine (sashref05_Leaves.calls k a0_0 a0_1 a0_2 a0_3 a0_4 a0_5 (fun k_ => k_ < w.heap.size) _ _ l0_6 t329 _ ?side1 A6.out).mono ?_); (case side1 => exact Kd.V_mk HC0_6.out (Kd.F_below (Kd.C_F k29_heap HR0_6.out) (by repeat (first | (with_reducible first | exact HB.out | apply below_alloc | apply pw_below_drewN | apply below_drew1 | refine below_set ?_ GE327.out) | exact HB.out)))); rintro e w11 ⟨v330, rfl, ho0, hb⟩; refine ⟨_, rfl, ?_⟩; have n0_ := Aside0.mk (Kd.N_lower (Kd.N_mono (ok' := fun k_ => k_ ≠ gb327) ho0 (fun k_ hk_ => Or.elim hk_ (fun hs_ => fun e_ => Nat.not_le.2 hs_ (by rw [e_]; exact GW327.out)) (fun hn_ => (Kd.freshB (g := gb327) (o := .cells #[.int .u8 a0_0, .int .i64 a0_1, .int .i64 a0_2, .int .i64 a0_3, .int .i64 a0_4, .int .i64 a0_5, .slice A0_6 l0_6.length c0_6] 29 (0, 0)) (by (with_reducible repeat (first | refine blk_drewN ?_ _ | refine blk_drew ?_ | refine blk_alloc ?_ _)); exact BK327.out) k_ hn_)))) (below_size (by repeat (first | (with_reducible first | exact HB.out | apply below_alloc | apply pw_below_drewN | apply below_drew1 | refine below_set ?_ GE327.out) | exact HB.out)))); have n1_ := Aside0.mk (blk_below (g := gb327) (o := .cells #[.int .u8 a0_0, .int .i64 a0_1, .int .i64 a0_2, .int .i64 a0_3, .int .i64 a0_4, .int .i64 a0_5, .slice A0_6 l0_6.length c0_6] 29 (0, 0)) (by (with_reducible repeat (first | refine blk_drewN ?_ _ | refine blk_drew ?_ | refine blk_alloc ?_ _)); exact BK327.out) hb); have n2_ := Aside0.mk (below_step (by repeat (first | (with_reducible first | exact HB.out | apply below_alloc | apply pw_below_drewN | apply below_drew1 | refine below_set ?_ GE327.out) | exact HB.out)) hb); clear BK327; clear HB; have HO331 := n0_; have BK327 := n1_; have HB := n2_; clear n0_ n1_ n2_; (try clear hb); (try clear hb2); (try clear hk); (try clear hi); (try clear ho0); obtain ⟨Ao12, co12, eo12⟩ := Kd.N_slice HO331.out; subst eo12))
    go_loopg [17] k (fun kq v17 w' => ∃ (x17_1 : Int), v17 = .int .i64 x17_1 ∧ Aside0 (sashref06_Hit.l0 kq a1 a2 t329 (t329.length : Int) x17_1 = some (r1, r2)) ∧ Aside0 (kq ≤ k) ∧ Aside0 (Kd.N k29 29 w' w.heap.size (fun k_ => k_ ≠ gb327) (.slice Ao12 t329.length co12) t329) ∧ Aside0 (w'.heap[gb327]? = some (.cells #[.int .u8 a0_0, .int .i64 a0_1, .int .i64 a0_2, .int .i64 a0_3, .int .i64 a0_4, .int .i64 a0_5, (.slice A0_6 l0_6.length c0_6)] 29 (0, 0))) ∧ Aside0 (Below w.heap.size w w'))
    case atStart => exact ⟨(0), (by first | rfl | (simp; done) | (simp [*]; done)), H', ⟨Nat.le_refl _⟩, ⟨by (with_reducible repeat (first | apply Kd.N_alloc | apply Kd.N_drewN | apply Kd.N_drew)); exact HO331.out⟩, ⟨by (with_reducible repeat (first | refine blk_drewN ?_ _ | refine blk_drew ?_ | refine blk_alloc ?_ _)); exact BK327.out⟩, ⟨by repeat (first | (with_reducible first | exact HB.out | apply below_alloc | apply pw_below_drewN | apply below_drew1 | refine below_set ?_ GE327.out) | exact HB.out)⟩⟩
    case round =>
      clear H'
      try clear c1
      try clear c2
      try clear p2
      try clear c5
      try clear c9
      try clear hcz10_0
      try clear hcz10_1
      try clear hcz10_2
      try clear hcz10_3
      try clear hcz10_4
      try clear hcz10_5
      try clear hcz10_6
      try clear hcz8_0
      try clear hcz8_1
      try clear hcz8_2
      try clear hcz8_3
      try clear hcz8_4
      try clear hcz8_5
      try clear hcz8_6
      try clear hfz10_0
      try clear hfz10_1
      try clear hfz10_2
      try clear hfz10_3
      try clear hfz10_4
      try clear hfz10_5
      try clear hfz10_6
      try clear hfz8_0
      try clear hfz8_1
      try clear hfz8_2
      try clear hfz8_3
      try clear hfz8_4
      try clear hfz8_5
      try clear hfz8_6
      obtain ⟨x17_1, rfl, HA, HK1, HO_8, BK327, HB⟩ := hrel
      cases gk with
      | zero => exact absurd HA.out (by simp [sashref06_Hit.l0])
      | succ k1 =>
        have H := HA.out
        clear HA
        simp only [sashref06_Hit.l0] at H
        by_cases c13 : x17_1 < (t329.length : Int)
        · rw [if_pos c13] at H
          have c13b0 : decide (x17_1 < (t329.length : Int)) = true := decide_eq_true c13
          clear c13
          by_cases c14 : 0 ≤ x17_1
          · rw [if_pos c14] at H
            have c14b0 : decide (0 ≤ x17_1) = true := decide_eq_true c14
            clear c14
            by_cases c15 : x17_1 < (t329.length : Int)
            · rw [if_pos c15] at H
              have c15b0 : decide (x17_1 < (t329.length : Int)) = true := decide_eq_true c15
              clear c15
              replace H := Option.bind_eq_some_iff.mp H
              obtain ⟨t333, A160, H⟩ := H
              replace H : (if t333 = true then (some ((rd_T29 t329 x17_1).f2, true)) else (sashref06_Hit.l0 k1 a1 a2 t329 (t329.length : Int) (wrap64 (x17_1 + 1)))) = some (r1, r2) := H
              have A16 := Aside0.mk A160
              clear A160
              by_cases c17 : t333 = true
              · subst c17
                have H1 : (some ((rd_T29 t329 x17_1).f2, true)) = some (r1, r2) := by rw [if_pos rfl] at H; exact H
                clear H
                have H := H1
                clear H1
                simp only [Option.some.injEq, Prod.mk.injEq] at H
                obtain ⟨rfl, rfl⟩ := H
                have p332 : 0 ≤ (x17_1 : Int) := of_decide_eq_true (by first | (with_reducible assumption) | assumption)
                have q332 : x17_1 < (t329.length : Int) := of_decide_eq_true (by first | (with_reducible assumption) | assumption)
                obtain ⟨ad332, A332_6, c332_6, e332, hx332_0, hx332_1, hx332_2, hx332_3, hx332_4, hx332_5, hx332_6, hl332_6, hi332_6⟩ := at_T29 (Kd.N_reads' HO_8.out).2.2 x17_1 p332 q332
                cases e332
                obtain ⟨ce332, hce332, hMe332, hcc332⟩ := Kd.N_get HO_8.out z29 x17_1 p332 (by first | exact q332 | exact of_decide_eq_true (by first | (with_reducible assumption) | assumption) | (have e_ := (Kd.N_reads' HO_8.out).1; omega))
                obtain ⟨ua332_6, uc332_6, rfl, ul332_6, ge332_6⟩ := k29_openF hMe332
                have hv332_6 := hcc332 6 _ rfl
                rw [add_field _ _ 6 (by omega)] at hv332_6
                replace hv332_6 := Option.some.inj (hv332_6.symm.trans hx332_6)
                injection hv332_6 with hva_ hvn_ hvc_
                rw [hva_] at ge332_6
                rw [hvc_] at ul332_6
                have HL332_6 := Aside0.mk (show Kd.V k29 29 _ w.heap.size _ _ ((rd_T29 t329 x17_1).f3) from Kd.V_mk ul332_6 ge332_6)
                clear hva_ hvn_ hvc_ ge332_6 ul332_6
                clear hcc332 hce332
                have HR332_6 := Aside0.mk hi332_6
                have HC332_6 := Aside0.mk hl332_6
                clear hi332_6 hl332_6
                replace p332 := eq_true p332
                replace q332 := eq_true q332
                go_wp2_with (first | ((with_reducible refine gate_callee (f := 19) rfl ?_); refine goesL_ (some 27) rfl rfl Try.func19 (by kernel_rfl) rfl #[.agg #[.int .i64 ((rd_T29 t329 x17_1).f1.f0), .int .i64 ((rd_T29 t329 x17_1).f1.f1), .int .i64 ((rd_T29 t329 x17_1).f1.f2), .int .i64 ((rd_T29 t329 x17_1).f1.f3)], .int .i64 a1, .int .i64 a2] rfl (by (try simp only [List.map_toArray, List.map_cons, List.map_nil]); first | done | rfl | (simp only [List.length_drop, List.length_take]; rfl)) ?_; (with_reducible refine (sashref04_Has.calls ((rd_T29 t329 x17_1).f1.f0) ((rd_T29 t329 x17_1).f1.f1) ((rd_T29 t329 x17_1).f1.f2) ((rd_T29 t329 x17_1).f1.f3) a1 a2 true _ A16.out).mono ?_); rintro e w18 ⟨rfl, hb⟩; refine ⟨_, rfl, ?_⟩; have n0_ := Aside0.mk (Kd.N_below (by (with_reducible repeat (first | apply Kd.N_alloc | apply Kd.N_drewN | apply Kd.N_drew)); exact HO_8.out) hb); have n1_ := Aside0.mk (Kd.V_below (by (with_reducible repeat (first | apply Kd.V_alloc | apply Kd.V_drewN | apply Kd.V_drew)); exact HL332_6.out) hb); have n2_ := Aside0.mk (blk_below (g := gb327) (o := .cells #[.int .u8 a0_0, .int .i64 a0_1, .int .i64 a0_2, .int .i64 a0_3, .int .i64 a0_4, .int .i64 a0_5, .slice A0_6 l0_6.length c0_6] 29 (0, 0)) (by (with_reducible repeat (first | refine blk_drewN ?_ _ | refine blk_drew ?_ | refine blk_alloc ?_ _)); exact BK327.out) hb); have n3_ := Aside0.mk (Kd.C_below (by repeat (first | (with_reducible exact HR332_6.out) | (with_reducible refine Kd.C_alloc ?_ _) | (with_reducible refine Kd.C_drewN ?_ _) | (with_reducible refine Kd.C_drew ?_) | exact HR332_6.out)) hb); have n4_ := Aside0.mk (below_step (by repeat (first | (with_reducible first | exact HB.out | apply below_alloc | apply pw_below_drewN | apply below_drew1 | refine below_set ?_ GE327.out) | exact HB.out)) hb); clear HO_8; clear HL332_6; clear BK327; clear HR332_6; clear HB; have HO_8 := n0_; have HL332_6 := n1_; have BK327 := n2_; have HR332_6 := n3_; have HB := n4_; clear n0_ n1_ n2_ n3_ n4_; (try clear hb); (try clear hb2); (try clear hk); (try clear hi); have p334 : 0 ≤ (x17_1 : Int) := of_decide_eq_true (by first | (with_reducible assumption) | assumption); have q334 : x17_1 < (t329.length : Int) := of_decide_eq_true (by first | (with_reducible assumption) | assumption); obtain ⟨ad334, A334_6, c334_6, e334, hx334_0, hx334_1, hx334_2, hx334_3, hx334_4, hx334_5, hx334_6, hl334_6, hi334_6⟩ := at_T29 (Kd.N_reads' HO_8.out).2.2 x17_1 p334 q334; obtain rfl : ad332 = ad334 := (by injection e334); obtain ⟨ce334, hce334, hMe334, hcc334⟩ := Kd.N_get HO_8.out z29 x17_1 p334 (by first | exact q334 | exact of_decide_eq_true (by first | (with_reducible assumption) | assumption) | (have e_ := (Kd.N_reads' HO_8.out).1; omega)); obtain ⟨ua334_6, uc334_6, rfl, ul334_6, ge334_6⟩ := k29_openF hMe334; have hv334_6 := hcc334 6 _ rfl; rw [add_field _ _ 6 (by omega)] at hv334_6; replace hv334_6 := Option.some.inj (hv334_6.symm.trans hx334_6); injection hv334_6 with hva_ hvn_ hvc_; rw [hva_] at ge334_6; rw [hvc_] at ul334_6; have HL334_6 := Aside0.mk (show Kd.V k29 29 _ w.heap.size _ _ ((rd_T29 t329 x17_1).f3) from Kd.V_mk ul334_6 ge334_6); clear hva_ hvn_ hvc_ ge334_6 ul334_6; clear hcc334 hce334; have HR334_6 := Aside0.mk hi334_6; have HC334_6 := Aside0.mk hl334_6; clear hi334_6 hl334_6; replace p334 := eq_true p334; replace q334 := eq_true q334))
                go_ret2
                exact ⟨by first | rfl | (simp [errW_none, errW_some] <;> rfl) | (simp [*, errW_none, errW_some] <;> rfl), by repeat (first | (with_reducible first | exact HB.out | apply below_alloc | apply pw_below_drewN | apply below_drew1 | refine below_set ?_ GE327.out) | exact HB.out)⟩
              · replace c17 := Bool.eq_false_iff.mpr c17
                subst c17
                have H1 : (sashref06_Hit.l0 k1 a1 a2 t329 (t329.length : Int) (wrap64 (x17_1 + 1))) = some (r1, r2) := by rw [if_neg (show ¬ (false = true) by decide)] at H; exact H
                clear H
                have H := H1
                clear H1
                have H' := Aside0.mk H
                clear H
                have p332 : 0 ≤ (x17_1 : Int) := of_decide_eq_true (by first | (with_reducible assumption) | assumption)
                have q332 : x17_1 < (t329.length : Int) := of_decide_eq_true (by first | (with_reducible assumption) | assumption)
                obtain ⟨ad332, A332_6, c332_6, e332, hx332_0, hx332_1, hx332_2, hx332_3, hx332_4, hx332_5, hx332_6, hl332_6, hi332_6⟩ := at_T29 (Kd.N_reads' HO_8.out).2.2 x17_1 p332 q332
                cases e332
                obtain ⟨ce332, hce332, hMe332, hcc332⟩ := Kd.N_get HO_8.out z29 x17_1 p332 (by first | exact q332 | exact of_decide_eq_true (by first | (with_reducible assumption) | assumption) | (have e_ := (Kd.N_reads' HO_8.out).1; omega))
                obtain ⟨ua332_6, uc332_6, rfl, ul332_6, ge332_6⟩ := k29_openF hMe332
                have hv332_6 := hcc332 6 _ rfl
                rw [add_field _ _ 6 (by omega)] at hv332_6
                replace hv332_6 := Option.some.inj (hv332_6.symm.trans hx332_6)
                injection hv332_6 with hva_ hvn_ hvc_
                rw [hva_] at ge332_6
                rw [hvc_] at ul332_6
                have HL332_6 := Aside0.mk (show Kd.V k29 29 _ w.heap.size _ _ ((rd_T29 t329 x17_1).f3) from Kd.V_mk ul332_6 ge332_6)
                clear hva_ hvn_ hvc_ ge332_6 ul332_6
                clear hcc332 hce332
                have HR332_6 := Aside0.mk hi332_6
                have HC332_6 := Aside0.mk hl332_6
                clear hi332_6 hl332_6
                replace p332 := eq_true p332
                replace q332 := eq_true q332
                go_wp2_with (first | ((with_reducible refine gate_callee (f := 19) rfl ?_); refine goesL_ (some 27) rfl rfl Try.func19 (by kernel_rfl) rfl #[.agg #[.int .i64 ((rd_T29 t329 x17_1).f1.f0), .int .i64 ((rd_T29 t329 x17_1).f1.f1), .int .i64 ((rd_T29 t329 x17_1).f1.f2), .int .i64 ((rd_T29 t329 x17_1).f1.f3)], .int .i64 a1, .int .i64 a2] rfl (by (try simp only [List.map_toArray, List.map_cons, List.map_nil]); first | done | rfl | (simp only [List.length_drop, List.length_take]; rfl)) ?_; (with_reducible refine (sashref04_Has.calls ((rd_T29 t329 x17_1).f1.f0) ((rd_T29 t329 x17_1).f1.f1) ((rd_T29 t329 x17_1).f1.f2) ((rd_T29 t329 x17_1).f1.f3) a1 a2 false _ A16.out).mono ?_); rintro e w19 ⟨rfl, hb⟩; refine ⟨_, rfl, ?_⟩; have n0_ := Aside0.mk (Kd.N_below (by (with_reducible repeat (first | apply Kd.N_alloc | apply Kd.N_drewN | apply Kd.N_drew)); exact HO_8.out) hb); have n1_ := Aside0.mk (Kd.V_below (by (with_reducible repeat (first | apply Kd.V_alloc | apply Kd.V_drewN | apply Kd.V_drew)); exact HL332_6.out) hb); have n2_ := Aside0.mk (blk_below (g := gb327) (o := .cells #[.int .u8 a0_0, .int .i64 a0_1, .int .i64 a0_2, .int .i64 a0_3, .int .i64 a0_4, .int .i64 a0_5, .slice A0_6 l0_6.length c0_6] 29 (0, 0)) (by (with_reducible repeat (first | refine blk_drewN ?_ _ | refine blk_drew ?_ | refine blk_alloc ?_ _)); exact BK327.out) hb); have n3_ := Aside0.mk (Kd.C_below (by repeat (first | (with_reducible exact HR332_6.out) | (with_reducible refine Kd.C_alloc ?_ _) | (with_reducible refine Kd.C_drewN ?_ _) | (with_reducible refine Kd.C_drew ?_) | exact HR332_6.out)) hb); have n4_ := Aside0.mk (below_step (by repeat (first | (with_reducible first | exact HB.out | apply below_alloc | apply pw_below_drewN | apply below_drew1 | refine below_set ?_ GE327.out) | exact HB.out)) hb); clear HO_8; clear HL332_6; clear BK327; clear HR332_6; clear HB; have HO_8 := n0_; have HL332_6 := n1_; have BK327 := n2_; have HR332_6 := n3_; have HB := n4_; clear n0_ n1_ n2_ n3_ n4_; (try clear hb); (try clear hb2); (try clear hk); (try clear hi)))
                go_roundg k1
                case measure => have := HK1.out; omega
                case rel => exact ⟨(wrap64 (x17_1 + 1)), (by first | rfl | (simp; done) | (simp [*]; done)), H', ⟨by have := HK1.out; omega⟩, ⟨by (with_reducible repeat (first | apply Kd.N_alloc | apply Kd.N_drewN | apply Kd.N_drew)); exact HO_8.out⟩, ⟨by (with_reducible repeat (first | refine blk_drewN ?_ _ | refine blk_drew ?_ | refine blk_alloc ?_ _)); exact BK327.out⟩, ⟨by repeat (first | (with_reducible first | exact HB.out | apply below_alloc | apply pw_below_drewN | apply below_drew1 | refine below_set ?_ GE327.out) | exact HB.out)⟩⟩
            · rw [if_neg c15] at H
              exact absurd H (by simp)
          · rw [if_neg c14] at H
            exact absurd H (by simp)
        · rw [if_neg c13] at H
          have c13b0 : decide (x17_1 < (t329.length : Int)) = false := decide_eq_false c13
          clear c13
          simp only [Option.some.injEq, Prod.mk.injEq] at H
          obtain ⟨rfl, rfl⟩ := H
          go_wp2
          go_ret2
          exact ⟨by first | rfl | (simp [errW_none, errW_some] <;> rfl) | (simp [*, errW_none, errW_some] <;> rfl), by repeat (first | (with_reducible first | exact HB.out | apply below_alloc | apply pw_below_drewN | apply below_drew1 | refine below_set ?_ GE327.out) | exact HB.out)⟩
  · replace c5 := Bool.eq_false_iff.mpr c5
    subst c5
    have H1 : (some (0, false)) = some (r1, r2) := by rw [if_neg (show ¬ (false = true) by decide)] at H; exact H
    clear H
    have H := H1
    clear H1
    simp only [Option.some.injEq, Prod.mk.injEq] at H
    obtain ⟨rfl, rfl⟩ := H
    go_enter Try.func18, Try.ntmps18
    go_wp2_with (first | ((with_reducible refine gate_dst (N := 3) rfl ?_); refine box_event ?hg (N := 3) ?hd (cs := #[.int .u8 a0_0, .int .i64 a0_1, .int .i64 a0_2, .int .i64 a0_3, .int .i64 a0_4, .int .i64 a0_5, .slice A0_6 l0_6.length c0_6]) (t := 29) ?hr ?_; (case hd => rfl); (case hg => rfl); (case hr => first | (go_simp; done) | (go_simp; rfl)); intro gb327 hg w20 hbox hb; have n0_ := Aside0.mk (below_step (by repeat (first | (with_reducible first | exact HB.out | apply below_alloc | apply pw_below_drewN | apply below_drew1) | exact HB.out)) hb); have n1_ := Aside0.mk (hbox); have n2_ := Aside0.mk ((by rw [hg]; exact (below_size (by repeat (first | (with_reducible first | exact HB.out | apply below_alloc | apply pw_below_drewN | apply below_drew1) | exact HB.out))) : w.heap.size ≤ gb327)); have n3_ := Aside0.mk ((by rw [hg]; exact (below_size (by repeat (first | (with_reducible first | exact HB.out | apply below_alloc | apply pw_below_drewN | apply below_drew1) | exact HB.out))) : w.heap.size ≤ gb327)); clear HB; have HB := n0_; have BK327 := n1_; have GW327 := n2_; have GE327 := n3_; clear n0_ n1_ n2_ n3_; clear hb hbox hg; have hcz21_0 : w20.cell? ⟨gb327, 0, none⟩ = some (.int .u8 a0_0) := (blk_cell BK327.out 0).trans rfl; have hcz21_1 : w20.cell? ⟨gb327, 1, none⟩ = some (.int .i64 a0_1) := (blk_cell BK327.out 1).trans rfl; have hcz21_2 : w20.cell? ⟨gb327, 2, none⟩ = some (.int .i64 a0_2) := (blk_cell BK327.out 2).trans rfl; have hcz21_3 : w20.cell? ⟨gb327, 3, none⟩ = some (.int .i64 a0_3) := (blk_cell BK327.out 3).trans rfl; have hcz21_4 : w20.cell? ⟨gb327, 4, none⟩ = some (.int .i64 a0_4) := (blk_cell BK327.out 4).trans rfl; have hcz21_5 : w20.cell? ⟨gb327, 5, none⟩ = some (.int .i64 a0_5) := (blk_cell BK327.out 5).trans rfl; have hcz21_6 : w20.cell? ⟨gb327, 6, none⟩ = some (.slice A0_6 l0_6.length c0_6) := (blk_cell BK327.out 6).trans rfl; have hfz21_0 := blk_frozen BK327.out 0; have hfz21_1 := blk_frozen BK327.out 1; have hfz21_2 := blk_frozen BK327.out 2; have hfz21_3 := blk_frozen BK327.out 3; have hfz21_4 := blk_frozen BK327.out 4; have hfz21_5 := blk_frozen BK327.out 5; have hfz21_6 := blk_frozen BK327.out 6) | ((with_reducible refine gate_callee (f := 9) rfl ?_); refine goesL_ (some 11) rfl rfl Try.func9 (by kernel_rfl) rfl #[.agg #[.int .u8 a0_0, .int .i64 a0_1, .int .i64 a0_2, .int .i64 a0_3, .int .i64 a0_4, .int .i64 a0_5, .slice A0_6 l0_6.length c0_6]] rfl (by (try simp only [List.map_toArray, List.map_cons, List.map_nil]); first | done | rfl | (simp only [List.length_drop, List.length_take]; rfl)) ?_; (with_reducible refine (sashref06_Tiles.calls k a0_0 a0_1 a0_2 a0_3 a0_4 a0_5 _ _ l0_6 false _ ?side1 ?side2 A4.out).mono ?_); (case side1 => repeat (first | exact (Kd.C_below HR0_6.out HB.out) | (with_reducible refine Kd.C_alloc ?_ _) | (with_reducible refine Kd.C_drewN ?_ _) | (with_reducible refine Kd.C_drew ?_))); (case side2 => exact HC0_6.out); rintro e w22 ⟨rfl, hb⟩; refine ⟨_, rfl, ?_⟩; have n0_ := Aside0.mk (blk_below (g := gb327) (o := .cells #[.int .u8 a0_0, .int .i64 a0_1, .int .i64 a0_2, .int .i64 a0_3, .int .i64 a0_4, .int .i64 a0_5, .slice A0_6 l0_6.length c0_6] 29 (0, 0)) (by (with_reducible repeat (first | refine blk_drewN ?_ _ | refine blk_drew ?_ | refine blk_alloc ?_ _)); exact BK327.out) hb); have n1_ := Aside0.mk (below_step (by repeat (first | (with_reducible first | exact HB.out | apply below_alloc | apply pw_below_drewN | apply below_drew1 | refine below_set ?_ GE327.out) | exact HB.out)) hb); clear BK327; clear HB; have BK327 := n0_; have HB := n1_; clear n0_ n1_; (try clear hb); (try clear hb2); (try clear hk); (try clear hi)))
    go_ret2
    exact ⟨by first | rfl | (simp [errW_none, errW_some] <;> rfl) | (simp [*, errW_none, errW_some] <;> rfl), by repeat (first | (with_reducible first | exact HB.out | apply below_alloc | apply pw_below_drewN | apply below_drew1 | refine below_set ?_ GE327.out) | exact HB.out)⟩


end Go.Proofs.Ytakhnigalkjhhaa.PTileHits
