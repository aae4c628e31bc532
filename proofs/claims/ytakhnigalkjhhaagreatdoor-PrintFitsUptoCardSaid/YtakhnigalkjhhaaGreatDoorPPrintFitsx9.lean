/- Printed texts of this seat, cut to what is used. -/
import Derived.Test.YtakhnigalkjhhaaGreatDoorPPrintFitsx0
import Derived.Test.YtakhnigalkjhhaaGreatDoorPPrintFitsx8
namespace Go.Proofs.YtakhnigalkjhhaaGreatDoor.PPrintFits
open Go.RowKit Go.Proofs.YtakhnigalkjhhaaGreatDoorW.PrintWords Go.Proofs.YtakhnigalkjhhaaGreatDoorW.PrintLast Go.Proofs.YtakhnigalkjhhaaGreatDoorW.PrintMore
attribute [local go_sem] max2_int min2_int max_two min_two max_three min_three max_four min_four   -- for this text's walks alone
set_option linter.unusedVariables false
set_option linter.unusedSimpArgs false

mutual
def sashref10_Body.l0 : Nat → ByteArray → ByteArray → Int → Int → Int → Int → Int → Int → Int → Int → List (S30) → Option (ByteArray)
 | 0, _, _, _, _, _, _, _, _, _, _, _ => none
 | k + 1, x3, x4, x20, x21, x300000, x300001, x300002, x300003, x300004, x300005, x300006 => if x21 < x20 then (if x21 > 0 then (if x4.size + 1 ≤ 9223372036854775807 then (if 0 ≤ x21 then (if x21 < (x300006.length : Int) then ((sashref10_Body.f k ((rd_T30 x300006 x21).f0) ((rd_T30 x300006 x21).f1.f0) ((rd_T30 x300006 x21).f1.f1) ((rd_T30 x300006 x21).f1.f2) ((rd_T30 x300006 x21).f1.f3) ((rd_T30 x300006 x21).f2) ((rd_T30 x300006 x21).f3)).bind fun t303 => (if (x4 ++ (⟨#[44]⟩ : ByteArray)).size + t303.size ≤ 9223372036854775807 then (sashref10_Body.l0 k x3 ((x4 ++ (⟨#[44]⟩ : ByteArray)) ++ t303) x20 (wrap64 (x21 + 1)) x300000 x300001 x300002 x300003 x300004 x300005 x300006) else (none))) else (none)) else (none)) else (none)) else (if 0 ≤ x21 then (if x21 < (x300006.length : Int) then ((sashref10_Body.f k ((rd_T30 x300006 x21).f0) ((rd_T30 x300006 x21).f1.f0) ((rd_T30 x300006 x21).f1.f1) ((rd_T30 x300006 x21).f1.f2) ((rd_T30 x300006 x21).f1.f3) ((rd_T30 x300006 x21).f2) ((rd_T30 x300006 x21).f3)).bind fun t305 => (if x4.size + t305.size ≤ 9223372036854775807 then (sashref10_Body.l0 k x3 (x4 ++ t305) x20 (wrap64 (x21 + 1)) x300000 x300001 x300002 x300003 x300004 x300005 x300006) else (none))) else (none)) else (none))) else (if x300000 = 2 then (if x3.size + 1 ≤ 9223372036854775807 then (if (x3 ++ (⟨#[123]⟩ : ByteArray)).size + x4.size ≤ 9223372036854775807 then (if ((x3 ++ (⟨#[123]⟩ : ByteArray)) ++ x4).size + 1 ≤ 9223372036854775807 then (some (((x3 ++ (⟨#[123]⟩ : ByteArray)) ++ x4) ++ (⟨#[125]⟩ : ByteArray))) else (none)) else (none)) else (none)) else (if x3.size + 1 ≤ 9223372036854775807 then (if (x3 ++ (⟨#[91]⟩ : ByteArray)).size + x4.size ≤ 9223372036854775807 then (if ((x3 ++ (⟨#[91]⟩ : ByteArray)) ++ x4).size + 1 ≤ 9223372036854775807 then (some (((x3 ++ (⟨#[91]⟩ : ByteArray)) ++ x4) ++ (⟨#[93]⟩ : ByteArray))) else (none)) else (none)) else (none)))
def sashref10_Body.f : Nat → Int → Int → Int → Int → Int → Int → List (S30) → Option (ByteArray)
 | 0, _, _, _, _, _, _, _ => none
 | k + 1, a0_0, a0_1, a0_2, a0_3, a0_4, a0_5, l0_6 => (sashref10_Head.f k a0_1 a0_2 a0_3 a0_4).bind fun t300 => (if a0_0 = 1 then (if t300.size + 1 ≤ 9223372036854775807 then ((sashref01_Digits.f k a0_5).bind fun t301 => (if (t300 ++ (⟨#[44]⟩ : ByteArray)).size + t301.size ≤ 9223372036854775807 then (some ((t300 ++ (⟨#[44]⟩ : ByteArray)) ++ t301)) else (none))) else (none)) else (sashref10_Body.l0 k t300 (⟨#[]⟩ : ByteArray) (l0_6.length : Int) 0 a0_0 a0_1 a0_2 a0_3 a0_4 a0_5 l0_6))
end
set_option maxHeartbeats 8000000 in
set_option maxRecDepth 100000 in
theorem sashref10_Body.calls (k : Nat) : ∀ (a0_0 : Int) (a0_1 : Int) (a0_2 : Int) (a0_3 : Int) (a0_4 : Int) (a0_5 : Int) (A0_6 : Option Addr) (c0_6 : Nat) (l0_6 : List (S30)) (r : ByteArray) (w : World) (hr0_6 : Kd.C k30 w A0_6 l0_6.length l0_6) (hc0_6 : l0_6.length ≤ c0_6) (h : sashref10_Body.f k a0_0 a0_1 a0_2 a0_3 a0_4 a0_5 l0_6 = some r),
  Calls Tryz.prog 12 #[.agg #[.int .u8 a0_0, .int .i64 a0_1, .int .i64 a0_2, .int .i64 a0_3, .int .i64 a0_4, .int .i64 a0_5, .slice A0_6 l0_6.length c0_6]] w fun e w' => e = .returned (.string r) ∧ Below w.heap.size w w' := by
 induction k using Nat.strongRecOn with
 | _ k ih =>
 intro a0_0 a0_1 a0_2 a0_3 a0_4 a0_5 A0_6 c0_6 l0_6 r w hr0_6 hc0_6 h
 cases k with
 | zero => exact absurd h (by simp [sashref10_Body.f])
 | succ k =>
 simp only [sashref10_Body.f] at h
 have hu30 := Tryz.underlying30
 have hu28 := Tryz.underlying28
 have HR0_6 := Aside0.mk hr0_6
 have HC0_6 := Aside0.mk hc0_6
 clear hr0_6 hc0_6
 have HB := Aside0.mk (Below.refl w.heap.size w)
 have H : ((sashref10_Head.f k a0_1 a0_2 a0_3 a0_4).bind fun t300 => (if a0_0 = 1 then (if t300.size + 1 ≤ 9223372036854775807 then ((sashref01_Digits.f k a0_5).bind fun t301 => (if (t300 ++ (⟨#[44]⟩ : ByteArray)).size + t301.size ≤ 9223372036854775807 then (some ((t300 ++ (⟨#[44]⟩ : ByteArray)) ++ t301)) else (none))) else (none)) else (sashref10_Body.l0 k t300 (⟨#[]⟩ : ByteArray) (l0_6.length : Int) 0 a0_0 a0_1 a0_2 a0_3 a0_4 a0_5 l0_6))) = some r := h
 clear h
 replace H := Option.bind_eq_some_iff.mp H
 obtain ⟨t300, A20, H⟩ := H
 replace H : (if a0_0 = 1 then (if t300.size + 1 ≤ 9223372036854775807 then ((sashref01_Digits.f k a0_5).bind fun t301 => (if (t300 ++ (⟨#[44]⟩ : ByteArray)).size + t301.size ≤ 9223372036854775807 then (some ((t300 ++ (⟨#[44]⟩ : ByteArray)) ++ t301)) else (none))) else (none)) else (sashref10_Body.l0 k t300 (⟨#[]⟩ : ByteArray) (l0_6.length : Int) 0 a0_0 a0_1 a0_2 a0_3 a0_4 a0_5 l0_6)) = some r := H
 have A2 := Aside0.mk A20
 clear A20
 by_cases c3 : a0_0 = 1
 ·rw [if_pos c3] at H
  have c3b0 : (a0_0 == 1) = true := beq_iff_eq.mpr c3
  have c3b1 : (a0_0 != 1) = false := bne_eq_false_iff_eq.mpr c3
  clear c3
  by_cases c4 : t300.size + 1 ≤ 9223372036854775807
  ·rw [if_pos c4] at H
   have c4b0 := eq_true c4
   have c4b1 : decide (t300.size + 1 ≤ 9223372036854775807) = true := decide_eq_true c4
   try have c4b2 : (9223372036854775807 < t300.size + 1) = False := eq_false (Nat.not_lt.2 c4)
   try (have c4s := c4; simp only [ByteArray.size_append, (show (⟨#[123]⟩ : ByteArray).size = 1 from rfl), (show (⟨#[125]⟩ : ByteArray).size = 1 from rfl), (show (⟨#[44]⟩ : ByteArray).size = 1 from rfl), (show (⟨#[91]⟩ : ByteArray).size = 1 from rfl), (show (⟨#[93]⟩ : ByteArray).size = 1 from rfl)] at c4s; have c4s1 := decide_eq_true c4s; have c4s2 := eq_false (Nat.not_lt.2 c4s); have c4s3 := eq_true c4s)
   replace H := Option.bind_eq_some_iff.mp H
   obtain ⟨t301, A50, H⟩ := H
   replace H : (if (t300 ++ (⟨#[44]⟩ : ByteArray)).size + t301.size ≤ 9223372036854775807 then (some ((t300 ++ (⟨#[44]⟩ : ByteArray)) ++ t301)) else (none)) = some r := H
   have A5 := Aside0.mk A50
   clear A50
   by_cases c6 : (t300 ++ (⟨#[44]⟩ : ByteArray)).size + t301.size ≤ 9223372036854775807
   ·rw [if_pos c6] at H
    have c6b0 := eq_true c6
    have c6b1 : decide ((t300 ++ (⟨#[44]⟩ : ByteArray)).size + t301.size ≤ 9223372036854775807) = true := decide_eq_true c6
    try have c6b2 : (9223372036854775807 < (t300 ++ (⟨#[44]⟩ : ByteArray)).size + t301.size) = False := eq_false (Nat.not_lt.2 c6)
    try (have c6s := c6; simp only [ByteArray.size_append, (show (⟨#[123]⟩ : ByteArray).size = 1 from rfl), (show (⟨#[125]⟩ : ByteArray).size = 1 from rfl), (show (⟨#[44]⟩ : ByteArray).size = 1 from rfl), (show (⟨#[91]⟩ : ByteArray).size = 1 from rfl), (show (⟨#[93]⟩ : ByteArray).size = 1 from rfl)] at c6s; have c6s1 := decide_eq_true c6s; have c6s2 := eq_false (Nat.not_lt.2 c6s); have c6s3 := eq_true c6s)
    obtain rfl := Option.some.inj H
    go_enter Tryz.func12, Tryz.ntmps12
    go_wp2_with (first | ((with_reducible refine gate_dst (N := 1) rfl ?_); refine box_event ?hg (N := 1) ?hd (cs := #[.int .u8 a0_0, .int .i64 a0_1, .int .i64 a0_2, .int .i64 a0_3, .int .i64 a0_4, .int .i64 a0_5, .slice A0_6 l0_6.length c0_6]) (t := 30) ?hr ?_; (case hd => rfl); (case hg => rfl); (case hr => first | (go_simp; done) | (go_simp; rfl)); intro gb299 hg w7 hbox hb; have n0_ := Aside0.mk (below_step (by repeat (first | (with_reducible first | exact HB.out | apply below_alloc | apply pw_below_drewN | apply below_drew1) | exact HB.out)) hb); have n1_ := Aside0.mk (hbox); have n2_ := Aside0.mk ((by rw [hg]; exact (below_size (by repeat (first | (with_reducible first | exact HB.out | apply below_alloc | apply pw_below_drewN | apply below_drew1) | exact HB.out))) : w.heap.size ≤ gb299)); have n3_ := Aside0.mk ((by rw [hg]; exact (below_size (by repeat (first | (with_reducible first | exact HB.out | apply below_alloc | apply pw_below_drewN | apply below_drew1) | exact HB.out))) : w.heap.size ≤ gb299)); clear HB; have HB := n0_; have BK299 := n1_; have GW299 := n2_; have GE299 := n3_; clear n0_ n1_ n2_ n3_; clear hb hbox hg; have hcz8_0 : w7.cell? ⟨gb299, 0, none⟩ = some (.int .u8 a0_0) := (blk_cell BK299.out 0).trans rfl; have hcz8_1 : w7.cell? ⟨gb299, 1, none⟩ = some (.int .i64 a0_1) := (blk_cell BK299.out 1).trans rfl; have hcz8_2 : w7.cell? ⟨gb299, 2, none⟩ = some (.int .i64 a0_2) := (blk_cell BK299.out 2).trans rfl; have hcz8_3 : w7.cell? ⟨gb299, 3, none⟩ = some (.int .i64 a0_3) := (blk_cell BK299.out 3).trans rfl; have hcz8_4 : w7.cell? ⟨gb299, 4, none⟩ = some (.int .i64 a0_4) := (blk_cell BK299.out 4).trans rfl; have hcz8_5 : w7.cell? ⟨gb299, 5, none⟩ = some (.int .i64 a0_5) := (blk_cell BK299.out 5).trans rfl; have hcz8_6 : w7.cell? ⟨gb299, 6, none⟩ = some (.slice A0_6 l0_6.length c0_6) := (blk_cell BK299.out 6).trans rfl; have hfz8_0 := blk_frozen BK299.out 0; have hfz8_1 := blk_frozen BK299.out 1; have hfz8_2 := blk_frozen BK299.out 2; have hfz8_3 := blk_frozen BK299.out 3; have hfz8_4 := blk_frozen BK299.out 4; have hfz8_5 := blk_frozen BK299.out 5; have hfz8_6 := blk_frozen BK299.out 6) | ((with_reducible refine gate_callee (f := 23) rfl ?_); refine goesL_ (some 8) rfl rfl Tryz.func23 (by kernel_rfl) rfl #[.agg #[.int .i64 a0_1, .int .i64 a0_2, .int .i64 a0_3, .int .i64 a0_4]] rfl (by (try simp only [List.map_toArray, List.map_cons, List.map_nil]); first | done | rfl | (simp only [List.length_drop, List.length_take]; rfl)) ?_; (with_reducible refine (sashref10_Head.calls k a0_1 a0_2 a0_3 a0_4 t300 _ A2.out).mono ?_); rintro e w9 ⟨rfl, hb⟩; refine ⟨_, rfl, ?_⟩; have n0_ := Aside0.mk (blk_below (g := gb299) (o := .cells #[.int .u8 a0_0, .int .i64 a0_1, .int .i64 a0_2, .int .i64 a0_3, .int .i64 a0_4, .int .i64 a0_5, .slice A0_6 l0_6.length c0_6] 30 (0, 0)) (by (with_reducible repeat (first | refine blk_drewN ?_ _ | refine blk_drew ?_ | refine blk_alloc ?_ _)); exact BK299.out) hb); have n1_ := Aside0.mk (below_step (by repeat (first | (with_reducible first | exact HB.out | apply below_alloc | apply pw_below_drewN | apply below_drew1 | refine below_set ?_ GE299.out) | exact HB.out)) hb); clear BK299; clear HB; have BK299 := n0_; have HB := n1_; clear n0_ n1_; (try clear hb); (try clear hb2); (try clear hk); (try clear hi); have hcz10_0 : w9.cell? ⟨gb299, 0, none⟩ = some (.int .u8 a0_0) := (blk_cell BK299.out 0).trans rfl; have hcz10_1 : w9.cell? ⟨gb299, 1, none⟩ = some (.int .i64 a0_1) := (blk_cell BK299.out 1).trans rfl; have hcz10_2 : w9.cell? ⟨gb299, 2, none⟩ = some (.int .i64 a0_2) := (blk_cell BK299.out 2).trans rfl; have hcz10_3 : w9.cell? ⟨gb299, 3, none⟩ = some (.int .i64 a0_3) := (blk_cell BK299.out 3).trans rfl; have hcz10_4 : w9.cell? ⟨gb299, 4, none⟩ = some (.int .i64 a0_4) := (blk_cell BK299.out 4).trans rfl; have hcz10_5 : w9.cell? ⟨gb299, 5, none⟩ = some (.int .i64 a0_5) := (blk_cell BK299.out 5).trans rfl; have hcz10_6 : w9.cell? ⟨gb299, 6, none⟩ = some (.slice A0_6 l0_6.length c0_6) := (blk_cell BK299.out 6).trans rfl; have hfz10_0 := blk_frozen BK299.out 0; have hfz10_1 := blk_frozen BK299.out 1; have hfz10_2 := blk_frozen BK299.out 2; have hfz10_3 := blk_frozen BK299.out 3; have hfz10_4 := blk_frozen BK299.out 4; have hfz10_5 := blk_frozen BK299.out 5; have hfz10_6 := blk_frozen BK299.out 6) | ((with_reducible refine gate_callee (f := 24) rfl ?_); refine goesL_ (some 16) rfl rfl Tryz.func24 (by kernel_rfl) rfl #[.int .i64 a0_5] rfl (by (try simp only [List.map_toArray, List.map_cons, List.map_nil]); first | done | rfl | (simp only [List.length_drop, List.length_take]; rfl)) ?_; (with_reducible refine (sashref01_Digits.calls k a0_5 t301 _ A5.out).mono ?_); rintro e w' ⟨rfl, ⟨nd, rfl⟩⟩; refine ⟨_, rfl, ?_⟩))
    go_ret
    exact ⟨by first | rfl | (simp [errW_none, errW_some] <;> rfl) | (simp [*, errW_none, errW_some] <;> rfl), by repeat (first | (with_reducible first | exact HB.out | apply below_alloc | apply pw_below_drewN | apply below_drew1 | refine below_set ?_ GE299.out) | exact HB.out)⟩
   ·rw [if_neg c6] at H
    exact absurd H (by simp)
  ·rw [if_neg c4] at H
   exact absurd H (by simp)
 ·rw [if_neg c3] at H
  have c3b0 : (a0_0 == 1) = false := beq_eq_false_iff_ne.mpr c3
  have c3b1 : (a0_0 != 1) = true := bne_iff_ne.mpr c3
  have H' := Aside0.mk H
  clear H
  go_enter Tryz.func12, Tryz.ntmps12
  go_wp2_with (first | ((with_reducible refine gate_dst (N := 1) rfl ?_); refine box_event ?hg (N := 1) ?hd (cs := #[.int .u8 a0_0, .int .i64 a0_1, .int .i64 a0_2, .int .i64 a0_3, .int .i64 a0_4, .int .i64 a0_5, .slice A0_6 l0_6.length c0_6]) (t := 30) ?hr ?_; (case hd => rfl); (case hg => rfl); (case hr => first | (go_simp; done) | (go_simp; rfl)); intro gb299 hg w11 hbox hb; have n0_ := Aside0.mk (below_step (by repeat (first | (with_reducible first | exact HB.out | apply below_alloc | apply pw_below_drewN | apply below_drew1) | exact HB.out)) hb); have n1_ := Aside0.mk (hbox); have n2_ := Aside0.mk ((by rw [hg]; exact (below_size (by repeat (first | (with_reducible first | exact HB.out | apply below_alloc | apply pw_below_drewN | apply below_drew1) | exact HB.out))) : w.heap.size ≤ gb299)); have n3_ := Aside0.mk ((by rw [hg]; exact (below_size (by repeat (first | (with_reducible first | exact HB.out | apply below_alloc | apply pw_below_drewN | apply below_drew1) | exact HB.out))) : w.heap.size ≤ gb299)); clear HB; have HB := n0_; have BK299 := n1_; have GW299 := n2_; have GE299 := n3_; clear n0_ n1_ n2_ n3_; clear hb hbox hg; have hcz12_0 : w11.cell? ⟨gb299, 0, none⟩ = some (.int .u8 a0_0) := (blk_cell BK299.out 0).trans rfl; have hcz12_1 : w11.cell? ⟨gb299, 1, none⟩ = some (.int .i64 a0_1) := (blk_cell BK299.out 1).trans rfl; have hcz12_2 : w11.cell? ⟨gb299, 2, none⟩ = some (.int .i64 a0_2) := (blk_cell BK299.out 2).trans rfl; have hcz12_3 : w11.cell? ⟨gb299, 3, none⟩ = some (.int .i64 a0_3) := (blk_cell BK299.out 3).trans rfl; have hcz12_4 : w11.cell? ⟨gb299, 4, none⟩ = some (.int .i64 a0_4) := (blk_cell BK299.out 4).trans rfl; have hcz12_5 : w11.cell? ⟨gb299, 5, none⟩ = some (.int .i64 a0_5) := (blk_cell BK299.out 5).trans rfl; have hcz12_6 : w11.cell? ⟨gb299, 6, none⟩ = some (.slice A0_6 l0_6.length c0_6) := (blk_cell BK299.out 6).trans rfl; have hfz12_0 := blk_frozen BK299.out 0; have hfz12_1 := blk_frozen BK299.out 1; have hfz12_2 := blk_frozen BK299.out 2; have hfz12_3 := blk_frozen BK299.out 3; have hfz12_4 := blk_frozen BK299.out 4; have hfz12_5 := blk_frozen BK299.out 5; have hfz12_6 := blk_frozen BK299.out 6) | ((with_reducible refine gate_callee (f := 23) rfl ?_); refine goesL_ (some 8) rfl rfl Tryz.func23 (by kernel_rfl) rfl #[.agg #[.int .i64 a0_1, .int .i64 a0_2, .int .i64 a0_3, .int .i64 a0_4]] rfl (by (try simp only [List.map_toArray, List.map_cons, List.map_nil]); first | done | rfl | (simp only [List.length_drop, List.length_take]; rfl)) ?_; (with_reducible refine (sashref10_Head.calls k a0_1 a0_2 a0_3 a0_4 t300 _ A2.out).mono ?_); rintro e w13 ⟨rfl, hb⟩; refine ⟨_, rfl, ?_⟩; have n0_ := Aside0.mk (blk_below (g := gb299) (o := .cells #[.int .u8 a0_0, .int .i64 a0_1, .int .i64 a0_2, .int .i64 a0_3, .int .i64 a0_4, .int .i64 a0_5, .slice A0_6 l0_6.length c0_6] 30 (0, 0)) (by (with_reducible repeat (first | refine blk_drewN ?_ _ | refine blk_drew ?_ | refine blk_alloc ?_ _)); exact BK299.out) hb); have n1_ := Aside0.mk (below_step (by repeat (first | (with_reducible first | exact HB.out | apply below_alloc | apply pw_below_drewN | apply below_drew1 | refine below_set ?_ GE299.out) | exact HB.out)) hb); clear BK299; clear HB; have BK299 := n0_; have HB := n1_; clear n0_ n1_; (try clear hb); (try clear hb2); (try clear hk); (try clear hi); have hcz14_0 : w13.cell? ⟨gb299, 0, none⟩ = some (.int .u8 a0_0) := (blk_cell BK299.out 0).trans rfl; have hcz14_1 : w13.cell? ⟨gb299, 1, none⟩ = some (.int .i64 a0_1) := (blk_cell BK299.out 1).trans rfl; have hcz14_2 : w13.cell? ⟨gb299, 2, none⟩ = some (.int .i64 a0_2) := (blk_cell BK299.out 2).trans rfl; have hcz14_3 : w13.cell? ⟨gb299, 3, none⟩ = some (.int .i64 a0_3) := (blk_cell BK299.out 3).trans rfl; have hcz14_4 : w13.cell? ⟨gb299, 4, none⟩ = some (.int .i64 a0_4) := (blk_cell BK299.out 4).trans rfl; have hcz14_5 : w13.cell? ⟨gb299, 5, none⟩ = some (.int .i64 a0_5) := (blk_cell BK299.out 5).trans rfl; have hcz14_6 : w13.cell? ⟨gb299, 6, none⟩ = some (.slice A0_6 l0_6.length c0_6) := (blk_cell BK299.out 6).trans rfl; have hfz14_0 := blk_frozen BK299.out 0; have hfz14_1 := blk_frozen BK299.out 1; have hfz14_2 := blk_frozen BK299.out 2; have hfz14_3 := blk_frozen BK299.out 3; have hfz14_4 := blk_frozen BK299.out 4; have hfz14_5 := blk_frozen BK299.out 5; have hfz14_6 := blk_frozen BK299.out 6))
  go_loopg [4, 21] k (fun kq v4 v21 w' => ∃ (x4_1 : ByteArray) (x21_1 : Int), v4 = .string x4_1 ∧ v21 = .int .i64 x21_1 ∧ Aside0 (sashref10_Body.l0 kq t300 x4_1 (l0_6.length : Int) x21_1 a0_0 a0_1 a0_2 a0_3 a0_4 a0_5 l0_6 = some r) ∧ Aside0 (kq ≤ k) ∧ Aside0 (w'.heap[gb299]? = some (.cells #[.int .u8 a0_0, .int .i64 a0_1, .int .i64 a0_2, .int .i64 a0_3, .int .i64 a0_4, .int .i64 a0_5, (.slice A0_6 l0_6.length c0_6)] 30 (0, 0))) ∧ Aside0 (Below w.heap.size w w'))
  case atStart => exact ⟨((⟨#[]⟩ : ByteArray)), (0), (by first | rfl | (simp; done) | (simp [*]; done)), (by first | rfl | (simp; done) | (simp [*]; done)), H', ⟨Nat.le_refl _⟩, ⟨by (with_reducible repeat (first | refine blk_drewN ?_ _ | refine blk_drew ?_ | refine blk_alloc ?_ _)); exact BK299.out⟩, ⟨by repeat (first | (with_reducible first | exact HB.out | apply below_alloc | apply pw_below_drewN | apply below_drew1 | refine below_set ?_ GE299.out) | exact HB.out)⟩⟩
  case round =>
   clear H'
   try clear c1
   try clear c2
   try clear p2
   try clear c3
   try clear c3b0
   try clear c3b1
   try clear c4
   try clear c4b0
   try clear c4b1
   try clear c4b2
   try clear c6
   try clear c6b0
   try clear c6b1
   try clear c6b2
   try clear c12
   try clear hcz10_0
   try clear hcz10_1
   try clear hcz10_2
   try clear hcz10_3
   try clear hcz10_4
   try clear hcz10_5
   try clear hcz10_6
   try clear hcz12_0
   try clear hcz12_1
   try clear hcz12_2
   try clear hcz12_3
   try clear hcz12_4
   try clear hcz12_5
   try clear hcz12_6
   try clear hcz14_0
   try clear hcz14_1
   try clear hcz14_2
   try clear hcz14_3
   try clear hcz14_4
   try clear hcz14_5
   try clear hcz14_6
   try clear hcz8_0
   try clear hcz8_1
   try clear hcz8_2
   try clear hcz8_3
   try clear hcz8_4
   try clear hcz8_5
   try clear hcz8_6
   try clear hfz10_0
   try clear hfz10_1
   try clear hfz10_2
   try clear hfz10_3
   try clear hfz10_4
   try clear hfz10_5
   try clear hfz10_6
   try clear hfz12_0
   try clear hfz12_1
   try clear hfz12_2
   try clear hfz12_3
   try clear hfz12_4
   try clear hfz12_5
   try clear hfz12_6
   try clear hfz14_0
   try clear hfz14_1
   try clear hfz14_2
   try clear hfz14_3
   try clear hfz14_4
   try clear hfz14_5
   try clear hfz14_6
   try clear hfz8_0
   try clear hfz8_1
   try clear hfz8_2
   try clear hfz8_3
   try clear hfz8_4
   try clear hfz8_5
   try clear hfz8_6
   obtain ⟨x4_1, x21_1, rfl, rfl, HA, HK1, BK299, HB⟩ := hrel
   cases gk with
   | zero => exact absurd HA.out (by simp [sashref10_Body.l0])
   | succ k1 =>
    have H := HA.out
    clear HA
    simp only [sashref10_Body.l0] at H
    by_cases c15 : x21_1 < (l0_6.length : Int)
    ·rw [if_pos c15] at H
     have c15b0 : decide (x21_1 < (l0_6.length : Int)) = true := decide_eq_true c15
     clear c15
     by_cases c16 : x21_1 > 0
     ·rw [if_pos c16] at H
      have c16b0 : decide (0 < x21_1) = true := decide_eq_true c16
      clear c16
      by_cases c17 : x4_1.size + 1 ≤ 9223372036854775807
      ·rw [if_pos c17] at H
       have c17b0 := eq_true c17
       have c17b1 : decide (x4_1.size + 1 ≤ 9223372036854775807) = true := decide_eq_true c17
       try have c17b2 : (9223372036854775807 < x4_1.size + 1) = False := eq_false (Nat.not_lt.2 c17)
       try (have c17s := c17; simp only [ByteArray.size_append, (show (⟨#[123]⟩ : ByteArray).size = 1 from rfl), (show (⟨#[125]⟩ : ByteArray).size = 1 from rfl), (show (⟨#[44]⟩ : ByteArray).size = 1 from rfl), (show (⟨#[91]⟩ : ByteArray).size = 1 from rfl), (show (⟨#[93]⟩ : ByteArray).size = 1 from rfl)] at c17s; have c17s1 := decide_eq_true c17s; have c17s2 := eq_false (Nat.not_lt.2 c17s); have c17s3 := eq_true c17s)
       by_cases c18 : 0 ≤ x21_1
       ·rw [if_pos c18] at H
        have c18b0 : decide (0 ≤ x21_1) = true := decide_eq_true c18
        clear c18
        by_cases c19 : x21_1 < (l0_6.length : Int)
        ·rw [if_pos c19] at H
         have c19b0 : decide (x21_1 < (l0_6.length : Int)) = true := decide_eq_true c19
         clear c19
         replace H := Option.bind_eq_some_iff.mp H
         obtain ⟨t303, A200, H⟩ := H
         replace H : (if (x4_1 ++ (⟨#[44]⟩ : ByteArray)).size + t303.size ≤ 9223372036854775807 then (sashref10_Body.l0 k1 t300 ((x4_1 ++ (⟨#[44]⟩ : ByteArray)) ++ t303) (l0_6.length : Int) (wrap64 (x21_1 + 1)) a0_0 a0_1 a0_2 a0_3 a0_4 a0_5 l0_6) else (none)) = some r := H
         have A20 := Aside0.mk A200
         clear A200
         by_cases c21 : (x4_1 ++ (⟨#[44]⟩ : ByteArray)).size + t303.size ≤ 9223372036854775807
         ·rw [if_pos c21] at H
          have c21b0 := eq_true c21
          have c21b1 : decide ((x4_1 ++ (⟨#[44]⟩ : ByteArray)).size + t303.size ≤ 9223372036854775807) = true := decide_eq_true c21
          try have c21b2 : (9223372036854775807 < (x4_1 ++ (⟨#[44]⟩ : ByteArray)).size + t303.size) = False := eq_false (Nat.not_lt.2 c21)
          try (have c21s := c21; simp only [ByteArray.size_append, (show (⟨#[123]⟩ : ByteArray).size = 1 from rfl), (show (⟨#[125]⟩ : ByteArray).size = 1 from rfl), (show (⟨#[44]⟩ : ByteArray).size = 1 from rfl), (show (⟨#[91]⟩ : ByteArray).size = 1 from rfl), (show (⟨#[93]⟩ : ByteArray).size = 1 from rfl)] at c21s; have c21s1 := decide_eq_true c21s; have c21s2 := eq_false (Nat.not_lt.2 c21s); have c21s3 := eq_true c21s)
          have H' := Aside0.mk H
          clear H
          have hcz22_0 : wr.cell? ⟨gb299, 0, none⟩ = some (.int .u8 a0_0) := (blk_cell BK299.out 0).trans rfl
          have hcz22_1 : wr.cell? ⟨gb299, 1, none⟩ = some (.int .i64 a0_1) := (blk_cell BK299.out 1).trans rfl
          have hcz22_2 : wr.cell? ⟨gb299, 2, none⟩ = some (.int .i64 a0_2) := (blk_cell BK299.out 2).trans rfl
          have hcz22_3 : wr.cell? ⟨gb299, 3, none⟩ = some (.int .i64 a0_3) := (blk_cell BK299.out 3).trans rfl
          have hcz22_4 : wr.cell? ⟨gb299, 4, none⟩ = some (.int .i64 a0_4) := (blk_cell BK299.out 4).trans rfl
          have hcz22_5 : wr.cell? ⟨gb299, 5, none⟩ = some (.int .i64 a0_5) := (blk_cell BK299.out 5).trans rfl
          have hcz22_6 : wr.cell? ⟨gb299, 6, none⟩ = some (.slice A0_6 l0_6.length c0_6) := (blk_cell BK299.out 6).trans rfl
          have hfz22_0 := blk_frozen BK299.out 0
          have hfz22_1 := blk_frozen BK299.out 1
          have hfz22_2 := blk_frozen BK299.out 2
          have hfz22_3 := blk_frozen BK299.out 3
          have hfz22_4 := blk_frozen BK299.out 4
          have hfz22_5 := blk_frozen BK299.out 5
          have hfz22_6 := blk_frozen BK299.out 6
          have p302 : 0 ≤ (x21_1 : Int) := of_decide_eq_true (by first | (with_reducible assumption) | assumption)
          have q302 : x21_1 < (l0_6.length : Int) := of_decide_eq_true (by first | (with_reducible assumption) | assumption)
          obtain ⟨ad302, A302_6, c302_6, e302, hx302_0, hx302_1, hx302_2, hx302_3, hx302_4, hx302_5, hx302_6, hl302_6, hi302_6⟩ := at_T30 HR0_6.out x21_1 p302 q302
          cases e302
          replace hx302_0 := (HB.out.cell (World.block_lt_of_cell? w _ hx302_0)).trans hx302_0
          replace hx302_1 := (HB.out.cell (World.block_lt_of_cell? w _ hx302_1)).trans hx302_1
          replace hx302_2 := (HB.out.cell (World.block_lt_of_cell? w _ hx302_2)).trans hx302_2
          replace hx302_3 := (HB.out.cell (World.block_lt_of_cell? w _ hx302_3)).trans hx302_3
          replace hx302_4 := (HB.out.cell (World.block_lt_of_cell? w _ hx302_4)).trans hx302_4
          replace hx302_5 := (HB.out.cell (World.block_lt_of_cell? w _ hx302_5)).trans hx302_5
          replace hx302_6 := (HB.out.cell (World.block_lt_of_cell? w _ hx302_6)).trans hx302_6
          have HR302_6 := Aside0.mk hi302_6
          have HC302_6 := Aside0.mk hl302_6
          clear hi302_6 hl302_6
          replace p302 := eq_true p302
          replace q302 := eq_true q302
          go_wp2_with (first | ((with_reducible refine gate_callee (f := 12) rfl ?_); refine goesL_ (some 34) rfl rfl Tryz.func12 (by kernel_rfl) rfl #[.agg #[.int .u8 ((rd_T30 l0_6 x21_1).f0), .int .i64 ((rd_T30 l0_6 x21_1).f1.f0), .int .i64 ((rd_T30 l0_6 x21_1).f1.f1), .int .i64 ((rd_T30 l0_6 x21_1).f1.f2), .int .i64 ((rd_T30 l0_6 x21_1).f1.f3), .int .i64 ((rd_T30 l0_6 x21_1).f2), .slice A302_6 ((rd_T30 l0_6 x21_1).f3).length c302_6]] rfl (by (try simp only [List.map_toArray, List.map_cons, List.map_nil]); first | done | rfl | (simp only [List.length_drop, List.length_take]; rfl)) ?_; (with_reducible refine (ih k1 (by have := HK1.out; omega) ((rd_T30 l0_6 x21_1).f0) ((rd_T30 l0_6 x21_1).f1.f0) ((rd_T30 l0_6 x21_1).f1.f1) ((rd_T30 l0_6 x21_1).f1.f2) ((rd_T30 l0_6 x21_1).f1.f3) ((rd_T30 l0_6 x21_1).f2) _ _ ((rd_T30 l0_6 x21_1).f3) t303 _ ?side1 ?side2 A20.out).mono ?_); (case side1 => repeat (first | exact (Kd.C_below HR302_6.out HB.out) | (with_reducible refine Kd.C_alloc ?_ _) | (with_reducible refine Kd.C_drewN ?_ _) | (with_reducible refine Kd.C_drew ?_))); (case side2 => exact HC302_6.out); rintro e w23 ⟨rfl, hb⟩; refine ⟨_, rfl, ?_⟩; have n0_ := Aside0.mk (blk_below (g := gb299) (o := .cells #[.int .u8 a0_0, .int .i64 a0_1, .int .i64 a0_2, .int .i64 a0_3, .int .i64 a0_4, .int .i64 a0_5, .slice (some ad302) l0_6.length c0_6] 30 (0, 0)) (by (with_reducible repeat (first | refine blk_drewN ?_ _ | refine blk_drew ?_ | refine blk_alloc ?_ _)); exact BK299.out) hb); have n1_ := Aside0.mk (below_step (by repeat (first | (with_reducible first | exact HB.out | apply below_alloc | apply pw_below_drewN | apply below_drew1 | refine below_set ?_ GE299.out) | exact HB.out)) hb); clear BK299; clear HB; have BK299 := n0_; have HB := n1_; clear n0_ n1_; (try clear hb); (try clear hb2); (try clear hk); (try clear hi)))
          go_roundg k1
          case measure => have := HK1.out; omega
          case rel => exact ⟨((x4_1 ++ (⟨#[44]⟩ : ByteArray)) ++ t303), (wrap64 (x21_1 + 1)), (by first | rfl | (simp; done) | (simp [*]; done)), (by first | rfl | (simp; done) | (simp [*]; done)), H', ⟨by have := HK1.out; omega⟩, ⟨by (with_reducible repeat (first | refine blk_drewN ?_ _ | refine blk_drew ?_ | refine blk_alloc ?_ _)); exact BK299.out⟩, ⟨by repeat (first | (with_reducible first | exact HB.out | apply below_alloc | apply pw_below_drewN | apply below_drew1 | refine below_set ?_ GE299.out) | exact HB.out)⟩⟩
         ·rw [if_neg c21] at H
          exact absurd H (by simp)
        ·rw [if_neg c19] at H
         exact absurd H (by simp)
       ·rw [if_neg c18] at H
        exact absurd H (by simp)
      ·rw [if_neg c17] at H
       exact absurd H (by simp)
     ·rw [if_neg c16] at H
      have c16b0 : decide (0 < x21_1) = false := decide_eq_false c16
      clear c16
      by_cases c24 : 0 ≤ x21_1
      ·rw [if_pos c24] at H
       have c24b0 : decide (0 ≤ x21_1) = true := decide_eq_true c24
       clear c24
       by_cases c25 : x21_1 < (l0_6.length : Int)
       ·rw [if_pos c25] at H
        have c25b0 : decide (x21_1 < (l0_6.length : Int)) = true := decide_eq_true c25
        clear c25
        replace H := Option.bind_eq_some_iff.mp H
        obtain ⟨t305, A260, H⟩ := H
        replace H : (if x4_1.size + t305.size ≤ 9223372036854775807 then (sashref10_Body.l0 k1 t300 (x4_1 ++ t305) (l0_6.length : Int) (wrap64 (x21_1 + 1)) a0_0 a0_1 a0_2 a0_3 a0_4 a0_5 l0_6) else (none)) = some r := H
        have A26 := Aside0.mk A260
        clear A260
        by_cases c27 : x4_1.size + t305.size ≤ 9223372036854775807
        ·rw [if_pos c27] at H
         have c27b0 := eq_true c27
         have c27b1 : decide (x4_1.size + t305.size ≤ 9223372036854775807) = true := decide_eq_true c27
         try have c27b2 : (9223372036854775807 < x4_1.size + t305.size) = False := eq_false (Nat.not_lt.2 c27)
         try (have c27s := c27; simp only [ByteArray.size_append, (show (⟨#[123]⟩ : ByteArray).size = 1 from rfl), (show (⟨#[125]⟩ : ByteArray).size = 1 from rfl), (show (⟨#[44]⟩ : ByteArray).size = 1 from rfl), (show (⟨#[91]⟩ : ByteArray).size = 1 from rfl), (show (⟨#[93]⟩ : ByteArray).size = 1 from rfl)] at c27s; have c27s1 := decide_eq_true c27s; have c27s2 := eq_false (Nat.not_lt.2 c27s); have c27s3 := eq_true c27s)
         have H' := Aside0.mk H
         clear H
         have hcz28_0 : wr.cell? ⟨gb299, 0, none⟩ = some (.int .u8 a0_0) := (blk_cell BK299.out 0).trans rfl
         have hcz28_1 : wr.cell? ⟨gb299, 1, none⟩ = some (.int .i64 a0_1) := (blk_cell BK299.out 1).trans rfl
         have hcz28_2 : wr.cell? ⟨gb299, 2, none⟩ = some (.int .i64 a0_2) := (blk_cell BK299.out 2).trans rfl
         have hcz28_3 : wr.cell? ⟨gb299, 3, none⟩ = some (.int .i64 a0_3) := (blk_cell BK299.out 3).trans rfl
         have hcz28_4 : wr.cell? ⟨gb299, 4, none⟩ = some (.int .i64 a0_4) := (blk_cell BK299.out 4).trans rfl
         have hcz28_5 : wr.cell? ⟨gb299, 5, none⟩ = some (.int .i64 a0_5) := (blk_cell BK299.out 5).trans rfl
         have hcz28_6 : wr.cell? ⟨gb299, 6, none⟩ = some (.slice A0_6 l0_6.length c0_6) := (blk_cell BK299.out 6).trans rfl
         have hfz28_0 := blk_frozen BK299.out 0
         have hfz28_1 := blk_frozen BK299.out 1
         have hfz28_2 := blk_frozen BK299.out 2
         have hfz28_3 := blk_frozen BK299.out 3
         have hfz28_4 := blk_frozen BK299.out 4
         have hfz28_5 := blk_frozen BK299.out 5
         have hfz28_6 := blk_frozen BK299.out 6
         have p304 : 0 ≤ (x21_1 : Int) := of_decide_eq_true (by first | (with_reducible assumption) | assumption)
         have q304 : x21_1 < (l0_6.length : Int) := of_decide_eq_true (by first | (with_reducible assumption) | assumption)
         obtain ⟨ad304, A304_6, c304_6, e304, hx304_0, hx304_1, hx304_2, hx304_3, hx304_4, hx304_5, hx304_6, hl304_6, hi304_6⟩ := at_T30 HR0_6.out x21_1 p304 q304
         cases e304
         replace hx304_0 := (HB.out.cell (World.block_lt_of_cell? w _ hx304_0)).trans hx304_0
         replace hx304_1 := (HB.out.cell (World.block_lt_of_cell? w _ hx304_1)).trans hx304_1
         replace hx304_2 := (HB.out.cell (World.block_lt_of_cell? w _ hx304_2)).trans hx304_2
         replace hx304_3 := (HB.out.cell (World.block_lt_of_cell? w _ hx304_3)).trans hx304_3
         replace hx304_4 := (HB.out.cell (World.block_lt_of_cell? w _ hx304_4)).trans hx304_4
         replace hx304_5 := (HB.out.cell (World.block_lt_of_cell? w _ hx304_5)).trans hx304_5
         replace hx304_6 := (HB.out.cell (World.block_lt_of_cell? w _ hx304_6)).trans hx304_6
         have HR304_6 := Aside0.mk hi304_6
         have HC304_6 := Aside0.mk hl304_6
         clear hi304_6 hl304_6
         replace p304 := eq_true p304
         replace q304 := eq_true q304
         go_wp2_with (first | ((with_reducible refine gate_callee (f := 12) rfl ?_); refine goesL_ (some 34) rfl rfl Tryz.func12 (by kernel_rfl) rfl #[.agg #[.int .u8 ((rd_T30 l0_6 x21_1).f0), .int .i64 ((rd_T30 l0_6 x21_1).f1.f0), .int .i64 ((rd_T30 l0_6 x21_1).f1.f1), .int .i64 ((rd_T30 l0_6 x21_1).f1.f2), .int .i64 ((rd_T30 l0_6 x21_1).f1.f3), .int .i64 ((rd_T30 l0_6 x21_1).f2), .slice A304_6 ((rd_T30 l0_6 x21_1).f3).length c304_6]] rfl (by (try simp only [List.map_toArray, List.map_cons, List.map_nil]); first | done | rfl | (simp only [List.length_drop, List.length_take]; rfl)) ?_; (with_reducible refine (ih k1 (by have := HK1.out; omega) ((rd_T30 l0_6 x21_1).f0) ((rd_T30 l0_6 x21_1).f1.f0) ((rd_T30 l0_6 x21_1).f1.f1) ((rd_T30 l0_6 x21_1).f1.f2) ((rd_T30 l0_6 x21_1).f1.f3) ((rd_T30 l0_6 x21_1).f2) _ _ ((rd_T30 l0_6 x21_1).f3) t305 _ ?side1 ?side2 A26.out).mono ?_); (case side1 => repeat (first | exact (Kd.C_below HR304_6.out HB.out) | (with_reducible refine Kd.C_alloc ?_ _) | (with_reducible refine Kd.C_drewN ?_ _) | (with_reducible refine Kd.C_drew ?_))); (case side2 => exact HC304_6.out); rintro e w29 ⟨rfl, hb⟩; refine ⟨_, rfl, ?_⟩; have n0_ := Aside0.mk (blk_below (g := gb299) (o := .cells #[.int .u8 a0_0, .int .i64 a0_1, .int .i64 a0_2, .int .i64 a0_3, .int .i64 a0_4, .int .i64 a0_5, .slice (some ad304) l0_6.length c0_6] 30 (0, 0)) (by (with_reducible repeat (first | refine blk_drewN ?_ _ | refine blk_drew ?_ | refine blk_alloc ?_ _)); exact BK299.out) hb); have n1_ := Aside0.mk (below_step (by repeat (first | (with_reducible first | exact HB.out | apply below_alloc | apply pw_below_drewN | apply below_drew1 | refine below_set ?_ GE299.out) | exact HB.out)) hb); clear BK299; clear HB; have BK299 := n0_; have HB := n1_; clear n0_ n1_; (try clear hb); (try clear hb2); (try clear hk); (try clear hi)))
         go_roundg k1
         case measure => have := HK1.out; omega
         case rel => exact ⟨(x4_1 ++ t305), (wrap64 (x21_1 + 1)), (by first | rfl | (simp; done) | (simp [*]; done)), (by first | rfl | (simp; done) | (simp [*]; done)), H', ⟨by have := HK1.out; omega⟩, ⟨by (with_reducible repeat (first | refine blk_drewN ?_ _ | refine blk_drew ?_ | refine blk_alloc ?_ _)); exact BK299.out⟩, ⟨by repeat (first | (with_reducible first | exact HB.out | apply below_alloc | apply pw_below_drewN | apply below_drew1 | refine below_set ?_ GE299.out) | exact HB.out)⟩⟩
        ·rw [if_neg c27] at H
         exact absurd H (by simp)
       ·rw [if_neg c25] at H
        exact absurd H (by simp)
      ·rw [if_neg c24] at H
       exact absurd H (by simp)
    ·rw [if_neg c15] at H
     have c15b0 : decide (x21_1 < (l0_6.length : Int)) = false := decide_eq_false c15
     clear c15
     by_cases c30 : a0_0 = 2
     ·rw [if_pos c30] at H
      have c30b0 : (a0_0 == 2) = true := beq_iff_eq.mpr c30
      have c30b1 : (a0_0 != 2) = false := bne_eq_false_iff_eq.mpr c30
      clear c30
      by_cases c31 : t300.size + 1 ≤ 9223372036854775807
      ·rw [if_pos c31] at H
       have c31b0 := eq_true c31
       have c31b1 : decide (t300.size + 1 ≤ 9223372036854775807) = true := decide_eq_true c31
       try have c31b2 : (9223372036854775807 < t300.size + 1) = False := eq_false (Nat.not_lt.2 c31)
       try (have c31s := c31; simp only [ByteArray.size_append, (show (⟨#[123]⟩ : ByteArray).size = 1 from rfl), (show (⟨#[125]⟩ : ByteArray).size = 1 from rfl), (show (⟨#[44]⟩ : ByteArray).size = 1 from rfl), (show (⟨#[91]⟩ : ByteArray).size = 1 from rfl), (show (⟨#[93]⟩ : ByteArray).size = 1 from rfl)] at c31s; have c31s1 := decide_eq_true c31s; have c31s2 := eq_false (Nat.not_lt.2 c31s); have c31s3 := eq_true c31s)
       by_cases c32 : (t300 ++ (⟨#[123]⟩ : ByteArray)).size + x4_1.size ≤ 9223372036854775807
       ·rw [if_pos c32] at H
        have c32b0 := eq_true c32
        have c32b1 : decide ((t300 ++ (⟨#[123]⟩ : ByteArray)).size + x4_1.size ≤ 9223372036854775807) = true := decide_eq_true c32
        try have c32b2 : (9223372036854775807 < (t300 ++ (⟨#[123]⟩ : ByteArray)).size + x4_1.size) = False := eq_false (Nat.not_lt.2 c32)
        try (have c32s := c32; simp only [ByteArray.size_append, (show (⟨#[123]⟩ : ByteArray).size = 1 from rfl), (show (⟨#[125]⟩ : ByteArray).size = 1 from rfl), (show (⟨#[44]⟩ : ByteArray).size = 1 from rfl), (show (⟨#[91]⟩ : ByteArray).size = 1 from rfl), (show (⟨#[93]⟩ : ByteArray).size = 1 from rfl)] at c32s; have c32s1 := decide_eq_true c32s; have c32s2 := eq_false (Nat.not_lt.2 c32s); have c32s3 := eq_true c32s)
        by_cases c33 : ((t300 ++ (⟨#[123]⟩ : ByteArray)) ++ x4_1).size + 1 ≤ 9223372036854775807
        ·rw [if_pos c33] at H
         have c33b0 := eq_true c33
         have c33b1 : decide (((t300 ++ (⟨#[123]⟩ : ByteArray)) ++ x4_1).size + 1 ≤ 9223372036854775807) = true := decide_eq_true c33
         try have c33b2 : (9223372036854775807 < ((t300 ++ (⟨#[123]⟩ : ByteArray)) ++ x4_1).size + 1) = False := eq_false (Nat.not_lt.2 c33)
         try (have c33s := c33; simp only [ByteArray.size_append, (show (⟨#[123]⟩ : ByteArray).size = 1 from rfl), (show (⟨#[125]⟩ : ByteArray).size = 1 from rfl), (show (⟨#[44]⟩ : ByteArray).size = 1 from rfl), (show (⟨#[91]⟩ : ByteArray).size = 1 from rfl), (show (⟨#[93]⟩ : ByteArray).size = 1 from rfl)] at c33s; have c33s1 := decide_eq_true c33s; have c33s2 := eq_false (Nat.not_lt.2 c33s); have c33s3 := eq_true c33s)
         obtain rfl := Option.some.inj H
         have hcz34_0 : wr.cell? ⟨gb299, 0, none⟩ = some (.int .u8 a0_0) := (blk_cell BK299.out 0).trans rfl
         have hcz34_1 : wr.cell? ⟨gb299, 1, none⟩ = some (.int .i64 a0_1) := (blk_cell BK299.out 1).trans rfl
         have hcz34_2 : wr.cell? ⟨gb299, 2, none⟩ = some (.int .i64 a0_2) := (blk_cell BK299.out 2).trans rfl
         have hcz34_3 : wr.cell? ⟨gb299, 3, none⟩ = some (.int .i64 a0_3) := (blk_cell BK299.out 3).trans rfl
         have hcz34_4 : wr.cell? ⟨gb299, 4, none⟩ = some (.int .i64 a0_4) := (blk_cell BK299.out 4).trans rfl
         have hcz34_5 : wr.cell? ⟨gb299, 5, none⟩ = some (.int .i64 a0_5) := (blk_cell BK299.out 5).trans rfl
         have hcz34_6 : wr.cell? ⟨gb299, 6, none⟩ = some (.slice A0_6 l0_6.length c0_6) := (blk_cell BK299.out 6).trans rfl
         have hfz34_0 := blk_frozen BK299.out 0
         have hfz34_1 := blk_frozen BK299.out 1
         have hfz34_2 := blk_frozen BK299.out 2
         have hfz34_3 := blk_frozen BK299.out 3
         have hfz34_4 := blk_frozen BK299.out 4
         have hfz34_5 := blk_frozen BK299.out 5
         have hfz34_6 := blk_frozen BK299.out 6
         go_wp2
         go_ret
         exact ⟨by first | rfl | (simp [errW_none, errW_some] <;> rfl) | (simp [*, errW_none, errW_some] <;> rfl), by repeat (first | (with_reducible first | exact HB.out | apply below_alloc | apply pw_below_drewN | apply below_drew1 | refine below_set ?_ GE299.out) | exact HB.out)⟩
        ·rw [if_neg c33] at H
         exact absurd H (by simp)
       ·rw [if_neg c32] at H
        exact absurd H (by simp)
      ·rw [if_neg c31] at H
       exact absurd H (by simp)
     ·rw [if_neg c30] at H
      have c30b0 : (a0_0 == 2) = false := beq_eq_false_iff_ne.mpr c30
      have c30b1 : (a0_0 != 2) = true := bne_iff_ne.mpr c30
      by_cases c35 : t300.size + 1 ≤ 9223372036854775807
      ·rw [if_pos c35] at H
       have c35b0 := eq_true c35
       have c35b1 : decide (t300.size + 1 ≤ 9223372036854775807) = true := decide_eq_true c35
       try have c35b2 : (9223372036854775807 < t300.size + 1) = False := eq_false (Nat.not_lt.2 c35)
       try (have c35s := c35; simp only [ByteArray.size_append, (show (⟨#[123]⟩ : ByteArray).size = 1 from rfl), (show (⟨#[125]⟩ : ByteArray).size = 1 from rfl), (show (⟨#[44]⟩ : ByteArray).size = 1 from rfl), (show (⟨#[91]⟩ : ByteArray).size = 1 from rfl), (show (⟨#[93]⟩ : ByteArray).size = 1 from rfl)] at c35s; have c35s1 := decide_eq_true c35s; have c35s2 := eq_false (Nat.not_lt.2 c35s); have c35s3 := eq_true c35s)
       by_cases c36 : (t300 ++ (⟨#[91]⟩ : ByteArray)).size + x4_1.size ≤ 9223372036854775807
       ·rw [if_pos c36] at H
        have c36b0 := eq_true c36
        have c36b1 : decide ((t300 ++ (⟨#[91]⟩ : ByteArray)).size + x4_1.size ≤ 9223372036854775807) = true := decide_eq_true c36
        try have c36b2 : (9223372036854775807 < (t300 ++ (⟨#[91]⟩ : ByteArray)).size + x4_1.size) = False := eq_false (Nat.not_lt.2 c36)
        try (have c36s := c36; simp only [ByteArray.size_append, (show (⟨#[123]⟩ : ByteArray).size = 1 from rfl), (show (⟨#[125]⟩ : ByteArray).size = 1 from rfl), (show (⟨#[44]⟩ : ByteArray).size = 1 from rfl), (show (⟨#[91]⟩ : ByteArray).size = 1 from rfl), (show (⟨#[93]⟩ : ByteArray).size = 1 from rfl)] at c36s; have c36s1 := decide_eq_true c36s; have c36s2 := eq_false (Nat.not_lt.2 c36s); have c36s3 := eq_true c36s)
        by_cases c37 : ((t300 ++ (⟨#[91]⟩ : ByteArray)) ++ x4_1).size + 1 ≤ 9223372036854775807
        ·rw [if_pos c37] at H
         have c37b0 := eq_true c37
         have c37b1 : decide (((t300 ++ (⟨#[91]⟩ : ByteArray)) ++ x4_1).size + 1 ≤ 9223372036854775807) = true := decide_eq_true c37
         try have c37b2 : (9223372036854775807 < ((t300 ++ (⟨#[91]⟩ : ByteArray)) ++ x4_1).size + 1) = False := eq_false (Nat.not_lt.2 c37)
         try (have c37s := c37; simp only [ByteArray.size_append, (show (⟨#[123]⟩ : ByteArray).size = 1 from rfl), (show (⟨#[125]⟩ : ByteArray).size = 1 from rfl), (show (⟨#[44]⟩ : ByteArray).size = 1 from rfl), (show (⟨#[91]⟩ : ByteArray).size = 1 from rfl), (show (⟨#[93]⟩ : ByteArray).size = 1 from rfl)] at c37s; have c37s1 := decide_eq_true c37s; have c37s2 := eq_false (Nat.not_lt.2 c37s); have c37s3 := eq_true c37s)
         obtain rfl := Option.some.inj H
         have hcz38_0 : wr.cell? ⟨gb299, 0, none⟩ = some (.int .u8 a0_0) := (blk_cell BK299.out 0).trans rfl
         have hcz38_1 : wr.cell? ⟨gb299, 1, none⟩ = some (.int .i64 a0_1) := (blk_cell BK299.out 1).trans rfl
         have hcz38_2 : wr.cell? ⟨gb299, 2, none⟩ = some (.int .i64 a0_2) := (blk_cell BK299.out 2).trans rfl
         have hcz38_3 : wr.cell? ⟨gb299, 3, none⟩ = some (.int .i64 a0_3) := (blk_cell BK299.out 3).trans rfl
         have hcz38_4 : wr.cell? ⟨gb299, 4, none⟩ = some (.int .i64 a0_4) := (blk_cell BK299.out 4).trans rfl
         have hcz38_5 : wr.cell? ⟨gb299, 5, none⟩ = some (.int .i64 a0_5) := (blk_cell BK299.out 5).trans rfl
         have hcz38_6 : wr.cell? ⟨gb299, 6, none⟩ = some (.slice A0_6 l0_6.length c0_6) := (blk_cell BK299.out 6).trans rfl
         have hfz38_0 := blk_frozen BK299.out 0
         have hfz38_1 := blk_frozen BK299.out 1
         have hfz38_2 := blk_frozen BK299.out 2
         have hfz38_3 := blk_frozen BK299.out 3
         have hfz38_4 := blk_frozen BK299.out 4
         have hfz38_5 := blk_frozen BK299.out 5
         have hfz38_6 := blk_frozen BK299.out 6
         go_wp2
         go_ret
         exact ⟨by first | rfl | (simp [errW_none, errW_some] <;> rfl) | (simp [*, errW_none, errW_some] <;> rfl), by repeat (first | (with_reducible first | exact HB.out | apply below_alloc | apply pw_below_drewN | apply below_drew1 | refine below_set ?_ GE299.out) | exact HB.out)⟩
        ·rw [if_neg c37] at H
         exact absurd H (by simp)
       ·rw [if_neg c36] at H
        exact absurd H (by simp)
      ·rw [if_neg c35] at H
       exact absurd H (by simp)

mutual
def sashref05_Depth.l0 : Nat → Int → Int → Int → Int → Int → Int → Int → Int → Int → List (S30) → Option (Int)
 | 0, _, _, _, _, _, _, _, _, _, _ => none
 | k + 1, x3, x7, x8, x307000, x307001, x307002, x307003, x307004, x307005, x307006 => if x8 < x7 then (if 0 ≤ x8 then (if x8 < (x307006.length : Int) then ((sashref05_Depth.f k ((rd_T30 x307006 x8).f0) ((rd_T30 x307006 x8).f1.f0) ((rd_T30 x307006 x8).f1.f1) ((rd_T30 x307006 x8).f1.f2) ((rd_T30 x307006 x8).f1.f3) ((rd_T30 x307006 x8).f2) ((rd_T30 x307006 x8).f3)).bind fun t308 => (if t308 > x3 then ((sashref05_Depth.f k ((rd_T30 x307006 x8).f0) ((rd_T30 x307006 x8).f1.f0) ((rd_T30 x307006 x8).f1.f1) ((rd_T30 x307006 x8).f1.f2) ((rd_T30 x307006 x8).f1.f3) ((rd_T30 x307006 x8).f2) ((rd_T30 x307006 x8).f3)).bind fun t310 => (sashref05_Depth.l0 k t310 x7 (wrap64 (x8 + 1)) x307000 x307001 x307002 x307003 x307004 x307005 x307006)) else (sashref05_Depth.l0 k x3 x7 (wrap64 (x8 + 1)) x307000 x307001 x307002 x307003 x307004 x307005 x307006))) else (none)) else (none)) else (some (wrap64 (x3 + 1)))
def sashref05_Depth.f : Nat → Int → Int → Int → Int → Int → Int → List (S30) → Option (Int)
 | 0, _, _, _, _, _, _, _ => none
 | k + 1, a0_0, a0_1, a0_2, a0_3, a0_4, a0_5, l0_6 => sashref05_Depth.l0 k 0 (l0_6.length : Int) 0 a0_0 a0_1 a0_2 a0_3 a0_4 a0_5 l0_6
end
set_option maxHeartbeats 8000000 in
set_option maxRecDepth 100000 in
theorem sashref05_Depth.calls (k : Nat) : ∀ (a0_0 : Int) (a0_1 : Int) (a0_2 : Int) (a0_3 : Int) (a0_4 : Int) (a0_5 : Int) (A0_6 : Option Addr) (c0_6 : Nat) (l0_6 : List (S30)) (r : Int) (w : World) (hr0_6 : Kd.C k30 w A0_6 l0_6.length l0_6) (hc0_6 : l0_6.length ≤ c0_6) (h : sashref05_Depth.f k a0_0 a0_1 a0_2 a0_3 a0_4 a0_5 l0_6 = some r),
  Calls Tryz.prog 13 #[.agg #[.int .u8 a0_0, .int .i64 a0_1, .int .i64 a0_2, .int .i64 a0_3, .int .i64 a0_4, .int .i64 a0_5, .slice A0_6 l0_6.length c0_6]] w fun e w' => e = .returned (.int .i64 r) ∧ Below w.heap.size w w' := by
 induction k using Nat.strongRecOn with
 | _ k ih =>
 intro a0_0 a0_1 a0_2 a0_3 a0_4 a0_5 A0_6 c0_6 l0_6 r w hr0_6 hc0_6 h
 cases k with
 | zero => exact absurd h (by simp [sashref05_Depth.f])
 | succ k =>
 simp only [sashref05_Depth.f] at h
 have hu30 := Tryz.underlying30
 have HR0_6 := Aside0.mk hr0_6
 have HC0_6 := Aside0.mk hc0_6
 clear hr0_6 hc0_6
 have HB := Aside0.mk (Below.refl w.heap.size w)
 have H : (sashref05_Depth.l0 k 0 (l0_6.length : Int) 0 a0_0 a0_1 a0_2 a0_3 a0_4 a0_5 l0_6) = some r := h
 clear h
 have H' := Aside0.mk H
 clear H
 go_enter Tryz.func13, Tryz.ntmps13
 go_wp2_with (first | ((with_reducible refine gate_dst (N := 1) rfl ?_); refine box_event ?hg (N := 1) ?hd (cs := #[.int .u8 a0_0, .int .i64 a0_1, .int .i64 a0_2, .int .i64 a0_3, .int .i64 a0_4, .int .i64 a0_5, .slice A0_6 l0_6.length c0_6]) (t := 30) ?hr ?_; (case hd => rfl); (case hg => rfl); (case hr => first | (go_simp; done) | (go_simp; rfl)); intro gb306 hg w2 hbox hb; have n0_ := Aside0.mk (below_step (by repeat (first | (with_reducible first | exact HB.out | apply below_alloc | apply pw_below_drewN | apply below_drew1) | exact HB.out)) hb); have n1_ := Aside0.mk (hbox); have n2_ := Aside0.mk ((by rw [hg]; exact (below_size (by repeat (first | (with_reducible first | exact HB.out | apply below_alloc | apply pw_below_drewN | apply below_drew1) | exact HB.out))) : w.heap.size ≤ gb306)); have n3_ := Aside0.mk ((by rw [hg]; exact (below_size (by repeat (first | (with_reducible first | exact HB.out | apply below_alloc | apply pw_below_drewN | apply below_drew1) | exact HB.out))) : w.heap.size ≤ gb306)); clear HB; have HB := n0_; have BK306 := n1_; have GW306 := n2_; have GE306 := n3_; clear n0_ n1_ n2_ n3_; clear hb hbox hg; have hcz3_0 : w2.cell? ⟨gb306, 0, none⟩ = some (.int .u8 a0_0) := (blk_cell BK306.out 0).trans rfl; have hcz3_1 : w2.cell? ⟨gb306, 1, none⟩ = some (.int .i64 a0_1) := (blk_cell BK306.out 1).trans rfl; have hcz3_2 : w2.cell? ⟨gb306, 2, none⟩ = some (.int .i64 a0_2) := (blk_cell BK306.out 2).trans rfl; have hcz3_3 : w2.cell? ⟨gb306, 3, none⟩ = some (.int .i64 a0_3) := (blk_cell BK306.out 3).trans rfl; have hcz3_4 : w2.cell? ⟨gb306, 4, none⟩ = some (.int .i64 a0_4) := (blk_cell BK306.out 4).trans rfl; have hcz3_5 : w2.cell? ⟨gb306, 5, none⟩ = some (.int .i64 a0_5) := (blk_cell BK306.out 5).trans rfl; have hcz3_6 : w2.cell? ⟨gb306, 6, none⟩ = some (.slice A0_6 l0_6.length c0_6) := (blk_cell BK306.out 6).trans rfl; have hfz3_0 := blk_frozen BK306.out 0; have hfz3_1 := blk_frozen BK306.out 1; have hfz3_2 := blk_frozen BK306.out 2; have hfz3_3 := blk_frozen BK306.out 3; have hfz3_4 := blk_frozen BK306.out 4; have hfz3_5 := blk_frozen BK306.out 5; have hfz3_6 := blk_frozen BK306.out 6))
 go_loopg [3, 8] k (fun kq v3 v8 w' => ∃ (x3_1 : Int) (x8_1 : Int), v3 = .int .i64 x3_1 ∧ v8 = .int .i64 x8_1 ∧ Aside0 (sashref05_Depth.l0 kq x3_1 (l0_6.length : Int) x8_1 a0_0 a0_1 a0_2 a0_3 a0_4 a0_5 l0_6 = some r) ∧ Aside0 (kq ≤ k) ∧ Aside0 (w'.heap[gb306]? = some (.cells #[.int .u8 a0_0, .int .i64 a0_1, .int .i64 a0_2, .int .i64 a0_3, .int .i64 a0_4, .int .i64 a0_5, (.slice A0_6 l0_6.length c0_6)] 30 (0, 0))) ∧ Aside0 (Below w.heap.size w w'))
 case atStart => exact ⟨(0), (0), (by first | rfl | (simp; done) | (simp [*]; done)), (by first | rfl | (simp; done) | (simp [*]; done)), H', ⟨Nat.le_refl _⟩, ⟨by (with_reducible repeat (first | refine blk_drewN ?_ _ | refine blk_drew ?_ | refine blk_alloc ?_ _)); exact BK306.out⟩, ⟨by repeat (first | (with_reducible first | exact HB.out | apply below_alloc | apply pw_below_drewN | apply below_drew1 | refine below_set ?_ GE306.out) | exact HB.out)⟩⟩
 case round =>
  clear H'
  try clear c1
  try clear p2
  try clear hcz3_0
  try clear hcz3_1
  try clear hcz3_2
  try clear hcz3_3
  try clear hcz3_4
  try clear hcz3_5
  try clear hcz3_6
  try clear hfz3_0
  try clear hfz3_1
  try clear hfz3_2
  try clear hfz3_3
  try clear hfz3_4
  try clear hfz3_5
  try clear hfz3_6
  obtain ⟨x3_1, x8_1, rfl, rfl, HA, HK1, BK306, HB⟩ := hrel
  cases gk with
  | zero => exact absurd HA.out (by simp [sashref05_Depth.l0])
  | succ k1 =>
   have H := HA.out
   clear HA
   simp only [sashref05_Depth.l0] at H
   by_cases c4 : x8_1 < (l0_6.length : Int)
   ·rw [if_pos c4] at H
    have c4b0 : decide (x8_1 < (l0_6.length : Int)) = true := decide_eq_true c4
    clear c4
    by_cases c5 : 0 ≤ x8_1
    ·rw [if_pos c5] at H
     have c5b0 : decide (0 ≤ x8_1) = true := decide_eq_true c5
     clear c5
     by_cases c6 : x8_1 < (l0_6.length : Int)
     ·rw [if_pos c6] at H
      have c6b0 : decide (x8_1 < (l0_6.length : Int)) = true := decide_eq_true c6
      clear c6
      replace H := Option.bind_eq_some_iff.mp H
      obtain ⟨t308, A70, H⟩ := H
      replace H : (if t308 > x3_1 then ((sashref05_Depth.f k1 ((rd_T30 l0_6 x8_1).f0) ((rd_T30 l0_6 x8_1).f1.f0) ((rd_T30 l0_6 x8_1).f1.f1) ((rd_T30 l0_6 x8_1).f1.f2) ((rd_T30 l0_6 x8_1).f1.f3) ((rd_T30 l0_6 x8_1).f2) ((rd_T30 l0_6 x8_1).f3)).bind fun t310 => (sashref05_Depth.l0 k1 t310 (l0_6.length : Int) (wrap64 (x8_1 + 1)) a0_0 a0_1 a0_2 a0_3 a0_4 a0_5 l0_6)) else (sashref05_Depth.l0 k1 x3_1 (l0_6.length : Int) (wrap64 (x8_1 + 1)) a0_0 a0_1 a0_2 a0_3 a0_4 a0_5 l0_6)) = some r := H
      have A7 := Aside0.mk A70
      clear A70
      by_cases c8 : t308 > x3_1
      ·rw [if_pos c8] at H
       have c8b0 : decide (x3_1 < t308) = true := decide_eq_true c8
       clear c8
       replace H := Option.bind_eq_some_iff.mp H
       obtain ⟨t310, A90, H⟩ := H
       replace H : (sashref05_Depth.l0 k1 t310 (l0_6.length : Int) (wrap64 (x8_1 + 1)) a0_0 a0_1 a0_2 a0_3 a0_4 a0_5 l0_6) = some r := H
       have A9 := Aside0.mk A90
       clear A90
       have H' := Aside0.mk H
       clear H
       have hcz10_0 : wr.cell? ⟨gb306, 0, none⟩ = some (.int .u8 a0_0) := (blk_cell BK306.out 0).trans rfl
       have hcz10_1 : wr.cell? ⟨gb306, 1, none⟩ = some (.int .i64 a0_1) := (blk_cell BK306.out 1).trans rfl
       have hcz10_2 : wr.cell? ⟨gb306, 2, none⟩ = some (.int .i64 a0_2) := (blk_cell BK306.out 2).trans rfl
       have hcz10_3 : wr.cell? ⟨gb306, 3, none⟩ = some (.int .i64 a0_3) := (blk_cell BK306.out 3).trans rfl
       have hcz10_4 : wr.cell? ⟨gb306, 4, none⟩ = some (.int .i64 a0_4) := (blk_cell BK306.out 4).trans rfl
       have hcz10_5 : wr.cell? ⟨gb306, 5, none⟩ = some (.int .i64 a0_5) := (blk_cell BK306.out 5).trans rfl
       have hcz10_6 : wr.cell? ⟨gb306, 6, none⟩ = some (.slice A0_6 l0_6.length c0_6) := (blk_cell BK306.out 6).trans rfl
       have hfz10_0 := blk_frozen BK306.out 0
       have hfz10_1 := blk_frozen BK306.out 1
       have hfz10_2 := blk_frozen BK306.out 2
       have hfz10_3 := blk_frozen BK306.out 3
       have hfz10_4 := blk_frozen BK306.out 4
       have hfz10_5 := blk_frozen BK306.out 5
       have hfz10_6 := blk_frozen BK306.out 6
       have p307 : 0 ≤ (x8_1 : Int) := of_decide_eq_true (by first | (with_reducible assumption) | assumption)
       have q307 : x8_1 < (l0_6.length : Int) := of_decide_eq_true (by first | (with_reducible assumption) | assumption)
       obtain ⟨ad307, A307_6, c307_6, e307, hx307_0, hx307_1, hx307_2, hx307_3, hx307_4, hx307_5, hx307_6, hl307_6, hi307_6⟩ := at_T30 HR0_6.out x8_1 p307 q307
       cases e307
       replace hx307_0 := (HB.out.cell (World.block_lt_of_cell? w _ hx307_0)).trans hx307_0
       replace hx307_1 := (HB.out.cell (World.block_lt_of_cell? w _ hx307_1)).trans hx307_1
       replace hx307_2 := (HB.out.cell (World.block_lt_of_cell? w _ hx307_2)).trans hx307_2
       replace hx307_3 := (HB.out.cell (World.block_lt_of_cell? w _ hx307_3)).trans hx307_3
       replace hx307_4 := (HB.out.cell (World.block_lt_of_cell? w _ hx307_4)).trans hx307_4
       replace hx307_5 := (HB.out.cell (World.block_lt_of_cell? w _ hx307_5)).trans hx307_5
       replace hx307_6 := (HB.out.cell (World.block_lt_of_cell? w _ hx307_6)).trans hx307_6
       have HR307_6 := Aside0.mk hi307_6
       have HC307_6 := Aside0.mk hl307_6
       clear hi307_6 hl307_6
       replace p307 := eq_true p307
       replace q307 := eq_true q307
       go_wp2_with (first | ((with_reducible refine gate_callee (f := 13) rfl ?_); refine goesL_ (some 16) rfl rfl Tryz.func13 (by kernel_rfl) rfl #[.agg #[.int .u8 ((rd_T30 l0_6 x8_1).f0), .int .i64 ((rd_T30 l0_6 x8_1).f1.f0), .int .i64 ((rd_T30 l0_6 x8_1).f1.f1), .int .i64 ((rd_T30 l0_6 x8_1).f1.f2), .int .i64 ((rd_T30 l0_6 x8_1).f1.f3), .int .i64 ((rd_T30 l0_6 x8_1).f2), .slice A307_6 ((rd_T30 l0_6 x8_1).f3).length c307_6]] rfl (by (try simp only [List.map_toArray, List.map_cons, List.map_nil]); first | done | rfl | (simp only [List.length_drop, List.length_take]; rfl)) ?_; (with_reducible refine (ih k1 (by have := HK1.out; omega) ((rd_T30 l0_6 x8_1).f0) ((rd_T30 l0_6 x8_1).f1.f0) ((rd_T30 l0_6 x8_1).f1.f1) ((rd_T30 l0_6 x8_1).f1.f2) ((rd_T30 l0_6 x8_1).f1.f3) ((rd_T30 l0_6 x8_1).f2) _ _ ((rd_T30 l0_6 x8_1).f3) t308 _ ?side1 ?side2 A7.out).mono ?_); (case side1 => repeat (first | exact (Kd.C_below HR307_6.out HB.out) | (with_reducible refine Kd.C_alloc ?_ _) | (with_reducible refine Kd.C_drewN ?_ _) | (with_reducible refine Kd.C_drew ?_))); (case side2 => exact HC307_6.out); rintro e w11 ⟨rfl, hb⟩; refine ⟨_, rfl, ?_⟩; have n0_ := Aside0.mk (blk_below (g := gb306) (o := .cells #[.int .u8 a0_0, .int .i64 a0_1, .int .i64 a0_2, .int .i64 a0_3, .int .i64 a0_4, .int .i64 a0_5, .slice (some ad307) l0_6.length c0_6] 30 (0, 0)) (by (with_reducible repeat (first | refine blk_drewN ?_ _ | refine blk_drew ?_ | refine blk_alloc ?_ _)); exact BK306.out) hb); have n1_ := Aside0.mk (below_step (by repeat (first | (with_reducible first | exact HB.out | apply below_alloc | apply pw_below_drewN | apply below_drew1 | refine below_set ?_ GE306.out) | exact HB.out)) hb); clear BK306; clear HB; have BK306 := n0_; have HB := n1_; clear n0_ n1_; (try clear hb); (try clear hb2); (try clear hk); (try clear hi); have hcz12_0 : w11.cell? ⟨gb306, 0, none⟩ = some (.int .u8 a0_0) := (blk_cell BK306.out 0).trans rfl; have hcz12_1 : w11.cell? ⟨gb306, 1, none⟩ = some (.int .i64 a0_1) := (blk_cell BK306.out 1).trans rfl; have hcz12_2 : w11.cell? ⟨gb306, 2, none⟩ = some (.int .i64 a0_2) := (blk_cell BK306.out 2).trans rfl; have hcz12_3 : w11.cell? ⟨gb306, 3, none⟩ = some (.int .i64 a0_3) := (blk_cell BK306.out 3).trans rfl; have hcz12_4 : w11.cell? ⟨gb306, 4, none⟩ = some (.int .i64 a0_4) := (blk_cell BK306.out 4).trans rfl; have hcz12_5 : w11.cell? ⟨gb306, 5, none⟩ = some (.int .i64 a0_5) := (blk_cell BK306.out 5).trans rfl; have hcz12_6 : w11.cell? ⟨gb306, 6, none⟩ = some (.slice (some ad307) l0_6.length c0_6) := (blk_cell BK306.out 6).trans rfl; have hfz12_0 := blk_frozen BK306.out 0; have hfz12_1 := blk_frozen BK306.out 1; have hfz12_2 := blk_frozen BK306.out 2; have hfz12_3 := blk_frozen BK306.out 3; have hfz12_4 := blk_frozen BK306.out 4; have hfz12_5 := blk_frozen BK306.out 5; have hfz12_6 := blk_frozen BK306.out 6; have p309 : 0 ≤ (x8_1 : Int) := of_decide_eq_true (by first | (with_reducible assumption) | assumption); have q309 : x8_1 < (l0_6.length : Int) := of_decide_eq_true (by first | (with_reducible assumption) | assumption); obtain ⟨ad309, A309_6, c309_6, e309, hx309_0, hx309_1, hx309_2, hx309_3, hx309_4, hx309_5, hx309_6, hl309_6, hi309_6⟩ := at_T30 HR0_6.out x8_1 p309 q309; obtain rfl : ad307 = ad309 := (by injection e309); replace hx309_0 := (HB.out.cell (World.block_lt_of_cell? w _ hx309_0)).trans hx309_0; replace hx309_1 := (HB.out.cell (World.block_lt_of_cell? w _ hx309_1)).trans hx309_1; replace hx309_2 := (HB.out.cell (World.block_lt_of_cell? w _ hx309_2)).trans hx309_2; replace hx309_3 := (HB.out.cell (World.block_lt_of_cell? w _ hx309_3)).trans hx309_3; replace hx309_4 := (HB.out.cell (World.block_lt_of_cell? w _ hx309_4)).trans hx309_4; replace hx309_5 := (HB.out.cell (World.block_lt_of_cell? w _ hx309_5)).trans hx309_5; replace hx309_6 := (HB.out.cell (World.block_lt_of_cell? w _ hx309_6)).trans hx309_6; have HR309_6 := Aside0.mk hi309_6; have HC309_6 := Aside0.mk hl309_6; clear hi309_6 hl309_6; replace p309 := eq_true p309; replace q309 := eq_true q309) | ((with_reducible refine gate_callee (f := 13) rfl ?_); refine goesL_ (some 24) rfl rfl Tryz.func13 (by kernel_rfl) rfl #[.agg #[.int .u8 ((rd_T30 l0_6 x8_1).f0), .int .i64 ((rd_T30 l0_6 x8_1).f1.f0), .int .i64 ((rd_T30 l0_6 x8_1).f1.f1), .int .i64 ((rd_T30 l0_6 x8_1).f1.f2), .int .i64 ((rd_T30 l0_6 x8_1).f1.f3), .int .i64 ((rd_T30 l0_6 x8_1).f2), .slice A309_6 ((rd_T30 l0_6 x8_1).f3).length c309_6]] rfl (by (try simp only [List.map_toArray, List.map_cons, List.map_nil]); first | done | rfl | (simp only [List.length_drop, List.length_take]; rfl)) ?_; (with_reducible refine (ih k1 (by have := HK1.out; omega) ((rd_T30 l0_6 x8_1).f0) ((rd_T30 l0_6 x8_1).f1.f0) ((rd_T30 l0_6 x8_1).f1.f1) ((rd_T30 l0_6 x8_1).f1.f2) ((rd_T30 l0_6 x8_1).f1.f3) ((rd_T30 l0_6 x8_1).f2) _ _ ((rd_T30 l0_6 x8_1).f3) t310 _ ?side1 ?side2 A9.out).mono ?_); (case side1 => repeat (first | exact (Kd.C_below HR309_6.out HB.out) | (with_reducible refine Kd.C_alloc ?_ _) | (with_reducible refine Kd.C_drewN ?_ _) | (with_reducible refine Kd.C_drew ?_))); (case side2 => exact HC309_6.out); rintro e w13 ⟨rfl, hb⟩; refine ⟨_, rfl, ?_⟩; have n0_ := Aside0.mk (blk_below (g := gb306) (o := .cells #[.int .u8 a0_0, .int .i64 a0_1, .int .i64 a0_2, .int .i64 a0_3, .int .i64 a0_4, .int .i64 a0_5, .slice (some ad307) l0_6.length c0_6] 30 (0, 0)) (by (with_reducible repeat (first | refine blk_drewN ?_ _ | refine blk_drew ?_ | refine blk_alloc ?_ _)); exact BK306.out) hb); have n1_ := Aside0.mk (below_step (by repeat (first | (with_reducible first | exact HB.out | apply below_alloc | apply pw_below_drewN | apply below_drew1 | refine below_set ?_ GE306.out) | exact HB.out)) hb); clear BK306; clear HB; have BK306 := n0_; have HB := n1_; clear n0_ n1_; (try clear hb); (try clear hb2); (try clear hk); (try clear hi)))
       go_roundg k1
       case measure => have := HK1.out; omega
       case rel => exact ⟨(t310), (wrap64 (x8_1 + 1)), (by first | rfl | (simp; done) | (simp [*]; done)), (by first | rfl | (simp; done) | (simp [*]; done)), H', ⟨by have := HK1.out; omega⟩, ⟨by (with_reducible repeat (first | refine blk_drewN ?_ _ | refine blk_drew ?_ | refine blk_alloc ?_ _)); exact BK306.out⟩, ⟨by repeat (first | (with_reducible first | exact HB.out | apply below_alloc | apply pw_below_drewN | apply below_drew1 | refine below_set ?_ GE306.out) | exact HB.out)⟩⟩
      ·rw [if_neg c8] at H
       have c8b0 : decide (x3_1 < t308) = false := decide_eq_false c8
       clear c8
       have H' := Aside0.mk H
       clear H
       have hcz14_0 : wr.cell? ⟨gb306, 0, none⟩ = some (.int .u8 a0_0) := (blk_cell BK306.out 0).trans rfl
       have hcz14_1 : wr.cell? ⟨gb306, 1, none⟩ = some (.int .i64 a0_1) := (blk_cell BK306.out 1).trans rfl
       have hcz14_2 : wr.cell? ⟨gb306, 2, none⟩ = some (.int .i64 a0_2) := (blk_cell BK306.out 2).trans rfl
       have hcz14_3 : wr.cell? ⟨gb306, 3, none⟩ = some (.int .i64 a0_3) := (blk_cell BK306.out 3).trans rfl
       have hcz14_4 : wr.cell? ⟨gb306, 4, none⟩ = some (.int .i64 a0_4) := (blk_cell BK306.out 4).trans rfl
       have hcz14_5 : wr.cell? ⟨gb306, 5, none⟩ = some (.int .i64 a0_5) := (blk_cell BK306.out 5).trans rfl
       have hcz14_6 : wr.cell? ⟨gb306, 6, none⟩ = some (.slice A0_6 l0_6.length c0_6) := (blk_cell BK306.out 6).trans rfl
       have hfz14_0 := blk_frozen BK306.out 0
       have hfz14_1 := blk_frozen BK306.out 1
       have hfz14_2 := blk_frozen BK306.out 2
       have hfz14_3 := blk_frozen BK306.out 3
       have hfz14_4 := blk_frozen BK306.out 4
       have hfz14_5 := blk_frozen BK306.out 5
       have hfz14_6 := blk_frozen BK306.out 6
       have p307 : 0 ≤ (x8_1 : Int) := of_decide_eq_true (by first | (with_reducible assumption) | assumption)
       have q307 : x8_1 < (l0_6.length : Int) := of_decide_eq_true (by first | (with_reducible assumption) | assumption)
       obtain ⟨ad307, A307_6, c307_6, e307, hx307_0, hx307_1, hx307_2, hx307_3, hx307_4, hx307_5, hx307_6, hl307_6, hi307_6⟩ := at_T30 HR0_6.out x8_1 p307 q307
       cases e307
       replace hx307_0 := (HB.out.cell (World.block_lt_of_cell? w _ hx307_0)).trans hx307_0
       replace hx307_1 := (HB.out.cell (World.block_lt_of_cell? w _ hx307_1)).trans hx307_1
       replace hx307_2 := (HB.out.cell (World.block_lt_of_cell? w _ hx307_2)).trans hx307_2
       replace hx307_3 := (HB.out.cell (World.block_lt_of_cell? w _ hx307_3)).trans hx307_3
       replace hx307_4 := (HB.out.cell (World.block_lt_of_cell? w _ hx307_4)).trans hx307_4
       replace hx307_5 := (HB.out.cell (World.block_lt_of_cell? w _ hx307_5)).trans hx307_5
       replace hx307_6 := (HB.out.cell (World.block_lt_of_cell? w _ hx307_6)).trans hx307_6
       have HR307_6 := Aside0.mk hi307_6
       have HC307_6 := Aside0.mk hl307_6
       clear hi307_6 hl307_6
       replace p307 := eq_true p307
       replace q307 := eq_true q307
       go_wp2_with (first | ((with_reducible refine gate_callee (f := 13) rfl ?_); refine goesL_ (some 16) rfl rfl Tryz.func13 (by kernel_rfl) rfl #[.agg #[.int .u8 ((rd_T30 l0_6 x8_1).f0), .int .i64 ((rd_T30 l0_6 x8_1).f1.f0), .int .i64 ((rd_T30 l0_6 x8_1).f1.f1), .int .i64 ((rd_T30 l0_6 x8_1).f1.f2), .int .i64 ((rd_T30 l0_6 x8_1).f1.f3), .int .i64 ((rd_T30 l0_6 x8_1).f2), .slice A307_6 ((rd_T30 l0_6 x8_1).f3).length c307_6]] rfl (by (try simp only [List.map_toArray, List.map_cons, List.map_nil]); first | done | rfl | (simp only [List.length_drop, List.length_take]; rfl)) ?_; (with_reducible refine (ih k1 (by have := HK1.out; omega) ((rd_T30 l0_6 x8_1).f0) ((rd_T30 l0_6 x8_1).f1.f0) ((rd_T30 l0_6 x8_1).f1.f1) ((rd_T30 l0_6 x8_1).f1.f2) ((rd_T30 l0_6 x8_1).f1.f3) ((rd_T30 l0_6 x8_1).f2) _ _ ((rd_T30 l0_6 x8_1).f3) t308 _ ?side1 ?side2 A7.out).mono ?_); (case side1 => repeat (first | exact (Kd.C_below HR307_6.out HB.out) | (with_reducible refine Kd.C_alloc ?_ _) | (with_reducible refine Kd.C_drewN ?_ _) | (with_reducible refine Kd.C_drew ?_))); (case side2 => exact HC307_6.out); rintro e w15 ⟨rfl, hb⟩; refine ⟨_, rfl, ?_⟩; have n0_ := Aside0.mk (blk_below (g := gb306) (o := .cells #[.int .u8 a0_0, .int .i64 a0_1, .int .i64 a0_2, .int .i64 a0_3, .int .i64 a0_4, .int .i64 a0_5, .slice (some ad307) l0_6.length c0_6] 30 (0, 0)) (by (with_reducible repeat (first | refine blk_drewN ?_ _ | refine blk_drew ?_ | refine blk_alloc ?_ _)); exact BK306.out) hb); have n1_ := Aside0.mk (below_step (by repeat (first | (with_reducible first | exact HB.out | apply below_alloc | apply pw_below_drewN | apply below_drew1 | refine below_set ?_ GE306.out) | exact HB.out)) hb); clear BK306; clear HB; have BK306 := n0_; have HB := n1_; clear n0_ n1_; (try clear hb); (try clear hb2); (try clear hk); (try clear hi)))
       go_roundg k1
       case measure => have := HK1.out; omega
       case rel => exact ⟨(x3_1), (wrap64 (x8_1 + 1)), (by first | rfl | (simp; done) | (simp [*]; done)), (by first | rfl | (simp; done) | (simp [*]; done)), H', ⟨by have := HK1.out; omega⟩, ⟨by (with_reducible repeat (first | refine blk_drewN ?_ _ | refine blk_drew ?_ | refine blk_alloc ?_ _)); exact BK306.out⟩, ⟨by repeat (first | (with_reducible first | exact HB.out | apply below_alloc | apply pw_below_drewN | apply below_drew1 | refine below_set ?_ GE306.out) | exact HB.out)⟩⟩
     ·rw [if_neg c6] at H
      exact absurd H (by simp)
    ·rw [if_neg c5] at H
     exact absurd H (by simp)
   ·rw [if_neg c4] at H
    have c4b0 : decide (x8_1 < (l0_6.length : Int)) = false := decide_eq_false c4
    clear c4
    obtain rfl := Option.some.inj H
    go_wp2
    go_ret
    exact ⟨by first | rfl | (simp [errW_none, errW_some] <;> rfl) | (simp [*, errW_none, errW_some] <;> rfl), by repeat (first | (with_reducible first | exact HB.out | apply below_alloc | apply pw_below_drewN | apply below_drew1 | refine below_set ?_ GE306.out) | exact HB.out)⟩

def sashref10_Text.f (k : Nat) (a0_0 : Int) (a0_1 : Int) (a0_2 : Int) (a0_3 : Int) (a0_4 : Int) (a0_5 : Int) (l0_6 : List (S30)) : Option (ByteArray × Int) := (sashref06_Tiles.f k a0_0 a0_1 a0_2 a0_3 a0_4 a0_5 l0_6).bind fun t312 => (if t312 = true then ((sashref10_Body.f k a0_0 a0_1 a0_2 a0_3 a0_4 a0_5 l0_6).bind fun t313 => ((sashref02_Put.f k t313).bind fun t314 => (if (t314.size : Int) > 65535 then (some ((⟨#[]⟩ : ByteArray), 3)) else ((sashref05_Depth.f k a0_0 a0_1 a0_2 a0_3 a0_4 a0_5 l0_6).bind fun t315 => (if t315 > 1000 then (some ((⟨#[]⟩ : ByteArray), 3)) else (some (t314, 0))))))) else (some ((⟨#[]⟩ : ByteArray), 1)))
set_option maxHeartbeats 8000000 in
set_option maxRecDepth 100000 in
theorem sashref10_Text.calls (k : Nat) (a0_0 : Int) (a0_1 : Int) (a0_2 : Int) (a0_3 : Int) (a0_4 : Int) (a0_5 : Int) (A0_6 : Option Addr) (c0_6 : Nat) (l0_6 : List (S30)) (r1 : ByteArray) (r2 : Int) (w : World) (hr0_6 : Kd.C k30 w A0_6 l0_6.length l0_6) (hc0_6 : l0_6.length ≤ c0_6) (h : sashref10_Text.f k a0_0 a0_1 a0_2 a0_3 a0_4 a0_5 l0_6 = some (r1, r2)) :
  Calls Tryz.prog 6 #[.agg #[.int .u8 a0_0, .int .i64 a0_1, .int .i64 a0_2, .int .i64 a0_3, .int .i64 a0_4, .int .i64 a0_5, .slice A0_6 l0_6.length c0_6]] w fun e w' => e = .returned (.tuple #[.string r1, .int .i64 r2]) ∧ Below w.heap.size w w' := by
 have hu30 := Tryz.underlying30
 have HR0_6 := Aside0.mk hr0_6
 have HC0_6 := Aside0.mk hc0_6
 clear hr0_6 hc0_6
 have HB := Aside0.mk (Below.refl w.heap.size w)
 have H : ((sashref06_Tiles.f k a0_0 a0_1 a0_2 a0_3 a0_4 a0_5 l0_6).bind fun t312 => (if t312 = true then ((sashref10_Body.f k a0_0 a0_1 a0_2 a0_3 a0_4 a0_5 l0_6).bind fun t313 => ((sashref02_Put.f k t313).bind fun t314 => (if (t314.size : Int) > 65535 then (some ((⟨#[]⟩ : ByteArray), 3)) else ((sashref05_Depth.f k a0_0 a0_1 a0_2 a0_3 a0_4 a0_5 l0_6).bind fun t315 => (if t315 > 1000 then (some ((⟨#[]⟩ : ByteArray), 3)) else (some (t314, 0))))))) else (some ((⟨#[]⟩ : ByteArray), 1)))) = some (r1, r2) := h
 clear h
 replace H := Option.bind_eq_some_iff.mp H
 obtain ⟨t312, A20, H⟩ := H
 replace H : (if t312 = true then ((sashref10_Body.f k a0_0 a0_1 a0_2 a0_3 a0_4 a0_5 l0_6).bind fun t313 => ((sashref02_Put.f k t313).bind fun t314 => (if (t314.size : Int) > 65535 then (some ((⟨#[]⟩ : ByteArray), 3)) else ((sashref05_Depth.f k a0_0 a0_1 a0_2 a0_3 a0_4 a0_5 l0_6).bind fun t315 => (if t315 > 1000 then (some ((⟨#[]⟩ : ByteArray), 3)) else (some (t314, 0))))))) else (some ((⟨#[]⟩ : ByteArray), 1))) = some (r1, r2) := H
 have A2 := Aside0.mk A20
 clear A20
 by_cases c3 : t312 = true
 ·subst c3
  have H1 : ((sashref10_Body.f k a0_0 a0_1 a0_2 a0_3 a0_4 a0_5 l0_6).bind fun t313 => ((sashref02_Put.f k t313).bind fun t314 => (if (t314.size : Int) > 65535 then (some ((⟨#[]⟩ : ByteArray), 3)) else ((sashref05_Depth.f k a0_0 a0_1 a0_2 a0_3 a0_4 a0_5 l0_6).bind fun t315 => (if t315 > 1000 then (some ((⟨#[]⟩ : ByteArray), 3)) else (some (t314, 0))))))) = some (r1, r2) := by rw [if_pos rfl] at H; exact H
  clear H
  have H := H1
  clear H1
  replace H := Option.bind_eq_some_iff.mp H
  obtain ⟨t313, A40, H⟩ := H
  replace H : ((sashref02_Put.f k t313).bind fun t314 => (if (t314.size : Int) > 65535 then (some ((⟨#[]⟩ : ByteArray), 3)) else ((sashref05_Depth.f k a0_0 a0_1 a0_2 a0_3 a0_4 a0_5 l0_6).bind fun t315 => (if t315 > 1000 then (some ((⟨#[]⟩ : ByteArray), 3)) else (some (t314, 0)))))) = some (r1, r2) := H
  have A4 := Aside0.mk A40
  clear A40
  replace H := Option.bind_eq_some_iff.mp H
  obtain ⟨t314, A50, H⟩ := H
  replace H : (if (t314.size : Int) > 65535 then (some ((⟨#[]⟩ : ByteArray), 3)) else ((sashref05_Depth.f k a0_0 a0_1 a0_2 a0_3 a0_4 a0_5 l0_6).bind fun t315 => (if t315 > 1000 then (some ((⟨#[]⟩ : ByteArray), 3)) else (some (t314, 0))))) = some (r1, r2) := H
  have A5 := Aside0.mk A50
  clear A50
  by_cases c6 : (t314.size : Int) > 65535
  ·rw [if_pos c6] at H
   have c6b0 : decide (65535 < (t314.size : Int)) = true := decide_eq_true c6
   have c6b1 : decide (65535 < t314.size) = true := decide_eq_true (by omega)
   clear c6
   simp only [Option.some.injEq, Prod.mk.injEq] at H
   obtain ⟨rfl, rfl⟩ := H
   go_enter Tryz.func6, Tryz.ntmps6
   go_wp2_with (first | ((with_reducible refine gate_dst (N := 1) rfl ?_); refine box_event ?hg (N := 1) ?hd (cs := #[.int .u8 a0_0, .int .i64 a0_1, .int .i64 a0_2, .int .i64 a0_3, .int .i64 a0_4, .int .i64 a0_5, .slice A0_6 l0_6.length c0_6]) (t := 30) ?hr ?_; (case hd => rfl); (case hg => rfl); (case hr => first | (go_simp; done) | (go_simp; rfl)); intro gb311 hg w7 hbox hb; have n0_ := Aside0.mk (below_step (by repeat (first | (with_reducible first | exact HB.out | apply below_alloc | apply pw_below_drewN | apply below_drew1) | exact HB.out)) hb); have n1_ := Aside0.mk (hbox); have n2_ := Aside0.mk ((by rw [hg]; exact (below_size (by repeat (first | (with_reducible first | exact HB.out | apply below_alloc | apply pw_below_drewN | apply below_drew1) | exact HB.out))) : w.heap.size ≤ gb311)); have n3_ := Aside0.mk ((by rw [hg]; exact (below_size (by repeat (first | (with_reducible first | exact HB.out | apply below_alloc | apply pw_below_drewN | apply below_drew1) | exact HB.out))) : w.heap.size ≤ gb311)); clear HB; have HB := n0_; have BK311 := n1_; have GW311 := n2_; have GE311 := n3_; clear n0_ n1_ n2_ n3_; clear hb hbox hg; have hcz8_0 : w7.cell? ⟨gb311, 0, none⟩ = some (.int .u8 a0_0) := (blk_cell BK311.out 0).trans rfl; have hcz8_1 : w7.cell? ⟨gb311, 1, none⟩ = some (.int .i64 a0_1) := (blk_cell BK311.out 1).trans rfl; have hcz8_2 : w7.cell? ⟨gb311, 2, none⟩ = some (.int .i64 a0_2) := (blk_cell BK311.out 2).trans rfl; have hcz8_3 : w7.cell? ⟨gb311, 3, none⟩ = some (.int .i64 a0_3) := (blk_cell BK311.out 3).trans rfl; have hcz8_4 : w7.cell? ⟨gb311, 4, none⟩ = some (.int .i64 a0_4) := (blk_cell BK311.out 4).trans rfl; have hcz8_5 : w7.cell? ⟨gb311, 5, none⟩ = some (.int .i64 a0_5) := (blk_cell BK311.out 5).trans rfl; have hcz8_6 : w7.cell? ⟨gb311, 6, none⟩ = some (.slice A0_6 l0_6.length c0_6) := (blk_cell BK311.out 6).trans rfl; have hfz8_0 := blk_frozen BK311.out 0; have hfz8_1 := blk_frozen BK311.out 1; have hfz8_2 := blk_frozen BK311.out 2; have hfz8_3 := blk_frozen BK311.out 3; have hfz8_4 := blk_frozen BK311.out 4; have hfz8_5 := blk_frozen BK311.out 5; have hfz8_6 := blk_frozen BK311.out 6) | ((with_reducible refine gate_callee (f := 10) rfl ?_); refine goesL_ (some 6) rfl rfl Tryz.func10 (by kernel_rfl) rfl #[.agg #[.int .u8 a0_0, .int .i64 a0_1, .int .i64 a0_2, .int .i64 a0_3, .int .i64 a0_4, .int .i64 a0_5, .slice A0_6 l0_6.length c0_6]] rfl (by (try simp only [List.map_toArray, List.map_cons, List.map_nil]); first | done | rfl | (simp only [List.length_drop, List.length_take]; rfl)) ?_; (with_reducible refine (sashref06_Tiles.calls k a0_0 a0_1 a0_2 a0_3 a0_4 a0_5 _ _ l0_6 true _ ?side1 ?side2 A2.out).mono ?_); (case side1 => repeat (first | exact (Kd.C_below HR0_6.out HB.out) | (with_reducible refine Kd.C_alloc ?_ _) | (with_reducible refine Kd.C_drewN ?_ _) | (with_reducible refine Kd.C_drew ?_))); (case side2 => exact HC0_6.out); rintro e w9 ⟨rfl, hb⟩; refine ⟨_, rfl, ?_⟩; have n0_ := Aside0.mk (blk_below (g := gb311) (o := .cells #[.int .u8 a0_0, .int .i64 a0_1, .int .i64 a0_2, .int .i64 a0_3, .int .i64 a0_4, .int .i64 a0_5, .slice A0_6 l0_6.length c0_6] 30 (0, 0)) (by (with_reducible repeat (first | refine blk_drewN ?_ _ | refine blk_drew ?_ | refine blk_alloc ?_ _)); exact BK311.out) hb); have n1_ := Aside0.mk (below_step (by repeat (first | (with_reducible first | exact HB.out | apply below_alloc | apply pw_below_drewN | apply below_drew1 | refine below_set ?_ GE311.out) | exact HB.out)) hb); clear BK311; clear HB; have BK311 := n0_; have HB := n1_; clear n0_ n1_; (try clear hb); (try clear hb2); (try clear hk); (try clear hi); have hcz10_0 : w9.cell? ⟨gb311, 0, none⟩ = some (.int .u8 a0_0) := (blk_cell BK311.out 0).trans rfl; have hcz10_1 : w9.cell? ⟨gb311, 1, none⟩ = some (.int .i64 a0_1) := (blk_cell BK311.out 1).trans rfl; have hcz10_2 : w9.cell? ⟨gb311, 2, none⟩ = some (.int .i64 a0_2) := (blk_cell BK311.out 2).trans rfl; have hcz10_3 : w9.cell? ⟨gb311, 3, none⟩ = some (.int .i64 a0_3) := (blk_cell BK311.out 3).trans rfl; have hcz10_4 : w9.cell? ⟨gb311, 4, none⟩ = some (.int .i64 a0_4) := (blk_cell BK311.out 4).trans rfl; have hcz10_5 : w9.cell? ⟨gb311, 5, none⟩ = some (.int .i64 a0_5) := (blk_cell BK311.out 5).trans rfl; have hcz10_6 : w9.cell? ⟨gb311, 6, none⟩ = some (.slice A0_6 l0_6.length c0_6) := (blk_cell BK311.out 6).trans rfl; have hfz10_0 := blk_frozen BK311.out 0; have hfz10_1 := blk_frozen BK311.out 1; have hfz10_2 := blk_frozen BK311.out 2; have hfz10_3 := blk_frozen BK311.out 3; have hfz10_4 := blk_frozen BK311.out 4; have hfz10_5 := blk_frozen BK311.out 5; have hfz10_6 := blk_frozen BK311.out 6) | ((with_reducible refine gate_callee (f := 12) rfl ?_); refine goesL_ (some 9) rfl rfl Tryz.func12 (by kernel_rfl) rfl #[.agg #[.int .u8 a0_0, .int .i64 a0_1, .int .i64 a0_2, .int .i64 a0_3, .int .i64 a0_4, .int .i64 a0_5, .slice A0_6 l0_6.length c0_6]] rfl (by (try simp only [List.map_toArray, List.map_cons, List.map_nil]); first | done | rfl | (simp only [List.length_drop, List.length_take]; rfl)) ?_; (with_reducible refine (sashref10_Body.calls k a0_0 a0_1 a0_2 a0_3 a0_4 a0_5 _ _ l0_6 t313 _ ?side1 ?side2 A4.out).mono ?_); (case side1 => repeat (first | exact (Kd.C_below HR0_6.out HB.out) | (with_reducible refine Kd.C_alloc ?_ _) | (with_reducible refine Kd.C_drewN ?_ _) | (with_reducible refine Kd.C_drew ?_))); (case side2 => exact HC0_6.out); rintro e w11 ⟨rfl, hb⟩; refine ⟨_, rfl, ?_⟩; have n0_ := Aside0.mk (blk_below (g := gb311) (o := .cells #[.int .u8 a0_0, .int .i64 a0_1, .int .i64 a0_2, .int .i64 a0_3, .int .i64 a0_4, .int .i64 a0_5, .slice A0_6 l0_6.length c0_6] 30 (0, 0)) (by (with_reducible repeat (first | refine blk_drewN ?_ _ | refine blk_drew ?_ | refine blk_alloc ?_ _)); exact BK311.out) hb); have n1_ := Aside0.mk (below_step (by repeat (first | (with_reducible first | exact HB.out | apply below_alloc | apply pw_below_drewN | apply below_drew1 | refine below_set ?_ GE311.out) | exact HB.out)) hb); clear BK311; clear HB; have BK311 := n0_; have HB := n1_; clear n0_ n1_; (try clear hb); (try clear hb2); (try clear hk); (try clear hi)) | ((with_reducible refine gate_callee (f := 11) rfl ?_); refine goesL_ (some 10) rfl rfl Tryz.func11 (by kernel_rfl) rfl #[.string t313] rfl (by (try simp only [List.map_toArray, List.map_cons, List.map_nil]); first | done | rfl | (simp only [List.length_drop, List.length_take]; rfl)) ?_; (with_reducible refine (sashref02_Put.calls k t313 t314 _ A5.out).mono ?_); rintro e w' ⟨rfl, ⟨nd, rfl⟩⟩; refine ⟨_, rfl, ?_⟩))
   go_ret2
   exact ⟨by first | rfl | (simp [errW_none, errW_some] <;> rfl) | (simp [*, errW_none, errW_some] <;> rfl), by repeat (first | (with_reducible first | exact HB.out | apply below_alloc | apply pw_below_drewN | apply below_drew1 | refine below_set ?_ GE311.out) | exact HB.out)⟩
  ·rw [if_neg c6] at H
   have c6b0 : decide (65535 < (t314.size : Int)) = false := decide_eq_false c6
   have c6b1 : decide (65535 < t314.size) = false := decide_eq_false (by omega)
   clear c6
   replace H := Option.bind_eq_some_iff.mp H
   obtain ⟨t315, A120, H⟩ := H
   replace H : (if t315 > 1000 then (some ((⟨#[]⟩ : ByteArray), 3)) else (some (t314, 0))) = some (r1, r2) := H
   have A12 := Aside0.mk A120
   clear A120
   by_cases c13 : t315 > 1000
   ·rw [if_pos c13] at H
    have c13b0 : decide (1000 < t315) = true := decide_eq_true c13
    clear c13
    simp only [Option.some.injEq, Prod.mk.injEq] at H
    obtain ⟨rfl, rfl⟩ := H
    go_enter Tryz.func6, Tryz.ntmps6
    go_wp2_with (first | ((with_reducible refine gate_dst (N := 1) rfl ?_); refine box_event ?hg (N := 1) ?hd (cs := #[.int .u8 a0_0, .int .i64 a0_1, .int .i64 a0_2, .int .i64 a0_3, .int .i64 a0_4, .int .i64 a0_5, .slice A0_6 l0_6.length c0_6]) (t := 30) ?hr ?_; (case hd => rfl); (case hg => rfl); (case hr => first | (go_simp; done) | (go_simp; rfl)); intro gb311 hg w14 hbox hb; have n0_ := Aside0.mk (below_step (by repeat (first | (with_reducible first | exact HB.out | apply below_alloc | apply pw_below_drewN | apply below_drew1) | exact HB.out)) hb); have n1_ := Aside0.mk (hbox); have n2_ := Aside0.mk ((by rw [hg]; exact (below_size (by repeat (first | (with_reducible first | exact HB.out | apply below_alloc | apply pw_below_drewN | apply below_drew1) | exact HB.out))) : w.heap.size ≤ gb311)); have n3_ := Aside0.mk ((by rw [hg]; exact (below_size (by repeat (first | (with_reducible first | exact HB.out | apply below_alloc | apply pw_below_drewN | apply below_drew1) | exact HB.out))) : w.heap.size ≤ gb311)); clear HB; have HB := n0_; have BK311 := n1_; have GW311 := n2_; have GE311 := n3_; clear n0_ n1_ n2_ n3_; clear hb hbox hg; have hcz15_0 : w14.cell? ⟨gb311, 0, none⟩ = some (.int .u8 a0_0) := (blk_cell BK311.out 0).trans rfl; have hcz15_1 : w14.cell? ⟨gb311, 1, none⟩ = some (.int .i64 a0_1) := (blk_cell BK311.out 1).trans rfl; have hcz15_2 : w14.cell? ⟨gb311, 2, none⟩ = some (.int .i64 a0_2) := (blk_cell BK311.out 2).trans rfl; have hcz15_3 : w14.cell? ⟨gb311, 3, none⟩ = some (.int .i64 a0_3) := (blk_cell BK311.out 3).trans rfl; have hcz15_4 : w14.cell? ⟨gb311, 4, none⟩ = some (.int .i64 a0_4) := (blk_cell BK311.out 4).trans rfl; have hcz15_5 : w14.cell? ⟨gb311, 5, none⟩ = some (.int .i64 a0_5) := (blk_cell BK311.out 5).trans rfl; have hcz15_6 : w14.cell? ⟨gb311, 6, none⟩ = some (.slice A0_6 l0_6.length c0_6) := (blk_cell BK311.out 6).trans rfl; have hfz15_0 := blk_frozen BK311.out 0; have hfz15_1 := blk_frozen BK311.out 1; have hfz15_2 := blk_frozen BK311.out 2; have hfz15_3 := blk_frozen BK311.out 3; have hfz15_4 := blk_frozen BK311.out 4; have hfz15_5 := blk_frozen BK311.out 5; have hfz15_6 := blk_frozen BK311.out 6) | ((with_reducible refine gate_callee (f := 10) rfl ?_); refine goesL_ (some 6) rfl rfl Tryz.func10 (by kernel_rfl) rfl #[.agg #[.int .u8 a0_0, .int .i64 a0_1, .int .i64 a0_2, .int .i64 a0_3, .int .i64 a0_4, .int .i64 a0_5, .slice A0_6 l0_6.length c0_6]] rfl (by (try simp only [List.map_toArray, List.map_cons, List.map_nil]); first | done | rfl | (simp only [List.length_drop, List.length_take]; rfl)) ?_; (with_reducible refine (sashref06_Tiles.calls k a0_0 a0_1 a0_2 a0_3 a0_4 a0_5 _ _ l0_6 true _ ?side1 ?side2 A2.out).mono ?_); (case side1 => repeat (first | exact (Kd.C_below HR0_6.out HB.out) | (with_reducible refine Kd.C_alloc ?_ _) | (with_reducible refine Kd.C_drewN ?_ _) | (with_reducible refine Kd.C_drew ?_))); (case side2 => exact HC0_6.out); rintro e w16 ⟨rfl, hb⟩; refine ⟨_, rfl, ?_⟩; have n0_ := Aside0.mk (blk_below (g := gb311) (o := .cells #[.int .u8 a0_0, .int .i64 a0_1, .int .i64 a0_2, .int .i64 a0_3, .int .i64 a0_4, .int .i64 a0_5, .slice A0_6 l0_6.length c0_6] 30 (0, 0)) (by (with_reducible repeat (first | refine blk_drewN ?_ _ | refine blk_drew ?_ | refine blk_alloc ?_ _)); exact BK311.out) hb); have n1_ := Aside0.mk (below_step (by repeat (first | (with_reducible first | exact HB.out | apply below_alloc | apply pw_below_drewN | apply below_drew1 | refine below_set ?_ GE311.out) | exact HB.out)) hb); clear BK311; clear HB; have BK311 := n0_; have HB := n1_; clear n0_ n1_; (try clear hb); (try clear hb2); (try clear hk); (try clear hi); have hcz17_0 : w16.cell? ⟨gb311, 0, none⟩ = some (.int .u8 a0_0) := (blk_cell BK311.out 0).trans rfl; have hcz17_1 : w16.cell? ⟨gb311, 1, none⟩ = some (.int .i64 a0_1) := (blk_cell BK311.out 1).trans rfl; have hcz17_2 : w16.cell? ⟨gb311, 2, none⟩ = some (.int .i64 a0_2) := (blk_cell BK311.out 2).trans rfl; have hcz17_3 : w16.cell? ⟨gb311, 3, none⟩ = some (.int .i64 a0_3) := (blk_cell BK311.out 3).trans rfl; have hcz17_4 : w16.cell? ⟨gb311, 4, none⟩ = some (.int .i64 a0_4) := (blk_cell BK311.out 4).trans rfl; have hcz17_5 : w16.cell? ⟨gb311, 5, none⟩ = some (.int .i64 a0_5) := (blk_cell BK311.out 5).trans rfl; have hcz17_6 : w16.cell? ⟨gb311, 6, none⟩ = some (.slice A0_6 l0_6.length c0_6) := (blk_cell BK311.out 6).trans rfl; have hfz17_0 := blk_frozen BK311.out 0; have hfz17_1 := blk_frozen BK311.out 1; have hfz17_2 := blk_frozen BK311.out 2; have hfz17_3 := blk_frozen BK311.out 3; have hfz17_4 := blk_frozen BK311.out 4; have hfz17_5 := blk_frozen BK311.out 5; have hfz17_6 := blk_frozen BK311.out 6) | ((with_reducible refine gate_callee (f := 12) rfl ?_); refine goesL_ (some 9) rfl rfl Tryz.func12 (by kernel_rfl) rfl #[.agg #[.int .u8 a0_0, .int .i64 a0_1, .int .i64 a0_2, .int .i64 a0_3, .int .i64 a0_4, .int .i64 a0_5, .slice A0_6 l0_6.length c0_6]] rfl (by (try simp only [List.map_toArray, List.map_cons, List.map_nil]); first | done | rfl | (simp only [List.length_drop, List.length_take]; rfl)) ?_; (with_reducible refine (sashref10_Body.calls k a0_0 a0_1 a0_2 a0_3 a0_4 a0_5 _ _ l0_6 t313 _ ?side1 ?side2 A4.out).mono ?_); (case side1 => repeat (first | exact (Kd.C_below HR0_6.out HB.out) | (with_reducible refine Kd.C_alloc ?_ _) | (with_reducible refine Kd.C_drewN ?_ _) | (with_reducible refine Kd.C_drew ?_))); (case side2 => exact HC0_6.out); rintro e w18 ⟨rfl, hb⟩; refine ⟨_, rfl, ?_⟩; have n0_ := Aside0.mk (blk_below (g := gb311) (o := .cells #[.int .u8 a0_0, .int .i64 a0_1, .int .i64 a0_2, .int .i64 a0_3, .int .i64 a0_4, .int .i64 a0_5, .slice A0_6 l0_6.length c0_6] 30 (0, 0)) (by (with_reducible repeat (first | refine blk_drewN ?_ _ | refine blk_drew ?_ | refine blk_alloc ?_ _)); exact BK311.out) hb); have n1_ := Aside0.mk (below_step (by repeat (first | (with_reducible first | exact HB.out | apply below_alloc | apply pw_below_drewN | apply below_drew1 | refine below_set ?_ GE311.out) | exact HB.out)) hb); clear BK311; clear HB; have BK311 := n0_; have HB := n1_; clear n0_ n1_; (try clear hb); (try clear hb2); (try clear hk); (try clear hi)) | ((with_reducible refine gate_callee (f := 11) rfl ?_); refine goesL_ (some 10) rfl rfl Tryz.func11 (by kernel_rfl) rfl #[.string t313] rfl (by (try simp only [List.map_toArray, List.map_cons, List.map_nil]); first | done | rfl | (simp only [List.length_drop, List.length_take]; rfl)) ?_; (with_reducible refine (sashref02_Put.calls k t313 t314 _ A5.out).mono ?_); rintro e w' ⟨rfl, ⟨nd, rfl⟩⟩; refine ⟨_, rfl, ?_⟩; have hcz19_0 : w18.cell? ⟨gb311, 0, none⟩ = some (.int .u8 a0_0) := (blk_cell BK311.out 0).trans rfl; have hcz19_1 : w18.cell? ⟨gb311, 1, none⟩ = some (.int .i64 a0_1) := (blk_cell BK311.out 1).trans rfl; have hcz19_2 : w18.cell? ⟨gb311, 2, none⟩ = some (.int .i64 a0_2) := (blk_cell BK311.out 2).trans rfl; have hcz19_3 : w18.cell? ⟨gb311, 3, none⟩ = some (.int .i64 a0_3) := (blk_cell BK311.out 3).trans rfl; have hcz19_4 : w18.cell? ⟨gb311, 4, none⟩ = some (.int .i64 a0_4) := (blk_cell BK311.out 4).trans rfl; have hcz19_5 : w18.cell? ⟨gb311, 5, none⟩ = some (.int .i64 a0_5) := (blk_cell BK311.out 5).trans rfl; have hcz19_6 : w18.cell? ⟨gb311, 6, none⟩ = some (.slice A0_6 l0_6.length c0_6) := (blk_cell BK311.out 6).trans rfl; have hfz19_0 := blk_frozen BK311.out 0; have hfz19_1 := blk_frozen BK311.out 1; have hfz19_2 := blk_frozen BK311.out 2; have hfz19_3 := blk_frozen BK311.out 3; have hfz19_4 := blk_frozen BK311.out 4; have hfz19_5 := blk_frozen BK311.out 5; have hfz19_6 := blk_frozen BK311.out 6) | (go_at_call 13; (with_reducible refine (sashref05_Depth.calls k a0_0 a0_1 a0_2 a0_3 a0_4 a0_5 _ _ l0_6 t315 _ ?side1 ?side2 A12.out).mono ?_); (case side1 => repeat (first | exact (Kd.C_below HR0_6.out (by repeat (first | (with_reducible first | exact HB.out | apply below_alloc | apply pw_below_drewN | apply below_drew1 | refine below_set ?_ GE311.out) | exact HB.out))) | (with_reducible refine Kd.C_alloc ?_ _) | (with_reducible refine Kd.C_drewN ?_ _) | (with_reducible refine Kd.C_drew ?_))); (case side2 => exact HC0_6.out); rintro e w20 ⟨rfl, hb⟩; have n0_ := Aside0.mk (blk_below (g := gb311) (o := .cells #[.int .u8 a0_0, .int .i64 a0_1, .int .i64 a0_2, .int .i64 a0_3, .int .i64 a0_4, .int .i64 a0_5, .slice A0_6 l0_6.length c0_6] 30 (0, 0)) (by (with_reducible repeat (first | refine blk_drewN ?_ _ | refine blk_drew ?_ | refine blk_alloc ?_ _)); exact BK311.out) hb); have n1_ := Aside0.mk (below_step (by repeat (first | (with_reducible first | exact HB.out | apply below_alloc | apply pw_below_drewN | apply below_drew1 | refine below_set ?_ GE311.out) | exact HB.out)) hb); clear BK311; clear HB; have BK311 := n0_; have HB := n1_; clear n0_ n1_; (try clear hb); (try clear hb2); (try clear hk); (try clear hi)))
    go_ret2
    exact ⟨by first | rfl | (simp [errW_none, errW_some] <;> rfl) | (simp [*, errW_none, errW_some] <;> rfl), by repeat (first | (with_reducible first | exact HB.out | apply below_alloc | apply pw_below_drewN | apply below_drew1 | refine below_set ?_ GE311.out) | exact HB.out)⟩
   ·rw [if_neg c13] at H
    have c13b0 : decide (1000 < t315) = false := decide_eq_false c13
    clear c13
    simp only [Option.some.injEq, Prod.mk.injEq] at H
    obtain ⟨rfl, rfl⟩ := H
    go_enter Tryz.func6, Tryz.ntmps6
    go_wp2_with (first | ((with_reducible refine gate_dst (N := 1) rfl ?_); refine box_event ?hg (N := 1) ?hd (cs := #[.int .u8 a0_0, .int .i64 a0_1, .int .i64 a0_2, .int .i64 a0_3, .int .i64 a0_4, .int .i64 a0_5, .slice A0_6 l0_6.length c0_6]) (t := 30) ?hr ?_; (case hd => rfl); (case hg => rfl); (case hr => first | (go_simp; done) | (go_simp; rfl)); intro gb311 hg w21 hbox hb; have n0_ := Aside0.mk (below_step (by repeat (first | (with_reducible first | exact HB.out | apply below_alloc | apply pw_below_drewN | apply below_drew1) | exact HB.out)) hb); have n1_ := Aside0.mk (hbox); have n2_ := Aside0.mk ((by rw [hg]; exact (below_size (by repeat (first | (with_reducible first | exact HB.out | apply below_alloc | apply pw_below_drewN | apply below_drew1) | exact HB.out))) : w.heap.size ≤ gb311)); have n3_ := Aside0.mk ((by rw [hg]; exact (below_size (by repeat (first | (with_reducible first | exact HB.out | apply below_alloc | apply pw_below_drewN | apply below_drew1) | exact HB.out))) : w.heap.size ≤ gb311)); clear HB; have HB := n0_; have BK311 := n1_; have GW311 := n2_; have GE311 := n3_; clear n0_ n1_ n2_ n3_; clear hb hbox hg; have hcz22_0 : w21.cell? ⟨gb311, 0, none⟩ = some (.int .u8 a0_0) := (blk_cell BK311.out 0).trans rfl; have hcz22_1 : w21.cell? ⟨gb311, 1, none⟩ = some (.int .i64 a0_1) := (blk_cell BK311.out 1).trans rfl; have hcz22_2 : w21.cell? ⟨gb311, 2, none⟩ = some (.int .i64 a0_2) := (blk_cell BK311.out 2).trans rfl; have hcz22_3 : w21.cell? ⟨gb311, 3, none⟩ = some (.int .i64 a0_3) := (blk_cell BK311.out 3).trans rfl; have hcz22_4 : w21.cell? ⟨gb311, 4, none⟩ = some (.int .i64 a0_4) := (blk_cell BK311.out 4).trans rfl; have hcz22_5 : w21.cell? ⟨gb311, 5, none⟩ = some (.int .i64 a0_5) := (blk_cell BK311.out 5).trans rfl; have hcz22_6 : w21.cell? ⟨gb311, 6, none⟩ = some (.slice A0_6 l0_6.length c0_6) := (blk_cell BK311.out 6).trans rfl; have hfz22_0 := blk_frozen BK311.out 0; have hfz22_1 := blk_frozen BK311.out 1; have hfz22_2 := blk_frozen BK311.out 2; have hfz22_3 := blk_frozen BK311.out 3; have hfz22_4 := blk_frozen BK311.out 4; have hfz22_5 := blk_frozen BK311.out 5; have hfz22_6 := blk_frozen BK311.out 6) | ((with_reducible refine gate_callee (f := 10) rfl ?_); refine goesL_ (some 6) rfl rfl Tryz.func10 (by kernel_rfl) rfl #[.agg #[.int .u8 a0_0, .int .i64 a0_1, .int .i64 a0_2, .int .i64 a0_3, .int .i64 a0_4, .int .i64 a0_5, .slice A0_6 l0_6.length c0_6]] rfl (by (try simp only [List.map_toArray, List.map_cons, List.map_nil]); first | done | rfl | (simp only [List.length_drop, List.length_take]; rfl)) ?_; (with_reducible refine (sashref06_Tiles.calls k a0_0 a0_1 a0_2 a0_3 a0_4 a0_5 _ _ l0_6 true _ ?side1 ?side2 A2.out).mono ?_); (case side1 => repeat (first | exact (Kd.C_below HR0_6.out HB.out) | (with_reducible refine Kd.C_alloc ?_ _) | (with_reducible refine Kd.C_drewN ?_ _) | (with_reducible refine Kd.C_drew ?_))); (case side2 => exact HC0_6.out); rintro e w23 ⟨rfl, hb⟩; refine ⟨_, rfl, ?_⟩; have n0_ := Aside0.mk (blk_below (g := gb311) (o := .cells #[.int .u8 a0_0, .int .i64 a0_1, .int .i64 a0_2, .int .i64 a0_3, .int .i64 a0_4, .int .i64 a0_5, .slice A0_6 l0_6.length c0_6] 30 (0, 0)) (by (with_reducible repeat (first | refine blk_drewN ?_ _ | refine blk_drew ?_ | refine blk_alloc ?_ _)); exact BK311.out) hb); have n1_ := Aside0.mk (below_step (by repeat (first | (with_reducible first | exact HB.out | apply below_alloc | apply pw_below_drewN | apply below_drew1 | refine below_set ?_ GE311.out) | exact HB.out)) hb); clear BK311; clear HB; have BK311 := n0_; have HB := n1_; clear n0_ n1_; (try clear hb); (try clear hb2); (try clear hk); (try clear hi); have hcz24_0 : w23.cell? ⟨gb311, 0, none⟩ = some (.int .u8 a0_0) := (blk_cell BK311.out 0).trans rfl; have hcz24_1 : w23.cell? ⟨gb311, 1, none⟩ = some (.int .i64 a0_1) := (blk_cell BK311.out 1).trans rfl; have hcz24_2 : w23.cell? ⟨gb311, 2, none⟩ = some (.int .i64 a0_2) := (blk_cell BK311.out 2).trans rfl; have hcz24_3 : w23.cell? ⟨gb311, 3, none⟩ = some (.int .i64 a0_3) := (blk_cell BK311.out 3).trans rfl; have hcz24_4 : w23.cell? ⟨gb311, 4, none⟩ = some (.int .i64 a0_4) := (blk_cell BK311.out 4).trans rfl; have hcz24_5 : w23.cell? ⟨gb311, 5, none⟩ = some (.int .i64 a0_5) := (blk_cell BK311.out 5).trans rfl; have hcz24_6 : w23.cell? ⟨gb311, 6, none⟩ = some (.slice A0_6 l0_6.length c0_6) := (blk_cell BK311.out 6).trans rfl; have hfz24_0 := blk_frozen BK311.out 0; have hfz24_1 := blk_frozen BK311.out 1; have hfz24_2 := blk_frozen BK311.out 2; have hfz24_3 := blk_frozen BK311.out 3; have hfz24_4 := blk_frozen BK311.out 4; have hfz24_5 := blk_frozen BK311.out 5; have hfz24_6 := blk_frozen BK311.out 6) | ((with_reducible refine gate_callee (f := 12) rfl ?_); refine goesL_ (some 9) rfl rfl Tryz.func12 (by kernel_rfl) rfl #[.agg #[.int .u8 a0_0, .int .i64 a0_1, .int .i64 a0_2, .int .i64 a0_3, .int .i64 a0_4, .int .i64 a0_5, .slice A0_6 l0_6.length c0_6]] rfl (by (try simp only [List.map_toArray, List.map_cons, List.map_nil]); first | done | rfl | (simp only [List.length_drop, List.length_take]; rfl)) ?_; (with_reducible refine (sashref10_Body.calls k a0_0 a0_1 a0_2 a0_3 a0_4 a0_5 _ _ l0_6 t313 _ ?side1 ?side2 A4.out).mono ?_); (case side1 => repeat (first | exact (Kd.C_below HR0_6.out HB.out) | (with_reducible refine Kd.C_alloc ?_ _) | (with_reducible refine Kd.C_drewN ?_ _) | (with_reducible refine Kd.C_drew ?_))); (case side2 => exact HC0_6.out); rintro e w25 ⟨rfl, hb⟩; refine ⟨_, rfl, ?_⟩; have n0_ := Aside0.mk (blk_below (g := gb311) (o := .cells #[.int .u8 a0_0, .int .i64 a0_1, .int .i64 a0_2, .int .i64 a0_3, .int .i64 a0_4, .int .i64 a0_5, .slice A0_6 l0_6.length c0_6] 30 (0, 0)) (by (with_reducible repeat (first | refine blk_drewN ?_ _ | refine blk_drew ?_ | refine blk_alloc ?_ _)); exact BK311.out) hb); have n1_ := Aside0.mk (below_step (by repeat (first | (with_reducible first | exact HB.out | apply below_alloc | apply pw_below_drewN | apply below_drew1 | refine below_set ?_ GE311.out) | exact HB.out)) hb); clear BK311; clear HB; have BK311 := n0_; have HB := n1_; clear n0_ n1_; (try clear hb); (try clear hb2); (try clear hk); (try clear hi)) | ((with_reducible refine gate_callee (f := 11) rfl ?_); refine goesL_ (some 10) rfl rfl Tryz.func11 (by kernel_rfl) rfl #[.string t313] rfl (by (try simp only [List.map_toArray, List.map_cons, List.map_nil]); first | done | rfl | (simp only [List.length_drop, List.length_take]; rfl)) ?_; (with_reducible refine (sashref02_Put.calls k t313 t314 _ A5.out).mono ?_); rintro e w' ⟨rfl, ⟨nd, rfl⟩⟩; refine ⟨_, rfl, ?_⟩; have hcz26_0 : w25.cell? ⟨gb311, 0, none⟩ = some (.int .u8 a0_0) := (blk_cell BK311.out 0).trans rfl; have hcz26_1 : w25.cell? ⟨gb311, 1, none⟩ = some (.int .i64 a0_1) := (blk_cell BK311.out 1).trans rfl; have hcz26_2 : w25.cell? ⟨gb311, 2, none⟩ = some (.int .i64 a0_2) := (blk_cell BK311.out 2).trans rfl; have hcz26_3 : w25.cell? ⟨gb311, 3, none⟩ = some (.int .i64 a0_3) := (blk_cell BK311.out 3).trans rfl; have hcz26_4 : w25.cell? ⟨gb311, 4, none⟩ = some (.int .i64 a0_4) := (blk_cell BK311.out 4).trans rfl; have hcz26_5 : w25.cell? ⟨gb311, 5, none⟩ = some (.int .i64 a0_5) := (blk_cell BK311.out 5).trans rfl; have hcz26_6 : w25.cell? ⟨gb311, 6, none⟩ = some (.slice A0_6 l0_6.length c0_6) := (blk_cell BK311.out 6).trans rfl; have hfz26_0 := blk_frozen BK311.out 0; have hfz26_1 := blk_frozen BK311.out 1; have hfz26_2 := blk_frozen BK311.out 2; have hfz26_3 := blk_frozen BK311.out 3; have hfz26_4 := blk_frozen BK311.out 4; have hfz26_5 := blk_frozen BK311.out 5; have hfz26_6 := blk_frozen BK311.out 6) | (go_at_call 13; (with_reducible refine (sashref05_Depth.calls k a0_0 a0_1 a0_2 a0_3 a0_4 a0_5 _ _ l0_6 t315 _ ?side1 ?side2 A12.out).mono ?_); (case side1 => repeat (first | exact (Kd.C_below HR0_6.out (by repeat (first | (with_reducible first | exact HB.out | apply below_alloc | apply pw_below_drewN | apply below_drew1 | refine below_set ?_ GE311.out) | exact HB.out))) | (with_reducible refine Kd.C_alloc ?_ _) | (with_reducible refine Kd.C_drewN ?_ _) | (with_reducible refine Kd.C_drew ?_))); (case side2 => exact HC0_6.out); rintro e w27 ⟨rfl, hb⟩; have n0_ := Aside0.mk (blk_below (g := gb311) (o := .cells #[.int .u8 a0_0, .int .i64 a0_1, .int .i64 a0_2, .int .i64 a0_3, .int .i64 a0_4, .int .i64 a0_5, .slice A0_6 l0_6.length c0_6] 30 (0, 0)) (by (with_reducible repeat (first | refine blk_drewN ?_ _ | refine blk_drew ?_ | refine blk_alloc ?_ _)); exact BK311.out) hb); have n1_ := Aside0.mk (below_step (by repeat (first | (with_reducible first | exact HB.out | apply below_alloc | apply pw_below_drewN | apply below_drew1 | refine below_set ?_ GE311.out) | exact HB.out)) hb); clear BK311; clear HB; have BK311 := n0_; have HB := n1_; clear n0_ n1_; (try clear hb); (try clear hb2); (try clear hk); (try clear hi)))
    go_ret2
    exact ⟨by first | rfl | (simp [errW_none, errW_some] <;> rfl) | (simp [*, errW_none, errW_some] <;> rfl), by repeat (first | (with_reducible first | exact HB.out | apply below_alloc | apply pw_below_drewN | apply below_drew1 | refine below_set ?_ GE311.out) | exact HB.out)⟩
 ·replace c3 := Bool.eq_false_iff.mpr c3
  subst c3
  have H1 : (some ((⟨#[]⟩ : ByteArray), 1)) = some (r1, r2) := by rw [if_neg (show ¬ (false = true) by decide)] at H; exact H
  clear H
  have H := H1
  clear H1
  simp only [Option.some.injEq, Prod.mk.injEq] at H
  obtain ⟨rfl, rfl⟩ := H
  go_enter Tryz.func6, Tryz.ntmps6
  go_wp2_with (first | ((with_reducible refine gate_dst (N := 1) rfl ?_); refine box_event ?hg (N := 1) ?hd (cs := #[.int .u8 a0_0, .int .i64 a0_1, .int .i64 a0_2, .int .i64 a0_3, .int .i64 a0_4, .int .i64 a0_5, .slice A0_6 l0_6.length c0_6]) (t := 30) ?hr ?_; (case hd => rfl); (case hg => rfl); (case hr => first | (go_simp; done) | (go_simp; rfl)); intro gb311 hg w28 hbox hb; have n0_ := Aside0.mk (below_step (by repeat (first | (with_reducible first | exact HB.out | apply below_alloc | apply pw_below_drewN | apply below_drew1) | exact HB.out)) hb); have n1_ := Aside0.mk (hbox); have n2_ := Aside0.mk ((by rw [hg]; exact (below_size (by repeat (first | (with_reducible first | exact HB.out | apply below_alloc | apply pw_below_drewN | apply below_drew1) | exact HB.out))) : w.heap.size ≤ gb311)); have n3_ := Aside0.mk ((by rw [hg]; exact (below_size (by repeat (first | (with_reducible first | exact HB.out | apply below_alloc | apply pw_below_drewN | apply below_drew1) | exact HB.out))) : w.heap.size ≤ gb311)); clear HB; have HB := n0_; have BK311 := n1_; have GW311 := n2_; have GE311 := n3_; clear n0_ n1_ n2_ n3_; clear hb hbox hg; have hcz29_0 : w28.cell? ⟨gb311, 0, none⟩ = some (.int .u8 a0_0) := (blk_cell BK311.out 0).trans rfl; have hcz29_1 : w28.cell? ⟨gb311, 1, none⟩ = some (.int .i64 a0_1) := (blk_cell BK311.out 1).trans rfl; have hcz29_2 : w28.cell? ⟨gb311, 2, none⟩ = some (.int .i64 a0_2) := (blk_cell BK311.out 2).trans rfl; have hcz29_3 : w28.cell? ⟨gb311, 3, none⟩ = some (.int .i64 a0_3) := (blk_cell BK311.out 3).trans rfl; have hcz29_4 : w28.cell? ⟨gb311, 4, none⟩ = some (.int .i64 a0_4) := (blk_cell BK311.out 4).trans rfl; have hcz29_5 : w28.cell? ⟨gb311, 5, none⟩ = some (.int .i64 a0_5) := (blk_cell BK311.out 5).trans rfl; have hcz29_6 : w28.cell? ⟨gb311, 6, none⟩ = some (.slice A0_6 l0_6.length c0_6) := (blk_cell BK311.out 6).trans rfl; have hfz29_0 := blk_frozen BK311.out 0; have hfz29_1 := blk_frozen BK311.out 1; have hfz29_2 := blk_frozen BK311.out 2; have hfz29_3 := blk_frozen BK311.out 3; have hfz29_4 := blk_frozen BK311.out 4; have hfz29_5 := blk_frozen BK311.out 5; have hfz29_6 := blk_frozen BK311.out 6) | ((with_reducible refine gate_callee (f := 10) rfl ?_); refine goesL_ (some 6) rfl rfl Tryz.func10 (by kernel_rfl) rfl #[.agg #[.int .u8 a0_0, .int .i64 a0_1, .int .i64 a0_2, .int .i64 a0_3, .int .i64 a0_4, .int .i64 a0_5, .slice A0_6 l0_6.length c0_6]] rfl (by (try simp only [List.map_toArray, List.map_cons, List.map_nil]); first | done | rfl | (simp only [List.length_drop, List.length_take]; rfl)) ?_; (with_reducible refine (sashref06_Tiles.calls k a0_0 a0_1 a0_2 a0_3 a0_4 a0_5 _ _ l0_6 false _ ?side1 ?side2 A2.out).mono ?_); (case side1 => repeat (first | exact (Kd.C_below HR0_6.out HB.out) | (with_reducible refine Kd.C_alloc ?_ _) | (with_reducible refine Kd.C_drewN ?_ _) | (with_reducible refine Kd.C_drew ?_))); (case side2 => exact HC0_6.out); rintro e w30 ⟨rfl, hb⟩; refine ⟨_, rfl, ?_⟩; have n0_ := Aside0.mk (blk_below (g := gb311) (o := .cells #[.int .u8 a0_0, .int .i64 a0_1, .int .i64 a0_2, .int .i64 a0_3, .int .i64 a0_4, .int .i64 a0_5, .slice A0_6 l0_6.length c0_6] 30 (0, 0)) (by (with_reducible repeat (first | refine blk_drewN ?_ _ | refine blk_drew ?_ | refine blk_alloc ?_ _)); exact BK311.out) hb); have n1_ := Aside0.mk (below_step (by repeat (first | (with_reducible first | exact HB.out | apply below_alloc | apply pw_below_drewN | apply below_drew1 | refine below_set ?_ GE311.out) | exact HB.out)) hb); clear BK311; clear HB; have BK311 := n0_; have HB := n1_; clear n0_ n1_; (try clear hb); (try clear hb2); (try clear hk); (try clear hi)))
  go_ret2
  exact ⟨by first | rfl | (simp [errW_none, errW_some] <;> rfl) | (simp [*, errW_none, errW_some] <;> rfl), by repeat (first | (with_reducible first | exact HB.out | apply below_alloc | apply pw_below_drewN | apply below_drew1 | refine below_set ?_ GE311.out) | exact HB.out)⟩



end Go.Proofs.YtakhnigalkjhhaaGreatDoor.PPrintFits
