/- Printed texts of this seat, cut to what is used. -/
import Derived.Test.YtkobpbbegalfpaaGreatDoorMac
import Derived.Test.YtkobpbbegalfpaaGreatDoorPParseBodiesx0
import Derived.Test.YtkobpbbegalfpaaGreatDoorNumReadP
import Derived.Test.YtkobpbbegalfpaaGreatDoorPParseBodiesx13
namespace Go.Proofs.YtkobpbbegalfpaaGreatDoor.PParseBodies
open Go.RowKit Go.Proofs.YtkobpbbegalfpaaGreatDoorW.PrintWords Go.Proofs.YtkobpbbegalfpaaGreatDoorW.PrintLast Go.Proofs.YtkobpbbegalfpaaGreatDoorW.PrintMore
attribute [local go_sem] max2_int min2_int max_two min_two max_three min_three max_four min_four   -- for this text's walks alone
set_option linter.unusedVariables false
set_option linter.unusedSimpArgs false





mutual
def cell_Leaves.l0 : Nat → List Int → List (S27) → Int → Int → Option (List Int)
 | 0, _, _, _, _ => none
 | k + 1, x3, x6, x7, x8 => if x8 < x7 then (if 0 ≤ x8 then (if x8 < (x6.length : Int) then (if ((rd_T27 x6 x8).f0) = 1 then (if x3.length < 17592186044416 then ((some (x3 ++ [(rd_T27 x6 x8).f2] : List Int)).bind fun y154 => ((cell_Leaves.f k ((rd_T27 x6 x8).f3)).bind fun t157 => (if y154.length + t157.length < 17592186044416 then (cell_Leaves.l0 k (y154 ++ t157) x6 x7 (wrap64 (x8 + 1))) else (none)))) else (none)) else ((cell_Leaves.f k ((rd_T27 x6 x8).f3)).bind fun t163 => (if x3.length + t163.length < 17592186044416 then (cell_Leaves.l0 k (x3 ++ t163) x6 x7 (wrap64 (x8 + 1))) else (none)))) else (none)) else (none)) else (some x3)
def cell_Leaves.f : Nat → List (S27) → Option (List Int)
 | 0, _ => none
 | k + 1, l0 => cell_Leaves.l0 k ([] : List Int) l0 (l0.length : Int) 0
end
theorem cell_Leaves.mono_l : ∀ k, (∀ y0, LeO (cell_Leaves.f k y0) (cell_Leaves.f (k + 1) y0)) ∧ (∀ y0 y1 y2 y3, LeO (cell_Leaves.l0 k y0 y1 y2 y3) (cell_Leaves.l0 (k + 1) y0 y1 y2 y3))
 | 0 => ⟨fun _ r h => by simp [cell_Leaves.f] at h, fun _ _ _ _ r h => by simp [cell_Leaves.l0] at h⟩
 | k + 1 => by
  obtain ⟨ih0, ih1⟩ := cell_Leaves.mono_l k
  refine ⟨?_, ?_⟩
  ·intro y0
   unfold cell_Leaves.f
   repeat' first
   | (with_reducible exact ih0 _)
   | (with_reducible exact ih1 _ _ _ _)
   | (with_reducible exact LeO.refl _)
   | (with_reducible exact LeO.none _)
   | (with_reducible refine LeO.ite ?_ ?_)
   | (with_reducible refine LeO.bind ?_ (fun _ => ?_))
   | exact ih0 _
   | exact ih1 _ _ _ _
   | exact LeO.none _
   | refine LeO.ite ?_ ?_
   | refine LeO.bind ?_ (fun _ => ?_)
  ·intro y0 y1 y2 y3
   unfold cell_Leaves.l0
   repeat' first
   | (with_reducible exact ih0 _)
   | (with_reducible exact ih1 _ _ _ _)
   | (with_reducible exact LeO.refl _)
   | (with_reducible exact LeO.none _)
   | (with_reducible refine LeO.ite ?_ ?_)
   | (with_reducible refine LeO.bind ?_ (fun _ => ?_))
   | exact ih0 _
   | exact ih1 _ _ _ _
   | exact LeO.none _
   | refine LeO.ite ?_ ?_
   | refine LeO.bind ?_ (fun _ => ?_)
set_option maxHeartbeats 8000000 in
set_option maxRecDepth 100000 in
theorem cell_Leaves.calls (k : Nat) : ∀ (A0 : Option Addr) (c0 : Nat) (l0 : List (S27)) (r : List Int) (w : World) (hr0 : Kd.C k27 w A0 l0.length l0) (hc0 : l0.length ≤ c0) (h : cell_Leaves.f k l0 = some r),
  Calls Tryz.prog 34 #[.slice A0 l0.length c0] w fun e w' => ∃ v0_ : Value, e = .returned (v0_) ∧ Kd.R (Kd.int .i64) 3 w' w.heap.size (fun _ => True) v0_ r ∧ Below w.heap.size w w' := by
 induction k using Nat.strongRecOn with
 | _ k ih =>
 intro A0 c0 l0 r w hr0 hc0 h
 cases k with
 | zero => exact absurd h (by simp [cell_Leaves.f])
 | succ k =>
 simp only [cell_Leaves.f] at h
 have hu27 := Tryz.underlying27
 have HR0 := Aside0.mk hr0
 have HC0 := Aside0.mk hc0
 clear hr0 hc0
 have HB := Aside0.mk (Below.refl w.heap.size w)
 have H : (cell_Leaves.l0 k ([] : List Int) l0 (l0.length : Int) 0) = some r := h
 clear h
 have H' := Aside0.mk H
 clear H
 go_enter Tryz.func34, Tryz.ntmps34
 go_wp2
 go_loopg [3, 8] k (fun kq v3 v8 w' => ∃ (x3_1 : List Int) (x8_1 : Int), v8 = .int .i64 x8_1 ∧ Aside0 (cell_Leaves.l0 kq x3_1 l0 (l0.length : Int) x8_1 = some r) ∧ Aside0 (kq ≤ k) ∧ Aside0 (Kd.R (Kd.int .i64) 3 w' w.heap.size (fun _ => True) v3 x3_1) ∧ Aside0 (Below w.heap.size w w'))
 case atStart => exact ⟨(([] : List Int)), (0), mq39, H', ⟨Nat.le_refl _⟩, ⟨mq35⟩, ⟨kW⟩⟩
 case round =>
  clear H'
  obtain ⟨x3_1, x8_1, rfl, HA, HK1, HO_3, HB⟩ := hrel
  cases gk with
  | zero => exact absurd HA.out (by simp [cell_Leaves.l0])
  | succ k1 =>
   have H := HA.out
   clear HA
   simp only [cell_Leaves.l0] at H
   by_cases c2 : x8_1 < (l0.length : Int)
   ·rw [if_pos c2] at H
    have c2b0 : decide (x8_1 < (l0.length : Int)) = true := decide_eq_true c2
    clear c2
    by_cases c3 : 0 ≤ x8_1
    ·rw [if_pos c3] at H
     have c3b0 : decide (0 ≤ x8_1) = true := decide_eq_true c3
     clear c3
     by_cases c4 : x8_1 < (l0.length : Int)
     ·rw [if_pos c4] at H
      have c4b0 : decide (x8_1 < (l0.length : Int)) = true := decide_eq_true c4
      clear c4
      by_cases c5 : ((rd_T27 l0 x8_1).f0) = 1
      ·rw [if_pos c5] at H
       have c5b0 : (((rd_T27 l0 x8_1).f0) == 1) = true := beq_iff_eq.mpr c5
       have c5b1 : (((rd_T27 l0 x8_1).f0) != 1) = false := bne_eq_false_iff_eq.mpr c5
       clear c5
       by_cases c6 : x3_1.length < 17592186044416
       ·rw [if_pos c6] at H
        have LMc6 := Aside0.mk c6
        clear c6
        obtain ⟨y154, hy154⟩ : ∃ y_ : List Int, y_ = (x3_1 ++ [(rd_T27 l0 x8_1).f2]) := ⟨_, rfl⟩
        replace H : ((cell_Leaves.f k1 ((rd_T27 l0 x8_1).f3)).bind fun t157 => (if y154.length + t157.length < 17592186044416 then (cell_Leaves.l0 k1 (y154 ++ t157) l0 (l0.length : Int) (wrap64 (x8_1 + 1))) else (none))) = some r := mq33 hy154
        have Ny154 := Aside0.mk hy154
        clear hy154
        replace H := Option.bind_eq_some_iff.mp H
        obtain ⟨t157, A70, H⟩ := H
        replace H : (if y154.length + t157.length < 17592186044416 then (cell_Leaves.l0 k1 (y154 ++ t157) l0 (l0.length : Int) (wrap64 (x8_1 + 1))) else (none)) = some r := H
        have A7 := Aside0.mk A70
        clear A70
        by_cases c8 : y154.length + t157.length < 17592186044416
        ·rw [if_pos c8] at H
         have LMc8 := Aside0.mk c8
         clear c8
         obtain ⟨y160, hy160⟩ : ∃ y_ : List Int, y_ = (y154 ++ t157) := ⟨_, rfl⟩
         replace H : (cell_Leaves.l0 k1 y160 l0 (l0.length : Int) (wrap64 (x8_1 + 1))) = some r := mq33 hy160
         have Ny160 := Aside0.mk hy160
         clear hy160
         have H' := Aside0.mk H
         clear H
         have p152 : 0 ≤ (x8_1 : Int) := of_decide_eq_true mq34
         have q152 : x8_1 < (l0.length : Int) := of_decide_eq_true mq34
         obtain ⟨ad152, A152_6, c152_6, e152, hx152_0, hx152_1, hx152_2, hx152_3, hx152_4, hx152_5, hx152_6, HC152_6, HR152_6⟩ := elC27 HB HR0 x8_1 p152 q152
         cases e152
         replace p152 := eq_true p152
         replace q152 := eq_true q152
         go_wp2_with (first | ((with_reducible refine gate_dst (N := 5) rfl ?_); refine bxe 5 #[.int .u8 0, .int .i64 0, .int .i64 0, .int .i64 0, .int .i64 0, .int .i64 0, .slice none 0 0] 27 (h := ?_); intro gb153 hg w9 hbox hb; replace HO_3 := Aside0.mk (Kd.R_below (kR HO_3) hb); have BK153 := Aside0.mk (hbox); have GW153 := Aside0.mk ((mq53 : w.heap.size ≤ gb153)); have GE153 := Aside0.mk ((mq53 : w.heap.size ≤ gb153)); replace HB := Aside0.mk (below_step kW hb); clear hb hbox hg; obtain ⟨hcz10_0, hcz10_1, hcz10_2, hcz10_3, hcz10_4, hcz10_5, hcz10_6⟩ := cz7 BK153; obtain ⟨hfz10_0, hfz10_1, hfz10_2, hfz10_3, hfz10_4, hfz10_5, hfz10_6⟩ := fz7 BK153) | ((with_reducible refine gate_builtin (b := .append) (xs := #[.tmp 15, .tmp 18]) rfl ?_); at_builtin; refine Kd.R_append (Kd.int .i64) (w0 := w) w.heap.size rfl (.tmp 15) (.tmp 18) 45 3 (.int .i64 0) 8 rfl Tryz.underlying45 info3 rfl (by decide) (by omega) u3 x3_1 ((rd_T27 l0 x8_1).f2) [.int .i64 ((rd_T27 l0 x8_1).f2)] (fun _ => True) (fun _ => False) rfl mq31 ?aP (fun _ hk => hk.elim) ?aF ?aO ?aB ?aS ?aL ?_; (case aP => exact rfl); (case aB => exact kW); (case aF => exact (fun _ _ => trivial)); (case aO => exact (by (with_reducible repeat (first | apply Kd.R_alloc | apply Kd.R_drewN | apply Kd.R_drew)); exact Kd.R_mono (rf7 (g := gb153) (Kd.R_types HO_3.out BK153.out (by decide)) (fun _ hk => hk.2)) (fun _ hk => trivial))); (case aS => exact (below_size kW)); (case aL => have := LMc6.out; omega); intro v155 w11 ho hb hg hat; rw [← Ny154.out] at ho; replace BK153 := Aside0.mk (blk_grown (g := gb153) (o := .cells #[.int .u8 ((rd_T27 l0 x8_1).f0), .int .i64 ((rd_T27 l0 x8_1).f1.f0), .int .i64 ((rd_T27 l0 x8_1).f1.f1), .int .i64 ((rd_T27 l0 x8_1).f1.f2), .int .i64 ((rd_T27 l0 x8_1).f1.f3), .int .i64 ((rd_T27 l0 x8_1).f2), .slice A152_6 ((rd_T27 l0 x8_1).f3).length c152_6] 27 (0, 0)) (kP7 BK153) hg (Kd.R_ne HO_3.out BK153.out (by decide))); replace HB := Aside0.mk (hb); have HO156 := Aside0.mk (ho); clear HO_3; clear ho hb hg hat; obtain ⟨hcz12_0, hcz12_1, hcz12_2, hcz12_3, hcz12_4, hcz12_5, hcz12_6⟩ := cz7 BK153; obtain ⟨hfz12_0, hfz12_1, hfz12_2, hfz12_3, hfz12_4, hfz12_5, hfz12_6⟩ := fz7 BK153) | ((with_reducible refine gate_callee (f := 34) rfl ?_); refine gol (some 23) Tryz.func34 #[.slice A152_6 ((rd_T27 l0 x8_1).f3).length c152_6] (h := ?_); (with_reducible refine (ih k1 (mq47 HK1) _ _ ((rd_T27 l0 x8_1).f3) t157 _ ?side1 ?side2 A7.out).mono ?_); (case side1 => repeat (first | exact (Kd.C_below HR152_6.out HB.out) | (with_reducible refine Kd.C_alloc ?_ _) | (with_reducible refine Kd.C_drewN ?_ _) | (with_reducible refine Kd.C_drew ?_))); (case side2 => exact HC152_6.out); rintro e w13 ⟨v158, rfl, ho0, hb⟩; refine ⟨_, rfl, ?_⟩; have HO159 := Aside0.mk (Kd.R_lower (Kd.R_new' ho0 (Kd.R_lt (kR HO156))) (below_size kW)); replace HO156 := Aside0.mk (Kd.R_elder' (kR HO156) (Kd.R_base ho0) hb); replace BK153 := (kB BK153 hb); replace HB := Aside0.mk (below_step kW hb); (try clear hb); (try clear hb2); (try clear hk); (try clear hi); (try clear ho0); obtain ⟨Ao15, co15, eo15⟩ := Kd.R_slice HO159.out; subst eo15) | ((with_reducible refine gate_builtin (b := .append) (xs := #[.tmp 20, .tmp 23]) rfl ?_); at_builtin; refine Kd.R_append_rows (Kd.int .i64) (w0 := w) w.heap.size rfl (.tmp 20) (.tmp 23) 45 3 (.int .i64 0) 8 rfl Tryz.underlying45 info3 rfl (by decide) (by omega) v155 y154 t157 _ _ _ (fun k_ => some k_ ≠ (.slice Ao15 t157.length co15 : Value).ownBlock) (fun _ => False) rfl rfl ?aO ?aR (fun _ _ h => h) (fun _ h => h.elim) ?aF ?aB ?aS ?aL ?_; (case aR => repeat (first | exact (Kd.R_reads' HO159.out).2.2 | (with_reducible refine Kd.C_alloc ?_ _) | (with_reducible refine Kd.C_drewN ?_ _) | (with_reducible refine Kd.C_drew ?_))); (case aB => exact kW); (case aF => exact (fun k_ hk => Kd.fresh' (Kd.R_lt (kR HO159)) k_ hk)); (case aO => exact (mq15 HO156)); (case aS => exact (below_size kW)); (case aL => have := LMc8.out; omega); intro v161 w14 ho hb hg hat; rw [← Ny160.out] at ho; replace BK153 := (kG BK153 hg (Kd.R_ne HO156.out BK153.out (by decide))); replace HO159 := Aside0.mk (Kd.R_after (ok := (fun _ => True)) (kR HO159) hg hat); replace HB := Aside0.mk (hb); have HO162 := Aside0.mk (ho); clear HO156; clear ho hb hg hat))
         go_roundg k1
         case measure => have := HK1.out; omega
         case rel => exact ⟨(y160), (wrap64 (x8_1 + 1)), mq39, H', ⟨mq47 HK1⟩, ⟨mq16 HO162⟩, ⟨kW⟩⟩
        ·rw [if_neg c8] at H
         exact absurd H (by simp)
       ·rw [if_neg c6] at H
        exact absurd H (by simp)
      ·rw [if_neg c5] at H
       have c5b0 : (((rd_T27 l0 x8_1).f0) == 1) = false := beq_eq_false_iff_ne.mpr c5
       have c5b1 : (((rd_T27 l0 x8_1).f0) != 1) = true := bne_iff_ne.mpr c5
       replace H := Option.bind_eq_some_iff.mp H
       obtain ⟨t163, A160, H⟩ := H
       replace H : (if x3_1.length + t163.length < 17592186044416 then (cell_Leaves.l0 k1 (x3_1 ++ t163) l0 (l0.length : Int) (wrap64 (x8_1 + 1))) else (none)) = some r := H
       have A16 := Aside0.mk A160
       clear A160
       by_cases c17 : x3_1.length + t163.length < 17592186044416
       ·rw [if_pos c17] at H
        have LMc17 := Aside0.mk c17
        clear c17
        obtain ⟨y166, hy166⟩ : ∃ y_ : List Int, y_ = (x3_1 ++ t163) := ⟨_, rfl⟩
        replace H : (cell_Leaves.l0 k1 y166 l0 (l0.length : Int) (wrap64 (x8_1 + 1))) = some r := mq33 hy166
        have Ny166 := Aside0.mk hy166
        clear hy166
        have H' := Aside0.mk H
        clear H
        have p152 : 0 ≤ (x8_1 : Int) := of_decide_eq_true mq34
        have q152 : x8_1 < (l0.length : Int) := of_decide_eq_true mq34
        obtain ⟨ad152, A152_6, c152_6, e152, hx152_0, hx152_1, hx152_2, hx152_3, hx152_4, hx152_5, hx152_6, HC152_6, HR152_6⟩ := elC27 HB HR0 x8_1 p152 q152
        cases e152
        replace p152 := eq_true p152
        replace q152 := eq_true q152
        go_wp2_with (first | ((with_reducible refine gate_dst (N := 5) rfl ?_); refine bxe 5 #[.int .u8 0, .int .i64 0, .int .i64 0, .int .i64 0, .int .i64 0, .int .i64 0, .slice none 0 0] 27 (h := ?_); intro gb153 hg w18 hbox hb; replace HO_3 := Aside0.mk (Kd.R_below (kR HO_3) hb); have BK153 := Aside0.mk (hbox); have GW153 := Aside0.mk ((mq53 : w.heap.size ≤ gb153)); have GE153 := Aside0.mk ((mq53 : w.heap.size ≤ gb153)); replace HB := Aside0.mk (below_step kW hb); clear hb hbox hg; obtain ⟨hcz19_0, hcz19_1, hcz19_2, hcz19_3, hcz19_4, hcz19_5, hcz19_6⟩ := cz7 BK153; obtain ⟨hfz19_0, hfz19_1, hfz19_2, hfz19_3, hfz19_4, hfz19_5, hfz19_6⟩ := fz7 BK153) | ((with_reducible refine gate_callee (f := 34) rfl ?_); refine gol (some 23) Tryz.func34 #[.slice A152_6 ((rd_T27 l0 x8_1).f3).length c152_6] (h := ?_); (with_reducible refine (ih k1 (mq47 HK1) _ _ ((rd_T27 l0 x8_1).f3) t163 _ ?side1 ?side2 A16.out).mono ?_); (case side1 => exact Kd.C_below HR152_6.out kW); (case side2 => exact HC152_6.out); rintro e w20 ⟨v164, rfl, ho0, hb⟩; refine ⟨_, rfl, ?_⟩; have HO165 := Aside0.mk (Kd.R_lower (Kd.R_new' ho0 (Kd.R_lt (mq8 HO_3 BK153))) (below_size kW)); replace HO_3 := Aside0.mk (Kd.R_elder' (mq8 HO_3 BK153) (Kd.R_base ho0) hb); replace BK153 := Aside0.mk (blk_below (g := gb153) (o := .cells #[.int .u8 ((rd_T27 l0 x8_1).f0), .int .i64 ((rd_T27 l0 x8_1).f1.f0), .int .i64 ((rd_T27 l0 x8_1).f1.f1), .int .i64 ((rd_T27 l0 x8_1).f1.f2), .int .i64 ((rd_T27 l0 x8_1).f1.f3), .int .i64 ((rd_T27 l0 x8_1).f2), .slice A152_6 ((rd_T27 l0 x8_1).f3).length c152_6] 27 (0, 0)) (kP7 BK153) hb); replace HB := Aside0.mk (below_step kW hb); (try clear hb); (try clear hb2); (try clear hk); (try clear hi); (try clear ho0); obtain ⟨Ao22, co22, eo22⟩ := Kd.R_slice HO165.out; subst eo22) | ((with_reducible refine gate_builtin (b := .append) (xs := #[.tmp 20, .tmp 23]) rfl ?_); at_builtin; refine Kd.R_append_rows (Kd.int .i64) (w0 := w) w.heap.size rfl (.tmp 20) (.tmp 23) 45 3 (.int .i64 0) 8 rfl Tryz.underlying45 info3 rfl (by decide) (by omega) u3 x3_1 t163 _ _ _ (fun k_ => some k_ ≠ (.slice Ao22 t163.length co22 : Value).ownBlock) (fun _ => False) rfl rfl ?aO ?aR (fun _ _ h => h) (fun _ h => h.elim) ?aF ?aB ?aS ?aL ?_; (case aR => repeat (first | exact (Kd.R_reads' HO165.out).2.2 | (with_reducible refine Kd.C_alloc ?_ _) | (with_reducible refine Kd.C_drewN ?_ _) | (with_reducible refine Kd.C_drew ?_))); (case aB => exact kW); (case aF => exact (fun k_ hk => Kd.fresh' (Kd.R_lt (kR HO165)) k_ hk)); (case aO => exact (mq15 HO_3)); (case aS => exact (below_size kW)); (case aL => have := LMc17.out; omega); intro v167 w21 ho hb hg hat; rw [← Ny166.out] at ho; replace BK153 := (kG BK153 hg (Kd.R_ne HO_3.out BK153.out (by decide))); replace HO165 := Aside0.mk (Kd.R_after (ok := (fun _ => True)) (kR HO165) hg hat); replace HB := Aside0.mk (hb); have HO168 := Aside0.mk (ho); clear HO_3; clear ho hb hg hat))
        go_roundg k1
        case measure => have := HK1.out; omega
        case rel => exact ⟨(y166), (wrap64 (x8_1 + 1)), mq39, H', ⟨mq47 HK1⟩, ⟨mq16 HO168⟩, ⟨kW⟩⟩
       ·rw [if_neg c17] at H
        exact absurd H (by simp)
     ·rw [if_neg c4] at H
      exact absurd H (by simp)
    ·rw [if_neg c3] at H
     exact absurd H (by simp)
   ·rw [if_neg c2] at H
    have c2b0 : decide (x8_1 < (l0.length : Int)) = false := decide_eq_false c2
    clear c2
    obtain rfl := Option.some.inj H
    go_wp2
    go_ret
    exact ⟨_, mq37, mq24 HO_3, kW⟩


def sashref05_IDs.l0 : Nat → List Int → List (S27) → Int → Int → Option (List Int)
 | 0, _, _, _, _ => none
 | k + 1, x3, x4, x10, x11 => if x11 < x10 then (if 0 ≤ x11 then (if x11 < (x4.length : Int) then (if x3.length < 17592186044416 then (sashref05_IDs.l0 k (x3 ++ [(rd_T27 x4 x11).f2]) x4 x10 (wrap64 (x11 + 1))) else (none)) else (none)) else (none)) else (some x3)
def sashref05_IDs.f (k : Nat) (a0_0 : Int) (a0_1 : Int) (a0_2 : Int) (a0_3 : Int) (a0_4 : Int) (a0_5 : Int) (l0_6 : List (S27)) : Option (List Int) := (sashref05_Leaves.f k a0_0 a0_1 a0_2 a0_3 a0_4 a0_5 l0_6).bind fun t466 => (sashref05_IDs.l0 k (([] : List Int)) t466 (t466.length : Int) 0)
set_option maxHeartbeats 8000000 in
set_option maxRecDepth 100000 in
theorem sashref05_IDs.calls (k : Nat) (a0_0 : Int) (a0_1 : Int) (a0_2 : Int) (a0_3 : Int) (a0_4 : Int) (a0_5 : Int) (A0_6 : Option Addr) (c0_6 : Nat) (l0_6 : List (S27)) (r : List Int) (w : World) (hr0_6 : Kd.C k27 w A0_6 l0_6.length l0_6) (hc0_6 : l0_6.length ≤ c0_6) (h : sashref05_IDs.f k a0_0 a0_1 a0_2 a0_3 a0_4 a0_5 l0_6 = some r) :
  Calls Tryz.prog 19 #[.agg #[.int .u8 a0_0, .int .i64 a0_1, .int .i64 a0_2, .int .i64 a0_3, .int .i64 a0_4, .int .i64 a0_5, .slice A0_6 l0_6.length c0_6]] w fun e w' => ∃ v0_ : Value, e = .returned (v0_) ∧ Kd.R (Kd.int .i64) 3 w' w.heap.size (fun _ => True) v0_ r ∧ Below w.heap.size w w' := by
 have hu27 := Tryz.underlying27
 have HR0_6 := Aside0.mk hr0_6
 have HC0_6 := Aside0.mk hc0_6
 clear hr0_6 hc0_6
 have HB := Aside0.mk (Below.refl w.heap.size w)
 have H : ((sashref05_Leaves.f k a0_0 a0_1 a0_2 a0_3 a0_4 a0_5 l0_6).bind fun t466 => (sashref05_IDs.l0 k (([] : List Int)) t466 (t466.length : Int) 0)) = some r := h
 clear h
 obtain ⟨y463, hy463⟩ : ∃ y_ : List Int, y_ = (([] : List Int)) := ⟨_, rfl⟩
 replace H : ((sashref05_Leaves.f k a0_0 a0_1 a0_2 a0_3 a0_4 a0_5 l0_6).bind fun t466 => (sashref05_IDs.l0 k y463 t466 (t466.length : Int) 0)) = some r := mq33 hy463
 have Ny463 := Aside0.mk hy463
 clear hy463
 replace H := Option.bind_eq_some_iff.mp H
 obtain ⟨t466, A20, H⟩ := H
 replace H : (sashref05_IDs.l0 k y463 t466 (t466.length : Int) 0) = some r := H
 have A2 := Aside0.mk A20
 clear A20
 have H' := Aside0.mk H
 clear H
 go_enter Tryz.func19, Tryz.ntmps19
 go_wp2_with (first | ((with_reducible refine gate_dst (N := 1) rfl ?_); refine bxe 1 #[.int .u8 a0_0, .int .i64 a0_1, .int .i64 a0_2, .int .i64 a0_3, .int .i64 a0_4, .int .i64 a0_5, .slice A0_6 l0_6.length c0_6] 27 (h := ?_); intro gb462 hg w3 hbox hb; have BK462 := Aside0.mk (hbox); have GW462 := Aside0.mk ((mq53 : w.heap.size ≤ gb462)); have GE462 := Aside0.mk ((mq53 : w.heap.size ≤ gb462)); replace HB := Aside0.mk (below_step kW hb); clear hb hbox hg) | ((with_reducible refine gate_dst (N := 6) rfl ?_); refine Kd.R_lit (Kd.int .i64) _ 3 ?hg (N := 6) ?hd (xs := ([] : List Int)) (inner := []) (ok := fun _ => True) (okp := fun _ => True) ?hr ?hp (fun _ hk => hk) trivial (Below.refl _ _) (Nat.le_refl _) (by simp) ?_; (case hd => rfl); (case hg => rfl); (case hr => first | (go_simp; done) | (go_simp; rfl)); (case hp => exact (Reps.none _ _)); intro v464 w4 ho5 hb hg_ hnew_; clear hg_ hnew_; (first | rw [← Ny463.out] at ho5 | (simp only [Int.reduceToNat] at ho5; rw [← Ny463.out] at ho5)); have HO465 := Aside0.mk (Kd.R_lower ho5 (below_size kW)); replace BK462 := (kB BK462 hb); replace HB := Aside0.mk (below_step kW hb); clear hb ho5; obtain ⟨hcz6_0, hcz6_1, hcz6_2, hcz6_3, hcz6_4, hcz6_5, hcz6_6⟩ := cz7 BK462; obtain ⟨hfz6_0, hfz6_1, hfz6_2, hfz6_3, hfz6_4, hfz6_5, hfz6_6⟩ := fz7 BK462) | ((with_reducible refine gate_callee (f := 36) rfl ?_); refine gol (some 8) Tryz.func36 #[.agg #[.int .u8 a0_0, .int .i64 a0_1, .int .i64 a0_2, .int .i64 a0_3, .int .i64 a0_4, .int .i64 a0_5, .slice A0_6 l0_6.length c0_6]] (h := ?_); (with_reducible refine (sashref05_Leaves.calls k a0_0 a0_1 a0_2 a0_3 a0_4 a0_5 (fun k_ => k_ < w.heap.size) _ _ l0_6 t466 _ ?side1 A2.out).mono ?_); (case side1 => exact Kd.V_mk HC0_6.out (Kd.F_below (Kd.C_F k27_heap HR0_6.out) kW)); rintro e w7 ⟨v467, rfl, ho0, hb⟩; refine ⟨_, rfl, ?_⟩; have HO468 := Aside0.mk (Kd.N_lower (Kd.N_mono (ok' := fun k_ => some k_ ≠ (v464 : Value).ownBlock ∧ k_ ≠ gb462) ho0 (fun k_ hk_ => ⟨Or.elim hk_ (fun hs_ => fun e_ => Nat.not_le.2 hs_ (Kd.R_base HO465.out k_ e_.symm)) (fun hn_ => (Kd.fresh' (Kd.R_lt (kR HO465)) k_ hn_)), Or.elim hk_ (fun hs_ => fun e_ => Nat.not_le.2 hs_ (by rw [e_]; exact GW462.out)) (fun hn_ => (Kd.freshB (g := gb462) (o := .cells #[.int .u8 a0_0, .int .i64 a0_1, .int .i64 a0_2, .int .i64 a0_3, .int .i64 a0_4, .int .i64 a0_5, .slice A0_6 l0_6.length c0_6] 27 (0, 0)) (kA BK462) k_ hn_))⟩)) (below_size kW)); replace HO465 := Aside0.mk (Kd.R_below (kR HO465) hb); replace BK462 := (kB BK462 hb); replace HB := Aside0.mk (below_step kW hb); (try clear hb); (try clear hb2); (try clear hk); (try clear hi); (try clear ho0); obtain ⟨Ao8, co8, eo8⟩ := Kd.N_slice HO468.out; subst eo8))
 go_loopg [3, 11] k (fun kq v3 v11 w' => ∃ (x3_1 : List Int) (x11_1 : Int), v11 = .int .i64 x11_1 ∧ Aside0 (sashref05_IDs.l0 kq x3_1 t466 (t466.length : Int) x11_1 = some r) ∧ Aside0 (kq ≤ k) ∧ Aside0 (Kd.R (Kd.int .i64) 3 w' w.heap.size (fun _ => True) v3 x3_1) ∧ Aside0 (Kd.N k27 27 w' w.heap.size (fun k_ => some k_ ≠ (v3 : Value).ownBlock ∧ k_ ≠ gb462) (.slice Ao8 t466.length co8) t466) ∧ Aside0 (w'.heap[gb462]? = some (.cells #[.int .u8 a0_0, .int .i64 a0_1, .int .i64 a0_2, .int .i64 a0_3, .int .i64 a0_4, .int .i64 a0_5, (.slice A0_6 l0_6.length c0_6)] 27 (0, 0))) ∧ Aside0 (Below w.heap.size w w'))
 case atStart => exact ⟨(y463), (0), mq39, H', ⟨Nat.le_refl _⟩, ⟨mq24 HO465⟩, ⟨mq5 HO468⟩, ⟨mq28 BK462⟩, ⟨kW⟩⟩
 case round =>
  clear H'
  clear hcz6_0 hcz6_1 hcz6_2 hcz6_3 hcz6_4 hcz6_5 hcz6_6 hfz6_0 hfz6_1 hfz6_2 hfz6_3 hfz6_4 hfz6_5 hfz6_6
  obtain ⟨x3_1, x11_1, rfl, HA, HK1, HO_3, HO_4, BK462, HB⟩ := hrel
  cases gk with
  | zero => exact absurd HA.out (by simp [sashref05_IDs.l0])
  | succ k1 =>
   have H := HA.out
   clear HA
   simp only [sashref05_IDs.l0] at H
   by_cases c9 : x11_1 < (t466.length : Int)
   ·rw [if_pos c9] at H
    have c9b0 : decide (x11_1 < (t466.length : Int)) = true := decide_eq_true c9
    clear c9
    by_cases c10 : 0 ≤ x11_1
    ·rw [if_pos c10] at H
     have c10b0 : decide (0 ≤ x11_1) = true := decide_eq_true c10
     clear c10
     by_cases c11 : x11_1 < (t466.length : Int)
     ·rw [if_pos c11] at H
      have c11b0 : decide (x11_1 < (t466.length : Int)) = true := decide_eq_true c11
      clear c11
      by_cases c12 : x3_1.length < 17592186044416
      ·rw [if_pos c12] at H
       have LMc12 := Aside0.mk c12
       clear c12
       obtain ⟨y470, hy470⟩ : ∃ y_ : List Int, y_ = (x3_1 ++ [(rd_T27 t466 x11_1).f2]) := ⟨_, rfl⟩
       replace H : (sashref05_IDs.l0 k1 y470 t466 (t466.length : Int) (wrap64 (x11_1 + 1))) = some r := mq33 hy470
       have Ny470 := Aside0.mk hy470
       clear hy470
       have H' := Aside0.mk H
       clear H
       have p469 : 0 ≤ (x11_1 : Int) := of_decide_eq_true mq34
       have q469 : x11_1 < (t466.length : Int) := of_decide_eq_true mq34
       obtain ⟨ad469, A469_6, c469_6, e469, hx469_0, hx469_1, hx469_2, hx469_3, hx469_4, hx469_5, hx469_6, HC469_6, HR469_6, HL469_6⟩ := elN27 w.heap.size HO_4 x11_1 p469 q469
       cases e469
       replace p469 := eq_true p469
       replace q469 := eq_true q469
       go_wp2_with (first | ((with_reducible refine gate_builtin (b := .append) (xs := #[.tmp 14, .tmp 20]) rfl ?_); at_builtin; refine Kd.R_append (Kd.int .i64) (w0 := w) w.heap.size rfl (.tmp 14) (.tmp 20) 45 3 (.int .i64 0) 8 rfl Tryz.underlying45 info3 rfl (by decide) (by omega) u3 x3_1 ((rd_T27 t466 x11_1).f2) [.int .i64 ((rd_T27 t466 x11_1).f2)] (fun _ => True) (fun _ => False) rfl rfl ?aP (fun _ hk => hk.elim) ?aF ?aO ?aB ?aS ?aL ?_; (case aP => exact rfl); (case aB => exact kW); (case aF => exact (fun _ _ => trivial)); (case aO => exact (kR HO_3)); (case aS => exact (below_size kW)); (case aL => have := LMc12.out; omega); intro v471 w13 ho hb hg hat; rw [← Ny470.out] at ho; replace HO_4 := Aside0.mk (Kd.N_afterv (ok := (fun k_ => k_ ≠ gb462)) (by (with_reducible repeat (first | apply Kd.N_alloc | apply Kd.N_drewN | apply Kd.N_drew)); exact Kd.N_mono HO_4.out (fun _ hk => ⟨hk.2, hk.1⟩)) hg hat); replace BK462 := (kG BK462 hg (Kd.R_ne HO_3.out BK462.out (by decide))); replace HL469_6 := Aside0.mk (Kd.V_afterv (ok := (fun k_ => some k_ ≠ (.slice (some ad469) t466.length co8 : Value).ownBlock ∧ k_ ≠ gb462)) (by (with_reducible repeat (first | apply Kd.V_alloc | apply Kd.V_drewN | apply Kd.V_drew)); exact Kd.V_mono HL469_6.out (fun _ hk => ⟨⟨hk.2, hk.1.2⟩, hk.1.1⟩)) hg hat); replace HB := Aside0.mk (hb); have HO472 := Aside0.mk (ho); clear HO_3; clear ho hb hg hat))
       go_roundg k1
       case measure => have := HK1.out; omega
       case rel => exact ⟨(y470), (wrap64 (x11_1 + 1)), mq39, H', ⟨mq47 HK1⟩, ⟨mq24 HO472⟩, ⟨by (with_reducible repeat (first | apply Kd.N_alloc | apply Kd.N_drewN | apply Kd.N_drew)); exact Kd.N_mono HO_4.out (fun _ hk => ⟨hk.2, hk.1⟩)⟩, ⟨mq28 BK462⟩, ⟨kW⟩⟩
      ·rw [if_neg c12] at H
       exact absurd H (by simp)
     ·rw [if_neg c11] at H
      exact absurd H (by simp)
    ·rw [if_neg c10] at H
     exact absurd H (by simp)
   ·rw [if_neg c9] at H
    have c9b0 : decide (x11_1 < (t466.length : Int)) = false := decide_eq_false c9
    clear c9
    obtain rfl := Option.some.inj H
    go_wp2
    go_ret
    exact ⟨_, mq37, mq24 HO_3, kW⟩


mutual
def sashref01_ReadHex.l0 : Nat → ByteArray → Int → Int → Option (Int × Bool)
 | 0, _, _, _ => none
 | k + 1, x0, x4, x5 => if x5 < 4 then (sashref01_ReadHex.l1 k x0 x4 x5 (-1) 0) else (some (IntKind.u16.wrap (x4), true))
def sashref01_ReadHex.l1 : Nat → ByteArray → Int → Int → Int → Int → Option (Int × Bool)
 | 0, _, _, _, _, _ => none
 | k + 1, x0, x4, x5, x6, x7 => if x7 < 16 then ((sashref01_Digit.f x7).bind fun t444 => (if 0 ≤ x5 then (if x5 ≤ (wrap64 (x5 + 1)) then (if (wrap64 (x5 + 1)) ≤ (x0.size : Int) then (if t444.toList = (x0.extract (x5 : Int).toNat ((wrap64 (x5 + 1)) : Int).toNat).toList then (sashref01_ReadHex.l1 k x0 x4 x5 x7 (wrap64 (x7 + 1))) else (sashref01_ReadHex.l1 k x0 x4 x5 x6 (wrap64 (x7 + 1)))) else (none)) else (none)) else (none))) else (if x6 < 0 then (some (0, false)) else (sashref01_ReadHex.l0 k x0 (wrap64 ((wrap64 (16 * x4)) + x6)) (wrap64 (x5 + 1))))
end
def sashref01_ReadHex.f (k : Nat) (a0 : ByteArray) : Option (Int × Bool) := if (a0.size : Int) = 4 then (sashref01_ReadHex.l0 k a0 0 0) else (some (0, false))
theorem sashref01_ReadHex.mono_l : ∀ k, (∀ y0 y1 y2, LeO (sashref01_ReadHex.l0 k y0 y1 y2) (sashref01_ReadHex.l0 (k + 1) y0 y1 y2)) ∧ (∀ y0 y1 y2 y3 y4, LeO (sashref01_ReadHex.l1 k y0 y1 y2 y3 y4) (sashref01_ReadHex.l1 (k + 1) y0 y1 y2 y3 y4))
 | 0 => ⟨fun _ _ _ r h => by simp [sashref01_ReadHex.l0] at h, fun _ _ _ _ _ r h => by simp [sashref01_ReadHex.l1] at h⟩
 | k + 1 => by
  obtain ⟨ih0, ih1⟩ := sashref01_ReadHex.mono_l k
  refine ⟨?_, ?_⟩
  ·intro y0 y1 y2
   unfold sashref01_ReadHex.l0
   repeat' first
   | (with_reducible exact ih0 _ _ _)
   | (with_reducible exact ih1 _ _ _ _ _)
   | (with_reducible exact LeO.refl _)
   | (with_reducible exact LeO.none _)
   | (with_reducible refine LeO.ite ?_ ?_)
   | (with_reducible refine LeO.bind ?_ (fun _ => ?_))
   | exact ih0 _ _ _
   | exact ih1 _ _ _ _ _
   | exact LeO.none _
   | refine LeO.ite ?_ ?_
   | refine LeO.bind ?_ (fun _ => ?_)
  ·intro y0 y1 y2 y3 y4
   unfold sashref01_ReadHex.l1
   repeat' first
   | (with_reducible exact ih0 _ _ _)
   | (with_reducible exact ih1 _ _ _ _ _)
   | (with_reducible exact LeO.refl _)
   | (with_reducible exact LeO.none _)
   | (with_reducible refine LeO.ite ?_ ?_)
   | (with_reducible refine LeO.bind ?_ (fun _ => ?_))
   | exact ih0 _ _ _
   | exact ih1 _ _ _ _ _
   | exact LeO.none _
   | refine LeO.ite ?_ ?_
   | refine LeO.bind ?_ (fun _ => ?_)
theorem sashref01_ReadHex.mono : ∀ a0 k, LeO (sashref01_ReadHex.f k a0) (sashref01_ReadHex.f (k + 1) a0) := by
 intro a0 k
 obtain ⟨ih0, ih1⟩ := sashref01_ReadHex.mono_l k
 unfold sashref01_ReadHex.f
 repeat' first
   | (with_reducible exact ih0 _ _ _)
   | (with_reducible exact ih1 _ _ _ _ _)
   | (with_reducible exact LeO.refl _)
   | (with_reducible exact LeO.none _)
   | (with_reducible refine LeO.ite ?_ ?_)
   | (with_reducible refine LeO.bind ?_ (fun _ => ?_))
   | exact ih0 _ _ _
   | exact ih1 _ _ _ _ _
   | exact LeO.none _
   | refine LeO.ite ?_ ?_
   | refine LeO.bind ?_ (fun _ => ?_)
set_option maxHeartbeats 8000000 in
set_option maxRecDepth 100000 in
theorem sashref01_ReadHex.calls (k : Nat) (a0 : ByteArray) (r1 : Int) (r2 : Bool) (w : World) (h : sashref01_ReadHex.f k a0 = some (r1, r2)) :
  Calls Tryz.prog 56 #[.string a0] w fun e w' => e = .returned (.tuple #[.int .u16 r1, .bool r2]) ∧ Drawn0 w w' := by
 have H : (if (a0.size : Int) = 4 then (sashref01_ReadHex.l0 k a0 0 0) else (some (0, false))) = some (r1, r2) := h
 clear h
 by_cases c2 : (a0.size : Int) = 4
 ·rw [if_pos c2] at H
  have c2b0 : ((a0.size : Int) == 4) = true := beq_iff_eq.mpr c2
  have c2b1 : ((a0.size : Int) != 4) = false := bne_eq_false_iff_eq.mpr c2
  clear c2
  have H' := Aside0.mk H
  clear H
  go_enter Tryz.func56, Tryz.ntmps56
  go_wp2
  repeat (go_quiet (fail); try go_wp2)
  go_loopg [4, 5] k (fun kq v4 v5 w' => ∃ (x4_1 : Int) (x5_1 : Int), v4 = .int .i64 x4_1 ∧ v5 = .int .i64 x5_1 ∧ Aside0 (sashref01_ReadHex.l0 kq a0 x4_1 x5_1 = some (r1, r2)) ∧ Aside0 (kq ≤ k) ∧ Drawn0 w w')
  case atStart => exact ⟨(0), (0), mq39, mq39, H', ⟨Nat.le_refl _⟩, mq52⟩
  case round =>
   clear H'
   clear c2b0 c2b1
   obtain ⟨x4_1, x5_1, rfl, rfl, HA, HK1, ⟨m1, rfl⟩⟩ := hrel
   cases gk with
   | zero => exact absurd HA.out (by simp [sashref01_ReadHex.l0])
   | succ k1 =>
    have H := HA.out
    clear HA
    simp only [sashref01_ReadHex.l0] at H
    by_cases c3 : x5_1 < 4
    ·rw [if_pos c3] at H
     have c3b0 : decide (x5_1 < 4) = true := decide_eq_true c3
     clear c3
     have H' := Aside0.mk H
     clear H
     go_wp2
     repeat (go_quiet (fail); try go_wp2)
     go_loopg [6, 7] k1 (fun kq v6 v7 w' => ∃ (x6_2 : Int) (x7_2 : Int), v6 = .int .i64 x6_2 ∧ v7 = .int .i64 x7_2 ∧ Aside0 (sashref01_ReadHex.l1 kq a0 x4_1 x5_1 x6_2 x7_2 = some (r1, r2)) ∧ Aside0 (kq ≤ k1) ∧ Drawn0 w w')
     case atStart => exact ⟨((-1)), (0), mq39, mq39, H', ⟨Nat.le_refl _⟩, mq52⟩
     case round =>
      clear H'
      clear c3b0
      obtain ⟨x6_2, x7_2, rfl, rfl, HA, HK2, ⟨m2, rfl⟩⟩ := hrel
      cases gk with
      | zero => exact absurd HA.out (by simp [sashref01_ReadHex.l1])
      | succ k2 =>
       have H := HA.out
       clear HA
       simp only [sashref01_ReadHex.l1] at H
       by_cases c4 : x7_2 < 16
       ·rw [if_pos c4] at H
        have c4b0 : decide (x7_2 < 16) = true := decide_eq_true c4
        clear c4
        replace H := Option.bind_eq_some_iff.mp H
        obtain ⟨t444, A50, H⟩ := H
        replace H : (if 0 ≤ x5_1 then (if x5_1 ≤ (wrap64 (x5_1 + 1)) then (if (wrap64 (x5_1 + 1)) ≤ (a0.size : Int) then (if t444.toList = (a0.extract (x5_1 : Int).toNat ((wrap64 (x5_1 + 1)) : Int).toNat).toList then (sashref01_ReadHex.l1 k2 a0 x4_1 x5_1 x7_2 (wrap64 (x7_2 + 1))) else (sashref01_ReadHex.l1 k2 a0 x4_1 x5_1 x6_2 (wrap64 (x7_2 + 1)))) else (none)) else (none)) else (none)) = some (r1, r2) := H
        have A5 := Aside0.mk A50
        clear A50
        by_cases c6 : 0 ≤ x5_1
        ·rw [if_pos c6] at H
         have c6b0 := eq_true c6
         have c6b1 : decide (0 ≤ x5_1) = true := decide_eq_true c6
         clear c6
         by_cases c7 : x5_1 ≤ (wrap64 (x5_1 + 1))
         ·rw [if_pos c7] at H
          have c7b0 := eq_true c7
          have c7b1 : decide (x5_1 ≤ (wrap64 (x5_1 + 1))) = true := decide_eq_true c7
          by_cases c8 : (wrap64 (x5_1 + 1)) ≤ (a0.size : Int)
          ·rw [if_pos c8] at H
           have c8b0 := eq_true c8
           have c8b1 : decide ((wrap64 (x5_1 + 1)) ≤ (a0.size : Int)) = true := decide_eq_true c8
           by_cases c9 : t444.toList = (a0.extract (x5_1 : Int).toNat ((wrap64 (x5_1 + 1)) : Int).toNat).toList
           ·rw [if_pos c9] at H
            have c9b0 : (t444.toList == (a0.extract (x5_1 : Int).toNat ((wrap64 (x5_1 + 1)) : Int).toNat).toList) = true := beq_iff_eq.mpr c9
            have c9b1 : (t444.toList != (a0.extract (x5_1 : Int).toNat ((wrap64 (x5_1 + 1)) : Int).toNat).toList) = false := bne_eq_false_iff_eq.mpr c9
            clear c9
            have H' := Aside0.mk H
            clear H
            go_wp2_with (first | (go_at_call 55; (with_reducible refine (sashref01_Digit.calls x7_2 t444 _ A5.out).mono ?_); rintro e w' ⟨rfl, ⟨nd, rfl⟩⟩; (try first | exact ⟨rfl, _, World.drewN_drewN _ _ _⟩ | exact ⟨rfl, _, Eq.trans (World.drewN_drewN _ _ _) (congrArg (World.drewN _) (Nat.add_assoc _ _ _))⟩)))
            repeat (go_quiet (first | (go_at_call 55; (with_reducible refine (sashref01_Digit.calls x7_2 t444 _ A5.out).mono ?_); rintro e w' ⟨rfl, ⟨nd, rfl⟩⟩; (try first | exact ⟨rfl, _, World.drewN_drewN _ _ _⟩ | exact ⟨rfl, _, Eq.trans (World.drewN_drewN _ _ _) (congrArg (World.drewN _) (Nat.add_assoc _ _ _))⟩))); try go_wp2_with (first | (go_at_call 55; (with_reducible refine (sashref01_Digit.calls x7_2 t444 _ A5.out).mono ?_); rintro e w' ⟨rfl, ⟨nd, rfl⟩⟩; (try first | exact ⟨rfl, _, World.drewN_drewN _ _ _⟩ | exact ⟨rfl, _, Eq.trans (World.drewN_drewN _ _ _) (congrArg (World.drewN _) (Nat.add_assoc _ _ _))⟩))))
            go_roundg k2
            case measure => have := HK1.out; have := HK2.out; omega
            case rel => exact ⟨(x7_2), (wrap64 (x7_2 + 1)), mq39, mq39, H', ⟨mq46 HK1 HK2⟩, mq52⟩
           ·rw [if_neg c9] at H
            have c9b0 : (t444.toList == (a0.extract (x5_1 : Int).toNat ((wrap64 (x5_1 + 1)) : Int).toNat).toList) = false := beq_eq_false_iff_ne.mpr c9
            have c9b1 : (t444.toList != (a0.extract (x5_1 : Int).toNat ((wrap64 (x5_1 + 1)) : Int).toNat).toList) = true := bne_iff_ne.mpr c9
            have H' := Aside0.mk H
            clear H
            go_wp2_with (first | (go_at_call 55; (with_reducible refine (sashref01_Digit.calls x7_2 t444 _ A5.out).mono ?_); rintro e w' ⟨rfl, ⟨nd, rfl⟩⟩; (try first | exact ⟨rfl, _, World.drewN_drewN _ _ _⟩ | exact ⟨rfl, _, Eq.trans (World.drewN_drewN _ _ _) (congrArg (World.drewN _) (Nat.add_assoc _ _ _))⟩)))
            repeat (go_quiet (first | (go_at_call 55; (with_reducible refine (sashref01_Digit.calls x7_2 t444 _ A5.out).mono ?_); rintro e w' ⟨rfl, ⟨nd, rfl⟩⟩; (try first | exact ⟨rfl, _, World.drewN_drewN _ _ _⟩ | exact ⟨rfl, _, Eq.trans (World.drewN_drewN _ _ _) (congrArg (World.drewN _) (Nat.add_assoc _ _ _))⟩))); try go_wp2_with (first | (go_at_call 55; (with_reducible refine (sashref01_Digit.calls x7_2 t444 _ A5.out).mono ?_); rintro e w' ⟨rfl, ⟨nd, rfl⟩⟩; (try first | exact ⟨rfl, _, World.drewN_drewN _ _ _⟩ | exact ⟨rfl, _, Eq.trans (World.drewN_drewN _ _ _) (congrArg (World.drewN _) (Nat.add_assoc _ _ _))⟩))))
            go_roundg k2
            case measure => have := HK1.out; have := HK2.out; omega
            case rel => exact ⟨(x6_2), (wrap64 (x7_2 + 1)), mq39, mq39, H', ⟨mq46 HK1 HK2⟩, mq52⟩
          ·rw [if_neg c8] at H
           exact absurd H (by simp)
         ·rw [if_neg c7] at H
          exact absurd H (by simp)
        ·rw [if_neg c6] at H
         exact absurd H (by simp)
       ·rw [if_neg c4] at H
        have c4b0 : decide (x7_2 < 16) = false := decide_eq_false c4
        clear c4
        by_cases c10 : x6_2 < 0
        ·rw [if_pos c10] at H
         have c10b0 : decide (x6_2 < 0) = true := decide_eq_true c10
         clear c10
         simp only [Option.some.injEq, Prod.mk.injEq] at H
         obtain ⟨rfl, rfl⟩ := H
         go_wp2
         repeat (go_quiet (fail); try go_wp2)
         go_ret2
         exact ⟨mq39, mq52⟩
        ·rw [if_neg c10] at H
         have c10b0 : decide (x6_2 < 0) = false := decide_eq_false c10
         clear c10
         have H' := Aside0.mk H
         clear H
         go_wp2
         repeat (go_quiet (fail); try go_wp2)
         go_roundg k2
         case measure => have := HK1.out; have := HK2.out; omega
         case rel => exact ⟨(wrap64 ((wrap64 (16 * x4_1)) + x6_2)), (wrap64 (x5_1 + 1)), mq39, mq39, H', ⟨mq46 HK1 HK2⟩, mq52⟩
    ·rw [if_neg c3] at H
     have c3b0 : decide (x5_1 < 4) = false := decide_eq_false c3
     clear c3
     simp only [Option.some.injEq, Prod.mk.injEq] at H
     obtain ⟨rfl, rfl⟩ := H
     go_wp2
     repeat (go_quiet (fail); try go_wp2)
     go_ret2
     exact ⟨mq39, mq52⟩
 ·rw [if_neg c2] at H
  have c2b0 : ((a0.size : Int) == 4) = false := beq_eq_false_iff_ne.mpr c2
  have c2b1 : ((a0.size : Int) != 4) = true := bne_iff_ne.mpr c2
  simp only [Option.some.injEq, Prod.mk.injEq] at H
  obtain ⟨rfl, rfl⟩ := H
  go_enter Tryz.func56, Tryz.ntmps56
  go_wp2
  repeat (go_quiet (fail); try go_wp2)
  go_ret2
  exact ⟨mq39, mq52⟩

def sashref02_Cut.j0 : Nat → ByteArray → Bool → Option (ByteArray × Int)
 | 0, _, _ => none
 | k + 1, x0, x16 => if x16 = true then (some ((⟨#[]⟩ : ByteArray), 2)) else (if 0 ≤ 4 then (if 4 ≤ (x0.size : Int) then ((sashref01_ReadHex.f k (x0.extract 0 4)).bind fun bt445 => (if bt445.2 = true then (if 5 ≤ (x0.size : Int) then ((sashref02_From.f k 0 (x0.extract 5 x0.size)).bind fun t447 => (if t447 = bt445.1 then (some (x0.extract 5 x0.size, 0)) else (some ((⟨#[]⟩ : ByteArray), 4)))) else (none)) else (some ((⟨#[]⟩ : ByteArray), 2)))) else (none)) else (none))
def sashref02_Cut.f (k : Nat) (a0 : ByteArray) : Option (ByteArray × Int) := if (a0.size : Int) > 65535 then (some ((⟨#[]⟩ : ByteArray), 3)) else (if (a0.size : Int) < 5 then (sashref02_Cut.j0 k a0 true) else (if 4 ≤ 5 then (if 5 ≤ (a0.size : Int) then (sashref02_Cut.j0 k a0 ((a0.extract 4 5).toList != ([44] : List UInt8))) else (none)) else (none)))
set_option maxHeartbeats 8000000 in
set_option maxRecDepth 100000 in
theorem sashref02_Cut.calls (k : Nat) (a0 : ByteArray) (r1 : ByteArray) (r2 : Int) (w : World) (h : sashref02_Cut.f k a0 = some (r1, r2)) :
  Calls Tryz.prog 35 #[.string a0] w fun e w' => e = .returned (.tuple #[.string r1, .int .i64 r2]) ∧ Drawn0 w w' := by
 have H : (if (a0.size : Int) > 65535 then (some ((⟨#[]⟩ : ByteArray), 3)) else (if (a0.size : Int) < 5 then (sashref02_Cut.j0 k a0 true) else (if 4 ≤ 5 then (if 5 ≤ (a0.size : Int) then (sashref02_Cut.j0 k a0 ((a0.extract 4 5).toList != ([44] : List UInt8))) else (none)) else (none)))) = some (r1, r2) := h
 clear h
 by_cases c2 : (a0.size : Int) > 65535
 ·rw [if_pos c2] at H
  have c2b0 : decide (65535 < (a0.size : Int)) = true := decide_eq_true c2
  have c2b1 : decide (65535 < a0.size) = true := decide_eq_true (by omega)
  clear c2
  simp only [Option.some.injEq, Prod.mk.injEq] at H
  obtain ⟨rfl, rfl⟩ := H
  go_enter Tryz.func35, Tryz.ntmps35
  go_wp2
  go_ret2
  exact ⟨mq39, mq52⟩
 ·rw [if_neg c2] at H
  have c2b0 : decide (65535 < (a0.size : Int)) = false := decide_eq_false c2
  have c2b1 : decide (65535 < a0.size) = false := decide_eq_false (by omega)
  clear c2
  have HC3 := Aside0.mk H
  clear H
  go_enter Tryz.func35, Tryz.ntmps35
  go_upto_region 3 with (fail)
  go_cut [16] (fun v16 wc => ∃ (kq : Nat) (x16_2 : Bool), v16 = .bool x16_2 ∧ Aside0 (sashref02_Cut.j0 kq a0 x16_2 = some (r1, r2)) ∧ Aside0 (kq ≤ k) ∧ Drawn0 w wc)
  case first =>
   have H := HC3.out
   clear HC3
   by_cases c4 : (a0.size : Int) < 5
   ·rw [if_pos c4] at H
    have c4b0 : decide ((a0.size : Int) < 5) = true := decide_eq_true c4
    have c4b1 : decide (a0.size < 5) = true := decide_eq_true (by omega)
    clear c4
    (first | rw [c4b0] | (simp only [i64_w, i32_w]; rw [c4b0]) | skip)
    have H' := Aside0.mk H
    clear H
    go_wp2
    go_meet
    case rel => exact ⟨_, (true), mq39, H', ⟨mq36⟩, mq52⟩
   ·rw [if_neg c4] at H
    have c4b0 : decide ((a0.size : Int) < 5) = false := decide_eq_false c4
    have c4b1 : decide (a0.size < 5) = false := decide_eq_false (by omega)
    clear c4
    (first | rw [c4b0] | (simp only [i64_w, i32_w]; rw [c4b0]) | skip)
    by_cases c5 : 4 ≤ 5
    ·rw [if_pos c5] at H
     have c5b0 := eq_true c5
     have c5b1 : decide (4 ≤ 5) = true := decide_eq_true c5
     clear c5
     by_cases c6 : 5 ≤ (a0.size : Int)
     ·rw [if_pos c6] at H
      have c6b0 := eq_true c6
      have c6b1 : decide (5 ≤ (a0.size : Int)) = true := decide_eq_true c6
      clear c6
      have H' := Aside0.mk H
      clear H
      go_wp2
      go_meet
      case rel => exact ⟨_, (((a0.extract 4 5).toList != ([44] : List UInt8))), mq39, H', ⟨mq36⟩, mq52⟩
     ·rw [if_neg c6] at H
      exact absurd H (by simp)
    ·rw [if_neg c5] at H
     exact absurd H (by simp)
  case rest =>
   clear HC3
   clear c2b0 c2b1
   obtain ⟨kq, x16_2, rfl, HA, HJ2, ⟨mc2, rfl⟩⟩ := hcut
   cases kq with
   | zero => exact absurd HA.out (by simp [sashref02_Cut.j0])
   | succ kj2 =>
    have H := HA.out
    clear HA
    simp only [sashref02_Cut.j0] at H
    by_cases c7 : x16_2 = true
    ·subst c7
     have H1 : (some ((⟨#[]⟩ : ByteArray), 2)) = some (r1, r2) := mq55
     clear H
     have H := H1
     clear H1
     simp only [Option.some.injEq, Prod.mk.injEq] at H
     obtain ⟨rfl, rfl⟩ := H
     go_wp2
     go_ret2
     exact ⟨mq39, mq52⟩
    ·replace c7 := Bool.eq_false_iff.mpr c7
     subst c7
     have H1 : (if 0 ≤ 4 then (if 4 ≤ (a0.size : Int) then ((sashref01_ReadHex.f kj2 (a0.extract 0 4)).bind fun bt445 => (if bt445.2 = true then (if 5 ≤ (a0.size : Int) then ((sashref02_From.f kj2 0 (a0.extract 5 a0.size)).bind fun t447 => (if t447 = bt445.1 then (some (a0.extract 5 a0.size, 0)) else (some ((⟨#[]⟩ : ByteArray), 4)))) else (none)) else (some ((⟨#[]⟩ : ByteArray), 2)))) else (none)) else (none)) = some (r1, r2) := mq54
     clear H
     have H := H1
     clear H1
     by_cases c8 : 0 ≤ 4
     ·rw [if_pos c8] at H
      have c8b0 := eq_true c8
      have c8b1 : decide (0 ≤ 4) = true := decide_eq_true c8
      clear c8
      by_cases c9 : 4 ≤ (a0.size : Int)
      ·rw [if_pos c9] at H
       have c9b0 := eq_true c9
       have c9b1 : decide (4 ≤ (a0.size : Int)) = true := decide_eq_true c9
       clear c9
       replace H := Option.bind_eq_some_iff.mp H
       obtain ⟨⟨t445, t446⟩, A100, H⟩ := H
       replace H : (if t446 = true then (if 5 ≤ (a0.size : Int) then ((sashref02_From.f kj2 0 (a0.extract 5 a0.size)).bind fun t447 => (if t447 = t445 then (some (a0.extract 5 a0.size, 0)) else (some ((⟨#[]⟩ : ByteArray), 4)))) else (none)) else (some ((⟨#[]⟩ : ByteArray), 2))) = some (r1, r2) := H
       have A10 := Aside0.mk A100
       clear A100
       by_cases c11 : t446 = true
       ·subst c11
        have H1 : (if 5 ≤ (a0.size : Int) then ((sashref02_From.f kj2 0 (a0.extract 5 a0.size)).bind fun t447 => (if t447 = t445 then (some (a0.extract 5 a0.size, 0)) else (some ((⟨#[]⟩ : ByteArray), 4)))) else (none)) = some (r1, r2) := mq55
        clear H
        have H := H1
        clear H1
        by_cases c12 : 5 ≤ (a0.size : Int)
        ·rw [if_pos c12] at H
         have c12b0 := eq_true c12
         have c12b1 : decide (5 ≤ (a0.size : Int)) = true := decide_eq_true c12
         clear c12
         replace H := Option.bind_eq_some_iff.mp H
         obtain ⟨t447, A130, H⟩ := H
         replace H : (if t447 = t445 then (some (a0.extract 5 a0.size, 0)) else (some ((⟨#[]⟩ : ByteArray), 4))) = some (r1, r2) := H
         have A13 := Aside0.mk A130
         clear A130
         by_cases c14 : t447 = t445
         ·rw [if_pos c14] at H
          have c14b0 : (t447 == t445) = true := beq_iff_eq.mpr c14
          have c14b1 : (t447 != t445) = false := bne_eq_false_iff_eq.mpr c14
          clear c14
          have c15b0 := eq_true (of_decide_eq_true mq34 : 5 ≤ (a0.size : Int))
          simp only [Option.some.injEq, Prod.mk.injEq] at H
          obtain ⟨rfl, rfl⟩ := H
          go_wp2_with (first | ((with_reducible refine gate_callee (f := 56) rfl ?_); refine gol (some 20) Tryz.func56 #[.string (a0.extract 0 4)] (h := ?_); (with_reducible refine (sashref01_ReadHex.calls kj2 (a0.extract 0 4) t445 true _ A10.out).mono ?_); rintro e w' ⟨rfl, ⟨nd, rfl⟩⟩; refine ⟨_, rfl, ?_⟩) | ((with_reducible refine gate_callee (f := 31) rfl ?_); refine gol (some 27) Tryz.func31 #[.int .u16 0, .string (a0.extract 5 a0.size)] (h := ?_); (with_reducible refine (sashref02_From.calls kj2 0 (a0.extract 5 a0.size) t447 _ A13.out).mono ?_); rintro e w' ⟨rfl, ⟨nd, rfl⟩⟩; refine ⟨_, rfl, ?_⟩))
          go_ret2
          exact ⟨mq39, mq52⟩
         ·rw [if_neg c14] at H
          have c14b0 : (t447 == t445) = false := beq_eq_false_iff_ne.mpr c14
          have c14b1 : (t447 != t445) = true := bne_iff_ne.mpr c14
          simp only [Option.some.injEq, Prod.mk.injEq] at H
          obtain ⟨rfl, rfl⟩ := H
          go_wp2_with (first | ((with_reducible refine gate_callee (f := 56) rfl ?_); refine gol (some 20) Tryz.func56 #[.string (a0.extract 0 4)] (h := ?_); (with_reducible refine (sashref01_ReadHex.calls kj2 (a0.extract 0 4) t445 true _ A10.out).mono ?_); rintro e w' ⟨rfl, ⟨nd, rfl⟩⟩; refine ⟨_, rfl, ?_⟩) | ((with_reducible refine gate_callee (f := 31) rfl ?_); refine gol (some 27) Tryz.func31 #[.int .u16 0, .string (a0.extract 5 a0.size)] (h := ?_); (with_reducible refine (sashref02_From.calls kj2 0 (a0.extract 5 a0.size) t447 _ A13.out).mono ?_); rintro e w' ⟨rfl, ⟨nd, rfl⟩⟩; refine ⟨_, rfl, ?_⟩))
          go_ret2
          exact ⟨mq39, mq52⟩
        ·rw [if_neg c12] at H
         exact absurd H (by simp)
       ·replace c11 := Bool.eq_false_iff.mpr c11
        subst c11
        have H1 : (some ((⟨#[]⟩ : ByteArray), 2)) = some (r1, r2) := mq54
        clear H
        have H := H1
        clear H1
        simp only [Option.some.injEq, Prod.mk.injEq] at H
        obtain ⟨rfl, rfl⟩ := H
        go_wp2_with (first | ((with_reducible refine gate_callee (f := 56) rfl ?_); refine gol (some 20) Tryz.func56 #[.string (a0.extract 0 4)] (h := ?_); (with_reducible refine (sashref01_ReadHex.calls kj2 (a0.extract 0 4) t445 false _ A10.out).mono ?_); rintro e w' ⟨rfl, ⟨nd, rfl⟩⟩; refine ⟨_, rfl, ?_⟩))
        go_ret2
        exact ⟨mq39, mq52⟩
      ·rw [if_neg c9] at H
       exact absurd H (by simp)
     ·rw [if_neg c8] at H
      exact absurd H (by simp)


end Go.Proofs.YtkobpbbegalfpaaGreatDoor.PParseBodies
