/-
  Joined texts: PxPanes, HexReadP, SuCutP, TiMem, TiAll, PParseBodiesx2.
-/
import Derived.Test.YtkobpbbegalfpaaGreatDoorPsBase
import Derived.Test.YtkobpbbegalfpaaGreatDoorPsWhole2
import Derived.Test.YtkobpbbegalfpaaGreatDoorPParseBodiesx13
import Derived.Test.YtkobpbbegalfpaaGreatDoorSuPutP
import Derived.Test.YtkobpbbegalfpaaGreatDoorPsCell
import Derived.BigCall
import Derived.Lib.Walk
import Derived.WalkKit
import Derived.Deep.LoopGhost
import Derived.Shelf.Abstract
namespace Go.Proofs.YtkobpbbegalfpaaGreatDoor.PParseBodies
open Go.RowKit YtkobpbbegalfpaaGreatDoorW.PrintWords YtkobpbbegalfpaaGreatDoorW.PrintLast YtkobpbbegalfpaaGreatDoorW.PrintMore
attribute [local go_sem] max2_int min2_int max_two min_two max_three min_three max_four min_four
set_option linter.unusedVariables false
set_option linter.unusedSimpArgs false
mutual
def cell_Leaves.l0 : Nat → List Int → List (S27) → Int → Int → Option (List Int)
 | 0, _, _, _, _ => none
 | k + 1, x3, x6, x7, x8 => if x8 < x7 then (if 0 ≤ x8 then (if x8 < (x6.length : Int) then (if ((rd_T27 x6 x8).f0) = 1 then (if x3.length < 17592186044416 then ((some (x3 ++ [(rd_T27 x6 x8).f2] : List Int)).bind fun y154 => ((cell_Leaves.f k ((rd_T27 x6 x8).f3)).bind fun t157 => (if y154.length + t157.length < 17592186044416 then (cell_Leaves.l0 k (y154 ++ t157) x6 x7 (wrap64 (x8 + 1))) else (none)))) else (none)) else ((cell_Leaves.f k ((rd_T27 x6 x8).f3)).bind fun t163 => (if x3.length + t163.length < 17592186044416 then (cell_Leaves.l0 k (x3 ++ t163) x6 x7 (wrap64 (x8 + 1))) else (none)))) else (none)) else (none)) else (some x3)
def cell_Leaves.f : Nat → List (S27) → Option (List Int)
 | 0, _ => none
 | k + 1, l0 => cell_Leaves.l0 k ([] : List Int) l0 (l0.length : Int) 0
end
set_option maxHeartbeats 8000000 in
set_option maxRecDepth 100000 in
theorem cell_Leaves.calls (k : Nat) : ∀ (A0 : Option Addr) (c0 : Nat) (l0 : List (S27)) (r : List Int) (w : World) (hr0 : Kd.C k27 w A0 l0.length l0) (hc0 : l0.length ≤ c0) (h : cell_Leaves.f k l0 = some r),
  Calls Tryz.prog 34 #[.slice A0 l0.length c0] w fun e w' => ∃ v0_ : Value, e = .returned (v0_) ∧ Kd.R (Kd.int .i64) 3 w' w.heap.size (fun _ => True) v0_ r ∧ Below w.heap.size w w' := by
 induction k using Nat.strongRecOn with
 | _ k ih =>
 intro A0 c0 l0 r w hr0 hc0 h
 cases k with
 | zero => exact absurd h (by simp [cell_Leaves.f])
 | succ k =>
 simp only [cell_Leaves.f] at h
 have hu27 := Tryz.underlying27
 have HR0 := ak hr0
 have HC0 := ak hc0
 clear hr0 hc0
 have HB := ak (Below.refl w.heap.size w)
 have H : (cell_Leaves.l0 k ([] : List Int) l0 (l0.length : Int) 0) = some r := h
 clear h
 have H' := ak H
 clear H
 go_enter Tryz.func34, Tryz.ntmps34
 go_wp2
 go_loopg [3, 8] k (fun kq v3 v8 w' => ∃ (x3_1 : List Int) (x8_1 : Int), v8 = .int .i64 x8_1 ∧ Aside0 (cell_Leaves.l0 kq x3_1 l0 (l0.length : Int) x8_1 = some r) ∧ Aside0 (kq ≤ k) ∧ Aside0 (Kd.R (Kd.int .i64) 3 w' w.heap.size (fun _ => True) v3 x3_1) ∧ Aside0 (Below w.heap.size w w'))
 case atStart => exact ⟨(([] : List Int)), (0), mq39, H', ⟨Nat.le_refl _⟩, ⟨mq35⟩, ⟨kW⟩⟩
 case round =>
  clear H'
  obtain ⟨x3_1, x8_1, rfl, HA, HK1, HO_3, HB⟩ := hrel
  cases gk with
  | zero => exact absurd HA.out (by simp [cell_Leaves.l0])
  | succ k1 =>
   have H := HA.out
   clear HA
   simp only [cell_Leaves.l0] at H
   by_cases c2 : x8_1 < (l0.length : Int)
   ·rw [if_pos c2] at H
    have c2b0 : decide (x8_1 < (l0.length : Int)) = true := decide_eq_true c2
    clear c2
    by_cases c3 : 0 ≤ x8_1
    ·rw [if_pos c3] at H
     have c3b0 : decide (0 ≤ x8_1) = true := decide_eq_true c3
     clear c3
     by_cases c4 : x8_1 < (l0.length : Int)
     ·rw [if_pos c4] at H
      have c4b0 : decide (x8_1 < (l0.length : Int)) = true := decide_eq_true c4
      clear c4
      by_cases c5 : ((rd_T27 l0 x8_1).f0) = 1
      ·rw [if_pos c5] at H
       have c5b0 : (((rd_T27 l0 x8_1).f0) == 1) = true := beq_iff_eq.mpr c5
       have c5b1 : (((rd_T27 l0 x8_1).f0) != 1) = false := bne_eq_false_iff_eq.mpr c5
       clear c5
       by_cases c6 : x3_1.length < 17592186044416
       ·rw [if_pos c6] at H
        have LMc6 := ak c6
        clear c6
        obtain ⟨y154, hy154⟩ : ∃ y_ : List Int, y_ = (x3_1 ++ [(rd_T27 l0 x8_1).f2]) := ⟨_, rfl⟩
        replace H : ((cell_Leaves.f k1 ((rd_T27 l0 x8_1).f3)).bind fun t157 => (if y154.length + t157.length < 17592186044416 then (cell_Leaves.l0 k1 (y154 ++ t157) l0 (l0.length : Int) (wrap64 (x8_1 + 1))) else (none))) = some r := mq33 hy154
        have Ny154 := ak hy154
        clear hy154
        replace H := Option.bind_eq_some_iff.mp H
        obtain ⟨t157, A70, H⟩ := H
        replace H : (if y154.length + t157.length < 17592186044416 then (cell_Leaves.l0 k1 (y154 ++ t157) l0 (l0.length : Int) (wrap64 (x8_1 + 1))) else (none)) = some r := H
        have A7 := ak A70
        clear A70
        by_cases c8 : y154.length + t157.length < 17592186044416
        ·rw [if_pos c8] at H
         have LMc8 := ak c8
         clear c8
         obtain ⟨y160, hy160⟩ : ∃ y_ : List Int, y_ = (y154 ++ t157) := ⟨_, rfl⟩
         replace H : (cell_Leaves.l0 k1 y160 l0 (l0.length : Int) (wrap64 (x8_1 + 1))) = some r := mq33 hy160
         have Ny160 := ak hy160
         clear hy160
         have H' := ak H
         clear H
         have p152 : 0 ≤ (x8_1 : Int) := of_decide_eq_true mq34
         have q152 : x8_1 < (l0.length : Int) := of_decide_eq_true mq34
         obtain ⟨ad152, A152_6, c152_6, e152, hx152_0, hx152_1, hx152_2, hx152_3, hx152_4, hx152_5, hx152_6, HC152_6, HR152_6⟩ := elC27 HB HR0 x8_1 p152 q152
         cases e152
         replace p152 := eq_true p152
         replace q152 := eq_true q152
         go_wp2_with (first | ((with_reducible refine gate_dst (N := 5) rfl ?_); refine bxe 5 #[.int .u8 0, .int .i64 0, .int .i64 0, .int .i64 0, .int .i64 0, .int .i64 0, .slice none 0 0] 27 (h := ?_); intro gb153 hg w9 hbox hb; replace HO_3 := ak (Kd.R_below (kR HO_3) hb); have BK153 := ak (hbox); have GW153 := ak ((mq53 : w.heap.size ≤ gb153)); have GE153 := ak ((mq53 : w.heap.size ≤ gb153)); replace HB := ak (below_step kW hb); clear hb hbox hg; obtain ⟨hcz10_0, hcz10_1, hcz10_2, hcz10_3, hcz10_4, hcz10_5, hcz10_6⟩ := cz7 BK153; obtain ⟨hfz10_0, hfz10_1, hfz10_2, hfz10_3, hfz10_4, hfz10_5, hfz10_6⟩ := fz7 BK153) | ((with_reducible refine gate_builtin (b := .append) (xs := #[.tmp 15, .tmp 18]) rfl ?_); at_builtin; refine Kd.R_append (Kd.int .i64) (w0 := w) w.heap.size rfl (.tmp 15) (.tmp 18) 45 3 (.int .i64 0) 8 rfl Tryz.underlying45 info3 rfl (by decide) (by omega) u3 x3_1 ((rd_T27 l0 x8_1).f2) [.int .i64 ((rd_T27 l0 x8_1).f2)] (fun _ => True) (fun _ => False) rfl mq31 ?aP (fun _ hk => hk.elim) ?aF ?aO ?aB ?aS ?aL ?_; (case aP => exact rfl); (case aB => exact kW); (case aF => exact (fun _ _ => trivial)); (case aO => exact (by (with_reducible repeat (first | apply Kd.R_alloc | apply Kd.R_drewN | apply Kd.R_drew)); exact Kd.R_mono (rf7 (g := gb153) (Kd.R_types HO_3.out BK153.out (by decide)) (fun _ hk => hk.2)) (fun _ hk => trivial))); (case aS => exact (below_size kW)); (case aL => have := LMc6.out; omega); intro v155 w11 ho hb hg hat; rw [← Ny154.out] at ho; replace BK153 := ak (blk_grown (g := gb153) (o := .cells #[.int .u8 ((rd_T27 l0 x8_1).f0), .int .i64 ((rd_T27 l0 x8_1).f1.f0), .int .i64 ((rd_T27 l0 x8_1).f1.f1), .int .i64 ((rd_T27 l0 x8_1).f1.f2), .int .i64 ((rd_T27 l0 x8_1).f1.f3), .int .i64 ((rd_T27 l0 x8_1).f2), .slice A152_6 ((rd_T27 l0 x8_1).f3).length c152_6] 27 (0, 0)) (kP7 BK153) hg (Kd.R_ne HO_3.out BK153.out (by decide))); replace HB := ak (hb); have HO156 := ak (ho); clear HO_3; clear ho hb hg hat; obtain ⟨hcz12_0, hcz12_1, hcz12_2, hcz12_3, hcz12_4, hcz12_5, hcz12_6⟩ := cz7 BK153; obtain ⟨hfz12_0, hfz12_1, hfz12_2, hfz12_3, hfz12_4, hfz12_5, hfz12_6⟩ := fz7 BK153) | ((with_reducible refine gate_callee (f := 34) rfl ?_); refine gol (some 23) Tryz.func34 #[.slice A152_6 ((rd_T27 l0 x8_1).f3).length c152_6] (h := ?_); (with_reducible refine (ih k1 (mq47 HK1) _ _ ((rd_T27 l0 x8_1).f3) t157 _ ?side1 ?side2 A7.out).mono ?_); (case side1 => repeat (first | exact (Kd.C_below HR152_6.out HB.out) | (with_reducible refine Kd.C_alloc ?_ _) | (with_reducible refine Kd.C_drewN ?_ _) | (with_reducible refine Kd.C_drew ?_))); (case side2 => exact HC152_6.out); rintro e w13 ⟨v158, rfl, ho0, hb⟩; refine ⟨_, rfl, ?_⟩; have HO159 := ak (Kd.R_lower (Kd.R_new' ho0 (Kd.R_lt (kR HO156))) (below_size kW)); replace HO156 := ak (Kd.R_elder' (kR HO156) (Kd.R_base ho0) hb); replace BK153 := (kB BK153 hb); replace HB := ak (below_step kW hb); (try clear hb); (try clear hb2); (try clear hk); (try clear hi); (try clear ho0); obtain ⟨Ao15, co15, eo15⟩ := Kd.R_slice HO159.out; subst eo15) | ((with_reducible refine gate_builtin (b := .append) (xs := #[.tmp 20, .tmp 23]) rfl ?_); at_builtin; refine Kd.R_append_rows (Kd.int .i64) (w0 := w) w.heap.size rfl (.tmp 20) (.tmp 23) 45 3 (.int .i64 0) 8 rfl Tryz.underlying45 info3 rfl (by decide) (by omega) v155 y154 t157 _ _ _ (fun k_ => some k_ ≠ (.slice Ao15 t157.length co15 : Value).ownBlock) (fun _ => False) rfl rfl ?aO ?aR (fun _ _ h => h) (fun _ h => h.elim) ?aF ?aB ?aS ?aL ?_; (case aR => repeat (first | exact (Kd.R_reads' HO159.out).2.2 | (with_reducible refine Kd.C_alloc ?_ _) | (with_reducible refine Kd.C_drewN ?_ _) | (with_reducible refine Kd.C_drew ?_))); (case aB => exact kW); (case aF => exact (fun k_ hk => Kd.fresh' (Kd.R_lt (kR HO159)) k_ hk)); (case aO => exact (mq15 HO156)); (case aS => exact (below_size kW)); (case aL => have := LMc8.out; omega); intro v161 w14 ho hb hg hat; rw [← Ny160.out] at ho; replace BK153 := (kG BK153 hg (Kd.R_ne HO156.out BK153.out (by decide))); replace HO159 := ak (Kd.R_after (ok := (fun _ => True)) (kR HO159) hg hat); replace HB := ak (hb); have HO162 := ak (ho); clear HO156; clear ho hb hg hat))
         go_roundg k1
         case measure => have := HK1.out; omega
         case rel => exact ⟨(y160), (wrap64 (x8_1 + 1)), mq39, H', ⟨mq47 HK1⟩, ⟨mq16 HO162⟩, ⟨kW⟩⟩
        ·rw [if_neg c8] at H
         exact absurd H (by simp)
       ·rw [if_neg c6] at H
        exact absurd H (by simp)
      ·rw [if_neg c5] at H
       have c5b0 : (((rd_T27 l0 x8_1).f0) == 1) = false := beq_eq_false_iff_ne.mpr c5
       have c5b1 : (((rd_T27 l0 x8_1).f0) != 1) = true := bne_iff_ne.mpr c5
       replace H := Option.bind_eq_some_iff.mp H
       obtain ⟨t163, A160, H⟩ := H
       replace H : (if x3_1.length + t163.length < 17592186044416 then (cell_Leaves.l0 k1 (x3_1 ++ t163) l0 (l0.length : Int) (wrap64 (x8_1 + 1))) else (none)) = some r := H
       have A16 := ak A160
       clear A160
       by_cases c17 : x3_1.length + t163.length < 17592186044416
       ·rw [if_pos c17] at H
        have LMc17 := ak c17
        clear c17
        obtain ⟨y166, hy166⟩ : ∃ y_ : List Int, y_ = (x3_1 ++ t163) := ⟨_, rfl⟩
        replace H : (cell_Leaves.l0 k1 y166 l0 (l0.length : Int) (wrap64 (x8_1 + 1))) = some r := mq33 hy166
        have Ny166 := ak hy166
        clear hy166
        have H' := ak H
        clear H
        have p152 : 0 ≤ (x8_1 : Int) := of_decide_eq_true mq34
        have q152 : x8_1 < (l0.length : Int) := of_decide_eq_true mq34
        obtain ⟨ad152, A152_6, c152_6, e152, hx152_0, hx152_1, hx152_2, hx152_3, hx152_4, hx152_5, hx152_6, HC152_6, HR152_6⟩ := elC27 HB HR0 x8_1 p152 q152
        cases e152
        replace p152 := eq_true p152
        replace q152 := eq_true q152
        go_wp2_with (first | ((with_reducible refine gate_dst (N := 5) rfl ?_); refine bxe 5 #[.int .u8 0, .int .i64 0, .int .i64 0, .int .i64 0, .int .i64 0, .int .i64 0, .slice none 0 0] 27 (h := ?_); intro gb153 hg w18 hbox hb; replace HO_3 := ak (Kd.R_below (kR HO_3) hb); have BK153 := ak (hbox); have GW153 := ak ((mq53 : w.heap.size ≤ gb153)); have GE153 := ak ((mq53 : w.heap.size ≤ gb153)); replace HB := ak (below_step kW hb); clear hb hbox hg; obtain ⟨hcz19_0, hcz19_1, hcz19_2, hcz19_3, hcz19_4, hcz19_5, hcz19_6⟩ := cz7 BK153; obtain ⟨hfz19_0, hfz19_1, hfz19_2, hfz19_3, hfz19_4, hfz19_5, hfz19_6⟩ := fz7 BK153) | ((with_reducible refine gate_callee (f := 34) rfl ?_); refine gol (some 23) Tryz.func34 #[.slice A152_6 ((rd_T27 l0 x8_1).f3).length c152_6] (h := ?_); (with_reducible refine (ih k1 (mq47 HK1) _ _ ((rd_T27 l0 x8_1).f3) t163 _ ?side1 ?side2 A16.out).mono ?_); (case side1 => exact Kd.C_below HR152_6.out kW); (case side2 => exact HC152_6.out); rintro e w20 ⟨v164, rfl, ho0, hb⟩; refine ⟨_, rfl, ?_⟩; have HO165 := ak (Kd.R_lower (Kd.R_new' ho0 (Kd.R_lt (mq8 HO_3 BK153))) (below_size kW)); replace HO_3 := ak (Kd.R_elder' (mq8 HO_3 BK153) (Kd.R_base ho0) hb); replace BK153 := ak (blk_below (g := gb153) (o := .cells #[.int .u8 ((rd_T27 l0 x8_1).f0), .int .i64 ((rd_T27 l0 x8_1).f1.f0), .int .i64 ((rd_T27 l0 x8_1).f1.f1), .int .i64 ((rd_T27 l0 x8_1).f1.f2), .int .i64 ((rd_T27 l0 x8_1).f1.f3), .int .i64 ((rd_T27 l0 x8_1).f2), .slice A152_6 ((rd_T27 l0 x8_1).f3).length c152_6] 27 (0, 0)) (kP7 BK153) hb); replace HB := ak (below_step kW hb); (try clear hb); (try clear hb2); (try clear hk); (try clear hi); (try clear ho0); obtain ⟨Ao22, co22, eo22⟩ := Kd.R_slice HO165.out; subst eo22) | ((with_reducible refine gate_builtin (b := .append) (xs := #[.tmp 20, .tmp 23]) rfl ?_); at_builtin; refine Kd.R_append_rows (Kd.int .i64) (w0 := w) w.heap.size rfl (.tmp 20) (.tmp 23) 45 3 (.int .i64 0) 8 rfl Tryz.underlying45 info3 rfl (by decide) (by omega) u3 x3_1 t163 _ _ _ (fun k_ => some k_ ≠ (.slice Ao22 t163.length co22 : Value).ownBlock) (fun _ => False) rfl rfl ?aO ?aR (fun _ _ h => h) (fun _ h => h.elim) ?aF ?aB ?aS ?aL ?_; (case aR => repeat (first | exact (Kd.R_reads' HO165.out).2.2 | (with_reducible refine Kd.C_alloc ?_ _) | (with_reducible refine Kd.C_drewN ?_ _) | (with_reducible refine Kd.C_drew ?_))); (case aB => exact kW); (case aF => exact (fun k_ hk => Kd.fresh' (Kd.R_lt (kR HO165)) k_ hk)); (case aO => exact (mq15 HO_3)); (case aS => exact (below_size kW)); (case aL => have := LMc17.out; omega); intro v167 w21 ho hb hg hat; rw [← Ny166.out] at ho; replace BK153 := (kG BK153 hg (Kd.R_ne HO_3.out BK153.out (by decide))); replace HO165 := ak (Kd.R_after (ok := (fun _ => True)) (kR HO165) hg hat); replace HB := ak (hb); have HO168 := ak (ho); clear HO_3; clear ho hb hg hat))
        go_roundg k1
        case measure => have := HK1.out; omega
        case rel => exact ⟨(y166), (wrap64 (x8_1 + 1)), mq39, H', ⟨mq47 HK1⟩, ⟨mq16 HO168⟩, ⟨kW⟩⟩
       ·rw [if_neg c17] at H
        exact absurd H (by simp)
     ·rw [if_neg c4] at H
      exact absurd H (by simp)
    ·rw [if_neg c3] at H
     exact absurd H (by simp)
   ·rw [if_neg c2] at H
    have c2b0 : decide (x8_1 < (l0.length : Int)) = false := decide_eq_false c2
    clear c2
    obtain rfl := Option.some.inj H
    go_wp2
    go_ret
    exact ⟨_, mq37, mq24 HO_3, kW⟩
def sashref05_IDs.l0 : Nat → List Int → List (S27) → Int → Int → Option (List Int)
 | 0, _, _, _, _ => none
 | k + 1, x3, x4, x10, x11 => if x11 < x10 then (if 0 ≤ x11 then (if x11 < (x4.length : Int) then (if x3.length < 17592186044416 then (sashref05_IDs.l0 k (x3 ++ [(rd_T27 x4 x11).f2]) x4 x10 (wrap64 (x11 + 1))) else (none)) else (none)) else (none)) else (some x3)
def sashref05_IDs.f (k : Nat) (a0_0 : Int) (a0_1 : Int) (a0_2 : Int) (a0_3 : Int) (a0_4 : Int) (a0_5 : Int) (l0_6 : List (S27)) : Option (List Int) := (sashref05_Leaves.f k a0_0 a0_1 a0_2 a0_3 a0_4 a0_5 l0_6).bind fun t466 => (sashref05_IDs.l0 k (([] : List Int)) t466 (t466.length : Int) 0)
set_option maxHeartbeats 8000000 in
set_option maxRecDepth 100000 in
theorem sashref05_IDs.calls (k : Nat) (a0_0 : Int) (a0_1 : Int) (a0_2 : Int) (a0_3 : Int) (a0_4 : Int) (a0_5 : Int) (A0_6 : Option Addr) (c0_6 : Nat) (l0_6 : List (S27)) (r : List Int) (w : World) (hr0_6 : Kd.C k27 w A0_6 l0_6.length l0_6) (hc0_6 : l0_6.length ≤ c0_6) (h : sashref05_IDs.f k a0_0 a0_1 a0_2 a0_3 a0_4 a0_5 l0_6 = some r) :
  Calls Tryz.prog 19 #[.agg #[.int .u8 a0_0, .int .i64 a0_1, .int .i64 a0_2, .int .i64 a0_3, .int .i64 a0_4, .int .i64 a0_5, .slice A0_6 l0_6.length c0_6]] w fun e w' => ∃ v0_ : Value, e = .returned (v0_) ∧ Kd.R (Kd.int .i64) 3 w' w.heap.size (fun _ => True) v0_ r ∧ Below w.heap.size w w' := by
 have hu27 := Tryz.underlying27
 have HR0_6 := ak hr0_6
 have HC0_6 := ak hc0_6
 clear hr0_6 hc0_6
 have HB := ak (Below.refl w.heap.size w)
 have H : ((sashref05_Leaves.f k a0_0 a0_1 a0_2 a0_3 a0_4 a0_5 l0_6).bind fun t466 => (sashref05_IDs.l0 k (([] : List Int)) t466 (t466.length : Int) 0)) = some r := h
 clear h
 obtain ⟨y463, hy463⟩ : ∃ y_ : List Int, y_ = (([] : List Int)) := ⟨_, rfl⟩
 replace H : ((sashref05_Leaves.f k a0_0 a0_1 a0_2 a0_3 a0_4 a0_5 l0_6).bind fun t466 => (sashref05_IDs.l0 k y463 t466 (t466.length : Int) 0)) = some r := mq33 hy463
 have Ny463 := ak hy463
 clear hy463
 replace H := Option.bind_eq_some_iff.mp H
 obtain ⟨t466, A20, H⟩ := H
 replace H : (sashref05_IDs.l0 k y463 t466 (t466.length : Int) 0) = some r := H
 have A2 := ak A20
 clear A20
 have H' := ak H
 clear H
 go_enter Tryz.func19, Tryz.ntmps19
 go_wp2_with (first | ((with_reducible refine gate_dst (N := 1) rfl ?_); refine bxe 1 #[.int .u8 a0_0, .int .i64 a0_1, .int .i64 a0_2, .int .i64 a0_3, .int .i64 a0_4, .int .i64 a0_5, .slice A0_6 l0_6.length c0_6] 27 (h := ?_); intro gb462 hg w3 hbox hb; have BK462 := ak (hbox); have GW462 := ak ((mq53 : w.heap.size ≤ gb462)); have GE462 := ak ((mq53 : w.heap.size ≤ gb462)); replace HB := ak (below_step kW hb); clear hb hbox hg) | ((with_reducible refine gate_dst (N := 6) rfl ?_); refine Kd.R_lit (Kd.int .i64) _ 3 ?hg (N := 6) ?hd (xs := ([] : List Int)) (inner := []) (ok := fun _ => True) (okp := fun _ => True) ?hr ?hp (fun _ hk => hk) trivial (Below.refl _ _) (Nat.le_refl _) (by simp) ?_; (case hd => rfl); (case hg => rfl); (case hr => first | (go_simp; done) | (go_simp; rfl)); (case hp => exact (Reps.none _ _)); intro v464 w4 ho5 hb hg_ hnew_; clear hg_ hnew_; (first | rw [← Ny463.out] at ho5 | (simp only [Int.reduceToNat] at ho5; rw [← Ny463.out] at ho5)); have HO465 := ak (Kd.R_lower ho5 (below_size kW)); replace BK462 := (kB BK462 hb); replace HB := ak (below_step kW hb); clear hb ho5; obtain ⟨hcz6_0, hcz6_1, hcz6_2, hcz6_3, hcz6_4, hcz6_5, hcz6_6⟩ := cz7 BK462; obtain ⟨hfz6_0, hfz6_1, hfz6_2, hfz6_3, hfz6_4, hfz6_5, hfz6_6⟩ := fz7 BK462) | ((with_reducible refine gate_callee (f := 36) rfl ?_); refine gol (some 8) Tryz.func36 #[.agg #[.int .u8 a0_0, .int .i64 a0_1, .int .i64 a0_2, .int .i64 a0_3, .int .i64 a0_4, .int .i64 a0_5, .slice A0_6 l0_6.length c0_6]] (h := ?_); (with_reducible refine (sashref05_Leaves.calls k a0_0 a0_1 a0_2 a0_3 a0_4 a0_5 (fun k_ => k_ < w.heap.size) _ _ l0_6 t466 _ ?side1 A2.out).mono ?_); (case side1 => exact Kd.V_mk HC0_6.out (Kd.F_below (Kd.C_F k27_heap HR0_6.out) kW)); rintro e w7 ⟨v467, rfl, ho0, hb⟩; refine ⟨_, rfl, ?_⟩; have HO468 := ak (Kd.N_lower (Kd.N_mono (ok' := fun k_ => some k_ ≠ (v464 : Value).ownBlock ∧ k_ ≠ gb462) ho0 (fun k_ hk_ => ⟨Or.elim hk_ (fun hs_ => fun e_ => Nat.not_le.2 hs_ (Kd.R_base HO465.out k_ e_.symm)) (fun hn_ => (Kd.fresh' (Kd.R_lt (kR HO465)) k_ hn_)), Or.elim hk_ (fun hs_ => fun e_ => Nat.not_le.2 hs_ (by rw [e_]; exact GW462.out)) (fun hn_ => (Kd.freshB (g := gb462) (o := .cells #[.int .u8 a0_0, .int .i64 a0_1, .int .i64 a0_2, .int .i64 a0_3, .int .i64 a0_4, .int .i64 a0_5, .slice A0_6 l0_6.length c0_6] 27 (0, 0)) (kA BK462) k_ hn_))⟩)) (below_size kW)); replace HO465 := ak (Kd.R_below (kR HO465) hb); replace BK462 := (kB BK462 hb); replace HB := ak (below_step kW hb); (try clear hb); (try clear hb2); (try clear hk); (try clear hi); (try clear ho0); obtain ⟨Ao8, co8, eo8⟩ := Kd.N_slice HO468.out; subst eo8))
 go_loopg [3, 11] k (fun kq v3 v11 w' => ∃ (x3_1 : List Int) (x11_1 : Int), v11 = .int .i64 x11_1 ∧ Aside0 (sashref05_IDs.l0 kq x3_1 t466 (t466.length : Int) x11_1 = some r) ∧ Aside0 (kq ≤ k) ∧ Aside0 (Kd.R (Kd.int .i64) 3 w' w.heap.size (fun _ => True) v3 x3_1) ∧ Aside0 (Kd.N k27 27 w' w.heap.size (fun k_ => some k_ ≠ (v3 : Value).ownBlock ∧ k_ ≠ gb462) (.slice Ao8 t466.length co8) t466) ∧ Aside0 (w'.heap[gb462]? = some (.cells #[.int .u8 a0_0, .int .i64 a0_1, .int .i64 a0_2, .int .i64 a0_3, .int .i64 a0_4, .int .i64 a0_5, (.slice A0_6 l0_6.length c0_6)] 27 (0, 0))) ∧ Aside0 (Below w.heap.size w w'))
 case atStart => exact ⟨(y463), (0), mq39, H', ⟨Nat.le_refl _⟩, ⟨mq24 HO465⟩, ⟨mq5 HO468⟩, ⟨mq28 BK462⟩, ⟨kW⟩⟩
 case round =>
  clear H'
  clear hcz6_0 hcz6_1 hcz6_2 hcz6_3 hcz6_4 hcz6_5 hcz6_6 hfz6_0 hfz6_1 hfz6_2 hfz6_3 hfz6_4 hfz6_5 hfz6_6
  obtain ⟨x3_1, x11_1, rfl, HA, HK1, HO_3, HO_4, BK462, HB⟩ := hrel
  cases gk with
  | zero => exact absurd HA.out (by simp [sashref05_IDs.l0])
  | succ k1 =>
   have H := HA.out
   clear HA
   simp only [sashref05_IDs.l0] at H
   by_cases c9 : x11_1 < (t466.length : Int)
   ·rw [if_pos c9] at H
    have c9b0 : decide (x11_1 < (t466.length : Int)) = true := decide_eq_true c9
    clear c9
    by_cases c10 : 0 ≤ x11_1
    ·rw [if_pos c10] at H
     have c10b0 : decide (0 ≤ x11_1) = true := decide_eq_true c10
     clear c10
     by_cases c11 : x11_1 < (t466.length : Int)
     ·rw [if_pos c11] at H
      have c11b0 : decide (x11_1 < (t466.length : Int)) = true := decide_eq_true c11
      clear c11
      by_cases c12 : x3_1.length < 17592186044416
      ·rw [if_pos c12] at H
       have LMc12 := ak c12
       clear c12
       obtain ⟨y470, hy470⟩ : ∃ y_ : List Int, y_ = (x3_1 ++ [(rd_T27 t466 x11_1).f2]) := ⟨_, rfl⟩
       replace H : (sashref05_IDs.l0 k1 y470 t466 (t466.length : Int) (wrap64 (x11_1 + 1))) = some r := mq33 hy470
       have Ny470 := ak hy470
       clear hy470
       have H' := ak H
       clear H
       have p469 : 0 ≤ (x11_1 : Int) := of_decide_eq_true mq34
       have q469 : x11_1 < (t466.length : Int) := of_decide_eq_true mq34
       obtain ⟨ad469, A469_6, c469_6, e469, hx469_0, hx469_1, hx469_2, hx469_3, hx469_4, hx469_5, hx469_6, HC469_6, HR469_6, HL469_6⟩ := elN27 w.heap.size HO_4 x11_1 p469 q469
       cases e469
       replace p469 := eq_true p469
       replace q469 := eq_true q469
       go_wp2_with (first | ((with_reducible refine gate_builtin (b := .append) (xs := #[.tmp 14, .tmp 20]) rfl ?_); at_builtin; refine Kd.R_append (Kd.int .i64) (w0 := w) w.heap.size rfl (.tmp 14) (.tmp 20) 45 3 (.int .i64 0) 8 rfl Tryz.underlying45 info3 rfl (by decide) (by omega) u3 x3_1 ((rd_T27 t466 x11_1).f2) [.int .i64 ((rd_T27 t466 x11_1).f2)] (fun _ => True) (fun _ => False) rfl rfl ?aP (fun _ hk => hk.elim) ?aF ?aO ?aB ?aS ?aL ?_; (case aP => exact rfl); (case aB => exact kW); (case aF => exact (fun _ _ => trivial)); (case aO => exact (kR HO_3)); (case aS => exact (below_size kW)); (case aL => have := LMc12.out; omega); intro v471 w13 ho hb hg hat; rw [← Ny470.out] at ho; replace HO_4 := ak (Kd.N_afterv (ok := (fun k_ => k_ ≠ gb462)) (by (with_reducible repeat (first | apply Kd.N_alloc | apply Kd.N_drewN | apply Kd.N_drew)); exact Kd.N_mono HO_4.out (fun _ hk => ⟨hk.2, hk.1⟩)) hg hat); replace BK462 := (kG BK462 hg (Kd.R_ne HO_3.out BK462.out (by decide))); replace HL469_6 := ak (Kd.V_afterv (ok := (fun k_ => some k_ ≠ (.slice (some ad469) t466.length co8 : Value).ownBlock ∧ k_ ≠ gb462)) (by (with_reducible repeat (first | apply Kd.V_alloc | apply Kd.V_drewN | apply Kd.V_drew)); exact Kd.V_mono HL469_6.out (fun _ hk => ⟨⟨hk.2, hk.1.2⟩, hk.1.1⟩)) hg hat); replace HB := ak (hb); have HO472 := ak (ho); clear HO_3; clear ho hb hg hat))
       go_roundg k1
       case measure => have := HK1.out; omega
       case rel => exact ⟨(y470), (wrap64 (x11_1 + 1)), mq39, H', ⟨mq47 HK1⟩, ⟨mq24 HO472⟩, ⟨by (with_reducible repeat (first | apply Kd.N_alloc | apply Kd.N_drewN | apply Kd.N_drew)); exact Kd.N_mono HO_4.out (fun _ hk => ⟨hk.2, hk.1⟩)⟩, ⟨mq28 BK462⟩, ⟨kW⟩⟩
      ·rw [if_neg c12] at H
       exact absurd H (by simp)
     ·rw [if_neg c11] at H
      exact absurd H (by simp)
    ·rw [if_neg c10] at H
     exact absurd H (by simp)
   ·rw [if_neg c9] at H
    have c9b0 : decide (x11_1 < (t466.length : Int)) = false := decide_eq_false c9
    clear c9
    obtain rfl := Option.some.inj H
    go_wp2
    go_ret
    exact ⟨_, mq37, mq24 HO_3, kW⟩
end Go.Proofs.YtkobpbbegalfpaaGreatDoor.PParseBodies
namespace Go.Proofs.YtkobpbbegalfpaaGreatDoor
open Go.RowKit YtkobpbbegalfpaaGreatDoorW.PrintWords YtkobpbbegalfpaaGreatDoorW.PrintLast YtkobpbbegalfpaaGreatDoorW.PrintMore
set_option linter.unusedVariables false
def OutH (w : World) (r : Int × Int) (e : Ending) (w' : World) : Prop := e = .returned (.tuple #[.int .u16 r.1, .int .i64 r.2]) ∧ Below w.heap.size w w'
set_option maxHeartbeats 1000000 in
theorem rhex_calls (s : ByteArray) (hs : s.size ≤ 140737488355328) (w : World) (hT : NumT w) (hE : NumE w) : Calls Tryz.prog 53 #[.string s] w (OutH w (rhR s)) := by
 rw [rhR_of]
 have HT := ak hT
 have HE := ak hE
 clear hT hE
 rcases hr : hexRead s with _ | u
 ·have HP := ak (puint16_err s (by omega) hr w HE.out)
  clear hr
  go_enter Tryz.func53, Tryz.ntmps53
  go_wp2_with (go_at_call 82; refine HP.out.mono ?_; rintro e w1 ⟨x, N, rfl, hb⟩)
  go_ret2
  exact ⟨rfl, hb⟩
 ·have hr2 := hexRead_range hr
  have HP := ak (puint16_ok s (by omega) u hr w)
  have HH := ak (fun w1 (hb : Below w.heap.size w w1) => hex_calls u hr2.1 (by omega) w1 (HT.out.below hb))
  have hw : IntKind.u16.wrap u = u := by rw [show IntKind.u16.wrap u = u % 65536 by simp [IntKind.wrap, IntKind.bits, IntKind.signed]]; omega
  obtain ⟨h0, h1⟩ := hr2
  clear hr
  by_cases he : hex4 u = s
  ·have hte : ((hex4 u).toList == s.toList) = true := by rw [he]; simp
   have hte2 : ((hex4 u).toList = s.toList) := by rw [he]
   simp only [if_pos he]
   have HQ := ak he
   clear he
   generalize hex4 u = x at *
   go_enter Tryz.func53, Tryz.ntmps53
   go_wp2_with (first | (go_at_call 82; refine HP.out.mono ?_; rintro e w1 ⟨rfl, hb⟩; replace hb := ak hb) | (go_at_call 61; refine (HH.out _ hb.out).mono ?_; rintro e w2 ⟨rfl, hb2⟩))
   go_ret2
   exact ⟨rfl, hb.out.trans (hb2.mono hb.out.size)⟩
  ·have hte2 : ¬ (hex4 u).toList = s.toList := fun h => he (bytes_ext h)
   have hte : ((hex4 u).toList == s.toList) = false := by simpa using hte2
   simp only [if_neg he]
   clear he
   generalize hex4 u = x at *
   go_enter Tryz.func53, Tryz.ntmps53
   go_wp2_with (first | (go_at_call 82; refine HP.out.mono ?_; rintro e w1 ⟨rfl, hb⟩; replace hb := ak hb) | (go_at_call 61; refine (HH.out _ hb.out).mono ?_; rintro e w2 ⟨rfl, hb2⟩))
   go_ret2
   exact ⟨rfl, hb.out.trans (hb2.mono hb.out.size)⟩
end Go.Proofs.YtkobpbbegalfpaaGreatDoor
namespace Go.Proofs.YtkobpbbegalfpaaGreatDoor
open Go.RowKit YtkobpbbegalfpaaGreatDoorW.PrintWords YtkobpbbegalfpaaGreatDoorW.PrintLast YtkobpbbegalfpaaGreatDoorW.PrintMore PParseBodies
set_option linter.unusedVariables false
def cutR (s : ByteArray) : ByteArray × Int :=
 if 65535 < s.size then (⟨#[]⟩, 3) else if s.size < 5 then (⟨#[]⟩, 2) else if ¬ bt s 4 = 44 then (⟨#[]⟩, 2)
 else match unhexS (s.extract 0 4) with
  | none => (⟨#[]⟩, 2)
  | some c => if c = sumL 0 (s.extract 5 s.size).data.toList then (s.extract 5 s.size, 0) else (⟨#[]⟩, 4)
def OutC (w : World) (r : ByteArray × Int) (e : Ending) (w' : World) : Prop := e = .returned (.tuple #[.string r.1, .int .i64 r.2]) ∧ Below w.heap.size w w'
theorem bt4 (s : ByteArray) (h : 4 < s.size) : bt s 4 = ((s[4]'h).toNat : Int) := bt_nat s 4 h
set_option maxRecDepth 100000 in
set_option maxHeartbeats 2000000 in
theorem cut_calls (s : ByteArray) (hs : s.size ≤ 1000000) (w : World) (hT : NumT w) (hE : NumE w) : Calls Tryz.prog 29 #[.string s] w (OutC w (cutR s)) := by
 unfold cutR
 have HT := ak hT
 have HE := ak hE
 clear hT hE
 by_cases h1 : 65535 < s.size
 ·rw [if_pos h1]
  go_enter Tryz.func29, Tryz.ntmps29
  go_wp2
  go_ret2
  exact ⟨rfl, Below.refl _ _⟩
 ·rw [if_neg h1]
  by_cases h2 : s.size < 5
  ·rw [if_pos h2]
   go_enter Tryz.func29, Tryz.ntmps29
   go_wp2
   go_ret2
   exact ⟨rfl, Below.refl _ _⟩
  ·rw [if_neg h2]
   have h4 : 4 < s.size := by omega
   rw [bt4 s h4]
   by_cases h3 : ¬ ((s[4]'h4).toNat : Int) = 44
   ·rw [if_pos h3]
    have q3 : (((s[4]'h4).toNat : Int) == 44) = false := by simpa using h3
    have q4 : (((s[4]'h4).toNat : Int) != 44) = true := by simpa using h3
    go_enter Tryz.func29, Tryz.ntmps29
    go_wp2
    go_ret2
    exact ⟨rfl, Below.refl _ _⟩
   ·rw [if_neg h3]
    have h3' : ((s[4]'h4).toNat : Int) = 44 := by omega
    clear h3
    have HH := ak (rhex_calls (s.extract 0 4) (by simp; omega) w HT.out HE.out)
    unfold rhR at HH
    have hxs : (s.extract 5 s.size).size ≤ 1000000 := by simp; omega
    have HO := ak (of1_calls (s.extract 5 s.size) (by omega))
    have hn := sumL_range (s.extract 5 s.size).data.toList 0 (by omega) (by omega)
    clear hxs
    rcases hu : unhexS (s.extract 0 4) with _ | c
    ·rw [hu] at HH
     clear hu hn HO
     go_enter Tryz.func29, Tryz.ntmps29
     go_wp2_with (go_at_call 53; refine HH.out.mono ?_; rintro e w1 ⟨rfl, hb⟩)
     go_ret2
     exact ⟨rfl, hb⟩
    ·rw [hu] at HH
     have hc := unhexS_range hu
     clear hu
     generalize sumL 0 (s.extract 5 s.size).data.toList = n at *
     simp only
     by_cases he : c = n
     ·rw [if_pos he]
      subst he
      go_enter Tryz.func29, Tryz.ntmps29
      go_wp2_with (first | (go_at_call 53; refine HH.out.mono ?_; rintro e w1 ⟨rfl, hb⟩; replace hb := ak hb) | (go_at_call 54; refine (HO.out _).mono ?_; rintro e w2 ⟨rfl, hb2⟩))
      go_ret2
      exact ⟨rfl, hb.out.trans (hb2.mono hb.out.size)⟩
     ·rw [if_neg he]
      have qe : (c == n) = false := by simpa using he
      go_enter Tryz.func29, Tryz.ntmps29
      go_wp2_with (first | (go_at_call 53; refine HH.out.mono ?_; rintro e w1 ⟨rfl, hb⟩; replace hb := ak hb) | (go_at_call 54; refine (HO.out _).mono ?_; rintro e w2 ⟨rfl, hb2⟩))
      go_ret2
      exact ⟨rfl, hb.out.trans (hb2.mono hb.out.size)⟩
set_option linter.unusedSimpArgs false
set_option maxRecDepth 100000
def Tr (B : Nat) (w : World) (A : Option Addr) (n : Nat) (xs : List SC) : Prop := Kd.F k27 w (fun k => k < B) A n xs
theorem Tr.now {B : Nat} {w : World} {A : Option Addr} {n : Nat} {xs : List SC} (h : Tr B w A n xs) : (k27).C w A n xs := Kd.F_now h
theorem Tr.of {w : World} {A : Option Addr} {n : Nat} {xs : List SC} (h : (k27).C w A n xs) : Tr w.heap.size w A n xs := fun W' hW => k27_heap.C (fun k hk => hW k hk hk) h
theorem Tr.mono {B B' : Nat} {w : World} {A : Option Addr} {n : Nat} {xs : List SC} (h : Tr B w A n xs) (hB : B ≤ B') : Tr B' w A n xs := Kd.F_mono h (fun k hk => Nat.lt_of_lt_of_le hk hB)
theorem Tr.below {B : Nat} {w w' : World} {A : Option Addr} {n : Nat} {xs : List SC} (h : Tr B w A n xs) (hb : Below B w w') : Tr B w' A n xs := Kd.F_step h (fun k hk _ => hb.block k hk)
theorem Tr.len {B : Nat} {w : World} {A : Option Addr} {n : Nat} {xs : List SC} (h : Tr B w A n xs) : xs.length = n := Kd.F_len h
theorem Tr.max {B : Nat} {w : World} {A : Option Addr} {n : Nat} {xs : List SC} (h : Tr B w A n xs) : n ≤ 9223372036854775807 := Kd.F_max h
theorem Tr.get {B : Nat} {w : World} {A : Option Addr} {n : Nat} {xs : List SC} (h : Tr B w A n xs) (k : Nat) (hk : k < n) : ∃ ad A6 c6, A = some ad ∧
  w.cell? (ad.add (k * 7)) = some (.int .u8 (xs.getD k z27).f0) ∧
  w.cell? ⟨(ad.add (k * 7)).block, (ad.add (k * 7)).off + 1, none⟩ = some (.int .i64 (xs.getD k z27).f1.f0) ∧
  w.cell? ⟨(ad.add (k * 7)).block, (ad.add (k * 7)).off + 2, none⟩ = some (.int .i64 (xs.getD k z27).f1.f1) ∧
  w.cell? ⟨(ad.add (k * 7)).block, (ad.add (k * 7)).off + 3, none⟩ = some (.int .i64 (xs.getD k z27).f1.f2) ∧
  w.cell? ⟨(ad.add (k * 7)).block, (ad.add (k * 7)).off + 4, none⟩ = some (.int .i64 (xs.getD k z27).f1.f3) ∧
  w.cell? ⟨(ad.add (k * 7)).block, (ad.add (k * 7)).off + 5, none⟩ = some (.int .i64 (xs.getD k z27).f2) ∧
  w.cell? ⟨(ad.add (k * 7)).block, (ad.add (k * 7)).off + 6, none⟩ = some (.slice A6 (xs.getD k z27).f3.length c6) ∧
  (xs.getD k z27).f3.length ≤ c6 ∧ Tr B w A6 (xs.getD k z27).f3.length (xs.getD k z27).f3 := by
 obtain ⟨ad, c, e, _, hK, hc0, _⟩ := Kd.F_get h z27 (k : Int) (by omega) (by omega)
 rw [Int.toNat_natCast] at hK hc0
 have hc : ∀ j u, c[j]? = some u → w.cell? (ad.add (k * 7 + j)) = some u := hc0
 obtain ⟨A6, c6, rfl, l6, g6⟩ := k27_openF hK
 exact ⟨ad, A6, c6, e, hc 0 _ rfl, by rw [← add_field _ _ 1 (by omega)]; exact hc 1 _ rfl, by rw [← add_field _ _ 2 (by omega)]; exact hc 2 _ rfl, by rw [← add_field _ _ 3 (by omega)]; exact hc 3 _ rfl, by rw [← add_field _ _ 4 (by omega)]; exact hc 4 _ rfl, by rw [← add_field _ _ 5 (by omega)]; exact hc 5 _ rfl, by rw [← add_field _ _ 6 (by omega)]; exact hc 6 _ rfl, l6, g6⟩
def Loose (B N : Nat) (w : World) (k : Nat) : Prop := B ≤ k ∧ (k < N ∨ ∃ cs, w.heap[k]? = some (.cells cs 24 (0, 0)))
structure Mid (B N : Nat) (w w' : World) : Prop where mk :: (out : Keeps (Loose B N w) w w')
theorem Mid.refl (B N : Nat) (w : World) : Mid B N w w := ⟨Keeps.refl _ _⟩
theorem Mid.size {B N : Nat} {w w' : World} (h : Mid B N w w') : w.heap.size ≤ w'.heap.size := h.out.size
theorem Mid.trans {B N : Nat} {a b c : World} (h : Mid B N a b) (k : Mid B N b c) : Mid B N a c :=
 ⟨⟨k.out.os.trans h.out.os, k.out.tape.trans h.out.tape, k.out.output.trans h.out.output, Nat.le_trans h.out.size k.out.size, fun i hi hn => by
  have e := h.out.block i hi hn
  refine (k.out.block i (Nat.lt_of_lt_of_le hi h.out.size) (fun hl => hn ⟨hl.1, hl.2.imp id (fun ⟨cs, hc⟩ => ⟨cs, ?_⟩)⟩)).trans e
  rw [← e]; exact hc⟩⟩
theorem Mid.below {B N : Nat} {a b c : World} (h : Mid B N a b) (k : Below b.heap.size b c) : Mid B N a c := ⟨h.out.below k⟩
theorem Mid.ofBelow {B N : Nat} {w w' : World} (h : Below w.heap.size w w') : Mid B N w w' := (Mid.refl B N w).below h
theorem Mid.setCell {B N : Nat} {a b : World} (h : Mid B N a b) {p : Addr} (hp : B ≤ p.block ∧ p.block < N) (u : Value) : Mid B N a (b.setCell p u) := ⟨h.out.setCell ⟨hp.1, .inl hp.2⟩ u⟩
theorem Mid.grown {B N : Nat} {a b c : World} {row : Option Nat} (h : Mid B N a b) (hg : b.grownBy c row) (hr : ∀ k, row = some k → B ≤ k ∧ k < N) : Mid B N a c := ⟨h.out.grown hg (fun k hk => ⟨(hr k hk).1, .inl (hr k hk).2⟩)⟩
theorem Mid.grownR {B N : Nat} {b c : World} {row : Option Nat} (hg : b.grownBy c row) (hr : ∀ k, row = some k → B ≤ k ∧ ∃ cs, b.heap[k]? = some (.cells cs 24 (0, 0))) : Mid B N b c :=
 ⟨(Keeps.refl _ _).grown hg (fun k hk => ⟨(hr k hk).1, .inr (hr k hk).2⟩)⟩
theorem Mid.toB {B N : Nat} {w w' : World} (h : Mid B N w w') (hB : B ≤ w.heap.size) : Below B w w' := h.out.toBelow hB (fun _ hk => hk.1)
theorem Mid.blk {B N : Nat} {w w' : World} (h : Mid B N w w') {p t : Nat} {cs : Array Value} (hc : w.heap[p]? = some (.cells cs t (0, 0))) (hN : N ≤ p) (ht : t ≠ 24) : w'.heap[p]? = some (.cells cs t (0, 0)) :=
 (h.out.block p (blk_lt hc) (fun hk => by
  rcases hk.2 with h1 | ⟨cs', h1⟩
  ·omega
  ·rw [hc] at h1
   injection h1 with h1
   injection h1 with _ h1
   exact ht h1)).trans hc
structure Stable {σ : Type} (Inv : World → σ → Nat → Prop) : Prop where
 below : ∀ w w' st u, Inv w st u → Below w.heap.size w w' → Inv w' st u
 mono : ∀ w st u u', Inv w st u → u ≤ u' → Inv w st u'
def PredF {σ : Type} (B N M g : Nat) (lb : Array Value) (Inv : World → σ → Nat → Prop) (wt : SC → Nat) (F : σ → SC → Bool × σ) (xs : List SC) : Prop :=
 ∀ x ∈ xs, ∀ (w : World) (st : σ) (u : Nat) (A : Option Addr) (cap : Nat), Inv w st u → u + wt x ≤ M → N ≤ w.heap.size → x.f3.length ≤ cap → Tr B w A x.f3.length x.f3 →
  Calls Tryz.prog g (#[.agg #[.int .u8 x.f0, .int .i64 x.f1.f0, .int .i64 x.f1.f1, .int .i64 x.f1.f2, .int .i64 x.f1.f3, .int .i64 x.f2, .slice A x.f3.length cap]] ++ lb) w
   fun e w' => e = .returned (.bool (F st x).1) ∧ Inv w' (F st x).2 (u + wt x) ∧ Mid B N w w'
theorem PredF.sub {σ : Type} {B N M g : Nat} {lb : Array Value} {Inv : World → σ → Nat → Prop} {wt : SC → Nat} {F : σ → SC → Bool × σ} {xs ys : List SC} (h : PredF B N M g lb Inv wt F xs) (hs : ∀ x ∈ ys, x ∈ xs) : PredF B N M g lb Inv wt F ys := fun x hx => h x (hs x hx)
theorem anyL_drop {σ : Type} (F : σ → SC → Bool × σ) (st : σ) (xs : List SC) (k : Nat) (hk : k < xs.length) :
  anyL F st (xs.drop k) = if (F st (xs.getD k z27)).1 = true then (true, (F st (xs.getD k z27)).2) else anyL F (F st (xs.getD k z27)).2 (xs.drop (k + 1)) := by
 rw [List.drop_eq_getElem_cons hk, List.getD_eq_getElem?_getD, List.getElem?_eq_getElem hk]
 rfl
def wts (wt : SC → Nat) (xs : List SC) : Nat := (xs.map wt).sum
theorem wts_drop (wt : SC → Nat) (xs : List SC) (k : Nat) (hk : k < xs.length) : wts wt (xs.drop k) = wt (xs.getD k z27) + wts wt (xs.drop (k + 1)) := by
 rw [List.drop_eq_getElem_cons hk, List.getD_eq_getElem?_getD, List.getElem?_eq_getElem hk]
 simp only [wts, List.map_cons, List.sum_cons]
 rfl
theorem wts_cells (l : List SC) : wts (fun k => (cells k).length) l = (cellsL l).length := by
 induction l with
 | nil => simp [wts, cellsL_nil]
 | cons c l ih =>
  rw [cellsL_cons, List.length_append, ← ih]
  simp [wts]
set_option maxHeartbeats 4000000 in
theorem ifn_calls {σ : Type} (B N M g : Nat) (lb : Array Value) (eg : ∀ args w, (callFunc g args).run Tryz.prog w = .ok (.enter g args) w) (Inv : World → σ → Nat → Prop) (hI : Stable Inv) (wt : SC → Nat) (F : σ → SC → Bool × σ)
  (A : Option Addr) (n c : Nat) (xs : List SC) (w : World) (st : σ) (u : Nat) (hBN : B ≤ N) (hN : N ≤ w.heap.size) (hP : PredF B N M g lb Inv wt F xs) (hr : Tr B w A n xs) (hi : Inv w st u) (hu : u + wts wt xs ≤ M) :
  Calls Tryz.prog 100 #[.slice A n c, .func (.func g) #[] lb] w fun e w' => ∃ r : Int, e = .returned (.int .i64 r) ∧ decide (0 ≤ r) = (anyL F st xs).1 ∧ Inv w' (anyL F st xs).2 (u + wts wt xs) ∧ Mid B N w w' := by
 have HP := ak hP
 have HR := ak hr
 have HI := ak hi
 have HII := ak hI
 have hmax := hr.max
 have hlen := ak hr.len
 obtain ⟨T, hT⟩ : ∃ T, T = u + wts wt xs := ⟨_, rfl⟩
 rw [← hT] at hu ⊢
 have HT := ak hT
 clear hP hr hi hI hT
 go_enter Tryz.func100, Tryz.ntmps100
 go_wp2
 go_loopw [5, 8] (fun _ i wr => ∃ (k : Nat) (s : σ) (v : Nat), k ≤ n ∧ i = .int .i64 k ∧ Aside0 (Inv wr s v ∧ Mid B N w wr ∧ anyL F s (xs.drop k) = anyL F st xs ∧ v + wts wt (xs.drop k) = T)) (fun _ i _ => n - (intOf i).toNat)
 case atStart => exact ⟨0, st, u, by omega, rfl, ⟨HI.out, Mid.refl _ _ _, rfl, HT.out.symm⟩⟩
 case round =>
  obtain ⟨k, s, v, hk, rfl, HA⟩ := hrel
  have hsz := HA.out.2.1.size
  by_cases hlt : k < n
  ·obtain ⟨ad, A6, c6, rfl, g0, g1, g2, g3, g4, g5, g6, hl6, hT6⟩ := (HR.out.below (HA.out.2.1.toB (by omega))).get k hlt
   have hd := anyL_drop F s xs k (by have := hlen.out; omega)
   have hw := wts_drop wt xs k (by have := hlen.out; omega)
   rw [HA.out.2.2.1] at hd
   obtain ⟨x, hx⟩ : ∃ x, x = xs.getD k z27 := ⟨_, rfl⟩
   have hmem : x ∈ xs := by
    rw [hx, List.getD_eq_getElem?_getD, List.getElem?_eq_getElem (by have := hlen.out; omega)]
    exact List.getElem_mem _
   rw [← hx] at g0 g1 g2 g3 g4 g5 g6 hl6 hT6 hd hw
   have hq := HA.out.2.2.2
   rw [hw] at hq
   have HW : Aside0 (v + wt x + wts wt (xs.drop (k + 1)) = T) := ⟨by omega⟩
   clear hx hw
   have HC := ak (HP.out x hmem wr s v A6 c6 HA.out.1 (by omega) (by omega) hl6 hT6)
   have HM := ak HA.out.2.1
   clear hmem hl6 hT6 HA hq
   cases hp : (F s x).1 with
   | true =>
    rw [hp, if_pos rfl] at hd
    have HD := ak hd
    rw [hp] at HC
    clear hd hp
    go_wp2_with fail
    refine HC.out.mono ?_
    rintro e w1 ⟨rfl, h1⟩
    have H1 := ak h1
    clear h1
    go_wp2
    go_ret
    exact ⟨_, rfl, by rw [HD.out]; simp, by rw [HD.out]; exact HII.out.mono _ _ _ _ H1.out.1 (by have := HW.out; omega), HM.out.trans H1.out.2⟩
   | false =>
    rw [hp, if_neg (by decide)] at hd
    have HD := ak hd
    rw [hp] at HC
    clear hd hp
    go_wp2_with fail
    refine HC.out.mono ?_
    rintro e w1 ⟨rfl, h1⟩
    have H1 := ak h1
    clear h1
    go_wp2
    go_roundw
    case rel => exact ⟨k + 1, _, _, by omega, by go_num, ⟨H1.out.1, HM.out.trans H1.out.2, HD.out.symm, HW.out⟩⟩
    case measure => simp [intOf]; omega
  ·have hdn : xs.drop k = [] := List.drop_eq_nil_of_le (by have := hlen.out; omega)
   have HD : Aside0 (anyL F st xs = (false, s)) := ⟨by rw [← HA.out.2.2.1, hdn]; rfl⟩
   have HV : Aside0 (v = T) := ⟨by have := HA.out.2.2.2; rw [hdn] at this; simpa [wts] using this⟩
   clear hdn
   go_wp2
   go_ret
   exact ⟨_, rfl, by rw [HD.out]; rfl, by rw [HD.out, ← HV.out]; exact HA.out.1, HA.out.2.1⟩
theorem cfn_calls {σ : Type} (B N M g : Nat) (lb : Array Value) (eg : ∀ args w, (callFunc g args).run Tryz.prog w = .ok (.enter g args) w) (Inv : World → σ → Nat → Prop) (hI : Stable Inv) (wt : SC → Nat) (F : σ → SC → Bool × σ)
  (A : Option Addr) (n c : Nat) (xs : List SC) (w : World) (st : σ) (u : Nat) (hBN : B ≤ N) (hN : N ≤ w.heap.size) (hP : PredF B N M g lb Inv wt F xs) (hr : Tr B w A n xs) (hi : Inv w st u) (hu : u + wts wt xs ≤ M) :
  Calls Tryz.prog 75 #[.slice A n c, .func (.func g) #[] lb] w fun e w' => e = .returned (.bool (anyL F st xs).1) ∧ Inv w' (anyL F st xs).2 (u + wts wt xs) ∧ Mid B N w w' := by
 have HC := ak (ifn_calls B N M g lb eg Inv hI wt F A n c xs w st u hBN hN hP hr hi hu)
 clear hP hr hi hI hu
 go_enter Tryz.func75, Tryz.ntmps75
 go_wp2_with fail
 refine HC.out.mono ?_
 rintro e w1 ⟨r, rfl, h1, h2⟩
 have H1 := ak h1
 have H2 := ak h2
 clear h1 h2
 go_wp2
 go_ret
 exact ⟨by rw [← H1.out]; rfl, H2.out.1, H2.out.2⟩
theorem none_calls {σ : Type} (B N M g : Nat) (lb : Array Value) (eg : ∀ args w, (callFunc g args).run Tryz.prog w = .ok (.enter g args) w) (Inv : World → σ → Nat → Prop) (hI : Stable Inv) (wt : SC → Nat) (F : σ → SC → Bool × σ)
  (A : Option Addr) (n c : Nat) (xs : List SC) (w : World) (st : σ) (u : Nat) (hBN : B ≤ N) (hN : N ≤ w.heap.size) (hP : PredF B N M g lb Inv wt F xs) (hr : Tr B w A n xs) (hi : Inv w st u) (hu : u + wts wt xs ≤ M) :
  Calls Tryz.prog 72 #[.slice A n c, .func (.func g) #[] lb] w fun e w' => e = .returned (.bool (!(anyL F st xs).1)) ∧ Inv w' (anyL F st xs).2 (u + wts wt xs) ∧ Mid B N w w' := by
 have HC := ak (cfn_calls B N M g lb eg Inv hI wt F A n c xs w st u hBN hN hP hr hi hu)
 clear hP hr hi hI hu
 go_enter Tryz.func72, Tryz.ntmps72
 go_wp2_with fail
 refine HC.out.mono ?_
 rintro e w1 ⟨rfl, h2⟩
 have H2 := ak h2
 clear h2
 go_wp2
 go_ret
 exact ⟨rfl, H2.out.1, H2.out.2⟩
theorem enters114 : ∀ args w, (callFunc 114 args).run Tryz.prog w = .ok (.enter 114 args) w := enters_of Tryz.func114 (by kernel_rfl) rfl
def WithFn {σ : Type} (Inv : World → σ → Nat → Prop) (p : Nat) (fv : Value) (w : World) (st : σ) (u : Nat) : Prop := Inv w st u ∧ w.heap[p]? = some (.cells #[fv] 50 (0, 0))
theorem WithFn.stable {σ : Type} {Inv : World → σ → Nat → Prop} (h : Stable Inv) (p : Nat) (fv : Value) : Stable (WithFn Inv p fv) :=
 ⟨fun w w' st u hi hb => ⟨h.below _ _ _ _ hi.1 hb, (hb.block p (blk_lt hi.2)).trans hi.2⟩, fun w st u u' hi hu => ⟨h.mono _ _ _ _ hi.1 hu, hi.2⟩⟩
theorem boxTr {B : Nat} {w : World} {A : Option Addr} {n : Nat} {xs : List SC} (h : Tr B w A n xs) (o : Obj) (hB : B ≤ w.heap.size) : Tr B (w.alloc o) A n xs := h.below ((Below.refl _ _).alloc hB _)
def AllOk (B N M g : Nat) (lb : Array Value) {σ : Type} (Inv : World → σ → Nat → Prop) (f : σ → SC → Bool × σ) (c : SC) : Prop :=
 ∀ (w : World) (st : σ) (u : Nat) (A : Option Addr) (cap : Nat), Inv w st u → u + (cells c).length ≤ M → N ≤ w.heap.size → c.f3.length ≤ cap → Tr B w A c.f3.length c.f3 →
  Calls Tryz.prog 96 #[.agg #[.int .u8 c.f0, .int .i64 c.f1.f0, .int .i64 c.f1.f1, .int .i64 c.f1.f2, .int .i64 c.f1.f3, .int .i64 c.f2, .slice A c.f3.length cap], .func (.func g) #[] lb] w
   fun e w' => e = .returned (.bool (visitL f st (cells c)).1) ∧ Inv w' (visitL f st (cells c)).2 (u + (cells c).length) ∧ Mid B N w w'
theorem all1_calls {σ : Type} (B N M g p : Nat) (lb : Array Value) (Inv : World → σ → Nat → Prop) (hI : Stable Inv) (f : σ → SC → Bool × σ) (k : SC) (hBN : B ≤ N) (hp : N ≤ p) (hA : AllOk B N M g lb Inv f k)
  (w : World) (st : σ) (u : Nat) (A : Option Addr) (cap : Nat) (hi : WithFn Inv p (.func (.func g) #[] lb) w st u) (hu : u + (cells k).length ≤ M) (hN : N ≤ w.heap.size) (hc : k.f3.length ≤ cap) (hT : Tr B w A k.f3.length k.f3) :
  Calls Tryz.prog 114 #[.agg #[.int .u8 k.f0, .int .i64 k.f1.f0, .int .i64 k.f1.f1, .int .i64 k.f1.f2, .int .i64 k.f1.f3, .int .i64 k.f2, .slice A k.f3.length cap], .pointer (some ⟨p, 0, none⟩)] w
   fun e w' => e = .returned (.bool (notV f st k).1) ∧ WithFn Inv p (.func (.func g) #[] lb) w' (notV f st k).2 (u + (cells k).length) ∧ Mid B N w w' := by
 obtain ⟨h1, hheap⟩ := hi
 have hcell : w.cell? ⟨p, 0, none⟩ = some (.func (.func g) #[] lb) := by rw [blk_cell hheap]; rfl
 have HH := ak hheap
 clear hheap
 obtain ⟨w1, hw1⟩ : ∃ w1, w1 = w.alloc (.cells #[.int .u8 k.f0, .int .i64 k.f1.f0, .int .i64 k.f1.f1, .int .i64 k.f1.f2, .int .i64 k.f1.f3, .int .i64 k.f2, .slice A k.f3.length cap] 27) := ⟨_, rfl⟩
 have hb : Below w.heap.size w w1 := by rw [hw1]; exact below_alloc (Below.refl _ _) _
 have hbB : Below B w w1 := by rw [hw1]; exact (Below.refl _ _).alloc (by omega) _
 have HC := ak (hA w1 st u A cap (hI.below _ _ _ _ h1 hb) hu (by have := hb.size; omega) hc (hT.below hbB))
 have HK := ak hcell
 have HB := ak hb
 have HL := ak (pw_cell_below hb hcell)
 have HP := ak hp
 rw [hw1] at HC
 have hlt := World.block_lt_of_cell? w _ hcell
 have HW := ak hw1
 generalize hv : visitL f st (cells k) = r at HC
 have HV := ak hv
 clear hw1 h1 hI hA hu hT hb hbB hv hp
 go_enter Tryz.func114, Tryz.ntmps114
 go_wp2_with fail
 with_reducible refine HC.out.mono ?_
 rintro e w2 ⟨rfl, h2⟩
 have H2 := ak h2
 clear h2
 go_wp2
 go_ret
 refine ⟨by simp [notV, HV.out], ⟨by simp only [notV, HV.out]; exact H2.out.1, ?_⟩, ?_⟩
 ·have hm := H2.out.2
  rw [← HW.out] at hm
  exact hm.blk ((HB.out.block p (blk_lt HH.out)).trans HH.out) HP.out (by decide)
 ·have hm := H2.out.2
  rw [← HW.out] at hm
  exact (Mid.ofBelow HB.out).trans hm
set_option maxHeartbeats 4000000 in
theorem all_calls {σ : Type} (B N M g : Nat) (lb : Array Value) (eg : ∀ args w, (callFunc g args).run Tryz.prog w = .ok (.enter g args) w) (Inv : World → σ → Nat → Prop) (hI : Stable Inv) (f : σ → SC → Bool × σ) (hBN : B ≤ N)
  (c : SC) (hP : PredF B N M g lb Inv (fun _ => 1) f (cells c)) : AllOk B N M g lb Inv f c := by
 revert hP
 refine cell_ind (P := fun c => PredF B N M g lb Inv (fun _ => 1) f (cells c) → AllOk B N M g lb Inv f c) (fun c ih hP => ?_) c
 have hkids : ∀ k ∈ c.f3, AllOk B N M g lb Inv f k := fun k hk => ih k hk (hP.sub (cells_kid hk))
 clear ih
 intro w st u A cap hi hu hN hc hT
 obtain ⟨w1, hw1⟩ : ∃ w1, w1 = (w.alloc (.cells #[.int .u8 c.f0, .int .i64 c.f1.f0, .int .i64 c.f1.f1, .int .i64 c.f1.f2, .int .i64 c.f1.f3, .int .i64 c.f2, .slice A c.f3.length cap] 27)).alloc (.cells #[.func (.func g) #[] lb] 50) := ⟨_, rfl⟩
 have hb : Below w.heap.size w w1 := by rw [hw1]; exact below_alloc (below_alloc (Below.refl _ _) _) _
 have hsz : w1.heap.size = w.heap.size + 2 := by rw [hw1]; simp
 have hcl : (cells c).length = 1 + (cellsL c.f3).length := by rw [cells_eq]; simp; omega
 have hT1 : Tr B w1 A c.f3.length c.f3 := hT.below (((Mid.ofBelow hb : Mid B N w w1)).toB (by omega))
 have HC := ak (hP c (cells_self c) w1 st u A cap (hI.below _ _ _ _ hi hb) (by show u + 1 ≤ M; omega) (by omega) hc hT1)
 have k6 : w1.heap[w.heap.size]? = some (.cells #[.int .u8 c.f0, .int .i64 c.f1.f0, .int .i64 c.f1.f1, .int .i64 c.f1.f2, .int .i64 c.f1.f3, .int .i64 c.f2, .slice A c.f3.length cap] 27 (0, 0)) := by
  rw [hw1, Below.heap_alloc _ _ _ (by simp)]; exact heap_alloc_new w _
 have kf : w1.heap[w.heap.size + 1]? = some (.cells #[.func (.func g) #[] lb] 50 (0, 0)) := by
  rw [hw1]
  have h := heap_alloc_new (w.alloc (.cells #[.int .u8 c.f0, .int .i64 c.f1.f0, .int .i64 c.f1.f1, .int .i64 c.f1.f2, .int .i64 c.f1.f3, .int .i64 c.f2, .slice A c.f3.length cap] 27)) (.cells #[.func (.func g) #[] lb] 50)
  simpa using h
 have hvis := visit_self f st c
 rw [hw1] at HC
 have HW := ak hw1
 have HB := ak hb
 have K6 := ak k6
 have KF := ak kf
 have HT := ak hT1
 have HK := ak hkids
 have HII := ak hI
 have HCL := ak hcl
 have HSZ := ak hsz
 have HU := ak hu
 clear hw1 hb k6 kf hT1 hkids hI hT hi hP hcl hsz hu
 generalize hv : visitL f st (cells c) = r at *
 have hr1 : ∀ b, (f st c).1 = b → Aside0 (r = if b = true then visitL f (f st c).2 (cellsL c.f3) else (false, (f st c).2)) := fun b hb => ⟨by rw [hvis, hb]⟩
 clear hv hvis
 cases hp : (f st c).1 with
 | false =>
  rw [hp] at HC
  have HR := hr1 false hp
  clear hr1 hp
  go_enter Tryz.func96, Tryz.ntmps96
  go_wp2_with fail
  refine HC.out.mono ?_
  rintro e w2 ⟨rfl, h2⟩
  have H2 := ak h2
  clear h2
  go_wp2
  go_ret
  have e : r = (false, (f st c).2) := HR.out
  refine ⟨by rw [e]; rfl, by rw [e]; exact HII.out.mono _ _ _ _ H2.out.1 (by rw [HCL.out]; omega), ?_⟩
  have hm := H2.out.2
  rw [← HW.out] at hm
  exact (Mid.ofBelow HB.out).trans hm
 | true =>
  rw [hp] at HC
  have HR := hr1 true hp
  clear hr1 hp
  go_enter Tryz.func96, Tryz.ntmps96
  go_wp2_with fail
  refine HC.out.mono ?_
  rintro e w2 ⟨rfl, h2⟩
  have hm := h2.2
  rw [← HW.out] at hm
  have hsz2 : w.heap.size + 2 ≤ w2.heap.size := by have := hm.size; rw [HSZ.out] at this; exact this
  have g6 : w2.cell? ⟨w.heap.size, 6, none⟩ = some (.slice A c.f3.length cap) := by rw [blk_cell (hm.blk K6.out hN (by decide))]; rfl
  have gf := hm.blk KF.out (by omega) (by decide)
  have hT2 : Tr B w2 A c.f3.length c.f3 := HT.out.below (hm.toB (by rw [HSZ.out]; omega))
  have hpred : PredF B N M 114 #[.pointer (some ⟨w.heap.size + 1, 0, none⟩)] (WithFn Inv (w.heap.size + 1) (.func (.func g) #[] lb)) (fun k => (cells k).length) (notV f) c.f3 :=
   fun k hk w st u A cap h1 h2 h3 h4 h5 => all1_calls B N M g _ lb Inv HII.out f k hBN (by omega) (HK.out k hk) w st u A cap h1 h2 h3 h4 h5
  have HN := none_calls B N M 114 #[.pointer (some ⟨w.heap.size + 1, 0, none⟩)] enters114 (WithFn Inv (w.heap.size + 1) (.func (.func g) #[] lb)) (HII.out |> fun h => WithFn.stable h _ _) (fun k => (cells k).length) (notV f) A c.f3.length cap c.f3 w2 (f st c).2 (u + 1) hBN (by omega) hpred hT2 ⟨h2.1, gf⟩ (by rw [wts_cells]; have := HU.out; have := HCL.out; omega)
  rw [any_visit, wts_cells] at HN
  have HN := ak HN
  have HM := ak hm
  clear h2 hm gf hT2 hpred HC
  go_wp2_with fail
  refine HN.out.mono ?_
  rintro e w3 ⟨rfl, h3⟩
  have H3 := ak h3
  clear h3
  go_wp2
  go_ret
  have e : r = visitL f (f st c).2 (cellsL c.f3) := HR.out
  refine ⟨by rw [e]; simp, by rw [e, HCL.out]; have := H3.out.1.1; rwa [Nat.add_assoc] at this, ((Mid.ofBelow HB.out).trans HM.out).trans H3.out.2⟩
end Go.Proofs.YtkobpbbegalfpaaGreatDoor
namespace Go.Proofs.YtkobpbbegalfpaaGreatDoor.PParseBodies
open Go.RowKit YtkobpbbegalfpaaGreatDoorW.PrintWords YtkobpbbegalfpaaGreatDoorW.PrintLast YtkobpbbegalfpaaGreatDoorW.PrintMore
attribute [local go_sem] max2_int min2_int max_two min_two max_three min_three max_four min_four
set_option linter.unusedVariables false
set_option linter.unusedSimpArgs false
end Go.Proofs.YtkobpbbegalfpaaGreatDoor.PParseBodies
