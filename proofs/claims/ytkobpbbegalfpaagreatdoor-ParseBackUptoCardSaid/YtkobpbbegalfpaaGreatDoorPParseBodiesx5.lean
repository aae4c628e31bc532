/- Printed texts of this seat, cut to what is used. -/
import Derived.Test.YtkobpbbegalfpaaGreatDoorPsBase
namespace Go.Proofs.YtkobpbbegalfpaaGreatDoor.PParseBodies
open Go.RowKit YtkobpbbegalfpaaGreatDoorW.PrintWords YtkobpbbegalfpaaGreatDoorW.PrintLast YtkobpbbegalfpaaGreatDoorW.PrintMore
attribute [local go_sem] max2_int min2_int max_two min_two max_three min_three max_four min_four
set_option linter.unusedVariables false
set_option linter.unusedSimpArgs false
mutual
def sashref05_All.l0 : Nat → List (S27) → Int → Int → Int → Int → Int → Int → Int → Int → List (S27) → Option ((List (S27)))
 | 0, _, _, _, _, _, _, _, _, _, _ => none
 | k + 1, x3, x9, x10, x154000, x154001, x154002, x154003, x154004, x154005, x154006 => if x10 < x9 then (if 0 ≤ x10 then (if x10 < (x154006.length : Int) then ((sashref05_All.f k ((rd_T27 x154006 x10).f0) ((rd_T27 x154006 x10).f1.f0) ((rd_T27 x154006 x10).f1.f1) ((rd_T27 x154006 x10).f1.f2) ((rd_T27 x154006 x10).f1.f3) ((rd_T27 x154006 x10).f2) ((rd_T27 x154006 x10).f3)).bind fun t158 => (if x3.length + t158.length < 1954687338268 then (sashref05_All.l0 k (x3 ++ t158) x9 (wrap64 (x10 + 1)) x154000 x154001 x154002 x154003 x154004 x154005 x154006) else (none))) else (none)) else (none)) else (some x3)
def sashref05_All.f : Nat → Int → Int → Int → Int → Int → Int → List (S27) → Option ((List (S27)))
 | 0, _, _, _, _, _, _, _ => none
 | k + 1, a0_0, a0_1, a0_2, a0_3, a0_4, a0_5, l0_6 => sashref05_All.l0 k (([(⟨a0_0, (⟨a0_1, a0_2, a0_3, a0_4⟩ : S24), a0_5, l0_6⟩ : S27)] : List (S27))) (l0_6.length : Int) 0 a0_0 a0_1 a0_2 a0_3 a0_4 a0_5 l0_6
end
set_option maxHeartbeats 8000000 in
set_option maxRecDepth 100000 in
theorem sashref05_All.calls (k : Nat) : ∀ (a0_0 : Int) (a0_1 : Int) (a0_2 : Int) (a0_3 : Int) (a0_4 : Int) (a0_5 : Int) (P0_6_ : Nat → Prop) (A0_6 : Option Addr) (c0_6 : Nat) (l0_6 : List (S27)) (r : List (S27)) (w : World) (hs0_6 : Kd.V k27 27 w w.heap.size (fun k_ => P0_6_ k_) (.slice A0_6 l0_6.length c0_6) l0_6) (h : sashref05_All.f k a0_0 a0_1 a0_2 a0_3 a0_4 a0_5 l0_6 = some r),
  Calls Tryz.prog 57 #[.agg #[.int .u8 a0_0, .int .i64 a0_1, .int .i64 a0_2, .int .i64 a0_3, .int .i64 a0_4, .int .i64 a0_5, .slice A0_6 l0_6.length c0_6]] w fun e w' => ∃ v0_ : Value, e = .returned (v0_) ∧ Kd.N k27 27 w' w.heap.size (fun k_ => (P0_6_ k_ ∨ w.heap.size ≤ k_)) v0_ r ∧ Below w.heap.size w w' := by
 induction k using Nat.strongRecOn with
 | _ k ih =>
 intro a0_0 a0_1 a0_2 a0_3 a0_4 a0_5 P0_6_ A0_6 c0_6 l0_6 r w hs0_6 h
 cases k with
 | zero => exact absurd h (by simp [sashref05_All.f])
 | succ k =>
 simp only [sashref05_All.f] at h
 have hu27 := Tryz.underlying27
 have HO0_6 := ak (show Kd.V k27 27 w w.heap.size (fun k_ => (P0_6_ k_ ∨ w.heap.size ≤ k_)) (.slice A0_6 l0_6.length c0_6) l0_6 from Kd.V_mono hs0_6 (fun k_ hk => .inl hk))
 have HB := ak (Below.refl w.heap.size w)
 have H : (sashref05_All.l0 k (([(⟨a0_0, (⟨a0_1, a0_2, a0_3, a0_4⟩ : S24), a0_5, l0_6⟩ : S27)] : List (S27))) (l0_6.length : Int) 0 a0_0 a0_1 a0_2 a0_3 a0_4 a0_5 l0_6) = some r := h
 clear h
 obtain ⟨y154, hy154⟩ : ∃ y_ : List (S27), y_ = (([(⟨a0_0, (⟨a0_1, a0_2, a0_3, a0_4⟩ : S24), a0_5, l0_6⟩ : S27)] : List (S27))) := ⟨_, rfl⟩
 replace H : (sashref05_All.l0 k y154 (l0_6.length : Int) 0 a0_0 a0_1 a0_2 a0_3 a0_4 a0_5 l0_6) = some r := mq33 hy154
 have Ny154 := ak hy154
 clear hy154
 have H' := ak H
 clear H
 go_enter Tryz.func57, Tryz.ntmps57
 go_wp2_with (first | ((with_reducible refine gate_dst (N := 1) rfl ?_); refine bxe 1 #[.int .u8 a0_0, .int .i64 a0_1, .int .i64 a0_2, .int .i64 a0_3, .int .i64 a0_4, .int .i64 a0_5, .slice A0_6 l0_6.length c0_6] 27 (h := ?_); intro gb153 hg w2 hbox hb; replace HO0_6 := ak (Kd.V_below (Kd.V_elderB (mq27 HO0_6) gb153 (Nat.le_of_eq hg.symm)) hb); have BK153 := ak (hbox); have GW153 := ak ((mq53 : w.heap.size ≤ gb153)); have GE153 := ak ((mq53 : w.heap.size ≤ gb153)); replace HB := ak (below_step kW hb); clear hb hbox hg; obtain ⟨hcz3_0, hcz3_1, hcz3_2, hcz3_3, hcz3_4, hcz3_5, hcz3_6⟩ := cz7 BK153; obtain ⟨hfz3_0, hfz3_1, hfz3_2, hfz3_3, hfz3_4, hfz3_5, hfz3_6⟩ := fz7 BK153) | ((with_reducible refine gate_dst (N := 6) rfl ?_); refine Kd.N_lit k27 _ 27 ?hg (N' := 6) ?hd (xs := ([(⟨a0_0, (⟨a0_1, a0_2, a0_3, a0_4⟩ : S24), a0_5, l0_6⟩ : S27)] : List (S27))) (inner := [.int .u8 a0_0, .int .i64 a0_1, .int .i64 a0_2, .int .i64 a0_3, .int .i64 a0_4, .int .i64 a0_5, .slice A0_6 l0_6.length c0_6]) (ok := (fun k_ => (P0_6_ k_ ∨ w.heap.size ≤ k_) ∧ k_ ≠ gb153)) (okp := (fun k_ => (P0_6_ k_ ∨ w.heap.size ≤ k_) ∧ k_ ≠ gb153)) ?hr ?hp (fun _ hk => hk) ((show ∀ k_, w2.heap.size ≤ k_ → (fun k_ => (P0_6_ k_ ∨ w.heap.size ≤ k_) ∧ k_ ≠ gb153) k_ from fun k_ hk => ⟨(.inr (Nat.le_trans (below_size kW) hk)), Kd.freshB (g := gb153) (o := .cells #[.int .u8 a0_0, .int .i64 a0_1, .int .i64 a0_2, .int .i64 a0_3, .int .i64 a0_4, .int .i64 a0_5, .slice A0_6 l0_6.length c0_6] 27 (0, 0)) (kA BK153) k_ hk⟩) _ (Nat.le_refl _)) (Below.refl _ _) (Nat.le_refl _) (by simp) ?_; (case hd => rfl); (case hg => rfl); (case hr => first | (go_simp; done) | (go_simp; rfl)); (case hp => exact (Reps.c7 (show Kd.FK k27 _ _ (⟨a0_0, (⟨a0_1, a0_2, a0_3, a0_4⟩ : S24), a0_5, l0_6⟩ : S27) [.int .u8 a0_0, .int .i64 a0_1, .int .i64 a0_2, .int .i64 a0_3, .int .i64 a0_4, .int .i64 a0_5, .slice A0_6 l0_6.length c0_6] from (k27_mkF _ _ (⟨a0_0, (⟨a0_1, a0_2, a0_3, a0_4⟩ : S24), a0_5, l0_6⟩ : S27) (Kd.V_reads' (Kd.V_mono (ok' := (fun k_ => (P0_6_ k_ ∨ w.heap.size ≤ k_) ∧ k_ ≠ gb153)) (HO0_6.out) (fun k_ hk => ⟨hk.1, hk.2⟩))).2.1 (Kd.V_F (Kd.V_mono (ok' := (fun k_ => (P0_6_ k_ ∨ w.heap.size ≤ k_) ∧ k_ ≠ gb153)) (HO0_6.out) (fun k_ hk => ⟨hk.1, hk.2⟩))))) (Reps.none _ _))); intro v155 w4 ho5 hb hg_ hnew_; clear hg_ hnew_; (first | rw [← Ny154.out] at ho5 | (simp only [Int.reduceToNat] at ho5; rw [← Ny154.out] at ho5)); replace HO0_6 := ak (Kd.V_elder' (mq27 HO0_6) (Kd.N_base ho5) hb); have HO156 := ak (Kd.N_lower ho5 (below_size kW)); replace BK153 := (kB BK153 hb); replace HB := ak (below_step kW hb); clear hb ho5; obtain ⟨hcz6_0, hcz6_1, hcz6_2, hcz6_3, hcz6_4, hcz6_5, hcz6_6⟩ := cz7 BK153; obtain ⟨hfz6_0, hfz6_1, hfz6_2, hfz6_3, hfz6_4, hfz6_5, hfz6_6⟩ := fz7 BK153))
 go_loopg [3, 10] k (fun kq v3 v10 w' => ∃ (x3_1 : List (S27)) (x10_1 : Int), v10 = .int .i64 x10_1 ∧ Aside0 (sashref05_All.l0 kq x3_1 (l0_6.length : Int) x10_1 a0_0 a0_1 a0_2 a0_3 a0_4 a0_5 l0_6 = some r) ∧ Aside0 (kq ≤ k) ∧ Aside0 (Kd.N k27 27 w' w.heap.size (fun k_ => (P0_6_ k_ ∨ w.heap.size ≤ k_) ∧ k_ ≠ gb153) v3 x3_1) ∧ Aside0 (Kd.V k27 27 w' w.heap.size (fun k_ => (P0_6_ k_ ∨ w.heap.size ≤ k_) ∧ some k_ ≠ (v3 : Value).ownBlock ∧ k_ ≠ gb153) (.slice A0_6 l0_6.length c0_6) l0_6) ∧ Aside0 (w'.heap[gb153]? = some (.cells #[.int .u8 a0_0, .int .i64 a0_1, .int .i64 a0_2, .int .i64 a0_3, .int .i64 a0_4, .int .i64 a0_5, (.slice A0_6 l0_6.length c0_6)] 27 (0, 0))) ∧ Aside0 (Below w.heap.size w w'))
 case atStart => exact ⟨(y154), (0), mq39, H', ⟨Nat.le_refl _⟩, ⟨mq5 HO156⟩, ⟨by (with_reducible repeat (first | apply Kd.V_alloc | apply Kd.V_drewN | apply Kd.V_drew)); exact Kd.V_mono HO0_6.out (fun _ hk => ⟨hk.1.1, ⟨hk.2, hk.1.2⟩⟩)⟩, ⟨mq28 BK153⟩, ⟨kW⟩⟩
 case round =>
  clear H'
  clear hcz3_0 hcz3_1 hcz3_2 hcz3_3 hcz3_4 hcz3_5 hcz3_6 hcz6_0 hcz6_1 hcz6_2 hcz6_3 hcz6_4 hcz6_5 hcz6_6 hfz3_0 hfz3_1 hfz3_2 hfz3_3 hfz3_4 hfz3_5 hfz3_6 hfz6_0 hfz6_1 hfz6_2 hfz6_3 hfz6_4 hfz6_5 hfz6_6
  obtain ⟨x3_1, x10_1, rfl, HA, HK1, HO_3, HO_154006, BK153, HB⟩ := hrel
  cases gk with
  | zero => exact absurd HA.out (by simp [sashref05_All.l0])
  | succ k1 =>
   have H := HA.out
   clear HA
   simp only [sashref05_All.l0] at H
   by_cases c7 : x10_1 < (l0_6.length : Int)
   ·rw [if_pos c7] at H
    have c7b0 : decide (x10_1 < (l0_6.length : Int)) = true := decide_eq_true c7
    clear c7
    by_cases c8 : 0 ≤ x10_1
    ·rw [if_pos c8] at H
     have c8b0 : decide (0 ≤ x10_1) = true := decide_eq_true c8
     clear c8
     by_cases c9 : x10_1 < (l0_6.length : Int)
     ·rw [if_pos c9] at H
      have c9b0 : decide (x10_1 < (l0_6.length : Int)) = true := decide_eq_true c9
      clear c9
      replace H := Option.bind_eq_some_iff.mp H
      obtain ⟨t158, A100, H⟩ := H
      replace H : (if x3_1.length + t158.length < 1954687338268 then (sashref05_All.l0 k1 (x3_1 ++ t158) (l0_6.length : Int) (wrap64 (x10_1 + 1)) a0_0 a0_1 a0_2 a0_3 a0_4 a0_5 l0_6) else (none)) = some r := H
      have A10 := ak A100
      clear A100
      by_cases c11 : x3_1.length + t158.length < 1954687338268
      ·rw [if_pos c11] at H
       have LMc11 := ak c11
       clear c11
       obtain ⟨y161, hy161⟩ : ∃ y_ : List (S27), y_ = (x3_1 ++ t158) := ⟨_, rfl⟩
       replace H : (sashref05_All.l0 k1 y161 (l0_6.length : Int) (wrap64 (x10_1 + 1)) a0_0 a0_1 a0_2 a0_3 a0_4 a0_5 l0_6) = some r := mq33 hy161
       have Ny161 := ak hy161
       clear hy161
       have H' := ak H
       clear H
       obtain ⟨hcz12_0, hcz12_1, hcz12_2, hcz12_3, hcz12_4, hcz12_5, hcz12_6⟩ := cz7 BK153
       obtain ⟨hfz12_0, hfz12_1, hfz12_2, hfz12_3, hfz12_4, hfz12_5, hfz12_6⟩ := fz7 BK153
       have p157 : 0 ≤ (x10_1 : Int) := of_decide_eq_true mq34
       have q157 : x10_1 < (l0_6.length : Int) := of_decide_eq_true mq34
       obtain ⟨ad157, A157_6, c157_6, e157, hx157_0, hx157_1, hx157_2, hx157_3, hx157_4, hx157_5, hx157_6, hl157_6, hi157_6⟩ := at_T27 (Kd.V_reads' HO_154006.out).2.2 x10_1 p157 q157
       cases e157
       obtain ⟨ce157, hce157, hMe157, hcc157⟩ := Kd.V_get HO_154006.out z27 x10_1 p157 (by first | exact q157 | exact of_decide_eq_true mq34 | (have e_ := (Kd.V_reads' HO_154006.out).1; omega))
       obtain ⟨ua157_6, uc157_6, rfl, ul157_6, ge157_6⟩ := k27_openF hMe157
       have hv157_6 := hcc157 6 _ rfl
       rw [add_field _ _ 6 (by omega)] at hv157_6
       replace hv157_6 := Option.some.inj (hv157_6.symm.trans hx157_6)
       injection hv157_6 with hva_ hvn_ hvc_
       rw [hva_] at ge157_6
       rw [hvc_] at ul157_6
       have HL157_6 := ak (show Kd.V k27 27 _ w.heap.size _ _ ((rd_T27 l0_6 x10_1).f3) from Kd.V_mk ul157_6 ge157_6)
       clear hva_ hvn_ hvc_ ge157_6 ul157_6
       clear hcc157 hce157
       have HR157_6 := ak hi157_6
       have HC157_6 := ak hl157_6
       clear hi157_6 hl157_6
       replace p157 := eq_true p157
       replace q157 := eq_true q157
       go_wp2_with (first | ((with_reducible refine gate_callee (f := 57) rfl ?_); refine gol (some 19) Tryz.func57 #[.agg #[.int .u8 ((rd_T27 l0_6 x10_1).f0), .int .i64 ((rd_T27 l0_6 x10_1).f1.f0), .int .i64 ((rd_T27 l0_6 x10_1).f1.f1), .int .i64 ((rd_T27 l0_6 x10_1).f1.f2), .int .i64 ((rd_T27 l0_6 x10_1).f1.f3), .int .i64 ((rd_T27 l0_6 x10_1).f2), .slice A157_6 ((rd_T27 l0_6 x10_1).f3).length c157_6]] (h := ?_); (with_reducible refine (ih k1 (mq47 HK1) ((rd_T27 l0_6 x10_1).f0) ((rd_T27 l0_6 x10_1).f1.f0) ((rd_T27 l0_6 x10_1).f1.f1) ((rd_T27 l0_6 x10_1).f1.f2) ((rd_T27 l0_6 x10_1).f1.f3) ((rd_T27 l0_6 x10_1).f2) (fun k_ => ((P0_6_ k_ ∨ w.heap.size ≤ k_) ∧ (some k_ ≠ (u3 : Value).ownBlock ∧ k_ ≠ gb153))) _ _ ((rd_T27 l0_6 x10_1).f3) t158 _ ?side1 A10.out).mono ?_); (case side1 => exact HL157_6.out); rintro e w13 ⟨v159, rfl, ho0, hb⟩; refine ⟨_, rfl, ?_⟩; replace HO_154006 := ak (Kd.V_elder' (mq27 HO_154006) (Kd.N_base ho0) hb); replace HL157_6 := ak (Kd.V_elder' (mq27 HL157_6) (Kd.N_base ho0) hb); have HO160 := ak (Kd.N_lower (Kd.N_mono (ok' := fun k_ => (P0_6_ k_ ∨ w.heap.size ≤ k_) ∧ some k_ ≠ (u3 : Value).ownBlock ∧ k_ ≠ gb153) ho0 (fun k_ hk_ => ⟨Or.elim hk_ (fun hs_ => hs_.1) (fun hn_ => (.inr (Nat.le_trans (below_size kW) hn_))), Or.elim hk_ (fun hs_ => hs_.2.1) (fun hn_ => (Kd.fresh' (Kd.N_lt (kN HO_3)) k_ hn_)), Or.elim hk_ (fun hs_ => hs_.2.2) (fun hn_ => (Kd.freshB (g := gb153) (o := .cells #[.int .u8 a0_0, .int .i64 a0_1, .int .i64 a0_2, .int .i64 a0_3, .int .i64 a0_4, .int .i64 a0_5, .slice (some ad157) l0_6.length c0_6] 27 (0, 0)) (kA BK153) k_ hn_))⟩)) (below_size kW)); replace HO_3 := ak (Kd.N_elder' (kN HO_3) (Kd.N_base ho0) hb); replace BK153 := (kB BK153 hb); replace HR157_6 := ak (Kd.C_below (mq48 HR157_6) hb); replace HB := ak (below_step kW hb); (try clear hb); (try clear hb2); (try clear hk); (try clear hi); (try clear ho0); obtain ⟨Ao15, co15, eo15⟩ := Kd.N_slice HO160.out; subst eo15) | ((with_reducible refine gate_builtin (b := .append) (xs := #[.tmp 13, .tmp 19]) rfl ?_); at_builtin; refine Kd.N_append_rows k27 (w0 := w) w.heap.size rfl (.tmp 13) (.tmp 19) 25 27 (.agg #[(.int .u8 0), (.int .i64 0), (.int .i64 0), (.int .i64 0), (.int .i64 0), (.int .i64 0), (.slice none 0 0)]) 72 rfl Tryz.underlying25 info27 rfl (by decide) (by omega) u3 x3_1 t158 _ _ _ (fun k_ => (P0_6_ k_ ∨ w.heap.size ≤ k_) ∧ k_ ≠ gb153) (fun k_ => ((fun k_ => (P0_6_ k_ ∨ w.heap.size ≤ k_) ∧ k_ ≠ gb153)) k_ ∧ some k_ ≠ (u3 : Value).ownBlock) rfl rfl ?aO ?aR (fun _ hk => hk) ?aF ?aB ?aS ?aL ?_; (case aR => exact (by skip; exact Kd.N_F (Kd.N_mono (ok' := (fun k_ => ((fun k_ => (P0_6_ k_ ∨ w.heap.size ≤ k_) ∧ k_ ≠ gb153)) k_ ∧ some k_ ≠ (u3 : Value).ownBlock)) (HO160.out) (fun k_ hk => ⟨⟨hk.1, hk.2.2⟩, hk.2.1⟩)))); (case aB => exact kW); (case aF => exact (fun k_ hk => ⟨(.inr (Nat.le_trans (below_size kW) hk)), Kd.freshB (g := gb153) (o := .cells #[.int .u8 a0_0, .int .i64 a0_1, .int .i64 a0_2, .int .i64 a0_3, .int .i64 a0_4, .int .i64 a0_5, .slice (some ad157) l0_6.length c0_6] 27 (0, 0)) (kA BK153) k_ hk⟩)); (case aO => exact (by (with_reducible repeat (first | apply Kd.N_alloc | apply Kd.N_drewN | apply Kd.N_drew)); exact Kd.N_mono HO_3.out (fun _ hk => ⟨hk.1.1, hk.1.2⟩))); (case aS => exact (below_size kW)); (case aL => have := LMc11.out; omega); intro v162 w14 ho hb hg hat; rw [← Ny161.out] at ho; replace HO_154006 := ak (Kd.V_afterv (ok := (fun k_ => (P0_6_ k_ ∨ w.heap.size ≤ k_) ∧ some k_ ≠ (.slice Ao15 t158.length co15 : Value).ownBlock ∧ k_ ≠ gb153)) (mq26 HO_154006) hg hat); replace BK153 := (kG BK153 hg (Kd.N_away HO_3.out (fun _ hk => hk.1.2))); replace HL157_6 := ak (Kd.V_afterv (ok := (fun k_ => (P0_6_ k_ ∨ w.heap.size ≤ k_) ∧ some k_ ≠ (.slice Ao15 t158.length co15 : Value).ownBlock ∧ k_ ≠ gb153)) (mq26 HL157_6) hg hat); replace HO160 := ak (Kd.N_afterv (ok := (fun k_ => (P0_6_ k_ ∨ w.heap.size ≤ k_) ∧ k_ ≠ gb153)) (mq4 HO160) hg hat); replace HB := ak (hb); have HO163 := ak (ho); clear HO_3; clear ho hb hg hat))
       go_roundg k1
       case measure => have := HK1.out; omega
       case rel => exact ⟨(y161), (wrap64 (x10_1 + 1)), mq39, H', ⟨mq47 HK1⟩, ⟨mq5 HO163⟩, ⟨by (with_reducible repeat (first | apply Kd.V_alloc | apply Kd.V_drewN | apply Kd.V_drew)); exact Kd.V_mono HO_154006.out (fun _ hk => ⟨hk.1.1, ⟨hk.2, hk.1.2.2⟩⟩)⟩, ⟨mq28 BK153⟩, ⟨kW⟩⟩
      ·rw [if_neg c11] at H
       exact absurd H (by simp)
     ·rw [if_neg c9] at H
      exact absurd H (by simp)
    ·rw [if_neg c8] at H
     exact absurd H (by simp)
   ·rw [if_neg c7] at H
    have c7b0 : decide (x10_1 < (l0_6.length : Int)) = false := decide_eq_false c7
    clear c7
    obtain rfl := Option.some.inj H
    go_wp2
    go_ret
    exact ⟨_, mq37, by (with_reducible repeat (first | apply Kd.N_alloc | apply Kd.N_drewN | apply Kd.N_drew)); exact Kd.N_mono HO_3.out (fun _ hk => hk.1), kW⟩
def sashref05_Leaves.l0 : Nat → List (S27) → List (S27) → Int → Int → Option ((List (S27)))
 | 0, _, _, _, _ => none
 | k + 1, x3, x4, x10, x11 => if x11 < x10 then (if 0 ≤ x11 then (if x11 < (x4.length : Int) then (if ((rd_T27 x4 x11).f0) = 1 then (if x3.length < 1954687338268 then (sashref05_Leaves.l0 k (x3 ++ [(⟨(rd_T27 x4 x11).f0, (⟨(rd_T27 x4 x11).f1.f0, (rd_T27 x4 x11).f1.f1, (rd_T27 x4 x11).f1.f2, (rd_T27 x4 x11).f1.f3⟩ : S24), (rd_T27 x4 x11).f2, (rd_T27 x4 x11).f3⟩ : S27)]) x4 x10 (wrap64 (x11 + 1))) else (none)) else (sashref05_Leaves.l0 k x3 x4 x10 (wrap64 (x11 + 1)))) else (none)) else (none)) else (some x3)
def sashref05_Leaves.f (k : Nat) (a0_0 : Int) (a0_1 : Int) (a0_2 : Int) (a0_3 : Int) (a0_4 : Int) (a0_5 : Int) (l0_6 : List (S27)) : Option ((List (S27))) := (sashref05_All.f k a0_0 a0_1 a0_2 a0_3 a0_4 a0_5 l0_6).bind fun t168 => (sashref05_Leaves.l0 k (([] : List (S27))) t168 (t168.length : Int) 0)
set_option maxHeartbeats 8000000 in
set_option maxRecDepth 100000 in
theorem sashref05_Leaves.calls (k : Nat) (a0_0 : Int) (a0_1 : Int) (a0_2 : Int) (a0_3 : Int) (a0_4 : Int) (a0_5 : Int) (P0_6_ : Nat → Prop) (A0_6 : Option Addr) (c0_6 : Nat) (l0_6 : List (S27)) (r : List (S27)) (w : World) (hs0_6 : Kd.V k27 27 w w.heap.size (fun k_ => P0_6_ k_) (.slice A0_6 l0_6.length c0_6) l0_6) (h : sashref05_Leaves.f k a0_0 a0_1 a0_2 a0_3 a0_4 a0_5 l0_6 = some r) :
  Calls Tryz.prog 36 #[.agg #[.int .u8 a0_0, .int .i64 a0_1, .int .i64 a0_2, .int .i64 a0_3, .int .i64 a0_4, .int .i64 a0_5, .slice A0_6 l0_6.length c0_6]] w fun e w' => ∃ v0_ : Value, e = .returned (v0_) ∧ Kd.N k27 27 w' w.heap.size (fun k_ => (P0_6_ k_ ∨ w.heap.size ≤ k_)) v0_ r ∧ Below w.heap.size w w' := by
 have hu27 := Tryz.underlying27
 have HO0_6 := ak (show Kd.V k27 27 w w.heap.size (fun k_ => (P0_6_ k_ ∨ w.heap.size ≤ k_)) (.slice A0_6 l0_6.length c0_6) l0_6 from Kd.V_mono hs0_6 (fun k_ hk => .inl hk))
 have HB := ak (Below.refl w.heap.size w)
 have H : ((sashref05_All.f k a0_0 a0_1 a0_2 a0_3 a0_4 a0_5 l0_6).bind fun t168 => (sashref05_Leaves.l0 k (([] : List (S27))) t168 (t168.length : Int) 0)) = some r := h
 clear h
 obtain ⟨y165, hy165⟩ : ∃ y_ : List (S27), y_ = (([] : List (S27))) := ⟨_, rfl⟩
 replace H : ((sashref05_All.f k a0_0 a0_1 a0_2 a0_3 a0_4 a0_5 l0_6).bind fun t168 => (sashref05_Leaves.l0 k y165 t168 (t168.length : Int) 0)) = some r := mq33 hy165
 have Ny165 := ak hy165
 clear hy165
 replace H := Option.bind_eq_some_iff.mp H
 obtain ⟨t168, A20, H⟩ := H
 replace H : (sashref05_Leaves.l0 k y165 t168 (t168.length : Int) 0) = some r := H
 have A2 := ak A20
 clear A20
 have H' := ak H
 clear H
 go_enter Tryz.func36, Tryz.ntmps36
 go_wp2_with (first | ((with_reducible refine gate_dst (N := 1) rfl ?_); refine bxe 1 #[.int .u8 a0_0, .int .i64 a0_1, .int .i64 a0_2, .int .i64 a0_3, .int .i64 a0_4, .int .i64 a0_5, .slice A0_6 l0_6.length c0_6] 27 (h := ?_); intro gb164 hg w3 hbox hb; replace HO0_6 := ak (Kd.V_below (Kd.V_elderB (mq27 HO0_6) gb164 (Nat.le_of_eq hg.symm)) hb); have BK164 := ak (hbox); have GW164 := ak ((mq53 : w.heap.size ≤ gb164)); have GE164 := ak ((mq53 : w.heap.size ≤ gb164)); replace HB := ak (below_step kW hb); clear hb hbox hg) | ((with_reducible refine gate_dst (N := 6) rfl ?_); refine Kd.N_lit k27 _ 27 ?hg (N' := 6) ?hd (xs := ([] : List (S27))) (inner := []) (ok := (fun k_ => (P0_6_ k_ ∨ w.heap.size ≤ k_) ∧ k_ ≠ gb164)) (okp := (fun k_ => (P0_6_ k_ ∨ w.heap.size ≤ k_) ∧ k_ ≠ gb164)) ?hr ?hp (fun _ hk => hk) ((show ∀ k_, w3.heap.size ≤ k_ → (fun k_ => (P0_6_ k_ ∨ w.heap.size ≤ k_) ∧ k_ ≠ gb164) k_ from fun k_ hk => ⟨(.inr (Nat.le_trans (below_size kW) hk)), Kd.freshB (g := gb164) (o := .cells #[.int .u8 a0_0, .int .i64 a0_1, .int .i64 a0_2, .int .i64 a0_3, .int .i64 a0_4, .int .i64 a0_5, .slice A0_6 l0_6.length c0_6] 27 (0, 0)) (kA BK164) k_ hk⟩) _ (Nat.le_refl _)) (Below.refl _ _) (Nat.le_refl _) (by simp) ?_; (case hd => rfl); (case hg => rfl); (case hr => first | (go_simp; done) | (go_simp; rfl)); (case hp => exact (Reps.none _ _)); intro v166 w4 ho5 hb hg_ hnew_; clear hg_ hnew_; (first | rw [← Ny165.out] at ho5 | (simp only [Int.reduceToNat] at ho5; rw [← Ny165.out] at ho5)); replace HO0_6 := ak (Kd.V_elder' (mq27 HO0_6) (Kd.N_base ho5) hb); have HO167 := ak (Kd.N_lower ho5 (below_size kW)); replace BK164 := (kB BK164 hb); replace HB := ak (below_step kW hb); clear hb ho5; obtain ⟨hcz6_0, hcz6_1, hcz6_2, hcz6_3, hcz6_4, hcz6_5, hcz6_6⟩ := cz7 BK164; obtain ⟨hfz6_0, hfz6_1, hfz6_2, hfz6_3, hfz6_4, hfz6_5, hfz6_6⟩ := fz7 BK164) | ((with_reducible refine gate_callee (f := 57) rfl ?_); refine gol (some 8) Tryz.func57 #[.agg #[.int .u8 a0_0, .int .i64 a0_1, .int .i64 a0_2, .int .i64 a0_3, .int .i64 a0_4, .int .i64 a0_5, .slice A0_6 l0_6.length c0_6]] (h := ?_); (with_reducible refine (sashref05_All.calls k a0_0 a0_1 a0_2 a0_3 a0_4 a0_5 (fun k_ => (((P0_6_ k_ ∨ w.heap.size ≤ k_) ∧ k_ ≠ gb164) ∧ some k_ ≠ (v166 : Value).ownBlock)) _ _ l0_6 t168 _ ?side1 A2.out).mono ?_); (case side1 => exact HO0_6.out); rintro e w7 ⟨v169, rfl, ho0, hb⟩; refine ⟨_, rfl, ?_⟩; replace HO0_6 := ak (Kd.V_elder' (mq27 HO0_6) (Kd.N_base ho0) hb); have HO170 := ak (Kd.N_lower (Kd.N_mono (ok' := fun k_ => (P0_6_ k_ ∨ w.heap.size ≤ k_) ∧ some k_ ≠ (v166 : Value).ownBlock ∧ k_ ≠ gb164) ho0 (fun k_ hk_ => ⟨Or.elim hk_ (fun hs_ => hs_.1.1) (fun hn_ => (.inr (Nat.le_trans (below_size kW) hn_))), Or.elim hk_ (fun hs_ => hs_.2) (fun hn_ => (Kd.fresh' (Kd.N_lt (kN HO167)) k_ hn_)), Or.elim hk_ (fun hs_ => hs_.1.2) (fun hn_ => (Kd.freshB (g := gb164) (o := .cells #[.int .u8 a0_0, .int .i64 a0_1, .int .i64 a0_2, .int .i64 a0_3, .int .i64 a0_4, .int .i64 a0_5, .slice A0_6 l0_6.length c0_6] 27 (0, 0)) (kA BK164) k_ hn_))⟩)) (below_size kW)); replace HO167 := ak (Kd.N_elder' (kN HO167) (Kd.N_base ho0) hb); replace BK164 := (kB BK164 hb); replace HB := ak (below_step kW hb); (try clear hb); (try clear hb2); (try clear hk); (try clear hi); (try clear ho0); obtain ⟨Ao8, co8, eo8⟩ := Kd.N_slice HO170.out; subst eo8))
 go_loopg [3, 11] k (fun kq v3 v11 w' => ∃ (x3_1 : List (S27)) (x11_1 : Int), v11 = .int .i64 x11_1 ∧ Aside0 (sashref05_Leaves.l0 kq x3_1 t168 (t168.length : Int) x11_1 = some r) ∧ Aside0 (kq ≤ k) ∧ Aside0 (Kd.N k27 27 w' w.heap.size (fun k_ => (P0_6_ k_ ∨ w.heap.size ≤ k_) ∧ some k_ ≠ ((.slice Ao8 t168.length co8) : Value).ownBlock ∧ k_ ≠ gb164) v3 x3_1) ∧ Aside0 (Kd.N k27 27 w' w.heap.size (fun k_ => (P0_6_ k_ ∨ w.heap.size ≤ k_) ∧ some k_ ≠ (v3 : Value).ownBlock ∧ k_ ≠ gb164) (.slice Ao8 t168.length co8) t168) ∧ Aside0 (Kd.V k27 27 w' w.heap.size (fun k_ => (P0_6_ k_ ∨ w.heap.size ≤ k_) ∧ some k_ ≠ (v3 : Value).ownBlock ∧ some k_ ≠ ((.slice Ao8 t168.length co8) : Value).ownBlock ∧ k_ ≠ gb164) (.slice A0_6 l0_6.length c0_6) l0_6) ∧ Aside0 (w'.heap[gb164]? = some (.cells #[.int .u8 a0_0, .int .i64 a0_1, .int .i64 a0_2, .int .i64 a0_3, .int .i64 a0_4, .int .i64 a0_5, (.slice A0_6 l0_6.length c0_6)] 27 (0, 0))) ∧ Aside0 (Below w.heap.size w w'))
 case atStart => exact ⟨(y165), (0), mq39, H', ⟨Nat.le_refl _⟩, ⟨mq3 HO167⟩, ⟨mq5 HO170⟩, ⟨by (with_reducible repeat (first | apply Kd.V_alloc | apply Kd.V_drewN | apply Kd.V_drew)); exact Kd.V_mono HO0_6.out (fun _ hk => ⟨hk.1.1.1, ⟨hk.1.2, ⟨hk.2, hk.1.1.2⟩⟩⟩)⟩, ⟨mq28 BK164⟩, ⟨kW⟩⟩
 case round =>
  clear H'
  clear hcz6_0 hcz6_1 hcz6_2 hcz6_3 hcz6_4 hcz6_5 hcz6_6 hfz6_0 hfz6_1 hfz6_2 hfz6_3 hfz6_4 hfz6_5 hfz6_6
  obtain ⟨x3_1, x11_1, rfl, HA, HK1, HO_3, HO_4, HO_165006, BK164, HB⟩ := hrel
  cases gk with
  | zero => exact absurd HA.out (by simp [sashref05_Leaves.l0])
  | succ k1 =>
   have H := HA.out
   clear HA
   simp only [sashref05_Leaves.l0] at H
   by_cases c9 : x11_1 < (t168.length : Int)
   ·rw [if_pos c9] at H
    have c9b0 : decide (x11_1 < (t168.length : Int)) = true := decide_eq_true c9
    clear c9
    by_cases c10 : 0 ≤ x11_1
    ·rw [if_pos c10] at H
     have c10b0 : decide (0 ≤ x11_1) = true := decide_eq_true c10
     clear c10
     by_cases c11 : x11_1 < (t168.length : Int)
     ·rw [if_pos c11] at H
      have c11b0 : decide (x11_1 < (t168.length : Int)) = true := decide_eq_true c11
      clear c11
      by_cases c12 : ((rd_T27 t168 x11_1).f0) = 1
      ·rw [if_pos c12] at H
       have c12b0 : (((rd_T27 t168 x11_1).f0) == 1) = true := beq_iff_eq.mpr c12
       have c12b1 : (((rd_T27 t168 x11_1).f0) != 1) = false := bne_eq_false_iff_eq.mpr c12
       clear c12
       by_cases c13 : x3_1.length < 1954687338268
       ·rw [if_pos c13] at H
        have LMc13 := ak c13
        clear c13
        obtain ⟨y173, hy173⟩ : ∃ y_ : List (S27), y_ = (x3_1 ++ [(⟨(rd_T27 t168 x11_1).f0, (⟨(rd_T27 t168 x11_1).f1.f0, (rd_T27 t168 x11_1).f1.f1, (rd_T27 t168 x11_1).f1.f2, (rd_T27 t168 x11_1).f1.f3⟩ : S24), (rd_T27 t168 x11_1).f2, (rd_T27 t168 x11_1).f3⟩ : S27)]) := ⟨_, rfl⟩
        replace H : (sashref05_Leaves.l0 k1 y173 t168 (t168.length : Int) (wrap64 (x11_1 + 1))) = some r := mq33 hy173
        have Ny173 := ak hy173
        clear hy173
        have H' := ak H
        clear H
        have p171 : 0 ≤ (x11_1 : Int) := of_decide_eq_true mq34
        have q171 : x11_1 < (t168.length : Int) := of_decide_eq_true mq34
        obtain ⟨ad171, A171_6, c171_6, e171, hx171_0, hx171_1, hx171_2, hx171_3, hx171_4, hx171_5, hx171_6, HC171_6, HR171_6, HL171_6⟩ := elN27 w.heap.size HO_4 x11_1 p171 q171
        cases e171
        replace p171 := eq_true p171
        replace q171 := eq_true q171
        have p172 : 0 ≤ (x11_1 : Int) := of_decide_eq_true mq34
        have q172 : x11_1 < (t168.length : Int) := of_decide_eq_true mq34
        obtain ⟨ad172, A172_6, c172_6, e172, hx172_0, hx172_1, hx172_2, hx172_3, hx172_4, hx172_5, hx172_6, HC172_6, HR172_6, HL172_6⟩ := elN27 w.heap.size HO_4 x11_1 p172 q172
        obtain rfl : ad171 = ad172 := (by injection e172)
        replace p172 := eq_true p172
        replace q172 := eq_true q172
        have ea_ := Option.some.inj (hx171_6.symm.trans hx172_6)
        injection ea_ with ea_ en_ ec_
        subst ea_
        subst ec_
        clear en_
        go_wp2_with (first | ((with_reducible refine gate_builtin (b := .append) (xs := #[.tmp 20, .tmp 25]) rfl ?_); at_builtin; refine Kd.N_append k27 (w0 := w) w.heap.size rfl (.tmp 20) (.tmp 25) 25 27 (.agg #[(.int .u8 0), (.int .i64 0), (.int .i64 0), (.int .i64 0), (.int .i64 0), (.int .i64 0), (.slice none 0 0)]) 72 rfl Tryz.underlying25 info27 rfl (by decide) (by omega) u3 x3_1 (⟨(rd_T27 t168 x11_1).f0, (⟨(rd_T27 t168 x11_1).f1.f0, (rd_T27 t168 x11_1).f1.f1, (rd_T27 t168 x11_1).f1.f2, (rd_T27 t168 x11_1).f1.f3⟩ : S24), (rd_T27 t168 x11_1).f2, (rd_T27 t168 x11_1).f3⟩ : S27) [.int .u8 ((rd_T27 t168 x11_1).f0), .int .i64 ((rd_T27 t168 x11_1).f1.f0), .int .i64 ((rd_T27 t168 x11_1).f1.f1), .int .i64 ((rd_T27 t168 x11_1).f1.f2), .int .i64 ((rd_T27 t168 x11_1).f1.f3), .int .i64 ((rd_T27 t168 x11_1).f2), .slice A171_6 ((rd_T27 t168 x11_1).f3).length c171_6] (fun k_ => (P0_6_ k_ ∨ w.heap.size ≤ k_) ∧ some k_ ≠ (.slice (some ad171) t168.length co8 : Value).ownBlock ∧ k_ ≠ gb164) (fun k_ => ((fun k_ => (P0_6_ k_ ∨ w.heap.size ≤ k_) ∧ some k_ ≠ (.slice (some ad171) t168.length co8 : Value).ownBlock ∧ k_ ≠ gb164)) k_ ∧ some k_ ≠ (u3 : Value).ownBlock) rfl rfl ?aP (fun _ hk => hk) ?aF ?aO ?aB ?aS ?aL ?_; (case aP => exact (k27_mkF _ _ (⟨(rd_T27 t168 x11_1).f0, (⟨(rd_T27 t168 x11_1).f1.f0, (rd_T27 t168 x11_1).f1.f1, (rd_T27 t168 x11_1).f1.f2, (rd_T27 t168 x11_1).f1.f3⟩ : S24), (rd_T27 t168 x11_1).f2, (rd_T27 t168 x11_1).f3⟩ : S27) (Kd.V_reads' (Kd.V_mono (ok' := (fun k_ => ((fun k_ => (P0_6_ k_ ∨ w.heap.size ≤ k_) ∧ some k_ ≠ (.slice (some ad171) t168.length co8 : Value).ownBlock ∧ k_ ≠ gb164)) k_ ∧ some k_ ≠ (u3 : Value).ownBlock)) (HL172_6.out) (fun k_ hk => ⟨⟨hk.1.1, ⟨hk.2, hk.1.2.2⟩⟩, hk.1.2.1⟩))).2.1 (Kd.V_F (Kd.V_mono (ok' := (fun k_ => ((fun k_ => (P0_6_ k_ ∨ w.heap.size ≤ k_) ∧ some k_ ≠ (.slice (some ad171) t168.length co8 : Value).ownBlock ∧ k_ ≠ gb164)) k_ ∧ some k_ ≠ (u3 : Value).ownBlock)) (HL172_6.out) (fun k_ hk => ⟨⟨hk.1.1, ⟨hk.2, hk.1.2.2⟩⟩, hk.1.2.1⟩))))); (case aB => exact kW); (case aF => exact (fun k_ hk => ⟨(.inr (Nat.le_trans (below_size kW) hk)), Kd.fresh' (Kd.N_lt (kN HO_4)) k_ hk, Kd.freshB (g := gb164) (o := .cells #[.int .u8 a0_0, .int .i64 a0_1, .int .i64 a0_2, .int .i64 a0_3, .int .i64 a0_4, .int .i64 a0_5, .slice A0_6 l0_6.length c0_6] 27 (0, 0)) (kA BK164) k_ hk⟩)); (case aO => exact (kN HO_3)); (case aS => exact (below_size kW)); (case aL => have := LMc13.out; omega); intro v174 w14 ho hb hg hat; rw [← Ny173.out] at ho; replace HO_4 := ak (Kd.N_afterv (ok := (fun k_ => (P0_6_ k_ ∨ w.heap.size ≤ k_) ∧ k_ ≠ gb164)) (mq4 HO_4) hg hat); replace HO_165006 := ak (Kd.V_afterv (ok := (fun k_ => (P0_6_ k_ ∨ w.heap.size ≤ k_) ∧ some k_ ≠ (.slice (some ad171) t168.length co8 : Value).ownBlock ∧ k_ ≠ gb164)) (by (with_reducible repeat (first | apply Kd.V_alloc | apply Kd.V_drewN | apply Kd.V_drew)); exact Kd.V_mono HO_165006.out (fun _ hk => ⟨⟨hk.1, ⟨hk.2.2.1, hk.2.2.2⟩⟩, hk.2.1⟩)) hg hat); replace BK164 := (kG BK164 hg (Kd.N_away HO_3.out (fun _ hk => hk.2.2))); replace HL171_6 := ak (Kd.V_afterv (ok := (fun k_ => (P0_6_ k_ ∨ w.heap.size ≤ k_) ∧ some k_ ≠ (.slice (some ad171) t168.length co8 : Value).ownBlock ∧ k_ ≠ gb164)) (mq26 HL171_6) hg hat); replace HL172_6 := ak (Kd.V_afterv (ok := (fun k_ => (P0_6_ k_ ∨ w.heap.size ≤ k_) ∧ some k_ ≠ (.slice (some ad171) t168.length co8 : Value).ownBlock ∧ k_ ≠ gb164)) (mq26 HL172_6) hg hat); replace HB := ak (hb); have HO175 := ak (ho); clear HO_3; clear ho hb hg hat))
        go_roundg k1
        case measure => have := HK1.out; omega
        case rel => exact ⟨(y173), (wrap64 (x11_1 + 1)), mq39, H', ⟨mq47 HK1⟩, ⟨mq5 HO175⟩, ⟨mq3 HO_4⟩, ⟨by (with_reducible repeat (first | apply Kd.V_alloc | apply Kd.V_drewN | apply Kd.V_drew)); exact Kd.V_mono HO_165006.out (fun _ hk => ⟨hk.1.1, ⟨hk.2, ⟨hk.1.2.1, hk.1.2.2⟩⟩⟩)⟩, ⟨mq28 BK164⟩, ⟨kW⟩⟩
       ·rw [if_neg c13] at H
        exact absurd H (by simp)
      ·rw [if_neg c12] at H
       have c12b0 : (((rd_T27 t168 x11_1).f0) == 1) = false := beq_eq_false_iff_ne.mpr c12
       have c12b1 : (((rd_T27 t168 x11_1).f0) != 1) = true := bne_iff_ne.mpr c12
       have H' := ak H
       clear H
       have p171 : 0 ≤ (x11_1 : Int) := of_decide_eq_true mq34
       have q171 : x11_1 < (t168.length : Int) := of_decide_eq_true mq34
       obtain ⟨ad171, A171_6, c171_6, e171, hx171_0, hx171_1, hx171_2, hx171_3, hx171_4, hx171_5, hx171_6, HC171_6, HR171_6, HL171_6⟩ := elN27 w.heap.size HO_4 x11_1 p171 q171
       cases e171
       replace p171 := eq_true p171
       replace q171 := eq_true q171
       go_wp2
       go_roundg k1
       case measure => have := HK1.out; omega
       case rel => exact ⟨(x3_1), (wrap64 (x11_1 + 1)), mq39, H', ⟨mq47 HK1⟩, ⟨mq5 HO_3⟩, ⟨mq5 HO_4⟩, ⟨mq27 HO_165006⟩, ⟨mq28 BK164⟩, ⟨kW⟩⟩
     ·rw [if_neg c11] at H
      exact absurd H (by simp)
    ·rw [if_neg c10] at H
     exact absurd H (by simp)
   ·rw [if_neg c9] at H
    have c9b0 : decide (x11_1 < (t168.length : Int)) = false := decide_eq_false c9
    clear c9
    obtain rfl := Option.some.inj H
    go_wp2
    go_ret
    exact ⟨_, mq37, by (with_reducible repeat (first | apply Kd.N_alloc | apply Kd.N_drewN | apply Kd.N_drew)); exact Kd.N_mono HO_3.out (fun _ hk => hk.1), kW⟩
def sashref04_May.f (a0_0 : Int) (a0_1 : Int) (a0_2 : Int) (a0_3 : Int) : Option (Bool) := if a0_0 < 0 then (some false) else (if a0_0 > 10000 then (some false) else (if a0_1 < 0 then (some false) else (if a0_1 > 10000 then (some false) else (if a0_2 > 0 then (if a0_2 ≤ 10000 then (if a0_3 > 0 then (if a0_3 ≤ 10000 then (if (wrap64 (a0_0 + a0_2)) ≤ 10000 then (some (decide ((wrap64 (a0_1 + a0_3)) ≤ 10000))) else (some false)) else (some false)) else (some false)) else (some false)) else (some false)))))
set_option maxHeartbeats 8000000 in
set_option maxRecDepth 100000 in
theorem sashref04_May.calls (a0_0 : Int) (a0_1 : Int) (a0_2 : Int) (a0_3 : Int) (r : Bool) (w : World) (h : sashref04_May.f a0_0 a0_1 a0_2 a0_3 = some r) :
  Calls Tryz.prog 81 #[.agg #[.int .i64 a0_0, .int .i64 a0_1, .int .i64 a0_2, .int .i64 a0_3]] w fun e w' => e = .returned (.bool r) ∧ Below w.heap.size w w' := by
 have hu24 := Tryz.underlying24
 have HB := ak (Below.refl w.heap.size w)
 have H : (if a0_0 < 0 then (some false) else (if a0_0 > 10000 then (some false) else (if a0_1 < 0 then (some false) else (if a0_1 > 10000 then (some false) else (if a0_2 > 0 then (if a0_2 ≤ 10000 then (if a0_3 > 0 then (if a0_3 ≤ 10000 then (if (wrap64 (a0_0 + a0_2)) ≤ 10000 then (some (decide ((wrap64 (a0_1 + a0_3)) ≤ 10000))) else (some false)) else (some false)) else (some false)) else (some false)) else (some false)))))) = some r := h
 clear h
 by_cases c2 : a0_0 < 0
 ·rw [if_pos c2] at H
  have c2b0 : decide (a0_0 < 0) = true := decide_eq_true c2
  clear c2
  obtain rfl := Option.some.inj H
  go_enter Tryz.func81, Tryz.ntmps81
  go_wp2_with (first | ((with_reducible refine gate_dst (N := 1) rfl ?_); refine bxe 1 #[.int .i64 a0_0, .int .i64 a0_1, .int .i64 a0_2, .int .i64 a0_3] 24 (h := ?_); intro gb176 hg w3 hbox hb; have BK176 := ak (hbox); have GW176 := ak ((mq53 : w.heap.size ≤ gb176)); have GE176 := ak ((mq53 : w.heap.size ≤ gb176)); replace HB := ak (below_step kW hb); clear hb hbox hg; obtain ⟨hcz4_0, hcz4_1, hcz4_2, hcz4_3⟩ := cz4 BK176; obtain ⟨hfz4_0, hfz4_1, hfz4_2, hfz4_3⟩ := fz4 BK176))
  go_ret
  exact ⟨mq37, kW⟩
 ·rw [if_neg c2] at H
  have c2b0 : decide (a0_0 < 0) = false := decide_eq_false c2
  clear c2
  by_cases c5 : a0_0 > 10000
  ·rw [if_pos c5] at H
   have c5b0 : decide (10000 < a0_0) = true := decide_eq_true c5
   clear c5
   obtain rfl := Option.some.inj H
   go_enter Tryz.func81, Tryz.ntmps81
   go_wp2_with (first | ((with_reducible refine gate_dst (N := 1) rfl ?_); refine bxe 1 #[.int .i64 a0_0, .int .i64 a0_1, .int .i64 a0_2, .int .i64 a0_3] 24 (h := ?_); intro gb176 hg w6 hbox hb; have BK176 := ak (hbox); have GW176 := ak ((mq53 : w.heap.size ≤ gb176)); have GE176 := ak ((mq53 : w.heap.size ≤ gb176)); replace HB := ak (below_step kW hb); clear hb hbox hg; obtain ⟨hcz7_0, hcz7_1, hcz7_2, hcz7_3⟩ := cz4 BK176; obtain ⟨hfz7_0, hfz7_1, hfz7_2, hfz7_3⟩ := fz4 BK176))
   go_ret
   exact ⟨mq37, kW⟩
  ·rw [if_neg c5] at H
   have c5b0 : decide (10000 < a0_0) = false := decide_eq_false c5
   clear c5
   by_cases c8 : a0_1 < 0
   ·rw [if_pos c8] at H
    have c8b0 : decide (a0_1 < 0) = true := decide_eq_true c8
    clear c8
    obtain rfl := Option.some.inj H
    go_enter Tryz.func81, Tryz.ntmps81
    go_wp2_with (first | ((with_reducible refine gate_dst (N := 1) rfl ?_); refine bxe 1 #[.int .i64 a0_0, .int .i64 a0_1, .int .i64 a0_2, .int .i64 a0_3] 24 (h := ?_); intro gb176 hg w9 hbox hb; have BK176 := ak (hbox); have GW176 := ak ((mq53 : w.heap.size ≤ gb176)); have GE176 := ak ((mq53 : w.heap.size ≤ gb176)); replace HB := ak (below_step kW hb); clear hb hbox hg; obtain ⟨hcz10_0, hcz10_1, hcz10_2, hcz10_3⟩ := cz4 BK176; obtain ⟨hfz10_0, hfz10_1, hfz10_2, hfz10_3⟩ := fz4 BK176))
    go_ret
    exact ⟨mq37, kW⟩
   ·rw [if_neg c8] at H
    have c8b0 : decide (a0_1 < 0) = false := decide_eq_false c8
    clear c8
    by_cases c11 : a0_1 > 10000
    ·rw [if_pos c11] at H
     have c11b0 : decide (10000 < a0_1) = true := decide_eq_true c11
     clear c11
     obtain rfl := Option.some.inj H
     go_enter Tryz.func81, Tryz.ntmps81
     go_wp2_with (first | ((with_reducible refine gate_dst (N := 1) rfl ?_); refine bxe 1 #[.int .i64 a0_0, .int .i64 a0_1, .int .i64 a0_2, .int .i64 a0_3] 24 (h := ?_); intro gb176 hg w12 hbox hb; have BK176 := ak (hbox); have GW176 := ak ((mq53 : w.heap.size ≤ gb176)); have GE176 := ak ((mq53 : w.heap.size ≤ gb176)); replace HB := ak (below_step kW hb); clear hb hbox hg; obtain ⟨hcz13_0, hcz13_1, hcz13_2, hcz13_3⟩ := cz4 BK176; obtain ⟨hfz13_0, hfz13_1, hfz13_2, hfz13_3⟩ := fz4 BK176))
     go_ret
     exact ⟨mq37, kW⟩
    ·rw [if_neg c11] at H
     have c11b0 : decide (10000 < a0_1) = false := decide_eq_false c11
     clear c11
     by_cases c14 : a0_2 > 0
     ·rw [if_pos c14] at H
      have c14b0 : decide (0 < a0_2) = true := decide_eq_true c14
      clear c14
      by_cases c15 : a0_2 ≤ 10000
      ·rw [if_pos c15] at H
       have c15b0 : decide (a0_2 ≤ 10000) = true := decide_eq_true c15
       clear c15
       by_cases c16 : a0_3 > 0
       ·rw [if_pos c16] at H
        have c16b0 : decide (0 < a0_3) = true := decide_eq_true c16
        clear c16
        by_cases c17 : a0_3 ≤ 10000
        ·rw [if_pos c17] at H
         have c17b0 : decide (a0_3 ≤ 10000) = true := decide_eq_true c17
         clear c17
         by_cases c18 : (wrap64 (a0_0 + a0_2)) ≤ 10000
         ·rw [if_pos c18] at H
          have c18b0 : decide ((wrap64 (a0_0 + a0_2)) ≤ 10000) = true := decide_eq_true c18
          clear c18
          obtain rfl := Option.some.inj H
          go_enter Tryz.func81, Tryz.ntmps81
          go_wp2_with (first | ((with_reducible refine gate_dst (N := 1) rfl ?_); refine bxe 1 #[.int .i64 a0_0, .int .i64 a0_1, .int .i64 a0_2, .int .i64 a0_3] 24 (h := ?_); intro gb176 hg w19 hbox hb; have BK176 := ak (hbox); have GW176 := ak ((mq53 : w.heap.size ≤ gb176)); have GE176 := ak ((mq53 : w.heap.size ≤ gb176)); replace HB := ak (below_step kW hb); clear hb hbox hg; obtain ⟨hcz20_0, hcz20_1, hcz20_2, hcz20_3⟩ := cz4 BK176; obtain ⟨hfz20_0, hfz20_1, hfz20_2, hfz20_3⟩ := fz4 BK176))
          go_ret
          exact ⟨mq37, kW⟩
         ·rw [if_neg c18] at H
          have c18b0 : decide ((wrap64 (a0_0 + a0_2)) ≤ 10000) = false := decide_eq_false c18
          clear c18
          obtain rfl := Option.some.inj H
          go_enter Tryz.func81, Tryz.ntmps81
          go_wp2_with (first | ((with_reducible refine gate_dst (N := 1) rfl ?_); refine bxe 1 #[.int .i64 a0_0, .int .i64 a0_1, .int .i64 a0_2, .int .i64 a0_3] 24 (h := ?_); intro gb176 hg w21 hbox hb; have BK176 := ak (hbox); have GW176 := ak ((mq53 : w.heap.size ≤ gb176)); have GE176 := ak ((mq53 : w.heap.size ≤ gb176)); replace HB := ak (below_step kW hb); clear hb hbox hg; obtain ⟨hcz22_0, hcz22_1, hcz22_2, hcz22_3⟩ := cz4 BK176; obtain ⟨hfz22_0, hfz22_1, hfz22_2, hfz22_3⟩ := fz4 BK176))
          go_ret
          exact ⟨mq37, kW⟩
        ·rw [if_neg c17] at H
         have c17b0 : decide (a0_3 ≤ 10000) = false := decide_eq_false c17
         clear c17
         obtain rfl := Option.some.inj H
         go_enter Tryz.func81, Tryz.ntmps81
         go_wp2_with (first | ((with_reducible refine gate_dst (N := 1) rfl ?_); refine bxe 1 #[.int .i64 a0_0, .int .i64 a0_1, .int .i64 a0_2, .int .i64 a0_3] 24 (h := ?_); intro gb176 hg w23 hbox hb; have BK176 := ak (hbox); have GW176 := ak ((mq53 : w.heap.size ≤ gb176)); have GE176 := ak ((mq53 : w.heap.size ≤ gb176)); replace HB := ak (below_step kW hb); clear hb hbox hg; obtain ⟨hcz24_0, hcz24_1, hcz24_2, hcz24_3⟩ := cz4 BK176; obtain ⟨hfz24_0, hfz24_1, hfz24_2, hfz24_3⟩ := fz4 BK176))
         go_ret
         exact ⟨mq37, kW⟩
       ·rw [if_neg c16] at H
        have c16b0 : decide (0 < a0_3) = false := decide_eq_false c16
        clear c16
        obtain rfl := Option.some.inj H
        go_enter Tryz.func81, Tryz.ntmps81
        go_wp2_with (first | ((with_reducible refine gate_dst (N := 1) rfl ?_); refine bxe 1 #[.int .i64 a0_0, .int .i64 a0_1, .int .i64 a0_2, .int .i64 a0_3] 24 (h := ?_); intro gb176 hg w25 hbox hb; have BK176 := ak (hbox); have GW176 := ak ((mq53 : w.heap.size ≤ gb176)); have GE176 := ak ((mq53 : w.heap.size ≤ gb176)); replace HB := ak (below_step kW hb); clear hb hbox hg; obtain ⟨hcz26_0, hcz26_1, hcz26_2, hcz26_3⟩ := cz4 BK176; obtain ⟨hfz26_0, hfz26_1, hfz26_2, hfz26_3⟩ := fz4 BK176))
        go_ret
        exact ⟨mq37, kW⟩
      ·rw [if_neg c15] at H
       have c15b0 : decide (a0_2 ≤ 10000) = false := decide_eq_false c15
       clear c15
       obtain rfl := Option.some.inj H
       go_enter Tryz.func81, Tryz.ntmps81
       go_wp2_with (first | ((with_reducible refine gate_dst (N := 1) rfl ?_); refine bxe 1 #[.int .i64 a0_0, .int .i64 a0_1, .int .i64 a0_2, .int .i64 a0_3] 24 (h := ?_); intro gb176 hg w27 hbox hb; have BK176 := ak (hbox); have GW176 := ak ((mq53 : w.heap.size ≤ gb176)); have GE176 := ak ((mq53 : w.heap.size ≤ gb176)); replace HB := ak (below_step kW hb); clear hb hbox hg; obtain ⟨hcz28_0, hcz28_1, hcz28_2, hcz28_3⟩ := cz4 BK176; obtain ⟨hfz28_0, hfz28_1, hfz28_2, hfz28_3⟩ := fz4 BK176))
       go_ret
       exact ⟨mq37, kW⟩
     ·rw [if_neg c14] at H
      have c14b0 : decide (0 < a0_2) = false := decide_eq_false c14
      clear c14
      obtain rfl := Option.some.inj H
      go_enter Tryz.func81, Tryz.ntmps81
      go_wp2_with (first | ((with_reducible refine gate_dst (N := 1) rfl ?_); refine bxe 1 #[.int .i64 a0_0, .int .i64 a0_1, .int .i64 a0_2, .int .i64 a0_3] 24 (h := ?_); intro gb176 hg w29 hbox hb; have BK176 := ak (hbox); have GW176 := ak ((mq53 : w.heap.size ≤ gb176)); have GE176 := ak ((mq53 : w.heap.size ≤ gb176)); replace HB := ak (below_step kW hb); clear hb hbox hg; obtain ⟨hcz30_0, hcz30_1, hcz30_2, hcz30_3⟩ := cz4 BK176; obtain ⟨hfz30_0, hfz30_1, hfz30_2, hfz30_3⟩ := fz4 BK176))
      go_ret
      exact ⟨mq37, kW⟩
end Go.Proofs.YtkobpbbegalfpaaGreatDoor.PParseBodies
