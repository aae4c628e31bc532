/- Printed texts of this seat, cut to what is used. -/
import Derived.Test.YtkobpbbegalfpaaGreatDoorPsBase
import Derived.Test.YtkobpbbegalfpaaGreatDoorPParseBodiesx5
import Derived.Test.YtkobpbbegalfpaaGreatDoorPParseBodiesx6
import Derived.Test.YtkobpbbegalfpaaGreatDoorPParseBodiesx9
namespace Go.Proofs.YtkobpbbegalfpaaGreatDoor.PParseBodies
open Go.RowKit YtkobpbbegalfpaaGreatDoorW.PrintWords YtkobpbbegalfpaaGreatDoorW.PrintLast YtkobpbbegalfpaaGreatDoorW.PrintMore
attribute [local go_sem] max2_int min2_int max_two min_two max_three min_three max_four min_four
set_option linter.unusedVariables false
set_option linter.unusedSimpArgs false
def sashref06_Check.l0 : Nat → List (S24) → List (S27) → List (S24) → Int → Int → Option ((List (S24)) × Int × Int)
 | 0, _, _, _, _, _ => none
 | k + 1, x5, x6, x7, x20, x21 => if x21 < x20 then (if 0 ≤ x21 then (if x21 < (x6.length : Int) then ((sashref06_one.f k ((rd_T27 x6 x21).f0) ((rd_T27 x6 x21).f1.f0) ((rd_T27 x6 x21).f1.f1) ((rd_T27 x6 x21).f1.f2) ((rd_T27 x6 x21).f1.f3) ((rd_T27 x6 x21).f2) ((rd_T27 x6 x21).f3)).bind fun bt273 => (if bt273.2 = true then (if x7.length + bt273.1.length < 4398046511104 then (sashref06_Check.l0 k x5 x6 (x7 ++ bt273.1) x20 (wrap64 (x21 + 1))) else (none)) else (some (x5, 5, x21)))) else (none)) else (none)) else (some (x7, 0, 0))
def sashref06_Check.f (k : Nat) (a0_0 : Int) (a0_1 : Int) (a0_2 : Int) (a0_3 : Int) (a0_4 : Int) (a0_5 : Int) (l0_6 : List (S27)) : Option ((List (S24)) × Int × Int) := (some (([] : List (S24)) : List (S24))).bind fun y262 => ((sashref05_May.f k a0_0 a0_1 a0_2 a0_3 a0_4 a0_5 l0_6).bind fun t265 => (if t265 = true then ((sashref05_All.f k a0_0 a0_1 a0_2 a0_3 a0_4 a0_5 l0_6).bind fun t266 => (sashref06_Check.l0 k y262 t266 (([] : List (S24))) (t266.length : Int) 0)) else (some (y262, 1, 0))))
set_option maxHeartbeats 8000000 in
set_option maxRecDepth 100000 in
theorem sashref06_Check.calls (k : Nat) (a0_0 : Int) (a0_1 : Int) (a0_2 : Int) (a0_3 : Int) (a0_4 : Int) (a0_5 : Int) (A0_6 : Option Addr) (c0_6 : Nat) (l0_6 : List (S27)) (r1 : List (S24)) (r2 : Int) (r3 : Int) (w : World) (hr0_6 : Kd.C k27 w A0_6 l0_6.length l0_6) (hc0_6 : l0_6.length ≤ c0_6) (h : sashref06_Check.f k a0_0 a0_1 a0_2 a0_3 a0_4 a0_5 l0_6 = some (r1, r2, r3)) :
  Calls Tryz.prog 43 #[.agg #[.int .u8 a0_0, .int .i64 a0_1, .int .i64 a0_2, .int .i64 a0_3, .int .i64 a0_4, .int .i64 a0_5, .slice A0_6 l0_6.length c0_6]] w fun e w' => ∃ v0_ : Value, e = .returned (.tuple #[v0_, .int .i64 r2, .int .i64 r3]) ∧ Kd.R k24 24 w' w.heap.size (fun _ => True) v0_ r1 ∧ Below w.heap.size w w' := by
 have hu27 := Tryz.underlying27
 have HR0_6 := ak hr0_6
 have HC0_6 := ak hc0_6
 clear hr0_6 hc0_6
 have HB := ak (Below.refl w.heap.size w)
 have H : ((some (([] : List (S24)) : List (S24))).bind fun y262 => ((sashref05_May.f k a0_0 a0_1 a0_2 a0_3 a0_4 a0_5 l0_6).bind fun t265 => (if t265 = true then ((sashref05_All.f k a0_0 a0_1 a0_2 a0_3 a0_4 a0_5 l0_6).bind fun t266 => (sashref06_Check.l0 k y262 t266 (([] : List (S24))) (t266.length : Int) 0)) else (some (y262, 1, 0))))) = some (r1, r2, r3) := h
 clear h
 obtain ⟨y262, hy262⟩ : ∃ y_ : List (S24), y_ = (([] : List (S24))) := ⟨_, rfl⟩
 replace H : ((sashref05_May.f k a0_0 a0_1 a0_2 a0_3 a0_4 a0_5 l0_6).bind fun t265 => (if t265 = true then ((sashref05_All.f k a0_0 a0_1 a0_2 a0_3 a0_4 a0_5 l0_6).bind fun t266 => (sashref06_Check.l0 k y262 t266 (([] : List (S24))) (t266.length : Int) 0)) else (some (y262, 1, 0)))) = some (r1, r2, r3) := mq33 hy262
 have Ny262 := ak hy262
 clear hy262
 replace H := Option.bind_eq_some_iff.mp H
 obtain ⟨t265, A20, H⟩ := H
 replace H : (if t265 = true then ((sashref05_All.f k a0_0 a0_1 a0_2 a0_3 a0_4 a0_5 l0_6).bind fun t266 => (sashref06_Check.l0 k y262 t266 (([] : List (S24))) (t266.length : Int) 0)) else (some (y262, 1, 0))) = some (r1, r2, r3) := H
 have A2 := ak A20
 clear A20
 by_cases c3 : t265 = true
 ·subst c3
  have H1 : ((sashref05_All.f k a0_0 a0_1 a0_2 a0_3 a0_4 a0_5 l0_6).bind fun t266 => (sashref06_Check.l0 k y262 t266 (([] : List (S24))) (t266.length : Int) 0)) = some (r1, r2, r3) := mq55
  clear H
  have H := H1
  clear H1
  replace H := Option.bind_eq_some_iff.mp H
  obtain ⟨t266, A40, H⟩ := H
  replace H : (sashref06_Check.l0 k y262 t266 (([] : List (S24))) (t266.length : Int) 0) = some (r1, r2, r3) := H
  have A4 := ak A40
  clear A40
  obtain ⟨y269, hy269⟩ : ∃ y_ : List (S24), y_ = (([] : List (S24))) := ⟨_, rfl⟩
  replace H : (sashref06_Check.l0 k y262 t266 y269 (t266.length : Int) 0) = some (r1, r2, r3) := mq33 hy269
  have Ny269 := ak hy269
  clear hy269
  have H' := ak H
  clear H
  go_enter Tryz.func43, Tryz.ntmps43
  go_wp2_with (first | ((with_reducible refine gate_dst (N := 1) rfl ?_); refine bxe 1 #[.int .u8 a0_0, .int .i64 a0_1, .int .i64 a0_2, .int .i64 a0_3, .int .i64 a0_4, .int .i64 a0_5, .slice A0_6 l0_6.length c0_6] 27 (h := ?_); intro gb261 hg w5 hbox hb; have BK261 := ak (hbox); have GW261 := ak ((mq53 : w.heap.size ≤ gb261)); have GE261 := ak ((mq53 : w.heap.size ≤ gb261)); replace HB := ak (below_step kW hb); clear hb hbox hg) | ((with_reducible refine gate_dst (N := 11) rfl ?_); refine Kd.R_lit k24 _ 24 ?hg (N := 11) ?hd (xs := ([] : List (S24))) (inner := []) (ok := fun _ => True) (okp := fun _ => True) ?hr ?hp (fun _ hk => hk) trivial (Below.refl _ _) (Nat.le_refl _) (by simp) ?_; (case hd => rfl); (case hg => rfl); (case hr => first | (go_simp; done) | (go_simp; rfl)); (case hp => exact (Reps.none _ _)); intro v263 w6 ho7 hb hg_ hnew_; clear hg_ hnew_; (first | rw [← Ny262.out] at ho7 | (simp only [Int.reduceToNat] at ho7; rw [← Ny262.out] at ho7)); have HO264 := ak (Kd.R_lower ho7 (below_size kW)); replace BK261 := (kB BK261 hb); replace HB := ak (below_step kW hb); clear hb ho7; obtain ⟨hcz8_0, hcz8_1, hcz8_2, hcz8_3, hcz8_4, hcz8_5, hcz8_6⟩ := cz7 BK261; obtain ⟨hfz8_0, hfz8_1, hfz8_2, hfz8_3, hfz8_4, hfz8_5, hfz8_6⟩ := fz7 BK261) | ((with_reducible refine gate_callee (f := 52) rfl ?_); refine gol (some 13) Tryz.func52 #[.agg #[.int .u8 a0_0, .int .i64 a0_1, .int .i64 a0_2, .int .i64 a0_3, .int .i64 a0_4, .int .i64 a0_5, .slice A0_6 l0_6.length c0_6]] (h := ?_); (with_reducible refine (sashref05_May.calls k a0_0 a0_1 a0_2 a0_3 a0_4 a0_5 _ _ l0_6 true _ ?side1 ?side2 A2.out).mono ?_); (case side1 => repeat (first | exact (Kd.C_below HR0_6.out HB.out) | (with_reducible refine Kd.C_alloc ?_ _) | (with_reducible refine Kd.C_drewN ?_ _) | (with_reducible refine Kd.C_drew ?_))); (case side2 => exact HC0_6.out); rintro e w9 ⟨rfl, hb⟩; refine ⟨_, rfl, ?_⟩; replace HO264 := ak (Kd.R_below (kR HO264) hb); replace BK261 := (kB BK261 hb); replace HB := ak (below_step kW hb); (try clear hb); (try clear hb2); (try clear hk); (try clear hi); obtain ⟨hcz10_0, hcz10_1, hcz10_2, hcz10_3, hcz10_4, hcz10_5, hcz10_6⟩ := cz7 BK261; obtain ⟨hfz10_0, hfz10_1, hfz10_2, hfz10_3, hfz10_4, hfz10_5, hfz10_6⟩ := fz7 BK261) | ((with_reducible refine gate_callee (f := 57) rfl ?_); refine gol (some 17) Tryz.func57 #[.agg #[.int .u8 a0_0, .int .i64 a0_1, .int .i64 a0_2, .int .i64 a0_3, .int .i64 a0_4, .int .i64 a0_5, .slice A0_6 l0_6.length c0_6]] (h := ?_); (with_reducible refine (sashref05_All.calls k a0_0 a0_1 a0_2 a0_3 a0_4 a0_5 (fun k_ => k_ < w.heap.size) _ _ l0_6 t266 _ ?side1 A4.out).mono ?_); (case side1 => exact Kd.V_mk HC0_6.out (Kd.F_below (Kd.C_F k27_heap HR0_6.out) kW)); rintro e w11 ⟨v267, rfl, ho0, hb⟩; refine ⟨_, rfl, ?_⟩; have HO268 := ak (Kd.N_lower (Kd.N_mono (ok' := fun k_ => some k_ ≠ (v263 : Value).ownBlock ∧ k_ ≠ gb261) ho0 (fun k_ hk_ => ⟨Or.elim hk_ (fun hs_ => fun e_ => Nat.not_le.2 hs_ (Kd.R_base HO264.out k_ e_.symm)) (fun hn_ => (Kd.fresh' (Kd.R_lt (kR HO264)) k_ hn_)), Or.elim hk_ (fun hs_ => fun e_ => Nat.not_le.2 hs_ (by rw [e_]; exact GW261.out)) (fun hn_ => (Kd.freshB (g := gb261) (o := .cells #[.int .u8 a0_0, .int .i64 a0_1, .int .i64 a0_2, .int .i64 a0_3, .int .i64 a0_4, .int .i64 a0_5, .slice A0_6 l0_6.length c0_6] 27 (0, 0)) (kA BK261) k_ hn_))⟩)) (below_size kW)); replace HO264 := ak (Kd.R_below (kR HO264) hb); replace BK261 := (kB BK261 hb); replace HB := ak (below_step kW hb); (try clear hb); (try clear hb2); (try clear hk); (try clear hi); (try clear ho0)) | ((with_reducible refine gate_dst (N := 18) rfl ?_); refine Kd.R_lit k24 _ 24 ?hg (N := 18) ?hd (xs := ([] : List (S24))) (inner := []) (ok := fun _ => True) (okp := fun _ => True) ?hr ?hp (fun _ hk => hk) trivial (Below.refl _ _) (Nat.le_refl _) (by simp) ?_; (case hd => rfl); (case hg => rfl); (case hr => first | (go_simp; done) | (go_simp; rfl)); (case hp => exact (Reps.none _ _)); intro v270 w12 ho13 hb hg_ hnew_; clear hg_ hnew_; (first | rw [← Ny269.out] at ho13 | (simp only [Int.reduceToNat] at ho13; rw [← Ny269.out] at ho13)); replace HO268 := ak (Kd.N_elder' (kN HO268) (Kd.R_base ho13) hb); have HO271 := ak (Kd.R_lower (Kd.R_new' ho13 (Kd.R_lt (kR HO264))) (below_size kW)); replace HO264 := ak (Kd.R_elder' (kR HO264) (Kd.R_base ho13) hb); replace BK261 := (kB BK261 hb); replace HB := ak (below_step kW hb); clear hb ho13; obtain ⟨Ao14, co14, eo14⟩ := Kd.N_slice HO268.out; subst eo14))
  go_loopg [7, 21] k (fun kq v7 v21 w' => ∃ (x7_1 : List (S24)) (x21_1 : Int), v21 = .int .i64 x21_1 ∧ Aside0 (sashref06_Check.l0 kq y262 t266 x7_1 (t266.length : Int) x21_1 = some (r1, r2, r3)) ∧ Aside0 (kq ≤ k) ∧ Aside0 (Kd.R k24 24 w' w.heap.size (fun k_ => some k_ ≠ (v7 : Value).ownBlock) v263 y262) ∧ Aside0 (Kd.N k27 27 w' w.heap.size (fun k_ => some k_ ≠ (v263 : Value).ownBlock ∧ some k_ ≠ (v7 : Value).ownBlock ∧ k_ ≠ gb261) (.slice Ao14 t266.length co14) t266) ∧ Aside0 (Kd.R k24 24 w' w.heap.size (fun k_ => some k_ ≠ (v263 : Value).ownBlock) v7 x7_1) ∧ Aside0 (w'.heap[gb261]? = some (.cells #[.int .u8 a0_0, .int .i64 a0_1, .int .i64 a0_2, .int .i64 a0_3, .int .i64 a0_4, .int .i64 a0_5, (.slice A0_6 l0_6.length c0_6)] 27 (0, 0))) ∧ Aside0 (Below w.heap.size w w'))
  case atStart => exact ⟨(y269), (0), mq39, H', ⟨Nat.le_refl _⟩, ⟨mq15 HO264⟩, ⟨mq3 HO268⟩, ⟨mq15 HO271⟩, ⟨mq28 BK261⟩, ⟨kW⟩⟩
  case round =>
   clear H'
   clear hcz10_0 hcz10_1 hcz10_2 hcz10_3 hcz10_4 hcz10_5 hcz10_6 hcz8_0 hcz8_1 hcz8_2 hcz8_3 hcz8_4 hcz8_5 hcz8_6 hfz10_0 hfz10_1 hfz10_2 hfz10_3 hfz10_4 hfz10_5 hfz10_6 hfz8_0 hfz8_1 hfz8_2 hfz8_3 hfz8_4 hfz8_5 hfz8_6
   obtain ⟨x7_1, x21_1, rfl, HA, HK1, HO_5, HO_6, HO_7, BK261, HB⟩ := hrel
   cases gk with
   | zero => exact absurd HA.out (by simp [sashref06_Check.l0])
   | succ k1 =>
    have H := HA.out
    clear HA
    simp only [sashref06_Check.l0] at H
    by_cases c15 : x21_1 < (t266.length : Int)
    ·rw [if_pos c15] at H
     have c15b0 : decide (x21_1 < (t266.length : Int)) = true := decide_eq_true c15
     clear c15
     by_cases c16 : 0 ≤ x21_1
     ·rw [if_pos c16] at H
      have c16b0 : decide (0 ≤ x21_1) = true := decide_eq_true c16
      clear c16
      by_cases c17 : x21_1 < (t266.length : Int)
      ·rw [if_pos c17] at H
       have c17b0 : decide (x21_1 < (t266.length : Int)) = true := decide_eq_true c17
       clear c17
       replace H := Option.bind_eq_some_iff.mp H
       obtain ⟨⟨t273, t276⟩, A180, H⟩ := H
       replace H : (if t276 = true then (if x7_1.length + t273.length < 4398046511104 then (sashref06_Check.l0 k1 y262 t266 (x7_1 ++ t273) (t266.length : Int) (wrap64 (x21_1 + 1))) else (none)) else (some (y262, 5, x21_1))) = some (r1, r2, r3) := H
       have A18 := ak A180
       clear A180
       by_cases c19 : t276 = true
       ·subst c19
        have H1 : (if x7_1.length + t273.length < 4398046511104 then (sashref06_Check.l0 k1 y262 t266 (x7_1 ++ t273) (t266.length : Int) (wrap64 (x21_1 + 1))) else (none)) = some (r1, r2, r3) := mq55
        clear H
        have H := H1
        clear H1
        by_cases c20 : x7_1.length + t273.length < 4398046511104
        ·rw [if_pos c20] at H
         have LMc20 := ak c20
         clear c20
         obtain ⟨y277, hy277⟩ : ∃ y_ : List (S24), y_ = (x7_1 ++ t273) := ⟨_, rfl⟩
         replace H : (sashref06_Check.l0 k1 y262 t266 y277 (t266.length : Int) (wrap64 (x21_1 + 1))) = some (r1, r2, r3) := mq33 hy277
         have Ny277 := ak hy277
         clear hy277
         have H' := ak H
         clear H
         have p272 : 0 ≤ (x21_1 : Int) := of_decide_eq_true mq34
         have q272 : x21_1 < (t266.length : Int) := of_decide_eq_true mq34
         obtain ⟨ad272, A272_6, c272_6, e272, hx272_0, hx272_1, hx272_2, hx272_3, hx272_4, hx272_5, hx272_6, HC272_6, HR272_6, HL272_6⟩ := elN27 w.heap.size HO_6 x21_1 p272 q272
         cases e272
         replace p272 := eq_true p272
         replace q272 := eq_true q272
         go_wp2_with (first | ((with_reducible refine gate_callee (f := 62) rfl ?_); refine gol (some 29) Tryz.func62 #[.agg #[.int .u8 ((rd_T27 t266 x21_1).f0), .int .i64 ((rd_T27 t266 x21_1).f1.f0), .int .i64 ((rd_T27 t266 x21_1).f1.f1), .int .i64 ((rd_T27 t266 x21_1).f1.f2), .int .i64 ((rd_T27 t266 x21_1).f1.f3), .int .i64 ((rd_T27 t266 x21_1).f2), .slice A272_6 ((rd_T27 t266 x21_1).f3).length c272_6]] (h := ?_); (with_reducible refine (sashref06_one.calls k1 ((rd_T27 t266 x21_1).f0) ((rd_T27 t266 x21_1).f1.f0) ((rd_T27 t266 x21_1).f1.f1) ((rd_T27 t266 x21_1).f1.f2) ((rd_T27 t266 x21_1).f1.f3) ((rd_T27 t266 x21_1).f2) _ _ ((rd_T27 t266 x21_1).f3) t273 true _ ?side1 ?side2 A18.out).mono ?_); (case side1 => repeat (first | exact (mq48 HR272_6) | (with_reducible refine Kd.C_alloc ?_ _) | (with_reducible refine Kd.C_drewN ?_ _) | (with_reducible refine Kd.C_drew ?_))); (case side2 => exact HC272_6.out); rintro e w21 ⟨v274, rfl, ho0, hb⟩; refine ⟨_, rfl, ?_⟩; replace HL272_6 := ak (Kd.V_below (mq27 HL272_6) hb); have HO275 := ak (Kd.V_lower (Kd.V_mono (ok' := fun k_ => some k_ ≠ (v263 : Value).ownBlock ∧ some k_ ≠ (.slice (some ad272) t266.length co14 : Value).ownBlock ∧ some k_ ≠ (u7 : Value).ownBlock ∧ k_ ≠ gb261) ho0 (fun k_ hk_ => ⟨(Kd.fresh' (Kd.R_lt (kR HO_5)) k_ hk_), (Kd.fresh' (Kd.N_lt (kN HO_6)) k_ hk_), (Kd.fresh' (Kd.R_lt (kR HO_7)) k_ hk_), (Kd.freshB (g := gb261) (o := .cells #[.int .u8 a0_0, .int .i64 a0_1, .int .i64 a0_2, .int .i64 a0_3, .int .i64 a0_4, .int .i64 a0_5, .slice A0_6 l0_6.length c0_6] 27 (0, 0)) (kA BK261) k_ hk_)⟩)) (below_size kW)); replace HO_5 := ak (Kd.R_below (kR HO_5) hb); replace HO_6 := ak (Kd.N_below (kN HO_6) hb); replace HO_7 := ak (Kd.R_below (kR HO_7) hb); replace BK261 := (kB BK261 hb); replace HR272_6 := ak (Kd.C_below (mq48 HR272_6) hb); replace HB := ak (below_step kW hb); (try clear hb); (try clear hb2); (try clear hk); (try clear hi); (try clear ho0); obtain ⟨Ao23, co23, eo23⟩ := Kd.V_slice HO275.out; subst eo23) | ((with_reducible refine gate_builtin (b := .append) (xs := #[.tmp 36, .tmp 37]) rfl ?_); at_builtin; refine Kd.R_append_rows k24 (w0 := w) w.heap.size rfl (.tmp 36) (.tmp 37) 73 24 (.agg #[(.int .i64 0), (.int .i64 0), (.int .i64 0), (.int .i64 0)]) 32 rfl Tryz.underlying73 info24 rfl (by decide) (by omega) u7 x7_1 t273 _ _ _ (fun k_ => some k_ ≠ (v263 : Value).ownBlock) (fun _ => False) rfl rfl ?aO ?aR (fun _ _ h => h) (fun _ h => h.elim) ?aF ?aB ?aS ?aL ?_; (case aR => repeat (first | exact (Kd.V_reads' HO275.out).2.2 | (with_reducible refine Kd.C_alloc ?_ _) | (with_reducible refine Kd.C_drewN ?_ _) | (with_reducible refine Kd.C_drew ?_))); (case aB => exact kW); (case aF => exact (fun k_ hk => Kd.fresh' (Kd.R_lt (kR HO_5)) k_ hk)); (case aO => exact (kR HO_7)); (case aS => exact (below_size kW)); (case aL => have := LMc20.out; omega); intro v278 w22 ho hb hg hat; rw [← Ny277.out] at ho; replace HO_5 := ak (Kd.R_after (ok := (fun _ => True)) (by (with_reducible repeat (first | apply Kd.R_alloc | apply Kd.R_drewN | apply Kd.R_drew)); exact Kd.R_mono HO_5.out (fun _ hk => ⟨trivial, hk⟩)) hg hat); replace HO_6 := ak (Kd.N_afterv (ok := (fun k_ => some k_ ≠ (v263 : Value).ownBlock ∧ k_ ≠ gb261)) (mq4 HO_6) hg hat); replace BK261 := (kG BK261 hg (Kd.R_ne HO_7.out BK261.out (by decide))); replace HL272_6 := ak (Kd.V_afterv (ok := (fun k_ => some k_ ≠ (v263 : Value).ownBlock ∧ some k_ ≠ (.slice (some ad272) t266.length co14 : Value).ownBlock ∧ k_ ≠ gb261)) (mq26 HL272_6) hg hat); replace HO275 := ak (Kd.V_afterv (ok := (fun k_ => some k_ ≠ (v263 : Value).ownBlock ∧ some k_ ≠ (.slice (some ad272) t266.length co14 : Value).ownBlock ∧ k_ ≠ gb261)) (by (with_reducible repeat (first | apply Kd.V_alloc | apply Kd.V_drewN | apply Kd.V_drew)); exact Kd.V_mono HO275.out (fun _ hk => ⟨⟨hk.1, ⟨hk.2.1, hk.2.2.2⟩⟩, hk.2.2.1⟩)) hg hat); replace HB := ak (hb); have HO279 := ak (ho); clear HO_7; clear ho hb hg hat))
         go_roundg k1
         case measure => have := HK1.out; omega
         case rel => exact ⟨(y277), (wrap64 (x21_1 + 1)), mq39, H', ⟨mq47 HK1⟩, ⟨mq15 HO_5⟩, ⟨mq3 HO_6⟩, ⟨mq24 HO279⟩, ⟨mq28 BK261⟩, ⟨kW⟩⟩
        ·rw [if_neg c20] at H
         exact absurd H (by simp)
       ·replace c19 := Bool.eq_false_iff.mpr c19
        subst c19
        have H1 : (some (y262, 5, x21_1)) = some (r1, r2, r3) := mq54
        clear H
        have H := H1
        clear H1
        simp only [Option.some.injEq, Prod.mk.injEq] at H
        obtain ⟨rfl, rfl, rfl⟩ := H
        have p272 : 0 ≤ (x21_1 : Int) := of_decide_eq_true mq34
        have q272 : x21_1 < (t266.length : Int) := of_decide_eq_true mq34
        obtain ⟨ad272, A272_6, c272_6, e272, hx272_0, hx272_1, hx272_2, hx272_3, hx272_4, hx272_5, hx272_6, HC272_6, HR272_6, HL272_6⟩ := elN27 w.heap.size HO_6 x21_1 p272 q272
        cases e272
        replace p272 := eq_true p272
        replace q272 := eq_true q272
        go_wp2_with (first | ((with_reducible refine gate_callee (f := 62) rfl ?_); refine gol (some 29) Tryz.func62 #[.agg #[.int .u8 ((rd_T27 t266 x21_1).f0), .int .i64 ((rd_T27 t266 x21_1).f1.f0), .int .i64 ((rd_T27 t266 x21_1).f1.f1), .int .i64 ((rd_T27 t266 x21_1).f1.f2), .int .i64 ((rd_T27 t266 x21_1).f1.f3), .int .i64 ((rd_T27 t266 x21_1).f2), .slice A272_6 ((rd_T27 t266 x21_1).f3).length c272_6]] (h := ?_); (with_reducible refine (sashref06_one.calls k1 ((rd_T27 t266 x21_1).f0) ((rd_T27 t266 x21_1).f1.f0) ((rd_T27 t266 x21_1).f1.f1) ((rd_T27 t266 x21_1).f1.f2) ((rd_T27 t266 x21_1).f1.f3) ((rd_T27 t266 x21_1).f2) _ _ ((rd_T27 t266 x21_1).f3) t273 false _ ?side1 ?side2 A18.out).mono ?_); (case side1 => repeat (first | exact (mq48 HR272_6) | (with_reducible refine Kd.C_alloc ?_ _) | (with_reducible refine Kd.C_drewN ?_ _) | (with_reducible refine Kd.C_drew ?_))); (case side2 => exact HC272_6.out); rintro e w24 ⟨v274, rfl, ho0, hb⟩; refine ⟨_, rfl, ?_⟩; replace HL272_6 := ak (Kd.V_below (mq27 HL272_6) hb); have HO275 := ak (Kd.V_lower (Kd.V_mono (ok' := fun k_ => some k_ ≠ (v263 : Value).ownBlock ∧ some k_ ≠ (.slice (some ad272) t266.length co14 : Value).ownBlock ∧ some k_ ≠ (u7 : Value).ownBlock ∧ k_ ≠ gb261) ho0 (fun k_ hk_ => ⟨(Kd.fresh' (Kd.R_lt (kR HO_5)) k_ hk_), (Kd.fresh' (Kd.N_lt (kN HO_6)) k_ hk_), (Kd.fresh' (Kd.R_lt (kR HO_7)) k_ hk_), (Kd.freshB (g := gb261) (o := .cells #[.int .u8 a0_0, .int .i64 a0_1, .int .i64 a0_2, .int .i64 a0_3, .int .i64 a0_4, .int .i64 a0_5, .slice A0_6 l0_6.length c0_6] 27 (0, 0)) (kA BK261) k_ hk_)⟩)) (below_size kW)); replace HO_5 := ak (Kd.R_below (kR HO_5) hb); replace HO_6 := ak (Kd.N_below (kN HO_6) hb); replace HO_7 := ak (Kd.R_below (kR HO_7) hb); replace BK261 := (kB BK261 hb); replace HR272_6 := ak (Kd.C_below (mq48 HR272_6) hb); replace HB := ak (below_step kW hb); (try clear hb); (try clear hb2); (try clear hk); (try clear hi); (try clear ho0)))
        go_ret3
        exact ⟨_, mq37, mq16 HO_5, kW⟩
      ·rw [if_neg c17] at H
       exact absurd H (by simp)
     ·rw [if_neg c16] at H
      exact absurd H (by simp)
    ·rw [if_neg c15] at H
     have c15b0 : decide (x21_1 < (t266.length : Int)) = false := decide_eq_false c15
     clear c15
     simp only [Option.some.injEq, Prod.mk.injEq] at H
     obtain ⟨rfl, rfl, rfl⟩ := H
     go_wp2
     go_ret3
     exact ⟨_, mq37, mq16 HO_7, kW⟩
 ·replace c3 := Bool.eq_false_iff.mpr c3
  subst c3
  have H1 : (some (y262, 1, 0)) = some (r1, r2, r3) := mq54
  clear H
  have H := H1
  clear H1
  simp only [Option.some.injEq, Prod.mk.injEq] at H
  obtain ⟨rfl, rfl, rfl⟩ := H
  go_enter Tryz.func43, Tryz.ntmps43
  go_wp2_with (first | ((with_reducible refine gate_dst (N := 1) rfl ?_); refine bxe 1 #[.int .u8 a0_0, .int .i64 a0_1, .int .i64 a0_2, .int .i64 a0_3, .int .i64 a0_4, .int .i64 a0_5, .slice A0_6 l0_6.length c0_6] 27 (h := ?_); intro gb261 hg w25 hbox hb; have BK261 := ak (hbox); have GW261 := ak ((mq53 : w.heap.size ≤ gb261)); have GE261 := ak ((mq53 : w.heap.size ≤ gb261)); replace HB := ak (below_step kW hb); clear hb hbox hg) | ((with_reducible refine gate_dst (N := 11) rfl ?_); refine Kd.R_lit k24 _ 24 ?hg (N := 11) ?hd (xs := ([] : List (S24))) (inner := []) (ok := fun _ => True) (okp := fun _ => True) ?hr ?hp (fun _ hk => hk) trivial (Below.refl _ _) (Nat.le_refl _) (by simp) ?_; (case hd => rfl); (case hg => rfl); (case hr => first | (go_simp; done) | (go_simp; rfl)); (case hp => exact (Reps.none _ _)); intro v263 w26 ho27 hb hg_ hnew_; clear hg_ hnew_; (first | rw [← Ny262.out] at ho27 | (simp only [Int.reduceToNat] at ho27; rw [← Ny262.out] at ho27)); have HO264 := ak (Kd.R_lower ho27 (below_size kW)); replace BK261 := (kB BK261 hb); replace HB := ak (below_step kW hb); clear hb ho27; obtain ⟨hcz28_0, hcz28_1, hcz28_2, hcz28_3, hcz28_4, hcz28_5, hcz28_6⟩ := cz7 BK261; obtain ⟨hfz28_0, hfz28_1, hfz28_2, hfz28_3, hfz28_4, hfz28_5, hfz28_6⟩ := fz7 BK261) | ((with_reducible refine gate_callee (f := 52) rfl ?_); refine gol (some 13) Tryz.func52 #[.agg #[.int .u8 a0_0, .int .i64 a0_1, .int .i64 a0_2, .int .i64 a0_3, .int .i64 a0_4, .int .i64 a0_5, .slice A0_6 l0_6.length c0_6]] (h := ?_); (with_reducible refine (sashref05_May.calls k a0_0 a0_1 a0_2 a0_3 a0_4 a0_5 _ _ l0_6 false _ ?side1 ?side2 A2.out).mono ?_); (case side1 => repeat (first | exact (Kd.C_below HR0_6.out HB.out) | (with_reducible refine Kd.C_alloc ?_ _) | (with_reducible refine Kd.C_drewN ?_ _) | (with_reducible refine Kd.C_drew ?_))); (case side2 => exact HC0_6.out); rintro e w29 ⟨rfl, hb⟩; refine ⟨_, rfl, ?_⟩; replace HO264 := ak (Kd.R_below (kR HO264) hb); replace BK261 := (kB BK261 hb); replace HB := ak (below_step kW hb); (try clear hb); (try clear hb2); (try clear hk); (try clear hi)))
  go_ret3
  exact ⟨_, mq37, mq24 HO264, kW⟩
def sashref06_Tiles.f (k : Nat) (a0_0 : Int) (a0_1 : Int) (a0_2 : Int) (a0_3 : Int) (a0_4 : Int) (a0_5 : Int) (l0_6 : List (S27)) : Option (Bool) := (sashref06_Check.f k a0_0 a0_1 a0_2 a0_3 a0_4 a0_5 l0_6).bind fun bt281 => (some (bt281.2.1 == 0))
set_option maxHeartbeats 8000000 in
set_option maxRecDepth 100000 in
theorem sashref06_Tiles.calls (k : Nat) (a0_0 : Int) (a0_1 : Int) (a0_2 : Int) (a0_3 : Int) (a0_4 : Int) (a0_5 : Int) (A0_6 : Option Addr) (c0_6 : Nat) (l0_6 : List (S27)) (r : Bool) (w : World) (hr0_6 : Kd.C k27 w A0_6 l0_6.length l0_6) (hc0_6 : l0_6.length ≤ c0_6) (h : sashref06_Tiles.f k a0_0 a0_1 a0_2 a0_3 a0_4 a0_5 l0_6 = some r) :
  Calls Tryz.prog 23 #[.agg #[.int .u8 a0_0, .int .i64 a0_1, .int .i64 a0_2, .int .i64 a0_3, .int .i64 a0_4, .int .i64 a0_5, .slice A0_6 l0_6.length c0_6]] w fun e w' => e = .returned (.bool r) ∧ Below w.heap.size w w' := by
 have hu27 := Tryz.underlying27
 have HR0_6 := ak hr0_6
 have HC0_6 := ak hc0_6
 clear hr0_6 hc0_6
 have HB := ak (Below.refl w.heap.size w)
 have H : ((sashref06_Check.f k a0_0 a0_1 a0_2 a0_3 a0_4 a0_5 l0_6).bind fun bt281 => (some (bt281.2.1 == 0))) = some r := h
 clear h
 replace H := Option.bind_eq_some_iff.mp H
 obtain ⟨⟨t281, t284, t285⟩, A20, H⟩ := H
 replace H : (some (t284 == 0)) = some r := H
 have A2 := ak A20
 clear A20
 obtain rfl := Option.some.inj H
 go_enter Tryz.func23, Tryz.ntmps23
 go_wp2_with (first | ((with_reducible refine gate_dst (N := 1) rfl ?_); refine bxe 1 #[.int .u8 a0_0, .int .i64 a0_1, .int .i64 a0_2, .int .i64 a0_3, .int .i64 a0_4, .int .i64 a0_5, .slice A0_6 l0_6.length c0_6] 27 (h := ?_); intro gb280 hg w3 hbox hb; have BK280 := ak (hbox); have GW280 := ak ((mq53 : w.heap.size ≤ gb280)); have GE280 := ak ((mq53 : w.heap.size ≤ gb280)); replace HB := ak (below_step kW hb); clear hb hbox hg; obtain ⟨hcz4_0, hcz4_1, hcz4_2, hcz4_3, hcz4_4, hcz4_5, hcz4_6⟩ := cz7 BK280; obtain ⟨hfz4_0, hfz4_1, hfz4_2, hfz4_3, hfz4_4, hfz4_5, hfz4_6⟩ := fz7 BK280) | ((with_reducible refine gate_callee (f := 43) rfl ?_); refine gol (some 8) Tryz.func43 #[.agg #[.int .u8 a0_0, .int .i64 a0_1, .int .i64 a0_2, .int .i64 a0_3, .int .i64 a0_4, .int .i64 a0_5, .slice A0_6 l0_6.length c0_6]] (h := ?_); (with_reducible refine (sashref06_Check.calls k a0_0 a0_1 a0_2 a0_3 a0_4 a0_5 _ _ l0_6 t281 t284 t285 _ ?side1 ?side2 A2.out).mono ?_); (case side1 => repeat (first | exact (Kd.C_below HR0_6.out HB.out) | (with_reducible refine Kd.C_alloc ?_ _) | (with_reducible refine Kd.C_drewN ?_ _) | (with_reducible refine Kd.C_drew ?_))); (case side2 => exact HC0_6.out); rintro e w5 ⟨v282, rfl, ho0, hb⟩; refine ⟨_, rfl, ?_⟩; have HO283 := ak (Kd.R_lower ho0 (below_size kW)); replace BK280 := (kB BK280 hb); replace HB := ak (below_step kW hb); (try clear hb); (try clear hb2); (try clear hk); (try clear hi); (try clear ho0)))
 go_ret
 exact ⟨mq37, kW⟩
end Go.Proofs.YtkobpbbegalfpaaGreatDoor.PParseBodies
