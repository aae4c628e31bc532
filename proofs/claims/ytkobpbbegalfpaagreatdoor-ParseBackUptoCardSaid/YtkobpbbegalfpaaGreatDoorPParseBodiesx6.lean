/- Printed texts of this seat, cut to what is used. -/
import Derived.Test.YtkobpbbegalfpaaGreatDoorPsBase
import Derived.Test.YtkobpbbegalfpaaGreatDoorPParseBodiesx5
namespace Go.Proofs.YtkobpbbegalfpaaGreatDoor.PParseBodies
open Go.RowKit YtkobpbbegalfpaaGreatDoorW.PrintWords YtkobpbbegalfpaaGreatDoorW.PrintLast YtkobpbbegalfpaaGreatDoorW.PrintMore
attribute [local go_sem] max2_int min2_int max_two min_two max_three min_three max_four min_four
set_option linter.unusedVariables false
set_option linter.unusedSimpArgs false
mutual
def sashref05_May.l0 : Nat → List (S27) → Int → Int → Int → Int → Int → Int → Int → Int → List (S27) → Option (Bool)
 | 0, _, _, _, _, _, _, _, _, _, _ => none
 | k + 1, x3, x14, x15, x178000, x178001, x178002, x178003, x178004, x178005, x178006 => if x15 < x14 then (if 0 ≤ x15 then (if x15 < (x3.length : Int) then ((sashref04_May.f ((rd_T27 x3 x15).f1.f0) ((rd_T27 x3 x15).f1.f1) ((rd_T27 x3 x15).f1.f2) ((rd_T27 x3 x15).f1.f3)).bind fun t182 => (if t182 = true then (if ((rd_T27 x3 x15).f0) < 1 then (sashref05_May.j1 k x3 x15 x14 x15 true x178000 x178001 x178002 x178003 x178004 x178005 x178006) else (sashref05_May.j1 k x3 x15 x14 x15 (decide (((rd_T27 x3 x15).f0) > 3)) x178000 x178001 x178002 x178003 x178004 x178005 x178006)) else (sashref05_May.j1 k x3 x15 x14 x15 true x178000 x178001 x178002 x178003 x178004 x178005 x178006))) else (none)) else (none)) else ((sashref05_Leaves.f k x178000 x178001 x178002 x178003 x178004 x178005 x178006).bind fun t195 => (sashref05_May.l1 k t195 (t195.length : Int) 0))
def sashref05_May.j1 : Nat → List (S27) → Int → Int → Int → Bool → Int → Int → Int → Int → Int → Int → List (S27) → Option (Bool)
 | 0, _, _, _, _, _, _, _, _, _, _, _, _ => none
 | k + 1, x3, x4, x14, x15, x40, x178000, x178001, x178002, x178003, x178004, x178005, x178006 => if x40 = true then (some false) else (if 0 ≤ x4 then (if x4 < (x3.length : Int) then (if ((rd_T27 x3 x4).f0) = 1 then (if (((rd_T27 x3 x4).f3).length : Int) > 0 then (some false) else (if ((rd_T27 x3 x4).f2) < 0 then (some false) else (if ((rd_T27 x3 x4).f2) > 2147483647 then (some false) else (if ((rd_T27 x3 x4).f0) > 1 then (if (((rd_T27 x3 x4).f3).length : Int) < 2 then (some false) else (if ((rd_T27 x3 x4).f2) = 0 then (sashref05_May.l0 k x3 x14 (wrap64 (x15 + 1)) x178000 x178001 x178002 x178003 x178004 x178005 x178006) else (some false))) else (sashref05_May.l0 k x3 x14 (wrap64 (x15 + 1)) x178000 x178001 x178002 x178003 x178004 x178005 x178006))))) else (if ((rd_T27 x3 x4).f0) > 1 then (if (((rd_T27 x3 x4).f3).length : Int) < 2 then (some false) else (if ((rd_T27 x3 x4).f2) = 0 then (sashref05_May.l0 k x3 x14 (wrap64 (x15 + 1)) x178000 x178001 x178002 x178003 x178004 x178005 x178006) else (some false))) else (sashref05_May.l0 k x3 x14 (wrap64 (x15 + 1)) x178000 x178001 x178002 x178003 x178004 x178005 x178006))) else (none)) else (none))
def sashref05_May.l1 : Nat → List (S27) → Int → Int → Option (Bool)
 | 0, _, _, _ => none
 | k + 1, x5, x101, x102 => if x102 < x101 then (sashref05_May.l2 k x5 x102 0 x101 x102) else (some true)
def sashref05_May.l2 : Nat → List (S27) → Int → Int → Int → Int → Option (Bool)
 | 0, _, _, _, _, _ => none
 | k + 1, x5, x6, x7, x101, x102 => if x7 < x6 then (if 0 ≤ x6 then (if x6 < (x5.length : Int) then (if 0 ≤ x7 then (if x7 < (x5.length : Int) then (if ((rd_T27 x5 x6).f2) = ((rd_T27 x5 x7).f2) then (some false) else (sashref05_May.l2 k x5 x6 (wrap64 (x7 + 1)) x101 x102)) else (none)) else (none)) else (none)) else (none)) else (sashref05_May.l1 k x5 x101 (wrap64 (x102 + 1)))
end
def sashref05_May.f (k : Nat) (a0_0 : Int) (a0_1 : Int) (a0_2 : Int) (a0_3 : Int) (a0_4 : Int) (a0_5 : Int) (l0_6 : List (S27)) : Option (Bool) := (sashref05_All.f k a0_0 a0_1 a0_2 a0_3 a0_4 a0_5 l0_6).bind fun t178 => (if (t178.length : Int) > 20000 then (some false) else (sashref05_May.l0 k t178 (t178.length : Int) 0 a0_0 a0_1 a0_2 a0_3 a0_4 a0_5 l0_6))
set_option maxHeartbeats 8000000 in
set_option maxRecDepth 100000 in
theorem sashref05_May.calls (k : Nat) (a0_0 : Int) (a0_1 : Int) (a0_2 : Int) (a0_3 : Int) (a0_4 : Int) (a0_5 : Int) (A0_6 : Option Addr) (c0_6 : Nat) (l0_6 : List (S27)) (r : Bool) (w : World) (hr0_6 : Kd.C k27 w A0_6 l0_6.length l0_6) (hc0_6 : l0_6.length ≤ c0_6) (h : sashref05_May.f k a0_0 a0_1 a0_2 a0_3 a0_4 a0_5 l0_6 = some r) :
  Calls Tryz.prog 52 #[.agg #[.int .u8 a0_0, .int .i64 a0_1, .int .i64 a0_2, .int .i64 a0_3, .int .i64 a0_4, .int .i64 a0_5, .slice A0_6 l0_6.length c0_6]] w fun e w' => e = .returned (.bool r) ∧ Below w.heap.size w w' := by
 have hu27 := Tryz.underlying27
 have hu24 := Tryz.underlying24
 have HR0_6 := ak hr0_6
 have HC0_6 := ak hc0_6
 clear hr0_6 hc0_6
 have HB := ak (Below.refl w.heap.size w)
 have H : ((sashref05_All.f k a0_0 a0_1 a0_2 a0_3 a0_4 a0_5 l0_6).bind fun t178 => (if (t178.length : Int) > 20000 then (some false) else (sashref05_May.l0 k t178 (t178.length : Int) 0 a0_0 a0_1 a0_2 a0_3 a0_4 a0_5 l0_6))) = some r := h
 clear h
 replace H := Option.bind_eq_some_iff.mp H
 obtain ⟨t178, A20, H⟩ := H
 replace H : (if (t178.length : Int) > 20000 then (some false) else (sashref05_May.l0 k t178 (t178.length : Int) 0 a0_0 a0_1 a0_2 a0_3 a0_4 a0_5 l0_6)) = some r := H
 have A2 := ak A20
 clear A20
 by_cases c3 : (t178.length : Int) > 20000
 ·rw [if_pos c3] at H
  have c3b0 : decide (20000 < (t178.length : Int)) = true := decide_eq_true c3
  have c3b1 : decide (20000 < t178.length) = true := decide_eq_true (by omega)
  clear c3
  obtain rfl := Option.some.inj H
  go_enter Tryz.func52, Tryz.ntmps52
  go_wp2_with (first | ((with_reducible refine gate_dst (N := 1) rfl ?_); (try (refine gate_guard (by rfl) ?_; dsimp only)); refine bxe 1 #[.int .u8 a0_0, .int .i64 a0_1, .int .i64 a0_2, .int .i64 a0_3, .int .i64 a0_4, .int .i64 a0_5, .slice A0_6 l0_6.length c0_6] 27 (h := ?_); intro gb177 hg w4 hbox hb; have BK177 := ak (hbox); have GW177 := ak ((mq53 : w.heap.size ≤ gb177)); have GE177 := ak ((mq53 : w.heap.size ≤ gb177)); replace HB := ak (below_step kW hb); clear hb hbox hg; obtain ⟨hcz5_0, hcz5_1, hcz5_2, hcz5_3, hcz5_4, hcz5_5, hcz5_6⟩ := cz7 BK177; obtain ⟨hfz5_0, hfz5_1, hfz5_2, hfz5_3, hfz5_4, hfz5_5, hfz5_6⟩ := fz7 BK177) | (go_at_call 57; (with_reducible refine (sashref05_All.calls k a0_0 a0_1 a0_2 a0_3 a0_4 a0_5 (fun k_ => k_ < w.heap.size) _ _ l0_6 t178 _ ?side1 A2.out).mono ?_); (case side1 => exact Kd.V_mk HC0_6.out (Kd.F_below (Kd.C_F k27_heap HR0_6.out) kW)); rintro e w6 ⟨v179, rfl, ho0, hb⟩; have HO180 := ak (Kd.N_lower (Kd.N_mono (ok' := fun k_ => k_ ≠ gb177) ho0 (fun k_ hk_ => Or.elim hk_ (fun hs_ => fun e_ => Nat.not_le.2 hs_ (by rw [e_]; exact GW177.out)) (fun hn_ => (Kd.freshB (g := gb177) (o := .cells #[.int .u8 a0_0, .int .i64 a0_1, .int .i64 a0_2, .int .i64 a0_3, .int .i64 a0_4, .int .i64 a0_5, .slice A0_6 l0_6.length c0_6] 27 (0, 0)) (kA BK177) k_ hn_)))) (below_size kW)); replace BK177 := (kB BK177 hb); replace HB := ak (below_step kW hb); (try clear hb); (try clear hb2); (try clear hk); (try clear hi); (try clear ho0); obtain ⟨Ao7, co7, eo7⟩ := Kd.N_slice HO180.out; subst eo7))
  go_ret
  exact ⟨mq37, kW⟩
 ·rw [if_neg c3] at H
  have c3b0 : decide (20000 < (t178.length : Int)) = false := decide_eq_false c3
  have c3b1 : decide (20000 < t178.length) = false := decide_eq_false (by omega)
  clear c3
  have H' := ak H
  clear H
  go_enter Tryz.func52, Tryz.ntmps52
  go_wp2_with (first | ((with_reducible refine gate_dst (N := 1) rfl ?_); (try (refine gate_guard (by rfl) ?_; dsimp only)); refine bxe 1 #[.int .u8 a0_0, .int .i64 a0_1, .int .i64 a0_2, .int .i64 a0_3, .int .i64 a0_4, .int .i64 a0_5, .slice A0_6 l0_6.length c0_6] 27 (h := ?_); intro gb177 hg w8 hbox hb; have BK177 := ak (hbox); have GW177 := ak ((mq53 : w.heap.size ≤ gb177)); have GE177 := ak ((mq53 : w.heap.size ≤ gb177)); replace HB := ak (below_step kW hb); clear hb hbox hg; obtain ⟨hcz9_0, hcz9_1, hcz9_2, hcz9_3, hcz9_4, hcz9_5, hcz9_6⟩ := cz7 BK177; obtain ⟨hfz9_0, hfz9_1, hfz9_2, hfz9_3, hfz9_4, hfz9_5, hfz9_6⟩ := fz7 BK177) | (go_at_call 57; (with_reducible refine (sashref05_All.calls k a0_0 a0_1 a0_2 a0_3 a0_4 a0_5 (fun k_ => k_ < w.heap.size) _ _ l0_6 t178 _ ?side1 A2.out).mono ?_); (case side1 => exact Kd.V_mk HC0_6.out (Kd.F_below (Kd.C_F k27_heap HR0_6.out) kW)); rintro e w10 ⟨v179, rfl, ho0, hb⟩; have HO180 := ak (Kd.N_lower (Kd.N_mono (ok' := fun k_ => k_ ≠ gb177) ho0 (fun k_ hk_ => Or.elim hk_ (fun hs_ => fun e_ => Nat.not_le.2 hs_ (by rw [e_]; exact GW177.out)) (fun hn_ => (Kd.freshB (g := gb177) (o := .cells #[.int .u8 a0_0, .int .i64 a0_1, .int .i64 a0_2, .int .i64 a0_3, .int .i64 a0_4, .int .i64 a0_5, .slice A0_6 l0_6.length c0_6] 27 (0, 0)) (kA BK177) k_ hn_)))) (below_size kW)); replace BK177 := (kB BK177 hb); replace HB := ak (below_step kW hb); (try clear hb); (try clear hb2); (try clear hk); (try clear hi); (try clear ho0); obtain ⟨Ao11, co11, eo11⟩ := Kd.N_slice HO180.out; subst eo11))
  go_loopg [15] k (fun kq v15 w' => ∃ (x15_1 : Int), v15 = .int .i64 x15_1 ∧ Aside0 (sashref05_May.l0 kq t178 (t178.length : Int) x15_1 a0_0 a0_1 a0_2 a0_3 a0_4 a0_5 l0_6 = some r) ∧ Aside0 (kq ≤ k) ∧ Aside0 (Kd.N k27 27 w' w.heap.size (fun k_ => k_ ≠ gb177) (.slice Ao11 t178.length co11) t178) ∧ Aside0 (w'.heap[gb177]? = some (.cells #[.int .u8 a0_0, .int .i64 a0_1, .int .i64 a0_2, .int .i64 a0_3, .int .i64 a0_4, .int .i64 a0_5, (.slice A0_6 l0_6.length c0_6)] 27 (0, 0))) ∧ Aside0 (Below w.heap.size w w'))
  case atStart => exact ⟨(0), mq39, H', ⟨Nat.le_refl _⟩, ⟨mq5 HO180⟩, ⟨mq28 BK177⟩, ⟨kW⟩⟩
  case round =>
   clear H'
   clear c3b0 c3b1 hcz9_0 hcz9_1 hcz9_2 hcz9_3 hcz9_4 hcz9_5 hcz9_6 hfz9_0 hfz9_1 hfz9_2 hfz9_3 hfz9_4 hfz9_5 hfz9_6
   obtain ⟨x15_1, rfl, HA, HK1, HO_3, BK177, HB⟩ := hrel
   cases gk with
   | zero => exact absurd HA.out (by simp [sashref05_May.l0])
   | succ k1 =>
    have H := HA.out
    clear HA
    simp only [sashref05_May.l0] at H
    by_cases c12 : x15_1 < (t178.length : Int)
    ·rw [if_pos c12] at H
     have c12b0 : decide (x15_1 < (t178.length : Int)) = true := decide_eq_true c12
     clear c12
     have HC13 := ak H
     clear H
     go_upto_region 7 with (fail)
     go_cut [40] (fun v40 wc => ∃ (kq : Nat) (x40_12 : Bool), v40 = .bool x40_12 ∧ Aside0 (sashref05_May.j1 kq t178 x15_1 (t178.length : Int) x15_1 x40_12 a0_0 a0_1 a0_2 a0_3 a0_4 a0_5 l0_6 = some r) ∧ Aside0 (kq ≤ k1) ∧ Aside0 (Kd.N k27 27 wc w.heap.size (fun k_ => k_ ≠ gb177) (.slice Ao11 t178.length co11) t178) ∧ Aside0 (wc.heap[gb177]? = some (.cells #[.int .u8 a0_0, .int .i64 a0_1, .int .i64 a0_2, .int .i64 a0_3, .int .i64 a0_4, .int .i64 a0_5, (.slice A0_6 l0_6.length c0_6)] 27 (0, 0))) ∧ Aside0 (Below w.heap.size w wc))
     case first =>
      have H := HC13.out
      clear HC13
      by_cases c14 : 0 ≤ x15_1
      ·rw [if_pos c14] at H
       have c14b0 : decide (0 ≤ x15_1) = true := decide_eq_true c14
       clear c14
       (first | rw [c14b0] | (simp only [i64_w, i32_w]; rw [c14b0]) | skip)
       by_cases c15 : x15_1 < (t178.length : Int)
       ·rw [if_pos c15] at H
        have c15b0 : decide (x15_1 < (t178.length : Int)) = true := decide_eq_true c15
        clear c15
        replace H := Option.bind_eq_some_iff.mp H
        obtain ⟨t182, A160, H⟩ := H
        replace H : (if t182 = true then (if ((rd_T27 t178 x15_1).f0) < 1 then (sashref05_May.j1 k1 t178 x15_1 (t178.length : Int) x15_1 true a0_0 a0_1 a0_2 a0_3 a0_4 a0_5 l0_6) else (sashref05_May.j1 k1 t178 x15_1 (t178.length : Int) x15_1 (decide (((rd_T27 t178 x15_1).f0) > 3)) a0_0 a0_1 a0_2 a0_3 a0_4 a0_5 l0_6)) else (sashref05_May.j1 k1 t178 x15_1 (t178.length : Int) x15_1 true a0_0 a0_1 a0_2 a0_3 a0_4 a0_5 l0_6)) = some r := H
        have A16 := ak A160
        clear A160
        by_cases c17 : t182 = true
        ·subst c17
         have H1 : (if ((rd_T27 t178 x15_1).f0) < 1 then (sashref05_May.j1 k1 t178 x15_1 (t178.length : Int) x15_1 true a0_0 a0_1 a0_2 a0_3 a0_4 a0_5 l0_6) else (sashref05_May.j1 k1 t178 x15_1 (t178.length : Int) x15_1 (decide (((rd_T27 t178 x15_1).f0) > 3)) a0_0 a0_1 a0_2 a0_3 a0_4 a0_5 l0_6)) = some r := mq55
         clear H
         have H := H1
         clear H1
         by_cases c18 : ((rd_T27 t178 x15_1).f0) < 1
         ·rw [if_pos c18] at H
          have c18b0 : decide (((rd_T27 t178 x15_1).f0) < 1) = true := decide_eq_true c18
          clear c18
          have H' := ak H
          clear H
          have p181 : 0 ≤ (x15_1 : Int) := of_decide_eq_true mq34
          have q181 : x15_1 < (t178.length : Int) := of_decide_eq_true mq34
          obtain ⟨ad181, A181_6, c181_6, e181, hx181_0, hx181_1, hx181_2, hx181_3, hx181_4, hx181_5, hx181_6, HC181_6, HR181_6, HL181_6⟩ := elN27 w.heap.size HO_3 x15_1 p181 q181
          cases e181
          replace p181 := eq_true p181
          replace q181 := eq_true q181
          go_wp2_with (first | (go_at_call 81; (with_reducible refine (sashref04_May.calls ((rd_T27 t178 x15_1).f1.f0) ((rd_T27 t178 x15_1).f1.f1) ((rd_T27 t178 x15_1).f1.f2) ((rd_T27 t178 x15_1).f1.f3) true _ A16.out).mono ?_); rintro e w19 ⟨rfl, hb⟩; replace HO_3 := ak (Kd.N_below (kN HO_3) hb); replace HL181_6 := ak (Kd.V_below (mq27 HL181_6) hb); replace BK177 := (kB BK177 hb); replace HR181_6 := ak (Kd.C_below (mq48 HR181_6) hb); replace HB := ak (below_step kW hb); (try clear hb); (try clear hb2); (try clear hk); (try clear hi); have p183 : 0 ≤ (x15_1 : Int) := of_decide_eq_true mq34; have q183 : x15_1 < (t178.length : Int) := of_decide_eq_true mq34; obtain ⟨ad183, A183_6, c183_6, e183, hx183_0, hx183_1, hx183_2, hx183_3, hx183_4, hx183_5, hx183_6, HC183_6, HR183_6, HL183_6⟩ := elN27 w.heap.size HO_3 x15_1 p183 q183; obtain rfl : ad181 = ad183 := (by injection e183); replace p183 := eq_true p183; replace q183 := eq_true q183))
          go_meet
          case rel => exact ⟨_, (true), mq39, H', ⟨mq40 HK1⟩, ⟨mq5 HO_3⟩, ⟨mq28 BK177⟩, ⟨kW⟩⟩
         ·rw [if_neg c18] at H
          have c18b0 : decide (((rd_T27 t178 x15_1).f0) < 1) = false := decide_eq_false c18
          clear c18
          have H' := ak H
          clear H
          have p181 : 0 ≤ (x15_1 : Int) := of_decide_eq_true mq34
          have q181 : x15_1 < (t178.length : Int) := of_decide_eq_true mq34
          obtain ⟨ad181, A181_6, c181_6, e181, hx181_0, hx181_1, hx181_2, hx181_3, hx181_4, hx181_5, hx181_6, HC181_6, HR181_6, HL181_6⟩ := elN27 w.heap.size HO_3 x15_1 p181 q181
          cases e181
          replace p181 := eq_true p181
          replace q181 := eq_true q181
          go_wp2_with (first | (go_at_call 81; (with_reducible refine (sashref04_May.calls ((rd_T27 t178 x15_1).f1.f0) ((rd_T27 t178 x15_1).f1.f1) ((rd_T27 t178 x15_1).f1.f2) ((rd_T27 t178 x15_1).f1.f3) true _ A16.out).mono ?_); rintro e w20 ⟨rfl, hb⟩; replace HO_3 := ak (Kd.N_below (kN HO_3) hb); replace HL181_6 := ak (Kd.V_below (mq27 HL181_6) hb); replace BK177 := (kB BK177 hb); replace HR181_6 := ak (Kd.C_below (mq48 HR181_6) hb); replace HB := ak (below_step kW hb); (try clear hb); (try clear hb2); (try clear hk); (try clear hi); have p183 : 0 ≤ (x15_1 : Int) := of_decide_eq_true mq34; have q183 : x15_1 < (t178.length : Int) := of_decide_eq_true mq34; obtain ⟨ad183, A183_6, c183_6, e183, hx183_0, hx183_1, hx183_2, hx183_3, hx183_4, hx183_5, hx183_6, HC183_6, HR183_6, HL183_6⟩ := elN27 w.heap.size HO_3 x15_1 p183 q183; obtain rfl : ad181 = ad183 := (by injection e183); replace p183 := eq_true p183; replace q183 := eq_true q183; have p184 : 0 ≤ (x15_1 : Int) := of_decide_eq_true mq34; have q184 : x15_1 < (t178.length : Int) := of_decide_eq_true mq34; obtain ⟨ad184, A184_6, c184_6, e184, hx184_0, hx184_1, hx184_2, hx184_3, hx184_4, hx184_5, hx184_6, HC184_6, HR184_6, HL184_6⟩ := elN27 w.heap.size HO_3 x15_1 p184 q184; obtain rfl : ad181 = ad184 := (by injection e184); replace p184 := eq_true p184; replace q184 := eq_true q184; have ea_ := Option.some.inj (hx183_6.symm.trans hx184_6); injection ea_ with ea_ en_ ec_; subst ea_; subst ec_; clear en_))
          go_meet
          case rel => exact ⟨_, (decide (((rd_T27 t178 x15_1).f0) > 3)), mq39, H', ⟨mq40 HK1⟩, ⟨mq5 HO_3⟩, ⟨mq28 BK177⟩, ⟨kW⟩⟩
        ·replace c17 := Bool.eq_false_iff.mpr c17
         subst c17
         have H1 : (sashref05_May.j1 k1 t178 x15_1 (t178.length : Int) x15_1 true a0_0 a0_1 a0_2 a0_3 a0_4 a0_5 l0_6) = some r := mq54
         clear H
         have H := H1
         clear H1
         have H' := ak H
         clear H
         have p181 : 0 ≤ (x15_1 : Int) := of_decide_eq_true mq34
         have q181 : x15_1 < (t178.length : Int) := of_decide_eq_true mq34
         obtain ⟨ad181, A181_6, c181_6, e181, hx181_0, hx181_1, hx181_2, hx181_3, hx181_4, hx181_5, hx181_6, HC181_6, HR181_6, HL181_6⟩ := elN27 w.heap.size HO_3 x15_1 p181 q181
         cases e181
         replace p181 := eq_true p181
         replace q181 := eq_true q181
         go_wp2_with (first | (go_at_call 81; (with_reducible refine (sashref04_May.calls ((rd_T27 t178 x15_1).f1.f0) ((rd_T27 t178 x15_1).f1.f1) ((rd_T27 t178 x15_1).f1.f2) ((rd_T27 t178 x15_1).f1.f3) false _ A16.out).mono ?_); rintro e w21 ⟨rfl, hb⟩; replace HO_3 := ak (Kd.N_below (kN HO_3) hb); replace HL181_6 := ak (Kd.V_below (mq27 HL181_6) hb); replace BK177 := (kB BK177 hb); replace HR181_6 := ak (Kd.C_below (mq48 HR181_6) hb); replace HB := ak (below_step kW hb); (try clear hb); (try clear hb2); (try clear hk); (try clear hi)))
         go_meet
         case rel => exact ⟨_, (true), mq39, H', ⟨mq40 HK1⟩, ⟨mq5 HO_3⟩, ⟨mq28 BK177⟩, ⟨kW⟩⟩
       ·rw [if_neg c15] at H
        exact absurd H (by simp)
      ·rw [if_neg c14] at H
       exact absurd H (by simp)
     case rest =>
      clear HC13
      clear c12b0
      obtain ⟨kq, x40_12, rfl, HA, HJ12, HO_3, BK177, HB⟩ := hcut
      cases kq with
      | zero => exact absurd HA.out (by simp [sashref05_May.j1])
      | succ kj12 =>
       have H := HA.out
       clear HA
       simp only [sashref05_May.j1] at H
       by_cases c22 : x40_12 = true
       ·subst c22
        have H1 : (some false) = some r := mq55
        clear H
        have H := H1
        clear H1
        obtain rfl := Option.some.inj H
        go_wp2
        repeat (go_quiet (fail); try go_wp2)
        go_ret
        exact ⟨mq37, kW⟩
       ·replace c22 := Bool.eq_false_iff.mpr c22
        subst c22
        have H1 : (if 0 ≤ x15_1 then (if x15_1 < (t178.length : Int) then (if ((rd_T27 t178 x15_1).f0) = 1 then (if (((rd_T27 t178 x15_1).f3).length : Int) > 0 then (some false) else (if ((rd_T27 t178 x15_1).f2) < 0 then (some false) else (if ((rd_T27 t178 x15_1).f2) > 2147483647 then (some false) else (if ((rd_T27 t178 x15_1).f0) > 1 then (if (((rd_T27 t178 x15_1).f3).length : Int) < 2 then (some false) else (if ((rd_T27 t178 x15_1).f2) = 0 then (sashref05_May.l0 kj12 t178 (t178.length : Int) (wrap64 (x15_1 + 1)) a0_0 a0_1 a0_2 a0_3 a0_4 a0_5 l0_6) else (some false))) else (sashref05_May.l0 kj12 t178 (t178.length : Int) (wrap64 (x15_1 + 1)) a0_0 a0_1 a0_2 a0_3 a0_4 a0_5 l0_6))))) else (if ((rd_T27 t178 x15_1).f0) > 1 then (if (((rd_T27 t178 x15_1).f3).length : Int) < 2 then (some false) else (if ((rd_T27 t178 x15_1).f2) = 0 then (sashref05_May.l0 kj12 t178 (t178.length : Int) (wrap64 (x15_1 + 1)) a0_0 a0_1 a0_2 a0_3 a0_4 a0_5 l0_6) else (some false))) else (sashref05_May.l0 kj12 t178 (t178.length : Int) (wrap64 (x15_1 + 1)) a0_0 a0_1 a0_2 a0_3 a0_4 a0_5 l0_6))) else (none)) else (none)) = some r := mq54
        clear H
        have H := H1
        clear H1
        by_cases c23 : 0 ≤ x15_1
        ·rw [if_pos c23] at H
         have c23b0 : decide (0 ≤ x15_1) = true := decide_eq_true c23
         clear c23
         by_cases c24 : x15_1 < (t178.length : Int)
         ·rw [if_pos c24] at H
          have c24b0 : decide (x15_1 < (t178.length : Int)) = true := decide_eq_true c24
          clear c24
          by_cases c25 : ((rd_T27 t178 x15_1).f0) = 1
          ·rw [if_pos c25] at H
           have c25b0 : (((rd_T27 t178 x15_1).f0) == 1) = true := beq_iff_eq.mpr c25
           have c25b1 : (((rd_T27 t178 x15_1).f0) != 1) = false := bne_eq_false_iff_eq.mpr c25
           clear c25
           by_cases c26 : (((rd_T27 t178 x15_1).f3).length : Int) > 0
           ·rw [if_pos c26] at H
            have c26b0 : decide (0 < (((rd_T27 t178 x15_1).f3).length : Int)) = true := decide_eq_true c26
            have c26b1 : decide (0 < ((rd_T27 t178 x15_1).f3).length) = true := decide_eq_true (by omega)
            clear c26
            obtain rfl := Option.some.inj H
            have p185 : 0 ≤ (x15_1 : Int) := of_decide_eq_true mq34
            have q185 : x15_1 < (t178.length : Int) := of_decide_eq_true mq34
            obtain ⟨ad185, A185_6, c185_6, e185, hx185_0, hx185_1, hx185_2, hx185_3, hx185_4, hx185_5, hx185_6, HC185_6, HR185_6, HL185_6⟩ := elN27 w.heap.size HO_3 x15_1 p185 q185
            cases e185
            replace p185 := eq_true p185
            replace q185 := eq_true q185
            have p186 : 0 ≤ (x15_1 : Int) := of_decide_eq_true mq34
            have q186 : x15_1 < (t178.length : Int) := of_decide_eq_true mq34
            obtain ⟨ad186, A186_6, c186_6, e186, hx186_0, hx186_1, hx186_2, hx186_3, hx186_4, hx186_5, hx186_6, HC186_6, HR186_6, HL186_6⟩ := elN27 w.heap.size HO_3 x15_1 p186 q186
            obtain rfl : ad185 = ad186 := (by injection e186)
            replace p186 := eq_true p186
            replace q186 := eq_true q186
            have ea_ := Option.some.inj (hx185_6.symm.trans hx186_6)
            injection ea_ with ea_ en_ ec_
            subst ea_
            subst ec_
            clear en_
            go_wp2
            repeat (go_quiet (fail); try go_wp2)
            go_ret
            exact ⟨mq37, kW⟩
           ·rw [if_neg c26] at H
            have c26b0 : decide (0 < (((rd_T27 t178 x15_1).f3).length : Int)) = false := decide_eq_false c26
            have c26b1 : decide (0 < ((rd_T27 t178 x15_1).f3).length) = false := decide_eq_false (by omega)
            clear c26
            by_cases c27 : ((rd_T27 t178 x15_1).f2) < 0
            ·rw [if_pos c27] at H
             have c27b0 : decide (((rd_T27 t178 x15_1).f2) < 0) = true := decide_eq_true c27
             clear c27
             obtain rfl := Option.some.inj H
             have p185 : 0 ≤ (x15_1 : Int) := of_decide_eq_true mq34
             have q185 : x15_1 < (t178.length : Int) := of_decide_eq_true mq34
             obtain ⟨ad185, A185_6, c185_6, e185, hx185_0, hx185_1, hx185_2, hx185_3, hx185_4, hx185_5, hx185_6, HC185_6, HR185_6, HL185_6⟩ := elN27 w.heap.size HO_3 x15_1 p185 q185
             cases e185
             replace p185 := eq_true p185
             replace q185 := eq_true q185
             have p186 : 0 ≤ (x15_1 : Int) := of_decide_eq_true mq34
             have q186 : x15_1 < (t178.length : Int) := of_decide_eq_true mq34
             obtain ⟨ad186, A186_6, c186_6, e186, hx186_0, hx186_1, hx186_2, hx186_3, hx186_4, hx186_5, hx186_6, HC186_6, HR186_6, HL186_6⟩ := elN27 w.heap.size HO_3 x15_1 p186 q186
             obtain rfl : ad185 = ad186 := (by injection e186)
             replace p186 := eq_true p186
             replace q186 := eq_true q186
             have ea_ := Option.some.inj (hx185_6.symm.trans hx186_6)
             injection ea_ with ea_ en_ ec_
             subst ea_
             subst ec_
             clear en_
             have p187 : 0 ≤ (x15_1 : Int) := of_decide_eq_true mq34
             have q187 : x15_1 < (t178.length : Int) := of_decide_eq_true mq34
             obtain ⟨ad187, A187_6, c187_6, e187, hx187_0, hx187_1, hx187_2, hx187_3, hx187_4, hx187_5, hx187_6, HC187_6, HR187_6, HL187_6⟩ := elN27 w.heap.size HO_3 x15_1 p187 q187
             obtain rfl : ad185 = ad187 := (by injection e187)
             replace p187 := eq_true p187
             replace q187 := eq_true q187
             have ea_ := Option.some.inj (hx185_6.symm.trans hx187_6)
             injection ea_ with ea_ en_ ec_
             subst ea_
             subst ec_
             clear en_
             go_wp2
             repeat (go_quiet (fail); try go_wp2)
             go_ret
             exact ⟨mq37, kW⟩
            ·rw [if_neg c27] at H
             have c27b0 : decide (((rd_T27 t178 x15_1).f2) < 0) = false := decide_eq_false c27
             clear c27
             by_cases c28 : ((rd_T27 t178 x15_1).f2) > 2147483647
             ·rw [if_pos c28] at H
              have c28b0 : decide (2147483647 < ((rd_T27 t178 x15_1).f2)) = true := decide_eq_true c28
              clear c28
              obtain rfl := Option.some.inj H
              have p185 : 0 ≤ (x15_1 : Int) := of_decide_eq_true mq34
              have q185 : x15_1 < (t178.length : Int) := of_decide_eq_true mq34
              obtain ⟨ad185, A185_6, c185_6, e185, hx185_0, hx185_1, hx185_2, hx185_3, hx185_4, hx185_5, hx185_6, HC185_6, HR185_6, HL185_6⟩ := elN27 w.heap.size HO_3 x15_1 p185 q185
              cases e185
              replace p185 := eq_true p185
              replace q185 := eq_true q185
              have p186 : 0 ≤ (x15_1 : Int) := of_decide_eq_true mq34
              have q186 : x15_1 < (t178.length : Int) := of_decide_eq_true mq34
              obtain ⟨ad186, A186_6, c186_6, e186, hx186_0, hx186_1, hx186_2, hx186_3, hx186_4, hx186_5, hx186_6, HC186_6, HR186_6, HL186_6⟩ := elN27 w.heap.size HO_3 x15_1 p186 q186
              obtain rfl : ad185 = ad186 := (by injection e186)
              replace p186 := eq_true p186
              replace q186 := eq_true q186
              have ea_ := Option.some.inj (hx185_6.symm.trans hx186_6)
              injection ea_ with ea_ en_ ec_
              subst ea_
              subst ec_
              clear en_
              have p187 : 0 ≤ (x15_1 : Int) := of_decide_eq_true mq34
              have q187 : x15_1 < (t178.length : Int) := of_decide_eq_true mq34
              obtain ⟨ad187, A187_6, c187_6, e187, hx187_0, hx187_1, hx187_2, hx187_3, hx187_4, hx187_5, hx187_6, HC187_6, HR187_6, HL187_6⟩ := elN27 w.heap.size HO_3 x15_1 p187 q187
              obtain rfl : ad185 = ad187 := (by injection e187)
              replace p187 := eq_true p187
              replace q187 := eq_true q187
              have ea_ := Option.some.inj (hx185_6.symm.trans hx187_6)
              injection ea_ with ea_ en_ ec_
              subst ea_
              subst ec_
              clear en_
              have p188 : 0 ≤ (x15_1 : Int) := of_decide_eq_true mq34
              have q188 : x15_1 < (t178.length : Int) := of_decide_eq_true mq34
              obtain ⟨ad188, A188_6, c188_6, e188, hx188_0, hx188_1, hx188_2, hx188_3, hx188_4, hx188_5, hx188_6, HC188_6, HR188_6, HL188_6⟩ := elN27 w.heap.size HO_3 x15_1 p188 q188
              obtain rfl : ad185 = ad188 := (by injection e188)
              replace p188 := eq_true p188
              replace q188 := eq_true q188
              have ea_ := Option.some.inj (hx185_6.symm.trans hx188_6)
              injection ea_ with ea_ en_ ec_
              subst ea_
              subst ec_
              clear en_
              go_wp2
              repeat (go_quiet (fail); try go_wp2)
              go_ret
              exact ⟨mq37, kW⟩
             ·rw [if_neg c28] at H
              have c28b0 : decide (2147483647 < ((rd_T27 t178 x15_1).f2)) = false := decide_eq_false c28
              clear c28
              by_cases c29 : ((rd_T27 t178 x15_1).f0) > 1
              ·rw [if_pos c29] at H
               have c29b0 : decide (1 < ((rd_T27 t178 x15_1).f0)) = true := decide_eq_true c29
               clear c29
               by_cases c30 : (((rd_T27 t178 x15_1).f3).length : Int) < 2
               ·rw [if_pos c30] at H
                have c30b0 : decide ((((rd_T27 t178 x15_1).f3).length : Int) < 2) = true := decide_eq_true c30
                have c30b1 : decide (((rd_T27 t178 x15_1).f3).length < 2) = true := decide_eq_true (by omega)
                clear c30
                obtain rfl := Option.some.inj H
                have p185 : 0 ≤ (x15_1 : Int) := of_decide_eq_true mq34
                have q185 : x15_1 < (t178.length : Int) := of_decide_eq_true mq34
                obtain ⟨ad185, A185_6, c185_6, e185, hx185_0, hx185_1, hx185_2, hx185_3, hx185_4, hx185_5, hx185_6, HC185_6, HR185_6, HL185_6⟩ := elN27 w.heap.size HO_3 x15_1 p185 q185
                cases e185
                replace p185 := eq_true p185
                replace q185 := eq_true q185
                have p186 : 0 ≤ (x15_1 : Int) := of_decide_eq_true mq34
                have q186 : x15_1 < (t178.length : Int) := of_decide_eq_true mq34
                obtain ⟨ad186, A186_6, c186_6, e186, hx186_0, hx186_1, hx186_2, hx186_3, hx186_4, hx186_5, hx186_6, HC186_6, HR186_6, HL186_6⟩ := elN27 w.heap.size HO_3 x15_1 p186 q186
                obtain rfl : ad185 = ad186 := (by injection e186)
                replace p186 := eq_true p186
                replace q186 := eq_true q186
                have ea_ := Option.some.inj (hx185_6.symm.trans hx186_6)
                injection ea_ with ea_ en_ ec_
                subst ea_
                subst ec_
                clear en_
                have p187 : 0 ≤ (x15_1 : Int) := of_decide_eq_true mq34
                have q187 : x15_1 < (t178.length : Int) := of_decide_eq_true mq34
                obtain ⟨ad187, A187_6, c187_6, e187, hx187_0, hx187_1, hx187_2, hx187_3, hx187_4, hx187_5, hx187_6, HC187_6, HR187_6, HL187_6⟩ := elN27 w.heap.size HO_3 x15_1 p187 q187
                obtain rfl : ad185 = ad187 := (by injection e187)
                replace p187 := eq_true p187
                replace q187 := eq_true q187
                have ea_ := Option.some.inj (hx185_6.symm.trans hx187_6)
                injection ea_ with ea_ en_ ec_
                subst ea_
                subst ec_
                clear en_
                have p188 : 0 ≤ (x15_1 : Int) := of_decide_eq_true mq34
                have q188 : x15_1 < (t178.length : Int) := of_decide_eq_true mq34
                obtain ⟨ad188, A188_6, c188_6, e188, hx188_0, hx188_1, hx188_2, hx188_3, hx188_4, hx188_5, hx188_6, HC188_6, HR188_6, HL188_6⟩ := elN27 w.heap.size HO_3 x15_1 p188 q188
                obtain rfl : ad185 = ad188 := (by injection e188)
                replace p188 := eq_true p188
                replace q188 := eq_true q188
                have ea_ := Option.some.inj (hx185_6.symm.trans hx188_6)
                injection ea_ with ea_ en_ ec_
                subst ea_
                subst ec_
                clear en_
                have p189 : 0 ≤ (x15_1 : Int) := of_decide_eq_true mq34
                have q189 : x15_1 < (t178.length : Int) := of_decide_eq_true mq34
                obtain ⟨ad189, A189_6, c189_6, e189, hx189_0, hx189_1, hx189_2, hx189_3, hx189_4, hx189_5, hx189_6, HC189_6, HR189_6, HL189_6⟩ := elN27 w.heap.size HO_3 x15_1 p189 q189
                obtain rfl : ad185 = ad189 := (by injection e189)
                replace p189 := eq_true p189
                replace q189 := eq_true q189
                have ea_ := Option.some.inj (hx185_6.symm.trans hx189_6)
                injection ea_ with ea_ en_ ec_
                subst ea_
                subst ec_
                clear en_
                have p190 : 0 ≤ (x15_1 : Int) := of_decide_eq_true mq34
                have q190 : x15_1 < (t178.length : Int) := of_decide_eq_true mq34
                obtain ⟨ad190, A190_6, c190_6, e190, hx190_0, hx190_1, hx190_2, hx190_3, hx190_4, hx190_5, hx190_6, HC190_6, HR190_6, HL190_6⟩ := elN27 w.heap.size HO_3 x15_1 p190 q190
                obtain rfl : ad185 = ad190 := (by injection e190)
                replace p190 := eq_true p190
                replace q190 := eq_true q190
                have ea_ := Option.some.inj (hx185_6.symm.trans hx190_6)
                injection ea_ with ea_ en_ ec_
                subst ea_
                subst ec_
                clear en_
                go_wp2
                repeat (go_quiet (fail); try go_wp2)
                go_ret
                exact ⟨mq37, kW⟩
               ·rw [if_neg c30] at H
                have c30b0 : decide ((((rd_T27 t178 x15_1).f3).length : Int) < 2) = false := decide_eq_false c30
                have c30b1 : decide (((rd_T27 t178 x15_1).f3).length < 2) = false := decide_eq_false (by omega)
                clear c30
                by_cases c31 : ((rd_T27 t178 x15_1).f2) = 0
                ·rw [if_pos c31] at H
                 have c31b0 : (((rd_T27 t178 x15_1).f2) == 0) = true := beq_iff_eq.mpr c31
                 have c31b1 : (((rd_T27 t178 x15_1).f2) != 0) = false := bne_eq_false_iff_eq.mpr c31
                 clear c31
                 have H' := ak H
                 clear H
                 have p185 : 0 ≤ (x15_1 : Int) := of_decide_eq_true mq34
                 have q185 : x15_1 < (t178.length : Int) := of_decide_eq_true mq34
                 obtain ⟨ad185, A185_6, c185_6, e185, hx185_0, hx185_1, hx185_2, hx185_3, hx185_4, hx185_5, hx185_6, HC185_6, HR185_6, HL185_6⟩ := elN27 w.heap.size HO_3 x15_1 p185 q185
                 cases e185
                 replace p185 := eq_true p185
                 replace q185 := eq_true q185
                 have p186 : 0 ≤ (x15_1 : Int) := of_decide_eq_true mq34
                 have q186 : x15_1 < (t178.length : Int) := of_decide_eq_true mq34
                 obtain ⟨ad186, A186_6, c186_6, e186, hx186_0, hx186_1, hx186_2, hx186_3, hx186_4, hx186_5, hx186_6, HC186_6, HR186_6, HL186_6⟩ := elN27 w.heap.size HO_3 x15_1 p186 q186
                 obtain rfl : ad185 = ad186 := (by injection e186)
                 replace p186 := eq_true p186
                 replace q186 := eq_true q186
                 have ea_ := Option.some.inj (hx185_6.symm.trans hx186_6)
                 injection ea_ with ea_ en_ ec_
                 subst ea_
                 subst ec_
                 clear en_
                 have p187 : 0 ≤ (x15_1 : Int) := of_decide_eq_true mq34
                 have q187 : x15_1 < (t178.length : Int) := of_decide_eq_true mq34
                 obtain ⟨ad187, A187_6, c187_6, e187, hx187_0, hx187_1, hx187_2, hx187_3, hx187_4, hx187_5, hx187_6, HC187_6, HR187_6, HL187_6⟩ := elN27 w.heap.size HO_3 x15_1 p187 q187
                 obtain rfl : ad185 = ad187 := (by injection e187)
                 replace p187 := eq_true p187
                 replace q187 := eq_true q187
                 have ea_ := Option.some.inj (hx185_6.symm.trans hx187_6)
                 injection ea_ with ea_ en_ ec_
                 subst ea_
                 subst ec_
                 clear en_
                 have p188 : 0 ≤ (x15_1 : Int) := of_decide_eq_true mq34
                 have q188 : x15_1 < (t178.length : Int) := of_decide_eq_true mq34
                 obtain ⟨ad188, A188_6, c188_6, e188, hx188_0, hx188_1, hx188_2, hx188_3, hx188_4, hx188_5, hx188_6, HC188_6, HR188_6, HL188_6⟩ := elN27 w.heap.size HO_3 x15_1 p188 q188
                 obtain rfl : ad185 = ad188 := (by injection e188)
                 replace p188 := eq_true p188
                 replace q188 := eq_true q188
                 have ea_ := Option.some.inj (hx185_6.symm.trans hx188_6)
                 injection ea_ with ea_ en_ ec_
                 subst ea_
                 subst ec_
                 clear en_
                 have p189 : 0 ≤ (x15_1 : Int) := of_decide_eq_true mq34
                 have q189 : x15_1 < (t178.length : Int) := of_decide_eq_true mq34
                 obtain ⟨ad189, A189_6, c189_6, e189, hx189_0, hx189_1, hx189_2, hx189_3, hx189_4, hx189_5, hx189_6, HC189_6, HR189_6, HL189_6⟩ := elN27 w.heap.size HO_3 x15_1 p189 q189
                 obtain rfl : ad185 = ad189 := (by injection e189)
                 replace p189 := eq_true p189
                 replace q189 := eq_true q189
                 have ea_ := Option.some.inj (hx185_6.symm.trans hx189_6)
                 injection ea_ with ea_ en_ ec_
                 subst ea_
                 subst ec_
                 clear en_
                 have p190 : 0 ≤ (x15_1 : Int) := of_decide_eq_true mq34
                 have q190 : x15_1 < (t178.length : Int) := of_decide_eq_true mq34
                 obtain ⟨ad190, A190_6, c190_6, e190, hx190_0, hx190_1, hx190_2, hx190_3, hx190_4, hx190_5, hx190_6, HC190_6, HR190_6, HL190_6⟩ := elN27 w.heap.size HO_3 x15_1 p190 q190
                 obtain rfl : ad185 = ad190 := (by injection e190)
                 replace p190 := eq_true p190
                 replace q190 := eq_true q190
                 have ea_ := Option.some.inj (hx185_6.symm.trans hx190_6)
                 injection ea_ with ea_ en_ ec_
                 subst ea_
                 subst ec_
                 clear en_
                 have p191 : 0 ≤ (x15_1 : Int) := of_decide_eq_true mq34
                 have q191 : x15_1 < (t178.length : Int) := of_decide_eq_true mq34
                 obtain ⟨ad191, A191_6, c191_6, e191, hx191_0, hx191_1, hx191_2, hx191_3, hx191_4, hx191_5, hx191_6, HC191_6, HR191_6, HL191_6⟩ := elN27 w.heap.size HO_3 x15_1 p191 q191
                 obtain rfl : ad185 = ad191 := (by injection e191)
                 replace p191 := eq_true p191
                 replace q191 := eq_true q191
                 have ea_ := Option.some.inj (hx185_6.symm.trans hx191_6)
                 injection ea_ with ea_ en_ ec_
                 subst ea_
                 subst ec_
                 clear en_
                 go_wp2
                 repeat (go_quiet (fail); try go_wp2)
                 go_roundg kj12
                 case measure => have := HK1.out; have := HJ12.out; omega
                 case rel => exact ⟨(wrap64 (x15_1 + 1)), mq39, H', ⟨mq46 HK1 HJ12⟩, ⟨mq5 HO_3⟩, ⟨mq28 BK177⟩, ⟨kW⟩⟩
                ·rw [if_neg c31] at H
                 have c31b0 : (((rd_T27 t178 x15_1).f2) == 0) = false := beq_eq_false_iff_ne.mpr c31
                 have c31b1 : (((rd_T27 t178 x15_1).f2) != 0) = true := bne_iff_ne.mpr c31
                 obtain rfl := Option.some.inj H
                 have p185 : 0 ≤ (x15_1 : Int) := of_decide_eq_true mq34
                 have q185 : x15_1 < (t178.length : Int) := of_decide_eq_true mq34
                 obtain ⟨ad185, A185_6, c185_6, e185, hx185_0, hx185_1, hx185_2, hx185_3, hx185_4, hx185_5, hx185_6, HC185_6, HR185_6, HL185_6⟩ := elN27 w.heap.size HO_3 x15_1 p185 q185
                 cases e185
                 replace p185 := eq_true p185
                 replace q185 := eq_true q185
                 have p186 : 0 ≤ (x15_1 : Int) := of_decide_eq_true mq34
                 have q186 : x15_1 < (t178.length : Int) := of_decide_eq_true mq34
                 obtain ⟨ad186, A186_6, c186_6, e186, hx186_0, hx186_1, hx186_2, hx186_3, hx186_4, hx186_5, hx186_6, HC186_6, HR186_6, HL186_6⟩ := elN27 w.heap.size HO_3 x15_1 p186 q186
                 obtain rfl : ad185 = ad186 := (by injection e186)
                 replace p186 := eq_true p186
                 replace q186 := eq_true q186
                 have ea_ := Option.some.inj (hx185_6.symm.trans hx186_6)
                 injection ea_ with ea_ en_ ec_
                 subst ea_
                 subst ec_
                 clear en_
                 have p187 : 0 ≤ (x15_1 : Int) := of_decide_eq_true mq34
                 have q187 : x15_1 < (t178.length : Int) := of_decide_eq_true mq34
                 obtain ⟨ad187, A187_6, c187_6, e187, hx187_0, hx187_1, hx187_2, hx187_3, hx187_4, hx187_5, hx187_6, HC187_6, HR187_6, HL187_6⟩ := elN27 w.heap.size HO_3 x15_1 p187 q187
                 obtain rfl : ad185 = ad187 := (by injection e187)
                 replace p187 := eq_true p187
                 replace q187 := eq_true q187
                 have ea_ := Option.some.inj (hx185_6.symm.trans hx187_6)
                 injection ea_ with ea_ en_ ec_
                 subst ea_
                 subst ec_
                 clear en_
                 have p188 : 0 ≤ (x15_1 : Int) := of_decide_eq_true mq34
                 have q188 : x15_1 < (t178.length : Int) := of_decide_eq_true mq34
                 obtain ⟨ad188, A188_6, c188_6, e188, hx188_0, hx188_1, hx188_2, hx188_3, hx188_4, hx188_5, hx188_6, HC188_6, HR188_6, HL188_6⟩ := elN27 w.heap.size HO_3 x15_1 p188 q188
                 obtain rfl : ad185 = ad188 := (by injection e188)
                 replace p188 := eq_true p188
                 replace q188 := eq_true q188
                 have ea_ := Option.some.inj (hx185_6.symm.trans hx188_6)
                 injection ea_ with ea_ en_ ec_
                 subst ea_
                 subst ec_
                 clear en_
                 have p189 : 0 ≤ (x15_1 : Int) := of_decide_eq_true mq34
                 have q189 : x15_1 < (t178.length : Int) := of_decide_eq_true mq34
                 obtain ⟨ad189, A189_6, c189_6, e189, hx189_0, hx189_1, hx189_2, hx189_3, hx189_4, hx189_5, hx189_6, HC189_6, HR189_6, HL189_6⟩ := elN27 w.heap.size HO_3 x15_1 p189 q189
                 obtain rfl : ad185 = ad189 := (by injection e189)
                 replace p189 := eq_true p189
                 replace q189 := eq_true q189
                 have ea_ := Option.some.inj (hx185_6.symm.trans hx189_6)
                 injection ea_ with ea_ en_ ec_
                 subst ea_
                 subst ec_
                 clear en_
                 have p190 : 0 ≤ (x15_1 : Int) := of_decide_eq_true mq34
                 have q190 : x15_1 < (t178.length : Int) := of_decide_eq_true mq34
                 obtain ⟨ad190, A190_6, c190_6, e190, hx190_0, hx190_1, hx190_2, hx190_3, hx190_4, hx190_5, hx190_6, HC190_6, HR190_6, HL190_6⟩ := elN27 w.heap.size HO_3 x15_1 p190 q190
                 obtain rfl : ad185 = ad190 := (by injection e190)
                 replace p190 := eq_true p190
                 replace q190 := eq_true q190
                 have ea_ := Option.some.inj (hx185_6.symm.trans hx190_6)
                 injection ea_ with ea_ en_ ec_
                 subst ea_
                 subst ec_
                 clear en_
                 have p191 : 0 ≤ (x15_1 : Int) := of_decide_eq_true mq34
                 have q191 : x15_1 < (t178.length : Int) := of_decide_eq_true mq34
                 obtain ⟨ad191, A191_6, c191_6, e191, hx191_0, hx191_1, hx191_2, hx191_3, hx191_4, hx191_5, hx191_6, HC191_6, HR191_6, HL191_6⟩ := elN27 w.heap.size HO_3 x15_1 p191 q191
                 obtain rfl : ad185 = ad191 := (by injection e191)
                 replace p191 := eq_true p191
                 replace q191 := eq_true q191
                 have ea_ := Option.some.inj (hx185_6.symm.trans hx191_6)
                 injection ea_ with ea_ en_ ec_
                 subst ea_
                 subst ec_
                 clear en_
                 go_wp2
                 repeat (go_quiet (fail); try go_wp2)
                 go_ret
                 exact ⟨mq37, kW⟩
              ·rw [if_neg c29] at H
               have c29b0 : decide (1 < ((rd_T27 t178 x15_1).f0)) = false := decide_eq_false c29
               clear c29
               have H' := ak H
               clear H
               have p185 : 0 ≤ (x15_1 : Int) := of_decide_eq_true mq34
               have q185 : x15_1 < (t178.length : Int) := of_decide_eq_true mq34
               obtain ⟨ad185, A185_6, c185_6, e185, hx185_0, hx185_1, hx185_2, hx185_3, hx185_4, hx185_5, hx185_6, HC185_6, HR185_6, HL185_6⟩ := elN27 w.heap.size HO_3 x15_1 p185 q185
               cases e185
               replace p185 := eq_true p185
               replace q185 := eq_true q185
               have p186 : 0 ≤ (x15_1 : Int) := of_decide_eq_true mq34
               have q186 : x15_1 < (t178.length : Int) := of_decide_eq_true mq34
               obtain ⟨ad186, A186_6, c186_6, e186, hx186_0, hx186_1, hx186_2, hx186_3, hx186_4, hx186_5, hx186_6, HC186_6, HR186_6, HL186_6⟩ := elN27 w.heap.size HO_3 x15_1 p186 q186
               obtain rfl : ad185 = ad186 := (by injection e186)
               replace p186 := eq_true p186
               replace q186 := eq_true q186
               have ea_ := Option.some.inj (hx185_6.symm.trans hx186_6)
               injection ea_ with ea_ en_ ec_
               subst ea_
               subst ec_
               clear en_
               have p187 : 0 ≤ (x15_1 : Int) := of_decide_eq_true mq34
               have q187 : x15_1 < (t178.length : Int) := of_decide_eq_true mq34
               obtain ⟨ad187, A187_6, c187_6, e187, hx187_0, hx187_1, hx187_2, hx187_3, hx187_4, hx187_5, hx187_6, HC187_6, HR187_6, HL187_6⟩ := elN27 w.heap.size HO_3 x15_1 p187 q187
               obtain rfl : ad185 = ad187 := (by injection e187)
               replace p187 := eq_true p187
               replace q187 := eq_true q187
               have ea_ := Option.some.inj (hx185_6.symm.trans hx187_6)
               injection ea_ with ea_ en_ ec_
               subst ea_
               subst ec_
               clear en_
               have p188 : 0 ≤ (x15_1 : Int) := of_decide_eq_true mq34
               have q188 : x15_1 < (t178.length : Int) := of_decide_eq_true mq34
               obtain ⟨ad188, A188_6, c188_6, e188, hx188_0, hx188_1, hx188_2, hx188_3, hx188_4, hx188_5, hx188_6, HC188_6, HR188_6, HL188_6⟩ := elN27 w.heap.size HO_3 x15_1 p188 q188
               obtain rfl : ad185 = ad188 := (by injection e188)
               replace p188 := eq_true p188
               replace q188 := eq_true q188
               have ea_ := Option.some.inj (hx185_6.symm.trans hx188_6)
               injection ea_ with ea_ en_ ec_
               subst ea_
               subst ec_
               clear en_
               have p189 : 0 ≤ (x15_1 : Int) := of_decide_eq_true mq34
               have q189 : x15_1 < (t178.length : Int) := of_decide_eq_true mq34
               obtain ⟨ad189, A189_6, c189_6, e189, hx189_0, hx189_1, hx189_2, hx189_3, hx189_4, hx189_5, hx189_6, HC189_6, HR189_6, HL189_6⟩ := elN27 w.heap.size HO_3 x15_1 p189 q189
               obtain rfl : ad185 = ad189 := (by injection e189)
               replace p189 := eq_true p189
               replace q189 := eq_true q189
               have ea_ := Option.some.inj (hx185_6.symm.trans hx189_6)
               injection ea_ with ea_ en_ ec_
               subst ea_
               subst ec_
               clear en_
               go_wp2
               repeat (go_quiet (fail); try go_wp2)
               go_roundg kj12
               case measure => have := HK1.out; have := HJ12.out; omega
               case rel => exact ⟨(wrap64 (x15_1 + 1)), mq39, H', ⟨mq46 HK1 HJ12⟩, ⟨mq5 HO_3⟩, ⟨mq28 BK177⟩, ⟨kW⟩⟩
          ·rw [if_neg c25] at H
           have c25b0 : (((rd_T27 t178 x15_1).f0) == 1) = false := beq_eq_false_iff_ne.mpr c25
           have c25b1 : (((rd_T27 t178 x15_1).f0) != 1) = true := bne_iff_ne.mpr c25
           by_cases c32 : ((rd_T27 t178 x15_1).f0) > 1
           ·rw [if_pos c32] at H
            have c32b0 : decide (1 < ((rd_T27 t178 x15_1).f0)) = true := decide_eq_true c32
            clear c32
            by_cases c33 : (((rd_T27 t178 x15_1).f3).length : Int) < 2
            ·rw [if_pos c33] at H
             have c33b0 : decide ((((rd_T27 t178 x15_1).f3).length : Int) < 2) = true := decide_eq_true c33
             have c33b1 : decide (((rd_T27 t178 x15_1).f3).length < 2) = true := decide_eq_true (by omega)
             clear c33
             obtain rfl := Option.some.inj H
             have p185 : 0 ≤ (x15_1 : Int) := of_decide_eq_true mq34
             have q185 : x15_1 < (t178.length : Int) := of_decide_eq_true mq34
             obtain ⟨ad185, A185_6, c185_6, e185, hx185_0, hx185_1, hx185_2, hx185_3, hx185_4, hx185_5, hx185_6, HC185_6, HR185_6, HL185_6⟩ := elN27 w.heap.size HO_3 x15_1 p185 q185
             cases e185
             replace p185 := eq_true p185
             replace q185 := eq_true q185
             have p192 : 0 ≤ (x15_1 : Int) := of_decide_eq_true mq34
             have q192 : x15_1 < (t178.length : Int) := of_decide_eq_true mq34
             obtain ⟨ad192, A192_6, c192_6, e192, hx192_0, hx192_1, hx192_2, hx192_3, hx192_4, hx192_5, hx192_6, HC192_6, HR192_6, HL192_6⟩ := elN27 w.heap.size HO_3 x15_1 p192 q192
             obtain rfl : ad185 = ad192 := (by injection e192)
             replace p192 := eq_true p192
             replace q192 := eq_true q192
             have ea_ := Option.some.inj (hx185_6.symm.trans hx192_6)
             injection ea_ with ea_ en_ ec_
             subst ea_
             subst ec_
             clear en_
             have p193 : 0 ≤ (x15_1 : Int) := of_decide_eq_true mq34
             have q193 : x15_1 < (t178.length : Int) := of_decide_eq_true mq34
             obtain ⟨ad193, A193_6, c193_6, e193, hx193_0, hx193_1, hx193_2, hx193_3, hx193_4, hx193_5, hx193_6, HC193_6, HR193_6, HL193_6⟩ := elN27 w.heap.size HO_3 x15_1 p193 q193
             obtain rfl : ad185 = ad193 := (by injection e193)
             replace p193 := eq_true p193
             replace q193 := eq_true q193
             have ea_ := Option.some.inj (hx185_6.symm.trans hx193_6)
             injection ea_ with ea_ en_ ec_
             subst ea_
             subst ec_
             clear en_
             go_wp2
             repeat (go_quiet (fail); try go_wp2)
             go_ret
             exact ⟨mq37, kW⟩
            ·rw [if_neg c33] at H
             have c33b0 : decide ((((rd_T27 t178 x15_1).f3).length : Int) < 2) = false := decide_eq_false c33
             have c33b1 : decide (((rd_T27 t178 x15_1).f3).length < 2) = false := decide_eq_false (by omega)
             clear c33
             by_cases c34 : ((rd_T27 t178 x15_1).f2) = 0
             ·rw [if_pos c34] at H
              have c34b0 : (((rd_T27 t178 x15_1).f2) == 0) = true := beq_iff_eq.mpr c34
              have c34b1 : (((rd_T27 t178 x15_1).f2) != 0) = false := bne_eq_false_iff_eq.mpr c34
              clear c34
              have H' := ak H
              clear H
              have p185 : 0 ≤ (x15_1 : Int) := of_decide_eq_true mq34
              have q185 : x15_1 < (t178.length : Int) := of_decide_eq_true mq34
              obtain ⟨ad185, A185_6, c185_6, e185, hx185_0, hx185_1, hx185_2, hx185_3, hx185_4, hx185_5, hx185_6, HC185_6, HR185_6, HL185_6⟩ := elN27 w.heap.size HO_3 x15_1 p185 q185
              cases e185
              replace p185 := eq_true p185
              replace q185 := eq_true q185
              have p192 : 0 ≤ (x15_1 : Int) := of_decide_eq_true mq34
              have q192 : x15_1 < (t178.length : Int) := of_decide_eq_true mq34
              obtain ⟨ad192, A192_6, c192_6, e192, hx192_0, hx192_1, hx192_2, hx192_3, hx192_4, hx192_5, hx192_6, HC192_6, HR192_6, HL192_6⟩ := elN27 w.heap.size HO_3 x15_1 p192 q192
              obtain rfl : ad185 = ad192 := (by injection e192)
              replace p192 := eq_true p192
              replace q192 := eq_true q192
              have ea_ := Option.some.inj (hx185_6.symm.trans hx192_6)
              injection ea_ with ea_ en_ ec_
              subst ea_
              subst ec_
              clear en_
              have p193 : 0 ≤ (x15_1 : Int) := of_decide_eq_true mq34
              have q193 : x15_1 < (t178.length : Int) := of_decide_eq_true mq34
              obtain ⟨ad193, A193_6, c193_6, e193, hx193_0, hx193_1, hx193_2, hx193_3, hx193_4, hx193_5, hx193_6, HC193_6, HR193_6, HL193_6⟩ := elN27 w.heap.size HO_3 x15_1 p193 q193
              obtain rfl : ad185 = ad193 := (by injection e193)
              replace p193 := eq_true p193
              replace q193 := eq_true q193
              have ea_ := Option.some.inj (hx185_6.symm.trans hx193_6)
              injection ea_ with ea_ en_ ec_
              subst ea_
              subst ec_
              clear en_
              have p194 : 0 ≤ (x15_1 : Int) := of_decide_eq_true mq34
              have q194 : x15_1 < (t178.length : Int) := of_decide_eq_true mq34
              obtain ⟨ad194, A194_6, c194_6, e194, hx194_0, hx194_1, hx194_2, hx194_3, hx194_4, hx194_5, hx194_6, HC194_6, HR194_6, HL194_6⟩ := elN27 w.heap.size HO_3 x15_1 p194 q194
              obtain rfl : ad185 = ad194 := (by injection e194)
              replace p194 := eq_true p194
              replace q194 := eq_true q194
              have ea_ := Option.some.inj (hx185_6.symm.trans hx194_6)
              injection ea_ with ea_ en_ ec_
              subst ea_
              subst ec_
              clear en_
              go_wp2
              repeat (go_quiet (fail); try go_wp2)
              go_roundg kj12
              case measure => have := HK1.out; have := HJ12.out; omega
              case rel => exact ⟨(wrap64 (x15_1 + 1)), mq39, H', ⟨mq46 HK1 HJ12⟩, ⟨mq5 HO_3⟩, ⟨mq28 BK177⟩, ⟨kW⟩⟩
             ·rw [if_neg c34] at H
              have c34b0 : (((rd_T27 t178 x15_1).f2) == 0) = false := beq_eq_false_iff_ne.mpr c34
              have c34b1 : (((rd_T27 t178 x15_1).f2) != 0) = true := bne_iff_ne.mpr c34
              obtain rfl := Option.some.inj H
              have p185 : 0 ≤ (x15_1 : Int) := of_decide_eq_true mq34
              have q185 : x15_1 < (t178.length : Int) := of_decide_eq_true mq34
              obtain ⟨ad185, A185_6, c185_6, e185, hx185_0, hx185_1, hx185_2, hx185_3, hx185_4, hx185_5, hx185_6, HC185_6, HR185_6, HL185_6⟩ := elN27 w.heap.size HO_3 x15_1 p185 q185
              cases e185
              replace p185 := eq_true p185
              replace q185 := eq_true q185
              have p192 : 0 ≤ (x15_1 : Int) := of_decide_eq_true mq34
              have q192 : x15_1 < (t178.length : Int) := of_decide_eq_true mq34
              obtain ⟨ad192, A192_6, c192_6, e192, hx192_0, hx192_1, hx192_2, hx192_3, hx192_4, hx192_5, hx192_6, HC192_6, HR192_6, HL192_6⟩ := elN27 w.heap.size HO_3 x15_1 p192 q192
              obtain rfl : ad185 = ad192 := (by injection e192)
              replace p192 := eq_true p192
              replace q192 := eq_true q192
              have ea_ := Option.some.inj (hx185_6.symm.trans hx192_6)
              injection ea_ with ea_ en_ ec_
              subst ea_
              subst ec_
              clear en_
              have p193 : 0 ≤ (x15_1 : Int) := of_decide_eq_true mq34
              have q193 : x15_1 < (t178.length : Int) := of_decide_eq_true mq34
              obtain ⟨ad193, A193_6, c193_6, e193, hx193_0, hx193_1, hx193_2, hx193_3, hx193_4, hx193_5, hx193_6, HC193_6, HR193_6, HL193_6⟩ := elN27 w.heap.size HO_3 x15_1 p193 q193
              obtain rfl : ad185 = ad193 := (by injection e193)
              replace p193 := eq_true p193
              replace q193 := eq_true q193
              have ea_ := Option.some.inj (hx185_6.symm.trans hx193_6)
              injection ea_ with ea_ en_ ec_
              subst ea_
              subst ec_
              clear en_
              have p194 : 0 ≤ (x15_1 : Int) := of_decide_eq_true mq34
              have q194 : x15_1 < (t178.length : Int) := of_decide_eq_true mq34
              obtain ⟨ad194, A194_6, c194_6, e194, hx194_0, hx194_1, hx194_2, hx194_3, hx194_4, hx194_5, hx194_6, HC194_6, HR194_6, HL194_6⟩ := elN27 w.heap.size HO_3 x15_1 p194 q194
              obtain rfl : ad185 = ad194 := (by injection e194)
              replace p194 := eq_true p194
              replace q194 := eq_true q194
              have ea_ := Option.some.inj (hx185_6.symm.trans hx194_6)
              injection ea_ with ea_ en_ ec_
              subst ea_
              subst ec_
              clear en_
              go_wp2
              repeat (go_quiet (fail); try go_wp2)
              go_ret
              exact ⟨mq37, kW⟩
           ·rw [if_neg c32] at H
            have c32b0 : decide (1 < ((rd_T27 t178 x15_1).f0)) = false := decide_eq_false c32
            clear c32
            have H' := ak H
            clear H
            have p185 : 0 ≤ (x15_1 : Int) := of_decide_eq_true mq34
            have q185 : x15_1 < (t178.length : Int) := of_decide_eq_true mq34
            obtain ⟨ad185, A185_6, c185_6, e185, hx185_0, hx185_1, hx185_2, hx185_3, hx185_4, hx185_5, hx185_6, HC185_6, HR185_6, HL185_6⟩ := elN27 w.heap.size HO_3 x15_1 p185 q185
            cases e185
            replace p185 := eq_true p185
            replace q185 := eq_true q185
            have p192 : 0 ≤ (x15_1 : Int) := of_decide_eq_true mq34
            have q192 : x15_1 < (t178.length : Int) := of_decide_eq_true mq34
            obtain ⟨ad192, A192_6, c192_6, e192, hx192_0, hx192_1, hx192_2, hx192_3, hx192_4, hx192_5, hx192_6, HC192_6, HR192_6, HL192_6⟩ := elN27 w.heap.size HO_3 x15_1 p192 q192
            obtain rfl : ad185 = ad192 := (by injection e192)
            replace p192 := eq_true p192
            replace q192 := eq_true q192
            have ea_ := Option.some.inj (hx185_6.symm.trans hx192_6)
            injection ea_ with ea_ en_ ec_
            subst ea_
            subst ec_
            clear en_
            go_wp2
            repeat (go_quiet (fail); try go_wp2)
            go_roundg kj12
            case measure => have := HK1.out; have := HJ12.out; omega
            case rel => exact ⟨(wrap64 (x15_1 + 1)), mq39, H', ⟨mq46 HK1 HJ12⟩, ⟨mq5 HO_3⟩, ⟨mq28 BK177⟩, ⟨kW⟩⟩
         ·rw [if_neg c24] at H
          exact absurd H (by simp)
        ·rw [if_neg c23] at H
         exact absurd H (by simp)
    ·rw [if_neg c12] at H
     have c12b0 : decide (x15_1 < (t178.length : Int)) = false := decide_eq_false c12
     clear c12
     replace H := Option.bind_eq_some_iff.mp H
     obtain ⟨t195, A350, H⟩ := H
     replace H : (sashref05_May.l1 k1 t195 (t195.length : Int) 0) = some r := H
     have A35 := ak A350
     clear A350
     have H' := ak H
     clear H
     obtain ⟨hcz36_0, hcz36_1, hcz36_2, hcz36_3, hcz36_4, hcz36_5, hcz36_6⟩ := cz7 BK177
     obtain ⟨hfz36_0, hfz36_1, hfz36_2, hfz36_3, hfz36_4, hfz36_5, hfz36_6⟩ := fz7 BK177
     go_wp2_with (first | (go_at_call 36; (with_reducible refine (sashref05_Leaves.calls k1 a0_0 a0_1 a0_2 a0_3 a0_4 a0_5 (fun k_ => k_ < w.heap.size) _ _ l0_6 t195 _ ?side1 A35.out).mono ?_); (case side1 => exact Kd.V_mk HC0_6.out (Kd.F_below (Kd.C_F k27_heap HR0_6.out) kW)); rintro e w37 ⟨v196, rfl, ho0, hb⟩; have HO197 := ak (Kd.N_lower (Kd.N_mono (ok' := fun k_ => some k_ ≠ (.slice Ao11 t178.length co11 : Value).ownBlock ∧ k_ ≠ gb177) ho0 (fun k_ hk_ => ⟨Or.elim hk_ (fun hs_ => fun e_ => Nat.not_le.2 hs_ (Kd.N_base HO_3.out k_ e_.symm)) (fun hn_ => (Kd.fresh' (Kd.N_lt (kN HO_3)) k_ hn_)), Or.elim hk_ (fun hs_ => fun e_ => Nat.not_le.2 hs_ (by rw [e_]; exact GW177.out)) (fun hn_ => (Kd.freshB (g := gb177) (o := .cells #[.int .u8 a0_0, .int .i64 a0_1, .int .i64 a0_2, .int .i64 a0_3, .int .i64 a0_4, .int .i64 a0_5, .slice A0_6 l0_6.length c0_6] 27 (0, 0)) (kA BK177) k_ hn_))⟩)) (below_size kW)); replace HO_3 := ak (Kd.N_elder' (kN HO_3) (Kd.N_base ho0) hb); replace BK177 := (kB BK177 hb); replace HB := ak (below_step kW hb); (try clear hb); (try clear hb2); (try clear hk); (try clear hi); (try clear ho0); obtain ⟨Ao38, co38, eo38⟩ := Kd.N_slice HO197.out; subst eo38))
     go_loopg [102] k1 (fun kq v102 w' => ∃ (x102_2 : Int), v102 = .int .i64 x102_2 ∧ Aside0 (sashref05_May.l1 kq t195 (t195.length : Int) x102_2 = some r) ∧ Aside0 (kq ≤ k1) ∧ Aside0 (Kd.N k27 27 w' w.heap.size (fun k_ => k_ ≠ gb177) (.slice Ao38 t195.length co38) t195) ∧ Aside0 (w'.heap[gb177]? = some (.cells #[.int .u8 a0_0, .int .i64 a0_1, .int .i64 a0_2, .int .i64 a0_3, .int .i64 a0_4, .int .i64 a0_5, (.slice A0_6 l0_6.length c0_6)] 27 (0, 0))) ∧ Aside0 (Below w.heap.size w w'))
     case atStart => exact ⟨(0), mq39, H', ⟨Nat.le_refl _⟩, ⟨by (with_reducible repeat (first | apply Kd.N_alloc | apply Kd.N_drewN | apply Kd.N_drew)); exact Kd.N_mono HO197.out (fun _ hk => hk.2)⟩, ⟨mq28 BK177⟩, ⟨kW⟩⟩
     case round =>
      clear H'
      clear c12b0 hcz36_0 hcz36_1 hcz36_2 hcz36_3 hcz36_4 hcz36_5 hcz36_6 hfz36_0 hfz36_1 hfz36_2 hfz36_3 hfz36_4 hfz36_5 hfz36_6
      obtain ⟨x102_2, rfl, HA, HK2, HO_5, BK177, HB⟩ := hrel
      cases gk with
      | zero => exact absurd HA.out (by simp [sashref05_May.l1])
      | succ k2 =>
       have H := HA.out
       clear HA
       simp only [sashref05_May.l1] at H
       by_cases c39 : x102_2 < (t195.length : Int)
       ·rw [if_pos c39] at H
        have c39b0 : decide (x102_2 < (t195.length : Int)) = true := decide_eq_true c39
        clear c39
        have H' := ak H
        clear H
        go_wp2
        repeat (go_quiet (fail); try go_wp2)
        go_loopg [7] k2 (fun kq v7 w' => ∃ (x7_3 : Int), v7 = .int .i64 x7_3 ∧ Aside0 (sashref05_May.l2 kq t195 x102_2 x7_3 (t195.length : Int) x102_2 = some r) ∧ Aside0 (kq ≤ k2) ∧ Aside0 (Kd.N k27 27 w' w.heap.size (fun k_ => k_ ≠ gb177) (.slice Ao38 t195.length co38) t195) ∧ Aside0 (w'.heap[gb177]? = some (.cells #[.int .u8 a0_0, .int .i64 a0_1, .int .i64 a0_2, .int .i64 a0_3, .int .i64 a0_4, .int .i64 a0_5, (.slice A0_6 l0_6.length c0_6)] 27 (0, 0))) ∧ Aside0 (Below w.heap.size w w'))
        case atStart => exact ⟨(0), mq39, H', ⟨Nat.le_refl _⟩, ⟨mq5 HO_5⟩, ⟨mq28 BK177⟩, ⟨kW⟩⟩
        case round =>
         clear H'
         clear c39b0
         obtain ⟨x7_3, rfl, HA, HK3, HO_5, BK177, HB⟩ := hrel
         cases gk with
         | zero => exact absurd HA.out (by simp [sashref05_May.l2])
         | succ k3 =>
          have H := HA.out
          clear HA
          simp only [sashref05_May.l2] at H
          by_cases c40 : x7_3 < x102_2
          ·rw [if_pos c40] at H
           have c40b0 : decide (x7_3 < x102_2) = true := decide_eq_true c40
           clear c40
           by_cases c41 : 0 ≤ x102_2
           ·rw [if_pos c41] at H
            have c41b0 : decide (0 ≤ x102_2) = true := decide_eq_true c41
            clear c41
            by_cases c42 : x102_2 < (t195.length : Int)
            ·rw [if_pos c42] at H
             have c42b0 : decide (x102_2 < (t195.length : Int)) = true := decide_eq_true c42
             clear c42
             by_cases c43 : 0 ≤ x7_3
             ·rw [if_pos c43] at H
              have c43b0 : decide (0 ≤ x7_3) = true := decide_eq_true c43
              clear c43
              by_cases c44 : x7_3 < (t195.length : Int)
              ·rw [if_pos c44] at H
               have c44b0 : decide (x7_3 < (t195.length : Int)) = true := decide_eq_true c44
               clear c44
               by_cases c45 : ((rd_T27 t195 x102_2).f2) = ((rd_T27 t195 x7_3).f2)
               ·rw [if_pos c45] at H
                have c45b0 : (((rd_T27 t195 x102_2).f2) == ((rd_T27 t195 x7_3).f2)) = true := beq_iff_eq.mpr c45
                have c45b1 : (((rd_T27 t195 x102_2).f2) != ((rd_T27 t195 x7_3).f2)) = false := bne_eq_false_iff_eq.mpr c45
                clear c45
                obtain rfl := Option.some.inj H
                have p198 : 0 ≤ (x102_2 : Int) := of_decide_eq_true mq34
                have q198 : x102_2 < (t195.length : Int) := of_decide_eq_true mq34
                obtain ⟨ad198, A198_6, c198_6, e198, hx198_0, hx198_1, hx198_2, hx198_3, hx198_4, hx198_5, hx198_6, HC198_6, HR198_6, HL198_6⟩ := elN27 w.heap.size HO_5 x102_2 p198 q198
                cases e198
                replace p198 := eq_true p198
                replace q198 := eq_true q198
                have p199 : 0 ≤ (x7_3 : Int) := of_decide_eq_true mq34
                have q199 : x7_3 < (t195.length : Int) := of_decide_eq_true mq34
                obtain ⟨ad199, A199_6, c199_6, e199, hx199_0, hx199_1, hx199_2, hx199_3, hx199_4, hx199_5, hx199_6, HC199_6, HR199_6, HL199_6⟩ := elN27 w.heap.size HO_5 x7_3 p199 q199
                obtain rfl : ad198 = ad199 := (by injection e199)
                replace p199 := eq_true p199
                replace q199 := eq_true q199
                go_wp2
                repeat (go_quiet (fail); try go_wp2)
                go_ret
                exact ⟨mq37, kW⟩
               ·rw [if_neg c45] at H
                have c45b0 : (((rd_T27 t195 x102_2).f2) == ((rd_T27 t195 x7_3).f2)) = false := beq_eq_false_iff_ne.mpr c45
                have c45b1 : (((rd_T27 t195 x102_2).f2) != ((rd_T27 t195 x7_3).f2)) = true := bne_iff_ne.mpr c45
                have H' := ak H
                clear H
                have p198 : 0 ≤ (x102_2 : Int) := of_decide_eq_true mq34
                have q198 : x102_2 < (t195.length : Int) := of_decide_eq_true mq34
                obtain ⟨ad198, A198_6, c198_6, e198, hx198_0, hx198_1, hx198_2, hx198_3, hx198_4, hx198_5, hx198_6, HC198_6, HR198_6, HL198_6⟩ := elN27 w.heap.size HO_5 x102_2 p198 q198
                cases e198
                replace p198 := eq_true p198
                replace q198 := eq_true q198
                have p199 : 0 ≤ (x7_3 : Int) := of_decide_eq_true mq34
                have q199 : x7_3 < (t195.length : Int) := of_decide_eq_true mq34
                obtain ⟨ad199, A199_6, c199_6, e199, hx199_0, hx199_1, hx199_2, hx199_3, hx199_4, hx199_5, hx199_6, HC199_6, HR199_6, HL199_6⟩ := elN27 w.heap.size HO_5 x7_3 p199 q199
                obtain rfl : ad198 = ad199 := (by injection e199)
                replace p199 := eq_true p199
                replace q199 := eq_true q199
                go_wp2
                repeat (go_quiet (fail); try go_wp2)
                go_roundg k3
                case measure => have := HK1.out; have := HK2.out; have := HK3.out; omega
                case rel => exact ⟨(wrap64 (x7_3 + 1)), mq39, H', ⟨mq45 HK1 HK2 HK3⟩, ⟨mq5 HO_5⟩, ⟨mq28 BK177⟩, ⟨kW⟩⟩
              ·rw [if_neg c44] at H
               exact absurd H (by simp)
             ·rw [if_neg c43] at H
              exact absurd H (by simp)
            ·rw [if_neg c42] at H
             exact absurd H (by simp)
           ·rw [if_neg c41] at H
            exact absurd H (by simp)
          ·rw [if_neg c40] at H
           have c40b0 : decide (x7_3 < x102_2) = false := decide_eq_false c40
           clear c40
           have H' := ak H
           clear H
           go_wp2
           repeat (go_quiet (fail); try go_wp2)
           go_roundg k3
           case measure => have := HK1.out; have := HK2.out; have := HK3.out; omega
           case rel => exact ⟨(wrap64 (x102_2 + 1)), mq39, H', ⟨mq45 HK1 HK2 HK3⟩, ⟨mq5 HO_5⟩, ⟨mq28 BK177⟩, ⟨kW⟩⟩
       ·rw [if_neg c39] at H
        have c39b0 : decide (x102_2 < (t195.length : Int)) = false := decide_eq_false c39
        clear c39
        obtain rfl := Option.some.inj H
        go_wp2
        repeat (go_quiet (fail); try go_wp2)
        go_ret
        exact ⟨mq37, kW⟩
end Go.Proofs.YtkobpbbegalfpaaGreatDoor.PParseBodies
