/- Printed texts of this seat, cut to what is used. -/
import Derived.Test.YtkobpbbegalfpaaGreatDoorPsBase
namespace Go.Proofs.YtkobpbbegalfpaaGreatDoor.PParseBodies
open Go.RowKit YtkobpbbegalfpaaGreatDoorW.PrintWords YtkobpbbegalfpaaGreatDoorW.PrintLast YtkobpbbegalfpaaGreatDoorW.PrintMore
attribute [local go_sem] max2_int min2_int max_two min_two max_three min_three max_four min_four
set_option linter.unusedVariables false
set_option linter.unusedSimpArgs false
def rect_may.f (a0_0 : Int) (a0_1 : Int) (a0_2 : Int) (a0_3 : Int) : Option (Bool) := if a0_0 ≥ 0 then (if a0_2 ≥ 1 then (if a0_2 ≤ 10000 then (if a0_0 ≤ (wrap64 (10000 - a0_2)) then (if a0_1 ≥ 0 then (if a0_3 ≥ 1 then (if a0_3 ≤ 10000 then (some (decide (a0_1 ≤ (wrap64 (10000 - a0_3))))) else (some false)) else (some false)) else (some false)) else (some false)) else (some false)) else (some false)) else (some false)
set_option maxHeartbeats 8000000 in
set_option maxRecDepth 100000 in
theorem rect_may.calls (a0_0 : Int) (a0_1 : Int) (a0_2 : Int) (a0_3 : Int) (r : Bool) (w : World) (h : rect_may.f a0_0 a0_1 a0_2 a0_3 = some r) :
  Calls Tryz.prog 117 #[.agg #[.int .i64 a0_0, .int .i64 a0_1, .int .i64 a0_2, .int .i64 a0_3]] w fun e w' => e = .returned (.bool r) ∧ Below w.heap.size w w' := by
 have hu24 := Tryz.underlying24
 have HB := ak (Below.refl w.heap.size w)
 have H : (if a0_0 ≥ 0 then (if a0_2 ≥ 1 then (if a0_2 ≤ 10000 then (if a0_0 ≤ (wrap64 (10000 - a0_2)) then (if a0_1 ≥ 0 then (if a0_3 ≥ 1 then (if a0_3 ≤ 10000 then (some (decide (a0_1 ≤ (wrap64 (10000 - a0_3))))) else (some false)) else (some false)) else (some false)) else (some false)) else (some false)) else (some false)) else (some false)) = some r := h
 clear h
 by_cases c2 : a0_0 ≥ 0
 ·rw [if_pos c2] at H
  have c2b0 : decide (0 ≤ a0_0) = true := decide_eq_true c2
  clear c2
  by_cases c3 : a0_2 ≥ 1
  ·rw [if_pos c3] at H
   have c3b0 : decide (1 ≤ a0_2) = true := decide_eq_true c3
   clear c3
   by_cases c4 : a0_2 ≤ 10000
   ·rw [if_pos c4] at H
    have c4b0 : decide (a0_2 ≤ 10000) = true := decide_eq_true c4
    clear c4
    by_cases c5 : a0_0 ≤ (wrap64 (10000 - a0_2))
    ·rw [if_pos c5] at H
     have c5b0 : decide (a0_0 ≤ (wrap64 (10000 - a0_2))) = true := decide_eq_true c5
     clear c5
     by_cases c6 : a0_1 ≥ 0
     ·rw [if_pos c6] at H
      have c6b0 : decide (0 ≤ a0_1) = true := decide_eq_true c6
      clear c6
      by_cases c7 : a0_3 ≥ 1
      ·rw [if_pos c7] at H
       have c7b0 : decide (1 ≤ a0_3) = true := decide_eq_true c7
       clear c7
       by_cases c8 : a0_3 ≤ 10000
       ·rw [if_pos c8] at H
        have c8b0 : decide (a0_3 ≤ 10000) = true := decide_eq_true c8
        clear c8
        obtain rfl := Option.some.inj H
        go_enter Tryz.func117, Tryz.ntmps117
        go_wp2_with (first | ((with_reducible refine gate_dst (N := 1) rfl ?_); refine bxe 1 #[.int .i64 a0_0, .int .i64 a0_1, .int .i64 a0_2, .int .i64 a0_3] 24 (h := ?_); intro gb101 hg w9 hbox hb; have BK101 := ak (hbox); have GW101 := ak ((mq53 : w.heap.size ≤ gb101)); have GE101 := ak ((mq53 : w.heap.size ≤ gb101)); replace HB := ak (below_step kW hb); clear hb hbox hg; obtain ⟨hcz10_0, hcz10_1, hcz10_2, hcz10_3⟩ := cz4 BK101; obtain ⟨hfz10_0, hfz10_1, hfz10_2, hfz10_3⟩ := fz4 BK101))
        go_ret
        exact ⟨mq37, kW⟩
       ·rw [if_neg c8] at H
        have c8b0 : decide (a0_3 ≤ 10000) = false := decide_eq_false c8
        clear c8
        obtain rfl := Option.some.inj H
        go_enter Tryz.func117, Tryz.ntmps117
        go_wp2_with (first | ((with_reducible refine gate_dst (N := 1) rfl ?_); refine bxe 1 #[.int .i64 a0_0, .int .i64 a0_1, .int .i64 a0_2, .int .i64 a0_3] 24 (h := ?_); intro gb101 hg w11 hbox hb; have BK101 := ak (hbox); have GW101 := ak ((mq53 : w.heap.size ≤ gb101)); have GE101 := ak ((mq53 : w.heap.size ≤ gb101)); replace HB := ak (below_step kW hb); clear hb hbox hg; obtain ⟨hcz12_0, hcz12_1, hcz12_2, hcz12_3⟩ := cz4 BK101; obtain ⟨hfz12_0, hfz12_1, hfz12_2, hfz12_3⟩ := fz4 BK101))
        go_ret
        exact ⟨mq37, kW⟩
      ·rw [if_neg c7] at H
       have c7b0 : decide (1 ≤ a0_3) = false := decide_eq_false c7
       clear c7
       obtain rfl := Option.some.inj H
       go_enter Tryz.func117, Tryz.ntmps117
       go_wp2_with (first | ((with_reducible refine gate_dst (N := 1) rfl ?_); refine bxe 1 #[.int .i64 a0_0, .int .i64 a0_1, .int .i64 a0_2, .int .i64 a0_3] 24 (h := ?_); intro gb101 hg w13 hbox hb; have BK101 := ak (hbox); have GW101 := ak ((mq53 : w.heap.size ≤ gb101)); have GE101 := ak ((mq53 : w.heap.size ≤ gb101)); replace HB := ak (below_step kW hb); clear hb hbox hg; obtain ⟨hcz14_0, hcz14_1, hcz14_2, hcz14_3⟩ := cz4 BK101; obtain ⟨hfz14_0, hfz14_1, hfz14_2, hfz14_3⟩ := fz4 BK101))
       go_ret
       exact ⟨mq37, kW⟩
     ·rw [if_neg c6] at H
      have c6b0 : decide (0 ≤ a0_1) = false := decide_eq_false c6
      clear c6
      obtain rfl := Option.some.inj H
      go_enter Tryz.func117, Tryz.ntmps117
      go_wp2_with (first | ((with_reducible refine gate_dst (N := 1) rfl ?_); refine bxe 1 #[.int .i64 a0_0, .int .i64 a0_1, .int .i64 a0_2, .int .i64 a0_3] 24 (h := ?_); intro gb101 hg w15 hbox hb; have BK101 := ak (hbox); have GW101 := ak ((mq53 : w.heap.size ≤ gb101)); have GE101 := ak ((mq53 : w.heap.size ≤ gb101)); replace HB := ak (below_step kW hb); clear hb hbox hg; obtain ⟨hcz16_0, hcz16_1, hcz16_2, hcz16_3⟩ := cz4 BK101; obtain ⟨hfz16_0, hfz16_1, hfz16_2, hfz16_3⟩ := fz4 BK101))
      go_ret
      exact ⟨mq37, kW⟩
    ·rw [if_neg c5] at H
     have c5b0 : decide (a0_0 ≤ (wrap64 (10000 - a0_2))) = false := decide_eq_false c5
     clear c5
     obtain rfl := Option.some.inj H
     go_enter Tryz.func117, Tryz.ntmps117
     go_wp2_with (first | ((with_reducible refine gate_dst (N := 1) rfl ?_); refine bxe 1 #[.int .i64 a0_0, .int .i64 a0_1, .int .i64 a0_2, .int .i64 a0_3] 24 (h := ?_); intro gb101 hg w17 hbox hb; have BK101 := ak (hbox); have GW101 := ak ((mq53 : w.heap.size ≤ gb101)); have GE101 := ak ((mq53 : w.heap.size ≤ gb101)); replace HB := ak (below_step kW hb); clear hb hbox hg; obtain ⟨hcz18_0, hcz18_1, hcz18_2, hcz18_3⟩ := cz4 BK101; obtain ⟨hfz18_0, hfz18_1, hfz18_2, hfz18_3⟩ := fz4 BK101))
     go_ret
     exact ⟨mq37, kW⟩
   ·rw [if_neg c4] at H
    have c4b0 : decide (a0_2 ≤ 10000) = false := decide_eq_false c4
    clear c4
    obtain rfl := Option.some.inj H
    go_enter Tryz.func117, Tryz.ntmps117
    go_wp2_with (first | ((with_reducible refine gate_dst (N := 1) rfl ?_); refine bxe 1 #[.int .i64 a0_0, .int .i64 a0_1, .int .i64 a0_2, .int .i64 a0_3] 24 (h := ?_); intro gb101 hg w19 hbox hb; have BK101 := ak (hbox); have GW101 := ak ((mq53 : w.heap.size ≤ gb101)); have GE101 := ak ((mq53 : w.heap.size ≤ gb101)); replace HB := ak (below_step kW hb); clear hb hbox hg; obtain ⟨hcz20_0, hcz20_1, hcz20_2, hcz20_3⟩ := cz4 BK101; obtain ⟨hfz20_0, hfz20_1, hfz20_2, hfz20_3⟩ := fz4 BK101))
    go_ret
    exact ⟨mq37, kW⟩
  ·rw [if_neg c3] at H
   have c3b0 : decide (1 ≤ a0_2) = false := decide_eq_false c3
   clear c3
   obtain rfl := Option.some.inj H
   go_enter Tryz.func117, Tryz.ntmps117
   go_wp2_with (first | ((with_reducible refine gate_dst (N := 1) rfl ?_); refine bxe 1 #[.int .i64 a0_0, .int .i64 a0_1, .int .i64 a0_2, .int .i64 a0_3] 24 (h := ?_); intro gb101 hg w21 hbox hb; have BK101 := ak (hbox); have GW101 := ak ((mq53 : w.heap.size ≤ gb101)); have GE101 := ak ((mq53 : w.heap.size ≤ gb101)); replace HB := ak (below_step kW hb); clear hb hbox hg; obtain ⟨hcz22_0, hcz22_1, hcz22_2, hcz22_3⟩ := cz4 BK101; obtain ⟨hfz22_0, hfz22_1, hfz22_2, hfz22_3⟩ := fz4 BK101))
   go_ret
   exact ⟨mq37, kW⟩
 ·rw [if_neg c2] at H
  have c2b0 : decide (0 ≤ a0_0) = false := decide_eq_false c2
  clear c2
  obtain rfl := Option.some.inj H
  go_enter Tryz.func117, Tryz.ntmps117
  go_wp2_with (first | ((with_reducible refine gate_dst (N := 1) rfl ?_); refine bxe 1 #[.int .i64 a0_0, .int .i64 a0_1, .int .i64 a0_2, .int .i64 a0_3] 24 (h := ?_); intro gb101 hg w23 hbox hb; have BK101 := ak (hbox); have GW101 := ak ((mq53 : w.heap.size ≤ gb101)); have GE101 := ak ((mq53 : w.heap.size ≤ gb101)); replace HB := ak (below_step kW hb); clear hb hbox hg; obtain ⟨hcz24_0, hcz24_1, hcz24_2, hcz24_3⟩ := cz4 BK101; obtain ⟨hfz24_0, hfz24_1, hfz24_2, hfz24_3⟩ := fz4 BK101))
  go_ret
  exact ⟨mq37, kW⟩
def rect_turned.f (a0_0 : Int) (a0_1 : Int) (a0_2 : Int) (a0_3 : Int) (a1 : Int) : Option (Int × Int × Int × Int × Bool) := if a1 = 2 then (some (a0_1, a0_0, a0_3, a0_2, true)) else (if a1 = 1 then (some (a0_0, a0_1, a0_2, a0_3, true)) else (some (0, 0, 0, 0, false)))
set_option maxHeartbeats 8000000 in
set_option maxRecDepth 100000 in
theorem rect_turned.calls (a0_0 : Int) (a0_1 : Int) (a0_2 : Int) (a0_3 : Int) (a1 : Int) (r1 : Int) (r2 : Int) (r3 : Int) (r4 : Int) (r5 : Bool) (w : World) (h : rect_turned.f a0_0 a0_1 a0_2 a0_3 a1 = some (r1, r2, r3, r4, r5)) :
  Calls Tryz.prog 153 #[.agg #[.int .i64 a0_0, .int .i64 a0_1, .int .i64 a0_2, .int .i64 a0_3], .int .u8 a1] w fun e w' => e = .returned (.tuple #[.agg #[.int .i64 r1, .int .i64 r2, .int .i64 r3, .int .i64 r4], .bool r5]) ∧ Below w.heap.size w w' := by
 have hu24 := Tryz.underlying24
 have HB := ak (Below.refl w.heap.size w)
 have H : (if a1 = 2 then (some (a0_1, a0_0, a0_3, a0_2, true)) else (if a1 = 1 then (some (a0_0, a0_1, a0_2, a0_3, true)) else (some (0, 0, 0, 0, false)))) = some (r1, r2, r3, r4, r5) := h
 clear h
 by_cases c3 : a1 = 2
 ·rw [if_pos c3] at H
  have c3b0 : (a1 == 2) = true := beq_iff_eq.mpr c3
  have c3b1 : (a1 != 2) = false := bne_eq_false_iff_eq.mpr c3
  clear c3
  simp only [Option.some.injEq, Prod.mk.injEq] at H
  obtain ⟨rfl, rfl, rfl, rfl, rfl⟩ := H
  go_enter Tryz.func153, Tryz.ntmps153
  go_wp2_with (first | ((with_reducible refine gate_dst (N := 2) rfl ?_); refine bxe 2 #[.int .i64 a0_0, .int .i64 a0_1, .int .i64 a0_2, .int .i64 a0_3] 24 (h := ?_); intro gb102 hg w4 hbox hb; have BK102 := ak (hbox); have GW102 := ak ((mq53 : w.heap.size ≤ gb102)); have GE102 := ak ((mq53 : w.heap.size ≤ gb102)); replace HB := ak (below_step kW hb); clear hb hbox hg) | ((with_reducible refine gate_dst (N := 4) rfl ?_); refine bxe 4 #[.int .i64 0, .int .i64 0, .int .i64 0, .int .i64 0] 24 (h := ?_); intro gb103 hg w5 hbox hb; have BK103 := ak (hbox); have GW103 := ak ((mq53 : w.heap.size ≤ gb103)); have GE103 := ak ((mq53 : w.heap.size ≤ gb103)); replace HB := ak (below_step kW hb); have NB102_103 := kE BK102 hg; have NB103_102 := kE' BK102 hg; replace BK102 := (kB BK102 hb); clear hb hbox hg; have hnb6 := NB102_103.out; have hnc6 := NB103_102.out; obtain ⟨hcz7_0, hcz7_1, hcz7_2, hcz7_3⟩ := cz4 BK102; obtain ⟨hfz7_0, hfz7_1, hfz7_2, hfz7_3⟩ := fz4 BK102; obtain ⟨hcz8_0, hcz8_1, hcz8_2, hcz8_3⟩ := cz4 BK103; obtain ⟨hfz8_0, hfz8_1, hfz8_2, hfz8_3⟩ := fz4 BK103))
  refine bodyPost_ret (results_ct rfl _ _ gb103 24 #[.int .i64 a0_1, .int .i64 a0_0, .int .i64 a0_3, .int .i64 a0_2] (0, 0) _ rfl (by (with_reducible repeat (first | refine blk_drewN ?_ _ | refine blk_drew ?_ | refine blk_alloc ?_ _)); refine blk_put (cs := #[.int .i64 a0_1, .int .i64 a0_0, .int .i64 a0_3, .int .i64 a0_2]) ?_ 3 _ rfl; (with_reducible repeat (first | refine blk_drewN ?_ _ | refine blk_drew ?_ | refine blk_alloc ?_ _)); refine blk_put (cs := #[.int .i64 a0_1, .int .i64 a0_0, .int .i64 a0_3, .int .i64 a0_2]) ?_ 2 _ rfl; (with_reducible repeat (first | refine blk_drewN ?_ _ | refine blk_drew ?_ | refine blk_alloc ?_ _)); refine blk_put (cs := #[.int .i64 a0_1, .int .i64 a0_0, .int .i64 a0_3, .int .i64 a0_2]) ?_ 1 _ rfl; (with_reducible repeat (first | refine blk_drewN ?_ _ | refine blk_drew ?_ | refine blk_alloc ?_ _)); refine blk_put (cs := #[.int .i64 a0_1, .int .i64 a0_0, .int .i64 a0_3, .int .i64 a0_2]) ?_ 0 _ rfl; (with_reducible repeat (first | refine blk_drewN ?_ _ | refine blk_drew ?_ | refine blk_alloc ?_ _)); refine blk_put (cs := #[.int .i64 a0_1, .int .i64 a0_0, .int .i64 a0_3, .int .i64 0]) ?_ 3 _ rfl; (with_reducible repeat (first | refine blk_drewN ?_ _ | refine blk_drew ?_ | refine blk_alloc ?_ _)); refine blk_put (cs := #[.int .i64 a0_1, .int .i64 a0_0, .int .i64 0, .int .i64 0]) ?_ 2 _ rfl; (with_reducible repeat (first | refine blk_drewN ?_ _ | refine blk_drew ?_ | refine blk_alloc ?_ _)); refine blk_put (cs := #[.int .i64 a0_1, .int .i64 0, .int .i64 0, .int .i64 0]) ?_ 1 _ rfl; (with_reducible repeat (first | refine blk_drewN ?_ _ | refine blk_drew ?_ | refine blk_alloc ?_ _)); refine blk_put (cs := #[.int .i64 0, .int .i64 0, .int .i64 0, .int .i64 0]) ?_ 0 _ rfl; (with_reducible repeat (first | refine blk_drewN ?_ _ | refine blk_drew ?_ | refine blk_alloc ?_ _)); refine blk_far ?_ NB103_102.out _; (with_reducible repeat (first | refine blk_drewN ?_ _ | refine blk_drew ?_ | refine blk_alloc ?_ _)); refine blk_far ?_ NB103_102.out _; (with_reducible repeat (first | refine blk_drewN ?_ _ | refine blk_drew ?_ | refine blk_alloc ?_ _)); refine blk_far ?_ NB103_102.out _; (with_reducible repeat (first | refine blk_drewN ?_ _ | refine blk_drew ?_ | refine blk_alloc ?_ _)); refine blk_far ?_ NB103_102.out _; (with_reducible repeat (first | refine blk_drewN ?_ _ | refine blk_drew ?_ | refine blk_alloc ?_ _)); exact BK103.out) Tryz.underlying24 rfl (by kernel_rfl)) rfl ?_
  exact ⟨mq37, kW⟩
 ·rw [if_neg c3] at H
  have c3b0 : (a1 == 2) = false := beq_eq_false_iff_ne.mpr c3
  have c3b1 : (a1 != 2) = true := bne_iff_ne.mpr c3
  by_cases c9 : a1 = 1
  ·rw [if_pos c9] at H
   have c9b0 : (a1 == 1) = true := beq_iff_eq.mpr c9
   have c9b1 : (a1 != 1) = false := bne_eq_false_iff_eq.mpr c9
   clear c9
   simp only [Option.some.injEq, Prod.mk.injEq] at H
   obtain ⟨rfl, rfl, rfl, rfl, rfl⟩ := H
   go_enter Tryz.func153, Tryz.ntmps153
   go_wp2_with (first | ((with_reducible refine gate_dst (N := 2) rfl ?_); refine bxe 2 #[.int .i64 a0_0, .int .i64 a0_1, .int .i64 a0_2, .int .i64 a0_3] 24 (h := ?_); intro gb102 hg w10 hbox hb; have BK102 := ak (hbox); have GW102 := ak ((mq53 : w.heap.size ≤ gb102)); have GE102 := ak ((mq53 : w.heap.size ≤ gb102)); replace HB := ak (below_step kW hb); clear hb hbox hg) | ((with_reducible refine gate_dst (N := 4) rfl ?_); refine bxe 4 #[.int .i64 0, .int .i64 0, .int .i64 0, .int .i64 0] 24 (h := ?_); intro gb103 hg w11 hbox hb; have BK103 := ak (hbox); have GW103 := ak ((mq53 : w.heap.size ≤ gb103)); have GE103 := ak ((mq53 : w.heap.size ≤ gb103)); replace HB := ak (below_step kW hb); have NB102_103 := kE BK102 hg; have NB103_102 := kE' BK102 hg; replace BK102 := (kB BK102 hb); clear hb hbox hg; have hnb12 := NB102_103.out; have hnc12 := NB103_102.out; obtain ⟨hcz13_0, hcz13_1, hcz13_2, hcz13_3⟩ := cz4 BK102; obtain ⟨hfz13_0, hfz13_1, hfz13_2, hfz13_3⟩ := fz4 BK102; obtain ⟨hcz14_0, hcz14_1, hcz14_2, hcz14_3⟩ := cz4 BK103; obtain ⟨hfz14_0, hfz14_1, hfz14_2, hfz14_3⟩ := fz4 BK103))
   refine bodyPost_ret (results_ct rfl _ _ gb103 24 #[.int .i64 a0_0, .int .i64 a0_1, .int .i64 a0_2, .int .i64 a0_3] (0, 0) _ rfl (by (with_reducible repeat (first | refine blk_drewN ?_ _ | refine blk_drew ?_ | refine blk_alloc ?_ _)); refine blk_put (cs := #[.int .i64 a0_0, .int .i64 a0_1, .int .i64 a0_2, .int .i64 a0_3]) ?_ 3 _ rfl; (with_reducible repeat (first | refine blk_drewN ?_ _ | refine blk_drew ?_ | refine blk_alloc ?_ _)); refine blk_put (cs := #[.int .i64 a0_0, .int .i64 a0_1, .int .i64 a0_2, .int .i64 a0_3]) ?_ 2 _ rfl; (with_reducible repeat (first | refine blk_drewN ?_ _ | refine blk_drew ?_ | refine blk_alloc ?_ _)); refine blk_put (cs := #[.int .i64 a0_0, .int .i64 a0_1, .int .i64 a0_2, .int .i64 a0_3]) ?_ 1 _ rfl; (with_reducible repeat (first | refine blk_drewN ?_ _ | refine blk_drew ?_ | refine blk_alloc ?_ _)); refine blk_put (cs := #[.int .i64 a0_0, .int .i64 a0_1, .int .i64 a0_2, .int .i64 a0_3]) ?_ 0 _ rfl; (with_reducible repeat (first | refine blk_drewN ?_ _ | refine blk_drew ?_ | refine blk_alloc ?_ _)); refine blk_put (cs := #[.int .i64 a0_0, .int .i64 a0_1, .int .i64 a0_2, .int .i64 0]) ?_ 3 _ rfl; (with_reducible repeat (first | refine blk_drewN ?_ _ | refine blk_drew ?_ | refine blk_alloc ?_ _)); refine blk_put (cs := #[.int .i64 a0_0, .int .i64 a0_1, .int .i64 0, .int .i64 0]) ?_ 2 _ rfl; (with_reducible repeat (first | refine blk_drewN ?_ _ | refine blk_drew ?_ | refine blk_alloc ?_ _)); refine blk_put (cs := #[.int .i64 a0_0, .int .i64 0, .int .i64 0, .int .i64 0]) ?_ 1 _ rfl; (with_reducible repeat (first | refine blk_drewN ?_ _ | refine blk_drew ?_ | refine blk_alloc ?_ _)); refine blk_put (cs := #[.int .i64 0, .int .i64 0, .int .i64 0, .int .i64 0]) ?_ 0 _ rfl; (with_reducible repeat (first | refine blk_drewN ?_ _ | refine blk_drew ?_ | refine blk_alloc ?_ _)); exact BK103.out) Tryz.underlying24 rfl (by kernel_rfl)) rfl ?_
   exact ⟨mq37, kW⟩
  ·rw [if_neg c9] at H
   have c9b0 : (a1 == 1) = false := beq_eq_false_iff_ne.mpr c9
   have c9b1 : (a1 != 1) = true := bne_iff_ne.mpr c9
   simp only [Option.some.injEq, Prod.mk.injEq] at H
   obtain ⟨rfl, rfl, rfl, rfl, rfl⟩ := H
   go_enter Tryz.func153, Tryz.ntmps153
   go_wp2_with (first | ((with_reducible refine gate_dst (N := 2) rfl ?_); refine bxe 2 #[.int .i64 a0_0, .int .i64 a0_1, .int .i64 a0_2, .int .i64 a0_3] 24 (h := ?_); intro gb102 hg w15 hbox hb; have BK102 := ak (hbox); have GW102 := ak ((mq53 : w.heap.size ≤ gb102)); have GE102 := ak ((mq53 : w.heap.size ≤ gb102)); replace HB := ak (below_step kW hb); clear hb hbox hg) | ((with_reducible refine gate_dst (N := 4) rfl ?_); refine bxe 4 #[.int .i64 0, .int .i64 0, .int .i64 0, .int .i64 0] 24 (h := ?_); intro gb103 hg w16 hbox hb; have BK103 := ak (hbox); have GW103 := ak ((mq53 : w.heap.size ≤ gb103)); have GE103 := ak ((mq53 : w.heap.size ≤ gb103)); replace HB := ak (below_step kW hb); have NB102_103 := kE BK102 hg; have NB103_102 := kE' BK102 hg; replace BK102 := (kB BK102 hb); clear hb hbox hg; have hnb17 := NB103_102.out; have hnc17 := NB102_103.out; obtain ⟨hcz18_0, hcz18_1, hcz18_2, hcz18_3⟩ := cz4 BK103; obtain ⟨hfz18_0, hfz18_1, hfz18_2, hfz18_3⟩ := fz4 BK103))
   refine bodyPost_ret (results_ct rfl _ _ gb103 24 #[.int .i64 0, .int .i64 0, .int .i64 0, .int .i64 0] (0, 0) _ rfl (kP4 BK103) Tryz.underlying24 rfl (by kernel_rfl)) rfl ?_
   exact ⟨mq37, kW⟩
mutual
def rect_Cut.j0 : Nat → Int → List Int → Bool → Int → Int → Int → Int → Option ((List (S24)) × (List (S24)) × Bool)
 | 0, _, _, _, _, _, _, _ => none
 | k + 1, x1, x2, x37, x111000, x111001, x111002, x111003 => if x37 = true then (some (([] : List (S24)), ([] : List (S24)), false)) else (rect_Cut.l0 k x1 ([] : List (S24)) ([] : List (S24)) x111000 x2 (x2.length : Int) 0 x111000 x111001 x111002 x111003)
def rect_Cut.l0 : Nat → Int → List (S24) → List (S24) → Int → List Int → Int → Int → Int → Int → Int → Int → Option ((List (S24)) × (List (S24)) × Bool)
 | 0, _, _, _, _, _, _, _, _, _, _, _ => none
 | k + 1, x1, x11, x12, x13, x40, x41, x42, x111000, x111001, x111002, x111003 => if x42 < x41 then (if 0 ≤ x42 then (if x42 < (x40.length : Int) then (if x42 > 0 then ((rect_turned.f x13 x111001 1 x111003 x1).bind fun bt113 => (if x12.length < 4398046511104 then (if (rd x40 x42) < 1 then (some (([] : List (S24)), ([] : List (S24)), false)) else (if (rd x40 x42) > (wrap64 ((wrap64 (x111000 + x111002)) - (wrap64 (x13 + 1)))) then (some (([] : List (S24)), ([] : List (S24)), false)) else ((rect_turned.f (wrap64 (x13 + 1)) x111001 (rd x40 x42) x111003 x1).bind fun bt122 => (if x11.length < 4398046511104 then (rect_Cut.l0 k x1 (x11 ++ [(⟨bt122.1, bt122.2.1, bt122.2.2.1, bt122.2.2.2.1⟩ : S24)]) (x12 ++ [(⟨bt113.1, bt113.2.1, bt113.2.2.1, bt113.2.2.2.1⟩ : S24)]) (wrap64 ((wrap64 (x13 + 1)) + (rd x40 x42))) x40 x41 (wrap64 (x42 + 1)) x111000 x111001 x111002 x111003) else (none))))) else (none))) else (if (rd x40 x42) < 1 then (some (([] : List (S24)), ([] : List (S24)), false)) else (if (rd x40 x42) > (wrap64 ((wrap64 (x111000 + x111002)) - x13)) then (some (([] : List (S24)), ([] : List (S24)), false)) else ((rect_turned.f x13 x111001 (rd x40 x42) x111003 x1).bind fun bt131 => (if x11.length < 4398046511104 then (rect_Cut.l0 k x1 (x11 ++ [(⟨bt131.1, bt131.2.1, bt131.2.2.1, bt131.2.2.2.1⟩ : S24)]) x12 (wrap64 (x13 + (rd x40 x42))) x40 x41 (wrap64 (x42 + 1)) x111000 x111001 x111002 x111003) else (none)))))) else (none)) else (none)) else (if x13 = (wrap64 (x111000 + x111002)) then (some (x11, x12, true)) else (some (([] : List (S24)), ([] : List (S24)), false)))
end
def rect_Cut.f (k : Nat) (a0_0 : Int) (a0_1 : Int) (a0_2 : Int) (a0_3 : Int) (a1 : Int) (l2 : List Int) : Option ((List (S24)) × (List (S24)) × Bool) := (rect_turned.f a0_0 a0_1 a0_2 a0_3 a1).bind fun bt105 => (if bt105.2.2.2.2 = true then ((rect_may.f a0_0 a0_1 a0_2 a0_3).bind fun t111 => (if t111 = true then (rect_Cut.j0 k a1 l2 ((l2.length : Int) == 0) bt105.1 bt105.2.1 bt105.2.2.1 bt105.2.2.2.1) else (rect_Cut.j0 k a1 l2 true bt105.1 bt105.2.1 bt105.2.2.1 bt105.2.2.2.1))) else (rect_Cut.j0 k a1 l2 true bt105.1 bt105.2.1 bt105.2.2.1 bt105.2.2.2.1))
set_option maxHeartbeats 8000000 in
set_option maxRecDepth 100000 in
theorem rect_Cut.calls (k : Nat) (a0_0 : Int) (a0_1 : Int) (a0_2 : Int) (a0_3 : Int) (a1 : Int) (A2 : Option Addr) (c2 : Nat) (l2 : List Int) (r1 : List (S24)) (r2 : List (S24)) (r3 : Bool) (w : World) (hr2 : Kd.C (Kd.int .i64) w A2 l2.length l2) (hc2 : l2.length ≤ c2) (h : rect_Cut.f k a0_0 a0_1 a0_2 a0_3 a1 l2 = some (r1, r2, r3)) :
  Calls Tryz.prog 149 #[.agg #[.int .i64 a0_0, .int .i64 a0_1, .int .i64 a0_2, .int .i64 a0_3], .int .u8 a1, .slice A2 l2.length c2] w fun e w' => ∃ v0_ v1_ : Value, e = .returned (.tuple #[v0_, v1_, .bool r3]) ∧ Kd.R k24 24 w' w.heap.size (fun k_ => some k_ ≠ (v1_ : Value).ownBlock) v0_ r1 ∧ Kd.R k24 24 w' w.heap.size (fun k_ => some k_ ≠ (v0_ : Value).ownBlock) v1_ r2 ∧ Below w.heap.size w w' := by
 have hu24 := Tryz.underlying24
 have HR2 := ak hr2
 have HC2 := ak hc2
 clear hr2 hc2
 have HB := ak (Below.refl w.heap.size w)
 have H : ((rect_turned.f a0_0 a0_1 a0_2 a0_3 a1).bind fun bt105 => (if bt105.2.2.2.2 = true then ((rect_may.f a0_0 a0_1 a0_2 a0_3).bind fun t111 => (if t111 = true then (rect_Cut.j0 k a1 l2 ((l2.length : Int) == 0) bt105.1 bt105.2.1 bt105.2.2.1 bt105.2.2.2.1) else (rect_Cut.j0 k a1 l2 true bt105.1 bt105.2.1 bt105.2.2.1 bt105.2.2.2.1))) else (rect_Cut.j0 k a1 l2 true bt105.1 bt105.2.1 bt105.2.2.1 bt105.2.2.2.1))) = some (r1, r2, r3) := h
 clear h
 replace H := Option.bind_eq_some_iff.mp H
 obtain ⟨⟨t105, t106, t107, t108, t109⟩, A40, H⟩ := H
 replace H : (if t109 = true then ((rect_may.f a0_0 a0_1 a0_2 a0_3).bind fun t111 => (if t111 = true then (rect_Cut.j0 k a1 l2 ((l2.length : Int) == 0) t105 t106 t107 t108) else (rect_Cut.j0 k a1 l2 true t105 t106 t107 t108))) else (rect_Cut.j0 k a1 l2 true t105 t106 t107 t108)) = some (r1, r2, r3) := H
 have A4 := ak A40
 clear A40
 have HC5 := ak H
 clear H
 go_enter Tryz.func149, Tryz.ntmps149
 go_upto_region 2 with (first | ((with_reducible refine gate_dst (N := 3) rfl ?_); (try (refine gate_guard (by rfl) ?_; dsimp only)); refine bxe 3 #[.int .i64 a0_0, .int .i64 a0_1, .int .i64 a0_2, .int .i64 a0_3] 24 (h := ?_); intro gb104 hg w6 hbox hb; have BK104 := ak (hbox); have GW104 := ak ((mq53 : w.heap.size ≤ gb104)); have GE104 := ak ((mq53 : w.heap.size ≤ gb104)); replace HB := ak (below_step kW hb); clear hb hbox hg; obtain ⟨hcz7_0, hcz7_1, hcz7_2, hcz7_3⟩ := cz4 BK104; obtain ⟨hfz7_0, hfz7_1, hfz7_2, hfz7_3⟩ := fz4 BK104) | ((with_reducible refine gate_callee (f := 153) rfl ?_); refine gol (some 23) Tryz.func153 #[.agg #[.int .i64 a0_0, .int .i64 a0_1, .int .i64 a0_2, .int .i64 a0_3], .int .u8 a1] (h := ?_); (with_reducible refine (rect_turned.calls a0_0 a0_1 a0_2 a0_3 a1 t105 t106 t107 t108 t109 _ A4.out).mono ?_); rintro e w8 ⟨rfl, hb⟩; refine ⟨_, rfl, ?_⟩; replace BK104 := (kB BK104 hb); replace HB := ak (below_step kW hb); (try clear hb); (try clear hb2); (try clear hk); (try clear hi)) | ((with_reducible refine gate_dst (N := 9) rfl ?_); (try (refine gate_guard (by rfl) ?_; dsimp only)); refine bxe 9 #[.int .i64 0, .int .i64 0, .int .i64 0, .int .i64 0] 24 (h := ?_); intro gb110 hg w9 hbox hb; have BK110 := ak (hbox); have GW110 := ak ((mq53 : w.heap.size ≤ gb110)); have GE110 := ak ((mq53 : w.heap.size ≤ gb110)); replace HB := ak (below_step kW hb); have NB104_110 := kE BK104 hg; have NB110_104 := kE' BK104 hg; replace BK104 := (kB BK104 hb); clear hb hbox hg; have hnb10 := NB110_104.out; have hnc10 := NB104_110.out; obtain ⟨hcz11_0, hcz11_1, hcz11_2, hcz11_3⟩ := cz4 BK110; obtain ⟨hfz11_0, hfz11_1, hfz11_2, hfz11_3⟩ := fz4 BK110))
 (try simp only [Act.put, List.setIfInBounds_toArray, List.set_cons_zero, List.set_cons_succ])
 go_cut [37] (fun v37 wc => ∃ (kq : Nat) (x37_4 : Bool), v37 = .bool x37_4 ∧ Aside0 (rect_Cut.j0 kq a1 l2 x37_4 t105 t106 t107 t108 = some (r1, r2, r3)) ∧ Aside0 (kq ≤ k) ∧ Aside0 (wc.heap[gb104]? = some (.cells #[.int .i64 a0_0, .int .i64 a0_1, .int .i64 a0_2, .int .i64 a0_3] 24 (0, 0))) ∧ Aside0 (wc.heap[gb110]? = some (.cells #[.int .i64 t105, .int .i64 t106, .int .i64 t107, .int .i64 t108] 24 (0, 0))) ∧ Aside0 (Below w.heap.size w wc))
 case first =>
  have H := HC5.out
  clear HC5
  by_cases c12 : t109 = true
  ·subst c12
   have H1 : ((rect_may.f a0_0 a0_1 a0_2 a0_3).bind fun t111 => (if t111 = true then (rect_Cut.j0 k a1 l2 ((l2.length : Int) == 0) t105 t106 t107 t108) else (rect_Cut.j0 k a1 l2 true t105 t106 t107 t108))) = some (r1, r2, r3) := mq55
   clear H
   have H := H1
   clear H1
   replace H := Option.bind_eq_some_iff.mp H
   obtain ⟨t111, A130, H⟩ := H
   replace H : (if t111 = true then (rect_Cut.j0 k a1 l2 ((l2.length : Int) == 0) t105 t106 t107 t108) else (rect_Cut.j0 k a1 l2 true t105 t106 t107 t108)) = some (r1, r2, r3) := H
   have A13 := ak A130
   clear A130
   by_cases c14 : t111 = true
   ·subst c14
    have H1 : (rect_Cut.j0 k a1 l2 ((l2.length : Int) == 0) t105 t106 t107 t108) = some (r1, r2, r3) := mq55
    clear H
    have H := H1
    clear H1
    have H' := ak H
    clear H
    have hnb15 := NB104_110.out
    have hnc15 := NB110_104.out
    obtain ⟨hcz16_0, hcz16_1, hcz16_2, hcz16_3⟩ := cz4 BK104
    obtain ⟨hfz16_0, hfz16_1, hfz16_2, hfz16_3⟩ := fz4 BK104
    go_wp2_with (first | (go_at_call 117; (with_reducible refine (rect_may.calls a0_0 a0_1 a0_2 a0_3 true _ A13.out).mono ?_); rintro e w17 ⟨rfl, hb⟩; replace BK104 := ak (blk_below (g := gb104) (o := .cells #[.int .i64 a0_0, .int .i64 a0_1, .int .i64 a0_2, .int .i64 a0_3] 24 (0, 0)) (kC NB104_110 BK104) hb); replace BK110 := ak (blk_below (g := gb110) (o := .cells #[.int .i64 t105, .int .i64 t106, .int .i64 t107, .int .i64 t108] 24 (0, 0)) (kP4 BK110) hb); replace HB := ak (below_step kW hb); (try clear hb); (try clear hb2); (try clear hk); (try clear hi)))
    go_meet
    case rel => exact ⟨_, (((l2.length : Int) == 0)), mq39, H', ⟨mq36⟩, ⟨mq28 BK104⟩, ⟨mq28 BK110⟩, ⟨kW⟩⟩
   ·replace c14 := Bool.eq_false_iff.mpr c14
    subst c14
    have H1 : (rect_Cut.j0 k a1 l2 true t105 t106 t107 t108) = some (r1, r2, r3) := mq54
    clear H
    have H := H1
    clear H1
    have H' := ak H
    clear H
    have hnb18 := NB104_110.out
    have hnc18 := NB110_104.out
    obtain ⟨hcz19_0, hcz19_1, hcz19_2, hcz19_3⟩ := cz4 BK104
    obtain ⟨hfz19_0, hfz19_1, hfz19_2, hfz19_3⟩ := fz4 BK104
    go_wp2_with (first | (go_at_call 117; (with_reducible refine (rect_may.calls a0_0 a0_1 a0_2 a0_3 false _ A13.out).mono ?_); rintro e w20 ⟨rfl, hb⟩; replace BK104 := ak (blk_below (g := gb104) (o := .cells #[.int .i64 a0_0, .int .i64 a0_1, .int .i64 a0_2, .int .i64 a0_3] 24 (0, 0)) (kC NB104_110 BK104) hb); replace BK110 := ak (blk_below (g := gb110) (o := .cells #[.int .i64 t105, .int .i64 t106, .int .i64 t107, .int .i64 t108] 24 (0, 0)) (kP4 BK110) hb); replace HB := ak (below_step kW hb); (try clear hb); (try clear hb2); (try clear hk); (try clear hi)))
    go_meet
    case rel => exact ⟨_, (true), mq39, H', ⟨mq36⟩, ⟨mq28 BK104⟩, ⟨mq28 BK110⟩, ⟨kW⟩⟩
  ·replace c12 := Bool.eq_false_iff.mpr c12
   subst c12
   have H1 : (rect_Cut.j0 k a1 l2 true t105 t106 t107 t108) = some (r1, r2, r3) := mq54
   clear H
   have H := H1
   clear H1
   have H' := ak H
   clear H
   go_wp2
   go_meet
   case rel => exact ⟨_, (true), mq39, H', ⟨mq36⟩, ⟨by (with_reducible repeat (first | refine blk_drewN ?_ _ | refine blk_drew ?_ | refine blk_alloc ?_ _)); refine blk_far ?_ NB104_110.out _; (with_reducible repeat (first | refine blk_drewN ?_ _ | refine blk_drew ?_ | refine blk_alloc ?_ _)); refine blk_far ?_ NB104_110.out _; (with_reducible repeat (first | refine blk_drewN ?_ _ | refine blk_drew ?_ | refine blk_alloc ?_ _)); refine blk_far ?_ NB104_110.out _; (with_reducible repeat (first | refine blk_drewN ?_ _ | refine blk_drew ?_ | refine blk_alloc ?_ _)); refine blk_far ?_ NB104_110.out _; (with_reducible repeat (first | refine blk_drewN ?_ _ | refine blk_drew ?_ | refine blk_alloc ?_ _)); exact BK104.out⟩, ⟨by (with_reducible repeat (first | refine blk_drewN ?_ _ | refine blk_drew ?_ | refine blk_alloc ?_ _)); refine blk_put (cs := #[.int .i64 t105, .int .i64 t106, .int .i64 t107, .int .i64 0]) ?_ 3 _ rfl; (with_reducible repeat (first | refine blk_drewN ?_ _ | refine blk_drew ?_ | refine blk_alloc ?_ _)); refine blk_put (cs := #[.int .i64 t105, .int .i64 t106, .int .i64 0, .int .i64 0]) ?_ 2 _ rfl; (with_reducible repeat (first | refine blk_drewN ?_ _ | refine blk_drew ?_ | refine blk_alloc ?_ _)); refine blk_put (cs := #[.int .i64 t105, .int .i64 0, .int .i64 0, .int .i64 0]) ?_ 1 _ rfl; (with_reducible repeat (first | refine blk_drewN ?_ _ | refine blk_drew ?_ | refine blk_alloc ?_ _)); refine blk_put (cs := #[.int .i64 0, .int .i64 0, .int .i64 0, .int .i64 0]) ?_ 0 _ rfl; (with_reducible repeat (first | refine blk_drewN ?_ _ | refine blk_drew ?_ | refine blk_alloc ?_ _)); exact BK110.out⟩, ⟨kW⟩⟩
 case rest =>
  clear HC5
  clear hcz11_0 hcz11_1 hcz11_2 hcz11_3 hcz7_0 hcz7_1 hcz7_2 hcz7_3 hfz11_0 hfz11_1 hfz11_2 hfz11_3 hfz7_0 hfz7_1 hfz7_2 hfz7_3
  obtain ⟨kq, x37_4, rfl, HA, HJ4, BK104, BK110, HB⟩ := hcut
  cases kq with
  | zero => exact absurd HA.out (by simp [rect_Cut.j0])
  | succ kj4 =>
   have H := HA.out
   clear HA
   simp only [rect_Cut.j0] at H
   by_cases c21 : x37_4 = true
   ·subst c21
    have H1 : (some (([] : List (S24)), ([] : List (S24)), false)) = some (r1, r2, r3) := mq55
    clear H
    have H := H1
    clear H1
    simp only [Option.some.injEq, Prod.mk.injEq] at H
    obtain ⟨rfl, rfl, rfl⟩ := H
    go_wp2
    go_ret3
    exact ⟨_, _, mq37, mq35, mq35, kW⟩
   ·replace c21 := Bool.eq_false_iff.mpr c21
    subst c21
    have H1 : (rect_Cut.l0 kj4 a1 ([] : List (S24)) ([] : List (S24)) t105 l2 (l2.length : Int) 0 t105 t106 t107 t108) = some (r1, r2, r3) := mq54
    clear H
    have H := H1
    clear H1
    have H' := ak H
    clear H
    have hnb22 := NB110_104.out
    have hnc22 := NB104_110.out
    obtain ⟨hcz23_0, hcz23_1, hcz23_2, hcz23_3⟩ := cz4 BK110
    obtain ⟨hfz23_0, hfz23_1, hfz23_2, hfz23_3⟩ := fz4 BK110
    go_wp2
    go_loopg [11, 12, 13, 42] kj4 (fun kq v11 v12 v13 v42 w' => ∃ (x11_2 : List (S24)) (x12_2 : List (S24)) (x13_2 : Int) (x42_2 : Int), v13 = .int .i64 x13_2 ∧ v42 = .int .i64 x42_2 ∧ Aside0 (rect_Cut.l0 kq a1 x11_2 x12_2 x13_2 l2 (l2.length : Int) x42_2 t105 t106 t107 t108 = some (r1, r2, r3)) ∧ Aside0 (kq ≤ kj4) ∧ Aside0 (Kd.R k24 24 w' w.heap.size (fun k_ => some k_ ≠ (v12 : Value).ownBlock ∧ k_ ≠ gb104 ∧ k_ ≠ gb110) v11 x11_2) ∧ Aside0 (Kd.R k24 24 w' w.heap.size (fun k_ => some k_ ≠ (v11 : Value).ownBlock ∧ k_ ≠ gb104 ∧ k_ ≠ gb110) v12 x12_2) ∧ Aside0 (w'.heap[gb104]? = some (.cells #[.int .i64 a0_0, .int .i64 a0_1, .int .i64 a0_2, .int .i64 a0_3] 24 (0, 0))) ∧ Aside0 (w'.heap[gb110]? = some (.cells #[.int .i64 t105, .int .i64 t106, .int .i64 t107, .int .i64 t108] 24 (0, 0))) ∧ Aside0 (Below w.heap.size w w'))
    case atStart => exact ⟨(([] : List (S24))), (([] : List (S24))), (t105), (0), mq39, mq39, H', ⟨Nat.le_refl _⟩, ⟨mq35⟩, ⟨mq35⟩, ⟨mq28 BK104⟩, ⟨mq28 BK110⟩, ⟨kW⟩⟩
    case round =>
     clear H'
     clear hcz23_0 hcz23_1 hcz23_2 hcz23_3 hfz23_0 hfz23_1 hfz23_2 hfz23_3
     obtain ⟨x11_2, x12_2, x13_2, x42_2, rfl, rfl, HA, HK2, HO_11, HO_12, BK104, BK110, HB⟩ := hrel
     cases gk with
     | zero => exact absurd HA.out (by simp [rect_Cut.l0])
     | succ k2 =>
      have H := HA.out
      clear HA
      simp only [rect_Cut.l0] at H
      by_cases c24 : x42_2 < (l2.length : Int)
      ·rw [if_pos c24] at H
       have c24b0 : decide (x42_2 < (l2.length : Int)) = true := decide_eq_true c24
       clear c24
       by_cases c25 : 0 ≤ x42_2
       ·rw [if_pos c25] at H
        have c25b0 : decide (0 ≤ x42_2) = true := decide_eq_true c25
        clear c25
        by_cases c26 : x42_2 < (l2.length : Int)
        ·rw [if_pos c26] at H
         have c26b0 : decide (x42_2 < (l2.length : Int)) = true := decide_eq_true c26
         clear c26
         by_cases c27 : x42_2 > 0
         ·rw [if_pos c27] at H
          have c27b0 : decide (0 < x42_2) = true := decide_eq_true c27
          clear c27
          replace H := Option.bind_eq_some_iff.mp H
          obtain ⟨⟨t113, t114, t115, t116, t117⟩, A280, H⟩ := H
          replace H : (if x12_2.length < 4398046511104 then (if (rd l2 x42_2) < 1 then (some (([] : List (S24)), ([] : List (S24)), false)) else (if (rd l2 x42_2) > (wrap64 ((wrap64 (t105 + t107)) - (wrap64 (x13_2 + 1)))) then (some (([] : List (S24)), ([] : List (S24)), false)) else ((rect_turned.f (wrap64 (x13_2 + 1)) t106 (rd l2 x42_2) t108 a1).bind fun bt122 => (if x11_2.length < 4398046511104 then (rect_Cut.l0 k2 a1 (x11_2 ++ [(⟨bt122.1, bt122.2.1, bt122.2.2.1, bt122.2.2.2.1⟩ : S24)]) (x12_2 ++ [(⟨t113, t114, t115, t116⟩ : S24)]) (wrap64 ((wrap64 (x13_2 + 1)) + (rd l2 x42_2))) l2 (l2.length : Int) (wrap64 (x42_2 + 1)) t105 t106 t107 t108) else (none))))) else (none)) = some (r1, r2, r3) := H
          have A28 := ak A280
          clear A280
          by_cases c29 : x12_2.length < 4398046511104
          ·rw [if_pos c29] at H
           have LMc29 := ak c29
           clear c29
           obtain ⟨y119, hy119⟩ : ∃ y_ : List (S24), y_ = (x12_2 ++ [(⟨t113, t114, t115, t116⟩ : S24)]) := ⟨_, rfl⟩
           replace H : (if (rd l2 x42_2) < 1 then (some (([] : List (S24)), ([] : List (S24)), false)) else (if (rd l2 x42_2) > (wrap64 ((wrap64 (t105 + t107)) - (wrap64 (x13_2 + 1)))) then (some (([] : List (S24)), ([] : List (S24)), false)) else ((rect_turned.f (wrap64 (x13_2 + 1)) t106 (rd l2 x42_2) t108 a1).bind fun bt122 => (if x11_2.length < 4398046511104 then (rect_Cut.l0 k2 a1 (x11_2 ++ [(⟨bt122.1, bt122.2.1, bt122.2.2.1, bt122.2.2.2.1⟩ : S24)]) y119 (wrap64 ((wrap64 (x13_2 + 1)) + (rd l2 x42_2))) l2 (l2.length : Int) (wrap64 (x42_2 + 1)) t105 t106 t107 t108) else (none))))) = some (r1, r2, r3) := mq33 hy119
           have Ny119 := ak hy119
           clear hy119
           by_cases c30 : (rd l2 x42_2) < 1
           ·rw [if_pos c30] at H
            have c30b0 : decide ((rd l2 x42_2) < 1) = true := decide_eq_true c30
            clear c30
            simp only [Option.some.injEq, Prod.mk.injEq] at H
            obtain ⟨rfl, rfl, rfl⟩ := H
            have p112 : 0 ≤ (x42_2 : Int) := of_decide_eq_true mq34
            have q112 : x42_2 < (l2.length : Int) := of_decide_eq_true mq34
            obtain ⟨ad112, e112, hx112_0⟩ := Kd.at_int HR2.out x42_2 p112 q112
            cases e112
            replace hx112_0 := (HB.out.cell (World.block_lt_of_cell? w _ hx112_0)).trans hx112_0
            replace p112 := eq_true p112
            replace q112 := eq_true q112
            have hnb31 := NB110_104.out
            have hnc31 := NB104_110.out
            obtain ⟨hcz32_0, hcz32_1, hcz32_2, hcz32_3⟩ := cz4 BK110
            obtain ⟨hfz32_0, hfz32_1, hfz32_2, hfz32_3⟩ := fz4 BK110
            go_wp2_with (first | ((with_reducible refine gate_callee (f := 153) rfl ?_); refine gol (some 57) Tryz.func153 #[.agg #[.int .i64 x13_2, .int .i64 t106, .int .i64 1, .int .i64 t108], .int .u8 a1] (h := ?_); (with_reducible refine (rect_turned.calls x13_2 t106 1 t108 a1 t113 t114 t115 t116 t117 _ A28.out).mono ?_); rintro e w33 ⟨rfl, hb⟩; refine ⟨_, rfl, ?_⟩; replace HO_11 := ak (Kd.R_below (kR HO_11) hb); replace HO_12 := ak (Kd.R_below (kR HO_12) hb); replace BK104 := (kB BK104 hb); replace BK110 := (kB BK110 hb); replace HB := ak (below_step kW hb); (try clear hb); (try clear hb2); (try clear hk); (try clear hi)) | ((with_reducible refine gate_dst (N := 16) rfl ?_); (try (refine gate_guard (by rfl) ?_; dsimp only)); refine bxe 16 #[.int .i64 0, .int .i64 0, .int .i64 0, .int .i64 0] 24 (h := ?_); intro gb118 hg w34 hbox hb; replace HO_11 := ak (Kd.R_below (Kd.R_elderB (kR HO_11) gb118 (Nat.le_of_eq hg.symm)) hb); replace HO_12 := ak (Kd.R_below (Kd.R_elderB (kR HO_12) gb118 (Nat.le_of_eq hg.symm)) hb); have BK118 := ak (hbox); have GW118 := ak ((mq53 : w.heap.size ≤ gb118)); have GE118 := ak ((mq53 : w.heap.size ≤ gb118)); replace HB := ak (below_step kW hb); have NB104_118 := kE BK104 hg; have NB118_104 := kE' BK104 hg; replace BK104 := (kB BK104 hb); have NB110_118 := kE BK110 hg; have NB118_110 := kE' BK110 hg; replace BK110 := (kB BK110 hb); clear hb hbox hg; have hnb35 := NB118_104.out; have hnc35 := NB104_118.out; have hnb36 := NB118_110.out; have hnc36 := NB110_118.out; obtain ⟨hcz37_0, hcz37_1, hcz37_2, hcz37_3⟩ := cz4 BK118; obtain ⟨hfz37_0, hfz37_1, hfz37_2, hfz37_3⟩ := fz4 BK118) | ((with_reducible refine gate_builtin (b := .append) (xs := #[.tmp 60, .tmp 62]) rfl ?_); (try (refine gate_guard (by rfl) ?_; dsimp only)); at_builtin; refine Kd.R_append k24 (w0 := w) w.heap.size rfl (.tmp 60) (.tmp 62) 73 24 (.agg #[(.int .i64 0), (.int .i64 0), (.int .i64 0), (.int .i64 0)]) 32 rfl Tryz.underlying73 info24 rfl (by decide) (by omega) u12 x12_2 (⟨t113, t114, t115, t116⟩ : S24) [.int .i64 t113, .int .i64 t114, .int .i64 t115, .int .i64 t116] (fun k_ => some k_ ≠ (u11 : Value).ownBlock ∧ k_ ≠ gb104 ∧ k_ ≠ gb110 ∧ k_ ≠ gb118) (fun _ => False) rfl mq31 ?aP (fun _ hk => hk.elim) ?aF ?aO ?aB ?aS ?aL ?_; (case aP => exact k24_mkM _ _ _ (⟨t113, t114, t115, t116⟩ : S24)); (case aB => exact kW); (case aF => exact (fun k_ hk => ⟨Kd.fresh' (Kd.R_lt (mq7 HO_11)) k_ hk, Kd.freshB (g := gb104) (o := .cells #[.int .i64 a0_0, .int .i64 a0_1, .int .i64 a0_2, .int .i64 a0_3] 24 (0, 0)) (kC NB104_118 BK104) k_ hk, Kd.freshB (g := gb110) (o := .cells #[.int .i64 t105, .int .i64 t106, .int .i64 t107, .int .i64 t108] 24 (0, 0)) (kC NB110_118 BK110) k_ hk, Kd.freshB (g := gb118) (o := .cells #[.int .i64 t113, .int .i64 t114, .int .i64 t115, .int .i64 t116] 24 (0, 0)) (kP4 BK118) k_ hk⟩)); (case aO => exact (mq11 HO_12)); (case aS => exact (below_size kW)); (case aL => have := LMc29.out; omega); intro v120 w38 ho hb hg hat; rw [← Ny119.out] at ho; replace HO_11 := ak (Kd.R_after (ok := (fun k_ => k_ ≠ gb104 ∧ k_ ≠ gb110 ∧ k_ ≠ gb118)) (mq12 HO_11) hg hat); replace BK104 := ak (blk_grown (g := gb104) (o := .cells #[.int .i64 a0_0, .int .i64 a0_1, .int .i64 a0_2, .int .i64 a0_3] 24 (0, 0)) (kC NB104_118 BK104) hg (Kd.R_away HO_12.out (fun _ hk => hk.1.2.1))); replace BK110 := ak (blk_grown (g := gb110) (o := .cells #[.int .i64 t105, .int .i64 t106, .int .i64 t107, .int .i64 t108] 24 (0, 0)) (kC NB110_118 BK110) hg (Kd.R_away HO_12.out (fun _ hk => hk.1.2.2))); replace BK118 := ak (blk_grown (g := gb118) (o := .cells #[.int .i64 t113, .int .i64 t114, .int .i64 t115, .int .i64 t116] 24 (0, 0)) (kP4 BK118) hg (Kd.R_away HO_12.out (fun _ hk => hk.2))); replace HB := ak (hb); have HO121 := ak (ho); clear HO_12; clear ho hb hg hat))
            go_ret3
            exact ⟨_, _, mq37, mq35, mq35, kW⟩
           ·rw [if_neg c30] at H
            have c30b0 : decide ((rd l2 x42_2) < 1) = false := decide_eq_false c30
            clear c30
            by_cases c39 : (rd l2 x42_2) > (wrap64 ((wrap64 (t105 + t107)) - (wrap64 (x13_2 + 1))))
            ·rw [if_pos c39] at H
             have c39b0 : decide ((wrap64 ((wrap64 (t105 + t107)) - (wrap64 (x13_2 + 1)))) < (rd l2 x42_2)) = true := decide_eq_true c39
             clear c39
             simp only [Option.some.injEq, Prod.mk.injEq] at H
             obtain ⟨rfl, rfl, rfl⟩ := H
             have p112 : 0 ≤ (x42_2 : Int) := of_decide_eq_true mq34
             have q112 : x42_2 < (l2.length : Int) := of_decide_eq_true mq34
             obtain ⟨ad112, e112, hx112_0⟩ := Kd.at_int HR2.out x42_2 p112 q112
             cases e112
             replace hx112_0 := (HB.out.cell (World.block_lt_of_cell? w _ hx112_0)).trans hx112_0
             replace p112 := eq_true p112
             replace q112 := eq_true q112
             have hnb40 := NB110_104.out
             have hnc40 := NB104_110.out
             obtain ⟨hcz41_0, hcz41_1, hcz41_2, hcz41_3⟩ := cz4 BK110
             obtain ⟨hfz41_0, hfz41_1, hfz41_2, hfz41_3⟩ := fz4 BK110
             go_wp2_with (first | ((with_reducible refine gate_callee (f := 153) rfl ?_); refine gol (some 57) Tryz.func153 #[.agg #[.int .i64 x13_2, .int .i64 t106, .int .i64 1, .int .i64 t108], .int .u8 a1] (h := ?_); (with_reducible refine (rect_turned.calls x13_2 t106 1 t108 a1 t113 t114 t115 t116 t117 _ A28.out).mono ?_); rintro e w42 ⟨rfl, hb⟩; refine ⟨_, rfl, ?_⟩; replace HO_11 := ak (Kd.R_below (kR HO_11) hb); replace HO_12 := ak (Kd.R_below (kR HO_12) hb); replace BK104 := (kB BK104 hb); replace BK110 := (kB BK110 hb); replace HB := ak (below_step kW hb); (try clear hb); (try clear hb2); (try clear hk); (try clear hi)) | ((with_reducible refine gate_dst (N := 16) rfl ?_); (try (refine gate_guard (by rfl) ?_; dsimp only)); refine bxe 16 #[.int .i64 0, .int .i64 0, .int .i64 0, .int .i64 0] 24 (h := ?_); intro gb118 hg w43 hbox hb; replace HO_11 := ak (Kd.R_below (Kd.R_elderB (kR HO_11) gb118 (Nat.le_of_eq hg.symm)) hb); replace HO_12 := ak (Kd.R_below (Kd.R_elderB (kR HO_12) gb118 (Nat.le_of_eq hg.symm)) hb); have BK118 := ak (hbox); have GW118 := ak ((mq53 : w.heap.size ≤ gb118)); have GE118 := ak ((mq53 : w.heap.size ≤ gb118)); replace HB := ak (below_step kW hb); have NB104_118 := kE BK104 hg; have NB118_104 := kE' BK104 hg; replace BK104 := (kB BK104 hb); have NB110_118 := kE BK110 hg; have NB118_110 := kE' BK110 hg; replace BK110 := (kB BK110 hb); clear hb hbox hg; have hnb44 := NB118_104.out; have hnc44 := NB104_118.out; have hnb45 := NB118_110.out; have hnc45 := NB110_118.out; obtain ⟨hcz46_0, hcz46_1, hcz46_2, hcz46_3⟩ := cz4 BK118; obtain ⟨hfz46_0, hfz46_1, hfz46_2, hfz46_3⟩ := fz4 BK118) | ((with_reducible refine gate_builtin (b := .append) (xs := #[.tmp 60, .tmp 62]) rfl ?_); (try (refine gate_guard (by rfl) ?_; dsimp only)); at_builtin; refine Kd.R_append k24 (w0 := w) w.heap.size rfl (.tmp 60) (.tmp 62) 73 24 (.agg #[(.int .i64 0), (.int .i64 0), (.int .i64 0), (.int .i64 0)]) 32 rfl Tryz.underlying73 info24 rfl (by decide) (by omega) u12 x12_2 (⟨t113, t114, t115, t116⟩ : S24) [.int .i64 t113, .int .i64 t114, .int .i64 t115, .int .i64 t116] (fun k_ => some k_ ≠ (u11 : Value).ownBlock ∧ k_ ≠ gb104 ∧ k_ ≠ gb110 ∧ k_ ≠ gb118) (fun _ => False) rfl mq31 ?aP (fun _ hk => hk.elim) ?aF ?aO ?aB ?aS ?aL ?_; (case aP => exact k24_mkM _ _ _ (⟨t113, t114, t115, t116⟩ : S24)); (case aB => exact kW); (case aF => exact (fun k_ hk => ⟨Kd.fresh' (Kd.R_lt (mq7 HO_11)) k_ hk, Kd.freshB (g := gb104) (o := .cells #[.int .i64 a0_0, .int .i64 a0_1, .int .i64 a0_2, .int .i64 a0_3] 24 (0, 0)) (kC NB104_118 BK104) k_ hk, Kd.freshB (g := gb110) (o := .cells #[.int .i64 t105, .int .i64 t106, .int .i64 t107, .int .i64 t108] 24 (0, 0)) (kC NB110_118 BK110) k_ hk, Kd.freshB (g := gb118) (o := .cells #[.int .i64 t113, .int .i64 t114, .int .i64 t115, .int .i64 t116] 24 (0, 0)) (kP4 BK118) k_ hk⟩)); (case aO => exact (mq11 HO_12)); (case aS => exact (below_size kW)); (case aL => have := LMc29.out; omega); intro v120 w47 ho hb hg hat; rw [← Ny119.out] at ho; replace HO_11 := ak (Kd.R_after (ok := (fun k_ => k_ ≠ gb104 ∧ k_ ≠ gb110 ∧ k_ ≠ gb118)) (mq12 HO_11) hg hat); replace BK104 := ak (blk_grown (g := gb104) (o := .cells #[.int .i64 a0_0, .int .i64 a0_1, .int .i64 a0_2, .int .i64 a0_3] 24 (0, 0)) (kC NB104_118 BK104) hg (Kd.R_away HO_12.out (fun _ hk => hk.1.2.1))); replace BK110 := ak (blk_grown (g := gb110) (o := .cells #[.int .i64 t105, .int .i64 t106, .int .i64 t107, .int .i64 t108] 24 (0, 0)) (kC NB110_118 BK110) hg (Kd.R_away HO_12.out (fun _ hk => hk.1.2.2))); replace BK118 := ak (blk_grown (g := gb118) (o := .cells #[.int .i64 t113, .int .i64 t114, .int .i64 t115, .int .i64 t116] 24 (0, 0)) (kP4 BK118) hg (Kd.R_away HO_12.out (fun _ hk => hk.2))); replace HB := ak (hb); have HO121 := ak (ho); clear HO_12; clear ho hb hg hat; obtain ⟨hcz48_0, hcz48_1, hcz48_2, hcz48_3⟩ := cz4 BK110; obtain ⟨hfz48_0, hfz48_1, hfz48_2, hfz48_3⟩ := fz4 BK110))
             go_ret3
             exact ⟨_, _, mq37, mq35, mq35, kW⟩
            ·rw [if_neg c39] at H
             have c39b0 : decide ((wrap64 ((wrap64 (t105 + t107)) - (wrap64 (x13_2 + 1)))) < (rd l2 x42_2)) = false := decide_eq_false c39
             clear c39
             replace H := Option.bind_eq_some_iff.mp H
             obtain ⟨⟨t122, t123, t124, t125, t126⟩, A490, H⟩ := H
             replace H : (if x11_2.length < 4398046511104 then (rect_Cut.l0 k2 a1 (x11_2 ++ [(⟨t122, t123, t124, t125⟩ : S24)]) y119 (wrap64 ((wrap64 (x13_2 + 1)) + (rd l2 x42_2))) l2 (l2.length : Int) (wrap64 (x42_2 + 1)) t105 t106 t107 t108) else (none)) = some (r1, r2, r3) := H
             have A49 := ak A490
             clear A490
             by_cases c50 : x11_2.length < 4398046511104
             ·rw [if_pos c50] at H
              have LMc50 := ak c50
              clear c50
              obtain ⟨y128, hy128⟩ : ∃ y_ : List (S24), y_ = (x11_2 ++ [(⟨t122, t123, t124, t125⟩ : S24)]) := ⟨_, rfl⟩
              replace H : (rect_Cut.l0 k2 a1 y128 y119 (wrap64 ((wrap64 (x13_2 + 1)) + (rd l2 x42_2))) l2 (l2.length : Int) (wrap64 (x42_2 + 1)) t105 t106 t107 t108) = some (r1, r2, r3) := mq33 hy128
              have Ny128 := ak hy128
              clear hy128
              have H' := ak H
              clear H
              have p112 : 0 ≤ (x42_2 : Int) := of_decide_eq_true mq34
              have q112 : x42_2 < (l2.length : Int) := of_decide_eq_true mq34
              obtain ⟨ad112, e112, hx112_0⟩ := Kd.at_int HR2.out x42_2 p112 q112
              cases e112
              replace hx112_0 := (HB.out.cell (World.block_lt_of_cell? w _ hx112_0)).trans hx112_0
              replace p112 := eq_true p112
              replace q112 := eq_true q112
              have hnb51 := NB110_104.out
              have hnc51 := NB104_110.out
              obtain ⟨hcz52_0, hcz52_1, hcz52_2, hcz52_3⟩ := cz4 BK110
              obtain ⟨hfz52_0, hfz52_1, hfz52_2, hfz52_3⟩ := fz4 BK110
              go_wp2_with (first | ((with_reducible refine gate_callee (f := 153) rfl ?_); refine gol (some 57) Tryz.func153 #[.agg #[.int .i64 x13_2, .int .i64 t106, .int .i64 1, .int .i64 t108], .int .u8 a1] (h := ?_); (with_reducible refine (rect_turned.calls x13_2 t106 1 t108 a1 t113 t114 t115 t116 t117 _ A28.out).mono ?_); rintro e w53 ⟨rfl, hb⟩; refine ⟨_, rfl, ?_⟩; replace HO_11 := ak (Kd.R_below (kR HO_11) hb); replace HO_12 := ak (Kd.R_below (kR HO_12) hb); replace BK104 := (kB BK104 hb); replace BK110 := (kB BK110 hb); replace HB := ak (below_step kW hb); (try clear hb); (try clear hb2); (try clear hk); (try clear hi)) | ((with_reducible refine gate_dst (N := 16) rfl ?_); (try (refine gate_guard (by rfl) ?_; dsimp only)); refine bxe 16 #[.int .i64 0, .int .i64 0, .int .i64 0, .int .i64 0] 24 (h := ?_); intro gb118 hg w54 hbox hb; replace HO_11 := ak (Kd.R_below (Kd.R_elderB (kR HO_11) gb118 (Nat.le_of_eq hg.symm)) hb); replace HO_12 := ak (Kd.R_below (Kd.R_elderB (kR HO_12) gb118 (Nat.le_of_eq hg.symm)) hb); have BK118 := ak (hbox); have GW118 := ak ((mq53 : w.heap.size ≤ gb118)); have GE118 := ak ((mq53 : w.heap.size ≤ gb118)); replace HB := ak (below_step kW hb); have NB104_118 := kE BK104 hg; have NB118_104 := kE' BK104 hg; replace BK104 := (kB BK104 hb); have NB110_118 := kE BK110 hg; have NB118_110 := kE' BK110 hg; replace BK110 := (kB BK110 hb); clear hb hbox hg; have hnb55 := NB118_104.out; have hnc55 := NB104_118.out; have hnb56 := NB118_110.out; have hnc56 := NB110_118.out; obtain ⟨hcz57_0, hcz57_1, hcz57_2, hcz57_3⟩ := cz4 BK118; obtain ⟨hfz57_0, hfz57_1, hfz57_2, hfz57_3⟩ := fz4 BK118) | ((with_reducible refine gate_builtin (b := .append) (xs := #[.tmp 60, .tmp 62]) rfl ?_); (try (refine gate_guard (by rfl) ?_; dsimp only)); at_builtin; refine Kd.R_append k24 (w0 := w) w.heap.size rfl (.tmp 60) (.tmp 62) 73 24 (.agg #[(.int .i64 0), (.int .i64 0), (.int .i64 0), (.int .i64 0)]) 32 rfl Tryz.underlying73 info24 rfl (by decide) (by omega) u12 x12_2 (⟨t113, t114, t115, t116⟩ : S24) [.int .i64 t113, .int .i64 t114, .int .i64 t115, .int .i64 t116] (fun k_ => some k_ ≠ (u11 : Value).ownBlock ∧ k_ ≠ gb104 ∧ k_ ≠ gb110 ∧ k_ ≠ gb118) (fun _ => False) rfl mq31 ?aP (fun _ hk => hk.elim) ?aF ?aO ?aB ?aS ?aL ?_; (case aP => exact k24_mkM _ _ _ (⟨t113, t114, t115, t116⟩ : S24)); (case aB => exact kW); (case aF => exact (fun k_ hk => ⟨Kd.fresh' (Kd.R_lt (mq7 HO_11)) k_ hk, Kd.freshB (g := gb104) (o := .cells #[.int .i64 a0_0, .int .i64 a0_1, .int .i64 a0_2, .int .i64 a0_3] 24 (0, 0)) (kC NB104_118 BK104) k_ hk, Kd.freshB (g := gb110) (o := .cells #[.int .i64 t105, .int .i64 t106, .int .i64 t107, .int .i64 t108] 24 (0, 0)) (kC NB110_118 BK110) k_ hk, Kd.freshB (g := gb118) (o := .cells #[.int .i64 t113, .int .i64 t114, .int .i64 t115, .int .i64 t116] 24 (0, 0)) (kP4 BK118) k_ hk⟩)); (case aO => exact (mq11 HO_12)); (case aS => exact (below_size kW)); (case aL => have := LMc29.out; omega); intro v120 w58 ho hb hg hat; rw [← Ny119.out] at ho; replace HO_11 := ak (Kd.R_after (ok := (fun k_ => k_ ≠ gb104 ∧ k_ ≠ gb110 ∧ k_ ≠ gb118)) (mq12 HO_11) hg hat); replace BK104 := ak (blk_grown (g := gb104) (o := .cells #[.int .i64 a0_0, .int .i64 a0_1, .int .i64 a0_2, .int .i64 a0_3] 24 (0, 0)) (kC NB104_118 BK104) hg (Kd.R_away HO_12.out (fun _ hk => hk.1.2.1))); replace BK110 := ak (blk_grown (g := gb110) (o := .cells #[.int .i64 t105, .int .i64 t106, .int .i64 t107, .int .i64 t108] 24 (0, 0)) (kC NB110_118 BK110) hg (Kd.R_away HO_12.out (fun _ hk => hk.1.2.2))); replace BK118 := ak (blk_grown (g := gb118) (o := .cells #[.int .i64 t113, .int .i64 t114, .int .i64 t115, .int .i64 t116] 24 (0, 0)) (kP4 BK118) hg (Kd.R_away HO_12.out (fun _ hk => hk.2))); replace HB := ak (hb); have HO121 := ak (ho); clear HO_12; clear ho hb hg hat; obtain ⟨hcz59_0, hcz59_1, hcz59_2, hcz59_3⟩ := cz4 BK110; obtain ⟨hfz59_0, hfz59_1, hfz59_2, hfz59_3⟩ := fz4 BK110) | ((with_reducible refine gate_callee (f := 153) rfl ?_); refine gol (some 88) Tryz.func153 #[.agg #[.int .i64 (wrap64 (x13_2 + 1)), .int .i64 t106, .int .i64 (rd l2 x42_2), .int .i64 t108], .int .u8 a1] (h := ?_); (with_reducible refine (rect_turned.calls (wrap64 (x13_2 + 1)) t106 (rd l2 x42_2) t108 a1 t122 t123 t124 t125 t126 _ A49.out).mono ?_); rintro e w60 ⟨rfl, hb⟩; refine ⟨_, rfl, ?_⟩; replace HO_11 := ak (Kd.R_below (kR HO_11) hb); replace HO121 := ak (Kd.R_below (kR HO121) hb); replace BK104 := (kB BK104 hb); replace BK110 := (kB BK110 hb); replace BK118 := (kB BK118 hb); replace HB := ak (below_step kW hb); (try clear hb); (try clear hb2); (try clear hk); (try clear hi)) | ((with_reducible refine gate_dst (N := 18) rfl ?_); (try (refine gate_guard (by rfl) ?_; dsimp only)); refine bxe 18 #[.int .i64 0, .int .i64 0, .int .i64 0, .int .i64 0] 24 (h := ?_); intro gb127 hg w61 hbox hb; replace HO_11 := ak (Kd.R_below (Kd.R_elderB (kR HO_11) gb127 (Nat.le_of_eq hg.symm)) hb); replace HO121 := ak (Kd.R_below (Kd.R_elderB (kR HO121) gb127 (Nat.le_of_eq hg.symm)) hb); have BK127 := ak (hbox); have GW127 := ak ((mq53 : w.heap.size ≤ gb127)); have GE127 := ak ((mq53 : w.heap.size ≤ gb127)); replace HB := ak (below_step kW hb); have NB104_127 := kE BK104 hg; have NB127_104 := kE' BK104 hg; replace BK104 := (kB BK104 hb); have NB110_127 := kE BK110 hg; have NB127_110 := kE' BK110 hg; replace BK110 := (kB BK110 hb); have NB118_127 := kE BK118 hg; have NB127_118 := kE' BK118 hg; replace BK118 := (kB BK118 hb); clear hb hbox hg; have hnb62 := NB127_104.out; have hnc62 := NB104_127.out; have hnb63 := NB127_110.out; have hnc63 := NB110_127.out; have hnb64 := NB127_118.out; have hnc64 := NB118_127.out; obtain ⟨hcz65_0, hcz65_1, hcz65_2, hcz65_3⟩ := cz4 BK127; obtain ⟨hfz65_0, hfz65_1, hfz65_2, hfz65_3⟩ := fz4 BK127) | ((with_reducible refine gate_builtin (b := .append) (xs := #[.tmp 91, .tmp 93]) rfl ?_); (try (refine gate_guard (by rfl) ?_; dsimp only)); at_builtin; refine Kd.R_append k24 (w0 := w) w.heap.size rfl (.tmp 91) (.tmp 93) 73 24 (.agg #[(.int .i64 0), (.int .i64 0), (.int .i64 0), (.int .i64 0)]) 32 rfl Tryz.underlying73 info24 rfl (by decide) (by omega) u11 x11_2 (⟨t122, t123, t124, t125⟩ : S24) [.int .i64 t122, .int .i64 t123, .int .i64 t124, .int .i64 t125] (fun k_ => some k_ ≠ (v120 : Value).ownBlock ∧ k_ ≠ gb104 ∧ k_ ≠ gb110 ∧ k_ ≠ gb118 ∧ k_ ≠ gb127) (fun _ => False) rfl mq31 ?aP (fun _ hk => hk.elim) ?aF ?aO ?aB ?aS ?aL ?_; (case aP => exact k24_mkM _ _ _ (⟨t122, t123, t124, t125⟩ : S24)); (case aB => exact kW); (case aF => exact (fun k_ hk => ⟨Kd.fresh' (Kd.R_lt (by (with_reducible repeat (first | apply Kd.R_alloc | apply Kd.R_drewN | apply Kd.R_drew)); exact (Kd.R_mono (rf4 (g := gb127) (Kd.R_mono HO121.out (fun k_ hk => (⟨hk, hk.2⟩ : _ ∧ k_ ≠ gb127))) (fun _ hk => hk.2)) (fun _ h_ => h_.1)))) k_ hk, Kd.freshB (g := gb104) (o := .cells #[.int .i64 a0_0, .int .i64 a0_1, .int .i64 a0_2, .int .i64 a0_3] 24 (0, 0)) (kC NB104_127 BK104) k_ hk, Kd.freshB (g := gb110) (o := .cells #[.int .i64 t105, .int .i64 t106, .int .i64 t107, .int .i64 t108] 24 (0, 0)) (kC NB110_127 BK110) k_ hk, Kd.freshB (g := gb118) (o := .cells #[.int .i64 t113, .int .i64 t114, .int .i64 t115, .int .i64 t116] 24 (0, 0)) (kC NB118_127 BK118) k_ hk, Kd.freshB (g := gb127) (o := .cells #[.int .i64 t122, .int .i64 t123, .int .i64 t124, .int .i64 t125] 24 (0, 0)) (kP4 BK127) k_ hk⟩)); (case aO => exact (by (with_reducible repeat (first | apply Kd.R_alloc | apply Kd.R_drewN | apply Kd.R_drew)); exact Kd.R_mono (rf4 (g := gb127) (Kd.R_mono HO_11.out (fun k_ hk => (⟨hk, hk.2⟩ : _ ∧ k_ ≠ gb127))) (fun _ hk => hk.2)) (fun _ hk => ⟨hk.1.1.2, ⟨hk.1.1.1.1, ⟨hk.1.1.1.2.1, ⟨hk.1.1.1.2.2, hk.1.2⟩⟩⟩⟩))); (case aS => exact (below_size kW)); (case aL => have := LMc50.out; omega); intro v129 w66 ho hb hg hat; rw [← Ny128.out] at ho; replace BK104 := ak (blk_grown (g := gb104) (o := .cells #[.int .i64 a0_0, .int .i64 a0_1, .int .i64 a0_2, .int .i64 a0_3] 24 (0, 0)) (kC NB104_127 BK104) hg (Kd.R_away HO_11.out (fun _ hk => hk.1.1.1))); replace BK110 := ak (blk_grown (g := gb110) (o := .cells #[.int .i64 t105, .int .i64 t106, .int .i64 t107, .int .i64 t108] 24 (0, 0)) (kC NB110_127 BK110) hg (Kd.R_away HO_11.out (fun _ hk => hk.1.1.2.1))); replace BK118 := ak (blk_grown (g := gb118) (o := .cells #[.int .i64 t113, .int .i64 t114, .int .i64 t115, .int .i64 t116] 24 (0, 0)) (kC NB118_127 BK118) hg (Kd.R_away HO_11.out (fun _ hk => hk.1.1.2.2))); replace HO121 := ak (Kd.R_after (ok := (fun k_ => k_ ≠ gb104 ∧ k_ ≠ gb110 ∧ k_ ≠ gb118 ∧ k_ ≠ gb127)) (by (with_reducible repeat (first | apply Kd.R_alloc | apply Kd.R_drewN | apply Kd.R_drew)); exact Kd.R_mono (rf4 (g := gb127) (Kd.R_mono HO121.out (fun k_ hk => (⟨hk, hk.2⟩ : _ ∧ k_ ≠ gb127))) (fun _ hk => hk.2)) (fun _ hk => ⟨⟨hk.1.1.2.1, ⟨hk.1.1.2.2.1, ⟨hk.1.1.2.2.2, hk.1.2⟩⟩⟩, hk.1.1.1⟩)) hg hat); replace BK127 := ak (blk_grown (g := gb127) (o := .cells #[.int .i64 t122, .int .i64 t123, .int .i64 t124, .int .i64 t125] 24 (0, 0)) (kP4 BK127) hg (Kd.R_away HO_11.out (fun _ hk => hk.2))); replace HB := ak (hb); have HO130 := ak (ho); clear HO_11; clear ho hb hg hat))
              go_roundg k2
              case measure => have := HJ4.out; have := HK2.out; omega
              case rel => exact ⟨(y128), (y119), (wrap64 ((wrap64 (x13_2 + 1)) + (rd l2 x42_2))), (wrap64 (x42_2 + 1)), mq39, mq39, H', ⟨mq46 HJ4 HK2⟩, ⟨mq17 HO130⟩, ⟨mq21 HO121⟩, ⟨mq28 BK104⟩, ⟨mq28 BK110⟩, ⟨kW⟩⟩
             ·rw [if_neg c50] at H
              exact absurd H (by simp)
          ·rw [if_neg c29] at H
           exact absurd H (by simp)
         ·rw [if_neg c27] at H
          have c27b0 : decide (0 < x42_2) = false := decide_eq_false c27
          clear c27
          by_cases c67 : (rd l2 x42_2) < 1
          ·rw [if_pos c67] at H
           have c67b0 : decide ((rd l2 x42_2) < 1) = true := decide_eq_true c67
           clear c67
           simp only [Option.some.injEq, Prod.mk.injEq] at H
           obtain ⟨rfl, rfl, rfl⟩ := H
           have p112 : 0 ≤ (x42_2 : Int) := of_decide_eq_true mq34
           have q112 : x42_2 < (l2.length : Int) := of_decide_eq_true mq34
           obtain ⟨ad112, e112, hx112_0⟩ := Kd.at_int HR2.out x42_2 p112 q112
           cases e112
           replace hx112_0 := (HB.out.cell (World.block_lt_of_cell? w _ hx112_0)).trans hx112_0
           replace p112 := eq_true p112
           replace q112 := eq_true q112
           go_wp2
           go_ret3
           exact ⟨_, _, mq37, mq35, mq35, kW⟩
          ·rw [if_neg c67] at H
           have c67b0 : decide ((rd l2 x42_2) < 1) = false := decide_eq_false c67
           clear c67
           by_cases c68 : (rd l2 x42_2) > (wrap64 ((wrap64 (t105 + t107)) - x13_2))
           ·rw [if_pos c68] at H
            have c68b0 : decide ((wrap64 ((wrap64 (t105 + t107)) - x13_2)) < (rd l2 x42_2)) = true := decide_eq_true c68
            clear c68
            simp only [Option.some.injEq, Prod.mk.injEq] at H
            obtain ⟨rfl, rfl, rfl⟩ := H
            have p112 : 0 ≤ (x42_2 : Int) := of_decide_eq_true mq34
            have q112 : x42_2 < (l2.length : Int) := of_decide_eq_true mq34
            obtain ⟨ad112, e112, hx112_0⟩ := Kd.at_int HR2.out x42_2 p112 q112
            cases e112
            replace hx112_0 := (HB.out.cell (World.block_lt_of_cell? w _ hx112_0)).trans hx112_0
            replace p112 := eq_true p112
            replace q112 := eq_true q112
            have hnb69 := NB110_104.out
            have hnc69 := NB104_110.out
            obtain ⟨hcz70_0, hcz70_1, hcz70_2, hcz70_3⟩ := cz4 BK110
            obtain ⟨hfz70_0, hfz70_1, hfz70_2, hfz70_3⟩ := fz4 BK110
            go_wp2
            go_ret3
            exact ⟨_, _, mq37, mq35, mq35, kW⟩
           ·rw [if_neg c68] at H
            have c68b0 : decide ((wrap64 ((wrap64 (t105 + t107)) - x13_2)) < (rd l2 x42_2)) = false := decide_eq_false c68
            clear c68
            replace H := Option.bind_eq_some_iff.mp H
            obtain ⟨⟨t131, t132, t133, t134, t135⟩, A710, H⟩ := H
            replace H : (if x11_2.length < 4398046511104 then (rect_Cut.l0 k2 a1 (x11_2 ++ [(⟨t131, t132, t133, t134⟩ : S24)]) x12_2 (wrap64 (x13_2 + (rd l2 x42_2))) l2 (l2.length : Int) (wrap64 (x42_2 + 1)) t105 t106 t107 t108) else (none)) = some (r1, r2, r3) := H
            have A71 := ak A710
            clear A710
            by_cases c72 : x11_2.length < 4398046511104
            ·rw [if_pos c72] at H
             have LMc72 := ak c72
             clear c72
             obtain ⟨y137, hy137⟩ : ∃ y_ : List (S24), y_ = (x11_2 ++ [(⟨t131, t132, t133, t134⟩ : S24)]) := ⟨_, rfl⟩
             replace H : (rect_Cut.l0 k2 a1 y137 x12_2 (wrap64 (x13_2 + (rd l2 x42_2))) l2 (l2.length : Int) (wrap64 (x42_2 + 1)) t105 t106 t107 t108) = some (r1, r2, r3) := mq33 hy137
             have Ny137 := ak hy137
             clear hy137
             have H' := ak H
             clear H
             have p112 : 0 ≤ (x42_2 : Int) := of_decide_eq_true mq34
             have q112 : x42_2 < (l2.length : Int) := of_decide_eq_true mq34
             obtain ⟨ad112, e112, hx112_0⟩ := Kd.at_int HR2.out x42_2 p112 q112
             cases e112
             replace hx112_0 := (HB.out.cell (World.block_lt_of_cell? w _ hx112_0)).trans hx112_0
             replace p112 := eq_true p112
             replace q112 := eq_true q112
             have hnb73 := NB110_104.out
             have hnc73 := NB104_110.out
             obtain ⟨hcz74_0, hcz74_1, hcz74_2, hcz74_3⟩ := cz4 BK110
             obtain ⟨hfz74_0, hfz74_1, hfz74_2, hfz74_3⟩ := fz4 BK110
             go_wp2_with (first | ((with_reducible refine gate_callee (f := 153) rfl ?_); refine gol (some 88) Tryz.func153 #[.agg #[.int .i64 x13_2, .int .i64 t106, .int .i64 (rd l2 x42_2), .int .i64 t108], .int .u8 a1] (h := ?_); (with_reducible refine (rect_turned.calls x13_2 t106 (rd l2 x42_2) t108 a1 t131 t132 t133 t134 t135 _ A71.out).mono ?_); rintro e w75 ⟨rfl, hb⟩; refine ⟨_, rfl, ?_⟩; replace HO_11 := ak (Kd.R_below (kR HO_11) hb); replace HO_12 := ak (Kd.R_below (kR HO_12) hb); replace BK104 := (kB BK104 hb); replace BK110 := (kB BK110 hb); replace HB := ak (below_step kW hb); (try clear hb); (try clear hb2); (try clear hk); (try clear hi)) | ((with_reducible refine gate_dst (N := 18) rfl ?_); (try (refine gate_guard (by rfl) ?_; dsimp only)); refine bxe 18 #[.int .i64 0, .int .i64 0, .int .i64 0, .int .i64 0] 24 (h := ?_); intro gb136 hg w76 hbox hb; replace HO_11 := ak (Kd.R_below (Kd.R_elderB (kR HO_11) gb136 (Nat.le_of_eq hg.symm)) hb); replace HO_12 := ak (Kd.R_below (Kd.R_elderB (kR HO_12) gb136 (Nat.le_of_eq hg.symm)) hb); have BK136 := ak (hbox); have GW136 := ak ((mq53 : w.heap.size ≤ gb136)); have GE136 := ak ((mq53 : w.heap.size ≤ gb136)); replace HB := ak (below_step kW hb); have NB104_136 := kE BK104 hg; have NB136_104 := kE' BK104 hg; replace BK104 := (kB BK104 hb); have NB110_136 := kE BK110 hg; have NB136_110 := kE' BK110 hg; replace BK110 := (kB BK110 hb); clear hb hbox hg; have hnb77 := NB136_104.out; have hnc77 := NB104_136.out; have hnb78 := NB136_110.out; have hnc78 := NB110_136.out; obtain ⟨hcz79_0, hcz79_1, hcz79_2, hcz79_3⟩ := cz4 BK136; obtain ⟨hfz79_0, hfz79_1, hfz79_2, hfz79_3⟩ := fz4 BK136) | ((with_reducible refine gate_builtin (b := .append) (xs := #[.tmp 91, .tmp 93]) rfl ?_); (try (refine gate_guard (by rfl) ?_; dsimp only)); at_builtin; refine Kd.R_append k24 (w0 := w) w.heap.size rfl (.tmp 91) (.tmp 93) 73 24 (.agg #[(.int .i64 0), (.int .i64 0), (.int .i64 0), (.int .i64 0)]) 32 rfl Tryz.underlying73 info24 rfl (by decide) (by omega) u11 x11_2 (⟨t131, t132, t133, t134⟩ : S24) [.int .i64 t131, .int .i64 t132, .int .i64 t133, .int .i64 t134] (fun k_ => some k_ ≠ (u12 : Value).ownBlock ∧ k_ ≠ gb104 ∧ k_ ≠ gb110 ∧ k_ ≠ gb136) (fun _ => False) rfl mq31 ?aP (fun _ hk => hk.elim) ?aF ?aO ?aB ?aS ?aL ?_; (case aP => exact k24_mkM _ _ _ (⟨t131, t132, t133, t134⟩ : S24)); (case aB => exact kW); (case aF => exact (fun k_ hk => ⟨Kd.fresh' (Kd.R_lt (by (with_reducible repeat (first | apply Kd.R_alloc | apply Kd.R_drewN | apply Kd.R_drew)); exact (Kd.R_mono (rf4 (g := gb136) (Kd.R_mono HO_12.out (fun k_ hk => (⟨hk, hk.2⟩ : _ ∧ k_ ≠ gb136))) (fun _ hk => hk.2)) (fun _ h_ => h_.1)))) k_ hk, Kd.freshB (g := gb104) (o := .cells #[.int .i64 a0_0, .int .i64 a0_1, .int .i64 a0_2, .int .i64 a0_3] 24 (0, 0)) (kC NB104_136 BK104) k_ hk, Kd.freshB (g := gb110) (o := .cells #[.int .i64 t105, .int .i64 t106, .int .i64 t107, .int .i64 t108] 24 (0, 0)) (kC NB110_136 BK110) k_ hk, Kd.freshB (g := gb136) (o := .cells #[.int .i64 t131, .int .i64 t132, .int .i64 t133, .int .i64 t134] 24 (0, 0)) (kP4 BK136) k_ hk⟩)); (case aO => exact (by (with_reducible repeat (first | apply Kd.R_alloc | apply Kd.R_drewN | apply Kd.R_drew)); exact Kd.R_mono (rf4 (g := gb136) (Kd.R_mono HO_11.out (fun k_ hk => (⟨hk, hk.2⟩ : _ ∧ k_ ≠ gb136))) (fun _ hk => hk.2)) (fun _ hk => ⟨hk.1.1.1, ⟨hk.1.1.2.1, ⟨hk.1.1.2.2, hk.1.2⟩⟩⟩))); (case aS => exact (below_size kW)); (case aL => have := LMc72.out; omega); intro v138 w80 ho hb hg hat; rw [← Ny137.out] at ho; replace HO_12 := ak (Kd.R_after (ok := (fun k_ => k_ ≠ gb104 ∧ k_ ≠ gb110 ∧ k_ ≠ gb136)) (by (with_reducible repeat (first | apply Kd.R_alloc | apply Kd.R_drewN | apply Kd.R_drew)); exact Kd.R_mono (rf4 (g := gb136) (Kd.R_mono HO_12.out (fun k_ hk => (⟨hk, hk.2⟩ : _ ∧ k_ ≠ gb136))) (fun _ hk => hk.2)) (fun _ hk => ⟨⟨hk.1.1.2.1, ⟨hk.1.1.2.2, hk.1.2⟩⟩, hk.1.1.1⟩)) hg hat); replace BK104 := ak (blk_grown (g := gb104) (o := .cells #[.int .i64 a0_0, .int .i64 a0_1, .int .i64 a0_2, .int .i64 a0_3] 24 (0, 0)) (kC NB104_136 BK104) hg (Kd.R_away HO_11.out (fun _ hk => hk.1.2.1))); replace BK110 := ak (blk_grown (g := gb110) (o := .cells #[.int .i64 t105, .int .i64 t106, .int .i64 t107, .int .i64 t108] 24 (0, 0)) (kC NB110_136 BK110) hg (Kd.R_away HO_11.out (fun _ hk => hk.1.2.2))); replace BK136 := ak (blk_grown (g := gb136) (o := .cells #[.int .i64 t131, .int .i64 t132, .int .i64 t133, .int .i64 t134] 24 (0, 0)) (kP4 BK136) hg (Kd.R_away HO_11.out (fun _ hk => hk.2))); replace HB := ak (hb); have HO139 := ak (ho); clear HO_11; clear ho hb hg hat))
             go_roundg k2
             case measure => have := HJ4.out; have := HK2.out; omega
             case rel => exact ⟨(y137), (x12_2), (wrap64 (x13_2 + (rd l2 x42_2))), (wrap64 (x42_2 + 1)), mq39, mq39, H', ⟨mq46 HJ4 HK2⟩, ⟨mq17 HO139⟩, ⟨mq21 HO_12⟩, ⟨mq28 BK104⟩, ⟨mq28 BK110⟩, ⟨kW⟩⟩
            ·rw [if_neg c72] at H
             exact absurd H (by simp)
        ·rw [if_neg c26] at H
         exact absurd H (by simp)
       ·rw [if_neg c25] at H
        exact absurd H (by simp)
      ·rw [if_neg c24] at H
       have c24b0 : decide (x42_2 < (l2.length : Int)) = false := decide_eq_false c24
       clear c24
       by_cases c81 : x13_2 = (wrap64 (t105 + t107))
       ·rw [if_pos c81] at H
        have c81b0 : (x13_2 == (wrap64 (t105 + t107))) = true := beq_iff_eq.mpr c81
        have c81b1 : (x13_2 != (wrap64 (t105 + t107))) = false := bne_eq_false_iff_eq.mpr c81
        clear c81
        simp only [Option.some.injEq, Prod.mk.injEq] at H
        obtain ⟨rfl, rfl, rfl⟩ := H
        have hnb82 := NB110_104.out
        have hnc82 := NB104_110.out
        obtain ⟨hcz83_0, hcz83_1, hcz83_2, hcz83_3⟩ := cz4 BK110
        obtain ⟨hfz83_0, hfz83_1, hfz83_2, hfz83_3⟩ := fz4 BK110
        go_wp2
        go_ret3
        exact ⟨_, _, mq37, mq14 HO_11, mq14 HO_12, kW⟩
       ·rw [if_neg c81] at H
        have c81b0 : (x13_2 == (wrap64 (t105 + t107))) = false := beq_eq_false_iff_ne.mpr c81
        have c81b1 : (x13_2 != (wrap64 (t105 + t107))) = true := bne_iff_ne.mpr c81
        simp only [Option.some.injEq, Prod.mk.injEq] at H
        obtain ⟨rfl, rfl, rfl⟩ := H
        have hnb84 := NB110_104.out
        have hnc84 := NB104_110.out
        obtain ⟨hcz85_0, hcz85_1, hcz85_2, hcz85_3⟩ := cz4 BK110
        obtain ⟨hfz85_0, hfz85_1, hfz85_2, hfz85_3⟩ := fz4 BK110
        go_wp2
        go_ret3
        exact ⟨_, _, mq37, mq35, mq35, kW⟩
def tile_cut.l0 : Nat → List Int → List (S27) → Int → Int → Int → Int → Int → Int → Int → Int → List (S27) → Option ((List (S24)) × (List (S24)) × Bool)
 | 0, _, _, _, _, _, _, _, _, _, _, _ => none
 | k + 1, x5, x9, x10, x11, x141000, x141001, x141002, x141003, x141004, x141005, x141006 => if x11 < x10 then (if 0 ≤ x11 then (if x11 < (x9.length : Int) then (if x141000 = 2 then (if x5.length < 17592186044416 then (tile_cut.l0 k (x5 ++ [(rd_T27 x9 x11).f1.f2]) x9 x10 (wrap64 (x11 + 1)) x141000 x141001 x141002 x141003 x141004 x141005 x141006) else (none)) else (if x5.length < 17592186044416 then (tile_cut.l0 k (x5 ++ [(rd_T27 x9 x11).f1.f3]) x9 x10 (wrap64 (x11 + 1)) x141000 x141001 x141002 x141003 x141004 x141005 x141006) else (none))) else (none)) else (none)) else ((rect_Cut.f k x141001 x141002 x141003 x141004 ((((x141000 - 2) % 256) + 1) % 256) x5).bind fun bt149 => (some (bt149.1, bt149.2.1, bt149.2.2)))
def tile_cut.f (k : Nat) (a0_0 : Int) (a0_1 : Int) (a0_2 : Int) (a0_3 : Int) (a0_4 : Int) (a0_5 : Int) (l0_6 : List (S27)) : Option ((List (S24)) × (List (S24)) × Bool) := tile_cut.l0 k ([] : List Int) l0_6 (l0_6.length : Int) 0 a0_0 a0_1 a0_2 a0_3 a0_4 a0_5 l0_6
set_option maxHeartbeats 8000000 in
set_option maxRecDepth 100000 in
theorem tile_cut.calls (k : Nat) (a0_0 : Int) (a0_1 : Int) (a0_2 : Int) (a0_3 : Int) (a0_4 : Int) (a0_5 : Int) (A0_6 : Option Addr) (c0_6 : Nat) (l0_6 : List (S27)) (r1 : List (S24)) (r2 : List (S24)) (r3 : Bool) (w : World) (hr0_6 : Kd.C k27 w A0_6 l0_6.length l0_6) (hc0_6 : l0_6.length ≤ c0_6) (h : tile_cut.f k a0_0 a0_1 a0_2 a0_3 a0_4 a0_5 l0_6 = some (r1, r2, r3)) :
  Calls Tryz.prog 137 #[.agg #[.int .u8 a0_0, .int .i64 a0_1, .int .i64 a0_2, .int .i64 a0_3, .int .i64 a0_4, .int .i64 a0_5, .slice A0_6 l0_6.length c0_6]] w fun e w' => ∃ v0_ v1_ : Value, e = .returned (.tuple #[v0_, v1_, .bool r3]) ∧ Kd.R k24 24 w' w.heap.size (fun k_ => some k_ ≠ (v1_ : Value).ownBlock) v0_ r1 ∧ Kd.R k24 24 w' w.heap.size (fun k_ => some k_ ≠ (v0_ : Value).ownBlock) v1_ r2 ∧ Below w.heap.size w w' := by
 have hu27 := Tryz.underlying27
 have hu24 := Tryz.underlying24
 have HR0_6 := ak hr0_6
 have HC0_6 := ak hc0_6
 clear hr0_6 hc0_6
 have HB := ak (Below.refl w.heap.size w)
 have H : (tile_cut.l0 k ([] : List Int) l0_6 (l0_6.length : Int) 0 a0_0 a0_1 a0_2 a0_3 a0_4 a0_5 l0_6) = some (r1, r2, r3) := h
 clear h
 have H' := ak H
 clear H
 go_enter Tryz.func137, Tryz.ntmps137
 go_wp2_with (first | ((with_reducible refine gate_dst (N := 1) rfl ?_); refine bxe 1 #[.int .u8 a0_0, .int .i64 a0_1, .int .i64 a0_2, .int .i64 a0_3, .int .i64 a0_4, .int .i64 a0_5, .slice A0_6 l0_6.length c0_6] 27 (h := ?_); intro gb140 hg w2 hbox hb; have BK140 := ak (hbox); have GW140 := ak ((mq53 : w.heap.size ≤ gb140)); have GE140 := ak ((mq53 : w.heap.size ≤ gb140)); replace HB := ak (below_step kW hb); clear hb hbox hg; obtain ⟨hcz3_0, hcz3_1, hcz3_2, hcz3_3, hcz3_4, hcz3_5, hcz3_6⟩ := cz7 BK140; obtain ⟨hfz3_0, hfz3_1, hfz3_2, hfz3_3, hfz3_4, hfz3_5, hfz3_6⟩ := fz7 BK140))
 go_loopg [5, 11] k (fun kq v5 v11 w' => ∃ (x5_1 : List Int) (x11_1 : Int), v11 = .int .i64 x11_1 ∧ Aside0 (tile_cut.l0 kq x5_1 l0_6 (l0_6.length : Int) x11_1 a0_0 a0_1 a0_2 a0_3 a0_4 a0_5 l0_6 = some (r1, r2, r3)) ∧ Aside0 (kq ≤ k) ∧ Aside0 (Kd.R (Kd.int .i64) 3 w' w.heap.size (fun _ => True) v5 x5_1) ∧ Aside0 (w'.heap[gb140]? = some (.cells #[.int .u8 a0_0, .int .i64 a0_1, .int .i64 a0_2, .int .i64 a0_3, .int .i64 a0_4, .int .i64 a0_5, (.slice A0_6 l0_6.length c0_6)] 27 (0, 0))) ∧ Aside0 (Below w.heap.size w w'))
 case atStart => exact ⟨(([] : List Int)), (0), mq39, H', ⟨Nat.le_refl _⟩, ⟨mq35⟩, ⟨mq28 BK140⟩, ⟨kW⟩⟩
 case round =>
  clear H'
  clear hcz3_0 hcz3_1 hcz3_2 hcz3_3 hcz3_4 hcz3_5 hcz3_6 hfz3_0 hfz3_1 hfz3_2 hfz3_3 hfz3_4 hfz3_5 hfz3_6
  obtain ⟨x5_1, x11_1, rfl, HA, HK1, HO_5, BK140, HB⟩ := hrel
  cases gk with
  | zero => exact absurd HA.out (by simp [tile_cut.l0])
  | succ k1 =>
   have H := HA.out
   clear HA
   simp only [tile_cut.l0] at H
   by_cases c4 : x11_1 < (l0_6.length : Int)
   ·rw [if_pos c4] at H
    have c4b0 : decide (x11_1 < (l0_6.length : Int)) = true := decide_eq_true c4
    clear c4
    by_cases c5 : 0 ≤ x11_1
    ·rw [if_pos c5] at H
     have c5b0 : decide (0 ≤ x11_1) = true := decide_eq_true c5
     clear c5
     by_cases c6 : x11_1 < (l0_6.length : Int)
     ·rw [if_pos c6] at H
      have c6b0 : decide (x11_1 < (l0_6.length : Int)) = true := decide_eq_true c6
      clear c6
      by_cases c7 : a0_0 = 2
      ·rw [if_pos c7] at H
       have c7b0 : (a0_0 == 2) = true := beq_iff_eq.mpr c7
       have c7b1 : (a0_0 != 2) = false := bne_eq_false_iff_eq.mpr c7
       clear c7
       by_cases c8 : x5_1.length < 17592186044416
       ·rw [if_pos c8] at H
        have LMc8 := ak c8
        clear c8
        obtain ⟨y143, hy143⟩ : ∃ y_ : List Int, y_ = (x5_1 ++ [(rd_T27 l0_6 x11_1).f1.f2]) := ⟨_, rfl⟩
        replace H : (tile_cut.l0 k1 y143 l0_6 (l0_6.length : Int) (wrap64 (x11_1 + 1)) a0_0 a0_1 a0_2 a0_3 a0_4 a0_5 l0_6) = some (r1, r2, r3) := mq33 hy143
        have Ny143 := ak hy143
        clear hy143
        have H' := ak H
        clear H
        have p141 : 0 ≤ (x11_1 : Int) := of_decide_eq_true mq34
        have q141 : x11_1 < (l0_6.length : Int) := of_decide_eq_true mq34
        obtain ⟨ad141, A141_6, c141_6, e141, hx141_0, hx141_1, hx141_2, hx141_3, hx141_4, hx141_5, hx141_6, HC141_6, HR141_6⟩ := elC27 HB HR0_6 x11_1 p141 q141
        cases e141
        replace p141 := eq_true p141
        replace q141 := eq_true q141
        go_wp2_with (first | ((with_reducible refine gate_dst (N := 7) rfl ?_); refine bxe 7 #[.int .u8 0, .int .i64 0, .int .i64 0, .int .i64 0, .int .i64 0, .int .i64 0, .slice none 0 0] 27 (h := ?_); intro gb142 hg w9 hbox hb; replace HO_5 := ak (Kd.R_below (kR HO_5) hb); have BK142 := ak (hbox); have GW142 := ak ((mq53 : w.heap.size ≤ gb142)); have GE142 := ak ((mq53 : w.heap.size ≤ gb142)); replace HB := ak (below_step kW hb); have NB140_142 := kE BK140 hg; have NB142_140 := kE' BK140 hg; replace BK140 := (kB BK140 hb); clear hb hbox hg; have hnb10 := NB142_140.out; have hnc10 := NB140_142.out; obtain ⟨hcz11_0, hcz11_1, hcz11_2, hcz11_3, hcz11_4, hcz11_5, hcz11_6⟩ := cz7 BK142; obtain ⟨hfz11_0, hfz11_1, hfz11_2, hfz11_3, hfz11_4, hfz11_5, hfz11_6⟩ := fz7 BK142; obtain ⟨hcz12_0, hcz12_1, hcz12_2, hcz12_3, hcz12_4, hcz12_5, hcz12_6⟩ := cz7 BK140; obtain ⟨hfz12_0, hfz12_1, hfz12_2, hfz12_3, hfz12_4, hfz12_5, hfz12_6⟩ := fz7 BK140) | ((with_reducible refine gate_builtin (b := .append) (xs := #[.tmp 18, .tmp 22]) rfl ?_); at_builtin; refine Kd.R_append (Kd.int .i64) (w0 := w) w.heap.size rfl (.tmp 18) (.tmp 22) 45 3 (.int .i64 0) 8 rfl Tryz.underlying45 info3 rfl (by decide) (by omega) u5 x5_1 ((rd_T27 l0_6 x11_1).f1.f2) [.int .i64 ((rd_T27 l0_6 x11_1).f1.f2)] (fun _ => True) (fun _ => False) rfl mq31 ?aP (fun _ hk => hk.elim) ?aF ?aO ?aB ?aS ?aL ?_; (case aP => exact rfl); (case aB => exact kW); (case aF => exact (fun _ _ => trivial)); (case aO => exact (mq13 HO_5 BK142)); (case aS => exact (below_size kW)); (case aL => have := LMc8.out; omega); intro v144 w13 ho hb hg hat; rw [← Ny143.out] at ho; replace BK140 := ak (blk_grown (g := gb140) (o := .cells #[.int .u8 a0_0, .int .i64 a0_1, .int .i64 a0_2, .int .i64 a0_3, .int .i64 a0_4, .int .i64 a0_5, .slice (some ad141) l0_6.length c0_6] 27 (0, 0)) (kC NB140_142 BK140) hg (Kd.R_ne HO_5.out BK140.out (by decide))); replace BK142 := ak (blk_grown (g := gb142) (o := .cells #[.int .u8 ((rd_T27 l0_6 x11_1).f0), .int .i64 ((rd_T27 l0_6 x11_1).f1.f0), .int .i64 ((rd_T27 l0_6 x11_1).f1.f1), .int .i64 ((rd_T27 l0_6 x11_1).f1.f2), .int .i64 ((rd_T27 l0_6 x11_1).f1.f3), .int .i64 ((rd_T27 l0_6 x11_1).f2), .slice A141_6 ((rd_T27 l0_6 x11_1).f3).length c141_6] 27 (0, 0)) (kP7 BK142) hg (Kd.R_ne HO_5.out BK142.out (by decide))); replace HB := ak (hb); have HO145 := ak (ho); clear HO_5; clear ho hb hg hat))
        go_roundg k1
        case measure => have := HK1.out; omega
        case rel => exact ⟨(y143), (wrap64 (x11_1 + 1)), mq39, H', ⟨mq47 HK1⟩, ⟨mq24 HO145⟩, ⟨mq28 BK140⟩, ⟨kW⟩⟩
       ·rw [if_neg c8] at H
        exact absurd H (by simp)
      ·rw [if_neg c7] at H
       have c7b0 : (a0_0 == 2) = false := beq_eq_false_iff_ne.mpr c7
       have c7b1 : (a0_0 != 2) = true := bne_iff_ne.mpr c7
       by_cases c14 : x5_1.length < 17592186044416
       ·rw [if_pos c14] at H
        have LMc14 := ak c14
        clear c14
        obtain ⟨y146, hy146⟩ : ∃ y_ : List Int, y_ = (x5_1 ++ [(rd_T27 l0_6 x11_1).f1.f3]) := ⟨_, rfl⟩
        replace H : (tile_cut.l0 k1 y146 l0_6 (l0_6.length : Int) (wrap64 (x11_1 + 1)) a0_0 a0_1 a0_2 a0_3 a0_4 a0_5 l0_6) = some (r1, r2, r3) := mq33 hy146
        have Ny146 := ak hy146
        clear hy146
        have H' := ak H
        clear H
        have p141 : 0 ≤ (x11_1 : Int) := of_decide_eq_true mq34
        have q141 : x11_1 < (l0_6.length : Int) := of_decide_eq_true mq34
        obtain ⟨ad141, A141_6, c141_6, e141, hx141_0, hx141_1, hx141_2, hx141_3, hx141_4, hx141_5, hx141_6, HC141_6, HR141_6⟩ := elC27 HB HR0_6 x11_1 p141 q141
        cases e141
        replace p141 := eq_true p141
        replace q141 := eq_true q141
        go_wp2_with (first | ((with_reducible refine gate_dst (N := 7) rfl ?_); refine bxe 7 #[.int .u8 0, .int .i64 0, .int .i64 0, .int .i64 0, .int .i64 0, .int .i64 0, .slice none 0 0] 27 (h := ?_); intro gb142 hg w15 hbox hb; replace HO_5 := ak (Kd.R_below (kR HO_5) hb); have BK142 := ak (hbox); have GW142 := ak ((mq53 : w.heap.size ≤ gb142)); have GE142 := ak ((mq53 : w.heap.size ≤ gb142)); replace HB := ak (below_step kW hb); have NB140_142 := kE BK140 hg; have NB142_140 := kE' BK140 hg; replace BK140 := (kB BK140 hb); clear hb hbox hg; have hnb16 := NB142_140.out; have hnc16 := NB140_142.out; obtain ⟨hcz17_0, hcz17_1, hcz17_2, hcz17_3, hcz17_4, hcz17_5, hcz17_6⟩ := cz7 BK142; obtain ⟨hfz17_0, hfz17_1, hfz17_2, hfz17_3, hfz17_4, hfz17_5, hfz17_6⟩ := fz7 BK142; obtain ⟨hcz18_0, hcz18_1, hcz18_2, hcz18_3, hcz18_4, hcz18_5, hcz18_6⟩ := cz7 BK140; obtain ⟨hfz18_0, hfz18_1, hfz18_2, hfz18_3, hfz18_4, hfz18_5, hfz18_6⟩ := fz7 BK140) | ((with_reducible refine gate_builtin (b := .append) (xs := #[.tmp 24, .tmp 28]) rfl ?_); at_builtin; refine Kd.R_append (Kd.int .i64) (w0 := w) w.heap.size rfl (.tmp 24) (.tmp 28) 45 3 (.int .i64 0) 8 rfl Tryz.underlying45 info3 rfl (by decide) (by omega) u5 x5_1 ((rd_T27 l0_6 x11_1).f1.f3) [.int .i64 ((rd_T27 l0_6 x11_1).f1.f3)] (fun _ => True) (fun _ => False) rfl mq31 ?aP (fun _ hk => hk.elim) ?aF ?aO ?aB ?aS ?aL ?_; (case aP => exact rfl); (case aB => exact kW); (case aF => exact (fun _ _ => trivial)); (case aO => exact (mq13 HO_5 BK142)); (case aS => exact (below_size kW)); (case aL => have := LMc14.out; omega); intro v147 w19 ho hb hg hat; rw [← Ny146.out] at ho; replace BK140 := ak (blk_grown (g := gb140) (o := .cells #[.int .u8 a0_0, .int .i64 a0_1, .int .i64 a0_2, .int .i64 a0_3, .int .i64 a0_4, .int .i64 a0_5, .slice (some ad141) l0_6.length c0_6] 27 (0, 0)) (kC NB140_142 BK140) hg (Kd.R_ne HO_5.out BK140.out (by decide))); replace BK142 := ak (blk_grown (g := gb142) (o := .cells #[.int .u8 ((rd_T27 l0_6 x11_1).f0), .int .i64 ((rd_T27 l0_6 x11_1).f1.f0), .int .i64 ((rd_T27 l0_6 x11_1).f1.f1), .int .i64 ((rd_T27 l0_6 x11_1).f1.f2), .int .i64 ((rd_T27 l0_6 x11_1).f1.f3), .int .i64 ((rd_T27 l0_6 x11_1).f2), .slice A141_6 ((rd_T27 l0_6 x11_1).f3).length c141_6] 27 (0, 0)) (kP7 BK142) hg (Kd.R_ne HO_5.out BK142.out (by decide))); replace HB := ak (hb); have HO148 := ak (ho); clear HO_5; clear ho hb hg hat))
        go_roundg k1
        case measure => have := HK1.out; omega
        case rel => exact ⟨(y146), (wrap64 (x11_1 + 1)), mq39, H', ⟨mq47 HK1⟩, ⟨mq24 HO148⟩, ⟨mq28 BK140⟩, ⟨kW⟩⟩
       ·rw [if_neg c14] at H
        exact absurd H (by simp)
     ·rw [if_neg c6] at H
      exact absurd H (by simp)
    ·rw [if_neg c5] at H
     exact absurd H (by simp)
   ·rw [if_neg c4] at H
    have c4b0 : decide (x11_1 < (l0_6.length : Int)) = false := decide_eq_false c4
    clear c4
    replace H := Option.bind_eq_some_iff.mp H
    obtain ⟨⟨t149, t152, t155⟩, A200, H⟩ := H
    replace H : (some (t149, t152, t155)) = some (r1, r2, r3) := H
    have A20 := ak A200
    clear A200
    simp only [Option.some.injEq, Prod.mk.injEq] at H
    obtain ⟨rfl, rfl, rfl⟩ := H
    obtain ⟨hcz21_0, hcz21_1, hcz21_2, hcz21_3, hcz21_4, hcz21_5, hcz21_6⟩ := cz7 BK140
    obtain ⟨hfz21_0, hfz21_1, hfz21_2, hfz21_3, hfz21_4, hfz21_5, hfz21_6⟩ := fz7 BK140
    obtain ⟨Ao22, co22, eo22⟩ := Kd.R_slice HO_5.out
    subst eo22
    go_wp2_with (first | ((with_reducible refine gate_callee (f := 149) rfl ?_); refine gol (some 38) Tryz.func149 #[.agg #[.int .i64 a0_1, .int .i64 a0_2, .int .i64 a0_3, .int .i64 a0_4], .int .u8 ((((a0_0 - 2) % 256) + 1) % 256), .slice Ao22 x5_1.length co22] (h := ?_); (with_reducible refine (rect_Cut.calls k1 a0_1 a0_2 a0_3 a0_4 ((((a0_0 - 2) % 256) + 1) % 256) _ _ x5_1 t149 t152 t155 _ ?side1 ?side2 A20.out).mono ?_); (case side1 => repeat (first | exact (Kd.R_reads' HO_5.out).2.2 | (with_reducible refine Kd.C_alloc ?_ _) | (with_reducible refine Kd.C_drewN ?_ _) | (with_reducible refine Kd.C_drew ?_))); (case side2 => exact (Kd.R_reads' HO_5.out).2.1); rintro e w23 ⟨v150, v153, rfl, ho0, ho1, hb⟩; refine ⟨_, rfl, ?_⟩; replace HO_5 := ak (Kd.R_below (kR HO_5) hb); have HO151 := ak (Kd.R_lower ho0 (below_size kW)); have HO154 := ak (Kd.R_lower ho1 (below_size kW)); replace BK140 := (kB BK140 hb); replace HB := ak (below_step kW hb); (try clear hb); (try clear hb2); (try clear hk); (try clear hi); (try clear ho0); (try clear ho1)))
    go_ret3
    exact ⟨_, _, mq37, mq24 HO151, mq24 HO154, kW⟩
end Go.Proofs.YtkobpbbegalfpaaGreatDoor.PParseBodies
