/- Printed texts of this seat, cut to what is used. -/
import Derived.Test.YtmcjfnebkpifnaaDoorPScriptLinesx0
namespace Go.Proofs.YtmcjfnebkpifnaaDoor.PScriptLines
open Go.RowKit Go.Proofs.YtmcjfnebkpifnaaDoorW.PrintWords Go.Proofs.YtmcjfnebkpifnaaDoorW.PrintLast Go.Proofs.YtmcjfnebkpifnaaDoorW.PrintMore
attribute [local go_sem] max2_int min2_int max_two min_two max_three min_three max_four min_four   -- for this text's walks alone
set_option linter.unusedVariables false
set_option linter.unusedSimpArgs false

def sashref25_May.j0 : Nat → Bool → Int → Int → ByteArray → Option (Bool)
  | 0, _, _, _, _ => none
  | k + 1, x20, x164000, x164001, x164002 => if x20 = true then (some false) else (if x164000 = 1 then (if x164001 = 0 then (if x164002.toList = ([] : List UInt8) then (if x164000 = 3 then (some true) else (some (decide ((x164002.size : Int) ≤ 65535)))) else (if x164000 < 3 then (some false) else (if x164000 > 5 then (some false) else (if x164000 = 3 then (some true) else (some (decide ((x164002.size : Int) ≤ 65535))))))) else (some false)) else (if x164002.toList = ([] : List UInt8) then (if x164000 = 3 then (some true) else (some (decide ((x164002.size : Int) ≤ 65535)))) else (if x164000 < 3 then (some false) else (if x164000 > 5 then (some false) else (if x164000 = 3 then (some true) else (some (decide ((x164002.size : Int) ≤ 65535))))))))
def sashref25_May.f (k : Nat) (a0_0 : Int) (a0_1 : Int) (a0_2 : ByteArray) : Option (Bool) := if a0_0 < 1 then (sashref25_May.j0 k true a0_0 a0_1 a0_2) else (if a0_0 > 6 then (sashref25_May.j0 k true a0_0 a0_1 a0_2) else (if a0_1 < 0 then (sashref25_May.j0 k true a0_0 a0_1 a0_2) else (sashref25_May.j0 k (decide (a0_1 > 2147483647)) a0_0 a0_1 a0_2)))
set_option maxHeartbeats 8000000 in
set_option maxRecDepth 100000 in
theorem sashref25_May.calls (k : Nat) (a0_0 : Int) (a0_1 : Int) (a0_2 : ByteArray) (r : Bool) (w : World) (h : sashref25_May.f k a0_0 a0_1 a0_2 = some r) :
    Calls Tryd.prog 26 #[.agg #[.int .u8 a0_0, .int .i64 a0_1, .string a0_2]] w fun e w' => e = .returned (.bool r) ∧ Below w.heap.size w w' := by
  have hu56 := Tryd.underlying56
  have HB := Aside0.mk (Below.refl w.heap.size w)
  have H : (if a0_0 < 1 then (sashref25_May.j0 k true a0_0 a0_1 a0_2) else (if a0_0 > 6 then (sashref25_May.j0 k true a0_0 a0_1 a0_2) else (if a0_1 < 0 then (sashref25_May.j0 k true a0_0 a0_1 a0_2) else (sashref25_May.j0 k (decide (a0_1 > 2147483647)) a0_0 a0_1 a0_2)))) = some r := h
  clear h
  have HC2 := Aside0.mk H
  clear H
  go_enter Tryd.func26, Tryd.ntmps26
  go_upto_region 1 with (first | ((with_reducible refine gate_dst (N := 1) rfl ?_); (try (refine gate_guard (by rfl) ?_; dsimp only)); refine box_event ?hg (N := 1) ?hd (cs := #[.int .u8 a0_0, .int .i64 a0_1, .string a0_2]) (t := 56) ?hr ?_; (case hd => rfl); (case hg => rfl); (case hr => first | (go_simp; done) | (go_simp; rfl)); intro gb163 hg w3 hbox hb; have n0_ := Aside0.mk (below_step (by repeat (first | (with_reducible first | exact HB.out | apply below_alloc | apply pw_below_drewN | apply below_drew1) | exact HB.out)) hb); have n1_ := Aside0.mk (hbox); have n2_ := Aside0.mk ((by rw [hg]; exact (below_size (by repeat (first | (with_reducible first | exact HB.out | apply below_alloc | apply pw_below_drewN | apply below_drew1) | exact HB.out))) : w.heap.size ≤ gb163)); have n3_ := Aside0.mk ((by rw [hg]; exact (below_size (by repeat (first | (with_reducible first | exact HB.out | apply below_alloc | apply pw_below_drewN | apply below_drew1) | exact HB.out))) : w.heap.size ≤ gb163)); clear HB; have HB := n0_; have BK163 := n1_; have GW163 := n2_; have GE163 := n3_; clear n0_ n1_ n2_ n3_; clear hb hbox hg))
  (try simp only [Act.put, List.setIfInBounds_toArray, List.set_cons_zero, List.set_cons_succ])
  go_cut [20] (fun v20 wc => ∃ (kq : Nat) (x20_1 : Bool), v20 = .bool x20_1 ∧ Aside0 (sashref25_May.j0 kq x20_1 a0_0 a0_1 a0_2 = some r) ∧ Aside0 (kq ≤ k) ∧ Aside0 (wc.heap[gb163]? = some (.cells #[.int .u8 a0_0, .int .i64 a0_1, .string a0_2] 56 (0, 0))) ∧ Aside0 (Below w.heap.size w wc))
  case first =>
    have H := HC2.out
    clear HC2
    by_cases c4 : a0_0 < 1
    · rw [if_pos c4] at H
      have c4b0 : decide (a0_0 < 1) = true := decide_eq_true c4
      clear c4
      (first | rw [c4b0] | (simp only [i64_w, i32_w]; rw [c4b0]) | skip)
      have H' := Aside0.mk H
      clear H
      have hcz5_0 : w3.cell? ⟨gb163, 0, none⟩ = some (.int .u8 a0_0) := (blk_cell BK163.out 0).trans rfl
      have hcz5_1 : w3.cell? ⟨gb163, 1, none⟩ = some (.int .i64 a0_1) := (blk_cell BK163.out 1).trans rfl
      have hcz5_2 : w3.cell? ⟨gb163, 2, none⟩ = some (.string a0_2) := (blk_cell BK163.out 2).trans rfl
      have hfz5_0 := blk_frozen BK163.out 0
      have hfz5_1 := blk_frozen BK163.out 1
      have hfz5_2 := blk_frozen BK163.out 2
      go_wp2
      go_meet
      case rel => exact ⟨_, (true), (by first | rfl | (simp; done) | (simp [*]; done)), H', ⟨by first | omega | exact Nat.le_refl _⟩, ⟨by (with_reducible repeat (first | refine blk_drewN ?_ _ | refine blk_drew ?_ | refine blk_alloc ?_ _)); exact BK163.out⟩, ⟨by repeat (first | (with_reducible first | exact HB.out | apply below_alloc | apply pw_below_drewN | apply below_drew1 | refine below_set ?_ GE163.out) | exact HB.out)⟩⟩
    · rw [if_neg c4] at H
      have c4b0 : decide (a0_0 < 1) = false := decide_eq_false c4
      clear c4
      (first | rw [c4b0] | (simp only [i64_w, i32_w]; rw [c4b0]) | skip)
      by_cases c6 : a0_0 > 6
      · rw [if_pos c6] at H
        have c6b0 : decide (6 < a0_0) = true := decide_eq_true c6
        clear c6
        have H' := Aside0.mk H
        clear H
        have hcz7_0 : w3.cell? ⟨gb163, 0, none⟩ = some (.int .u8 a0_0) := (blk_cell BK163.out 0).trans rfl
        have hcz7_1 : w3.cell? ⟨gb163, 1, none⟩ = some (.int .i64 a0_1) := (blk_cell BK163.out 1).trans rfl
        have hcz7_2 : w3.cell? ⟨gb163, 2, none⟩ = some (.string a0_2) := (blk_cell BK163.out 2).trans rfl
        have hfz7_0 := blk_frozen BK163.out 0
        have hfz7_1 := blk_frozen BK163.out 1
        have hfz7_2 := blk_frozen BK163.out 2
        go_wp2
        go_meet
        case rel => exact ⟨_, (true), (by first | rfl | (simp; done) | (simp [*]; done)), H', ⟨by first | omega | exact Nat.le_refl _⟩, ⟨by (with_reducible repeat (first | refine blk_drewN ?_ _ | refine blk_drew ?_ | refine blk_alloc ?_ _)); exact BK163.out⟩, ⟨by repeat (first | (with_reducible first | exact HB.out | apply below_alloc | apply pw_below_drewN | apply below_drew1 | refine below_set ?_ GE163.out) | exact HB.out)⟩⟩
      · rw [if_neg c6] at H
        have c6b0 : decide (6 < a0_0) = false := decide_eq_false c6
        clear c6
        by_cases c8 : a0_1 < 0
        · rw [if_pos c8] at H
          have c8b0 : decide (a0_1 < 0) = true := decide_eq_true c8
          clear c8
          have H' := Aside0.mk H
          clear H
          have hcz9_0 : w3.cell? ⟨gb163, 0, none⟩ = some (.int .u8 a0_0) := (blk_cell BK163.out 0).trans rfl
          have hcz9_1 : w3.cell? ⟨gb163, 1, none⟩ = some (.int .i64 a0_1) := (blk_cell BK163.out 1).trans rfl
          have hcz9_2 : w3.cell? ⟨gb163, 2, none⟩ = some (.string a0_2) := (blk_cell BK163.out 2).trans rfl
          have hfz9_0 := blk_frozen BK163.out 0
          have hfz9_1 := blk_frozen BK163.out 1
          have hfz9_2 := blk_frozen BK163.out 2
          go_wp2
          go_meet
          case rel => exact ⟨_, (true), (by first | rfl | (simp; done) | (simp [*]; done)), H', ⟨by first | omega | exact Nat.le_refl _⟩, ⟨by (with_reducible repeat (first | refine blk_drewN ?_ _ | refine blk_drew ?_ | refine blk_alloc ?_ _)); exact BK163.out⟩, ⟨by repeat (first | (with_reducible first | exact HB.out | apply below_alloc | apply pw_below_drewN | apply below_drew1 | refine below_set ?_ GE163.out) | exact HB.out)⟩⟩
        · rw [if_neg c8] at H
          have c8b0 : decide (a0_1 < 0) = false := decide_eq_false c8
          clear c8
          have H' := Aside0.mk H
          clear H
          have hcz10_0 : w3.cell? ⟨gb163, 0, none⟩ = some (.int .u8 a0_0) := (blk_cell BK163.out 0).trans rfl
          have hcz10_1 : w3.cell? ⟨gb163, 1, none⟩ = some (.int .i64 a0_1) := (blk_cell BK163.out 1).trans rfl
          have hcz10_2 : w3.cell? ⟨gb163, 2, none⟩ = some (.string a0_2) := (blk_cell BK163.out 2).trans rfl
          have hfz10_0 := blk_frozen BK163.out 0
          have hfz10_1 := blk_frozen BK163.out 1
          have hfz10_2 := blk_frozen BK163.out 2
          go_wp2
          go_meet
          case rel => exact ⟨_, (decide (a0_1 > 2147483647)), (by first | rfl | (simp; done) | (simp [*]; done)), H', ⟨by first | omega | exact Nat.le_refl _⟩, ⟨by (with_reducible repeat (first | refine blk_drewN ?_ _ | refine blk_drew ?_ | refine blk_alloc ?_ _)); exact BK163.out⟩, ⟨by repeat (first | (with_reducible first | exact HB.out | apply below_alloc | apply pw_below_drewN | apply below_drew1 | refine below_set ?_ GE163.out) | exact HB.out)⟩⟩
  case rest =>
    clear HC2
    try clear c2
    try clear p2
    try clear c4
    try clear c4b0
    try clear c6
    try clear c6b0
    try clear c8
    try clear c8b0
    try clear hcz10_0
    try clear hcz10_1
    try clear hcz10_2
    try clear hcz5_0
    try clear hcz5_1
    try clear hcz5_2
    try clear hcz7_0
    try clear hcz7_1
    try clear hcz7_2
    try clear hcz9_0
    try clear hcz9_1
    try clear hcz9_2
    try clear hfz10_0
    try clear hfz10_1
    try clear hfz10_2
    try clear hfz5_0
    try clear hfz5_1
    try clear hfz5_2
    try clear hfz7_0
    try clear hfz7_1
    try clear hfz7_2
    try clear hfz9_0
    try clear hfz9_1
    try clear hfz9_2
    obtain ⟨kq, x20_1, rfl, HA, HJ1, BK163, HB⟩ := hcut
    cases kq with
    | zero => exact absurd HA.out (by simp [sashref25_May.j0])
    | succ kj1 =>
      have H := HA.out
      clear HA
      simp only [sashref25_May.j0] at H
      by_cases c11 : x20_1 = true
      · subst c11
        have H1 : (some false) = some r := by rw [if_pos rfl] at H; exact H
        clear H
        have H := H1
        clear H1
        obtain rfl := Option.some.inj H
        go_wp2
        go_ret
        exact ⟨by first | rfl | (simp [errW_none, errW_some] <;> rfl) | (simp [*, errW_none, errW_some] <;> rfl), by repeat (first | (with_reducible first | exact HB.out | apply below_alloc | apply pw_below_drewN | apply below_drew1 | refine below_set ?_ GE163.out) | exact HB.out)⟩
      · replace c11 := Bool.eq_false_iff.mpr c11
        subst c11
        have H1 : (if a0_0 = 1 then (if a0_1 = 0 then (if a0_2.toList = ([] : List UInt8) then (if a0_0 = 3 then (some true) else (some (decide ((a0_2.size : Int) ≤ 65535)))) else (if a0_0 < 3 then (some false) else (if a0_0 > 5 then (some false) else (if a0_0 = 3 then (some true) else (some (decide ((a0_2.size : Int) ≤ 65535))))))) else (some false)) else (if a0_2.toList = ([] : List UInt8) then (if a0_0 = 3 then (some true) else (some (decide ((a0_2.size : Int) ≤ 65535)))) else (if a0_0 < 3 then (some false) else (if a0_0 > 5 then (some false) else (if a0_0 = 3 then (some true) else (some (decide ((a0_2.size : Int) ≤ 65535)))))))) = some r := by rw [if_neg (show ¬ (false = true) by decide)] at H; exact H
        clear H
        have H := H1
        clear H1
        by_cases c12 : a0_0 = 1
        · rw [if_pos c12] at H
          have c12b0 : (a0_0 == 1) = true := beq_iff_eq.mpr c12
          have c12b1 : (a0_0 != 1) = false := bne_eq_false_iff_eq.mpr c12
          clear c12
          by_cases c13 : a0_1 = 0
          · rw [if_pos c13] at H
            have c13b0 : (a0_1 == 0) = true := beq_iff_eq.mpr c13
            have c13b1 : (a0_1 != 0) = false := bne_eq_false_iff_eq.mpr c13
            clear c13
            by_cases c14 : a0_2.toList = ([] : List UInt8)
            · rw [if_pos c14] at H
              have c14b0 : (a0_2.toList == ([] : List UInt8)) = true := beq_iff_eq.mpr c14
              have c14b1 : (a0_2.toList != ([] : List UInt8)) = false := bne_eq_false_iff_eq.mpr c14
              clear c14
              by_cases c15 : a0_0 = 3
              · rw [if_pos c15] at H
                have c15b0 : (a0_0 == 3) = true := beq_iff_eq.mpr c15
                have c15b1 : (a0_0 != 3) = false := bne_eq_false_iff_eq.mpr c15
                clear c15
                obtain rfl := Option.some.inj H
                have hcz16_0 : wc.cell? ⟨gb163, 0, none⟩ = some (.int .u8 a0_0) := (blk_cell BK163.out 0).trans rfl
                have hcz16_1 : wc.cell? ⟨gb163, 1, none⟩ = some (.int .i64 a0_1) := (blk_cell BK163.out 1).trans rfl
                have hcz16_2 : wc.cell? ⟨gb163, 2, none⟩ = some (.string a0_2) := (blk_cell BK163.out 2).trans rfl
                have hfz16_0 := blk_frozen BK163.out 0
                have hfz16_1 := blk_frozen BK163.out 1
                have hfz16_2 := blk_frozen BK163.out 2
                go_wp2
                go_ret
                exact ⟨by first | rfl | (simp [errW_none, errW_some] <;> rfl) | (simp [*, errW_none, errW_some] <;> rfl), by repeat (first | (with_reducible first | exact HB.out | apply below_alloc | apply pw_below_drewN | apply below_drew1 | refine below_set ?_ GE163.out) | exact HB.out)⟩
              · rw [if_neg c15] at H
                have c15b0 : (a0_0 == 3) = false := beq_eq_false_iff_ne.mpr c15
                have c15b1 : (a0_0 != 3) = true := bne_iff_ne.mpr c15
                obtain rfl := Option.some.inj H
                have hcz17_0 : wc.cell? ⟨gb163, 0, none⟩ = some (.int .u8 a0_0) := (blk_cell BK163.out 0).trans rfl
                have hcz17_1 : wc.cell? ⟨gb163, 1, none⟩ = some (.int .i64 a0_1) := (blk_cell BK163.out 1).trans rfl
                have hcz17_2 : wc.cell? ⟨gb163, 2, none⟩ = some (.string a0_2) := (blk_cell BK163.out 2).trans rfl
                have hfz17_0 := blk_frozen BK163.out 0
                have hfz17_1 := blk_frozen BK163.out 1
                have hfz17_2 := blk_frozen BK163.out 2
                go_wp2
                go_ret
                exact ⟨by first | rfl | (simp [errW_none, errW_some] <;> rfl) | (simp [*, errW_none, errW_some] <;> rfl), by repeat (first | (with_reducible first | exact HB.out | apply below_alloc | apply pw_below_drewN | apply below_drew1 | refine below_set ?_ GE163.out) | exact HB.out)⟩
            · rw [if_neg c14] at H
              have c14b0 : (a0_2.toList == ([] : List UInt8)) = false := beq_eq_false_iff_ne.mpr c14
              have c14b1 : (a0_2.toList != ([] : List UInt8)) = true := bne_iff_ne.mpr c14
              by_cases c18 : a0_0 < 3
              · rw [if_pos c18] at H
                have c18b0 : decide (a0_0 < 3) = true := decide_eq_true c18
                clear c18
                obtain rfl := Option.some.inj H
                have hcz19_0 : wc.cell? ⟨gb163, 0, none⟩ = some (.int .u8 a0_0) := (blk_cell BK163.out 0).trans rfl
                have hcz19_1 : wc.cell? ⟨gb163, 1, none⟩ = some (.int .i64 a0_1) := (blk_cell BK163.out 1).trans rfl
                have hcz19_2 : wc.cell? ⟨gb163, 2, none⟩ = some (.string a0_2) := (blk_cell BK163.out 2).trans rfl
                have hfz19_0 := blk_frozen BK163.out 0
                have hfz19_1 := blk_frozen BK163.out 1
                have hfz19_2 := blk_frozen BK163.out 2
                go_wp2
                go_ret
                exact ⟨by first | rfl | (simp [errW_none, errW_some] <;> rfl) | (simp [*, errW_none, errW_some] <;> rfl), by repeat (first | (with_reducible first | exact HB.out | apply below_alloc | apply pw_below_drewN | apply below_drew1 | refine below_set ?_ GE163.out) | exact HB.out)⟩
              · rw [if_neg c18] at H
                have c18b0 : decide (a0_0 < 3) = false := decide_eq_false c18
                clear c18
                by_cases c20 : a0_0 > 5
                · rw [if_pos c20] at H
                  have c20b0 : decide (5 < a0_0) = true := decide_eq_true c20
                  clear c20
                  obtain rfl := Option.some.inj H
                  have hcz21_0 : wc.cell? ⟨gb163, 0, none⟩ = some (.int .u8 a0_0) := (blk_cell BK163.out 0).trans rfl
                  have hcz21_1 : wc.cell? ⟨gb163, 1, none⟩ = some (.int .i64 a0_1) := (blk_cell BK163.out 1).trans rfl
                  have hcz21_2 : wc.cell? ⟨gb163, 2, none⟩ = some (.string a0_2) := (blk_cell BK163.out 2).trans rfl
                  have hfz21_0 := blk_frozen BK163.out 0
                  have hfz21_1 := blk_frozen BK163.out 1
                  have hfz21_2 := blk_frozen BK163.out 2
                  go_wp2
                  go_ret
                  exact ⟨by first | rfl | (simp [errW_none, errW_some] <;> rfl) | (simp [*, errW_none, errW_some] <;> rfl), by repeat (first | (with_reducible first | exact HB.out | apply below_alloc | apply pw_below_drewN | apply below_drew1 | refine below_set ?_ GE163.out) | exact HB.out)⟩
                · rw [if_neg c20] at H
                  have c20b0 : decide (5 < a0_0) = false := decide_eq_false c20
                  clear c20
                  by_cases c22 : a0_0 = 3
                  · rw [if_pos c22] at H
                    have c22b0 : (a0_0 == 3) = true := beq_iff_eq.mpr c22
                    have c22b1 : (a0_0 != 3) = false := bne_eq_false_iff_eq.mpr c22
                    clear c22
                    obtain rfl := Option.some.inj H
                    have hcz23_0 : wc.cell? ⟨gb163, 0, none⟩ = some (.int .u8 a0_0) := (blk_cell BK163.out 0).trans rfl
                    have hcz23_1 : wc.cell? ⟨gb163, 1, none⟩ = some (.int .i64 a0_1) := (blk_cell BK163.out 1).trans rfl
                    have hcz23_2 : wc.cell? ⟨gb163, 2, none⟩ = some (.string a0_2) := (blk_cell BK163.out 2).trans rfl
                    have hfz23_0 := blk_frozen BK163.out 0
                    have hfz23_1 := blk_frozen BK163.out 1
                    have hfz23_2 := blk_frozen BK163.out 2
                    go_wp2
                    go_ret
                    exact ⟨by first | rfl | (simp [errW_none, errW_some] <;> rfl) | (simp [*, errW_none, errW_some] <;> rfl), by repeat (first | (with_reducible first | exact HB.out | apply below_alloc | apply pw_below_drewN | apply below_drew1 | refine below_set ?_ GE163.out) | exact HB.out)⟩
                  · rw [if_neg c22] at H
                    have c22b0 : (a0_0 == 3) = false := beq_eq_false_iff_ne.mpr c22
                    have c22b1 : (a0_0 != 3) = true := bne_iff_ne.mpr c22
                    obtain rfl := Option.some.inj H
                    have hcz24_0 : wc.cell? ⟨gb163, 0, none⟩ = some (.int .u8 a0_0) := (blk_cell BK163.out 0).trans rfl
                    have hcz24_1 : wc.cell? ⟨gb163, 1, none⟩ = some (.int .i64 a0_1) := (blk_cell BK163.out 1).trans rfl
                    have hcz24_2 : wc.cell? ⟨gb163, 2, none⟩ = some (.string a0_2) := (blk_cell BK163.out 2).trans rfl
                    have hfz24_0 := blk_frozen BK163.out 0
                    have hfz24_1 := blk_frozen BK163.out 1
                    have hfz24_2 := blk_frozen BK163.out 2
                    go_wp2
                    go_ret
                    exact ⟨by first | rfl | (simp [errW_none, errW_some] <;> rfl) | (simp [*, errW_none, errW_some] <;> rfl), by repeat (first | (with_reducible first | exact HB.out | apply below_alloc | apply pw_below_drewN | apply below_drew1 | refine below_set ?_ GE163.out) | exact HB.out)⟩
          · rw [if_neg c13] at H
            have c13b0 : (a0_1 == 0) = false := beq_eq_false_iff_ne.mpr c13
            have c13b1 : (a0_1 != 0) = true := bne_iff_ne.mpr c13
            obtain rfl := Option.some.inj H
            have hcz25_0 : wc.cell? ⟨gb163, 0, none⟩ = some (.int .u8 a0_0) := (blk_cell BK163.out 0).trans rfl
            have hcz25_1 : wc.cell? ⟨gb163, 1, none⟩ = some (.int .i64 a0_1) := (blk_cell BK163.out 1).trans rfl
            have hcz25_2 : wc.cell? ⟨gb163, 2, none⟩ = some (.string a0_2) := (blk_cell BK163.out 2).trans rfl
            have hfz25_0 := blk_frozen BK163.out 0
            have hfz25_1 := blk_frozen BK163.out 1
            have hfz25_2 := blk_frozen BK163.out 2
            go_wp2
            go_ret
            exact ⟨by first | rfl | (simp [errW_none, errW_some] <;> rfl) | (simp [*, errW_none, errW_some] <;> rfl), by repeat (first | (with_reducible first | exact HB.out | apply below_alloc | apply pw_below_drewN | apply below_drew1 | refine below_set ?_ GE163.out) | exact HB.out)⟩
        · rw [if_neg c12] at H
          have c12b0 : (a0_0 == 1) = false := beq_eq_false_iff_ne.mpr c12
          have c12b1 : (a0_0 != 1) = true := bne_iff_ne.mpr c12
          by_cases c26 : a0_2.toList = ([] : List UInt8)
          · rw [if_pos c26] at H
            have c26b0 : (a0_2.toList == ([] : List UInt8)) = true := beq_iff_eq.mpr c26
            have c26b1 : (a0_2.toList != ([] : List UInt8)) = false := bne_eq_false_iff_eq.mpr c26
            clear c26
            by_cases c27 : a0_0 = 3
            · rw [if_pos c27] at H
              have c27b0 : (a0_0 == 3) = true := beq_iff_eq.mpr c27
              have c27b1 : (a0_0 != 3) = false := bne_eq_false_iff_eq.mpr c27
              clear c27
              obtain rfl := Option.some.inj H
              have hcz28_0 : wc.cell? ⟨gb163, 0, none⟩ = some (.int .u8 a0_0) := (blk_cell BK163.out 0).trans rfl
              have hcz28_1 : wc.cell? ⟨gb163, 1, none⟩ = some (.int .i64 a0_1) := (blk_cell BK163.out 1).trans rfl
              have hcz28_2 : wc.cell? ⟨gb163, 2, none⟩ = some (.string a0_2) := (blk_cell BK163.out 2).trans rfl
              have hfz28_0 := blk_frozen BK163.out 0
              have hfz28_1 := blk_frozen BK163.out 1
              have hfz28_2 := blk_frozen BK163.out 2
              go_wp2
              go_ret
              exact ⟨by first | rfl | (simp [errW_none, errW_some] <;> rfl) | (simp [*, errW_none, errW_some] <;> rfl), by repeat (first | (with_reducible first | exact HB.out | apply below_alloc | apply pw_below_drewN | apply below_drew1 | refine below_set ?_ GE163.out) | exact HB.out)⟩
            · rw [if_neg c27] at H
              have c27b0 : (a0_0 == 3) = false := beq_eq_false_iff_ne.mpr c27
              have c27b1 : (a0_0 != 3) = true := bne_iff_ne.mpr c27
              obtain rfl := Option.some.inj H
              have hcz29_0 : wc.cell? ⟨gb163, 0, none⟩ = some (.int .u8 a0_0) := (blk_cell BK163.out 0).trans rfl
              have hcz29_1 : wc.cell? ⟨gb163, 1, none⟩ = some (.int .i64 a0_1) := (blk_cell BK163.out 1).trans rfl
              have hcz29_2 : wc.cell? ⟨gb163, 2, none⟩ = some (.string a0_2) := (blk_cell BK163.out 2).trans rfl
              have hfz29_0 := blk_frozen BK163.out 0
              have hfz29_1 := blk_frozen BK163.out 1
              have hfz29_2 := blk_frozen BK163.out 2
              go_wp2
              go_ret
              exact ⟨by first | rfl | (simp [errW_none, errW_some] <;> rfl) | (simp [*, errW_none, errW_some] <;> rfl), by repeat (first | (with_reducible first | exact HB.out | apply below_alloc | apply pw_below_drewN | apply below_drew1 | refine below_set ?_ GE163.out) | exact HB.out)⟩
          · rw [if_neg c26] at H
            have c26b0 : (a0_2.toList == ([] : List UInt8)) = false := beq_eq_false_iff_ne.mpr c26
            have c26b1 : (a0_2.toList != ([] : List UInt8)) = true := bne_iff_ne.mpr c26
            by_cases c30 : a0_0 < 3
            · rw [if_pos c30] at H
              have c30b0 : decide (a0_0 < 3) = true := decide_eq_true c30
              clear c30
              obtain rfl := Option.some.inj H
              have hcz31_0 : wc.cell? ⟨gb163, 0, none⟩ = some (.int .u8 a0_0) := (blk_cell BK163.out 0).trans rfl
              have hcz31_1 : wc.cell? ⟨gb163, 1, none⟩ = some (.int .i64 a0_1) := (blk_cell BK163.out 1).trans rfl
              have hcz31_2 : wc.cell? ⟨gb163, 2, none⟩ = some (.string a0_2) := (blk_cell BK163.out 2).trans rfl
              have hfz31_0 := blk_frozen BK163.out 0
              have hfz31_1 := blk_frozen BK163.out 1
              have hfz31_2 := blk_frozen BK163.out 2
              go_wp2
              go_ret
              exact ⟨by first | rfl | (simp [errW_none, errW_some] <;> rfl) | (simp [*, errW_none, errW_some] <;> rfl), by repeat (first | (with_reducible first | exact HB.out | apply below_alloc | apply pw_below_drewN | apply below_drew1 | refine below_set ?_ GE163.out) | exact HB.out)⟩
            · rw [if_neg c30] at H
              have c30b0 : decide (a0_0 < 3) = false := decide_eq_false c30
              clear c30
              by_cases c32 : a0_0 > 5
              · rw [if_pos c32] at H
                have c32b0 : decide (5 < a0_0) = true := decide_eq_true c32
                clear c32
                obtain rfl := Option.some.inj H
                have hcz33_0 : wc.cell? ⟨gb163, 0, none⟩ = some (.int .u8 a0_0) := (blk_cell BK163.out 0).trans rfl
                have hcz33_1 : wc.cell? ⟨gb163, 1, none⟩ = some (.int .i64 a0_1) := (blk_cell BK163.out 1).trans rfl
                have hcz33_2 : wc.cell? ⟨gb163, 2, none⟩ = some (.string a0_2) := (blk_cell BK163.out 2).trans rfl
                have hfz33_0 := blk_frozen BK163.out 0
                have hfz33_1 := blk_frozen BK163.out 1
                have hfz33_2 := blk_frozen BK163.out 2
                go_wp2
                go_ret
                exact ⟨by first | rfl | (simp [errW_none, errW_some] <;> rfl) | (simp [*, errW_none, errW_some] <;> rfl), by repeat (first | (with_reducible first | exact HB.out | apply below_alloc | apply pw_below_drewN | apply below_drew1 | refine below_set ?_ GE163.out) | exact HB.out)⟩
              · rw [if_neg c32] at H
                have c32b0 : decide (5 < a0_0) = false := decide_eq_false c32
                clear c32
                by_cases c34 : a0_0 = 3
                · rw [if_pos c34] at H
                  have c34b0 : (a0_0 == 3) = true := beq_iff_eq.mpr c34
                  have c34b1 : (a0_0 != 3) = false := bne_eq_false_iff_eq.mpr c34
                  clear c34
                  obtain rfl := Option.some.inj H
                  have hcz35_0 : wc.cell? ⟨gb163, 0, none⟩ = some (.int .u8 a0_0) := (blk_cell BK163.out 0).trans rfl
                  have hcz35_1 : wc.cell? ⟨gb163, 1, none⟩ = some (.int .i64 a0_1) := (blk_cell BK163.out 1).trans rfl
                  have hcz35_2 : wc.cell? ⟨gb163, 2, none⟩ = some (.string a0_2) := (blk_cell BK163.out 2).trans rfl
                  have hfz35_0 := blk_frozen BK163.out 0
                  have hfz35_1 := blk_frozen BK163.out 1
                  have hfz35_2 := blk_frozen BK163.out 2
                  go_wp2
                  go_ret
                  exact ⟨by first | rfl | (simp [errW_none, errW_some] <;> rfl) | (simp [*, errW_none, errW_some] <;> rfl), by repeat (first | (with_reducible first | exact HB.out | apply below_alloc | apply pw_below_drewN | apply below_drew1 | refine below_set ?_ GE163.out) | exact HB.out)⟩
                · rw [if_neg c34] at H
                  have c34b0 : (a0_0 == 3) = false := beq_eq_false_iff_ne.mpr c34
                  have c34b1 : (a0_0 != 3) = true := bne_iff_ne.mpr c34
                  obtain rfl := Option.some.inj H
                  have hcz36_0 : wc.cell? ⟨gb163, 0, none⟩ = some (.int .u8 a0_0) := (blk_cell BK163.out 0).trans rfl
                  have hcz36_1 : wc.cell? ⟨gb163, 1, none⟩ = some (.int .i64 a0_1) := (blk_cell BK163.out 1).trans rfl
                  have hcz36_2 : wc.cell? ⟨gb163, 2, none⟩ = some (.string a0_2) := (blk_cell BK163.out 2).trans rfl
                  have hfz36_0 := blk_frozen BK163.out 0
                  have hfz36_1 := blk_frozen BK163.out 1
                  have hfz36_2 := blk_frozen BK163.out 2
                  go_wp2
                  go_ret
                  exact ⟨by first | rfl | (simp [errW_none, errW_some] <;> rfl) | (simp [*, errW_none, errW_some] <;> rfl), by repeat (first | (with_reducible first | exact HB.out | apply below_alloc | apply pw_below_drewN | apply below_drew1 | refine below_set ?_ GE163.out) | exact HB.out)⟩

mutual
def sashref23_Put.j0 : Nat → Bool → Int → ByteArray → Option (List Int × Int)
  | 0, _, _, _ => none
  | k + 1, x14, x165000, x165001 => if x14 = true then (some ((([] : List Int)), 1)) else (if (x165001.size : Int) > 65535 then (some ((([] : List Int)), 3)) else (sashref23_Put.l0 k (x165001.size : Int) (([x165000, 0, 0, (wrap64 ((x165001.size : Int) / 256)) % 256, (x165001.size : Int) % 256] : List Int)) 0 x165000 x165001))
def sashref23_Put.l0 : Nat → Int → List Int → Int → Int → ByteArray → Option (List Int × Int)
  | 0, _, _, _, _, _ => none
  | k + 1, x4, x5, x6, x165000, x165001 => if x6 < x4 then (if 0 ≤ x6 then (if x6 < (x165001.size : Int) then (if x5.length < 140737488355328 then (sashref23_Put.l0 k x4 (x5 ++ [bt x165001 x6]) (wrap64 (x6 + 1)) x165000 x165001) else (none)) else (none)) else (none)) else (some (x5, 0))
end
def sashref23_Put.f (k : Nat) (a0_0 : Int) (a0_1 : ByteArray) : Option (List Int × Int) := if a0_0 < 1 then (sashref23_Put.j0 k true a0_0 a0_1) else (sashref23_Put.j0 k (decide (a0_0 > 2)) a0_0 a0_1)
set_option maxHeartbeats 8000000 in
set_option maxRecDepth 100000 in
theorem sashref23_Put.calls (k : Nat) (a0_0 : Int) (a0_1 : ByteArray) (r1 : List Int) (r2 : Int) (w : World) (h : sashref23_Put.f k a0_0 a0_1 = some (r1, r2)) :
    Calls Tryd.prog 41 #[.agg #[.int .u8 a0_0, .string a0_1]] w fun e w' => ∃ v0_ : Value, e = .returned (.tuple #[v0_, .int .i64 r2]) ∧ Kd.R (Kd.int .u8) 5 w' w.heap.size (fun _ => True) v0_ r1 ∧ Below w.heap.size w w' := by
  have hu63 := Tryd.underlying63
  have HB := Aside0.mk (Below.refl w.heap.size w)
  have H : (if a0_0 < 1 then (sashref23_Put.j0 k true a0_0 a0_1) else (sashref23_Put.j0 k (decide (a0_0 > 2)) a0_0 a0_1)) = some (r1, r2) := h
  clear h
  have HC2 := Aside0.mk H
  clear H
  go_enter Tryd.func41, Tryd.ntmps41
  go_upto_region 1 with (first | ((with_reducible refine gate_dst (N := 1) rfl ?_); refine box_event ?hg (N := 1) ?hd (cs := #[.int .u8 a0_0, .string a0_1]) (t := 63) ?hr ?_; (case hd => rfl); (case hg => rfl); (case hr => first | (go_simp; done) | (go_simp; rfl)); intro gb164 hg w3 hbox hb; have n0_ := Aside0.mk (below_step (by repeat (first | (with_reducible first | exact HB.out | apply below_alloc | apply pw_below_drewN | apply below_drew1) | exact HB.out)) hb); have n1_ := Aside0.mk (hbox); have n2_ := Aside0.mk ((by rw [hg]; exact (below_size (by repeat (first | (with_reducible first | exact HB.out | apply below_alloc | apply pw_below_drewN | apply below_drew1) | exact HB.out))) : w.heap.size ≤ gb164)); have n3_ := Aside0.mk ((by rw [hg]; exact (below_size (by repeat (first | (with_reducible first | exact HB.out | apply below_alloc | apply pw_below_drewN | apply below_drew1) | exact HB.out))) : w.heap.size ≤ gb164)); clear HB; have HB := n0_; have BK164 := n1_; have GW164 := n2_; have GE164 := n3_; clear n0_ n1_ n2_ n3_; clear hb hbox hg))
  (try simp only [Act.put, List.setIfInBounds_toArray, List.set_cons_zero, List.set_cons_succ])
  go_cut [14] (fun v14 wc => ∃ (kq : Nat) (x14_1 : Bool), v14 = .bool x14_1 ∧ Aside0 (sashref23_Put.j0 kq x14_1 a0_0 a0_1 = some (r1, r2)) ∧ Aside0 (kq ≤ k) ∧ Aside0 (wc.heap[gb164]? = some (.cells #[.int .u8 a0_0, .string a0_1] 63 (0, 0))) ∧ Aside0 (Below w.heap.size w wc))
  case first =>
    have H := HC2.out
    clear HC2
    by_cases c4 : a0_0 < 1
    · rw [if_pos c4] at H
      have c4b0 : decide (a0_0 < 1) = true := decide_eq_true c4
      clear c4
      (first | rw [c4b0] | (simp only [i64_w, i32_w]; rw [c4b0]) | skip)
      have H' := Aside0.mk H
      clear H
      have hcz5_0 : w3.cell? ⟨gb164, 0, none⟩ = some (.int .u8 a0_0) := (blk_cell BK164.out 0).trans rfl
      have hcz5_1 : w3.cell? ⟨gb164, 1, none⟩ = some (.string a0_1) := (blk_cell BK164.out 1).trans rfl
      have hfz5_0 := blk_frozen BK164.out 0
      have hfz5_1 := blk_frozen BK164.out 1
      go_wp2
      go_meet
      case rel => exact ⟨_, (true), (by first | rfl | (simp; done) | (simp [*]; done)), H', ⟨by first | omega | exact Nat.le_refl _⟩, ⟨by (with_reducible repeat (first | refine blk_drewN ?_ _ | refine blk_drew ?_ | refine blk_alloc ?_ _)); exact BK164.out⟩, ⟨by repeat (first | (with_reducible first | exact HB.out | apply below_alloc | apply pw_below_drewN | apply below_drew1 | refine below_set ?_ GE164.out) | exact HB.out)⟩⟩
    · rw [if_neg c4] at H
      have c4b0 : decide (a0_0 < 1) = false := decide_eq_false c4
      clear c4
      (first | rw [c4b0] | (simp only [i64_w, i32_w]; rw [c4b0]) | skip)
      have H' := Aside0.mk H
      clear H
      have hcz6_0 : w3.cell? ⟨gb164, 0, none⟩ = some (.int .u8 a0_0) := (blk_cell BK164.out 0).trans rfl
      have hcz6_1 : w3.cell? ⟨gb164, 1, none⟩ = some (.string a0_1) := (blk_cell BK164.out 1).trans rfl
      have hfz6_0 := blk_frozen BK164.out 0
      have hfz6_1 := blk_frozen BK164.out 1
      go_wp2
      go_meet
      case rel => exact ⟨_, (decide (a0_0 > 2)), (by first | rfl | (simp; done) | (simp [*]; done)), H', ⟨by first | omega | exact Nat.le_refl _⟩, ⟨by (with_reducible repeat (first | refine blk_drewN ?_ _ | refine blk_drew ?_ | refine blk_alloc ?_ _)); exact BK164.out⟩, ⟨by repeat (first | (with_reducible first | exact HB.out | apply below_alloc | apply pw_below_drewN | apply below_drew1 | refine below_set ?_ GE164.out) | exact HB.out)⟩⟩
  case rest =>
    clear HC2
    try clear p2
    try clear c4
    try clear c4b0
    try clear hcz5_0
    try clear hcz5_1
    try clear hcz6_0
    try clear hcz6_1
    try clear hfz5_0
    try clear hfz5_1
    try clear hfz6_0
    try clear hfz6_1
    obtain ⟨kq, x14_1, rfl, HA, HJ1, BK164, HB⟩ := hcut
    cases kq with
    | zero => exact absurd HA.out (by simp [sashref23_Put.j0])
    | succ kj1 =>
      have H := HA.out
      clear HA
      simp only [sashref23_Put.j0] at H
      by_cases c7 : x14_1 = true
      · subst c7
        have H1 : (some ((([] : List Int)), 1)) = some (r1, r2) := by rw [if_pos rfl] at H; exact H
        clear H
        have H := H1
        clear H1
        obtain ⟨y165, hy165⟩ : ∃ y_ : List Int, y_ = (([] : List Int)) := ⟨_, rfl⟩
        replace H : (some (y165, 1)) = some (r1, r2) := by first | (rw [hy165]; with_reducible exact H) | (have H2_ := (Option.bind_some _ _).symm.trans H; rw [hy165]; with_reducible exact H2_) | (have H2_ := (Option.bind_some _ _).symm.trans H; with_reducible exact H2_) | with_reducible exact H | (rw [hy165]; exact H) | exact H
        have Ny165 := Aside0.mk hy165
        clear hy165
        simp only [Option.some.injEq, Prod.mk.injEq] at H
        obtain ⟨rfl, rfl⟩ := H
        go_wp2_with (first | ((with_reducible refine gate_dst (N := 15) rfl ?_); refine Kd.R_lit (Kd.int .u8) _ 5 ?hg (N := 15) ?hd (xs := ([] : List Int)) (inner := []) (ok := fun _ => True) (okp := fun _ => True) ?hr ?hp (fun _ hk => hk) trivial (Below.refl _ _) (Nat.le_refl _) (by simp) ?_; (case hd => rfl); (case hg => rfl); (case hr => first | (go_simp; done) | (go_simp; rfl)); (case hp => exact (Reps.none _ _)); intro v166 w8 ho9 hb hg_ hnew_; clear hg_ hnew_; (first | rw [← Ny165.out] at ho9 | (simp only [Int.reduceToNat] at ho9; rw [← Ny165.out] at ho9)); have n0_ := Aside0.mk (Kd.R_lower ho9 (below_size (by repeat (first | (with_reducible first | exact HB.out | apply below_alloc | apply pw_below_drewN | apply below_drew1 | refine below_set ?_ GE164.out) | exact HB.out)))); have n1_ := Aside0.mk (blk_below (g := gb164) (o := .cells #[.int .u8 a0_0, .string a0_1] 63 (0, 0)) (by (with_reducible repeat (first | refine blk_drewN ?_ _ | refine blk_drew ?_ | refine blk_alloc ?_ _)); exact BK164.out) hb); have n2_ := Aside0.mk (below_step (by repeat (first | (with_reducible first | exact HB.out | apply below_alloc | apply pw_below_drewN | apply below_drew1 | refine below_set ?_ GE164.out) | exact HB.out)) hb); clear BK164; clear HB; have HO167 := n0_; have BK164 := n1_; have HB := n2_; clear n0_ n1_ n2_; clear hb ho9))
        go_ret2
        exact ⟨_, by first | rfl | (simp [errW_none, errW_some] <;> rfl) | (simp [*, errW_none, errW_some] <;> rfl), by (with_reducible repeat (first | apply Kd.R_alloc | apply Kd.R_drewN | apply Kd.R_drew)); exact HO167.out, by repeat (first | (with_reducible first | exact HB.out | apply below_alloc | apply pw_below_drewN | apply below_drew1 | refine below_set ?_ GE164.out) | exact HB.out)⟩
      · replace c7 := Bool.eq_false_iff.mpr c7
        subst c7
        have H1 : (if (a0_1.size : Int) > 65535 then (some ((([] : List Int)), 3)) else (sashref23_Put.l0 kj1 (a0_1.size : Int) (([a0_0, 0, 0, (wrap64 ((a0_1.size : Int) / 256)) % 256, (a0_1.size : Int) % 256] : List Int)) 0 a0_0 a0_1)) = some (r1, r2) := by rw [if_neg (show ¬ (false = true) by decide)] at H; exact H
        clear H
        have H := H1
        clear H1
        by_cases c10 : (a0_1.size : Int) > 65535
        · rw [if_pos c10] at H
          have c10b0 : decide (65535 < (a0_1.size : Int)) = true := decide_eq_true c10
          have c10b1 : decide (65535 < a0_1.size) = true := decide_eq_true (by omega)
          clear c10
          obtain ⟨y168, hy168⟩ : ∃ y_ : List Int, y_ = (([] : List Int)) := ⟨_, rfl⟩
          replace H : (some (y168, 3)) = some (r1, r2) := by first | (rw [hy168]; with_reducible exact H) | (have H2_ := (Option.bind_some _ _).symm.trans H; rw [hy168]; with_reducible exact H2_) | (have H2_ := (Option.bind_some _ _).symm.trans H; with_reducible exact H2_) | with_reducible exact H | (rw [hy168]; exact H) | exact H
          have Ny168 := Aside0.mk hy168
          clear hy168
          simp only [Option.some.injEq, Prod.mk.injEq] at H
          obtain ⟨rfl, rfl⟩ := H
          have hcz11_0 : wc.cell? ⟨gb164, 0, none⟩ = some (.int .u8 a0_0) := (blk_cell BK164.out 0).trans rfl
          have hcz11_1 : wc.cell? ⟨gb164, 1, none⟩ = some (.string a0_1) := (blk_cell BK164.out 1).trans rfl
          have hfz11_0 := blk_frozen BK164.out 0
          have hfz11_1 := blk_frozen BK164.out 1
          go_wp2_with (first | ((with_reducible refine gate_dst (N := 21) rfl ?_); refine Kd.R_lit (Kd.int .u8) _ 5 ?hg (N := 21) ?hd (xs := ([] : List Int)) (inner := []) (ok := fun _ => True) (okp := fun _ => True) ?hr ?hp (fun _ hk => hk) trivial (Below.refl _ _) (Nat.le_refl _) (by simp) ?_; (case hd => rfl); (case hg => rfl); (case hr => first | (go_simp; done) | (go_simp; rfl)); (case hp => exact (Reps.none _ _)); intro v169 w12 ho13 hb hg_ hnew_; clear hg_ hnew_; (first | rw [← Ny168.out] at ho13 | (simp only [Int.reduceToNat] at ho13; rw [← Ny168.out] at ho13)); have n0_ := Aside0.mk (Kd.R_lower ho13 (below_size (by repeat (first | (with_reducible first | exact HB.out | apply below_alloc | apply pw_below_drewN | apply below_drew1 | refine below_set ?_ GE164.out) | exact HB.out)))); have n1_ := Aside0.mk (blk_below (g := gb164) (o := .cells #[.int .u8 a0_0, .string a0_1] 63 (0, 0)) (by (with_reducible repeat (first | refine blk_drewN ?_ _ | refine blk_drew ?_ | refine blk_alloc ?_ _)); exact BK164.out) hb); have n2_ := Aside0.mk (below_step (by repeat (first | (with_reducible first | exact HB.out | apply below_alloc | apply pw_below_drewN | apply below_drew1 | refine below_set ?_ GE164.out) | exact HB.out)) hb); clear BK164; clear HB; have HO170 := n0_; have BK164 := n1_; have HB := n2_; clear n0_ n1_ n2_; clear hb ho13))
          go_ret2
          exact ⟨_, by first | rfl | (simp [errW_none, errW_some] <;> rfl) | (simp [*, errW_none, errW_some] <;> rfl), by (with_reducible repeat (first | apply Kd.R_alloc | apply Kd.R_drewN | apply Kd.R_drew)); exact HO170.out, by repeat (first | (with_reducible first | exact HB.out | apply below_alloc | apply pw_below_drewN | apply below_drew1 | refine below_set ?_ GE164.out) | exact HB.out)⟩
        · rw [if_neg c10] at H
          have c10b0 : decide (65535 < (a0_1.size : Int)) = false := decide_eq_false c10
          have c10b1 : decide (65535 < a0_1.size) = false := decide_eq_false (by omega)
          clear c10
          obtain ⟨y171, hy171⟩ : ∃ y_ : List Int, y_ = (([a0_0, 0, 0, (wrap64 ((a0_1.size : Int) / 256)) % 256, (a0_1.size : Int) % 256] : List Int)) := ⟨_, rfl⟩
          replace H : (sashref23_Put.l0 kj1 (a0_1.size : Int) y171 0 a0_0 a0_1) = some (r1, r2) := by first | (rw [hy171]; with_reducible exact H) | (have H2_ := (Option.bind_some _ _).symm.trans H; rw [hy171]; with_reducible exact H2_) | (have H2_ := (Option.bind_some _ _).symm.trans H; with_reducible exact H2_) | with_reducible exact H | (rw [hy171]; exact H) | exact H
          have Ny171 := Aside0.mk hy171
          clear hy171
          have H' := Aside0.mk H
          clear H
          have hcz14_0 : wc.cell? ⟨gb164, 0, none⟩ = some (.int .u8 a0_0) := (blk_cell BK164.out 0).trans rfl
          have hcz14_1 : wc.cell? ⟨gb164, 1, none⟩ = some (.string a0_1) := (blk_cell BK164.out 1).trans rfl
          have hfz14_0 := blk_frozen BK164.out 0
          have hfz14_1 := blk_frozen BK164.out 1
          go_wp2_with (first | ((with_reducible refine gate_dst (N := 30) rfl ?_); refine Kd.R_lit (Kd.int .u8) _ 5 ?hg (N := 30) ?hd (xs := ([a0_0, 0, 0, (wrap64 ((a0_1.size : Int) / 256)) % 256, (a0_1.size : Int) % 256] : List Int)) (inner := [.int .u8 a0_0, .int .u8 0, .int .u8 0, .int .u8 ((wrap64 ((a0_1.size : Int) / 256)) % 256), .int .u8 ((a0_1.size : Int) % 256)]) (ok := fun _ => True) (okp := fun _ => True) ?hr ?hp (fun _ hk => hk) trivial (Below.refl _ _) (Nat.le_refl _) (by simp) ?_; (case hd => rfl); (case hg => rfl); (case hr => first | (go_simp; done) | (go_simp; rfl)); (case hp => exact (Reps.one (show Kd.M (Kd.int .u8) _ _ _ a0_0 [.int .u8 a0_0] from rfl) (Reps.one (show Kd.M (Kd.int .u8) _ _ _ 0 [.int .u8 0] from rfl) (Reps.one (show Kd.M (Kd.int .u8) _ _ _ 0 [.int .u8 0] from rfl) (Reps.one (show Kd.M (Kd.int .u8) _ _ _ ((wrap64 ((a0_1.size : Int) / 256)) % 256) [.int .u8 ((wrap64 ((a0_1.size : Int) / 256)) % 256)] from rfl) (Reps.one (show Kd.M (Kd.int .u8) _ _ _ ((a0_1.size : Int) % 256) [.int .u8 ((a0_1.size : Int) % 256)] from rfl) (Reps.none _ _))))))); intro v172 w15 ho16 hb hg_ hnew_; clear hg_ hnew_; (first | rw [← Ny171.out] at ho16 | (simp only [Int.reduceToNat] at ho16; rw [← Ny171.out] at ho16)); have n0_ := Aside0.mk (Kd.R_lower ho16 (below_size (by repeat (first | (with_reducible first | exact HB.out | apply below_alloc | apply pw_below_drewN | apply below_drew1 | refine below_set ?_ GE164.out) | exact HB.out)))); have n1_ := Aside0.mk (blk_below (g := gb164) (o := .cells #[.int .u8 a0_0, .string a0_1] 63 (0, 0)) (by (with_reducible repeat (first | refine blk_drewN ?_ _ | refine blk_drew ?_ | refine blk_alloc ?_ _)); exact BK164.out) hb); have n2_ := Aside0.mk (below_step (by repeat (first | (with_reducible first | exact HB.out | apply below_alloc | apply pw_below_drewN | apply below_drew1 | refine below_set ?_ GE164.out) | exact HB.out)) hb); clear BK164; clear HB; have HO173 := n0_; have BK164 := n1_; have HB := n2_; clear n0_ n1_ n2_; clear hb ho16))
          go_loopg [5, 6] kj1 (fun kq v5 v6 w' => ∃ (x5_2 : List Int) (x6_2 : Int), v6 = .int .i64 x6_2 ∧ Aside0 (sashref23_Put.l0 kq (a0_1.size : Int) x5_2 x6_2 a0_0 a0_1 = some (r1, r2)) ∧ Aside0 (kq ≤ kj1) ∧ Aside0 (Kd.R (Kd.int .u8) 5 w' w.heap.size (fun _ => True) v5 x5_2) ∧ Aside0 (w'.heap[gb164]? = some (.cells #[.int .u8 a0_0, .string a0_1] 63 (0, 0))) ∧ Aside0 (Below w.heap.size w w'))
          case atStart => exact ⟨(y171), (0), (by first | rfl | (simp; done) | (simp [*]; done)), H', ⟨Nat.le_refl _⟩, ⟨by (with_reducible repeat (first | apply Kd.R_alloc | apply Kd.R_drewN | apply Kd.R_drew)); exact HO173.out⟩, ⟨by (with_reducible repeat (first | refine blk_drewN ?_ _ | refine blk_drew ?_ | refine blk_alloc ?_ _)); exact BK164.out⟩, ⟨by repeat (first | (with_reducible first | exact HB.out | apply below_alloc | apply pw_below_drewN | apply below_drew1 | refine below_set ?_ GE164.out) | exact HB.out)⟩⟩
          case round =>
            clear H'
            try clear c1
            try clear p2
            try clear c4
            try clear c4b0
            try clear p6
            try clear c7
            try clear c10
            try clear c10b0
            try clear c10b1
            try clear hcz11_0
            try clear hcz11_1
            try clear hcz14_0
            try clear hcz14_1
            try clear hcz5_0
            try clear hcz5_1
            try clear hcz6_0
            try clear hcz6_1
            try clear hfz11_0
            try clear hfz11_1
            try clear hfz14_0
            try clear hfz14_1
            try clear hfz5_0
            try clear hfz5_1
            try clear hfz6_0
            try clear hfz6_1
            try clear p2
            obtain ⟨x5_2, x6_2, rfl, HA, HK2, HO_5, BK164, HB⟩ := hrel
            cases gk with
            | zero => exact absurd HA.out (by simp [sashref23_Put.l0])
            | succ k2 =>
              have H := HA.out
              clear HA
              simp only [sashref23_Put.l0] at H
              by_cases c17 : x6_2 < (a0_1.size : Int)
              · rw [if_pos c17] at H
                have c17b0 : decide (x6_2 < (a0_1.size : Int)) = true := decide_eq_true c17
                clear c17
                by_cases c18 : 0 ≤ x6_2
                · rw [if_pos c18] at H
                  have c18b0 : decide (0 ≤ x6_2) = true := decide_eq_true c18
                  clear c18
                  by_cases c19 : x6_2 < (a0_1.size : Int)
                  · rw [if_pos c19] at H
                    have c19b0 : decide (x6_2 < (a0_1.size : Int)) = true := decide_eq_true c19
                    clear c19
                    by_cases c21 : x5_2.length < 140737488355328
                    · rw [if_pos c21] at H
                      have LMc21 := Aside0.mk c21
                      clear c21
                      obtain ⟨y174, hy174⟩ : ∃ y_ : List Int, y_ = (x5_2 ++ [bt a0_1 x6_2]) := ⟨_, rfl⟩
                      replace H : (sashref23_Put.l0 k2 (a0_1.size : Int) y174 (wrap64 (x6_2 + 1)) a0_0 a0_1) = some (r1, r2) := by first | (rw [hy174]; with_reducible exact H) | (have H2_ := (Option.bind_some _ _).symm.trans H; rw [hy174]; with_reducible exact H2_) | (have H2_ := (Option.bind_some _ _).symm.trans H; with_reducible exact H2_) | with_reducible exact H | (rw [hy174]; exact H) | exact H
                      have Ny174 := Aside0.mk hy174
                      clear hy174
                      have H' := Aside0.mk H
                      clear H
                      have hcz22_0 : wr.cell? ⟨gb164, 0, none⟩ = some (.int .u8 a0_0) := (blk_cell BK164.out 0).trans rfl
                      have hcz22_1 : wr.cell? ⟨gb164, 1, none⟩ = some (.string a0_1) := (blk_cell BK164.out 1).trans rfl
                      have hfz22_0 := blk_frozen BK164.out 0
                      have hfz22_1 := blk_frozen BK164.out 1
                      have p20 : 0 ≤ (x6_2 : Int) := of_decide_eq_true (by first | (with_reducible assumption) | assumption)
                      have q20 : x6_2 < (a0_1.size : Int) := of_decide_eq_true (by first | (with_reducible assumption) | assumption)
                      have hx20 := bt_at a0_1 x6_2
                      replace p20 := eq_true p20
                      replace q20 := eq_true q20
                      go_wp2_with (first | ((with_reducible refine gate_builtin (b := .append) (xs := #[.tmp 36, .tmp 41]) rfl ?_); at_builtin; refine Kd.R_append (Kd.int .u8) (w0 := w) w.heap.size rfl (.tmp 36) (.tmp 41) 27 5 (.int .u8 0) 1 rfl Tryd.underlying27 info5 rfl (by decide) (by omega) u5 x5_2 (bt a0_1 x6_2) [.int .u8 (bt a0_1 x6_2)] (fun _ => True) (fun _ => False) rfl rfl ?aP (fun _ hk => hk.elim) ?aF ?aO ?aB ?aS ?aL ?_; (case aP => exact rfl); (case aB => exact (by repeat (first | (with_reducible first | exact HB.out | apply below_alloc | apply pw_below_drewN | apply below_drew1 | refine below_set ?_ GE164.out) | exact HB.out))); (case aF => exact (fun _ _ => trivial)); (case aO => exact (by (with_reducible repeat (first | apply Kd.R_alloc | apply Kd.R_drewN | apply Kd.R_drew)); exact HO_5.out)); (case aS => exact (below_size (by repeat (first | (with_reducible first | exact HB.out | apply below_alloc | apply pw_below_drewN | apply below_drew1 | refine below_set ?_ GE164.out) | exact HB.out)))); (case aL => have := LMc21.out; omega); intro v175 w23 ho hb hg hat; rw [← Ny174.out] at ho; have n0_ := Aside0.mk (blk_grown (g := gb164) (o := .cells #[.int .u8 a0_0, .string a0_1] 63 (0, 0)) (by (with_reducible repeat (first | refine blk_drewN ?_ _ | refine blk_drew ?_ | refine blk_alloc ?_ _)); exact BK164.out) hg (Kd.R_ne HO_5.out BK164.out (by decide))); have n1_ := Aside0.mk (hb); have n2_ := Aside0.mk (ho); clear BK164; clear HB; clear HO_5; have BK164 := n0_; have HB := n1_; have HO176 := n2_; clear n0_ n1_ n2_; clear ho hb hg hat))
                      go_roundg k2
                      case measure => have := HJ1.out; have := HK2.out; omega
                      case rel => exact ⟨(y174), (wrap64 (x6_2 + 1)), (by first | rfl | (simp; done) | (simp [*]; done)), H', ⟨by have := HJ1.out; have := HK2.out; omega⟩, ⟨by (with_reducible repeat (first | apply Kd.R_alloc | apply Kd.R_drewN | apply Kd.R_drew)); exact HO176.out⟩, ⟨by (with_reducible repeat (first | refine blk_drewN ?_ _ | refine blk_drew ?_ | refine blk_alloc ?_ _)); exact BK164.out⟩, ⟨by repeat (first | (with_reducible first | exact HB.out | apply below_alloc | apply pw_below_drewN | apply below_drew1 | refine below_set ?_ GE164.out) | exact HB.out)⟩⟩
                    · rw [if_neg c21] at H
                      exact absurd H (by simp)
                  · rw [if_neg c19] at H
                    exact absurd H (by simp)
                · rw [if_neg c18] at H
                  exact absurd H (by simp)
              · rw [if_neg c17] at H
                have c17b0 : decide (x6_2 < (a0_1.size : Int)) = false := decide_eq_false c17
                clear c17
                simp only [Option.some.injEq, Prod.mk.injEq] at H
                obtain ⟨rfl, rfl⟩ := H
                go_wp2
                go_ret2
                exact ⟨_, by first | rfl | (simp [errW_none, errW_some] <;> rfl) | (simp [*, errW_none, errW_some] <;> rfl), by (with_reducible repeat (first | apply Kd.R_alloc | apply Kd.R_drewN | apply Kd.R_drew)); exact HO_5.out, by repeat (first | (with_reducible first | exact HB.out | apply below_alloc | apply pw_below_drewN | apply below_drew1 | refine below_set ?_ GE164.out) | exact HB.out)⟩


def sashref25_Words.f  : Option (List ByteArray) := some (([(⟨#[97, 116, 116, 97, 99, 104]⟩ : ByteArray), (⟨#[100, 101, 116, 97, 99, 104]⟩ : ByteArray), (⟨#[100, 97, 116, 97]⟩ : ByteArray), (⟨#[108, 105, 110, 101]⟩ : ByteArray), (⟨#[105, 110, 112, 117, 116]⟩ : ByteArray), (⟨#[101, 120, 105, 116]⟩ : ByteArray)] : List ByteArray))
set_option maxHeartbeats 8000000 in
set_option maxRecDepth 100000 in
theorem sashref25_Words.calls  (r : List ByteArray) (w : World) (h : sashref25_Words.f  = some r) :
    Calls Tryd.prog 42 #[] w fun e w' => ∃ v0_ : Value, e = .returned (v0_) ∧ Kd.R Kd.string 9 w' w.heap.size (fun _ => True) v0_ r ∧ Below w.heap.size w w' := by
  have HB := Aside0.mk (Below.refl w.heap.size w)
  have H : (some (([(⟨#[97, 116, 116, 97, 99, 104]⟩ : ByteArray), (⟨#[100, 101, 116, 97, 99, 104]⟩ : ByteArray), (⟨#[100, 97, 116, 97]⟩ : ByteArray), (⟨#[108, 105, 110, 101]⟩ : ByteArray), (⟨#[105, 110, 112, 117, 116]⟩ : ByteArray), (⟨#[101, 120, 105, 116]⟩ : ByteArray)] : List ByteArray))) = some r := h
  clear h
  obtain ⟨y182, hy182⟩ : ∃ y_ : List ByteArray, y_ = (([(⟨#[97, 116, 116, 97, 99, 104]⟩ : ByteArray), (⟨#[100, 101, 116, 97, 99, 104]⟩ : ByteArray), (⟨#[100, 97, 116, 97]⟩ : ByteArray), (⟨#[108, 105, 110, 101]⟩ : ByteArray), (⟨#[105, 110, 112, 117, 116]⟩ : ByteArray), (⟨#[101, 120, 105, 116]⟩ : ByteArray)] : List ByteArray)) := ⟨_, rfl⟩
  replace H : (some y182) = some r := by first | (rw [hy182]; with_reducible exact H) | (have H2_ := (Option.bind_some _ _).symm.trans H; rw [hy182]; with_reducible exact H2_) | (have H2_ := (Option.bind_some _ _).symm.trans H; with_reducible exact H2_) | with_reducible exact H | (rw [hy182]; exact H) | exact H
  have Ny182 := Aside0.mk hy182
  clear hy182
  obtain rfl := Option.some.inj H
  go_enter Tryd.func42, Tryd.ntmps42
  go_wp2_with (first | ((with_reducible refine gate_dst (N := 1) rfl ?_); refine Kd.R_lit Kd.string _ 9 ?hg (N := 1) ?hd (xs := ([(⟨#[97, 116, 116, 97, 99, 104]⟩ : ByteArray), (⟨#[100, 101, 116, 97, 99, 104]⟩ : ByteArray), (⟨#[100, 97, 116, 97]⟩ : ByteArray), (⟨#[108, 105, 110, 101]⟩ : ByteArray), (⟨#[105, 110, 112, 117, 116]⟩ : ByteArray), (⟨#[101, 120, 105, 116]⟩ : ByteArray)] : List ByteArray)) (inner := [.string (⟨#[97, 116, 116, 97, 99, 104]⟩ : ByteArray), .string (⟨#[100, 101, 116, 97, 99, 104]⟩ : ByteArray), .string (⟨#[100, 97, 116, 97]⟩ : ByteArray), .string (⟨#[108, 105, 110, 101]⟩ : ByteArray), .string (⟨#[105, 110, 112, 117, 116]⟩ : ByteArray), .string (⟨#[101, 120, 105, 116]⟩ : ByteArray)]) (ok := fun _ => True) (okp := fun _ => True) ?hr ?hp (fun _ hk => hk) trivial (Below.refl _ _) (Nat.le_refl _) (by simp) ?_; (case hd => rfl); (case hg => rfl); (case hr => first | (go_simp; done) | (go_simp; rfl)); (case hp => exact (Reps.one (show Kd.M Kd.string _ _ _ (⟨#[97, 116, 116, 97, 99, 104]⟩ : ByteArray) [.string (⟨#[97, 116, 116, 97, 99, 104]⟩ : ByteArray)] from rfl) (Reps.one (show Kd.M Kd.string _ _ _ (⟨#[100, 101, 116, 97, 99, 104]⟩ : ByteArray) [.string (⟨#[100, 101, 116, 97, 99, 104]⟩ : ByteArray)] from rfl) (Reps.one (show Kd.M Kd.string _ _ _ (⟨#[100, 97, 116, 97]⟩ : ByteArray) [.string (⟨#[100, 97, 116, 97]⟩ : ByteArray)] from rfl) (Reps.one (show Kd.M Kd.string _ _ _ (⟨#[108, 105, 110, 101]⟩ : ByteArray) [.string (⟨#[108, 105, 110, 101]⟩ : ByteArray)] from rfl) (Reps.one (show Kd.M Kd.string _ _ _ (⟨#[105, 110, 112, 117, 116]⟩ : ByteArray) [.string (⟨#[105, 110, 112, 117, 116]⟩ : ByteArray)] from rfl) (Reps.one (show Kd.M Kd.string _ _ _ (⟨#[101, 120, 105, 116]⟩ : ByteArray) [.string (⟨#[101, 120, 105, 116]⟩ : ByteArray)] from rfl) (Reps.none _ _)))))))); intro v183 w1 ho2 hb hg_ hnew_; clear hg_ hnew_; (first | rw [← Ny182.out] at ho2 | (simp only [Int.reduceToNat] at ho2; rw [← Ny182.out] at ho2)); have n0_ := Aside0.mk (Kd.R_lower ho2 (below_size (by repeat (first | (with_reducible first | exact HB.out | apply below_alloc | apply pw_below_drewN | apply below_drew1) | exact HB.out)))); have n1_ := Aside0.mk (below_step (by repeat (first | (with_reducible first | exact HB.out | apply below_alloc | apply pw_below_drewN | apply below_drew1) | exact HB.out)) hb); clear HB; have HO184 := n0_; have HB := n1_; clear n0_ n1_; clear hb ho2))
  go_ret
  exact ⟨_, by first | rfl | (simp [errW_none, errW_some] <;> rfl) | (simp [*, errW_none, errW_some] <;> rfl), by (with_reducible repeat (first | apply Kd.R_alloc | apply Kd.R_drewN | apply Kd.R_drew)); exact HO184.out, by repeat (first | (with_reducible first | exact HB.out | apply below_alloc | apply pw_below_drewN | apply below_drew1) | exact HB.out)⟩

def sashref01_Digit.f (a0 : Int) : Option (ByteArray) := if 0 ≤ a0 then (if a0 ≤ (wrap64 (a0 + 1)) then (if (wrap64 (a0 + 1)) ≤ 16 then (some ((⟨#[48, 49, 50, 51, 52, 53, 54, 55, 56, 57, 97, 98, 99, 100, 101, 102]⟩ : ByteArray).extract (a0 : Int).toNat ((wrap64 (a0 + 1)) : Int).toNat)) else (none)) else (none)) else (none)
set_option maxHeartbeats 8000000 in
set_option maxRecDepth 100000 in
theorem sashref01_Digit.calls (a0 : Int) (r : ByteArray) (w : World) (h : sashref01_Digit.f a0 = some r) :
    Calls Tryd.prog 44 #[.int .i64 a0] w fun e w' => e = .returned (.string r) ∧ Drawn0 w w' := by
  have H : (if 0 ≤ a0 then (if a0 ≤ (wrap64 (a0 + 1)) then (if (wrap64 (a0 + 1)) ≤ 16 then (some ((⟨#[48, 49, 50, 51, 52, 53, 54, 55, 56, 57, 97, 98, 99, 100, 101, 102]⟩ : ByteArray).extract (a0 : Int).toNat ((wrap64 (a0 + 1)) : Int).toNat)) else (none)) else (none)) else (none)) = some r := h
  clear h
  by_cases c2 : 0 ≤ a0
  · rw [if_pos c2] at H
    have c2b0 := eq_true c2
    have c2b1 : decide (0 ≤ a0) = true := decide_eq_true c2
    clear c2
    by_cases c3 : a0 ≤ (wrap64 (a0 + 1))
    · rw [if_pos c3] at H
      have c3b0 := eq_true c3
      have c3b1 : decide (a0 ≤ (wrap64 (a0 + 1))) = true := decide_eq_true c3
      by_cases c4 : (wrap64 (a0 + 1)) ≤ 16
      · rw [if_pos c4] at H
        have c4b0 := eq_true c4
        have c4b1 : decide ((wrap64 (a0 + 1)) ≤ 16) = true := decide_eq_true c4
        obtain rfl := Option.some.inj H
        go_enter Tryd.func44, Tryd.ntmps44
        go_wp2
        go_ret
        exact ⟨by first | rfl | (simp; done) | (simp [*]; done), by repeat (first | exact Drawn0.refl _ | apply Drawn0.step)⟩
      · rw [if_neg c4] at H
        exact absurd H (by simp)
    · rw [if_neg c3] at H
      exact absurd H (by simp)
  · rw [if_neg c2] at H
    exact absurd H (by simp)

mutual
def sashref01_Digits.j0 : Nat → Int → Bool → Option (ByteArray)
  | 0, _, _ => none
  | k + 1, x0, x9 => if x9 = true then (some (⟨#[]⟩ : ByteArray)) else ((sashref01_Digit.f (Int.tmod x0 10)).bind fun t185 => (sashref01_Digits.l0 k x0 t185))
def sashref01_Digits.l0 : Nat → Int → ByteArray → Option (ByteArray)
  | 0, _, _ => none
  | k + 1, x0, x3 => if x0 > 9 then ((sashref01_Digit.f (Int.tmod (wrap64 (Int.tdiv x0 10)) 10)).bind fun t186 => (if t186.size + x3.size ≤ 9223372036854775807 then (sashref01_Digits.l0 k (wrap64 (Int.tdiv x0 10)) (t186 ++ x3)) else (none))) else (some x3)
end
def sashref01_Digits.f (k : Nat) (a0 : Int) : Option (ByteArray) := if a0 < 0 then (sashref01_Digits.j0 k a0 true) else (sashref01_Digits.j0 k a0 (decide (a0 > 2147483647)))
set_option maxHeartbeats 8000000 in
set_option maxRecDepth 100000 in
theorem sashref01_Digits.calls (k : Nat) (a0 : Int) (r : ByteArray) (w : World) (h : sashref01_Digits.f k a0 = some r) :
    Calls Tryd.prog 43 #[.int .i64 a0] w fun e w' => e = .returned (.string r) ∧ Drawn0 w w' := by
  have H : (if a0 < 0 then (sashref01_Digits.j0 k a0 true) else (sashref01_Digits.j0 k a0 (decide (a0 > 2147483647)))) = some r := h
  clear h
  have HC2 := Aside0.mk H
  clear H
  go_enter Tryd.func43, Tryd.ntmps43
  go_upto_region 1 with (fail)
  go_cut [9] (fun v9 wc => ∃ (kq : Nat) (x9_1 : Bool), v9 = .bool x9_1 ∧ Aside0 (sashref01_Digits.j0 kq a0 x9_1 = some r) ∧ Aside0 (kq ≤ k) ∧ Drawn0 w wc)
  case first =>
    have H := HC2.out
    clear HC2
    by_cases c3 : a0 < 0
    · rw [if_pos c3] at H
      have c3b0 : decide (a0 < 0) = true := decide_eq_true c3
      clear c3
      (first | rw [c3b0] | (simp only [i64_w, i32_w]; rw [c3b0]) | skip)
      have H' := Aside0.mk H
      clear H
      go_wp2
      go_meet
      case rel => exact ⟨_, (true), (by first | rfl | (simp; done) | (simp [*]; done)), H', ⟨by first | omega | exact Nat.le_refl _⟩, by repeat (first | exact Drawn0.refl _ | apply Drawn0.step)⟩
    · rw [if_neg c3] at H
      have c3b0 : decide (a0 < 0) = false := decide_eq_false c3
      clear c3
      (first | rw [c3b0] | (simp only [i64_w, i32_w]; rw [c3b0]) | skip)
      have H' := Aside0.mk H
      clear H
      go_wp2
      go_meet
      case rel => exact ⟨_, (decide (a0 > 2147483647)), (by first | rfl | (simp; done) | (simp [*]; done)), H', ⟨by first | omega | exact Nat.le_refl _⟩, by repeat (first | exact Drawn0.refl _ | apply Drawn0.step)⟩
  case rest =>
    clear HC2
    try clear p2
    try clear c3
    try clear c3b0
    obtain ⟨kq, x9_1, rfl, HA, HJ1, ⟨mc1, rfl⟩⟩ := hcut
    cases kq with
    | zero => exact absurd HA.out (by simp [sashref01_Digits.j0])
    | succ kj1 =>
      have H := HA.out
      clear HA
      simp only [sashref01_Digits.j0] at H
      by_cases c4 : x9_1 = true
      · subst c4
        have H1 : (some (⟨#[]⟩ : ByteArray)) = some r := by rw [if_pos rfl] at H; exact H
        clear H
        have H := H1
        clear H1
        obtain rfl := Option.some.inj H
        go_wp2
        go_ret
        exact ⟨by first | rfl | (simp; done) | (simp [*]; done), by repeat (first | exact Drawn0.refl _ | apply Drawn0.step)⟩
      · replace c4 := Bool.eq_false_iff.mpr c4
        subst c4
        have H1 : ((sashref01_Digit.f (Int.tmod a0 10)).bind fun t185 => (sashref01_Digits.l0 kj1 a0 t185)) = some r := by rw [if_neg (show ¬ (false = true) by decide)] at H; exact H
        clear H
        have H := H1
        clear H1
        replace H := Option.bind_eq_some_iff.mp H
        obtain ⟨t185, A50, H⟩ := H
        replace H : (sashref01_Digits.l0 kj1 a0 t185) = some r := H
        have A5 := Aside0.mk A50
        clear A50
        have H' := Aside0.mk H
        clear H
        go_wp2_with (first | ((with_reducible refine gate_callee (f := 44) rfl ?_); refine goesL_ (some 12) rfl rfl Tryd.func44 (by kernel_rfl) rfl #[.int .i64 (Int.tmod a0 10)] rfl (by (try simp only [List.map_toArray, List.map_cons, List.map_nil]); first | done | rfl | (simp only [List.length_drop, List.length_take]; rfl)) ?_; (with_reducible refine (sashref01_Digit.calls (Int.tmod a0 10) t185 _ A5.out).mono ?_); rintro e w' ⟨rfl, ⟨nd, rfl⟩⟩; refine ⟨_, rfl, ?_⟩))
        go_loopg [0, 3] kj1 (fun kq v0 v3 w' => ∃ (x0_2 : Int) (x3_2 : ByteArray), v0 = .int .i64 x0_2 ∧ v3 = .string x3_2 ∧ Aside0 (sashref01_Digits.l0 kq x0_2 x3_2 = some r) ∧ Aside0 (kq ≤ kj1) ∧ Drawn0 w w')
        case atStart => exact ⟨(a0), (t185), (by first | rfl | (simp; done) | (simp [*]; done)), (by first | rfl | (simp; done) | (simp [*]; done)), H', ⟨Nat.le_refl _⟩, by repeat (first | exact Drawn0.refl _ | apply Drawn0.step)⟩
        case round =>
          clear H'
          try clear c1
          try clear p2
          try clear c3
          try clear c3b0
          try clear c4
          try clear p2
          obtain ⟨x0_2, x3_2, rfl, rfl, HA, HK2, ⟨m2, rfl⟩⟩ := hrel
          cases gk with
          | zero => exact absurd HA.out (by simp [sashref01_Digits.l0])
          | succ k2 =>
            have H := HA.out
            clear HA
            simp only [sashref01_Digits.l0] at H
            by_cases c6 : x0_2 > 9
            · rw [if_pos c6] at H
              have c6b0 : decide (9 < x0_2) = true := decide_eq_true c6
              clear c6
              replace H := Option.bind_eq_some_iff.mp H
              obtain ⟨t186, A70, H⟩ := H
              replace H : (if t186.size + x3_2.size ≤ 9223372036854775807 then (sashref01_Digits.l0 k2 (wrap64 (Int.tdiv x0_2 10)) (t186 ++ x3_2)) else (none)) = some r := H
              have A7 := Aside0.mk A70
              clear A70
              by_cases c8 : t186.size + x3_2.size ≤ 9223372036854775807
              · rw [if_pos c8] at H
                have c8b0 := eq_true c8
                have c8b1 : decide (t186.size + x3_2.size ≤ 9223372036854775807) = true := decide_eq_true c8
                try have c8b2 : (9223372036854775807 < t186.size + x3_2.size) = False := eq_false (Nat.not_lt.2 c8)
                try (have c8s := c8; simp only [ByteArray.size_append] at c8s; have c8s1 := decide_eq_true c8s; have c8s2 := eq_false (Nat.not_lt.2 c8s); have c8s3 := eq_true c8s)
                have H' := Aside0.mk H
                clear H
                go_wp2_with (first | ((with_reducible refine gate_callee (f := 44) rfl ?_); refine goesL_ (some 19) rfl rfl Tryd.func44 (by kernel_rfl) rfl #[.int .i64 (Int.tmod (wrap64 (Int.tdiv x0_2 10)) 10)] rfl (by (try simp only [List.map_toArray, List.map_cons, List.map_nil]); first | done | rfl | (simp only [List.length_drop, List.length_take]; rfl)) ?_; (with_reducible refine (sashref01_Digit.calls (Int.tmod (wrap64 (Int.tdiv x0_2 10)) 10) t186 _ A7.out).mono ?_); rintro e w' ⟨rfl, ⟨nd, rfl⟩⟩; refine ⟨_, rfl, ?_⟩))
                go_roundg k2
                case measure => have := HJ1.out; have := HK2.out; omega
                case rel => exact ⟨(wrap64 (Int.tdiv x0_2 10)), (t186 ++ x3_2), (by first | rfl | (simp; done) | (simp [*]; done)), (by first | rfl | (simp; done) | (simp [*]; done)), H', ⟨by have := HJ1.out; have := HK2.out; omega⟩, by repeat (first | exact Drawn0.refl _ | apply Drawn0.step)⟩
              · rw [if_neg c8] at H
                exact absurd H (by simp)
            · rw [if_neg c6] at H
              have c6b0 : decide (9 < x0_2) = false := decide_eq_false c6
              clear c6
              obtain rfl := Option.some.inj H
              go_wp2
              go_ret
              exact ⟨by first | rfl | (simp; done) | (simp [*]; done), by repeat (first | exact Drawn0.refl _ | apply Drawn0.step)⟩

end Go.Proofs.YtmcjfnebkpifnaaDoor.PScriptLines
