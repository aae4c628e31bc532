/- Printed texts of this seat, cut to what is used. -/
import Derived.Test.YtmcjfnebkpifnaaGreatDoorPScriptReadsx0
import Derived.Test.YtmcjfnebkpifnaaGreatDoorPScriptReadsx6
namespace Go.Proofs.YtmcjfnebkpifnaaGreatDoor.PScriptReads
open Go.RowKit Go.Proofs.YtmcjfnebkpifnaaGreatDoorW.PrintWords Go.Proofs.YtmcjfnebkpifnaaGreatDoorW.PrintLast Go.Proofs.YtmcjfnebkpifnaaGreatDoorW.PrintMore
attribute [local go_sem] max2_int min2_int max_two min_two max_three min_three max_four min_four   -- for this text's walks alone
set_option linter.unusedVariables false
set_option linter.unusedSimpArgs false

def sashref25_May.j0 : Nat → Bool → Int → Int → ByteArray → Option (Bool)
  | 0, _, _, _, _ => none
  | k + 1, x20, x187000, x187001, x187002 => if x20 = true then (some false) else (if x187000 = 1 then (if x187001 = 0 then (if x187002.toList = ([] : List UInt8) then (if x187000 = 3 then (some true) else (some (decide ((x187002.size : Int) ≤ 65535)))) else (if x187000 < 3 then (some false) else (if x187000 > 5 then (some false) else (if x187000 = 3 then (some true) else (some (decide ((x187002.size : Int) ≤ 65535))))))) else (some false)) else (if x187002.toList = ([] : List UInt8) then (if x187000 = 3 then (some true) else (some (decide ((x187002.size : Int) ≤ 65535)))) else (if x187000 < 3 then (some false) else (if x187000 > 5 then (some false) else (if x187000 = 3 then (some true) else (some (decide ((x187002.size : Int) ≤ 65535))))))))
def sashref25_May.f (k : Nat) (a0_0 : Int) (a0_1 : Int) (a0_2 : ByteArray) : Option (Bool) := if a0_0 < 1 then (sashref25_May.j0 k true a0_0 a0_1 a0_2) else (if a0_0 > 6 then (sashref25_May.j0 k true a0_0 a0_1 a0_2) else (if a0_1 < 0 then (sashref25_May.j0 k true a0_0 a0_1 a0_2) else (sashref25_May.j0 k (decide (a0_1 > 2147483647)) a0_0 a0_1 a0_2)))
theorem sashref25_May.mono_l : ∀ k, (∀ y0 y1 y2 y3, LeO (sashref25_May.j0 k y0 y1 y2 y3) (sashref25_May.j0 (k + 1) y0 y1 y2 y3))
  | 0 => fun _ _ _ _ r h => by simp [sashref25_May.j0] at h
  | k + 1 => by
    have ih0 := sashref25_May.mono_l k
    · intro y0 y1 y2 y3
      unfold sashref25_May.j0
      repeat' first
      | (with_reducible exact ih0 _ _ _ _)
      | (with_reducible exact LeO.refl _)
      | (with_reducible exact LeO.none _)
      | (with_reducible refine LeO.ite ?_ ?_)
      | (with_reducible refine LeO.bind ?_ (fun _ => ?_))
      | exact ih0 _ _ _ _
      | exact LeO.none _
      | refine LeO.ite ?_ ?_
      | refine LeO.bind ?_ (fun _ => ?_)
theorem sashref25_May.mono : ∀ a0 a1 a2 k, LeO (sashref25_May.f k a0 a1 a2) (sashref25_May.f (k + 1) a0 a1 a2) := by
  intro a0 a1 a2 k
  have ih0 := sashref25_May.mono_l k
  unfold sashref25_May.f
  repeat' first
      | (with_reducible exact ih0 _ _ _ _)
      | (with_reducible exact LeO.refl _)
      | (with_reducible exact LeO.none _)
      | (with_reducible refine LeO.ite ?_ ?_)
      | (with_reducible refine LeO.bind ?_ (fun _ => ?_))
      | exact ih0 _ _ _ _
      | exact LeO.none _
      | refine LeO.ite ?_ ?_
      | refine LeO.bind ?_ (fun _ => ?_)
set_option maxHeartbeats 8000000 in
set_option maxRecDepth 100000 in
theorem sashref25_May.calls (k : Nat) (a0_0 : Int) (a0_1 : Int) (a0_2 : ByteArray) (r : Bool) (w : World) (h : sashref25_May.f k a0_0 a0_1 a0_2 = some r) :
    Calls Tryz.prog 38 #[.agg #[.int .u8 a0_0, .int .i64 a0_1, .string a0_2]] w fun e w' => e = .returned (.bool r) ∧ Below w.heap.size w w' := by
  have hu43 := Tryz.underlying43
  have HB := Aside0.mk (Below.refl w.heap.size w)
  have H : (if a0_0 < 1 then (sashref25_May.j0 k true a0_0 a0_1 a0_2) else (if a0_0 > 6 then (sashref25_May.j0 k true a0_0 a0_1 a0_2) else (if a0_1 < 0 then (sashref25_May.j0 k true a0_0 a0_1 a0_2) else (sashref25_May.j0 k (decide (a0_1 > 2147483647)) a0_0 a0_1 a0_2)))) = some r := h
  clear h
  have HC2 := Aside0.mk H
  clear H
  go_enter Tryz.func38, Tryz.ntmps38
  go_upto_region 1 with (first | ((with_reducible refine gate_dst (N := 1) rfl ?_); (try (refine gate_guard (by rfl) ?_; dsimp only)); refine box_event ?hg (N := 1) ?hd (cs := #[.int .u8 a0_0, .int .i64 a0_1, .string a0_2]) (t := 43) ?hr ?_; (case hd => rfl); (case hg => rfl); (case hr => first | (go_simp; done) | (go_simp; rfl)); intro gb186 hg w3 hbox hb; have n0_ := Aside0.mk (below_step (by repeat (first | (with_reducible first | exact HB.out | apply below_alloc | apply pw_below_drewN | apply below_drew1) | exact HB.out)) hb); have n1_ := Aside0.mk (hbox); have n2_ := Aside0.mk ((by rw [hg]; exact (below_size (by repeat (first | (with_reducible first | exact HB.out | apply below_alloc | apply pw_below_drewN | apply below_drew1) | exact HB.out))) : w.heap.size ≤ gb186)); have n3_ := Aside0.mk ((by rw [hg]; exact (below_size (by repeat (first | (with_reducible first | exact HB.out | apply below_alloc | apply pw_below_drewN | apply below_drew1) | exact HB.out))) : w.heap.size ≤ gb186)); clear HB; have HB := n0_; have BK186 := n1_; have GW186 := n2_; have GE186 := n3_; clear n0_ n1_ n2_ n3_; clear hb hbox hg))
  (try simp only [Act.put, List.setIfInBounds_toArray, List.set_cons_zero, List.set_cons_succ])
  go_cut [20] (fun v20 wc => ∃ (kq : Nat) (x20_1 : Bool), v20 = .bool x20_1 ∧ Aside0 (sashref25_May.j0 kq x20_1 a0_0 a0_1 a0_2 = some r) ∧ Aside0 (kq ≤ k) ∧ Aside0 (wc.heap[gb186]? = some (.cells #[.int .u8 a0_0, .int .i64 a0_1, .string a0_2] 43 (0, 0))) ∧ Aside0 (Below w.heap.size w wc))
  case first =>
    have H := HC2.out
    clear HC2
    by_cases c4 : a0_0 < 1
    · rw [if_pos c4] at H
      have c4b0 : decide (a0_0 < 1) = true := decide_eq_true c4
      clear c4
      (first | rw [c4b0] | (simp only [i64_w, i32_w]; rw [c4b0]) | skip)
      have H' := Aside0.mk H
      clear H
      have hcz5_0 : w3.cell? ⟨gb186, 0, none⟩ = some (.int .u8 a0_0) := (blk_cell BK186.out 0).trans rfl
      have hcz5_1 : w3.cell? ⟨gb186, 1, none⟩ = some (.int .i64 a0_1) := (blk_cell BK186.out 1).trans rfl
      have hcz5_2 : w3.cell? ⟨gb186, 2, none⟩ = some (.string a0_2) := (blk_cell BK186.out 2).trans rfl
      have hfz5_0 := blk_frozen BK186.out 0
      have hfz5_1 := blk_frozen BK186.out 1
      have hfz5_2 := blk_frozen BK186.out 2
      go_wp2
      go_meet
      case rel => exact ⟨_, (true), (by first | rfl | (simp; done) | (simp [*]; done)), H', ⟨by first | omega | exact Nat.le_refl _⟩, ⟨by (with_reducible repeat (first | refine blk_drewN ?_ _ | refine blk_drew ?_ | refine blk_alloc ?_ _)); exact BK186.out⟩, ⟨by repeat (first | (with_reducible first | exact HB.out | apply below_alloc | apply pw_below_drewN | apply below_drew1 | refine below_set ?_ GE186.out) | exact HB.out)⟩⟩
    · rw [if_neg c4] at H
      have c4b0 : decide (a0_0 < 1) = false := decide_eq_false c4
      clear c4
      (first | rw [c4b0] | (simp only [i64_w, i32_w]; rw [c4b0]) | skip)
      by_cases c6 : a0_0 > 6
      · rw [if_pos c6] at H
        have c6b0 : decide (6 < a0_0) = true := decide_eq_true c6
        clear c6
        have H' := Aside0.mk H
        clear H
        have hcz7_0 : w3.cell? ⟨gb186, 0, none⟩ = some (.int .u8 a0_0) := (blk_cell BK186.out 0).trans rfl
        have hcz7_1 : w3.cell? ⟨gb186, 1, none⟩ = some (.int .i64 a0_1) := (blk_cell BK186.out 1).trans rfl
        have hcz7_2 : w3.cell? ⟨gb186, 2, none⟩ = some (.string a0_2) := (blk_cell BK186.out 2).trans rfl
        have hfz7_0 := blk_frozen BK186.out 0
        have hfz7_1 := blk_frozen BK186.out 1
        have hfz7_2 := blk_frozen BK186.out 2
        go_wp2
        go_meet
        case rel => exact ⟨_, (true), (by first | rfl | (simp; done) | (simp [*]; done)), H', ⟨by first | omega | exact Nat.le_refl _⟩, ⟨by (with_reducible repeat (first | refine blk_drewN ?_ _ | refine blk_drew ?_ | refine blk_alloc ?_ _)); exact BK186.out⟩, ⟨by repeat (first | (with_reducible first | exact HB.out | apply below_alloc | apply pw_below_drewN | apply below_drew1 | refine below_set ?_ GE186.out) | exact HB.out)⟩⟩
      · rw [if_neg c6] at H
        have c6b0 : decide (6 < a0_0) = false := decide_eq_false c6
        clear c6
        by_cases c8 : a0_1 < 0
        · rw [if_pos c8] at H
          have c8b0 : decide (a0_1 < 0) = true := decide_eq_true c8
          clear c8
          have H' := Aside0.mk H
          clear H
          have hcz9_0 : w3.cell? ⟨gb186, 0, none⟩ = some (.int .u8 a0_0) := (blk_cell BK186.out 0).trans rfl
          have hcz9_1 : w3.cell? ⟨gb186, 1, none⟩ = some (.int .i64 a0_1) := (blk_cell BK186.out 1).trans rfl
          have hcz9_2 : w3.cell? ⟨gb186, 2, none⟩ = some (.string a0_2) := (blk_cell BK186.out 2).trans rfl
          have hfz9_0 := blk_frozen BK186.out 0
          have hfz9_1 := blk_frozen BK186.out 1
          have hfz9_2 := blk_frozen BK186.out 2
          go_wp2
          go_meet
          case rel => exact ⟨_, (true), (by first | rfl | (simp; done) | (simp [*]; done)), H', ⟨by first | omega | exact Nat.le_refl _⟩, ⟨by (with_reducible repeat (first | refine blk_drewN ?_ _ | refine blk_drew ?_ | refine blk_alloc ?_ _)); exact BK186.out⟩, ⟨by repeat (first | (with_reducible first | exact HB.out | apply below_alloc | apply pw_below_drewN | apply below_drew1 | refine below_set ?_ GE186.out) | exact HB.out)⟩⟩
        · rw [if_neg c8] at H
          have c8b0 : decide (a0_1 < 0) = false := decide_eq_false c8
          clear c8
          have H' := Aside0.mk H
          clear H
          have hcz10_0 : w3.cell? ⟨gb186, 0, none⟩ = some (.int .u8 a0_0) := (blk_cell BK186.out 0).trans rfl
          have hcz10_1 : w3.cell? ⟨gb186, 1, none⟩ = some (.int .i64 a0_1) := (blk_cell BK186.out 1).trans rfl
          have hcz10_2 : w3.cell? ⟨gb186, 2, none⟩ = some (.string a0_2) := (blk_cell BK186.out 2).trans rfl
          have hfz10_0 := blk_frozen BK186.out 0
          have hfz10_1 := blk_frozen BK186.out 1
          have hfz10_2 := blk_frozen BK186.out 2
          go_wp2
          go_meet
          case rel => exact ⟨_, (decide (a0_1 > 2147483647)), (by first | rfl | (simp; done) | (simp [*]; done)), H', ⟨by first | omega | exact Nat.le_refl _⟩, ⟨by (with_reducible repeat (first | refine blk_drewN ?_ _ | refine blk_drew ?_ | refine blk_alloc ?_ _)); exact BK186.out⟩, ⟨by repeat (first | (with_reducible first | exact HB.out | apply below_alloc | apply pw_below_drewN | apply below_drew1 | refine below_set ?_ GE186.out) | exact HB.out)⟩⟩
  case rest =>
    clear HC2
    try clear p2
    try clear c3
    try clear c4
    try clear c4b0
    try clear c6
    try clear c6b0
    try clear c8
    try clear c8b0
    try clear hcz10_0
    try clear hcz10_1
    try clear hcz10_2
    try clear hcz5_0
    try clear hcz5_1
    try clear hcz5_2
    try clear hcz7_0
    try clear hcz7_1
    try clear hcz7_2
    try clear hcz9_0
    try clear hcz9_1
    try clear hcz9_2
    try clear hfz10_0
    try clear hfz10_1
    try clear hfz10_2
    try clear hfz5_0
    try clear hfz5_1
    try clear hfz5_2
    try clear hfz7_0
    try clear hfz7_1
    try clear hfz7_2
    try clear hfz9_0
    try clear hfz9_1
    try clear hfz9_2
    obtain ⟨kq, x20_1, rfl, HA, HJ1, BK186, HB⟩ := hcut
    cases kq with
    | zero => exact absurd HA.out (by simp [sashref25_May.j0])
    | succ kj1 =>
      have H := HA.out
      clear HA
      simp only [sashref25_May.j0] at H
      by_cases c11 : x20_1 = true
      · subst c11
        have H1 : (some false) = some r := by rw [if_pos rfl] at H; exact H
        clear H
        have H := H1
        clear H1
        obtain rfl := Option.some.inj H
        go_wp2
        go_ret
        exact ⟨by first | rfl | (simp [errW_none, errW_some] <;> rfl) | (simp [*, errW_none, errW_some] <;> rfl), by repeat (first | (with_reducible first | exact HB.out | apply below_alloc | apply pw_below_drewN | apply below_drew1 | refine below_set ?_ GE186.out) | exact HB.out)⟩
      · replace c11 := Bool.eq_false_iff.mpr c11
        subst c11
        have H1 : (if a0_0 = 1 then (if a0_1 = 0 then (if a0_2.toList = ([] : List UInt8) then (if a0_0 = 3 then (some true) else (some (decide ((a0_2.size : Int) ≤ 65535)))) else (if a0_0 < 3 then (some false) else (if a0_0 > 5 then (some false) else (if a0_0 = 3 then (some true) else (some (decide ((a0_2.size : Int) ≤ 65535))))))) else (some false)) else (if a0_2.toList = ([] : List UInt8) then (if a0_0 = 3 then (some true) else (some (decide ((a0_2.size : Int) ≤ 65535)))) else (if a0_0 < 3 then (some false) else (if a0_0 > 5 then (some false) else (if a0_0 = 3 then (some true) else (some (decide ((a0_2.size : Int) ≤ 65535)))))))) = some r := by rw [if_neg (show ¬ (false = true) by decide)] at H; exact H
        clear H
        have H := H1
        clear H1
        by_cases c12 : a0_0 = 1
        · rw [if_pos c12] at H
          have c12b0 : (a0_0 == 1) = true := beq_iff_eq.mpr c12
          have c12b1 : (a0_0 != 1) = false := bne_eq_false_iff_eq.mpr c12
          clear c12
          by_cases c13 : a0_1 = 0
          · rw [if_pos c13] at H
            have c13b0 : (a0_1 == 0) = true := beq_iff_eq.mpr c13
            have c13b1 : (a0_1 != 0) = false := bne_eq_false_iff_eq.mpr c13
            clear c13
            by_cases c14 : a0_2.toList = ([] : List UInt8)
            · rw [if_pos c14] at H
              have c14b0 : (a0_2.toList == ([] : List UInt8)) = true := beq_iff_eq.mpr c14
              have c14b1 : (a0_2.toList != ([] : List UInt8)) = false := bne_eq_false_iff_eq.mpr c14
              clear c14
              by_cases c15 : a0_0 = 3
              · rw [if_pos c15] at H
                have c15b0 : (a0_0 == 3) = true := beq_iff_eq.mpr c15
                have c15b1 : (a0_0 != 3) = false := bne_eq_false_iff_eq.mpr c15
                clear c15
                obtain rfl := Option.some.inj H
                have hcz16_0 : wc.cell? ⟨gb186, 0, none⟩ = some (.int .u8 a0_0) := (blk_cell BK186.out 0).trans rfl
                have hcz16_1 : wc.cell? ⟨gb186, 1, none⟩ = some (.int .i64 a0_1) := (blk_cell BK186.out 1).trans rfl
                have hcz16_2 : wc.cell? ⟨gb186, 2, none⟩ = some (.string a0_2) := (blk_cell BK186.out 2).trans rfl
                have hfz16_0 := blk_frozen BK186.out 0
                have hfz16_1 := blk_frozen BK186.out 1
                have hfz16_2 := blk_frozen BK186.out 2
                go_wp2
                go_ret
                exact ⟨by first | rfl | (simp [errW_none, errW_some] <;> rfl) | (simp [*, errW_none, errW_some] <;> rfl), by repeat (first | (with_reducible first | exact HB.out | apply below_alloc | apply pw_below_drewN | apply below_drew1 | refine below_set ?_ GE186.out) | exact HB.out)⟩
              · rw [if_neg c15] at H
                have c15b0 : (a0_0 == 3) = false := beq_eq_false_iff_ne.mpr c15
                have c15b1 : (a0_0 != 3) = true := bne_iff_ne.mpr c15
                obtain rfl := Option.some.inj H
                have hcz17_0 : wc.cell? ⟨gb186, 0, none⟩ = some (.int .u8 a0_0) := (blk_cell BK186.out 0).trans rfl
                have hcz17_1 : wc.cell? ⟨gb186, 1, none⟩ = some (.int .i64 a0_1) := (blk_cell BK186.out 1).trans rfl
                have hcz17_2 : wc.cell? ⟨gb186, 2, none⟩ = some (.string a0_2) := (blk_cell BK186.out 2).trans rfl
                have hfz17_0 := blk_frozen BK186.out 0
                have hfz17_1 := blk_frozen BK186.out 1
                have hfz17_2 := blk_frozen BK186.out 2
                go_wp2
                go_ret
                exact ⟨by first | rfl | (simp [errW_none, errW_some] <;> rfl) | (simp [*, errW_none, errW_some] <;> rfl), by repeat (first | (with_reducible first | exact HB.out | apply below_alloc | apply pw_below_drewN | apply below_drew1 | refine below_set ?_ GE186.out) | exact HB.out)⟩
            · rw [if_neg c14] at H
              have c14b0 : (a0_2.toList == ([] : List UInt8)) = false := beq_eq_false_iff_ne.mpr c14
              have c14b1 : (a0_2.toList != ([] : List UInt8)) = true := bne_iff_ne.mpr c14
              by_cases c18 : a0_0 < 3
              · rw [if_pos c18] at H
                have c18b0 : decide (a0_0 < 3) = true := decide_eq_true c18
                clear c18
                obtain rfl := Option.some.inj H
                have hcz19_0 : wc.cell? ⟨gb186, 0, none⟩ = some (.int .u8 a0_0) := (blk_cell BK186.out 0).trans rfl
                have hcz19_1 : wc.cell? ⟨gb186, 1, none⟩ = some (.int .i64 a0_1) := (blk_cell BK186.out 1).trans rfl
                have hcz19_2 : wc.cell? ⟨gb186, 2, none⟩ = some (.string a0_2) := (blk_cell BK186.out 2).trans rfl
                have hfz19_0 := blk_frozen BK186.out 0
                have hfz19_1 := blk_frozen BK186.out 1
                have hfz19_2 := blk_frozen BK186.out 2
                go_wp2
                go_ret
                exact ⟨by first | rfl | (simp [errW_none, errW_some] <;> rfl) | (simp [*, errW_none, errW_some] <;> rfl), by repeat (first | (with_reducible first | exact HB.out | apply below_alloc | apply pw_below_drewN | apply below_drew1 | refine below_set ?_ GE186.out) | exact HB.out)⟩
              · rw [if_neg c18] at H
                have c18b0 : decide (a0_0 < 3) = false := decide_eq_false c18
                clear c18
                by_cases c20 : a0_0 > 5
                · rw [if_pos c20] at H
                  have c20b0 : decide (5 < a0_0) = true := decide_eq_true c20
                  clear c20
                  obtain rfl := Option.some.inj H
                  have hcz21_0 : wc.cell? ⟨gb186, 0, none⟩ = some (.int .u8 a0_0) := (blk_cell BK186.out 0).trans rfl
                  have hcz21_1 : wc.cell? ⟨gb186, 1, none⟩ = some (.int .i64 a0_1) := (blk_cell BK186.out 1).trans rfl
                  have hcz21_2 : wc.cell? ⟨gb186, 2, none⟩ = some (.string a0_2) := (blk_cell BK186.out 2).trans rfl
                  have hfz21_0 := blk_frozen BK186.out 0
                  have hfz21_1 := blk_frozen BK186.out 1
                  have hfz21_2 := blk_frozen BK186.out 2
                  go_wp2
                  go_ret
                  exact ⟨by first | rfl | (simp [errW_none, errW_some] <;> rfl) | (simp [*, errW_none, errW_some] <;> rfl), by repeat (first | (with_reducible first | exact HB.out | apply below_alloc | apply pw_below_drewN | apply below_drew1 | refine below_set ?_ GE186.out) | exact HB.out)⟩
                · rw [if_neg c20] at H
                  have c20b0 : decide (5 < a0_0) = false := decide_eq_false c20
                  clear c20
                  by_cases c22 : a0_0 = 3
                  · rw [if_pos c22] at H
                    have c22b0 : (a0_0 == 3) = true := beq_iff_eq.mpr c22
                    have c22b1 : (a0_0 != 3) = false := bne_eq_false_iff_eq.mpr c22
                    clear c22
                    obtain rfl := Option.some.inj H
                    have hcz23_0 : wc.cell? ⟨gb186, 0, none⟩ = some (.int .u8 a0_0) := (blk_cell BK186.out 0).trans rfl
                    have hcz23_1 : wc.cell? ⟨gb186, 1, none⟩ = some (.int .i64 a0_1) := (blk_cell BK186.out 1).trans rfl
                    have hcz23_2 : wc.cell? ⟨gb186, 2, none⟩ = some (.string a0_2) := (blk_cell BK186.out 2).trans rfl
                    have hfz23_0 := blk_frozen BK186.out 0
                    have hfz23_1 := blk_frozen BK186.out 1
                    have hfz23_2 := blk_frozen BK186.out 2
                    go_wp2
                    go_ret
                    exact ⟨by first | rfl | (simp [errW_none, errW_some] <;> rfl) | (simp [*, errW_none, errW_some] <;> rfl), by repeat (first | (with_reducible first | exact HB.out | apply below_alloc | apply pw_below_drewN | apply below_drew1 | refine below_set ?_ GE186.out) | exact HB.out)⟩
                  · rw [if_neg c22] at H
                    have c22b0 : (a0_0 == 3) = false := beq_eq_false_iff_ne.mpr c22
                    have c22b1 : (a0_0 != 3) = true := bne_iff_ne.mpr c22
                    obtain rfl := Option.some.inj H
                    have hcz24_0 : wc.cell? ⟨gb186, 0, none⟩ = some (.int .u8 a0_0) := (blk_cell BK186.out 0).trans rfl
                    have hcz24_1 : wc.cell? ⟨gb186, 1, none⟩ = some (.int .i64 a0_1) := (blk_cell BK186.out 1).trans rfl
                    have hcz24_2 : wc.cell? ⟨gb186, 2, none⟩ = some (.string a0_2) := (blk_cell BK186.out 2).trans rfl
                    have hfz24_0 := blk_frozen BK186.out 0
                    have hfz24_1 := blk_frozen BK186.out 1
                    have hfz24_2 := blk_frozen BK186.out 2
                    go_wp2
                    go_ret
                    exact ⟨by first | rfl | (simp [errW_none, errW_some] <;> rfl) | (simp [*, errW_none, errW_some] <;> rfl), by repeat (first | (with_reducible first | exact HB.out | apply below_alloc | apply pw_below_drewN | apply below_drew1 | refine below_set ?_ GE186.out) | exact HB.out)⟩
          · rw [if_neg c13] at H
            have c13b0 : (a0_1 == 0) = false := beq_eq_false_iff_ne.mpr c13
            have c13b1 : (a0_1 != 0) = true := bne_iff_ne.mpr c13
            obtain rfl := Option.some.inj H
            have hcz25_0 : wc.cell? ⟨gb186, 0, none⟩ = some (.int .u8 a0_0) := (blk_cell BK186.out 0).trans rfl
            have hcz25_1 : wc.cell? ⟨gb186, 1, none⟩ = some (.int .i64 a0_1) := (blk_cell BK186.out 1).trans rfl
            have hcz25_2 : wc.cell? ⟨gb186, 2, none⟩ = some (.string a0_2) := (blk_cell BK186.out 2).trans rfl
            have hfz25_0 := blk_frozen BK186.out 0
            have hfz25_1 := blk_frozen BK186.out 1
            have hfz25_2 := blk_frozen BK186.out 2
            go_wp2
            go_ret
            exact ⟨by first | rfl | (simp [errW_none, errW_some] <;> rfl) | (simp [*, errW_none, errW_some] <;> rfl), by repeat (first | (with_reducible first | exact HB.out | apply below_alloc | apply pw_below_drewN | apply below_drew1 | refine below_set ?_ GE186.out) | exact HB.out)⟩
        · rw [if_neg c12] at H
          have c12b0 : (a0_0 == 1) = false := beq_eq_false_iff_ne.mpr c12
          have c12b1 : (a0_0 != 1) = true := bne_iff_ne.mpr c12
          by_cases c26 : a0_2.toList = ([] : List UInt8)
          · rw [if_pos c26] at H
            have c26b0 : (a0_2.toList == ([] : List UInt8)) = true := beq_iff_eq.mpr c26
            have c26b1 : (a0_2.toList != ([] : List UInt8)) = false := bne_eq_false_iff_eq.mpr c26
            clear c26
            by_cases c27 : a0_0 = 3
            · rw [if_pos c27] at H
              have c27b0 : (a0_0 == 3) = true := beq_iff_eq.mpr c27
              have c27b1 : (a0_0 != 3) = false := bne_eq_false_iff_eq.mpr c27
              clear c27
              obtain rfl := Option.some.inj H
              have hcz28_0 : wc.cell? ⟨gb186, 0, none⟩ = some (.int .u8 a0_0) := (blk_cell BK186.out 0).trans rfl
              have hcz28_1 : wc.cell? ⟨gb186, 1, none⟩ = some (.int .i64 a0_1) := (blk_cell BK186.out 1).trans rfl
              have hcz28_2 : wc.cell? ⟨gb186, 2, none⟩ = some (.string a0_2) := (blk_cell BK186.out 2).trans rfl
              have hfz28_0 := blk_frozen BK186.out 0
              have hfz28_1 := blk_frozen BK186.out 1
              have hfz28_2 := blk_frozen BK186.out 2
              go_wp2
              go_ret
              exact ⟨by first | rfl | (simp [errW_none, errW_some] <;> rfl) | (simp [*, errW_none, errW_some] <;> rfl), by repeat (first | (with_reducible first | exact HB.out | apply below_alloc | apply pw_below_drewN | apply below_drew1 | refine below_set ?_ GE186.out) | exact HB.out)⟩
            · rw [if_neg c27] at H
              have c27b0 : (a0_0 == 3) = false := beq_eq_false_iff_ne.mpr c27
              have c27b1 : (a0_0 != 3) = true := bne_iff_ne.mpr c27
              obtain rfl := Option.some.inj H
              have hcz29_0 : wc.cell? ⟨gb186, 0, none⟩ = some (.int .u8 a0_0) := (blk_cell BK186.out 0).trans rfl
              have hcz29_1 : wc.cell? ⟨gb186, 1, none⟩ = some (.int .i64 a0_1) := (blk_cell BK186.out 1).trans rfl
              have hcz29_2 : wc.cell? ⟨gb186, 2, none⟩ = some (.string a0_2) := (blk_cell BK186.out 2).trans rfl
              have hfz29_0 := blk_frozen BK186.out 0
              have hfz29_1 := blk_frozen BK186.out 1
              have hfz29_2 := blk_frozen BK186.out 2
              go_wp2
              go_ret
              exact ⟨by first | rfl | (simp [errW_none, errW_some] <;> rfl) | (simp [*, errW_none, errW_some] <;> rfl), by repeat (first | (with_reducible first | exact HB.out | apply below_alloc | apply pw_below_drewN | apply below_drew1 | refine below_set ?_ GE186.out) | exact HB.out)⟩
          · rw [if_neg c26] at H
            have c26b0 : (a0_2.toList == ([] : List UInt8)) = false := beq_eq_false_iff_ne.mpr c26
            have c26b1 : (a0_2.toList != ([] : List UInt8)) = true := bne_iff_ne.mpr c26
            by_cases c30 : a0_0 < 3
            · rw [if_pos c30] at H
              have c30b0 : decide (a0_0 < 3) = true := decide_eq_true c30
              clear c30
              obtain rfl := Option.some.inj H
              have hcz31_0 : wc.cell? ⟨gb186, 0, none⟩ = some (.int .u8 a0_0) := (blk_cell BK186.out 0).trans rfl
              have hcz31_1 : wc.cell? ⟨gb186, 1, none⟩ = some (.int .i64 a0_1) := (blk_cell BK186.out 1).trans rfl
              have hcz31_2 : wc.cell? ⟨gb186, 2, none⟩ = some (.string a0_2) := (blk_cell BK186.out 2).trans rfl
              have hfz31_0 := blk_frozen BK186.out 0
              have hfz31_1 := blk_frozen BK186.out 1
              have hfz31_2 := blk_frozen BK186.out 2
              go_wp2
              go_ret
              exact ⟨by first | rfl | (simp [errW_none, errW_some] <;> rfl) | (simp [*, errW_none, errW_some] <;> rfl), by repeat (first | (with_reducible first | exact HB.out | apply below_alloc | apply pw_below_drewN | apply below_drew1 | refine below_set ?_ GE186.out) | exact HB.out)⟩
            · rw [if_neg c30] at H
              have c30b0 : decide (a0_0 < 3) = false := decide_eq_false c30
              clear c30
              by_cases c32 : a0_0 > 5
              · rw [if_pos c32] at H
                have c32b0 : decide (5 < a0_0) = true := decide_eq_true c32
                clear c32
                obtain rfl := Option.some.inj H
                have hcz33_0 : wc.cell? ⟨gb186, 0, none⟩ = some (.int .u8 a0_0) := (blk_cell BK186.out 0).trans rfl
                have hcz33_1 : wc.cell? ⟨gb186, 1, none⟩ = some (.int .i64 a0_1) := (blk_cell BK186.out 1).trans rfl
                have hcz33_2 : wc.cell? ⟨gb186, 2, none⟩ = some (.string a0_2) := (blk_cell BK186.out 2).trans rfl
                have hfz33_0 := blk_frozen BK186.out 0
                have hfz33_1 := blk_frozen BK186.out 1
                have hfz33_2 := blk_frozen BK186.out 2
                go_wp2
                go_ret
                exact ⟨by first | rfl | (simp [errW_none, errW_some] <;> rfl) | (simp [*, errW_none, errW_some] <;> rfl), by repeat (first | (with_reducible first | exact HB.out | apply below_alloc | apply pw_below_drewN | apply below_drew1 | refine below_set ?_ GE186.out) | exact HB.out)⟩
              · rw [if_neg c32] at H
                have c32b0 : decide (5 < a0_0) = false := decide_eq_false c32
                clear c32
                by_cases c34 : a0_0 = 3
                · rw [if_pos c34] at H
                  have c34b0 : (a0_0 == 3) = true := beq_iff_eq.mpr c34
                  have c34b1 : (a0_0 != 3) = false := bne_eq_false_iff_eq.mpr c34
                  clear c34
                  obtain rfl := Option.some.inj H
                  have hcz35_0 : wc.cell? ⟨gb186, 0, none⟩ = some (.int .u8 a0_0) := (blk_cell BK186.out 0).trans rfl
                  have hcz35_1 : wc.cell? ⟨gb186, 1, none⟩ = some (.int .i64 a0_1) := (blk_cell BK186.out 1).trans rfl
                  have hcz35_2 : wc.cell? ⟨gb186, 2, none⟩ = some (.string a0_2) := (blk_cell BK186.out 2).trans rfl
                  have hfz35_0 := blk_frozen BK186.out 0
                  have hfz35_1 := blk_frozen BK186.out 1
                  have hfz35_2 := blk_frozen BK186.out 2
                  go_wp2
                  go_ret
                  exact ⟨by first | rfl | (simp [errW_none, errW_some] <;> rfl) | (simp [*, errW_none, errW_some] <;> rfl), by repeat (first | (with_reducible first | exact HB.out | apply below_alloc | apply pw_below_drewN | apply below_drew1 | refine below_set ?_ GE186.out) | exact HB.out)⟩
                · rw [if_neg c34] at H
                  have c34b0 : (a0_0 == 3) = false := beq_eq_false_iff_ne.mpr c34
                  have c34b1 : (a0_0 != 3) = true := bne_iff_ne.mpr c34
                  obtain rfl := Option.some.inj H
                  have hcz36_0 : wc.cell? ⟨gb186, 0, none⟩ = some (.int .u8 a0_0) := (blk_cell BK186.out 0).trans rfl
                  have hcz36_1 : wc.cell? ⟨gb186, 1, none⟩ = some (.int .i64 a0_1) := (blk_cell BK186.out 1).trans rfl
                  have hcz36_2 : wc.cell? ⟨gb186, 2, none⟩ = some (.string a0_2) := (blk_cell BK186.out 2).trans rfl
                  have hfz36_0 := blk_frozen BK186.out 0
                  have hfz36_1 := blk_frozen BK186.out 1
                  have hfz36_2 := blk_frozen BK186.out 2
                  go_wp2
                  go_ret
                  exact ⟨by first | rfl | (simp [errW_none, errW_some] <;> rfl) | (simp [*, errW_none, errW_some] <;> rfl), by repeat (first | (with_reducible first | exact HB.out | apply below_alloc | apply pw_below_drewN | apply below_drew1 | refine below_set ?_ GE186.out) | exact HB.out)⟩






end Go.Proofs.YtmcjfnebkpifnaaGreatDoor.PScriptReads
