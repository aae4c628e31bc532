-- PRINTED BY print.sh 35421559b90ae4d0a3588c463048766b98c2df88dd9212a6774a882060cdf62d: not written by this session
import Derived.Test.YtelmmcjlhjahcaaDoorPFaultTellsx0
namespace Go.Proofs.YtelmmcjlhjahcaaDoor.PFaultTells
open Go.RowKit Go.Proofs.YtelmmcjlhjahcaaDoorW.PrintWords Go.Proofs.YtelmmcjlhjahcaaDoorW.PrintLast Go.Proofs.YtelmmcjlhjahcaaDoorW.PrintMore
attribute [local go_sem] max2_int min2_int max_two min_two max_three min_three max_four min_four   -- for this text's walks alone
set_option linter.unusedVariables false
set_option linter.unusedSimpArgs false

/-! ### sashref03_Great: function 12 -/
mutual
def sashref03_Great.l0 : Nat → List (S24) → Int → Int → Option (Bool)
  | 0, _, _, _ => none
  | k + 1, x0, x9, x10 => if x10 < x9 then (if 0 ≤ x10 then (if x10 < (x0.length : Int) then (if (((rd_T24 x0 x10).f2).length : Int) > 10 then (some true) else (sashref03_Great.l1 k x0 x10 x9 x10 (((rd_T24 x0 x10).f2).length : Int) 0)) else (none)) else (none)) else (some false)
def sashref03_Great.l1 : Nat → List (S24) → Int → Int → Int → Int → Int → Option (Bool)
  | 0, _, _, _, _, _, _ => none
  | k + 1, x0, x3, x9, x10, x25, x26 => if x26 < x25 then (if 0 ≤ x3 then (if x3 < (x0.length : Int) then (if 0 ≤ x26 then (if x26 < (((rd_T24 x0 x3).f2).length : Int) then (if ((rd_L2 ((rd_T24 x0 x3).f2) x26).length : Int) > 10 then (some true) else (sashref03_Great.l1 k x0 x3 x9 x10 x25 (wrap64 (x26 + 1)))) else (none)) else (none)) else (none)) else (none)) else (sashref03_Great.l0 k x0 x9 (wrap64 (x10 + 1)))
end
def sashref03_Great.f (k : Nat) (l0 : List (S24)) : Option (Bool) := if (l0.length : Int) > 20 then (some true) else (sashref03_Great.l0 k l0 (l0.length : Int) 0)
theorem sashref03_Great.mono_l : ∀ k, (∀ y0 y1 y2, LeO (sashref03_Great.l0 k y0 y1 y2) (sashref03_Great.l0 (k + 1) y0 y1 y2)) ∧ (∀ y0 y1 y2 y3 y4 y5, LeO (sashref03_Great.l1 k y0 y1 y2 y3 y4 y5) (sashref03_Great.l1 (k + 1) y0 y1 y2 y3 y4 y5))
  | 0 => ⟨fun _ _ _ r h => by simp [sashref03_Great.l0] at h, fun _ _ _ _ _ _ r h => by simp [sashref03_Great.l1] at h⟩
  | k + 1 => by
    obtain ⟨ih0, ih1⟩ := sashref03_Great.mono_l k
    refine ⟨?_, ?_⟩
    · intro y0 y1 y2
      unfold sashref03_Great.l0
      repeat' first
      | (with_reducible exact ih0 _ _ _)
      | (with_reducible exact ih1 _ _ _ _ _ _)
      | (with_reducible exact LeO.refl _)
      | (with_reducible exact LeO.none _)
      | (with_reducible refine LeO.ite ?_ ?_)
      | (with_reducible refine LeO.bind ?_ (fun _ => ?_))
      | exact ih0 _ _ _
      | exact ih1 _ _ _ _ _ _
      | exact LeO.none _
      | refine LeO.ite ?_ ?_
      | refine LeO.bind ?_ (fun _ => ?_)
    · intro y0 y1 y2 y3 y4 y5
      unfold sashref03_Great.l1
      repeat' first
      | (with_reducible exact ih0 _ _ _)
      | (with_reducible exact ih1 _ _ _ _ _ _)
      | (with_reducible exact LeO.refl _)
      | (with_reducible exact LeO.none _)
      | (with_reducible refine LeO.ite ?_ ?_)
      | (with_reducible refine LeO.bind ?_ (fun _ => ?_))
      | exact ih0 _ _ _
      | exact ih1 _ _ _ _ _ _
      | exact LeO.none _
      | refine LeO.ite ?_ ?_
      | refine LeO.bind ?_ (fun _ => ?_)
theorem sashref03_Great.mono : ∀ a0 k, LeO (sashref03_Great.f k a0) (sashref03_Great.f (k + 1) a0) := by
  intro a0 k
  obtain ⟨ih0, ih1⟩ := sashref03_Great.mono_l k
  unfold sashref03_Great.f
  repeat' first
      | (with_reducible exact ih0 _ _ _)
      | (with_reducible exact ih1 _ _ _ _ _ _)
      | (with_reducible exact LeO.refl _)
      | (with_reducible exact LeO.none _)
      | (with_reducible refine LeO.ite ?_ ?_)
      | (with_reducible refine LeO.bind ?_ (fun _ => ?_))
      | exact ih0 _ _ _
      | exact ih1 _ _ _ _ _ _
      | exact LeO.none _
      | refine LeO.ite ?_ ?_
      | refine LeO.bind ?_ (fun _ => ?_)
set_option maxHeartbeats 8000000 in
set_option maxRecDepth 100000 in
theorem sashref03_Great.calls (k : Nat) (A0 : Option Addr) (c0 : Nat) (l0 : List (S24)) (r : Bool) (w : World) (hr0 : Kd.C k24 w A0 l0.length l0) (hc0 : l0.length ≤ c0) (h : sashref03_Great.f k l0 = some r) :
    Calls Tryd.prog 12 #[.slice A0 l0.length c0] w fun e w' => e = .returned (.bool r) ∧ Drawn0 w w' := by
  have HR0 := Aside0.mk hr0
  have HC0 := Aside0.mk hc0
  clear hr0 hc0
  have H : (if (l0.length : Int) > 20 then (some true) else (sashref03_Great.l0 k l0 (l0.length : Int) 0)) = some r := h
  clear h
  by_cases c2 : (l0.length : Int) > 20
  · rw [if_pos c2] at H
    have c2b0 : decide (20 < (l0.length : Int)) = true := decide_eq_true c2
    have c2b1 : decide (20 < l0.length) = true := decide_eq_true (by omega)
    clear c2
    obtain rfl := Option.some.inj H
    go_enter Tryd.func12, Tryd.ntmps12
    go_wp2
    go_ret
    exact ⟨by first | rfl | (simp; done) | (simp [*]; done), by repeat (first | exact Drawn0.refl _ | apply Drawn0.step)⟩
  · rw [if_neg c2] at H
    have c2b0 : decide (20 < (l0.length : Int)) = false := decide_eq_false c2
    have c2b1 : decide (20 < l0.length) = false := decide_eq_false (by omega)
    clear c2
    have H' := Aside0.mk H
    clear H
    go_enter Tryd.func12, Tryd.ntmps12
    go_wp2
    go_loopg [10] k (fun kq v10 w' => ∃ (x10_1 : Int), v10 = .int .i64 x10_1 ∧ Aside0 (sashref03_Great.l0 kq l0 (l0.length : Int) x10_1 = some r) ∧ Aside0 (kq ≤ k) ∧ Drawn0 w w')
    case atStart => exact ⟨(0), (by first | rfl | (simp; done) | (simp [*]; done)), H', ⟨Nat.le_refl _⟩, by repeat (first | exact Drawn0.refl _ | apply Drawn0.step)⟩
    case round =>
      clear H'
      try clear c1
      try clear c2
      try clear c2b0
      try clear c2b1
      try clear p2
      obtain ⟨x10_1, rfl, HA, HK1, ⟨m1, rfl⟩⟩ := hrel
      cases gk with
      | zero => exact absurd HA.out (by simp [sashref03_Great.l0])
      | succ k1 =>
        have H := HA.out
        clear HA
        simp only [sashref03_Great.l0] at H
        by_cases c3 : x10_1 < (l0.length : Int)
        · rw [if_pos c3] at H
          have c3b0 : decide (x10_1 < (l0.length : Int)) = true := decide_eq_true c3
          clear c3
          by_cases c4 : 0 ≤ x10_1
          · rw [if_pos c4] at H
            have c4b0 : decide (0 ≤ x10_1) = true := decide_eq_true c4
            clear c4
            by_cases c5 : x10_1 < (l0.length : Int)
            · rw [if_pos c5] at H
              have c5b0 : decide (x10_1 < (l0.length : Int)) = true := decide_eq_true c5
              clear c5
              by_cases c6 : (((rd_T24 l0 x10_1).f2).length : Int) > 10
              · rw [if_pos c6] at H
                have c6b0 : decide (10 < (((rd_T24 l0 x10_1).f2).length : Int)) = true := decide_eq_true c6
                have c6b1 : decide (10 < ((rd_T24 l0 x10_1).f2).length) = true := decide_eq_true (by omega)
                clear c6
                obtain rfl := Option.some.inj H
                have p101 : 0 ≤ (x10_1 : Int) := of_decide_eq_true (by first | (with_reducible assumption) | assumption)
                have q101 : x10_1 < (l0.length : Int) := of_decide_eq_true (by first | (with_reducible assumption) | assumption)
                obtain ⟨ad101, A101_2, c101_2, e101, hx101_0, hx101_1, hx101_2, hl101_2, hi101_2⟩ := at_T24 HR0.out x10_1 p101 q101
                cases e101
                have HR101_2 := Aside0.mk hi101_2
                have HC101_2 := Aside0.mk hl101_2
                clear hi101_2 hl101_2
                replace p101 := eq_true p101
                replace q101 := eq_true q101
                go_wp2
                go_ret
                exact ⟨by first | rfl | (simp; done) | (simp [*]; done), by repeat (first | exact Drawn0.refl _ | apply Drawn0.step)⟩
              · rw [if_neg c6] at H
                have c6b0 : decide (10 < (((rd_T24 l0 x10_1).f2).length : Int)) = false := decide_eq_false c6
                have c6b1 : decide (10 < ((rd_T24 l0 x10_1).f2).length) = false := decide_eq_false (by omega)
                clear c6
                have H' := Aside0.mk H
                clear H
                have p101 : 0 ≤ (x10_1 : Int) := of_decide_eq_true (by first | (with_reducible assumption) | assumption)
                have q101 : x10_1 < (l0.length : Int) := of_decide_eq_true (by first | (with_reducible assumption) | assumption)
                obtain ⟨ad101, A101_2, c101_2, e101, hx101_0, hx101_1, hx101_2, hl101_2, hi101_2⟩ := at_T24 HR0.out x10_1 p101 q101
                cases e101
                have HR101_2 := Aside0.mk hi101_2
                have HC101_2 := Aside0.mk hl101_2
                clear hi101_2 hl101_2
                replace p101 := eq_true p101
                replace q101 := eq_true q101
                have p102 : 0 ≤ (x10_1 : Int) := of_decide_eq_true (by first | (with_reducible assumption) | assumption)
                have q102 : x10_1 < (l0.length : Int) := of_decide_eq_true (by first | (with_reducible assumption) | assumption)
                obtain ⟨ad102, A102_2, c102_2, e102, hx102_0, hx102_1, hx102_2, hl102_2, hi102_2⟩ := at_T24 HR0.out x10_1 p102 q102
                obtain rfl : ad101 = ad102 := (by injection e102)
                have HR102_2 := Aside0.mk hi102_2
                have HC102_2 := Aside0.mk hl102_2
                clear hi102_2 hl102_2
                replace p102 := eq_true p102
                replace q102 := eq_true q102
                have ea_ := Option.some.inj (hx101_2.symm.trans hx102_2)
                injection ea_ with ea_ en_ ec_
                subst ea_
                subst ec_
                clear en_
                go_wp2
                go_loopg [26] k1 (fun kq v26 w' => ∃ (x26_2 : Int), v26 = .int .i64 x26_2 ∧ Aside0 (sashref03_Great.l1 kq l0 x10_1 (l0.length : Int) x10_1 (((rd_T24 l0 x10_1).f2).length : Int) x26_2 = some r) ∧ Aside0 (kq ≤ k1) ∧ Drawn0 w w')
                case atStart => exact ⟨(0), (by first | rfl | (simp; done) | (simp [*]; done)), H', ⟨Nat.le_refl _⟩, by repeat (first | exact Drawn0.refl _ | apply Drawn0.step)⟩
                case round =>
                  clear H'
                  try clear c1
                  try clear p1
                  try clear q1
                  try clear hx1
                  try clear c2
                  try clear c2b0
                  try clear c2b1
                  try clear p2
                  try clear c3
                  try clear c3b0
                  try clear c4
                  try clear c4b0
                  try clear c5
                  try clear c5b0
                  try clear c6
                  try clear c6b0
                  try clear c6b1
                  try clear hx101_0
                  try clear hx101_1
                  try clear hx101_2
                  try clear hx102_0
                  try clear hx102_1
                  try clear hx102_2
                  try clear p101
                  try clear p102
                  try clear p2
                  try clear q101
                  try clear q102
                  obtain ⟨x26_2, rfl, HA, HK2, ⟨m2, rfl⟩⟩ := hrel
                  cases gk with
                  | zero => exact absurd HA.out (by simp [sashref03_Great.l1])
                  | succ k2 =>
                    have H := HA.out
                    clear HA
                    simp only [sashref03_Great.l1] at H
                    by_cases c7 : x26_2 < (((rd_T24 l0 x10_1).f2).length : Int)
                    · rw [if_pos c7] at H
                      have c7b0 : decide (x26_2 < (((rd_T24 l0 x10_1).f2).length : Int)) = true := decide_eq_true c7
                      clear c7
                      by_cases c8 : 0 ≤ x10_1
                      · rw [if_pos c8] at H
                        have c8b0 : decide (0 ≤ x10_1) = true := decide_eq_true c8
                        clear c8
                        by_cases c9 : x10_1 < (l0.length : Int)
                        · rw [if_pos c9] at H
                          have c9b0 : decide (x10_1 < (l0.length : Int)) = true := decide_eq_true c9
                          clear c9
                          by_cases c10 : 0 ≤ x26_2
                          · rw [if_pos c10] at H
                            have c10b0 : decide (0 ≤ x26_2) = true := decide_eq_true c10
                            clear c10
                            by_cases c11 : x26_2 < (((rd_T24 l0 x10_1).f2).length : Int)
                            · rw [if_pos c11] at H
                              have c11b0 : decide (x26_2 < (((rd_T24 l0 x10_1).f2).length : Int)) = true := decide_eq_true c11
                              clear c11
                              by_cases c12 : ((rd_L2 ((rd_T24 l0 x10_1).f2) x26_2).length : Int) > 10
                              · rw [if_pos c12] at H
                                have c12b0 : decide (10 < ((rd_L2 ((rd_T24 l0 x10_1).f2) x26_2).length : Int)) = true := decide_eq_true c12
                                have c12b1 : decide (10 < (rd_L2 ((rd_T24 l0 x10_1).f2) x26_2).length) = true := decide_eq_true (by omega)
                                clear c12
                                obtain rfl := Option.some.inj H
                                have p103 : 0 ≤ (x10_1 : Int) := of_decide_eq_true (by first | (with_reducible assumption) | assumption)
                                have q103 : x10_1 < (l0.length : Int) := of_decide_eq_true (by first | (with_reducible assumption) | assumption)
                                obtain ⟨ad103, A103_2, c103_2, e103, hx103_0, hx103_1, hx103_2, hl103_2, hi103_2⟩ := at_T24 HR0.out x10_1 p103 q103
                                obtain rfl : ad101 = ad103 := (by injection e103)
                                have HR103_2 := Aside0.mk hi103_2
                                have HC103_2 := Aside0.mk hl103_2
                                clear hi103_2 hl103_2
                                replace p103 := eq_true p103
                                replace q103 := eq_true q103
                                have p104 : 0 ≤ (x26_2 : Int) := of_decide_eq_true (by first | (with_reducible assumption) | assumption)
                                have q104 : x26_2 < (((rd_T24 l0 x10_1).f2).length : Int) := of_decide_eq_true (by first | (with_reducible assumption) | assumption)
                                obtain ⟨ad104, A104_0, c104_0, e104, hx104_0, hl104_0, hi104_0⟩ := at_L2 HR103_2.out x26_2 p104 q104
                                cases e104
                                have HR104_0 := Aside0.mk hi104_0
                                have HC104_0 := Aside0.mk hl104_0
                                clear hi104_0 hl104_0
                                replace p104 := eq_true p104
                                replace q104 := eq_true q104
                                go_wp2
                                go_ret
                                exact ⟨by first | rfl | (simp; done) | (simp [*]; done), by repeat (first | exact Drawn0.refl _ | apply Drawn0.step)⟩
                              · rw [if_neg c12] at H
                                have c12b0 : decide (10 < ((rd_L2 ((rd_T24 l0 x10_1).f2) x26_2).length : Int)) = false := decide_eq_false c12
                                have c12b1 : decide (10 < (rd_L2 ((rd_T24 l0 x10_1).f2) x26_2).length) = false := decide_eq_false (by omega)
                                clear c12
                                have H' := Aside0.mk H
                                clear H
                                have p103 : 0 ≤ (x10_1 : Int) := of_decide_eq_true (by first | (with_reducible assumption) | assumption)
                                have q103 : x10_1 < (l0.length : Int) := of_decide_eq_true (by first | (with_reducible assumption) | assumption)
                                obtain ⟨ad103, A103_2, c103_2, e103, hx103_0, hx103_1, hx103_2, hl103_2, hi103_2⟩ := at_T24 HR0.out x10_1 p103 q103
                                obtain rfl : ad101 = ad103 := (by injection e103)
                                have HR103_2 := Aside0.mk hi103_2
                                have HC103_2 := Aside0.mk hl103_2
                                clear hi103_2 hl103_2
                                replace p103 := eq_true p103
                                replace q103 := eq_true q103
                                have p104 : 0 ≤ (x26_2 : Int) := of_decide_eq_true (by first | (with_reducible assumption) | assumption)
                                have q104 : x26_2 < (((rd_T24 l0 x10_1).f2).length : Int) := of_decide_eq_true (by first | (with_reducible assumption) | assumption)
                                obtain ⟨ad104, A104_0, c104_0, e104, hx104_0, hl104_0, hi104_0⟩ := at_L2 HR103_2.out x26_2 p104 q104
                                cases e104
                                have HR104_0 := Aside0.mk hi104_0
                                have HC104_0 := Aside0.mk hl104_0
                                clear hi104_0 hl104_0
                                replace p104 := eq_true p104
                                replace q104 := eq_true q104
                                go_wp2
                                go_roundg k2
                                case measure => have := HK1.out; have := HK2.out; omega
                                case rel => exact ⟨(wrap64 (x26_2 + 1)), (by first | rfl | (simp; done) | (simp [*]; done)), H', ⟨by have := HK1.out; have := HK2.out; omega⟩, by repeat (first | exact Drawn0.refl _ | apply Drawn0.step)⟩
                            · rw [if_neg c11] at H
                              exact absurd H (by simp)
                          · rw [if_neg c10] at H
                            exact absurd H (by simp)
                        · rw [if_neg c9] at H
                          exact absurd H (by simp)
                      · rw [if_neg c8] at H
                        exact absurd H (by simp)
                    · rw [if_neg c7] at H
                      have c7b0 : decide (x26_2 < (((rd_T24 l0 x10_1).f2).length : Int)) = false := decide_eq_false c7
                      clear c7
                      have H' := Aside0.mk H
                      clear H
                      go_wp2
                      go_roundg k2
                      case measure => have := HK1.out; have := HK2.out; omega
                      case rel => exact ⟨(wrap64 (x10_1 + 1)), (by first | rfl | (simp; done) | (simp [*]; done)), H', ⟨by have := HK1.out; have := HK2.out; omega⟩, by repeat (first | exact Drawn0.refl _ | apply Drawn0.step)⟩
            · rw [if_neg c5] at H
              exact absurd H (by simp)
          · rw [if_neg c4] at H
            exact absurd H (by simp)
        · rw [if_neg c3] at H
          have c3b0 : decide (x10_1 < (l0.length : Int)) = false := decide_eq_false c3
          clear c3
          obtain rfl := Option.some.inj H
          go_wp2
          go_ret
          exact ⟨by first | rfl | (simp; done) | (simp [*]; done), by repeat (first | exact Drawn0.refl _ | apply Drawn0.step)⟩

-- NOT PRINTED: function 59 (reflectlite_ValueOf)

-- NOT PRINTED: function 60 (reflectlite_Value_Type)

-- NOT PRINTED: function 61 (reflectlite_Value_IsNil)

-- NOT PRINTED: function 66 (reflectlite_TypeOf)

-- NOT PRINTED: function 77 (reflectlite_Value_Elem)

-- NOT PRINTED: function 78 (reflectlite_Value_Set)

-- NOT PRINTED: function 62 (errors_as)

-- NOT PRINTED: function 40 (errors_As)

-- NOT PRINTED: function 16 (fault_Code)

/-! ### sashref03_Same: function 17 -/
def sashref03_Same.l0 : Nat → List ByteArray → List ByteArray → Int → Int → Option (Bool)
  | 0, _, _, _, _ => none
  | k + 1, x0, x1, x12, x13 => if x13 < x12 then (if 0 ≤ x13 then (if x13 < (x0.length : Int) then (if x13 < (x1.length : Int) then (if (rdOf ByteArray.empty x0 x13).toList = (rdOf ByteArray.empty x1 x13).toList then (sashref03_Same.l0 k x0 x1 x12 (wrap64 (x13 + 1))) else (some false)) else (none)) else (none)) else (none)) else (some true)
def sashref03_Same.f (k : Nat) (l0 : List ByteArray) (l1 : List ByteArray) : Option (Bool) := if (l0.length : Int) = (l1.length : Int) then (sashref03_Same.l0 k l0 l1 (l0.length : Int) 0) else (some false)
theorem sashref03_Same.mono_l : ∀ k, (∀ y0 y1 y2 y3, LeO (sashref03_Same.l0 k y0 y1 y2 y3) (sashref03_Same.l0 (k + 1) y0 y1 y2 y3))
  | 0 => fun _ _ _ _ r h => by simp [sashref03_Same.l0] at h
  | k + 1 => by
    have ih0 := sashref03_Same.mono_l k
    · intro y0 y1 y2 y3
      unfold sashref03_Same.l0
      repeat' first
      | (with_reducible exact ih0 _ _ _ _)
      | (with_reducible exact LeO.refl _)
      | (with_reducible exact LeO.none _)
      | (with_reducible refine LeO.ite ?_ ?_)
      | (with_reducible refine LeO.bind ?_ (fun _ => ?_))
      | exact ih0 _ _ _ _
      | exact LeO.none _
      | refine LeO.ite ?_ ?_
      | refine LeO.bind ?_ (fun _ => ?_)
theorem sashref03_Same.mono : ∀ a0 a1 k, LeO (sashref03_Same.f k a0 a1) (sashref03_Same.f (k + 1) a0 a1) := by
  intro a0 a1 k
  have ih0 := sashref03_Same.mono_l k
  unfold sashref03_Same.f
  repeat' first
      | (with_reducible exact ih0 _ _ _ _)
      | (with_reducible exact LeO.refl _)
      | (with_reducible exact LeO.none _)
      | (with_reducible refine LeO.ite ?_ ?_)
      | (with_reducible refine LeO.bind ?_ (fun _ => ?_))
      | exact ih0 _ _ _ _
      | exact LeO.none _
      | refine LeO.ite ?_ ?_
      | refine LeO.bind ?_ (fun _ => ?_)
set_option maxHeartbeats 8000000 in
set_option maxRecDepth 100000 in
theorem sashref03_Same.calls (k : Nat) (A0 : Option Addr) (c0 : Nat) (l0 : List ByteArray) (A1 : Option Addr) (c1 : Nat) (l1 : List ByteArray) (r : Bool) (w : World) (hr0 : Kd.C Kd.string w A0 l0.length l0) (hc0 : l0.length ≤ c0) (hr1 : Kd.C Kd.string w A1 l1.length l1) (hc1 : l1.length ≤ c1) (h : sashref03_Same.f k l0 l1 = some r) :
    Calls Tryd.prog 17 #[.slice A0 l0.length c0, .slice A1 l1.length c1] w fun e w' => e = .returned (.bool r) ∧ Drawn0 w w' := by
  have HR0 := Aside0.mk hr0
  have HC0 := Aside0.mk hc0
  clear hr0 hc0
  have HR1 := Aside0.mk hr1
  have HC1 := Aside0.mk hc1
  clear hr1 hc1
  have H : (if (l0.length : Int) = (l1.length : Int) then (sashref03_Same.l0 k l0 l1 (l0.length : Int) 0) else (some false)) = some r := h
  clear h
  by_cases c3 : (l0.length : Int) = (l1.length : Int)
  · rw [if_pos c3] at H
    have c3b0 : ((l0.length : Int) == (l1.length : Int)) = true := beq_iff_eq.mpr c3
    have c3b1 : ((l0.length : Int) != (l1.length : Int)) = false := bne_eq_false_iff_eq.mpr c3
    have c3b2 : (l0.length == l1.length) = true := by first | simpa using c3 | (simp at c3 ⊢; omega)
    clear c3
    have H' := Aside0.mk H
    clear H
    go_enter Tryd.func17, Tryd.ntmps17
    go_wp2
    repeat (go_quiet (fail); try go_wp2)
    go_loopg [13] k (fun kq v13 w' => ∃ (x13_1 : Int), v13 = .int .i64 x13_1 ∧ Aside0 (sashref03_Same.l0 kq l0 l1 (l0.length : Int) x13_1 = some r) ∧ Aside0 (kq ≤ k) ∧ Drawn0 w w')
    case atStart => exact ⟨(0), (by first | rfl | (simp; done) | (simp [*]; done)), H', ⟨Nat.le_refl _⟩, by repeat (first | exact Drawn0.refl _ | apply Drawn0.step)⟩
    case round =>
      clear H'
      try clear c1
      try clear p2
      try clear c3
      try clear c3b0
      try clear c3b1
      try clear c3b2
      obtain ⟨x13_1, rfl, HA, HK1, ⟨m1, rfl⟩⟩ := hrel
      cases gk with
      | zero => exact absurd HA.out (by simp [sashref03_Same.l0])
      | succ k1 =>
        have H := HA.out
        clear HA
        simp only [sashref03_Same.l0] at H
        by_cases c4 : x13_1 < (l0.length : Int)
        · rw [if_pos c4] at H
          have c4b0 : decide (x13_1 < (l0.length : Int)) = true := decide_eq_true c4
          clear c4
          by_cases c5 : 0 ≤ x13_1
          · rw [if_pos c5] at H
            have c5b0 : decide (0 ≤ x13_1) = true := decide_eq_true c5
            clear c5
            by_cases c6 : x13_1 < (l0.length : Int)
            · rw [if_pos c6] at H
              have c6b0 : decide (x13_1 < (l0.length : Int)) = true := decide_eq_true c6
              clear c6
              by_cases c7 : x13_1 < (l1.length : Int)
              · rw [if_pos c7] at H
                have c7b0 : decide (x13_1 < (l1.length : Int)) = true := decide_eq_true c7
                clear c7
                by_cases c8 : (rdOf ByteArray.empty l0 x13_1).toList = (rdOf ByteArray.empty l1 x13_1).toList
                · rw [if_pos c8] at H
                  have c8b0 : ((rdOf ByteArray.empty l0 x13_1).toList == (rdOf ByteArray.empty l1 x13_1).toList) = true := beq_iff_eq.mpr c8
                  have c8b1 : ((rdOf ByteArray.empty l0 x13_1).toList != (rdOf ByteArray.empty l1 x13_1).toList) = false := bne_eq_false_iff_eq.mpr c8
                  clear c8
                  have H' := Aside0.mk H
                  clear H
                  have p105 : 0 ≤ (x13_1 : Int) := of_decide_eq_true (by first | (with_reducible assumption) | assumption)
                  have q105 : x13_1 < (l0.length : Int) := of_decide_eq_true (by first | (with_reducible assumption) | assumption)
                  obtain ⟨ad105, e105, hx105_0⟩ := Kd.at_string HR0.out x13_1 p105 q105
                  cases e105
                  replace p105 := eq_true p105
                  replace q105 := eq_true q105
                  have p106 : 0 ≤ (x13_1 : Int) := of_decide_eq_true (by first | (with_reducible assumption) | assumption)
                  have q106 : x13_1 < (l1.length : Int) := of_decide_eq_true (by first | (with_reducible assumption) | assumption)
                  obtain ⟨ad106, e106, hx106_0⟩ := Kd.at_string HR1.out x13_1 p106 q106
                  cases e106
                  replace p106 := eq_true p106
                  replace q106 := eq_true q106
                  go_wp2
                  repeat (go_quiet (fail); try go_wp2)
                  go_roundg k1
                  case measure => have := HK1.out; omega
                  case rel => exact ⟨(wrap64 (x13_1 + 1)), (by first | rfl | (simp; done) | (simp [*]; done)), H', ⟨by have := HK1.out; omega⟩, by repeat (first | exact Drawn0.refl _ | apply Drawn0.step)⟩
                · rw [if_neg c8] at H
                  have c8b0 : ((rdOf ByteArray.empty l0 x13_1).toList == (rdOf ByteArray.empty l1 x13_1).toList) = false := beq_eq_false_iff_ne.mpr c8
                  have c8b1 : ((rdOf ByteArray.empty l0 x13_1).toList != (rdOf ByteArray.empty l1 x13_1).toList) = true := bne_iff_ne.mpr c8
                  obtain rfl := Option.some.inj H
                  have p105 : 0 ≤ (x13_1 : Int) := of_decide_eq_true (by first | (with_reducible assumption) | assumption)
                  have q105 : x13_1 < (l0.length : Int) := of_decide_eq_true (by first | (with_reducible assumption) | assumption)
                  obtain ⟨ad105, e105, hx105_0⟩ := Kd.at_string HR0.out x13_1 p105 q105
                  cases e105
                  replace p105 := eq_true p105
                  replace q105 := eq_true q105
                  have p106 : 0 ≤ (x13_1 : Int) := of_decide_eq_true (by first | (with_reducible assumption) | assumption)
                  have q106 : x13_1 < (l1.length : Int) := of_decide_eq_true (by first | (with_reducible assumption) | assumption)
                  obtain ⟨ad106, e106, hx106_0⟩ := Kd.at_string HR1.out x13_1 p106 q106
                  cases e106
                  replace p106 := eq_true p106
                  replace q106 := eq_true q106
                  go_wp2
                  repeat (go_quiet (fail); try go_wp2)
                  go_ret
                  exact ⟨by first | rfl | (simp; done) | (simp [*]; done), by repeat (first | exact Drawn0.refl _ | apply Drawn0.step)⟩
              · rw [if_neg c7] at H
                exact absurd H (by simp)
            · rw [if_neg c6] at H
              exact absurd H (by simp)
          · rw [if_neg c5] at H
            exact absurd H (by simp)
        · rw [if_neg c4] at H
          have c4b0 : decide (x13_1 < (l0.length : Int)) = false := decide_eq_false c4
          clear c4
          obtain rfl := Option.some.inj H
          go_wp2
          repeat (go_quiet (fail); try go_wp2)
          go_ret
          exact ⟨by first | rfl | (simp; done) | (simp [*]; done), by repeat (first | exact Drawn0.refl _ | apply Drawn0.step)⟩
  · rw [if_neg c3] at H
    have c3b0 : ((l0.length : Int) == (l1.length : Int)) = false := beq_eq_false_iff_ne.mpr c3
    have c3b1 : ((l0.length : Int) != (l1.length : Int)) = true := bne_iff_ne.mpr c3
    have c3b2 : (l0.length == l1.length) = false := by first | simpa using c3 | (simp at c3 ⊢; omega)
    obtain rfl := Option.some.inj H
    go_enter Tryd.func17, Tryd.ntmps17
    go_wp2
    repeat (go_quiet (fail); try go_wp2)
    go_ret
    exact ⟨by first | rfl | (simp; done) | (simp [*]; done), by repeat (first | exact Drawn0.refl _ | apply Drawn0.step)⟩

-- NOT PRINTED: function 18 (fault_Words)

-- NOT PRINTED: function 41 (slices_Clone_string_string)

-- NOT PRINTED: function 20 (fault_In)

-- NOT PRINTED: function 22 (fault_New)

-- NOT PRINTED: function 13 (sashlaw03_awake)

-- NOT PRINTED: function 14 (sashlaw03_made)

-- NOT PRINTED: function 15 (fault_At)

/-! ### sashref03_Words: function 19 -/
def sashref03_Words.l0 : Nat → List ByteArray → Int → Int → Int → Int → List (List ByteArray) → Option (List ByteArray)
  | 0, _, _, _, _, _, _ => none
  | k + 1, x3, x8, x9, x112000, x112001, x112002 => if x9 < x8 then (if x112000 = 0 then (sashref03_Words.l0 k x3 x8 (wrap64 (x9 + 1)) x112000 x112001 x112002) else ((some (([] : List ByteArray) : List ByteArray)).bind fun y115 => (if 0 ≤ x9 then (if x9 < (x112002.length : Int) then (if y115.length + (rd_L2 x112002 x9).length < 8796093022208 then ((some (y115 ++ (rd_L2 x112002 x9) : List ByteArray)).bind fun y119 => (if y119.length + x3.length < 8796093022208 then (sashref03_Words.l0 k (y119 ++ x3) x8 (wrap64 (x9 + 1)) x112000 x112001 x112002) else (none))) else (none)) else (none)) else (none)))) else (some x3)
def sashref03_Words.f (k : Nat) (a0_0 : Int) (a0_1 : Int) (l0_2 : List (List ByteArray)) : Option (List ByteArray) := sashref03_Words.l0 k (([] : List ByteArray)) (l0_2.length : Int) 0 a0_0 a0_1 l0_2
theorem sashref03_Words.mono_l : ∀ k, (∀ y0 y1 y2 y3 y4 y5, LeO (sashref03_Words.l0 k y0 y1 y2 y3 y4 y5) (sashref03_Words.l0 (k + 1) y0 y1 y2 y3 y4 y5))
  | 0 => fun _ _ _ _ _ _ r h => by simp [sashref03_Words.l0] at h
  | k + 1 => by
    have ih0 := sashref03_Words.mono_l k
    · intro y0 y1 y2 y3 y4 y5
      unfold sashref03_Words.l0
      repeat' first
      | (with_reducible exact ih0 _ _ _ _ _ _)
      | (with_reducible exact LeO.refl _)
      | (with_reducible exact LeO.none _)
      | (with_reducible refine LeO.ite ?_ ?_)
      | (with_reducible refine LeO.bind ?_ (fun _ => ?_))
      | exact ih0 _ _ _ _ _ _
      | exact LeO.none _
      | refine LeO.ite ?_ ?_
      | refine LeO.bind ?_ (fun _ => ?_)
theorem sashref03_Words.mono : ∀ a0 a1 a2 k, LeO (sashref03_Words.f k a0 a1 a2) (sashref03_Words.f (k + 1) a0 a1 a2) := by
  intro a0 a1 a2 k
  have ih0 := sashref03_Words.mono_l k
  unfold sashref03_Words.f
  repeat' first
      | (with_reducible exact ih0 _ _ _ _ _ _)
      | (with_reducible exact LeO.refl _)
      | (with_reducible exact LeO.none _)
      | (with_reducible refine LeO.ite ?_ ?_)
      | (with_reducible refine LeO.bind ?_ (fun _ => ?_))
      | exact ih0 _ _ _ _ _ _
      | exact LeO.none _
      | refine LeO.ite ?_ ?_
      | refine LeO.bind ?_ (fun _ => ?_)
set_option maxHeartbeats 8000000 in
set_option maxRecDepth 100000 in
theorem sashref03_Words.calls (k : Nat) (a0_0 : Int) (a0_1 : Int) (A0_2 : Option Addr) (c0_2 : Nat) (l0_2 : List (List ByteArray)) (r : List ByteArray) (w : World) (hr0_2 : Kd.C (Kd.slice 9 Kd.string) w A0_2 l0_2.length l0_2) (hc0_2 : l0_2.length ≤ c0_2) (h : sashref03_Words.f k a0_0 a0_1 l0_2 = some r) :
    Calls Tryd.prog 19 #[.agg #[.int .i64 a0_0, .int .i64 a0_1, .slice A0_2 l0_2.length c0_2]] w fun e w' => ∃ v0_ : Value, e = .returned (v0_) ∧ Kd.R Kd.string 9 w' w.heap.size (fun _ => True) v0_ r ∧ Below w.heap.size w w' := by
  have hu24 := Tryd.underlying24
  have HR0_2 := Aside0.mk hr0_2
  have HC0_2 := Aside0.mk hc0_2
  clear hr0_2 hc0_2
  have HB := Aside0.mk (Below.refl w.heap.size w)
  have H : (sashref03_Words.l0 k (([] : List ByteArray)) (l0_2.length : Int) 0 a0_0 a0_1 l0_2) = some r := h
  clear h
  obtain ⟨y112, hy112⟩ : ∃ y_ : List ByteArray, y_ = (([] : List ByteArray)) := ⟨_, rfl⟩
  replace H : (sashref03_Words.l0 k y112 (l0_2.length : Int) 0 a0_0 a0_1 l0_2) = some r := by first | (rw [hy112]; with_reducible exact H) | (have H2_ := (Option.bind_some _ _).symm.trans H; rw [hy112]; with_reducible exact H2_) | (have H2_ := (Option.bind_some _ _).symm.trans H; with_reducible exact H2_) | with_reducible exact H | (rw [hy112]; exact H) | exact H
  have Ny112 := Aside0.mk hy112
  clear hy112
  have H' := Aside0.mk H
  clear H
  go_enter Tryd.func19, Tryd.ntmps19
  go_wp2_with (first | ((with_reducible refine gate_dst (N := 1) rfl ?_); refine box_event ?hg (N := 1) ?hd (cs := #[.int .i64 a0_0, .int .i64 a0_1, .slice A0_2 l0_2.length c0_2]) (t := 24) ?hr ?_; (case hd => rfl); (case hg => rfl); (case hr => first | (go_simp; done) | (go_simp; rfl)); intro gb111 hg w2 hbox hb; have n0_ := Aside0.mk (below_step (by repeat (first | (with_reducible first | exact HB.out | apply below_alloc | apply pw_below_drewN | apply below_drew1) | exact HB.out)) hb); have n1_ := Aside0.mk (hbox); have n2_ := Aside0.mk ((by rw [hg]; exact (below_size (by repeat (first | (with_reducible first | exact HB.out | apply below_alloc | apply pw_below_drewN | apply below_drew1) | exact HB.out))) : w.heap.size ≤ gb111)); have n3_ := Aside0.mk ((by rw [hg]; exact (below_size (by repeat (first | (with_reducible first | exact HB.out | apply below_alloc | apply pw_below_drewN | apply below_drew1) | exact HB.out))) : w.heap.size ≤ gb111)); clear HB; have HB := n0_; have BK111 := n1_; have GW111 := n2_; have GE111 := n3_; clear n0_ n1_ n2_ n3_; clear hb hbox hg) | ((with_reducible refine gate_dst (N := 5) rfl ?_); refine Kd.R_lit Kd.string _ 9 ?hg (N := 5) ?hd (xs := ([] : List ByteArray)) (inner := []) (ok := fun _ => True) (okp := fun _ => True) ?hr ?hp (fun _ hk => hk) trivial (Below.refl _ _) (Nat.le_refl _) (by simp) ?_; (case hd => rfl); (case hg => rfl); (case hr => first | (go_simp; done) | (go_simp; rfl)); (case hp => exact (Reps.none _ _)); intro v113 w3 ho4 hb hg_ hnew_; clear hg_ hnew_; (first | rw [← Ny112.out] at ho4 | (simp only [Int.reduceToNat] at ho4; rw [← Ny112.out] at ho4)); have n0_ := Aside0.mk (Kd.R_lower ho4 (below_size (by repeat (first | (with_reducible first | exact HB.out | apply below_alloc | apply pw_below_drewN | apply below_drew1 | refine below_set ?_ GE111.out) | exact HB.out)))); have n1_ := Aside0.mk (blk_below (g := gb111) (o := .cells #[.int .i64 a0_0, .int .i64 a0_1, .slice A0_2 l0_2.length c0_2] 24 (0, 0)) (by (with_reducible repeat (first | refine blk_drewN ?_ _ | refine blk_drew ?_ | refine blk_alloc ?_ _)); exact BK111.out) hb); have n2_ := Aside0.mk (below_step (by repeat (first | (with_reducible first | exact HB.out | apply below_alloc | apply pw_below_drewN | apply below_drew1 | refine below_set ?_ GE111.out) | exact HB.out)) hb); clear BK111; clear HB; have HO114 := n0_; have BK111 := n1_; have HB := n2_; clear n0_ n1_ n2_; clear hb ho4; have hcz5_0 : w3.cell? ⟨gb111, 0, none⟩ = some (.int .i64 a0_0) := (blk_cell BK111.out 0).trans rfl; have hcz5_1 : w3.cell? ⟨gb111, 1, none⟩ = some (.int .i64 a0_1) := (blk_cell BK111.out 1).trans rfl; have hcz5_2 : w3.cell? ⟨gb111, 2, none⟩ = some (.slice A0_2 l0_2.length c0_2) := (blk_cell BK111.out 2).trans rfl; have hfz5_0 := blk_frozen BK111.out 0; have hfz5_1 := blk_frozen BK111.out 1; have hfz5_2 := blk_frozen BK111.out 2))
  go_loopg [3, 9] k (fun kq v3 v9 w' => ∃ (x3_1 : List ByteArray) (x9_1 : Int), v9 = .int .i64 x9_1 ∧ Aside0 (sashref03_Words.l0 kq x3_1 (l0_2.length : Int) x9_1 a0_0 a0_1 l0_2 = some r) ∧ Aside0 (kq ≤ k) ∧ Aside0 (Kd.R Kd.string 9 w' w.heap.size (fun _ => True) v3 x3_1) ∧ Aside0 (w'.heap[gb111]? = some (.cells #[.int .i64 a0_0, .int .i64 a0_1, (.slice A0_2 l0_2.length c0_2)] 24 (0, 0))) ∧ Aside0 (Below w.heap.size w w'))
  case atStart => exact ⟨(y112), (0), (by first | rfl | (simp; done) | (simp [*]; done)), H', ⟨Nat.le_refl _⟩, ⟨by (with_reducible repeat (first | apply Kd.R_alloc | apply Kd.R_drewN | apply Kd.R_drew)); exact HO114.out⟩, ⟨by (with_reducible repeat (first | refine blk_drewN ?_ _ | refine blk_drew ?_ | refine blk_alloc ?_ _)); exact BK111.out⟩, ⟨by repeat (first | (with_reducible first | exact HB.out | apply below_alloc | apply pw_below_drewN | apply below_drew1 | refine below_set ?_ GE111.out) | exact HB.out)⟩⟩
  case round =>
    clear H'
    try clear c1
    try clear p2
    try clear hcz5_0
    try clear hcz5_1
    try clear hcz5_2
    try clear hfz5_0
    try clear hfz5_1
    try clear hfz5_2
    obtain ⟨x3_1, x9_1, rfl, HA, HK1, HO_3, BK111, HB⟩ := hrel
    cases gk with
    | zero => exact absurd HA.out (by simp [sashref03_Words.l0])
    | succ k1 =>
      have H := HA.out
      clear HA
      simp only [sashref03_Words.l0] at H
      by_cases c6 : x9_1 < (l0_2.length : Int)
      · rw [if_pos c6] at H
        have c6b0 : decide (x9_1 < (l0_2.length : Int)) = true := decide_eq_true c6
        clear c6
        by_cases c7 : a0_0 = 0
        · rw [if_pos c7] at H
          have c7b0 : (a0_0 == 0) = true := beq_iff_eq.mpr c7
          have c7b1 : (a0_0 != 0) = false := bne_eq_false_iff_eq.mpr c7
          clear c7
          have H' := Aside0.mk H
          clear H
          have hcz8_0 : wr.cell? ⟨gb111, 0, none⟩ = some (.int .i64 a0_0) := (blk_cell BK111.out 0).trans rfl
          have hcz8_1 : wr.cell? ⟨gb111, 1, none⟩ = some (.int .i64 a0_1) := (blk_cell BK111.out 1).trans rfl
          have hcz8_2 : wr.cell? ⟨gb111, 2, none⟩ = some (.slice A0_2 l0_2.length c0_2) := (blk_cell BK111.out 2).trans rfl
          have hfz8_0 := blk_frozen BK111.out 0
          have hfz8_1 := blk_frozen BK111.out 1
          have hfz8_2 := blk_frozen BK111.out 2
          go_wp2
          go_roundg k1
          case measure => have := HK1.out; omega
          case rel => exact ⟨(x3_1), (wrap64 (x9_1 + 1)), (by first | rfl | (simp; done) | (simp [*]; done)), H', ⟨by have := HK1.out; omega⟩, ⟨by (with_reducible repeat (first | apply Kd.R_alloc | apply Kd.R_drewN | apply Kd.R_drew)); exact HO_3.out⟩, ⟨by (with_reducible repeat (first | refine blk_drewN ?_ _ | refine blk_drew ?_ | refine blk_alloc ?_ _)); exact BK111.out⟩, ⟨by repeat (first | (with_reducible first | exact HB.out | apply below_alloc | apply pw_below_drewN | apply below_drew1 | refine below_set ?_ GE111.out) | exact HB.out)⟩⟩
        · rw [if_neg c7] at H
          have c7b0 : (a0_0 == 0) = false := beq_eq_false_iff_ne.mpr c7
          have c7b1 : (a0_0 != 0) = true := bne_iff_ne.mpr c7
          obtain ⟨y115, hy115⟩ : ∃ y_ : List ByteArray, y_ = (([] : List ByteArray)) := ⟨_, rfl⟩
          replace H : (if 0 ≤ x9_1 then (if x9_1 < (l0_2.length : Int) then (if y115.length + (rd_L2 l0_2 x9_1).length < 8796093022208 then ((some (y115 ++ (rd_L2 l0_2 x9_1) : List ByteArray)).bind fun y119 => (if y119.length + x3_1.length < 8796093022208 then (sashref03_Words.l0 k1 (y119 ++ x3_1) (l0_2.length : Int) (wrap64 (x9_1 + 1)) a0_0 a0_1 l0_2) else (none))) else (none)) else (none)) else (none)) = some r := by first | (rw [hy115]; with_reducible exact H) | (have H2_ := (Option.bind_some _ _).symm.trans H; rw [hy115]; with_reducible exact H2_) | (have H2_ := (Option.bind_some _ _).symm.trans H; with_reducible exact H2_) | with_reducible exact H | (rw [hy115]; exact H) | exact H
          have Ny115 := Aside0.mk hy115
          clear hy115
          by_cases c9 : 0 ≤ x9_1
          · rw [if_pos c9] at H
            have c9b0 : decide (0 ≤ x9_1) = true := decide_eq_true c9
            clear c9
            by_cases c10 : x9_1 < (l0_2.length : Int)
            · rw [if_pos c10] at H
              have c10b0 : decide (x9_1 < (l0_2.length : Int)) = true := decide_eq_true c10
              clear c10
              by_cases c11 : y115.length + (rd_L2 l0_2 x9_1).length < 8796093022208
              · rw [if_pos c11] at H
                have LMc11 := Aside0.mk c11
                clear c11
                obtain ⟨y119, hy119⟩ : ∃ y_ : List ByteArray, y_ = (y115 ++ (rd_L2 l0_2 x9_1)) := ⟨_, rfl⟩
                replace H : (if y119.length + x3_1.length < 8796093022208 then (sashref03_Words.l0 k1 (y119 ++ x3_1) (l0_2.length : Int) (wrap64 (x9_1 + 1)) a0_0 a0_1 l0_2) else (none)) = some r := by first | (rw [hy119]; with_reducible exact H) | (have H2_ := (Option.bind_some _ _).symm.trans H; rw [hy119]; with_reducible exact H2_) | (have H2_ := (Option.bind_some _ _).symm.trans H; with_reducible exact H2_) | with_reducible exact H | (rw [hy119]; exact H) | exact H
                have Ny119 := Aside0.mk hy119
                clear hy119
                by_cases c12 : y119.length + x3_1.length < 8796093022208
                · rw [if_pos c12] at H
                  have LMc12 := Aside0.mk c12
                  clear c12
                  obtain ⟨y122, hy122⟩ : ∃ y_ : List ByteArray, y_ = (y119 ++ x3_1) := ⟨_, rfl⟩
                  replace H : (sashref03_Words.l0 k1 y122 (l0_2.length : Int) (wrap64 (x9_1 + 1)) a0_0 a0_1 l0_2) = some r := by first | (rw [hy122]; with_reducible exact H) | (have H2_ := (Option.bind_some _ _).symm.trans H; rw [hy122]; with_reducible exact H2_) | (have H2_ := (Option.bind_some _ _).symm.trans H; with_reducible exact H2_) | with_reducible exact H | (rw [hy122]; exact H) | exact H
                  have Ny122 := Aside0.mk hy122
                  clear hy122
                  have H' := Aside0.mk H
                  clear H
                  have hcz13_0 : wr.cell? ⟨gb111, 0, none⟩ = some (.int .i64 a0_0) := (blk_cell BK111.out 0).trans rfl
                  have hcz13_1 : wr.cell? ⟨gb111, 1, none⟩ = some (.int .i64 a0_1) := (blk_cell BK111.out 1).trans rfl
                  have hcz13_2 : wr.cell? ⟨gb111, 2, none⟩ = some (.slice A0_2 l0_2.length c0_2) := (blk_cell BK111.out 2).trans rfl
                  have hfz13_0 := blk_frozen BK111.out 0
                  have hfz13_1 := blk_frozen BK111.out 1
                  have hfz13_2 := blk_frozen BK111.out 2
                  go_wp2_with (first | ((with_reducible refine gate_dst (N := 15) rfl ?_); refine Kd.R_lit Kd.string _ 9 ?hg (N := 15) ?hd (xs := ([] : List ByteArray)) (inner := []) (ok := fun _ => True) (okp := fun _ => True) ?hr ?hp (fun _ hk => hk) trivial (Below.refl _ _) (Nat.le_refl _) (by simp) ?_; (case hd => rfl); (case hg => rfl); (case hr => first | (go_simp; done) | (go_simp; rfl)); (case hp => exact (Reps.none _ _)); intro v116 w14 ho15 hb hg_ hnew_; clear hg_ hnew_; (first | rw [← Ny115.out] at ho15 | (simp only [Int.reduceToNat] at ho15; rw [← Ny115.out] at ho15)); have n0_ := Aside0.mk (Kd.R_elder' (by (with_reducible repeat (first | apply Kd.R_alloc | apply Kd.R_drewN | apply Kd.R_drew)); exact HO_3.out) (Kd.R_base ho15) hb); have n1_ := Aside0.mk (Kd.R_lower (Kd.R_new' ho15 (Kd.R_lt (by (with_reducible repeat (first | apply Kd.R_alloc | apply Kd.R_drewN | apply Kd.R_drew)); exact HO_3.out))) (below_size (by repeat (first | (with_reducible first | exact HB.out | apply below_alloc | apply pw_below_drewN | apply below_drew1 | refine below_set ?_ GE111.out) | exact HB.out)))); have n2_ := Aside0.mk (blk_below (g := gb111) (o := .cells #[.int .i64 a0_0, .int .i64 a0_1, .slice A0_2 l0_2.length c0_2] 24 (0, 0)) (by (with_reducible repeat (first | refine blk_drewN ?_ _ | refine blk_drew ?_ | refine blk_alloc ?_ _)); exact BK111.out) hb); have n3_ := Aside0.mk (below_step (by repeat (first | (with_reducible first | exact HB.out | apply below_alloc | apply pw_below_drewN | apply below_drew1 | refine below_set ?_ GE111.out) | exact HB.out)) hb); clear HO_3; clear BK111; clear HB; have HO_3 := n0_; have HO117 := n1_; have BK111 := n2_; have HB := n3_; clear n0_ n1_ n2_ n3_; clear hb ho15; have hcz16_0 : w14.cell? ⟨gb111, 0, none⟩ = some (.int .i64 a0_0) := (blk_cell BK111.out 0).trans rfl; have hcz16_1 : w14.cell? ⟨gb111, 1, none⟩ = some (.int .i64 a0_1) := (blk_cell BK111.out 1).trans rfl; have hcz16_2 : w14.cell? ⟨gb111, 2, none⟩ = some (.slice A0_2 l0_2.length c0_2) := (blk_cell BK111.out 2).trans rfl; have hfz16_0 := blk_frozen BK111.out 0; have hfz16_1 := blk_frozen BK111.out 1; have hfz16_2 := blk_frozen BK111.out 2; have p118 : 0 ≤ (x9_1 : Int) := of_decide_eq_true (by first | (with_reducible assumption) | assumption); have q118 : x9_1 < (l0_2.length : Int) := of_decide_eq_true (by first | (with_reducible assumption) | assumption); obtain ⟨ad118, A118_0, c118_0, e118, hx118_0, hl118_0, hi118_0⟩ := at_L2 HR0_2.out x9_1 p118 q118; cases e118; replace hx118_0 := (HB.out.cell (World.block_lt_of_cell? w _ hx118_0)).trans hx118_0; have HR118_0 := Aside0.mk hi118_0; have HC118_0 := Aside0.mk hl118_0; clear hi118_0 hl118_0; replace p118 := eq_true p118; replace q118 := eq_true q118) | ((with_reducible refine gate_builtin (b := .append) (xs := #[.tmp 15, .tmp 20]) rfl ?_); at_builtin; refine Kd.R_append_rows Kd.string (w0 := w) w.heap.size rfl (.tmp 15) (.tmp 20) 36 9 (.string ⟨#[]⟩) 16 rfl Tryd.underlying36 info9 rfl (by decide) (by omega) v116 y115 (rd_L2 l0_2 x9_1) _ _ _ (fun k_ => some k_ ≠ (u3 : Value).ownBlock) (fun _ => False) rfl rfl ?aO ?aR (fun _ _ h => h) (fun _ h => h.elim) ?aF ?aB ?aS ?aL ?_; (case aR => repeat (first | exact (Kd.C_below HR118_0.out HB.out) | (with_reducible refine Kd.C_alloc ?_ _) | (with_reducible refine Kd.C_drewN ?_ _) | (with_reducible refine Kd.C_drew ?_))); (case aB => exact (by repeat (first | (with_reducible first | exact HB.out | apply below_alloc | apply pw_below_drewN | apply below_drew1 | refine below_set ?_ GE111.out) | exact HB.out))); (case aF => exact (fun k_ hk => Kd.fresh' (Kd.R_lt (by (with_reducible repeat (first | apply Kd.R_alloc | apply Kd.R_drewN | apply Kd.R_drew)); exact HO_3.out)) k_ hk)); (case aO => exact (by (with_reducible repeat (first | apply Kd.R_alloc | apply Kd.R_drewN | apply Kd.R_drew)); exact Kd.R_mono HO117.out (fun _ hk => hk.2))); (case aS => exact (below_size (by repeat (first | (with_reducible first | exact HB.out | apply below_alloc | apply pw_below_drewN | apply below_drew1 | refine below_set ?_ GE111.out) | exact HB.out)))); (case aL => have := LMc11.out; omega); intro v120 w17 ho hb hg hat; rw [← Ny119.out] at ho; have n0_ := Aside0.mk (Kd.R_after (ok := (fun _ => True)) (by (with_reducible repeat (first | apply Kd.R_alloc | apply Kd.R_drewN | apply Kd.R_drew)); exact HO_3.out) hg hat); have n1_ := Aside0.mk (blk_grown (g := gb111) (o := .cells #[.int .i64 a0_0, .int .i64 a0_1, .slice (some ad118) l0_2.length c0_2] 24 (0, 0)) (by (with_reducible repeat (first | refine blk_drewN ?_ _ | refine blk_drew ?_ | refine blk_alloc ?_ _)); exact BK111.out) hg (Kd.R_ne HO117.out BK111.out (by decide))); have n2_ := Aside0.mk (hb); have n3_ := Aside0.mk (ho); clear HO_3; clear BK111; clear HB; clear HO117; have HO_3 := n0_; have BK111 := n1_; have HB := n2_; have HO121 := n3_; clear n0_ n1_ n2_ n3_; clear ho hb hg hat; obtain ⟨Ao19, co19, eo19⟩ := Kd.R_slice HO_3.out; subst eo19) | ((with_reducible refine gate_builtin (b := .append) (xs := #[.tmp 21, .tmp 22]) rfl ?_); at_builtin; refine Kd.R_append_rows Kd.string (w0 := w) w.heap.size rfl (.tmp 21) (.tmp 22) 36 9 (.string ⟨#[]⟩) 16 rfl Tryd.underlying36 info9 rfl (by decide) (by omega) v120 y119 x3_1 _ _ _ (fun k_ => some k_ ≠ (.slice Ao19 x3_1.length co19 : Value).ownBlock) (fun _ => False) rfl rfl ?aO ?aR (fun _ _ h => h) (fun _ h => h.elim) ?aF ?aB ?aS ?aL ?_; (case aR => repeat (first | exact (Kd.R_reads' HO_3.out).2.2 | (with_reducible refine Kd.C_alloc ?_ _) | (with_reducible refine Kd.C_drewN ?_ _) | (with_reducible refine Kd.C_drew ?_))); (case aB => exact (by repeat (first | (with_reducible first | exact HB.out | apply below_alloc | apply pw_below_drewN | apply below_drew1 | refine below_set ?_ GE111.out) | exact HB.out))); (case aF => exact (fun k_ hk => Kd.fresh' (Kd.R_lt (by (with_reducible repeat (first | apply Kd.R_alloc | apply Kd.R_drewN | apply Kd.R_drew)); exact HO_3.out)) k_ hk)); (case aO => exact (by (with_reducible repeat (first | apply Kd.R_alloc | apply Kd.R_drewN | apply Kd.R_drew)); exact HO121.out)); (case aS => exact (below_size (by repeat (first | (with_reducible first | exact HB.out | apply below_alloc | apply pw_below_drewN | apply below_drew1 | refine below_set ?_ GE111.out) | exact HB.out)))); (case aL => have := LMc12.out; omega); intro v123 w18 ho hb hg hat; rw [← Ny122.out] at ho; have n0_ := Aside0.mk (Kd.R_after (ok := (fun _ => True)) (by (with_reducible repeat (first | apply Kd.R_alloc | apply Kd.R_drewN | apply Kd.R_drew)); exact HO_3.out) hg hat); have n1_ := Aside0.mk (blk_grown (g := gb111) (o := .cells #[.int .i64 a0_0, .int .i64 a0_1, .slice (some ad118) l0_2.length c0_2] 24 (0, 0)) (by (with_reducible repeat (first | refine blk_drewN ?_ _ | refine blk_drew ?_ | refine blk_alloc ?_ _)); exact BK111.out) hg (Kd.R_ne HO121.out BK111.out (by decide))); have n2_ := Aside0.mk (hb); have n3_ := Aside0.mk (ho); clear HO_3; clear BK111; clear HB; clear HO121; have HO_3 := n0_; have BK111 := n1_; have HB := n2_; have HO124 := n3_; clear n0_ n1_ n2_ n3_; clear ho hb hg hat))
                  go_roundg k1
                  case measure => have := HK1.out; omega
                  case rel => exact ⟨(y122), (wrap64 (x9_1 + 1)), (by first | rfl | (simp; done) | (simp [*]; done)), H', ⟨by have := HK1.out; omega⟩, ⟨by (with_reducible repeat (first | apply Kd.R_alloc | apply Kd.R_drewN | apply Kd.R_drew)); exact Kd.R_mono HO124.out (fun _ hk => trivial)⟩, ⟨by (with_reducible repeat (first | refine blk_drewN ?_ _ | refine blk_drew ?_ | refine blk_alloc ?_ _)); exact BK111.out⟩, ⟨by repeat (first | (with_reducible first | exact HB.out | apply below_alloc | apply pw_below_drewN | apply below_drew1 | refine below_set ?_ GE111.out) | exact HB.out)⟩⟩
                · rw [if_neg c12] at H
                  exact absurd H (by simp)
              · rw [if_neg c11] at H
                exact absurd H (by simp)
            · rw [if_neg c10] at H
              exact absurd H (by simp)
          · rw [if_neg c9] at H
            exact absurd H (by simp)
      · rw [if_neg c6] at H
        have c6b0 : decide (x9_1 < (l0_2.length : Int)) = false := decide_eq_false c6
        clear c6
        obtain rfl := Option.some.inj H
        go_wp2
        go_ret
        exact ⟨_, by first | rfl | (simp [errW_none, errW_some] <;> rfl) | (simp [*, errW_none, errW_some] <;> rfl), by (with_reducible repeat (first | apply Kd.R_alloc | apply Kd.R_drewN | apply Kd.R_drew)); exact HO_3.out, by repeat (first | (with_reducible first | exact HB.out | apply below_alloc | apply pw_below_drewN | apply below_drew1 | refine below_set ?_ GE111.out) | exact HB.out)⟩

-- NOT PRINTED: function 3 (sashlaw03_FaultTells)

end Go.Proofs.YtelmmcjlhjahcaaDoor.PFaultTells
