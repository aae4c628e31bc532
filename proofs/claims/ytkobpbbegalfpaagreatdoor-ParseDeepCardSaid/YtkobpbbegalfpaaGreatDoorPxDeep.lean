/- Printed texts of this seat, cut to what is used. -/
import Derived.Test.YtkobpbbegalfpaaGreatDoorMac
import Derived.Test.YtkobpbbegalfpaaGreatDoorPParseBodiesx0
import Derived.Test.YtkobpbbegalfpaaGreatDoorPsRef
import Derived.Test.YtkobpbbegalfpaaGreatDoorPParseBodiesx13
namespace Go.Proofs.YtkobpbbegalfpaaGreatDoor.PParseBodies
open Go.RowKit Go.Proofs.YtkobpbbegalfpaaGreatDoorW.PrintWords Go.Proofs.YtkobpbbegalfpaaGreatDoorW.PrintLast Go.Proofs.YtkobpbbegalfpaaGreatDoorW.PrintMore
attribute [local go_sem] max2_int min2_int max_two min_two max_three min_three max_four min_four   -- for this text's walks alone
set_option linter.unusedVariables false
set_option linter.unusedSimpArgs false





mutual
def sashref01_Digits.j0 : Nat → Int → Bool → Option (ByteArray)
 | 0, _, _ => none
 | k + 1, x0, x9 => if x9 = true then (some (⟨#[]⟩ : ByteArray)) else ((sashref01_Digit.f (Int.tmod x0 10)).bind fun t445 => (sashref01_Digits.l0 k x0 t445))
def sashref01_Digits.l0 : Nat → Int → ByteArray → Option (ByteArray)
 | 0, _, _ => none
 | k + 1, x0, x3 => if x0 > 9 then ((sashref01_Digit.f (Int.tmod (wrap64 (Int.tdiv x0 10)) 10)).bind fun t446 => (if t446.size + x3.size ≤ 9223372036854775807 then (sashref01_Digits.l0 k (wrap64 (Int.tdiv x0 10)) (t446 ++ x3)) else (none))) else (some x3)
end
def sashref01_Digits.f (k : Nat) (a0 : Int) : Option (ByteArray) := if a0 < 0 then (sashref01_Digits.j0 k a0 true) else (sashref01_Digits.j0 k a0 (decide (a0 > 2147483647)))
theorem sashref01_Digits.mono_l : ∀ k, (∀ y0 y1, LeO (sashref01_Digits.j0 k y0 y1) (sashref01_Digits.j0 (k + 1) y0 y1)) ∧ (∀ y0 y1, LeO (sashref01_Digits.l0 k y0 y1) (sashref01_Digits.l0 (k + 1) y0 y1))
 | 0 => ⟨fun _ _ r h => by simp [sashref01_Digits.j0] at h, fun _ _ r h => by simp [sashref01_Digits.l0] at h⟩
 | k + 1 => by
  obtain ⟨ih0, ih1⟩ := sashref01_Digits.mono_l k
  refine ⟨?_, ?_⟩
  ·intro y0 y1
   unfold sashref01_Digits.j0
   repeat' first
   | (with_reducible exact ih0 _ _)
   | (with_reducible exact ih1 _ _)
   | (with_reducible exact LeO.refl _)
   | (with_reducible exact LeO.none _)
   | (with_reducible refine LeO.ite ?_ ?_)
   | (with_reducible refine LeO.bind ?_ (fun _ => ?_))
   | exact ih0 _ _
   | exact ih1 _ _
   | exact LeO.none _
   | refine LeO.ite ?_ ?_
   | refine LeO.bind ?_ (fun _ => ?_)
  ·intro y0 y1
   unfold sashref01_Digits.l0
   repeat' first
   | (with_reducible exact ih0 _ _)
   | (with_reducible exact ih1 _ _)
   | (with_reducible exact LeO.refl _)
   | (with_reducible exact LeO.none _)
   | (with_reducible refine LeO.ite ?_ ?_)
   | (with_reducible refine LeO.bind ?_ (fun _ => ?_))
   | exact ih0 _ _
   | exact ih1 _ _
   | exact LeO.none _
   | refine LeO.ite ?_ ?_
   | refine LeO.bind ?_ (fun _ => ?_)
theorem sashref01_Digits.mono : ∀ a0 k, LeO (sashref01_Digits.f k a0) (sashref01_Digits.f (k + 1) a0) := by
 intro a0 k
 obtain ⟨ih0, ih1⟩ := sashref01_Digits.mono_l k
 unfold sashref01_Digits.f
 repeat' first
   | (with_reducible exact ih0 _ _)
   | (with_reducible exact ih1 _ _)
   | (with_reducible exact LeO.refl _)
   | (with_reducible exact LeO.none _)
   | (with_reducible refine LeO.ite ?_ ?_)
   | (with_reducible refine LeO.bind ?_ (fun _ => ?_))
   | exact ih0 _ _
   | exact ih1 _ _
   | exact LeO.none _
   | refine LeO.ite ?_ ?_
   | refine LeO.bind ?_ (fun _ => ?_)
set_option maxHeartbeats 8000000 in
set_option maxRecDepth 100000 in
theorem sashref01_Digits.calls (k : Nat) (a0 : Int) (r : ByteArray) (w : World) (h : sashref01_Digits.f k a0 = some r) :
  Calls Tryz.prog 33 #[.int .i64 a0] w fun e w' => e = .returned (.string r) ∧ Drawn0 w w' := by
 have H : (if a0 < 0 then (sashref01_Digits.j0 k a0 true) else (sashref01_Digits.j0 k a0 (decide (a0 > 2147483647)))) = some r := h
 clear h
 have HC2 := Aside0.mk H
 clear H
 go_enter Tryz.func33, Tryz.ntmps33
 go_upto_region 1 with (fail)
 go_cut [9] (fun v9 wc => ∃ (kq : Nat) (x9_1 : Bool), v9 = .bool x9_1 ∧ Aside0 (sashref01_Digits.j0 kq a0 x9_1 = some r) ∧ Aside0 (kq ≤ k) ∧ Drawn0 w wc)
 case first =>
  have H := HC2.out
  clear HC2
  by_cases c3 : a0 < 0
  ·rw [if_pos c3] at H
   have c3b0 : decide (a0 < 0) = true := decide_eq_true c3
   clear c3
   (first | rw [c3b0] | (simp only [i64_w, i32_w]; rw [c3b0]) | skip)
   have H' := Aside0.mk H
   clear H
   go_wp2
   go_meet
   case rel => exact ⟨_, (true), mq39, H', ⟨mq36⟩, mq52⟩
  ·rw [if_neg c3] at H
   have c3b0 : decide (a0 < 0) = false := decide_eq_false c3
   clear c3
   (first | rw [c3b0] | (simp only [i64_w, i32_w]; rw [c3b0]) | skip)
   have H' := Aside0.mk H
   clear H
   go_wp2
   go_meet
   case rel => exact ⟨_, (decide (a0 > 2147483647)), mq39, H', ⟨mq36⟩, mq52⟩
 case rest =>
  clear HC2
  obtain ⟨kq, x9_1, rfl, HA, HJ1, ⟨mc1, rfl⟩⟩ := hcut
  cases kq with
  | zero => exact absurd HA.out (by simp [sashref01_Digits.j0])
  | succ kj1 =>
   have H := HA.out
   clear HA
   simp only [sashref01_Digits.j0] at H
   by_cases c4 : x9_1 = true
   ·subst c4
    have H1 : (some (⟨#[]⟩ : ByteArray)) = some r := mq55
    clear H
    have H := H1
    clear H1
    obtain rfl := Option.some.inj H
    go_wp2
    go_ret
    exact ⟨mq39, mq52⟩
   ·replace c4 := Bool.eq_false_iff.mpr c4
    subst c4
    have H1 : ((sashref01_Digit.f (Int.tmod a0 10)).bind fun t445 => (sashref01_Digits.l0 kj1 a0 t445)) = some r := mq54
    clear H
    have H := H1
    clear H1
    replace H := Option.bind_eq_some_iff.mp H
    obtain ⟨t445, A50, H⟩ := H
    replace H : (sashref01_Digits.l0 kj1 a0 t445) = some r := H
    have A5 := Aside0.mk A50
    clear A50
    have H' := Aside0.mk H
    clear H
    go_wp2_with (first | ((with_reducible refine gate_callee (f := 55) rfl ?_); refine gol (some 12) Tryz.func55 #[.int .i64 (Int.tmod a0 10)] (h := ?_); (with_reducible refine (sashref01_Digit.calls (Int.tmod a0 10) t445 _ A5.out).mono ?_); rintro e w' ⟨rfl, ⟨nd, rfl⟩⟩; refine ⟨_, rfl, ?_⟩))
    go_loopg [0, 3] kj1 (fun kq v0 v3 w' => ∃ (x0_2 : Int) (x3_2 : ByteArray), v0 = .int .i64 x0_2 ∧ v3 = .string x3_2 ∧ Aside0 (sashref01_Digits.l0 kq x0_2 x3_2 = some r) ∧ Aside0 (kq ≤ kj1) ∧ Drawn0 w w')
    case atStart => exact ⟨(a0), (t445), mq39, mq39, H', ⟨Nat.le_refl _⟩, mq52⟩
    case round =>
     clear H'
     obtain ⟨x0_2, x3_2, rfl, rfl, HA, HK2, ⟨m2, rfl⟩⟩ := hrel
     cases gk with
     | zero => exact absurd HA.out (by simp [sashref01_Digits.l0])
     | succ k2 =>
      have H := HA.out
      clear HA
      simp only [sashref01_Digits.l0] at H
      by_cases c6 : x0_2 > 9
      ·rw [if_pos c6] at H
       have c6b0 : decide (9 < x0_2) = true := decide_eq_true c6
       clear c6
       replace H := Option.bind_eq_some_iff.mp H
       obtain ⟨t446, A70, H⟩ := H
       replace H : (if t446.size + x3_2.size ≤ 9223372036854775807 then (sashref01_Digits.l0 k2 (wrap64 (Int.tdiv x0_2 10)) (t446 ++ x3_2)) else (none)) = some r := H
       have A7 := Aside0.mk A70
       clear A70
       by_cases c8 : t446.size + x3_2.size ≤ 9223372036854775807
       ·rw [if_pos c8] at H
        have c8b0 := eq_true c8
        have c8b1 : decide (t446.size + x3_2.size ≤ 9223372036854775807) = true := decide_eq_true c8
        try have c8b2 : (9223372036854775807 < t446.size + x3_2.size) = False := eq_false (Nat.not_lt.2 c8)
        try (have c8s := c8; simp only [ByteArray.size_append, (show (⟨#[120]⟩ : ByteArray).size = 1 from rfl), (show (⟨#[44]⟩ : ByteArray).size = 1 from rfl)] at c8s; have c8s1 := decide_eq_true c8s; have c8s2 := eq_false (Nat.not_lt.2 c8s); have c8s3 := eq_true c8s)
        have H' := Aside0.mk H
        clear H
        go_wp2_with (first | ((with_reducible refine gate_callee (f := 55) rfl ?_); refine gol (some 19) Tryz.func55 #[.int .i64 (Int.tmod (wrap64 (Int.tdiv x0_2 10)) 10)] (h := ?_); (with_reducible refine (sashref01_Digit.calls (Int.tmod (wrap64 (Int.tdiv x0_2 10)) 10) t446 _ A7.out).mono ?_); rintro e w' ⟨rfl, ⟨nd, rfl⟩⟩; refine ⟨_, rfl, ?_⟩))
        go_roundg k2
        case measure => have := HJ1.out; have := HK2.out; omega
        case rel => exact ⟨(wrap64 (Int.tdiv x0_2 10)), (t446 ++ x3_2), mq39, mq39, H', ⟨mq46 HJ1 HK2⟩, mq52⟩
       ·rw [if_neg c8] at H
        exact absurd H (by simp)
      ·rw [if_neg c6] at H
       have c6b0 : decide (9 < x0_2) = false := decide_eq_false c6
       clear c6
       obtain rfl := Option.some.inj H
       go_wp2
       go_ret
       exact ⟨mq39, mq52⟩

def sashref10_Head.f (k : Nat) (a0_0 : Int) (a0_1 : Int) (a0_2 : Int) (a0_3 : Int) : Option (ByteArray) := (sashref01_Digits.f k a0_2).bind fun t448 => (if t448.size + 1 ≤ 9223372036854775807 then ((sashref01_Digits.f k a0_3).bind fun t449 => (if (t448 ++ (⟨#[120]⟩ : ByteArray)).size + t449.size ≤ 9223372036854775807 then (if ((t448 ++ (⟨#[120]⟩ : ByteArray)) ++ t449).size + 1 ≤ 9223372036854775807 then ((sashref01_Digits.f k a0_0).bind fun t450 => (if (((t448 ++ (⟨#[120]⟩ : ByteArray)) ++ t449) ++ (⟨#[44]⟩ : ByteArray)).size + t450.size ≤ 9223372036854775807 then (if ((((t448 ++ (⟨#[120]⟩ : ByteArray)) ++ t449) ++ (⟨#[44]⟩ : ByteArray)) ++ t450).size + 1 ≤ 9223372036854775807 then ((sashref01_Digits.f k a0_1).bind fun t451 => (if (((((t448 ++ (⟨#[120]⟩ : ByteArray)) ++ t449) ++ (⟨#[44]⟩ : ByteArray)) ++ t450) ++ (⟨#[44]⟩ : ByteArray)).size + t451.size ≤ 9223372036854775807 then (some ((((((t448 ++ (⟨#[120]⟩ : ByteArray)) ++ t449) ++ (⟨#[44]⟩ : ByteArray)) ++ t450) ++ (⟨#[44]⟩ : ByteArray)) ++ t451)) else (none))) else (none)) else (none))) else (none)) else (none))) else (none))
set_option maxHeartbeats 8000000 in
set_option maxRecDepth 100000 in
theorem sashref10_Head.calls (k : Nat) (a0_0 : Int) (a0_1 : Int) (a0_2 : Int) (a0_3 : Int) (r : ByteArray) (w : World) (h : sashref10_Head.f k a0_0 a0_1 a0_2 a0_3 = some r) :
  Calls Tryz.prog 15 #[.agg #[.int .i64 a0_0, .int .i64 a0_1, .int .i64 a0_2, .int .i64 a0_3]] w fun e w' => e = .returned (.string r) ∧ Below w.heap.size w w' := by
 have hu24 := Tryz.underlying24
 have HB := Aside0.mk (Below.refl w.heap.size w)
 have H : ((sashref01_Digits.f k a0_2).bind fun t448 => (if t448.size + 1 ≤ 9223372036854775807 then ((sashref01_Digits.f k a0_3).bind fun t449 => (if (t448 ++ (⟨#[120]⟩ : ByteArray)).size + t449.size ≤ 9223372036854775807 then (if ((t448 ++ (⟨#[120]⟩ : ByteArray)) ++ t449).size + 1 ≤ 9223372036854775807 then ((sashref01_Digits.f k a0_0).bind fun t450 => (if (((t448 ++ (⟨#[120]⟩ : ByteArray)) ++ t449) ++ (⟨#[44]⟩ : ByteArray)).size + t450.size ≤ 9223372036854775807 then (if ((((t448 ++ (⟨#[120]⟩ : ByteArray)) ++ t449) ++ (⟨#[44]⟩ : ByteArray)) ++ t450).size + 1 ≤ 9223372036854775807 then ((sashref01_Digits.f k a0_1).bind fun t451 => (if (((((t448 ++ (⟨#[120]⟩ : ByteArray)) ++ t449) ++ (⟨#[44]⟩ : ByteArray)) ++ t450) ++ (⟨#[44]⟩ : ByteArray)).size + t451.size ≤ 9223372036854775807 then (some ((((((t448 ++ (⟨#[120]⟩ : ByteArray)) ++ t449) ++ (⟨#[44]⟩ : ByteArray)) ++ t450) ++ (⟨#[44]⟩ : ByteArray)) ++ t451)) else (none))) else (none)) else (none))) else (none)) else (none))) else (none))) = some r := h
 clear h
 replace H := Option.bind_eq_some_iff.mp H
 obtain ⟨t448, A20, H⟩ := H
 replace H : (if t448.size + 1 ≤ 9223372036854775807 then ((sashref01_Digits.f k a0_3).bind fun t449 => (if (t448 ++ (⟨#[120]⟩ : ByteArray)).size + t449.size ≤ 9223372036854775807 then (if ((t448 ++ (⟨#[120]⟩ : ByteArray)) ++ t449).size + 1 ≤ 9223372036854775807 then ((sashref01_Digits.f k a0_0).bind fun t450 => (if (((t448 ++ (⟨#[120]⟩ : ByteArray)) ++ t449) ++ (⟨#[44]⟩ : ByteArray)).size + t450.size ≤ 9223372036854775807 then (if ((((t448 ++ (⟨#[120]⟩ : ByteArray)) ++ t449) ++ (⟨#[44]⟩ : ByteArray)) ++ t450).size + 1 ≤ 9223372036854775807 then ((sashref01_Digits.f k a0_1).bind fun t451 => (if (((((t448 ++ (⟨#[120]⟩ : ByteArray)) ++ t449) ++ (⟨#[44]⟩ : ByteArray)) ++ t450) ++ (⟨#[44]⟩ : ByteArray)).size + t451.size ≤ 9223372036854775807 then (some ((((((t448 ++ (⟨#[120]⟩ : ByteArray)) ++ t449) ++ (⟨#[44]⟩ : ByteArray)) ++ t450) ++ (⟨#[44]⟩ : ByteArray)) ++ t451)) else (none))) else (none)) else (none))) else (none)) else (none))) else (none)) = some r := H
 have A2 := Aside0.mk A20
 clear A20
 by_cases c3 : t448.size + 1 ≤ 9223372036854775807
 ·rw [if_pos c3] at H
  have c3b0 := eq_true c3
  have c3b1 : decide (t448.size + 1 ≤ 9223372036854775807) = true := decide_eq_true c3
  try have c3b2 : (9223372036854775807 < t448.size + 1) = False := eq_false (Nat.not_lt.2 c3)
  try (have c3s := c3; simp only [ByteArray.size_append, (show (⟨#[120]⟩ : ByteArray).size = 1 from rfl), (show (⟨#[44]⟩ : ByteArray).size = 1 from rfl)] at c3s; have c3s1 := decide_eq_true c3s; have c3s2 := eq_false (Nat.not_lt.2 c3s); have c3s3 := eq_true c3s)
  replace H := Option.bind_eq_some_iff.mp H
  obtain ⟨t449, A40, H⟩ := H
  replace H : (if (t448 ++ (⟨#[120]⟩ : ByteArray)).size + t449.size ≤ 9223372036854775807 then (if ((t448 ++ (⟨#[120]⟩ : ByteArray)) ++ t449).size + 1 ≤ 9223372036854775807 then ((sashref01_Digits.f k a0_0).bind fun t450 => (if (((t448 ++ (⟨#[120]⟩ : ByteArray)) ++ t449) ++ (⟨#[44]⟩ : ByteArray)).size + t450.size ≤ 9223372036854775807 then (if ((((t448 ++ (⟨#[120]⟩ : ByteArray)) ++ t449) ++ (⟨#[44]⟩ : ByteArray)) ++ t450).size + 1 ≤ 9223372036854775807 then ((sashref01_Digits.f k a0_1).bind fun t451 => (if (((((t448 ++ (⟨#[120]⟩ : ByteArray)) ++ t449) ++ (⟨#[44]⟩ : ByteArray)) ++ t450) ++ (⟨#[44]⟩ : ByteArray)).size + t451.size ≤ 9223372036854775807 then (some ((((((t448 ++ (⟨#[120]⟩ : ByteArray)) ++ t449) ++ (⟨#[44]⟩ : ByteArray)) ++ t450) ++ (⟨#[44]⟩ : ByteArray)) ++ t451)) else (none))) else (none)) else (none))) else (none)) else (none)) = some r := H
  have A4 := Aside0.mk A40
  clear A40
  by_cases c5 : (t448 ++ (⟨#[120]⟩ : ByteArray)).size + t449.size ≤ 9223372036854775807
  ·rw [if_pos c5] at H
   have c5b0 := eq_true c5
   have c5b1 : decide ((t448 ++ (⟨#[120]⟩ : ByteArray)).size + t449.size ≤ 9223372036854775807) = true := decide_eq_true c5
   try have c5b2 : (9223372036854775807 < (t448 ++ (⟨#[120]⟩ : ByteArray)).size + t449.size) = False := eq_false (Nat.not_lt.2 c5)
   try (have c5s := c5; simp only [ByteArray.size_append, (show (⟨#[120]⟩ : ByteArray).size = 1 from rfl), (show (⟨#[44]⟩ : ByteArray).size = 1 from rfl)] at c5s; have c5s1 := decide_eq_true c5s; have c5s2 := eq_false (Nat.not_lt.2 c5s); have c5s3 := eq_true c5s)
   by_cases c6 : ((t448 ++ (⟨#[120]⟩ : ByteArray)) ++ t449).size + 1 ≤ 9223372036854775807
   ·rw [if_pos c6] at H
    have c6b0 := eq_true c6
    have c6b1 : decide (((t448 ++ (⟨#[120]⟩ : ByteArray)) ++ t449).size + 1 ≤ 9223372036854775807) = true := decide_eq_true c6
    try have c6b2 : (9223372036854775807 < ((t448 ++ (⟨#[120]⟩ : ByteArray)) ++ t449).size + 1) = False := eq_false (Nat.not_lt.2 c6)
    try (have c6s := c6; simp only [ByteArray.size_append, (show (⟨#[120]⟩ : ByteArray).size = 1 from rfl), (show (⟨#[44]⟩ : ByteArray).size = 1 from rfl)] at c6s; have c6s1 := decide_eq_true c6s; have c6s2 := eq_false (Nat.not_lt.2 c6s); have c6s3 := eq_true c6s)
    replace H := Option.bind_eq_some_iff.mp H
    obtain ⟨t450, A70, H⟩ := H
    replace H : (if (((t448 ++ (⟨#[120]⟩ : ByteArray)) ++ t449) ++ (⟨#[44]⟩ : ByteArray)).size + t450.size ≤ 9223372036854775807 then (if ((((t448 ++ (⟨#[120]⟩ : ByteArray)) ++ t449) ++ (⟨#[44]⟩ : ByteArray)) ++ t450).size + 1 ≤ 9223372036854775807 then ((sashref01_Digits.f k a0_1).bind fun t451 => (if (((((t448 ++ (⟨#[120]⟩ : ByteArray)) ++ t449) ++ (⟨#[44]⟩ : ByteArray)) ++ t450) ++ (⟨#[44]⟩ : ByteArray)).size + t451.size ≤ 9223372036854775807 then (some ((((((t448 ++ (⟨#[120]⟩ : ByteArray)) ++ t449) ++ (⟨#[44]⟩ : ByteArray)) ++ t450) ++ (⟨#[44]⟩ : ByteArray)) ++ t451)) else (none))) else (none)) else (none)) = some r := H
    have A7 := Aside0.mk A70
    clear A70
    by_cases c8 : (((t448 ++ (⟨#[120]⟩ : ByteArray)) ++ t449) ++ (⟨#[44]⟩ : ByteArray)).size + t450.size ≤ 9223372036854775807
    ·rw [if_pos c8] at H
     have c8b0 := eq_true c8
     have c8b1 : decide ((((t448 ++ (⟨#[120]⟩ : ByteArray)) ++ t449) ++ (⟨#[44]⟩ : ByteArray)).size + t450.size ≤ 9223372036854775807) = true := decide_eq_true c8
     try have c8b2 : (9223372036854775807 < (((t448 ++ (⟨#[120]⟩ : ByteArray)) ++ t449) ++ (⟨#[44]⟩ : ByteArray)).size + t450.size) = False := eq_false (Nat.not_lt.2 c8)
     try (have c8s := c8; simp only [ByteArray.size_append, (show (⟨#[120]⟩ : ByteArray).size = 1 from rfl), (show (⟨#[44]⟩ : ByteArray).size = 1 from rfl)] at c8s; have c8s1 := decide_eq_true c8s; have c8s2 := eq_false (Nat.not_lt.2 c8s); have c8s3 := eq_true c8s)
     by_cases c9 : ((((t448 ++ (⟨#[120]⟩ : ByteArray)) ++ t449) ++ (⟨#[44]⟩ : ByteArray)) ++ t450).size + 1 ≤ 9223372036854775807
     ·rw [if_pos c9] at H
      have c9b0 := eq_true c9
      have c9b1 : decide (((((t448 ++ (⟨#[120]⟩ : ByteArray)) ++ t449) ++ (⟨#[44]⟩ : ByteArray)) ++ t450).size + 1 ≤ 9223372036854775807) = true := decide_eq_true c9
      try have c9b2 : (9223372036854775807 < ((((t448 ++ (⟨#[120]⟩ : ByteArray)) ++ t449) ++ (⟨#[44]⟩ : ByteArray)) ++ t450).size + 1) = False := eq_false (Nat.not_lt.2 c9)
      try (have c9s := c9; simp only [ByteArray.size_append, (show (⟨#[120]⟩ : ByteArray).size = 1 from rfl), (show (⟨#[44]⟩ : ByteArray).size = 1 from rfl)] at c9s; have c9s1 := decide_eq_true c9s; have c9s2 := eq_false (Nat.not_lt.2 c9s); have c9s3 := eq_true c9s)
      replace H := Option.bind_eq_some_iff.mp H
      obtain ⟨t451, A100, H⟩ := H
      replace H : (if (((((t448 ++ (⟨#[120]⟩ : ByteArray)) ++ t449) ++ (⟨#[44]⟩ : ByteArray)) ++ t450) ++ (⟨#[44]⟩ : ByteArray)).size + t451.size ≤ 9223372036854775807 then (some ((((((t448 ++ (⟨#[120]⟩ : ByteArray)) ++ t449) ++ (⟨#[44]⟩ : ByteArray)) ++ t450) ++ (⟨#[44]⟩ : ByteArray)) ++ t451)) else (none)) = some r := H
      have A10 := Aside0.mk A100
      clear A100
      by_cases c11 : (((((t448 ++ (⟨#[120]⟩ : ByteArray)) ++ t449) ++ (⟨#[44]⟩ : ByteArray)) ++ t450) ++ (⟨#[44]⟩ : ByteArray)).size + t451.size ≤ 9223372036854775807
      ·rw [if_pos c11] at H
       have c11b0 := eq_true c11
       have c11b1 : decide ((((((t448 ++ (⟨#[120]⟩ : ByteArray)) ++ t449) ++ (⟨#[44]⟩ : ByteArray)) ++ t450) ++ (⟨#[44]⟩ : ByteArray)).size + t451.size ≤ 9223372036854775807) = true := decide_eq_true c11
       try have c11b2 : (9223372036854775807 < (((((t448 ++ (⟨#[120]⟩ : ByteArray)) ++ t449) ++ (⟨#[44]⟩ : ByteArray)) ++ t450) ++ (⟨#[44]⟩ : ByteArray)).size + t451.size) = False := eq_false (Nat.not_lt.2 c11)
       try (have c11s := c11; simp only [ByteArray.size_append, (show (⟨#[120]⟩ : ByteArray).size = 1 from rfl), (show (⟨#[44]⟩ : ByteArray).size = 1 from rfl)] at c11s; have c11s1 := decide_eq_true c11s; have c11s2 := eq_false (Nat.not_lt.2 c11s); have c11s3 := eq_true c11s)
       obtain rfl := Option.some.inj H
       go_enter Tryz.func15, Tryz.ntmps15
       go_wp2_with (first | ((with_reducible refine gate_dst (N := 1) rfl ?_); refine bxe 1 #[.int .i64 a0_0, .int .i64 a0_1, .int .i64 a0_2, .int .i64 a0_3] 24 (h := ?_); intro gb447 hg w12 hbox hb; have BK447 := Aside0.mk (hbox); have GW447 := Aside0.mk ((mq53 : w.heap.size ≤ gb447)); have GE447 := Aside0.mk ((mq53 : w.heap.size ≤ gb447)); replace HB := Aside0.mk (below_step kW hb); clear hb hbox hg; obtain ⟨hcz13_0, hcz13_1, hcz13_2, hcz13_3⟩ := cz4 BK447; obtain ⟨hfz13_0, hfz13_1, hfz13_2, hfz13_3⟩ := fz4 BK447) | (go_at_call 33; (with_reducible refine (sashref01_Digits.calls k a0_2 t448 _ A2.out).mono ?_); rintro e w' ⟨rfl, ⟨nd, rfl⟩⟩; (try first | exact ⟨rfl, _, World.drewN_drewN _ _ _⟩ | exact ⟨rfl, _, Eq.trans (World.drewN_drewN _ _ _) (congrArg (World.drewN _) (Nat.add_assoc _ _ _))⟩)) | (go_at_call 33; (with_reducible refine (sashref01_Digits.calls k a0_3 t449 _ A4.out).mono ?_); rintro e w' ⟨rfl, ⟨nd, rfl⟩⟩; (try first | exact ⟨rfl, _, World.drewN_drewN _ _ _⟩ | exact ⟨rfl, _, Eq.trans (World.drewN_drewN _ _ _) (congrArg (World.drewN _) (Nat.add_assoc _ _ _))⟩)) | (go_at_call 33; (with_reducible refine (sashref01_Digits.calls k a0_0 t450 _ A7.out).mono ?_); rintro e w' ⟨rfl, ⟨nd, rfl⟩⟩; (try first | exact ⟨rfl, _, World.drewN_drewN _ _ _⟩ | exact ⟨rfl, _, Eq.trans (World.drewN_drewN _ _ _) (congrArg (World.drewN _) (Nat.add_assoc _ _ _))⟩)) | (go_at_call 33; (with_reducible refine (sashref01_Digits.calls k a0_1 t451 _ A10.out).mono ?_); rintro e w' ⟨rfl, ⟨nd, rfl⟩⟩; (try first | exact ⟨rfl, _, World.drewN_drewN _ _ _⟩ | exact ⟨rfl, _, Eq.trans (World.drewN_drewN _ _ _) (congrArg (World.drewN _) (Nat.add_assoc _ _ _))⟩)))
       repeat (go_quiet (first | ((with_reducible refine gate_dst (N := 1) rfl ?_); refine bxe 1 #[.int .i64 a0_0, .int .i64 a0_1, .int .i64 a0_2, .int .i64 a0_3] 24 (h := ?_); intro gb447 hg w12 hbox hb; have BK447 := Aside0.mk (hbox); have GW447 := Aside0.mk ((mq53 : w.heap.size ≤ gb447)); have GE447 := Aside0.mk ((mq53 : w.heap.size ≤ gb447)); replace HB := Aside0.mk (below_step kW hb); clear hb hbox hg; obtain ⟨hcz13_0, hcz13_1, hcz13_2, hcz13_3⟩ := cz4 BK447; obtain ⟨hfz13_0, hfz13_1, hfz13_2, hfz13_3⟩ := fz4 BK447) | (go_at_call 33; (with_reducible refine (sashref01_Digits.calls k a0_2 t448 _ A2.out).mono ?_); rintro e w' ⟨rfl, ⟨nd, rfl⟩⟩; (try first | exact ⟨rfl, _, World.drewN_drewN _ _ _⟩ | exact ⟨rfl, _, Eq.trans (World.drewN_drewN _ _ _) (congrArg (World.drewN _) (Nat.add_assoc _ _ _))⟩)) | (go_at_call 33; (with_reducible refine (sashref01_Digits.calls k a0_3 t449 _ A4.out).mono ?_); rintro e w' ⟨rfl, ⟨nd, rfl⟩⟩; (try first | exact ⟨rfl, _, World.drewN_drewN _ _ _⟩ | exact ⟨rfl, _, Eq.trans (World.drewN_drewN _ _ _) (congrArg (World.drewN _) (Nat.add_assoc _ _ _))⟩)) | (go_at_call 33; (with_reducible refine (sashref01_Digits.calls k a0_0 t450 _ A7.out).mono ?_); rintro e w' ⟨rfl, ⟨nd, rfl⟩⟩; (try first | exact ⟨rfl, _, World.drewN_drewN _ _ _⟩ | exact ⟨rfl, _, Eq.trans (World.drewN_drewN _ _ _) (congrArg (World.drewN _) (Nat.add_assoc _ _ _))⟩)) | (go_at_call 33; (with_reducible refine (sashref01_Digits.calls k a0_1 t451 _ A10.out).mono ?_); rintro e w' ⟨rfl, ⟨nd, rfl⟩⟩; (try first | exact ⟨rfl, _, World.drewN_drewN _ _ _⟩ | exact ⟨rfl, _, Eq.trans (World.drewN_drewN _ _ _) (congrArg (World.drewN _) (Nat.add_assoc _ _ _))⟩))); try go_wp2_with (first | ((with_reducible refine gate_dst (N := 1) rfl ?_); refine bxe 1 #[.int .i64 a0_0, .int .i64 a0_1, .int .i64 a0_2, .int .i64 a0_3] 24 (h := ?_); intro gb447 hg w12 hbox hb; have BK447 := Aside0.mk (hbox); have GW447 := Aside0.mk ((mq53 : w.heap.size ≤ gb447)); have GE447 := Aside0.mk ((mq53 : w.heap.size ≤ gb447)); replace HB := Aside0.mk (below_step kW hb); clear hb hbox hg; obtain ⟨hcz13_0, hcz13_1, hcz13_2, hcz13_3⟩ := cz4 BK447; obtain ⟨hfz13_0, hfz13_1, hfz13_2, hfz13_3⟩ := fz4 BK447) | (go_at_call 33; (with_reducible refine (sashref01_Digits.calls k a0_2 t448 _ A2.out).mono ?_); rintro e w' ⟨rfl, ⟨nd, rfl⟩⟩; (try first | exact ⟨rfl, _, World.drewN_drewN _ _ _⟩ | exact ⟨rfl, _, Eq.trans (World.drewN_drewN _ _ _) (congrArg (World.drewN _) (Nat.add_assoc _ _ _))⟩)) | (go_at_call 33; (with_reducible refine (sashref01_Digits.calls k a0_3 t449 _ A4.out).mono ?_); rintro e w' ⟨rfl, ⟨nd, rfl⟩⟩; (try first | exact ⟨rfl, _, World.drewN_drewN _ _ _⟩ | exact ⟨rfl, _, Eq.trans (World.drewN_drewN _ _ _) (congrArg (World.drewN _) (Nat.add_assoc _ _ _))⟩)) | (go_at_call 33; (with_reducible refine (sashref01_Digits.calls k a0_0 t450 _ A7.out).mono ?_); rintro e w' ⟨rfl, ⟨nd, rfl⟩⟩; (try first | exact ⟨rfl, _, World.drewN_drewN _ _ _⟩ | exact ⟨rfl, _, Eq.trans (World.drewN_drewN _ _ _) (congrArg (World.drewN _) (Nat.add_assoc _ _ _))⟩)) | (go_at_call 33; (with_reducible refine (sashref01_Digits.calls k a0_1 t451 _ A10.out).mono ?_); rintro e w' ⟨rfl, ⟨nd, rfl⟩⟩; (try first | exact ⟨rfl, _, World.drewN_drewN _ _ _⟩ | exact ⟨rfl, _, Eq.trans (World.drewN_drewN _ _ _) (congrArg (World.drewN _) (Nat.add_assoc _ _ _))⟩))))
       go_ret
       exact ⟨mq37, kW⟩
      ·rw [if_neg c11] at H
       exact absurd H (by simp)
     ·rw [if_neg c9] at H
      exact absurd H (by simp)
    ·rw [if_neg c8] at H
     exact absurd H (by simp)
   ·rw [if_neg c6] at H
    exact absurd H (by simp)
  ·rw [if_neg c5] at H
   exact absurd H (by simp)
 ·rw [if_neg c3] at H
  exact absurd H (by simp)

def sashlaw11_digits.f : Nat → Int → Option (ByteArray)
 | 0, _ => none
 | k + 1, a0 => (some (([(wrap64 (48 + (Int.tmod a0 10))) % 256] : List Int) : List Int)).bind fun y452 => (if a0 < 10 then (some (strOfNums y452)) else ((sashlaw11_digits.f k (wrap64 (Int.tdiv a0 10))).bind fun t455 => (if t455.size + (strOfNums y452).size ≤ 9223372036854775807 then (some (t455 ++ (strOfNums y452))) else (none))))
set_option maxHeartbeats 8000000 in
set_option maxRecDepth 100000 in
theorem sashlaw11_digits.calls (k : Nat) : ∀ (a0 : Int) (r : ByteArray) (w : World) (h : sashlaw11_digits.f k a0 = some r),
  Calls Tryz.prog 16 #[.int .i64 a0] w fun e w' => e = .returned (.string r) ∧ Below w.heap.size w w' := by
 induction k using Nat.strongRecOn with
 | _ k ih =>
 intro a0 r w h
 cases k with
 | zero => exact absurd h (by simp [sashlaw11_digits.f])
 | succ k =>
 simp only [sashlaw11_digits.f] at h
 have HB := Aside0.mk (Below.refl w.heap.size w)
 have H : ((some (([(wrap64 (48 + (Int.tmod a0 10))) % 256] : List Int) : List Int)).bind fun y452 => (if a0 < 10 then (some (strOfNums y452)) else ((sashlaw11_digits.f k (wrap64 (Int.tdiv a0 10))).bind fun t455 => (if t455.size + (strOfNums y452).size ≤ 9223372036854775807 then (some (t455 ++ (strOfNums y452))) else (none))))) = some r := h
 clear h
 obtain ⟨y452, hy452⟩ : ∃ y_ : List Int, y_ = (([(wrap64 (48 + (Int.tmod a0 10))) % 256] : List Int)) := ⟨_, rfl⟩
 replace H : (if a0 < 10 then (some (strOfNums y452)) else ((sashlaw11_digits.f k (wrap64 (Int.tdiv a0 10))).bind fun t455 => (if t455.size + (strOfNums y452).size ≤ 9223372036854775807 then (some (t455 ++ (strOfNums y452))) else (none)))) = some r := mq33 hy452
 have Ny452 := Aside0.mk hy452
 clear hy452
 by_cases c2 : a0 < 10
 ·rw [if_pos c2] at H
  have c2b0 : decide (a0 < 10) = true := decide_eq_true c2
  clear c2
  obtain rfl := Option.some.inj H
  go_enter Tryz.func16, Tryz.ntmps16
  go_wp2_with (first | ((with_reducible refine gate_dst (N := 8) rfl ?_); refine Kd.R_lit (Kd.int .u8) _ 5 ?hg (N := 8) ?hd (xs := ([(wrap64 (48 + (Int.tmod a0 10))) % 256] : List Int)) (inner := [.int .u8 ((wrap64 (48 + (Int.tmod a0 10))) % 256)]) (ok := fun _ => True) (okp := fun _ => True) ?hr ?hp (fun _ hk => hk) trivial (Below.refl _ _) (Nat.le_refl _) (by simp) ?_; (case hd => rfl); (case hg => rfl); (case hr => first | (go_simp; done) | (go_simp; rfl)); (case hp => exact (Reps.one (show Kd.M (Kd.int .u8) _ _ _ ((wrap64 (48 + (Int.tmod a0 10))) % 256) [.int .u8 ((wrap64 (48 + (Int.tmod a0 10))) % 256)] from rfl) (Reps.none _ _))); intro v453 w3 ho4 hb hg_ hnew_; clear hg_ hnew_; (first | rw [← Ny452.out] at ho4 | (simp only [Int.reduceToNat] at ho4; rw [← Ny452.out] at ho4)); have HO454 := Aside0.mk (Kd.R_lower ho4 (below_size kW)); replace HB := Aside0.mk (below_step kW hb); clear hb ho4; have hcv5 := own_string (P := Tryz.prog) Tryz.underlying64 Tryz.underlying5 Tryz.underlying9 (Kd.own_of_R HO454.out)))
  go_ret
  exact ⟨mq37, kW⟩
 ·rw [if_neg c2] at H
  have c2b0 : decide (a0 < 10) = false := decide_eq_false c2
  clear c2
  replace H := Option.bind_eq_some_iff.mp H
  obtain ⟨t455, A60, H⟩ := H
  replace H : (if t455.size + (strOfNums y452).size ≤ 9223372036854775807 then (some (t455 ++ (strOfNums y452))) else (none)) = some r := H
  have A6 := Aside0.mk A60
  clear A60
  by_cases c7 : t455.size + (strOfNums y452).size ≤ 9223372036854775807
  ·rw [if_pos c7] at H
   have c7b0 := eq_true c7
   have c7b1 : decide (t455.size + (strOfNums y452).size ≤ 9223372036854775807) = true := decide_eq_true c7
   try have c7b2 : (9223372036854775807 < t455.size + (strOfNums y452).size) = False := eq_false (Nat.not_lt.2 c7)
   try (have c7s := c7; simp only [ByteArray.size_append, (show (⟨#[120]⟩ : ByteArray).size = 1 from rfl), (show (⟨#[44]⟩ : ByteArray).size = 1 from rfl)] at c7s; have c7s1 := decide_eq_true c7s; have c7s2 := eq_false (Nat.not_lt.2 c7s); have c7s3 := eq_true c7s)
   obtain rfl := Option.some.inj H
   go_enter Tryz.func16, Tryz.ntmps16
   go_wp2_with (first | ((with_reducible refine gate_dst (N := 8) rfl ?_); refine Kd.R_lit (Kd.int .u8) _ 5 ?hg (N := 8) ?hd (xs := ([(wrap64 (48 + (Int.tmod a0 10))) % 256] : List Int)) (inner := [.int .u8 ((wrap64 (48 + (Int.tmod a0 10))) % 256)]) (ok := fun _ => True) (okp := fun _ => True) ?hr ?hp (fun _ hk => hk) trivial (Below.refl _ _) (Nat.le_refl _) (by simp) ?_; (case hd => rfl); (case hg => rfl); (case hr => first | (go_simp; done) | (go_simp; rfl)); (case hp => exact (Reps.one (show Kd.M (Kd.int .u8) _ _ _ ((wrap64 (48 + (Int.tmod a0 10))) % 256) [.int .u8 ((wrap64 (48 + (Int.tmod a0 10))) % 256)] from rfl) (Reps.none _ _))); intro v453 w8 ho9 hb hg_ hnew_; clear hg_ hnew_; (first | rw [← Ny452.out] at ho9 | (simp only [Int.reduceToNat] at ho9; rw [← Ny452.out] at ho9)); have HO454 := Aside0.mk (Kd.R_lower ho9 (below_size kW)); replace HB := Aside0.mk (below_step kW hb); clear hb ho9; have hcv10 := own_string (P := Tryz.prog) Tryz.underlying64 Tryz.underlying5 Tryz.underlying9 (Kd.own_of_R HO454.out)) | ((with_reducible refine gate_callee (f := 16) rfl ?_); refine gol (some 15) Tryz.func16 #[.int .i64 (wrap64 (Int.tdiv a0 10))] (h := ?_); (with_reducible refine (ih k (by omega) (wrap64 (Int.tdiv a0 10)) t455 _ A6.out).mono ?_); rintro e w11 ⟨rfl, hb⟩; refine ⟨_, rfl, ?_⟩; replace HO454 := Aside0.mk (Kd.R_below (kR HO454) hb); replace HB := Aside0.mk (below_step kW hb); (try clear hb); (try clear hb2); (try clear hk); (try clear hi)))
   go_ret
   exact ⟨mq37, kW⟩
  ·rw [if_neg c7] at H
   exact absurd H (by simp)


end Go.Proofs.YtkobpbbegalfpaaGreatDoor.PParseBodies
