/-
  Joined texts: PParseBodiesx8, PParseBodiesx9.
-/
import Derived.Test.YtkobpbbegalfpaaGreatDoorPsBase
import Derived.Test.YtkobpbbegalfpaaGreatDoorPParseBodiesx1
import Derived.Test.YtkobpbbegalfpaaGreatDoorPParseBodiesx7
namespace Go.Proofs.YtkobpbbegalfpaaGreatDoor.PParseBodies
open Go.RowKit YtkobpbbegalfpaaGreatDoorW.PrintWords YtkobpbbegalfpaaGreatDoorW.PrintLast YtkobpbbegalfpaaGreatDoorW.PrintMore
attribute [local go_sem] max2_int min2_int max_two min_two max_three min_three max_four min_four
set_option linter.unusedVariables false
set_option linter.unusedSimpArgs false
def sashref06_Sizes.l0 : Nat → List Int → Int → Int → Int → Int → Int → Int → Int → Int → List (S27) → Option (List Int)
 | 0, _, _, _, _, _, _, _, _, _, _ => none
 | k + 1, x3, x8, x9, x231000, x231001, x231002, x231003, x231004, x231005, x231006 => if x9 < x8 then (if x231000 = 2 then (if 0 ≤ x9 then (if x9 < (x231006.length : Int) then (if x3.length < 17592186044416 then (sashref06_Sizes.l0 k (x3 ++ [(rd_T27 x231006 x9).f1.f2]) x8 (wrap64 (x9 + 1)) x231000 x231001 x231002 x231003 x231004 x231005 x231006) else (none)) else (none)) else (none)) else (if 0 ≤ x9 then (if x9 < (x231006.length : Int) then (if x3.length < 17592186044416 then (sashref06_Sizes.l0 k (x3 ++ [(rd_T27 x231006 x9).f1.f3]) x8 (wrap64 (x9 + 1)) x231000 x231001 x231002 x231003 x231004 x231005 x231006) else (none)) else (none)) else (none))) else (some x3)
def sashref06_Sizes.f (k : Nat) (a0_0 : Int) (a0_1 : Int) (a0_2 : Int) (a0_3 : Int) (a0_4 : Int) (a0_5 : Int) (l0_6 : List (S27)) : Option (List Int) := sashref06_Sizes.l0 k (([] : List Int)) (l0_6.length : Int) 0 a0_0 a0_1 a0_2 a0_3 a0_4 a0_5 l0_6
set_option maxHeartbeats 8000000 in
set_option maxRecDepth 100000 in
theorem sashref06_Sizes.calls (k : Nat) (a0_0 : Int) (a0_1 : Int) (a0_2 : Int) (a0_3 : Int) (a0_4 : Int) (a0_5 : Int) (A0_6 : Option Addr) (c0_6 : Nat) (l0_6 : List (S27)) (r : List Int) (w : World) (hr0_6 : Kd.C k27 w A0_6 l0_6.length l0_6) (hc0_6 : l0_6.length ≤ c0_6) (h : sashref06_Sizes.f k a0_0 a0_1 a0_2 a0_3 a0_4 a0_5 l0_6 = some r) :
  Calls Tryz.prog 91 #[.agg #[.int .u8 a0_0, .int .i64 a0_1, .int .i64 a0_2, .int .i64 a0_3, .int .i64 a0_4, .int .i64 a0_5, .slice A0_6 l0_6.length c0_6]] w fun e w' => ∃ v0_ : Value, e = .returned (v0_) ∧ Kd.R (Kd.int .i64) 3 w' w.heap.size (fun _ => True) v0_ r ∧ Below w.heap.size w w' := by
 have hu27 := Tryz.underlying27
 have HR0_6 := ak hr0_6
 have HC0_6 := ak hc0_6
 clear hr0_6 hc0_6
 have HB := ak (Below.refl w.heap.size w)
 have H : (sashref06_Sizes.l0 k (([] : List Int)) (l0_6.length : Int) 0 a0_0 a0_1 a0_2 a0_3 a0_4 a0_5 l0_6) = some r := h
 clear h
 obtain ⟨y231, hy231⟩ : ∃ y_ : List Int, y_ = (([] : List Int)) := ⟨_, rfl⟩
 replace H : (sashref06_Sizes.l0 k y231 (l0_6.length : Int) 0 a0_0 a0_1 a0_2 a0_3 a0_4 a0_5 l0_6) = some r := mq33 hy231
 have Ny231 := ak hy231
 clear hy231
 have H' := ak H
 clear H
 go_enter Tryz.func91, Tryz.ntmps91
 go_wp2_with (first | ((with_reducible refine gate_dst (N := 1) rfl ?_); refine bxe 1 #[.int .u8 a0_0, .int .i64 a0_1, .int .i64 a0_2, .int .i64 a0_3, .int .i64 a0_4, .int .i64 a0_5, .slice A0_6 l0_6.length c0_6] 27 (h := ?_); intro gb230 hg w2 hbox hb; have BK230 := ak (hbox); have GW230 := ak ((mq53 : w.heap.size ≤ gb230)); have GE230 := ak ((mq53 : w.heap.size ≤ gb230)); replace HB := ak (below_step kW hb); clear hb hbox hg) | ((with_reducible refine gate_dst (N := 5) rfl ?_); refine Kd.R_lit (Kd.int .i64) _ 3 ?hg (N := 5) ?hd (xs := ([] : List Int)) (inner := []) (ok := fun _ => True) (okp := fun _ => True) ?hr ?hp (fun _ hk => hk) trivial (Below.refl _ _) (Nat.le_refl _) (by simp) ?_; (case hd => rfl); (case hg => rfl); (case hr => first | (go_simp; done) | (go_simp; rfl)); (case hp => exact (Reps.none _ _)); intro v232 w3 ho4 hb hg_ hnew_; clear hg_ hnew_; (first | rw [← Ny231.out] at ho4 | (simp only [Int.reduceToNat] at ho4; rw [← Ny231.out] at ho4)); have HO233 := ak (Kd.R_lower ho4 (below_size kW)); replace BK230 := (kB BK230 hb); replace HB := ak (below_step kW hb); clear hb ho4; obtain ⟨hcz5_0, hcz5_1, hcz5_2, hcz5_3, hcz5_4, hcz5_5, hcz5_6⟩ := cz7 BK230; obtain ⟨hfz5_0, hfz5_1, hfz5_2, hfz5_3, hfz5_4, hfz5_5, hfz5_6⟩ := fz7 BK230))
 go_loopg [3, 9] k (fun kq v3 v9 w' => ∃ (x3_1 : List Int) (x9_1 : Int), v9 = .int .i64 x9_1 ∧ Aside0 (sashref06_Sizes.l0 kq x3_1 (l0_6.length : Int) x9_1 a0_0 a0_1 a0_2 a0_3 a0_4 a0_5 l0_6 = some r) ∧ Aside0 (kq ≤ k) ∧ Aside0 (Kd.R (Kd.int .i64) 3 w' w.heap.size (fun _ => True) v3 x3_1) ∧ Aside0 (w'.heap[gb230]? = some (.cells #[.int .u8 a0_0, .int .i64 a0_1, .int .i64 a0_2, .int .i64 a0_3, .int .i64 a0_4, .int .i64 a0_5, (.slice A0_6 l0_6.length c0_6)] 27 (0, 0))) ∧ Aside0 (Below w.heap.size w w'))
 case atStart => exact ⟨(y231), (0), mq39, H', ⟨Nat.le_refl _⟩, ⟨mq24 HO233⟩, ⟨mq28 BK230⟩, ⟨kW⟩⟩
 case round =>
  clear H'
  clear hcz5_0 hcz5_1 hcz5_2 hcz5_3 hcz5_4 hcz5_5 hcz5_6 hfz5_0 hfz5_1 hfz5_2 hfz5_3 hfz5_4 hfz5_5 hfz5_6
  obtain ⟨x3_1, x9_1, rfl, HA, HK1, HO_3, BK230, HB⟩ := hrel
  cases gk with
  | zero => exact absurd HA.out (by simp [sashref06_Sizes.l0])
  | succ k1 =>
   have H := HA.out
   clear HA
   simp only [sashref06_Sizes.l0] at H
   by_cases c6 : x9_1 < (l0_6.length : Int)
   ·rw [if_pos c6] at H
    have c6b0 : decide (x9_1 < (l0_6.length : Int)) = true := decide_eq_true c6
    clear c6
    by_cases c7 : a0_0 = 2
    ·rw [if_pos c7] at H
     have c7b0 : (a0_0 == 2) = true := beq_iff_eq.mpr c7
     have c7b1 : (a0_0 != 2) = false := bne_eq_false_iff_eq.mpr c7
     clear c7
     by_cases c8 : 0 ≤ x9_1
     ·rw [if_pos c8] at H
      have c8b0 : decide (0 ≤ x9_1) = true := decide_eq_true c8
      clear c8
      by_cases c9 : x9_1 < (l0_6.length : Int)
      ·rw [if_pos c9] at H
       have c9b0 : decide (x9_1 < (l0_6.length : Int)) = true := decide_eq_true c9
       clear c9
       by_cases c10 : x3_1.length < 17592186044416
       ·rw [if_pos c10] at H
        have LMc10 := ak c10
        clear c10
        obtain ⟨y235, hy235⟩ : ∃ y_ : List Int, y_ = (x3_1 ++ [(rd_T27 l0_6 x9_1).f1.f2]) := ⟨_, rfl⟩
        replace H : (sashref06_Sizes.l0 k1 y235 (l0_6.length : Int) (wrap64 (x9_1 + 1)) a0_0 a0_1 a0_2 a0_3 a0_4 a0_5 l0_6) = some r := mq33 hy235
        have Ny235 := ak hy235
        clear hy235
        have H' := ak H
        clear H
        obtain ⟨hcz11_0, hcz11_1, hcz11_2, hcz11_3, hcz11_4, hcz11_5, hcz11_6⟩ := cz7 BK230
        obtain ⟨hfz11_0, hfz11_1, hfz11_2, hfz11_3, hfz11_4, hfz11_5, hfz11_6⟩ := fz7 BK230
        have p234 : 0 ≤ (x9_1 : Int) := of_decide_eq_true mq34
        have q234 : x9_1 < (l0_6.length : Int) := of_decide_eq_true mq34
        obtain ⟨ad234, A234_6, c234_6, e234, hx234_0, hx234_1, hx234_2, hx234_3, hx234_4, hx234_5, hx234_6, HC234_6, HR234_6⟩ := elC27 HB HR0_6 x9_1 p234 q234
        cases e234
        replace p234 := eq_true p234
        replace q234 := eq_true q234
        go_wp2_with (first | ((with_reducible refine gate_builtin (b := .append) (xs := #[.tmp 15, .tmp 23]) rfl ?_); at_builtin; refine Kd.R_append (Kd.int .i64) (w0 := w) w.heap.size rfl (.tmp 15) (.tmp 23) 45 3 (.int .i64 0) 8 rfl Tryz.underlying45 info3 rfl (by decide) (by omega) u3 x3_1 ((rd_T27 l0_6 x9_1).f1.f2) [.int .i64 ((rd_T27 l0_6 x9_1).f1.f2)] (fun _ => True) (fun _ => False) rfl rfl ?aP (fun _ hk => hk.elim) ?aF ?aO ?aB ?aS ?aL ?_; (case aP => exact rfl); (case aB => exact kW); (case aF => exact (fun _ _ => trivial)); (case aO => exact (kR HO_3)); (case aS => exact (below_size kW)); (case aL => have := LMc10.out; omega); intro v236 w12 ho hb hg hat; rw [← Ny235.out] at ho; replace BK230 := (kG BK230 hg (Kd.R_ne HO_3.out BK230.out (by decide))); replace HB := ak (hb); have HO237 := ak (ho); clear HO_3; clear ho hb hg hat))
        go_roundg k1
        case measure => have := HK1.out; omega
        case rel => exact ⟨(y235), (wrap64 (x9_1 + 1)), mq39, H', ⟨mq47 HK1⟩, ⟨mq24 HO237⟩, ⟨mq28 BK230⟩, ⟨kW⟩⟩
       ·rw [if_neg c10] at H
        exact absurd H (by simp)
      ·rw [if_neg c9] at H
       exact absurd H (by simp)
     ·rw [if_neg c8] at H
      exact absurd H (by simp)
    ·rw [if_neg c7] at H
     have c7b0 : (a0_0 == 2) = false := beq_eq_false_iff_ne.mpr c7
     have c7b1 : (a0_0 != 2) = true := bne_iff_ne.mpr c7
     by_cases c13 : 0 ≤ x9_1
     ·rw [if_pos c13] at H
      have c13b0 : decide (0 ≤ x9_1) = true := decide_eq_true c13
      clear c13
      by_cases c14 : x9_1 < (l0_6.length : Int)
      ·rw [if_pos c14] at H
       have c14b0 : decide (x9_1 < (l0_6.length : Int)) = true := decide_eq_true c14
       clear c14
       by_cases c15 : x3_1.length < 17592186044416
       ·rw [if_pos c15] at H
        have LMc15 := ak c15
        clear c15
        obtain ⟨y239, hy239⟩ : ∃ y_ : List Int, y_ = (x3_1 ++ [(rd_T27 l0_6 x9_1).f1.f3]) := ⟨_, rfl⟩
        replace H : (sashref06_Sizes.l0 k1 y239 (l0_6.length : Int) (wrap64 (x9_1 + 1)) a0_0 a0_1 a0_2 a0_3 a0_4 a0_5 l0_6) = some r := mq33 hy239
        have Ny239 := ak hy239
        clear hy239
        have H' := ak H
        clear H
        obtain ⟨hcz16_0, hcz16_1, hcz16_2, hcz16_3, hcz16_4, hcz16_5, hcz16_6⟩ := cz7 BK230
        obtain ⟨hfz16_0, hfz16_1, hfz16_2, hfz16_3, hfz16_4, hfz16_5, hfz16_6⟩ := fz7 BK230
        have p238 : 0 ≤ (x9_1 : Int) := of_decide_eq_true mq34
        have q238 : x9_1 < (l0_6.length : Int) := of_decide_eq_true mq34
        obtain ⟨ad238, A238_6, c238_6, e238, hx238_0, hx238_1, hx238_2, hx238_3, hx238_4, hx238_5, hx238_6, HC238_6, HR238_6⟩ := elC27 HB HR0_6 x9_1 p238 q238
        cases e238
        replace p238 := eq_true p238
        replace q238 := eq_true q238
        go_wp2_with (first | ((with_reducible refine gate_builtin (b := .append) (xs := #[.tmp 25, .tmp 33]) rfl ?_); at_builtin; refine Kd.R_append (Kd.int .i64) (w0 := w) w.heap.size rfl (.tmp 25) (.tmp 33) 45 3 (.int .i64 0) 8 rfl Tryz.underlying45 info3 rfl (by decide) (by omega) u3 x3_1 ((rd_T27 l0_6 x9_1).f1.f3) [.int .i64 ((rd_T27 l0_6 x9_1).f1.f3)] (fun _ => True) (fun _ => False) rfl rfl ?aP (fun _ hk => hk.elim) ?aF ?aO ?aB ?aS ?aL ?_; (case aP => exact rfl); (case aB => exact kW); (case aF => exact (fun _ _ => trivial)); (case aO => exact (kR HO_3)); (case aS => exact (below_size kW)); (case aL => have := LMc15.out; omega); intro v240 w17 ho hb hg hat; rw [← Ny239.out] at ho; replace BK230 := (kG BK230 hg (Kd.R_ne HO_3.out BK230.out (by decide))); replace HB := ak (hb); have HO241 := ak (ho); clear HO_3; clear ho hb hg hat))
        go_roundg k1
        case measure => have := HK1.out; omega
        case rel => exact ⟨(y239), (wrap64 (x9_1 + 1)), mq39, H', ⟨mq47 HK1⟩, ⟨mq24 HO241⟩, ⟨mq28 BK230⟩, ⟨kW⟩⟩
       ·rw [if_neg c15] at H
        exact absurd H (by simp)
      ·rw [if_neg c14] at H
       exact absurd H (by simp)
     ·rw [if_neg c13] at H
      exact absurd H (by simp)
   ·rw [if_neg c6] at H
    have c6b0 : decide (x9_1 < (l0_6.length : Int)) = false := decide_eq_false c6
    clear c6
    obtain rfl := Option.some.inj H
    go_wp2
    go_ret
    exact ⟨_, mq37, mq24 HO_3, kW⟩
end Go.Proofs.YtkobpbbegalfpaaGreatDoor.PParseBodies
namespace Go.Proofs.YtkobpbbegalfpaaGreatDoor.PParseBodies
open Go.RowKit YtkobpbbegalfpaaGreatDoorW.PrintWords YtkobpbbegalfpaaGreatDoorW.PrintLast YtkobpbbegalfpaaGreatDoorW.PrintMore
attribute [local go_sem] max2_int min2_int max_two min_two max_three min_three max_four min_four
set_option linter.unusedVariables false
set_option linter.unusedSimpArgs false
attribute [local go_sem high] eqA24
def sashref06_one.l0 : Nat → List (S24) → List (S24) → Int → Int → Int → Int → Int → Int → Int → Int → List (S27) → Option ((List (S24)) × Bool)
 | 0, _, _, _, _, _, _, _, _, _, _, _ => none
 | k + 1, x4, x5, x28, x29, x243000, x243001, x243002, x243003, x243004, x243005, x243006 => if x29 < x28 then (if 0 ≤ x29 then (if x29 < (x4.length : Int) then (if x29 < (x243006.length : Int) then (if (!(((rd_T24 x4 x29).f0) == ((rd_T27 x243006 x29).f1.f0)) || (!(((rd_T24 x4 x29).f1) == ((rd_T27 x243006 x29).f1.f1)) || (!(((rd_T24 x4 x29).f2) == ((rd_T27 x243006 x29).f1.f2)) || (!(((rd_T24 x4 x29).f3) == ((rd_T27 x243006 x29).f1.f3)))))) = true then (some ((([] : List (S24))), false)) else (sashref06_one.l0 k x4 x5 x28 (wrap64 (x29 + 1)) x243000 x243001 x243002 x243003 x243004 x243005 x243006)) else (none)) else (none)) else (none)) else (some (x5, true))
def sashref06_one.f (k : Nat) (a0_0 : Int) (a0_1 : Int) (a0_2 : Int) (a0_3 : Int) (a0_4 : Int) (a0_5 : Int) (l0_6 : List (S27)) : Option ((List (S24)) × Bool) := if a0_0 = 1 then (some ((([] : List (S24))), true)) else ((sashref06_Sizes.f k a0_0 a0_1 a0_2 a0_3 a0_4 a0_5 l0_6).bind fun t246 => ((sashref04_Cut.f k a0_1 a0_2 a0_3 a0_4 ((a0_0 - 1) % 256) t246).bind fun bt249 => (if bt249.2.2 = true then (sashref06_one.l0 k bt249.1 bt249.2.1 (bt249.1.length : Int) 0 a0_0 a0_1 a0_2 a0_3 a0_4 a0_5 l0_6) else (some (bt249.2.1, false)))))
def sashref06_one.T3 : Bool × List (List Nat × List Nat) := (true, [([], []), ([0], [0]), ([], []), ([2], [2]), ([3], [3]), ([], []), ([5], [5]), ([1, 4, 6, 6], [1, 4, 6]), ([7], [7]), ([8], [8]), ([8], [8]), ([8], [8]), ([9, 7, 0, 1, 2, 3, 4, 5, 6, 7, 8, 9], [9]), ([10, 12, 0, 1, 2, 3, 4, 5, 6, 7, 8, 9, 10, 12], [10]), ([11, 13, 0, 1, 2, 3, 4, 5, 6, 7, 8, 9, 10, 11, 12, 13], [11])])
def sashref06_one.B3 : List Nat := [0, 1, 0, 4, 12, 0, 32, 127, 255, 511, 511, 511, 1023, 6143, 16383]
theorem sashref06_one.tab3 : rtab .any (opsOf Tryz.f62 3) = sashref06_one.T3 := by kernel_rfl
theorem sashref06_one.bits3 : waitsOk sashref06_one.T3.2 sashref06_one.B3 = true := by kernel_rfl
def sashref06_one.T9 : Bool × List (List Nat × List Nat) := (true, [([], []), ([], []), ([0, 1], [0, 1]), ([2], [2]), ([], []), ([4], [4]), ([], []), ([5, 6], [5, 6]), ([7], [7]), ([8], [8]), ([3, 9], [3, 9])])
def sashref06_one.B9 : List Nat := [0, 0, 3, 7, 0, 16, 0, 112, 240, 496, 1023]
theorem sashref06_one.tab9 : rtab .any (opsOf Tryz.f62 9) = sashref06_one.T9 := by kernel_rfl
theorem sashref06_one.bits9 : waitsOk sashref06_one.T9.2 sashref06_one.B9 = true := by kernel_rfl
set_option maxHeartbeats 8000000 in
set_option maxRecDepth 100000 in
theorem sashref06_one.calls (k : Nat) (a0_0 : Int) (a0_1 : Int) (a0_2 : Int) (a0_3 : Int) (a0_4 : Int) (a0_5 : Int) (A0_6 : Option Addr) (c0_6 : Nat) (l0_6 : List (S27)) (r1 : List (S24)) (r2 : Bool) (w : World) (hr0_6 : Kd.C k27 w A0_6 l0_6.length l0_6) (hc0_6 : l0_6.length ≤ c0_6) (h : sashref06_one.f k a0_0 a0_1 a0_2 a0_3 a0_4 a0_5 l0_6 = some (r1, r2)) :
  Calls Tryz.prog 62 #[.agg #[.int .u8 a0_0, .int .i64 a0_1, .int .i64 a0_2, .int .i64 a0_3, .int .i64 a0_4, .int .i64 a0_5, .slice A0_6 l0_6.length c0_6]] w fun e w' => ∃ v0_ : Value, e = .returned (.tuple #[v0_, .bool r2]) ∧ Kd.V k24 24 w' w.heap.size (fun k_ => (w.heap.size ≤ k_)) v0_ r1 ∧ Below w.heap.size w w' := by
 have hu27 := Tryz.underlying27
 have hu24 := Tryz.underlying24
 have HR0_6 := ak hr0_6
 have HC0_6 := ak hc0_6
 clear hr0_6 hc0_6
 have HB := ak (Below.refl w.heap.size w)
 have H : (if a0_0 = 1 then (some ((([] : List (S24))), true)) else ((sashref06_Sizes.f k a0_0 a0_1 a0_2 a0_3 a0_4 a0_5 l0_6).bind fun t246 => ((sashref04_Cut.f k a0_1 a0_2 a0_3 a0_4 ((a0_0 - 1) % 256) t246).bind fun bt249 => (if bt249.2.2 = true then (sashref06_one.l0 k bt249.1 bt249.2.1 (bt249.1.length : Int) 0 a0_0 a0_1 a0_2 a0_3 a0_4 a0_5 l0_6) else (some (bt249.2.1, false)))))) = some (r1, r2) := h
 clear h
 by_cases c2 : a0_0 = 1
 ·rw [if_pos c2] at H
  have c2b0 : (a0_0 == 1) = true := beq_iff_eq.mpr c2
  have c2b1 : (a0_0 != 1) = false := bne_eq_false_iff_eq.mpr c2
  clear c2
  obtain ⟨y243, hy243⟩ : ∃ y_ : List (S24), y_ = (([] : List (S24))) := ⟨_, rfl⟩
  replace H : (some (y243, true)) = some (r1, r2) := mq33 hy243
  have Ny243 := ak hy243
  clear hy243
  simp only [Option.some.injEq, Prod.mk.injEq] at H
  obtain ⟨rfl, rfl⟩ := H
  go_enter Tryz.func62, Tryz.ntmps62
  go_wp2_with (first | ((with_reducible refine gate_dst (N := 1) rfl ?_); refine bxe 1 #[.int .u8 a0_0, .int .i64 a0_1, .int .i64 a0_2, .int .i64 a0_3, .int .i64 a0_4, .int .i64 a0_5, .slice A0_6 l0_6.length c0_6] 27 (h := ?_); intro gb242 hg w3 hbox hb; have BK242 := ak (hbox); have GW242 := ak ((mq53 : w.heap.size ≤ gb242)); have GE242 := ak ((mq53 : w.heap.size ≤ gb242)); replace HB := ak (below_step kW hb); clear hb hbox hg; obtain ⟨hcz4_0, hcz4_1, hcz4_2, hcz4_3, hcz4_4, hcz4_5, hcz4_6⟩ := cz7 BK242; obtain ⟨hfz4_0, hfz4_1, hfz4_2, hfz4_3, hfz4_4, hfz4_5, hfz4_6⟩ := fz7 BK242) | ((with_reducible refine gate_dst (N := 11) rfl ?_); refine Kd.R_lit k24 _ 24 ?hg (N := 11) ?hd (xs := ([] : List (S24))) (inner := []) (ok := fun _ => True) (okp := fun _ => True) ?hr ?hp (fun _ hk => hk) trivial (Below.refl _ _) (Nat.le_refl _) (by simp) ?_; (case hd => rfl); (case hg => rfl); (case hr => first | (go_simp; done) | (go_simp; rfl)); (case hp => exact (Reps.none _ _)); intro v244 w5 ho6 hb hg_ hnew_; clear hg_ hnew_; (first | rw [← Ny243.out] at ho6 | (simp only [Int.reduceToNat] at ho6; rw [← Ny243.out] at ho6)); have HO245 := ak (Kd.R_lower (Kd.R_newM (M := fun k_ => (w.heap.size ≤ k_)) ho6 (below_size kW) (fun k_ h_ => h_)) (below_size kW)); replace BK242 := (kB BK242 hb); replace HB := ak (below_step kW hb); clear hb ho6))
  go_ret2
  exact ⟨_, mq37, Kd.R_V (mq14 HO245), kW⟩
 ·rw [if_neg c2] at H
  have c2b0 : (a0_0 == 1) = false := beq_eq_false_iff_ne.mpr c2
  have c2b1 : (a0_0 != 1) = true := bne_iff_ne.mpr c2
  replace H := Option.bind_eq_some_iff.mp H
  obtain ⟨t246, A70, H⟩ := H
  replace H : ((sashref04_Cut.f k a0_1 a0_2 a0_3 a0_4 ((a0_0 - 1) % 256) t246).bind fun bt249 => (if bt249.2.2 = true then (sashref06_one.l0 k bt249.1 bt249.2.1 (bt249.1.length : Int) 0 a0_0 a0_1 a0_2 a0_3 a0_4 a0_5 l0_6) else (some (bt249.2.1, false)))) = some (r1, r2) := H
  have A7 := ak A70
  clear A70
  replace H := Option.bind_eq_some_iff.mp H
  obtain ⟨⟨t249, t252, t255⟩, A80, H⟩ := H
  replace H : (if t255 = true then (sashref06_one.l0 k t249 t252 (t249.length : Int) 0 a0_0 a0_1 a0_2 a0_3 a0_4 a0_5 l0_6) else (some (t252, false))) = some (r1, r2) := H
  have A8 := ak A80
  clear A80
  by_cases c9 : t255 = true
  ·subst c9
   have H1 : (sashref06_one.l0 k t249 t252 (t249.length : Int) 0 a0_0 a0_1 a0_2 a0_3 a0_4 a0_5 l0_6) = some (r1, r2) := mq55
   clear H
   have H := H1
   clear H1
   have H' := ak H
   clear H
   go_enter Tryz.func62, Tryz.ntmps62
   try go_wp2_with (first | ((with_reducible refine gate_dst (N := 1) rfl ?_); refine bxe 1 #[.int .u8 a0_0, .int .i64 a0_1, .int .i64 a0_2, .int .i64 a0_3, .int .i64 a0_4, .int .i64 a0_5, .slice A0_6 l0_6.length c0_6] 27 (h := ?_); intro gb242 hg w10 hbox hb; have BK242 := ak (hbox); have GW242 := ak ((mq53 : w.heap.size ≤ gb242)); have GE242 := ak ((mq53 : w.heap.size ≤ gb242)); replace HB := ak (below_step kW hb); clear hb hbox hg; obtain ⟨hcz11_0, hcz11_1, hcz11_2, hcz11_3, hcz11_4, hcz11_5, hcz11_6⟩ := cz7 BK242; obtain ⟨hfz11_0, hfz11_1, hfz11_2, hfz11_3, hfz11_4, hfz11_5, hfz11_6⟩ := fz7 BK242))
   replace BK242 := ak (blk_drew BK242.out)
   replace HB := ak (below_drew1 HB.out)
   refine start_ (n := 15) (S := fun w' => w'.cell? ⟨gb242, 0, none⟩ = some (.int .u8 a0_0) ∧ w'.cell? ⟨gb242, 1, none⟩ = some (.int .i64 a0_1) ∧ w'.cell? ⟨gb242, 2, none⟩ = some (.int .i64 a0_2) ∧ w'.cell? ⟨gb242, 3, none⟩ = some (.int .i64 a0_3) ∧ w'.cell? ⟨gb242, 4, none⟩ = some (.int .i64 a0_4) ∧ w'.cell? ⟨gb242, 5, none⟩ = some (.int .i64 a0_5) ∧ w'.cell? ⟨gb242, 6, none⟩ = some (.slice A0_6 l0_6.length c0_6)) (ds := []) #[false, false, false, false, false, false, false, false, false, false, false, false, false, false, false] (by kernel_rfl) rfl rfl ⟨(blk_cell BK242.out 0).trans rfl, (blk_cell BK242.out 1).trans rfl, (blk_cell BK242.out 2).trans rfl, (blk_cell BK242.out 3).trans rfl, (blk_cell BK242.out 4).trans rfl, (blk_cell BK242.out 5).trans rfl, (blk_cell BK242.out 6).trans rfl⟩ (fun hHeld => ?_); refine with_tabW sashref06_one.tab3 sashref06_one.bits3 (fun HT_ HW_ => ?_)
   generalize w10.drew = w12 at BK242 HB hHeld ⊢
   refine pu 0 (some 13) #[true, false, false, false, false, false, false, false, false, false, false, false, false, false, false] (h := ?_)
   refine pu 2 (some 15) #[true, false, true, false, false, false, false, false, false, false, false, false, false, false, false] (h := ?_)
   refine tk 1 (some 14) #[true, true, true, false, false, false, false, false, false, false, false, false, false, false, false] (h := ?_)
   refine tk 3 (some 16) #[true, true, true, true, false, false, false, false, false, false, false, false, false, false, false] (h := ?_)
   refine pu 4 (some 17) #[true, true, true, true, true, false, false, false, false, false, false, false, false, false, false] (h := ?_)
   refine tk 5 (some 18) #[true, true, true, true, true, true, false, false, false, false, false, false, false, false, false] (h := ?_)
   refine one_ (i := 6) (N := some 19) #[true, true, true, true, true, true, true, false, false, false, false, false, false, false, false] rfl rfl (one_of HT_.out (by kernel_rfl)) (by decide) (fun K hK => ?_)
   refine goes_ Tryz.func91 (by kernel_rfl) rfl #[.agg #[.int .u8 a0_0, .int .i64 a0_1, .int .i64 a0_2, .int .i64 a0_3, .int .i64 a0_4, .int .i64 a0_5, .slice A0_6 l0_6.length c0_6]] (by rfl) rfl rfl mq2 ?_
   with_reducible refine (sashref06_Sizes.calls k a0_0 a0_1 a0_2 a0_3 a0_4 a0_5 _ _ l0_6 t246 _ ?side1 ?side2 A7.out).mono ?_
   (case side1 => repeat (first | exact (Kd.C_below HR0_6.out HB.out) | (with_reducible refine Kd.C_alloc ?_ _) | (with_reducible refine Kd.C_drewN ?_ _) | (with_reducible refine Kd.C_drew ?_)))
   (case side2 => exact HC0_6.out)
   rintro e w13 ⟨v247, rfl, ho0, hb⟩
   refine ⟨_, rfl, ?_⟩
   have HO248 := ak (Kd.R_lower (Kd.R_newM (M := fun k_ => (w.heap.size ≤ k_)) ho0 (below_size kW) (fun k_ h_ => h_)) (below_size kW))
   replace BK242 := (kB BK242 hb)
   replace HB := ak (below_step kW hb)
   (try clear hb)
   (try clear hb2)
   (try clear hk)
   (try clear hi)
   (try clear ho0)
   obtain ⟨Ao14, co14, eo14⟩ := Kd.R_slice HO248.out
   (first | subst eo14 | (injection eo14 with f1_ f2_ f3_; have f4_ := f1_.symm; have f5_ := f3_.symm; clear f1_ f2_ f3_; subst f4_; subst f5_))
   refine hK.out _ _ ⟨(blk_cell BK242.out 0).trans rfl, (blk_cell BK242.out 1).trans rfl, (blk_cell BK242.out 2).trans rfl, (blk_cell BK242.out 3).trans rfl, (blk_cell BK242.out 4).trans rfl, (blk_cell BK242.out 5).trans rfl, (blk_cell BK242.out 6).trans rfl⟩ (fun hHeld => ?_)
   clear hK K
   refine norm_ (a' := ?_) ?_ ?_
   rotate_left
   ·show Act.put _ (some 19) _ = _
    simp only [Act.put, List.setIfInBounds_toArray, List.set_cons_zero, List.set_cons_succ, i64_w, i32_w]
    rfl
   refine one_ (i := 7) (N := some 20) #[true, true, true, true, true, true, true, true, false, false, false, false, false, false, false] rfl rfl (one_of HT_.out (by kernel_rfl)) (by decide) (fun K hK => ?_)
   refine goes_ Tryz.func90 (by kernel_rfl) rfl #[.agg #[.int .i64 a0_1, .int .i64 a0_2, .int .i64 a0_3, .int .i64 a0_4], .int .u8 ((a0_0 - 1) % 256), .slice Ao14 t246.length co14] (by rfl) rfl rfl mq2 ?_
   with_reducible refine (sashref04_Cut.calls k a0_1 a0_2 a0_3 a0_4 ((a0_0 - 1) % 256) _ _ t246 t249 t252 true _ ?side1 ?side2 A8.out).mono ?_
   (case side1 => repeat (first | exact (Kd.R_reads' HO248.out).2.2 | (with_reducible refine Kd.C_alloc ?_ _) | (with_reducible refine Kd.C_drewN ?_ _) | (with_reducible refine Kd.C_drew ?_)))
   (case side2 => exact (Kd.R_reads' HO248.out).2.1)
   rintro e w15 ⟨v250, v253, rfl, ho0, ho1, hb⟩
   refine ⟨_, rfl, ?_⟩
   have HO251 := ak (Kd.V_lower (Kd.V_mono (ok' := fun k_ => (w.heap.size ≤ k_) ∧ some k_ ≠ (.slice Ao14 t246.length co14 : Value).ownBlock ∧ k_ ≠ gb242) ho0 (fun k_ hk_ => ⟨(Nat.le_trans (below_size kW) hk_), (Kd.fresh' (Kd.R_lt (kR HO248)) k_ hk_), (Kd.freshB (g := gb242) (o := .cells #[.int .u8 a0_0, .int .i64 a0_1, .int .i64 a0_2, .int .i64 a0_3, .int .i64 a0_4, .int .i64 a0_5, .slice A0_6 l0_6.length c0_6] 27 (0, 0)) (kA BK242) k_ hk_)⟩)) (below_size kW))
   have HO254 := ak (Kd.V_lower (Kd.V_mono (ok' := fun k_ => (w.heap.size ≤ k_) ∧ some k_ ≠ (.slice Ao14 t246.length co14 : Value).ownBlock ∧ k_ ≠ gb242) ho1 (fun k_ hk_ => ⟨(Nat.le_trans (below_size kW) hk_), (Kd.fresh' (Kd.R_lt (kR HO248)) k_ hk_), (Kd.freshB (g := gb242) (o := .cells #[.int .u8 a0_0, .int .i64 a0_1, .int .i64 a0_2, .int .i64 a0_3, .int .i64 a0_4, .int .i64 a0_5, .slice A0_6 l0_6.length c0_6] 27 (0, 0)) (kA BK242) k_ hk_)⟩)) (below_size kW))
   replace HO248 := ak (Kd.R_below (kR HO248) hb)
   replace BK242 := (kB BK242 hb)
   replace HB := ak (below_step kW hb)
   (try clear hb)
   (try clear hb2)
   (try clear hk)
   (try clear hi)
   (try clear ho0)
   (try clear ho1)
   refine hK.out _ _ ⟨(blk_cell BK242.out 0).trans rfl, (blk_cell BK242.out 1).trans rfl, (blk_cell BK242.out 2).trans rfl, (blk_cell BK242.out 3).trans rfl, (blk_cell BK242.out 4).trans rfl, (blk_cell BK242.out 5).trans rfl, (blk_cell BK242.out 6).trans rfl⟩ (fun hHeld => ?_)
   clear hK K
   refine norm_ (a' := ?_) ?_ ?_
   rotate_left
   ·show Act.put _ (some 20) _ = _
    simp only [Act.put, List.setIfInBounds_toArray, List.set_cons_zero, List.set_cons_succ, i64_w, i32_w]
    rfl
   refine pu 8 (some 12) #[true, true, true, true, true, true, true, true, true, false, false, false, false, false, false] (h := ?_)
   refine pu 9 (some 21) #[true, true, true, true, true, true, true, true, true, true, false, false, false, false, false] (h := ?_)
   refine pu 10 (some 22) #[true, true, true, true, true, true, true, true, true, true, true, false, false, false, false] (h := ?_)
   refine pu 11 (some 23) #[true, true, true, true, true, true, true, true, true, true, true, true, false, false, false] (h := ?_)
   refine pu 12 (some 4) #[true, true, true, true, true, true, true, true, true, true, true, true, true, false, false] (h := ?_)
   refine pu 13 (some 5) #[true, true, true, true, true, true, true, true, true, true, true, true, true, true, false] (h := ?_)
   refine pu 14 (some 6) #[true, true, true, true, true, true, true, true, true, true, true, true, true, true, true] (h := ?_)
   refine done_ (done_of HT_.out (by kernel_rfl)) ?_
   obtain ⟨Ao16, co16, eo16⟩ := Kd.V_slice HO251.out
   subst eo16
   try go_wp2
   go_loopg [29] k (fun kq v29 w' => ∃ (x29_1 : Int), v29 = .int .i64 x29_1 ∧ Aside0 (sashref06_one.l0 kq t249 t252 (t249.length : Int) x29_1 a0_0 a0_1 a0_2 a0_3 a0_4 a0_5 l0_6 = some (r1, r2)) ∧ Aside0 (kq ≤ k) ∧ Aside0 (Kd.V k24 24 w' w.heap.size (fun k_ => (w.heap.size ≤ k_) ∧ k_ ≠ gb242) (.slice Ao16 t249.length co16) t249) ∧ Aside0 (Kd.V k24 24 w' w.heap.size (fun k_ => (w.heap.size ≤ k_) ∧ k_ ≠ gb242) v253 t252) ∧ Aside0 (w'.heap[gb242]? = some (.cells #[.int .u8 a0_0, .int .i64 a0_1, .int .i64 a0_2, .int .i64 a0_3, .int .i64 a0_4, .int .i64 a0_5, (.slice A0_6 l0_6.length c0_6)] 27 (0, 0))) ∧ Aside0 (Below w.heap.size w w'))
   case atStart => exact ⟨(0), mq39, H', ⟨Nat.le_refl _⟩, ⟨mq25 HO251⟩, ⟨mq25 HO254⟩, ⟨mq28 BK242⟩, ⟨kW⟩⟩
   case round =>
    clear H'
    clear c2 c2b0 c2b1 hcz11_0 hcz11_1 hcz11_2 hcz11_3 hcz11_4 hcz11_5 hcz11_6 hfz11_0 hfz11_1 hfz11_2 hfz11_3 hfz11_4 hfz11_5 hfz11_6
    obtain ⟨x29_1, rfl, HA, HK1, HO_4, HO_5, BK242, HB⟩ := hrel
    cases gk with
    | zero => exact absurd HA.out (by simp [sashref06_one.l0])
    | succ k1 =>
     have H := HA.out
     clear HA
     simp only [sashref06_one.l0] at H
     by_cases c17 : x29_1 < (t249.length : Int)
     ·rw [if_pos c17] at H
      have c17b0 : decide (x29_1 < (t249.length : Int)) = true := decide_eq_true c17
      clear c17
      by_cases c18 : 0 ≤ x29_1
      ·rw [if_pos c18] at H
       have c18b0 : decide (0 ≤ x29_1) = true := decide_eq_true c18
       clear c18
       by_cases c19 : x29_1 < (t249.length : Int)
       ·rw [if_pos c19] at H
        have c19b0 : decide (x29_1 < (t249.length : Int)) = true := decide_eq_true c19
        clear c19
        by_cases c20 : x29_1 < (l0_6.length : Int)
        ·rw [if_pos c20] at H
         have c20b0 : decide (x29_1 < (l0_6.length : Int)) = true := decide_eq_true c20
         clear c20
         by_cases c21 : (!(((rd_T24 t249 x29_1).f0) == ((rd_T27 l0_6 x29_1).f1.f0)) || (!(((rd_T24 t249 x29_1).f1) == ((rd_T27 l0_6 x29_1).f1.f1)) || (!(((rd_T24 t249 x29_1).f2) == ((rd_T27 l0_6 x29_1).f1.f2)) || (!(((rd_T24 t249 x29_1).f3) == ((rd_T27 l0_6 x29_1).f1.f3)))))) = true
         ·rw [if_pos c21] at H
          have c21b0 : (!(((rd_T24 t249 x29_1).f0) == ((rd_T27 l0_6 x29_1).f1.f0)) || (!(((rd_T24 t249 x29_1).f1) == ((rd_T27 l0_6 x29_1).f1.f1)) || (!(((rd_T24 t249 x29_1).f2) == ((rd_T27 l0_6 x29_1).f1.f2)) || (!(((rd_T24 t249 x29_1).f3) == ((rd_T27 l0_6 x29_1).f1.f3)))))) = true := c21
          clear c21
          obtain ⟨y258, hy258⟩ : ∃ y_ : List (S24), y_ = (([] : List (S24))) := ⟨_, rfl⟩
          replace H : (some (y258, false)) = some (r1, r2) := mq33 hy258
          have Ny258 := ak hy258
          clear hy258
          simp only [Option.some.injEq, Prod.mk.injEq] at H
          obtain ⟨rfl, rfl⟩ := H
          try go_wp2
          replace HO_4 := ak (Kd.V_drew HO_4.out)
          replace HO_5 := ak (Kd.V_drew HO_5.out)
          replace BK242 := ak (blk_drew BK242.out)
          replace HB := ak (below_drew1 HB.out)
          have p256 : 0 ≤ (x29_1 : Int) := of_decide_eq_true mq34
          have q256 : x29_1 < (t249.length : Int) := of_decide_eq_true mq34
          obtain ⟨ad256, e256, hx256_0, hx256_1, hx256_2, hx256_3⟩ := at_T24 (Kd.V_reads' HO_4.out).2.2 x29_1 p256 q256
          cases e256
          replace p256 := eq_true p256
          replace q256 := eq_true q256
          have p257 : 0 ≤ (x29_1 : Int) := of_decide_eq_true mq34
          have q257 : x29_1 < (l0_6.length : Int) := of_decide_eq_true mq34
          obtain ⟨ad257, A257_6, c257_6, e257, hx257_0, hx257_1, hx257_2, hx257_3, hx257_4, hx257_5, hx257_6, hl257_6, hi257_6⟩ := at_T27 HR0_6.out x29_1 p257 q257
          have hw257_6 := hx257_6
          have hw257_5 := hx257_5
          have hw257_4 := hx257_4
          have hw257_3 := hx257_3
          have hw257_2 := hx257_2
          have hw257_1 := hx257_1
          have hw257_0 := hx257_0
          cases e257
          replace hx257_0 := (HB.out.cell (World.block_lt_of_cell? w _ hx257_0)).trans hx257_0
          replace hx257_1 := (HB.out.cell (World.block_lt_of_cell? w _ hx257_1)).trans hx257_1
          replace hx257_2 := (HB.out.cell (World.block_lt_of_cell? w _ hx257_2)).trans hx257_2
          replace hx257_3 := (HB.out.cell (World.block_lt_of_cell? w _ hx257_3)).trans hx257_3
          replace hx257_4 := (HB.out.cell (World.block_lt_of_cell? w _ hx257_4)).trans hx257_4
          replace hx257_5 := (HB.out.cell (World.block_lt_of_cell? w _ hx257_5)).trans hx257_5
          replace hx257_6 := (HB.out.cell (World.block_lt_of_cell? w _ hx257_6)).trans hx257_6
          have HR257_6 := ak hi257_6
          have HC257_6 := ak hl257_6
          clear hi257_6 hl257_6
          replace p257 := eq_true p257
          replace q257 := eq_true q257
          refine start_ (n := 11) (S := fun w' => w'.cell? ⟨gb242, 0, none⟩ = some (.int .u8 a0_0) ∧ w'.cell? ⟨gb242, 1, none⟩ = some (.int .i64 a0_1) ∧ w'.cell? ⟨gb242, 2, none⟩ = some (.int .i64 a0_2) ∧ w'.cell? ⟨gb242, 3, none⟩ = some (.int .i64 a0_3) ∧ w'.cell? ⟨gb242, 4, none⟩ = some (.int .i64 a0_4) ∧ w'.cell? ⟨gb242, 5, none⟩ = some (.int .i64 a0_5) ∧ w'.cell? ⟨gb242, 6, none⟩ = some (.slice (some ad257) l0_6.length c0_6) ∧ w'.cell? (ad256.add ((x29_1).toNat * 4)) = some (.int .i64 ((rd_T24 t249 x29_1).f0)) ∧ w'.cell? ⟨(ad256.add ((x29_1).toNat * 4)).block, (ad256.add ((x29_1).toNat * 4)).off + 1, none⟩ = some (.int .i64 ((rd_T24 t249 x29_1).f1)) ∧ w'.cell? ⟨(ad256.add ((x29_1).toNat * 4)).block, (ad256.add ((x29_1).toNat * 4)).off + 2, none⟩ = some (.int .i64 ((rd_T24 t249 x29_1).f2)) ∧ w'.cell? ⟨(ad256.add ((x29_1).toNat * 4)).block, (ad256.add ((x29_1).toNat * 4)).off + 3, none⟩ = some (.int .i64 ((rd_T24 t249 x29_1).f3)) ∧ w'.cell? (ad257.add ((x29_1).toNat * 7)) = some (.int .u8 ((rd_T27 l0_6 x29_1).f0)) ∧ w'.cell? ⟨(ad257.add ((x29_1).toNat * 7)).block, (ad257.add ((x29_1).toNat * 7)).off + 1, none⟩ = some (.int .i64 ((rd_T27 l0_6 x29_1).f1.f0)) ∧ w'.cell? ⟨(ad257.add ((x29_1).toNat * 7)).block, (ad257.add ((x29_1).toNat * 7)).off + 2, none⟩ = some (.int .i64 ((rd_T27 l0_6 x29_1).f1.f1)) ∧ w'.cell? ⟨(ad257.add ((x29_1).toNat * 7)).block, (ad257.add ((x29_1).toNat * 7)).off + 3, none⟩ = some (.int .i64 ((rd_T27 l0_6 x29_1).f1.f2)) ∧ w'.cell? ⟨(ad257.add ((x29_1).toNat * 7)).block, (ad257.add ((x29_1).toNat * 7)).off + 4, none⟩ = some (.int .i64 ((rd_T27 l0_6 x29_1).f1.f3)) ∧ w'.cell? ⟨(ad257.add ((x29_1).toNat * 7)).block, (ad257.add ((x29_1).toNat * 7)).off + 5, none⟩ = some (.int .i64 ((rd_T27 l0_6 x29_1).f2)) ∧ w'.cell? ⟨(ad257.add ((x29_1).toNat * 7)).block, (ad257.add ((x29_1).toNat * 7)).off + 6, none⟩ = some (.slice A257_6 ((rd_T27 l0_6 x29_1).f3).length c257_6)) (ds := []) #[false, false, false, false, false, false, false, false, false, false, false] (by kernel_rfl) rfl rfl ⟨(blk_cell BK242.out 0).trans rfl, (blk_cell BK242.out 1).trans rfl, (blk_cell BK242.out 2).trans rfl, (blk_cell BK242.out 3).trans rfl, (blk_cell BK242.out 4).trans rfl, (blk_cell BK242.out 5).trans rfl, (blk_cell BK242.out 6).trans rfl, hx256_0, hx256_1, hx256_2, hx256_3, ((HB.out.cell (World.block_lt_of_cell? w _ hw257_0)).trans hw257_0), ((HB.out.cell (World.block_lt_of_cell? w _ hw257_1)).trans hw257_1), ((HB.out.cell (World.block_lt_of_cell? w _ hw257_2)).trans hw257_2), ((HB.out.cell (World.block_lt_of_cell? w _ hw257_3)).trans hw257_3), ((HB.out.cell (World.block_lt_of_cell? w _ hw257_4)).trans hw257_4), ((HB.out.cell (World.block_lt_of_cell? w _ hw257_5)).trans hw257_5), ((HB.out.cell (World.block_lt_of_cell? w _ hw257_6)).trans hw257_6)⟩ (fun hHeld => ?_); refine with_tabW sashref06_one.tab9 sashref06_one.bits9 (fun HT_ HW_ => ?_)
          generalize wr.drew = w22 at HO_4 HO_5 BK242 HB HR257_6 hx256_0 hx256_1 hx256_2 hx256_3 hx257_0 hx257_1 hx257_2 hx257_3 hx257_4 hx257_5 hx257_6 hHeld ⊢
          refine pu 0 (some 32) #[true, false, false, false, false, false, false, false, false, false, false] (h := ?_)
          refine pu 1 (some 33) #[true, true, false, false, false, false, false, false, false, false, false] (h := ?_)
          refine pu 2 (some 34) #[true, true, true, false, false, false, false, false, false, false, false] (h := ?_)
          refine pu 4 (some 36) #[true, true, true, false, true, false, false, false, false, false, false] (h := ?_)
          refine pu 6 (some 38) #[true, true, true, false, true, false, true, false, false, false, false] (h := ?_)
          refine tk 3 (some 35) #[true, true, true, true, true, false, true, false, false, false, false] (h := ?_)
          refine tk 5 (some 37) #[true, true, true, true, true, true, true, false, false, false, false] (h := ?_)
          refine pu 7 (some 39) #[true, true, true, true, true, true, true, true, false, false, false] (h := ?_)
          refine pu 8 (some 40) #[true, true, true, true, true, true, true, true, true, false, false] (h := ?_)
          refine tk 9 (some 41) #[true, true, true, true, true, true, true, true, true, true, false] (h := ?_)
          refine pu 10 (some 42) #[true, true, true, true, true, true, true, true, true, true, true] (h := ?_)
          refine done_ (done_of HT_.out (by kernel_rfl)) ?_
          try go_wp2_with (first | ((with_reducible refine gate_dst (N := 43) rfl ?_); refine Kd.R_lit k24 _ 24 ?hg (N := 43) ?hd (xs := ([] : List (S24))) (inner := []) (ok := fun _ => True) (okp := fun _ => True) ?hr ?hp (fun _ hk => hk) trivial (Below.refl _ _) (Nat.le_refl _) (by simp) ?_; (case hd => rfl); (case hg => rfl); (case hr => first | (go_simp; done) | (go_simp; rfl)); (case hp => exact (Reps.none _ _)); intro v259 w23 ho24 hb hg_ hnew_; clear hg_ hnew_; (first | rw [← Ny258.out] at ho24 | (simp only [Int.reduceToNat] at ho24; rw [← Ny258.out] at ho24)); replace HO_4 := ak (Kd.V_elder' (mq27 HO_4) (Kd.R_base ho24) hb); replace HO_5 := ak (Kd.V_elder' (mq27 HO_5) (Kd.R_base ho24) hb); have HO260 := ak (Kd.R_lower (Kd.R_newM (M := fun k_ => (w.heap.size ≤ k_)) ho24 (below_size kW) (fun k_ h_ => h_)) (below_size kW)); replace BK242 := (kB BK242 hb); replace HB := ak (below_step kW hb); clear hb ho24))
          go_ret2
          exact ⟨_, mq37, Kd.R_V (mq14 HO260), kW⟩
         ·rw [if_neg c21] at H
          have c21b0 : (!(((rd_T24 t249 x29_1).f0) == ((rd_T27 l0_6 x29_1).f1.f0)) || (!(((rd_T24 t249 x29_1).f1) == ((rd_T27 l0_6 x29_1).f1.f1)) || (!(((rd_T24 t249 x29_1).f2) == ((rd_T27 l0_6 x29_1).f1.f2)) || (!(((rd_T24 t249 x29_1).f3) == ((rd_T27 l0_6 x29_1).f1.f3)))))) = false := by simpa using c21
          clear c21
          have H' := ak H
          clear H
          try go_wp2
          replace HO_4 := ak (Kd.V_drew HO_4.out)
          replace HO_5 := ak (Kd.V_drew HO_5.out)
          replace BK242 := ak (blk_drew BK242.out)
          replace HB := ak (below_drew1 HB.out)
          have p256 : 0 ≤ (x29_1 : Int) := of_decide_eq_true mq34
          have q256 : x29_1 < (t249.length : Int) := of_decide_eq_true mq34
          obtain ⟨ad256, e256, hx256_0, hx256_1, hx256_2, hx256_3⟩ := at_T24 (Kd.V_reads' HO_4.out).2.2 x29_1 p256 q256
          cases e256
          replace p256 := eq_true p256
          replace q256 := eq_true q256
          have p257 : 0 ≤ (x29_1 : Int) := of_decide_eq_true mq34
          have q257 : x29_1 < (l0_6.length : Int) := of_decide_eq_true mq34
          obtain ⟨ad257, A257_6, c257_6, e257, hx257_0, hx257_1, hx257_2, hx257_3, hx257_4, hx257_5, hx257_6, hl257_6, hi257_6⟩ := at_T27 HR0_6.out x29_1 p257 q257
          have hw257_6 := hx257_6
          have hw257_5 := hx257_5
          have hw257_4 := hx257_4
          have hw257_3 := hx257_3
          have hw257_2 := hx257_2
          have hw257_1 := hx257_1
          have hw257_0 := hx257_0
          cases e257
          replace hx257_0 := (HB.out.cell (World.block_lt_of_cell? w _ hx257_0)).trans hx257_0
          replace hx257_1 := (HB.out.cell (World.block_lt_of_cell? w _ hx257_1)).trans hx257_1
          replace hx257_2 := (HB.out.cell (World.block_lt_of_cell? w _ hx257_2)).trans hx257_2
          replace hx257_3 := (HB.out.cell (World.block_lt_of_cell? w _ hx257_3)).trans hx257_3
          replace hx257_4 := (HB.out.cell (World.block_lt_of_cell? w _ hx257_4)).trans hx257_4
          replace hx257_5 := (HB.out.cell (World.block_lt_of_cell? w _ hx257_5)).trans hx257_5
          replace hx257_6 := (HB.out.cell (World.block_lt_of_cell? w _ hx257_6)).trans hx257_6
          have HR257_6 := ak hi257_6
          have HC257_6 := ak hl257_6
          clear hi257_6 hl257_6
          replace p257 := eq_true p257
          replace q257 := eq_true q257
          refine start_ (n := 11) (S := fun w' => w'.cell? ⟨gb242, 0, none⟩ = some (.int .u8 a0_0) ∧ w'.cell? ⟨gb242, 1, none⟩ = some (.int .i64 a0_1) ∧ w'.cell? ⟨gb242, 2, none⟩ = some (.int .i64 a0_2) ∧ w'.cell? ⟨gb242, 3, none⟩ = some (.int .i64 a0_3) ∧ w'.cell? ⟨gb242, 4, none⟩ = some (.int .i64 a0_4) ∧ w'.cell? ⟨gb242, 5, none⟩ = some (.int .i64 a0_5) ∧ w'.cell? ⟨gb242, 6, none⟩ = some (.slice (some ad257) l0_6.length c0_6) ∧ w'.cell? (ad256.add ((x29_1).toNat * 4)) = some (.int .i64 ((rd_T24 t249 x29_1).f0)) ∧ w'.cell? ⟨(ad256.add ((x29_1).toNat * 4)).block, (ad256.add ((x29_1).toNat * 4)).off + 1, none⟩ = some (.int .i64 ((rd_T24 t249 x29_1).f1)) ∧ w'.cell? ⟨(ad256.add ((x29_1).toNat * 4)).block, (ad256.add ((x29_1).toNat * 4)).off + 2, none⟩ = some (.int .i64 ((rd_T24 t249 x29_1).f2)) ∧ w'.cell? ⟨(ad256.add ((x29_1).toNat * 4)).block, (ad256.add ((x29_1).toNat * 4)).off + 3, none⟩ = some (.int .i64 ((rd_T24 t249 x29_1).f3)) ∧ w'.cell? (ad257.add ((x29_1).toNat * 7)) = some (.int .u8 ((rd_T27 l0_6 x29_1).f0)) ∧ w'.cell? ⟨(ad257.add ((x29_1).toNat * 7)).block, (ad257.add ((x29_1).toNat * 7)).off + 1, none⟩ = some (.int .i64 ((rd_T27 l0_6 x29_1).f1.f0)) ∧ w'.cell? ⟨(ad257.add ((x29_1).toNat * 7)).block, (ad257.add ((x29_1).toNat * 7)).off + 2, none⟩ = some (.int .i64 ((rd_T27 l0_6 x29_1).f1.f1)) ∧ w'.cell? ⟨(ad257.add ((x29_1).toNat * 7)).block, (ad257.add ((x29_1).toNat * 7)).off + 3, none⟩ = some (.int .i64 ((rd_T27 l0_6 x29_1).f1.f2)) ∧ w'.cell? ⟨(ad257.add ((x29_1).toNat * 7)).block, (ad257.add ((x29_1).toNat * 7)).off + 4, none⟩ = some (.int .i64 ((rd_T27 l0_6 x29_1).f1.f3)) ∧ w'.cell? ⟨(ad257.add ((x29_1).toNat * 7)).block, (ad257.add ((x29_1).toNat * 7)).off + 5, none⟩ = some (.int .i64 ((rd_T27 l0_6 x29_1).f2)) ∧ w'.cell? ⟨(ad257.add ((x29_1).toNat * 7)).block, (ad257.add ((x29_1).toNat * 7)).off + 6, none⟩ = some (.slice A257_6 ((rd_T27 l0_6 x29_1).f3).length c257_6)) (ds := []) #[false, false, false, false, false, false, false, false, false, false, false] (by kernel_rfl) rfl rfl ⟨(blk_cell BK242.out 0).trans rfl, (blk_cell BK242.out 1).trans rfl, (blk_cell BK242.out 2).trans rfl, (blk_cell BK242.out 3).trans rfl, (blk_cell BK242.out 4).trans rfl, (blk_cell BK242.out 5).trans rfl, (blk_cell BK242.out 6).trans rfl, hx256_0, hx256_1, hx256_2, hx256_3, ((HB.out.cell (World.block_lt_of_cell? w _ hw257_0)).trans hw257_0), ((HB.out.cell (World.block_lt_of_cell? w _ hw257_1)).trans hw257_1), ((HB.out.cell (World.block_lt_of_cell? w _ hw257_2)).trans hw257_2), ((HB.out.cell (World.block_lt_of_cell? w _ hw257_3)).trans hw257_3), ((HB.out.cell (World.block_lt_of_cell? w _ hw257_4)).trans hw257_4), ((HB.out.cell (World.block_lt_of_cell? w _ hw257_5)).trans hw257_5), ((HB.out.cell (World.block_lt_of_cell? w _ hw257_6)).trans hw257_6)⟩ (fun hHeld => ?_); refine with_tabW sashref06_one.tab9 sashref06_one.bits9 (fun HT_ HW_ => ?_)
          generalize wr.drew = w25 at HO_4 HO_5 BK242 HB HR257_6 hx256_0 hx256_1 hx256_2 hx256_3 hx257_0 hx257_1 hx257_2 hx257_3 hx257_4 hx257_5 hx257_6 hHeld ⊢
          refine pu 0 (some 32) #[true, false, false, false, false, false, false, false, false, false, false] (h := ?_)
          refine pu 1 (some 33) #[true, true, false, false, false, false, false, false, false, false, false] (h := ?_)
          refine pu 2 (some 34) #[true, true, true, false, false, false, false, false, false, false, false] (h := ?_)
          refine pu 4 (some 36) #[true, true, true, false, true, false, false, false, false, false, false] (h := ?_)
          refine pu 6 (some 38) #[true, true, true, false, true, false, true, false, false, false, false] (h := ?_)
          refine tk 3 (some 35) #[true, true, true, true, true, false, true, false, false, false, false] (h := ?_)
          refine tk 5 (some 37) #[true, true, true, true, true, true, true, false, false, false, false] (h := ?_)
          refine pu 7 (some 39) #[true, true, true, true, true, true, true, true, false, false, false] (h := ?_)
          refine pu 8 (some 40) #[true, true, true, true, true, true, true, true, true, false, false] (h := ?_)
          refine tk 9 (some 41) #[true, true, true, true, true, true, true, true, true, true, false] (h := ?_)
          refine pu 10 (some 42) #[true, true, true, true, true, true, true, true, true, true, true] (h := ?_)
          refine done_ (done_of HT_.out (by kernel_rfl)) ?_
          try go_wp2
          go_roundg k1
          case measure => have := HK1.out; omega
          case rel => exact ⟨(wrap64 (x29_1 + 1)), mq39, H', ⟨mq47 HK1⟩, ⟨mq27 HO_4⟩, ⟨mq27 HO_5⟩, ⟨mq28 BK242⟩, ⟨kW⟩⟩
        ·rw [if_neg c20] at H
         exact absurd H (by simp)
       ·rw [if_neg c19] at H
        exact absurd H (by simp)
      ·rw [if_neg c18] at H
       exact absurd H (by simp)
     ·rw [if_neg c17] at H
      have c17b0 : decide (x29_1 < (t249.length : Int)) = false := decide_eq_false c17
      clear c17
      simp only [Option.some.injEq, Prod.mk.injEq] at H
      obtain ⟨rfl, rfl⟩ := H
      go_wp2
      go_ret2
      exact ⟨_, mq37, by (with_reducible repeat (first | apply Kd.V_alloc | apply Kd.V_drewN | apply Kd.V_drew)); exact Kd.V_mono HO_5.out (fun _ hk => hk.1), kW⟩
  ·replace c9 := Bool.eq_false_iff.mpr c9
   subst c9
   have H1 : (some (t252, false)) = some (r1, r2) := mq54
   clear H
   have H := H1
   clear H1
   simp only [Option.some.injEq, Prod.mk.injEq] at H
   obtain ⟨rfl, rfl⟩ := H
   go_enter Tryz.func62, Tryz.ntmps62
   try go_wp2_with (first | ((with_reducible refine gate_dst (N := 1) rfl ?_); refine bxe 1 #[.int .u8 a0_0, .int .i64 a0_1, .int .i64 a0_2, .int .i64 a0_3, .int .i64 a0_4, .int .i64 a0_5, .slice A0_6 l0_6.length c0_6] 27 (h := ?_); intro gb242 hg w26 hbox hb; have BK242 := ak (hbox); have GW242 := ak ((mq53 : w.heap.size ≤ gb242)); have GE242 := ak ((mq53 : w.heap.size ≤ gb242)); replace HB := ak (below_step kW hb); clear hb hbox hg; obtain ⟨hcz27_0, hcz27_1, hcz27_2, hcz27_3, hcz27_4, hcz27_5, hcz27_6⟩ := cz7 BK242; obtain ⟨hfz27_0, hfz27_1, hfz27_2, hfz27_3, hfz27_4, hfz27_5, hfz27_6⟩ := fz7 BK242))
   replace BK242 := ak (blk_drew BK242.out)
   replace HB := ak (below_drew1 HB.out)
   refine start_ (n := 15) (S := fun w' => w'.cell? ⟨gb242, 0, none⟩ = some (.int .u8 a0_0) ∧ w'.cell? ⟨gb242, 1, none⟩ = some (.int .i64 a0_1) ∧ w'.cell? ⟨gb242, 2, none⟩ = some (.int .i64 a0_2) ∧ w'.cell? ⟨gb242, 3, none⟩ = some (.int .i64 a0_3) ∧ w'.cell? ⟨gb242, 4, none⟩ = some (.int .i64 a0_4) ∧ w'.cell? ⟨gb242, 5, none⟩ = some (.int .i64 a0_5) ∧ w'.cell? ⟨gb242, 6, none⟩ = some (.slice A0_6 l0_6.length c0_6)) (ds := []) #[false, false, false, false, false, false, false, false, false, false, false, false, false, false, false] (by kernel_rfl) rfl rfl ⟨(blk_cell BK242.out 0).trans rfl, (blk_cell BK242.out 1).trans rfl, (blk_cell BK242.out 2).trans rfl, (blk_cell BK242.out 3).trans rfl, (blk_cell BK242.out 4).trans rfl, (blk_cell BK242.out 5).trans rfl, (blk_cell BK242.out 6).trans rfl⟩ (fun hHeld => ?_); refine with_tabW sashref06_one.tab3 sashref06_one.bits3 (fun HT_ HW_ => ?_)
   generalize w26.drew = w28 at BK242 HB hHeld ⊢
   refine pu 0 (some 13) #[true, false, false, false, false, false, false, false, false, false, false, false, false, false, false] (h := ?_)
   refine pu 2 (some 15) #[true, false, true, false, false, false, false, false, false, false, false, false, false, false, false] (h := ?_)
   refine tk 1 (some 14) #[true, true, true, false, false, false, false, false, false, false, false, false, false, false, false] (h := ?_)
   refine tk 3 (some 16) #[true, true, true, true, false, false, false, false, false, false, false, false, false, false, false] (h := ?_)
   refine pu 4 (some 17) #[true, true, true, true, true, false, false, false, false, false, false, false, false, false, false] (h := ?_)
   refine tk 5 (some 18) #[true, true, true, true, true, true, false, false, false, false, false, false, false, false, false] (h := ?_)
   refine one_ (i := 6) (N := some 19) #[true, true, true, true, true, true, true, false, false, false, false, false, false, false, false] rfl rfl (one_of HT_.out (by kernel_rfl)) (by decide) (fun K hK => ?_)
   refine goes_ Tryz.func91 (by kernel_rfl) rfl #[.agg #[.int .u8 a0_0, .int .i64 a0_1, .int .i64 a0_2, .int .i64 a0_3, .int .i64 a0_4, .int .i64 a0_5, .slice A0_6 l0_6.length c0_6]] (by rfl) rfl rfl mq2 ?_
   with_reducible refine (sashref06_Sizes.calls k a0_0 a0_1 a0_2 a0_3 a0_4 a0_5 _ _ l0_6 t246 _ ?side1 ?side2 A7.out).mono ?_
   (case side1 => repeat (first | exact (Kd.C_below HR0_6.out HB.out) | (with_reducible refine Kd.C_alloc ?_ _) | (with_reducible refine Kd.C_drewN ?_ _) | (with_reducible refine Kd.C_drew ?_)))
   (case side2 => exact HC0_6.out)
   rintro e w29 ⟨v247, rfl, ho0, hb⟩
   refine ⟨_, rfl, ?_⟩
   have HO248 := ak (Kd.R_lower (Kd.R_newM (M := fun k_ => (w.heap.size ≤ k_)) ho0 (below_size kW) (fun k_ h_ => h_)) (below_size kW))
   replace BK242 := (kB BK242 hb)
   replace HB := ak (below_step kW hb)
   (try clear hb)
   (try clear hb2)
   (try clear hk)
   (try clear hi)
   (try clear ho0)
   obtain ⟨Ao30, co30, eo30⟩ := Kd.R_slice HO248.out
   (first | subst eo30 | (injection eo30 with f1_ f2_ f3_; have f4_ := f1_.symm; have f5_ := f3_.symm; clear f1_ f2_ f3_; subst f4_; subst f5_))
   refine hK.out _ _ ⟨(blk_cell BK242.out 0).trans rfl, (blk_cell BK242.out 1).trans rfl, (blk_cell BK242.out 2).trans rfl, (blk_cell BK242.out 3).trans rfl, (blk_cell BK242.out 4).trans rfl, (blk_cell BK242.out 5).trans rfl, (blk_cell BK242.out 6).trans rfl⟩ (fun hHeld => ?_)
   clear hK K
   refine norm_ (a' := ?_) ?_ ?_
   rotate_left
   ·show Act.put _ (some 19) _ = _
    simp only [Act.put, List.setIfInBounds_toArray, List.set_cons_zero, List.set_cons_succ, i64_w, i32_w]
    rfl
   refine one_ (i := 7) (N := some 20) #[true, true, true, true, true, true, true, true, false, false, false, false, false, false, false] rfl rfl (one_of HT_.out (by kernel_rfl)) (by decide) (fun K hK => ?_)
   refine goes_ Tryz.func90 (by kernel_rfl) rfl #[.agg #[.int .i64 a0_1, .int .i64 a0_2, .int .i64 a0_3, .int .i64 a0_4], .int .u8 ((a0_0 - 1) % 256), .slice Ao30 t246.length co30] (by rfl) rfl rfl mq2 ?_
   with_reducible refine (sashref04_Cut.calls k a0_1 a0_2 a0_3 a0_4 ((a0_0 - 1) % 256) _ _ t246 t249 t252 false _ ?side1 ?side2 A8.out).mono ?_
   (case side1 => repeat (first | exact (Kd.R_reads' HO248.out).2.2 | (with_reducible refine Kd.C_alloc ?_ _) | (with_reducible refine Kd.C_drewN ?_ _) | (with_reducible refine Kd.C_drew ?_)))
   (case side2 => exact (Kd.R_reads' HO248.out).2.1)
   rintro e w31 ⟨v250, v253, rfl, ho0, ho1, hb⟩
   refine ⟨_, rfl, ?_⟩
   have HO251 := ak (Kd.V_lower (Kd.V_mono (ok' := fun k_ => (w.heap.size ≤ k_) ∧ some k_ ≠ (.slice Ao30 t246.length co30 : Value).ownBlock ∧ k_ ≠ gb242) ho0 (fun k_ hk_ => ⟨(Nat.le_trans (below_size kW) hk_), (Kd.fresh' (Kd.R_lt (kR HO248)) k_ hk_), (Kd.freshB (g := gb242) (o := .cells #[.int .u8 a0_0, .int .i64 a0_1, .int .i64 a0_2, .int .i64 a0_3, .int .i64 a0_4, .int .i64 a0_5, .slice A0_6 l0_6.length c0_6] 27 (0, 0)) (kA BK242) k_ hk_)⟩)) (below_size kW))
   have HO254 := ak (Kd.V_lower (Kd.V_mono (ok' := fun k_ => (w.heap.size ≤ k_) ∧ some k_ ≠ (.slice Ao30 t246.length co30 : Value).ownBlock ∧ k_ ≠ gb242) ho1 (fun k_ hk_ => ⟨(Nat.le_trans (below_size kW) hk_), (Kd.fresh' (Kd.R_lt (kR HO248)) k_ hk_), (Kd.freshB (g := gb242) (o := .cells #[.int .u8 a0_0, .int .i64 a0_1, .int .i64 a0_2, .int .i64 a0_3, .int .i64 a0_4, .int .i64 a0_5, .slice A0_6 l0_6.length c0_6] 27 (0, 0)) (kA BK242) k_ hk_)⟩)) (below_size kW))
   replace HO248 := ak (Kd.R_below (kR HO248) hb)
   replace BK242 := (kB BK242 hb)
   replace HB := ak (below_step kW hb)
   (try clear hb)
   (try clear hb2)
   (try clear hk)
   (try clear hi)
   (try clear ho0)
   (try clear ho1)
   refine hK.out _ _ ⟨(blk_cell BK242.out 0).trans rfl, (blk_cell BK242.out 1).trans rfl, (blk_cell BK242.out 2).trans rfl, (blk_cell BK242.out 3).trans rfl, (blk_cell BK242.out 4).trans rfl, (blk_cell BK242.out 5).trans rfl, (blk_cell BK242.out 6).trans rfl⟩ (fun hHeld => ?_)
   clear hK K
   refine norm_ (a' := ?_) ?_ ?_
   rotate_left
   ·show Act.put _ (some 20) _ = _
    simp only [Act.put, List.setIfInBounds_toArray, List.set_cons_zero, List.set_cons_succ, i64_w, i32_w]
    rfl
   refine pu 8 (some 12) #[true, true, true, true, true, true, true, true, true, false, false, false, false, false, false] (h := ?_)
   refine pu 9 (some 21) #[true, true, true, true, true, true, true, true, true, true, false, false, false, false, false] (h := ?_)
   refine pu 10 (some 22) #[true, true, true, true, true, true, true, true, true, true, true, false, false, false, false] (h := ?_)
   refine pu 11 (some 23) #[true, true, true, true, true, true, true, true, true, true, true, true, false, false, false] (h := ?_)
   refine pu 12 (some 4) #[true, true, true, true, true, true, true, true, true, true, true, true, true, false, false] (h := ?_)
   refine pu 13 (some 5) #[true, true, true, true, true, true, true, true, true, true, true, true, true, true, false] (h := ?_)
   refine pu 14 (some 6) #[true, true, true, true, true, true, true, true, true, true, true, true, true, true, true] (h := ?_)
   refine done_ (done_of HT_.out (by kernel_rfl)) ?_
   try go_wp2
   go_ret2
   exact ⟨_, mq37, by (with_reducible repeat (first | apply Kd.V_alloc | apply Kd.V_drewN | apply Kd.V_drew)); exact Kd.V_mono HO254.out (fun _ hk => hk.1), kW⟩
end Go.Proofs.YtkobpbbegalfpaaGreatDoor.PParseBodies
