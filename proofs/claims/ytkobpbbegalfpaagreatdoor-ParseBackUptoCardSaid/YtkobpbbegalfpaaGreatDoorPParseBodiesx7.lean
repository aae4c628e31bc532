/- Printed texts of this seat, cut to what is used. -/
import Derived.Test.YtkobpbbegalfpaaGreatDoorPsBase
import Derived.Test.YtkobpbbegalfpaaGreatDoorPParseBodiesx5
namespace Go.Proofs.YtkobpbbegalfpaaGreatDoor.PParseBodies
open Go.RowKit YtkobpbbegalfpaaGreatDoorW.PrintWords YtkobpbbegalfpaaGreatDoorW.PrintLast YtkobpbbegalfpaaGreatDoorW.PrintMore
attribute [local go_sem] max2_int min2_int max_two min_two max_three min_three max_four min_four
set_option linter.unusedVariables false
set_option linter.unusedSimpArgs false
mutual
def sashref04_Cut.j0 : Nat → Int → List Int → List (S24) → Bool → Int → Int → Int → Int → Option ((List (S24)) × (List (S24)) × Bool)
 | 0, _, _, _, _, _, _, _, _ => none
 | k + 1, x1, x2, x9, x31, x201000, x201001, x201002, x201003 => if x31 = true then (some (x9, x9, false)) else (if x1 = 2 then (sashref04_Cut.j1 k x1 x2 x9 x201003 x201000 x201001 x201002 x201003) else (sashref04_Cut.j1 k x1 x2 x9 x201002 x201000 x201001 x201002 x201003))
def sashref04_Cut.j1 : Nat → Int → List Int → List (S24) → Int → Int → Int → Int → Int → Option ((List (S24)) × (List (S24)) × Bool)
 | 0, _, _, _, _, _, _, _, _ => none
 | k + 1, x1, x2, x9, x10, x201000, x201001, x201002, x201003 => sashref04_Cut.l0 k x1 x2 x9 x10 (([] : List (S24))) (([] : List (S24))) 0 (x2.length : Int) 0 x201000 x201001 x201002 x201003
def sashref04_Cut.l0 : Nat → Int → List Int → List (S24) → Int → List (S24) → List (S24) → Int → Int → Int → Int → Int → Int → Int → Option ((List (S24)) × (List (S24)) × Bool)
 | 0, _, _, _, _, _, _, _, _, _, _, _, _, _ => none
 | k + 1, x1, x2, x9, x10, x11, x12, x13, x43, x44, x201000, x201001, x201002, x201003 => if x44 < x43 then (if x44 > 0 then (if x1 = 1 then (if x12.length < 4398046511104 then (sashref04_Cut.j3 k x1 x2 x9 x10 x11 (x12 ++ [(⟨wrap64 (x201000 + x13), x201001, 1, x201003⟩ : S24)]) (wrap64 (x13 + 1)) x44 x43 x44 x201000 x201001 x201002 x201003) else (none)) else (if x12.length < 4398046511104 then (sashref04_Cut.j3 k x1 x2 x9 x10 x11 (x12 ++ [(⟨x201000, wrap64 (x201001 + x13), x201002, 1⟩ : S24)]) (wrap64 (x13 + 1)) x44 x43 x44 x201000 x201001 x201002 x201003) else (none))) else (sashref04_Cut.j3 k x1 x2 x9 x10 x11 x12 x13 x44 x43 x44 x201000 x201001 x201002 x201003)) else (if x13 = x10 then (some (x11, x12, true)) else (some (x9, x9, false)))
def sashref04_Cut.j3 : Nat → Int → List Int → List (S24) → Int → List (S24) → List (S24) → Int → Int → Int → Int → Int → Int → Int → Int → Option ((List (S24)) × (List (S24)) × Bool)
 | 0, _, _, _, _, _, _, _, _, _, _, _, _, _, _ => none
 | k + 1, x1, x2, x9, x10, x11, x12, x13, x14, x43, x44, x201000, x201001, x201002, x201003 => if 0 ≤ x14 then (if x14 < (x2.length : Int) then (if (rd x2 x14) < 1 then (sashref04_Cut.j4 k x1 x2 x9 x10 x11 x12 x13 x14 x43 x44 true x201000 x201001 x201002 x201003) else (if (rd x2 x14) > x10 then (sashref04_Cut.j4 k x1 x2 x9 x10 x11 x12 x13 x14 x43 x44 true x201000 x201001 x201002 x201003) else (sashref04_Cut.j4 k x1 x2 x9 x10 x11 x12 x13 x14 x43 x44 (decide ((wrap64 (x13 + (rd x2 x14))) > x10)) x201000 x201001 x201002 x201003))) else (none)) else (none)
def sashref04_Cut.j4 : Nat → Int → List Int → List (S24) → Int → List (S24) → List (S24) → Int → Int → Int → Int → Bool → Int → Int → Int → Int → Option ((List (S24)) × (List (S24)) × Bool)
 | 0, _, _, _, _, _, _, _, _, _, _, _, _, _, _, _ => none
 | k + 1, x1, x2, x9, x10, x11, x12, x13, x14, x43, x44, x99, x201000, x201001, x201002, x201003 => if x99 = true then (some (x9, x9, false)) else (if x1 = 1 then (if 0 ≤ x14 then (if x14 < (x2.length : Int) then (if x11.length < 4398046511104 then (sashref04_Cut.l0 k x1 x2 x9 x10 (x11 ++ [(⟨wrap64 (x201000 + x13), x201001, rd x2 x14, x201003⟩ : S24)]) x12 (wrap64 (x13 + (rd x2 x14))) x43 (wrap64 (x44 + 1)) x201000 x201001 x201002 x201003) else (none)) else (none)) else (none)) else (if 0 ≤ x14 then (if x14 < (x2.length : Int) then (if x11.length < 4398046511104 then (sashref04_Cut.l0 k x1 x2 x9 x10 (x11 ++ [(⟨x201000, wrap64 (x201001 + x13), x201002, rd x2 x14⟩ : S24)]) x12 (wrap64 (x13 + (rd x2 x14))) x43 (wrap64 (x44 + 1)) x201000 x201001 x201002 x201003) else (none)) else (none)) else (none)))
end
def sashref04_Cut.f (k : Nat) (a0_0 : Int) (a0_1 : Int) (a0_2 : Int) (a0_3 : Int) (a1 : Int) (l2 : List Int) : Option ((List (S24)) × (List (S24)) × Bool) := (some (([] : List (S24)) : List (S24))).bind fun y201 => ((sashref04_May.f a0_0 a0_1 a0_2 a0_3).bind fun t204 => (if t204 = true then (if a1 < 1 then (sashref04_Cut.j0 k a1 l2 y201 true a0_0 a0_1 a0_2 a0_3) else (if a1 > 2 then (sashref04_Cut.j0 k a1 l2 y201 true a0_0 a0_1 a0_2 a0_3) else (sashref04_Cut.j0 k a1 l2 y201 ((l2.length : Int) == 0) a0_0 a0_1 a0_2 a0_3))) else (sashref04_Cut.j0 k a1 l2 y201 true a0_0 a0_1 a0_2 a0_3)))
def sashref04_Cut.T20 : Bool × List (List Nat × List Nat) := (true, [([], []), ([], []), ([1], [1]), ([], []), ([2, 3], [2, 3]), ([], []), ([5], [5]), ([], []), ([], []), ([7, 8], [7, 8]), ([9], [9]), ([], []), ([11], [11]), ([4, 6, 10, 12], [4, 6, 10, 12]), ([13], [13]), ([0, 14], [0, 14]), ([15, 15, 0, 1, 2, 3, 4, 5, 6, 7, 8, 9, 10, 11, 12, 13, 14, 15], [0, 15])])
def sashref04_Cut.B20 : List Nat := [0, 0, 2, 0, 14, 0, 32, 0, 0, 384, 896, 0, 2048, 8190, 16382, 32767, 65535]
theorem sashref04_Cut.tab20 : rtab .any (opsOf Tryz.f90 20) = sashref04_Cut.T20 := by kernel_rfl
theorem sashref04_Cut.bits20 : waitsOk sashref04_Cut.T20.2 sashref04_Cut.B20 = true := by kernel_rfl
def sashref04_Cut.T21 : Bool × List (List Nat × List Nat) := (true, [([], []), ([], []), ([1], [1]), ([], []), ([3], [3]), ([], []), ([4, 5], [4, 5]), ([], []), ([7], [7]), ([], []), ([], []), ([9, 10], [9, 10]), ([11], [11]), ([2, 6, 8, 12], [2, 6, 8, 12]), ([13], [13]), ([0, 14], [0, 14]), ([15, 15, 0, 1, 2, 3, 4, 5, 6, 7, 8, 9, 10, 11, 12, 13, 14, 15], [0, 15])])
def sashref04_Cut.B21 : List Nat := [0, 0, 2, 0, 8, 0, 56, 0, 128, 0, 0, 1536, 3584, 8190, 16382, 32767, 65535]
theorem sashref04_Cut.tab21 : rtab .any (opsOf Tryz.f90 21) = sashref04_Cut.T21 := by kernel_rfl
theorem sashref04_Cut.bits21 : waitsOk sashref04_Cut.T21.2 sashref04_Cut.B21 = true := by kernel_rfl
set_option maxHeartbeats 8000000 in
set_option maxRecDepth 100000 in
theorem sashref04_Cut.calls (k : Nat) (a0_0 : Int) (a0_1 : Int) (a0_2 : Int) (a0_3 : Int) (a1 : Int) (A2 : Option Addr) (c2 : Nat) (l2 : List Int) (r1 : List (S24)) (r2 : List (S24)) (r3 : Bool) (w : World) (hr2 : Kd.C (Kd.int .i64) w A2 l2.length l2) (hc2 : l2.length ≤ c2) (h : sashref04_Cut.f k a0_0 a0_1 a0_2 a0_3 a1 l2 = some (r1, r2, r3)) :
  Calls Tryz.prog 90 #[.agg #[.int .i64 a0_0, .int .i64 a0_1, .int .i64 a0_2, .int .i64 a0_3], .int .u8 a1, .slice A2 l2.length c2] w fun e w' => ∃ v0_ v1_ : Value, e = .returned (.tuple #[v0_, v1_, .bool r3]) ∧ Kd.V k24 24 w' w.heap.size (fun k_ => (w.heap.size ≤ k_)) v0_ r1 ∧ Kd.V k24 24 w' w.heap.size (fun k_ => (w.heap.size ≤ k_)) v1_ r2 ∧ Below w.heap.size w w' := by
 have hu24 := Tryz.underlying24
 have HR2 := ak hr2
 have HC2 := ak hc2
 clear hr2 hc2
 have HB := ak (Below.refl w.heap.size w)
 have H : ((some (([] : List (S24)) : List (S24))).bind fun y201 => ((sashref04_May.f a0_0 a0_1 a0_2 a0_3).bind fun t204 => (if t204 = true then (if a1 < 1 then (sashref04_Cut.j0 k a1 l2 y201 true a0_0 a0_1 a0_2 a0_3) else (if a1 > 2 then (sashref04_Cut.j0 k a1 l2 y201 true a0_0 a0_1 a0_2 a0_3) else (sashref04_Cut.j0 k a1 l2 y201 ((l2.length : Int) == 0) a0_0 a0_1 a0_2 a0_3))) else (sashref04_Cut.j0 k a1 l2 y201 true a0_0 a0_1 a0_2 a0_3)))) = some (r1, r2, r3) := h
 clear h
 obtain ⟨y201, hy201⟩ : ∃ y_ : List (S24), y_ = (([] : List (S24))) := ⟨_, rfl⟩
 replace H : ((sashref04_May.f a0_0 a0_1 a0_2 a0_3).bind fun t204 => (if t204 = true then (if a1 < 1 then (sashref04_Cut.j0 k a1 l2 y201 true a0_0 a0_1 a0_2 a0_3) else (if a1 > 2 then (sashref04_Cut.j0 k a1 l2 y201 true a0_0 a0_1 a0_2 a0_3) else (sashref04_Cut.j0 k a1 l2 y201 ((l2.length : Int) == 0) a0_0 a0_1 a0_2 a0_3))) else (sashref04_Cut.j0 k a1 l2 y201 true a0_0 a0_1 a0_2 a0_3))) = some (r1, r2, r3) := mq33 hy201
 have Ny201 := ak hy201
 clear hy201
 have HC4 := ak H
 clear H
 go_enter Tryz.func90, Tryz.ntmps90
 go_upto_region 2 with (first | ((with_reducible refine gate_dst (N := 3) rfl ?_); (try (refine gate_guard (by rfl) ?_; dsimp only)); refine bxe 3 #[.int .i64 a0_0, .int .i64 a0_1, .int .i64 a0_2, .int .i64 a0_3] 24 (h := ?_); intro gb200 hg w5 hbox hb; have BK200 := ak (hbox); have GW200 := ak ((mq53 : w.heap.size ≤ gb200)); have GE200 := ak ((mq53 : w.heap.size ≤ gb200)); replace HB := ak (below_step kW hb); clear hb hbox hg) | ((with_reducible refine gate_dst (N := 15) rfl ?_); (try (refine gate_guard (by rfl) ?_; dsimp only)); refine Kd.R_lit k24 _ 24 ?hg (N := 15) ?hd (xs := ([] : List (S24))) (inner := []) (ok := fun _ => True) (okp := fun _ => True) ?hr ?hp (fun _ hk => hk) trivial (Below.refl _ _) (Nat.le_refl _) (by simp) ?_; (case hd => rfl); (case hg => rfl); (case hr => first | (go_simp; done) | (go_simp; rfl)); (case hp => exact (Reps.none _ _)); intro v202 w6 ho7 hb hg_ hnew_; clear hg_ hnew_; (first | rw [← Ny201.out] at ho7 | (simp only [Int.reduceToNat] at ho7; rw [← Ny201.out] at ho7)); have HO203 := ak (Kd.R_lower (Kd.R_newB (Kd.R_newM (M := fun k_ => (w.heap.size ≤ k_)) ho7 (below_size kW) (fun k_ h_ => h_)) (g := gb200) (o := .cells #[.int .i64 a0_0, .int .i64 a0_1, .int .i64 a0_2, .int .i64 a0_3] 24 (0, 0)) (kA BK200)) (below_size kW)); replace BK200 := (kB BK200 hb); replace HB := ak (below_step kW hb); clear hb ho7))
 (try simp only [Act.put, List.setIfInBounds_toArray, List.set_cons_zero, List.set_cons_succ])
 go_cut [31] (fun v31 wc => ∃ (kq : Nat) (x31_3 : Bool), v31 = .bool x31_3 ∧ Aside0 (sashref04_Cut.j0 kq a1 l2 y201 x31_3 a0_0 a0_1 a0_2 a0_3 = some (r1, r2, r3)) ∧ Aside0 (kq ≤ k) ∧ Aside0 (Kd.R k24 24 wc w.heap.size (fun k_ => (w.heap.size ≤ k_) ∧ k_ ≠ gb200) v202 y201) ∧ Aside0 (wc.heap[gb200]? = some (.cells #[.int .i64 a0_0, .int .i64 a0_1, .int .i64 a0_2, .int .i64 a0_3] 24 (0, 0))) ∧ Aside0 (Below w.heap.size w wc))
 case first =>
  have H := HC4.out
  clear HC4
  replace H := Option.bind_eq_some_iff.mp H
  obtain ⟨t204, A80, H⟩ := H
  replace H : (if t204 = true then (if a1 < 1 then (sashref04_Cut.j0 k a1 l2 y201 true a0_0 a0_1 a0_2 a0_3) else (if a1 > 2 then (sashref04_Cut.j0 k a1 l2 y201 true a0_0 a0_1 a0_2 a0_3) else (sashref04_Cut.j0 k a1 l2 y201 ((l2.length : Int) == 0) a0_0 a0_1 a0_2 a0_3))) else (sashref04_Cut.j0 k a1 l2 y201 true a0_0 a0_1 a0_2 a0_3)) = some (r1, r2, r3) := H
  have A8 := ak A80
  clear A80
  by_cases c9 : t204 = true
  ·subst c9
   have H1 : (if a1 < 1 then (sashref04_Cut.j0 k a1 l2 y201 true a0_0 a0_1 a0_2 a0_3) else (if a1 > 2 then (sashref04_Cut.j0 k a1 l2 y201 true a0_0 a0_1 a0_2 a0_3) else (sashref04_Cut.j0 k a1 l2 y201 ((l2.length : Int) == 0) a0_0 a0_1 a0_2 a0_3))) = some (r1, r2, r3) := mq55
   clear H
   have H := H1
   clear H1
   by_cases c10 : a1 < 1
   ·rw [if_pos c10] at H
    have c10b0 : decide (a1 < 1) = true := decide_eq_true c10
    clear c10
    (first | rw [c10b0] | (simp only [i64_w, i32_w]; rw [c10b0]) | skip)
    have H' := ak H
    clear H
    obtain ⟨hcz11_0, hcz11_1, hcz11_2, hcz11_3⟩ := cz4 BK200
    obtain ⟨hfz11_0, hfz11_1, hfz11_2, hfz11_3⟩ := fz4 BK200
    go_wp2_with (first | ((with_reducible refine gate_callee (f := 81) rfl ?_); refine gol (some 17) Tryz.func81 #[.agg #[.int .i64 a0_0, .int .i64 a0_1, .int .i64 a0_2, .int .i64 a0_3]] (h := ?_); (with_reducible refine (sashref04_May.calls a0_0 a0_1 a0_2 a0_3 true _ A8.out).mono ?_); rintro e w12 ⟨rfl, hb⟩; refine ⟨_, rfl, ?_⟩; replace HO203 := ak (Kd.R_below (kR HO203) hb); replace BK200 := (kB BK200 hb); replace HB := ak (below_step kW hb); (try clear hb); (try clear hb2); (try clear hk); (try clear hi)))
    go_meet
    case rel => exact ⟨_, (true), mq39, H', ⟨mq36⟩, ⟨mq18 HO203⟩, ⟨mq28 BK200⟩, ⟨kW⟩⟩
   ·rw [if_neg c10] at H
    have c10b0 : decide (a1 < 1) = false := decide_eq_false c10
    clear c10
    (first | rw [c10b0] | (simp only [i64_w, i32_w]; rw [c10b0]) | skip)
    by_cases c13 : a1 > 2
    ·rw [if_pos c13] at H
     have c13b0 : decide (2 < a1) = true := decide_eq_true c13
     clear c13
     have H' := ak H
     clear H
     obtain ⟨hcz14_0, hcz14_1, hcz14_2, hcz14_3⟩ := cz4 BK200
     obtain ⟨hfz14_0, hfz14_1, hfz14_2, hfz14_3⟩ := fz4 BK200
     go_wp2_with (first | ((with_reducible refine gate_callee (f := 81) rfl ?_); refine gol (some 17) Tryz.func81 #[.agg #[.int .i64 a0_0, .int .i64 a0_1, .int .i64 a0_2, .int .i64 a0_3]] (h := ?_); (with_reducible refine (sashref04_May.calls a0_0 a0_1 a0_2 a0_3 true _ A8.out).mono ?_); rintro e w15 ⟨rfl, hb⟩; refine ⟨_, rfl, ?_⟩; replace HO203 := ak (Kd.R_below (kR HO203) hb); replace BK200 := (kB BK200 hb); replace HB := ak (below_step kW hb); (try clear hb); (try clear hb2); (try clear hk); (try clear hi)))
     go_meet
     case rel => exact ⟨_, (true), mq39, H', ⟨mq36⟩, ⟨mq18 HO203⟩, ⟨mq28 BK200⟩, ⟨kW⟩⟩
    ·rw [if_neg c13] at H
     have c13b0 : decide (2 < a1) = false := decide_eq_false c13
     clear c13
     have H' := ak H
     clear H
     obtain ⟨hcz16_0, hcz16_1, hcz16_2, hcz16_3⟩ := cz4 BK200
     obtain ⟨hfz16_0, hfz16_1, hfz16_2, hfz16_3⟩ := fz4 BK200
     go_wp2_with (first | ((with_reducible refine gate_callee (f := 81) rfl ?_); refine gol (some 17) Tryz.func81 #[.agg #[.int .i64 a0_0, .int .i64 a0_1, .int .i64 a0_2, .int .i64 a0_3]] (h := ?_); (with_reducible refine (sashref04_May.calls a0_0 a0_1 a0_2 a0_3 true _ A8.out).mono ?_); rintro e w17 ⟨rfl, hb⟩; refine ⟨_, rfl, ?_⟩; replace HO203 := ak (Kd.R_below (kR HO203) hb); replace BK200 := (kB BK200 hb); replace HB := ak (below_step kW hb); (try clear hb); (try clear hb2); (try clear hk); (try clear hi)))
     go_meet
     case rel => exact ⟨_, (((l2.length : Int) == 0)), mq39, H', ⟨mq36⟩, ⟨mq18 HO203⟩, ⟨mq28 BK200⟩, ⟨kW⟩⟩
  ·replace c9 := Bool.eq_false_iff.mpr c9
   subst c9
   have H1 : (sashref04_Cut.j0 k a1 l2 y201 true a0_0 a0_1 a0_2 a0_3) = some (r1, r2, r3) := mq54
   clear H
   have H := H1
   clear H1
   have H' := ak H
   clear H
   obtain ⟨hcz18_0, hcz18_1, hcz18_2, hcz18_3⟩ := cz4 BK200
   obtain ⟨hfz18_0, hfz18_1, hfz18_2, hfz18_3⟩ := fz4 BK200
   go_wp2_with (first | ((with_reducible refine gate_callee (f := 81) rfl ?_); refine gol (some 17) Tryz.func81 #[.agg #[.int .i64 a0_0, .int .i64 a0_1, .int .i64 a0_2, .int .i64 a0_3]] (h := ?_); (with_reducible refine (sashref04_May.calls a0_0 a0_1 a0_2 a0_3 false _ A8.out).mono ?_); rintro e w19 ⟨rfl, hb⟩; refine ⟨_, rfl, ?_⟩; replace HO203 := ak (Kd.R_below (kR HO203) hb); replace BK200 := (kB BK200 hb); replace HB := ak (below_step kW hb); (try clear hb); (try clear hb2); (try clear hk); (try clear hi)))
   go_meet
   case rel => exact ⟨_, (true), mq39, H', ⟨mq36⟩, ⟨mq18 HO203⟩, ⟨mq28 BK200⟩, ⟨kW⟩⟩
 case rest =>
  clear HC4
  obtain ⟨kq, x31_3, rfl, HA, HJ3, HO_9, BK200, HB⟩ := hcut
  cases kq with
  | zero => exact absurd HA.out (by simp [sashref04_Cut.j0])
  | succ kj3 =>
   have H := HA.out
   clear HA
   simp only [sashref04_Cut.j0] at H
   by_cases c20 : x31_3 = true
   ·subst c20
    have H1 : (some (y201, y201, false)) = some (r1, r2, r3) := mq55
    clear H
    have H := H1
    clear H1
    simp only [Option.some.injEq, Prod.mk.injEq] at H
    obtain ⟨rfl, rfl, rfl⟩ := H
    go_wp2
    go_ret3
    exact ⟨_, _, mq37, Kd.R_V (mq14 HO_9), Kd.R_V (mq14 HO_9), kW⟩
   ·replace c20 := Bool.eq_false_iff.mpr c20
    subst c20
    have H1 : (if a1 = 2 then (sashref04_Cut.j1 kj3 a1 l2 y201 a0_3 a0_0 a0_1 a0_2 a0_3) else (sashref04_Cut.j1 kj3 a1 l2 y201 a0_2 a0_0 a0_1 a0_2 a0_3)) = some (r1, r2, r3) := mq54
    clear H
    have H := H1
    clear H1
    have HC21 := ak H
    clear H
    obtain ⟨hcz22_0, hcz22_1, hcz22_2, hcz22_3⟩ := cz4 BK200
    obtain ⟨hfz22_0, hfz22_1, hfz22_2, hfz22_3⟩ := fz4 BK200
    go_upto_if 37 with (fail)
    go_cut [10] (fun v10 wc => ∃ (kq : Nat) (x10_20 : Int), v10 = .int .i64 x10_20 ∧ Aside0 (sashref04_Cut.j1 kq a1 l2 y201 x10_20 a0_0 a0_1 a0_2 a0_3 = some (r1, r2, r3)) ∧ Aside0 (kq ≤ kj3) ∧ Aside0 (Kd.R k24 24 wc w.heap.size (fun k_ => (w.heap.size ≤ k_) ∧ k_ ≠ gb200) v202 y201) ∧ Aside0 (wc.heap[gb200]? = some (.cells #[.int .i64 a0_0, .int .i64 a0_1, .int .i64 a0_2, .int .i64 a0_3] 24 (0, 0))) ∧ Aside0 (Below w.heap.size w wc))
    case first =>
     have H := HC21.out
     clear HC21
     by_cases c23 : a1 = 2
     ·rw [if_pos c23] at H
      have c23b0 : (a1 == 2) = true := beq_iff_eq.mpr c23
      have c23b1 : (a1 != 2) = false := bne_eq_false_iff_eq.mpr c23
      clear c23
      (first | rw [c23b0] | (simp only [i64_w, i32_w]; rw [c23b0]) | skip)
      have H' := ak H
      clear H
      obtain ⟨hcz24_0, hcz24_1, hcz24_2, hcz24_3⟩ := cz4 BK200
      obtain ⟨hfz24_0, hfz24_1, hfz24_2, hfz24_3⟩ := fz4 BK200
      go_wp2
      go_meet
      case rel => exact ⟨_, (a0_3), mq39, H', ⟨mq40 HJ3⟩, ⟨mq24 HO_9⟩, ⟨mq28 BK200⟩, ⟨kW⟩⟩
     ·rw [if_neg c23] at H
      have c23b0 : (a1 == 2) = false := beq_eq_false_iff_ne.mpr c23
      have c23b1 : (a1 != 2) = true := bne_iff_ne.mpr c23
      (first | rw [c23b0] | (simp only [i64_w, i32_w]; rw [c23b0]) | skip)
      have H' := ak H
      clear H
      go_wp2
      go_meet
      case rel => exact ⟨_, (a0_2), mq39, H', ⟨mq40 HJ3⟩, ⟨mq24 HO_9⟩, ⟨mq28 BK200⟩, ⟨kW⟩⟩
    case rest =>
     clear HC21
     clear hcz22_0 hcz22_1 hcz22_2 hcz22_3 hfz22_0 hfz22_1 hfz22_2 hfz22_3
     obtain ⟨kq, x10_20, rfl, HA, HJ20, HO_9, BK200, HB⟩ := hcut
     cases kq with
     | zero => exact absurd HA.out (by simp [sashref04_Cut.j1])
     | succ kj20 =>
      have H := HA.out
      clear HA
      simp only [sashref04_Cut.j1] at H
      obtain ⟨y205, hy205⟩ : ∃ y_ : List (S24), y_ = (([] : List (S24))) := ⟨_, rfl⟩
      replace H : (sashref04_Cut.l0 kj20 a1 l2 y201 x10_20 y205 (([] : List (S24))) 0 (l2.length : Int) 0 a0_0 a0_1 a0_2 a0_3) = some (r1, r2, r3) := mq33 hy205
      have Ny205 := ak hy205
      clear hy205
      obtain ⟨y208, hy208⟩ : ∃ y_ : List (S24), y_ = (([] : List (S24))) := ⟨_, rfl⟩
      replace H : (sashref04_Cut.l0 kj20 a1 l2 y201 x10_20 y205 y208 0 (l2.length : Int) 0 a0_0 a0_1 a0_2 a0_3) = some (r1, r2, r3) := mq33 hy208
      have Ny208 := ak hy208
      clear hy208
      have H' := ak H
      clear H
      go_wp2_with (first | ((with_reducible refine gate_dst (N := 40) rfl ?_); (try (refine gate_guard (by rfl) ?_; dsimp only)); refine Kd.R_lit k24 _ 24 ?hg (N := 40) ?hd (xs := ([] : List (S24))) (inner := []) (ok := fun _ => True) (okp := fun _ => True) ?hr ?hp (fun _ hk => hk) trivial (Below.refl _ _) (Nat.le_refl _) (by simp) ?_; (case hd => rfl); (case hg => rfl); (case hr => first | (go_simp; done) | (go_simp; rfl)); (case hp => exact (Reps.none _ _)); intro v206 w25 ho26 hb hg_ hnew_; clear hg_ hnew_; (first | rw [← Ny205.out] at ho26 | (simp only [Int.reduceToNat] at ho26; rw [← Ny205.out] at ho26)); have HO207 := ak (Kd.R_lower (Kd.R_newB (Kd.R_new' (Kd.R_newM (M := fun k_ => (w.heap.size ≤ k_)) ho26 (below_size kW) (fun k_ h_ => h_)) (Kd.R_lt (kR HO_9))) (g := gb200) (o := .cells #[.int .i64 a0_0, .int .i64 a0_1, .int .i64 a0_2, .int .i64 a0_3] 24 (0, 0)) (kA BK200)) (below_size kW)); replace HO_9 := ak (Kd.R_elder' (kR HO_9) (Kd.R_base ho26) hb); replace BK200 := (kB BK200 hb); replace HB := ak (below_step kW hb); clear hb ho26) | ((with_reducible refine gate_dst (N := 41) rfl ?_); (try (refine gate_guard (by rfl) ?_; dsimp only)); refine Kd.R_lit k24 _ 24 ?hg (N := 41) ?hd (xs := ([] : List (S24))) (inner := []) (ok := fun _ => True) (okp := fun _ => True) ?hr ?hp (fun _ hk => hk) trivial (Below.refl _ _) (Nat.le_refl _) (by simp) ?_; (case hd => rfl); (case hg => rfl); (case hr => first | (go_simp; done) | (go_simp; rfl)); (case hp => exact (Reps.none _ _)); intro v209 w27 ho28 hb hg_ hnew_; clear hg_ hnew_; (first | rw [← Ny208.out] at ho28 | (simp only [Int.reduceToNat] at ho28; rw [← Ny208.out] at ho28)); have HO210 := ak (Kd.R_lower (Kd.R_newB (Kd.R_new' (Kd.R_new' (Kd.R_newM (M := fun k_ => (w.heap.size ≤ k_)) ho28 (below_size kW) (fun k_ h_ => h_)) (Kd.R_lt (kR HO_9))) (Kd.R_lt (kR HO207))) (g := gb200) (o := .cells #[.int .i64 a0_0, .int .i64 a0_1, .int .i64 a0_2, .int .i64 a0_3] 24 (0, 0)) (kA BK200)) (below_size kW)); replace HO_9 := ak (Kd.R_elder' (kR HO_9) (Kd.R_base ho28) hb); replace HO207 := ak (Kd.R_elder' (kR HO207) (Kd.R_base ho28) hb); replace BK200 := (kB BK200 hb); replace HB := ak (below_step kW hb); clear hb ho28))
      go_loopg [11, 12, 13, 44] kj20 (fun kq v11 v12 v13 v44 w' => ∃ (x11_3 : List (S24)) (x12_3 : List (S24)) (x13_3 : Int) (x44_3 : Int), v13 = .int .i64 x13_3 ∧ v44 = .int .i64 x44_3 ∧ Aside0 (sashref04_Cut.l0 kq a1 l2 y201 x10_20 x11_3 x12_3 x13_3 (l2.length : Int) x44_3 a0_0 a0_1 a0_2 a0_3 = some (r1, r2, r3)) ∧ Aside0 (kq ≤ kj20) ∧ Aside0 (Kd.R k24 24 w' w.heap.size (fun k_ => (w.heap.size ≤ k_) ∧ some k_ ≠ (v11 : Value).ownBlock ∧ some k_ ≠ (v12 : Value).ownBlock ∧ k_ ≠ gb200) v202 y201) ∧ Aside0 (Kd.R k24 24 w' w.heap.size (fun k_ => (w.heap.size ≤ k_) ∧ some k_ ≠ (v202 : Value).ownBlock ∧ some k_ ≠ (v12 : Value).ownBlock ∧ k_ ≠ gb200) v11 x11_3) ∧ Aside0 (Kd.R k24 24 w' w.heap.size (fun k_ => (w.heap.size ≤ k_) ∧ some k_ ≠ (v202 : Value).ownBlock ∧ some k_ ≠ (v11 : Value).ownBlock ∧ k_ ≠ gb200) v12 x12_3) ∧ Aside0 (w'.heap[gb200]? = some (.cells #[.int .i64 a0_0, .int .i64 a0_1, .int .i64 a0_2, .int .i64 a0_3] 24 (0, 0))) ∧ Aside0 (Below w.heap.size w w'))
      case atStart => exact ⟨(y205), (y208), (0), (0), mq39, mq39, H', ⟨Nat.le_refl _⟩, ⟨by (with_reducible repeat (first | apply Kd.R_alloc | apply Kd.R_drewN | apply Kd.R_drew)); exact Kd.R_mono HO_9.out (fun _ hk => ⟨hk.1.1.1, ⟨hk.1.2, ⟨hk.2, hk.1.1.2⟩⟩⟩)⟩, ⟨by (with_reducible repeat (first | apply Kd.R_alloc | apply Kd.R_drewN | apply Kd.R_drew)); exact Kd.R_mono HO207.out (fun _ hk => ⟨hk.1.1.1.1, ⟨hk.1.1.2, ⟨hk.2, hk.1.2⟩⟩⟩)⟩, ⟨by (with_reducible repeat (first | apply Kd.R_alloc | apply Kd.R_drewN | apply Kd.R_drew)); exact Kd.R_mono HO210.out (fun _ hk => ⟨hk.1.1.1.1, ⟨hk.1.1.2, ⟨hk.1.2, hk.2⟩⟩⟩)⟩, ⟨mq28 BK200⟩, ⟨kW⟩⟩
      case round =>
       clear H'
       obtain ⟨x11_3, x12_3, x13_3, x44_3, rfl, rfl, HA, HK3, HO_9, HO_11, HO_12, BK200, HB⟩ := hrel
       cases gk with
       | zero => exact absurd HA.out (by simp [sashref04_Cut.l0])
       | succ k3 =>
        have H := HA.out
        clear HA
        simp only [sashref04_Cut.l0] at H
        by_cases c29 : x44_3 < (l2.length : Int)
        ·rw [if_pos c29] at H
         have c29b0 : decide (x44_3 < (l2.length : Int)) = true := decide_eq_true c29
         clear c29
         have HC30 := ak H
         clear H
         go_upto_if 48 with (fail)
         go_cut [12, 13] (fun v12 v13 wc => ∃ (kq : Nat) (x12_29 : List (S24)) (x13_29 : Int), v13 = .int .i64 x13_29 ∧ Aside0 (sashref04_Cut.j3 kq a1 l2 y201 x10_20 x11_3 x12_29 x13_29 x44_3 (l2.length : Int) x44_3 a0_0 a0_1 a0_2 a0_3 = some (r1, r2, r3)) ∧ Aside0 (kq ≤ k3) ∧ Aside0 (Kd.R k24 24 wc w.heap.size (fun k_ => (w.heap.size ≤ k_) ∧ some k_ ≠ (u11 : Value).ownBlock ∧ some k_ ≠ (v12 : Value).ownBlock ∧ k_ ≠ gb200) v202 y201) ∧ Aside0 (Kd.R k24 24 wc w.heap.size (fun k_ => (w.heap.size ≤ k_) ∧ some k_ ≠ (v202 : Value).ownBlock ∧ some k_ ≠ (v12 : Value).ownBlock ∧ k_ ≠ gb200) u11 x11_3) ∧ Aside0 (Kd.R k24 24 wc w.heap.size (fun k_ => (w.heap.size ≤ k_) ∧ some k_ ≠ (v202 : Value).ownBlock ∧ some k_ ≠ (u11 : Value).ownBlock ∧ k_ ≠ gb200) v12 x12_29) ∧ Aside0 (wc.heap[gb200]? = some (.cells #[.int .i64 a0_0, .int .i64 a0_1, .int .i64 a0_2, .int .i64 a0_3] 24 (0, 0))) ∧ Aside0 (Below w.heap.size w wc))
         case first =>
          have H := HC30.out
          clear HC30
          by_cases c31 : x44_3 > 0
          ·rw [if_pos c31] at H
           have c31b0 : decide (0 < x44_3) = true := decide_eq_true c31
           clear c31
           (first | rw [c31b0] | (simp only [i64_w, i32_w]; rw [c31b0]) | skip)
           by_cases c32 : a1 = 1
           ·rw [if_pos c32] at H
            have c32b0 : (a1 == 1) = true := beq_iff_eq.mpr c32
            have c32b1 : (a1 != 1) = false := bne_eq_false_iff_eq.mpr c32
            clear c32
            by_cases c33 : x12_3.length < 4398046511104
            ·rw [if_pos c33] at H
             have LMc33 := ak c33
             clear c33
             obtain ⟨y211, hy211⟩ : ∃ y_ : List (S24), y_ = (x12_3 ++ [(⟨wrap64 (a0_0 + x13_3), a0_1, 1, a0_3⟩ : S24)]) := ⟨_, rfl⟩
             replace H : (sashref04_Cut.j3 k3 a1 l2 y201 x10_20 x11_3 y211 (wrap64 (x13_3 + 1)) x44_3 (l2.length : Int) x44_3 a0_0 a0_1 a0_2 a0_3) = some (r1, r2, r3) := mq33 hy211
             have Ny211 := ak hy211
             clear hy211
             have H' := ak H
             clear H
             obtain ⟨hcz34_0, hcz34_1, hcz34_2, hcz34_3⟩ := cz4 BK200
             obtain ⟨hfz34_0, hfz34_1, hfz34_2, hfz34_3⟩ := fz4 BK200
             go_wp2_with (first | ((with_reducible refine gate_builtin (b := .append) (xs := #[.tmp 51, .tmp 61]) rfl ?_); (try (refine gate_guard (by rfl) ?_; dsimp only)); at_builtin; refine Kd.R_append k24 (w0 := w) w.heap.size rfl (.tmp 51) (.tmp 61) 73 24 (.agg #[(.int .i64 0), (.int .i64 0), (.int .i64 0), (.int .i64 0)]) 32 rfl Tryz.underlying73 info24 rfl (by decide) (by omega) u12 x12_3 (⟨wrap64 (a0_0 + x13_3), a0_1, 1, a0_3⟩ : S24) [.int .i64 (wrap64 (a0_0 + x13_3)), .int .i64 a0_1, .int .i64 1, .int .i64 a0_3] (fun k_ => (w.heap.size ≤ k_) ∧ some k_ ≠ (v202 : Value).ownBlock ∧ some k_ ≠ (u11 : Value).ownBlock ∧ k_ ≠ gb200) (fun _ => False) rfl rfl ?aP (fun _ hk => hk.elim) ?aF ?aO ?aB ?aS ?aL ?_; (case aP => exact k24_mkM _ _ _ (⟨wrap64 (a0_0 + x13_3), a0_1, 1, a0_3⟩ : S24)); (case aB => exact kW); (case aF => exact (fun k_ hk => ⟨(Nat.le_trans (below_size kW) hk), Kd.fresh' (Kd.R_lt (kR HO_9)) k_ hk, Kd.fresh' (Kd.R_lt (kR HO_11)) k_ hk, Kd.freshB (g := gb200) (o := .cells #[.int .i64 a0_0, .int .i64 a0_1, .int .i64 a0_2, .int .i64 a0_3] 24 (0, 0)) (kA BK200) k_ hk⟩)); (case aO => exact (kR HO_12)); (case aS => exact (below_size kW)); (case aL => have := LMc33.out; omega); intro v212 w35 ho hb hg hat; rw [← Ny211.out] at ho; replace HO_9 := ak (Kd.R_after (ok := (fun k_ => (w.heap.size ≤ k_) ∧ some k_ ≠ (u11 : Value).ownBlock ∧ k_ ≠ gb200)) (mq22 HO_9) hg hat); replace HO_11 := ak (Kd.R_after (ok := (fun k_ => (w.heap.size ≤ k_) ∧ some k_ ≠ (v202 : Value).ownBlock ∧ k_ ≠ gb200)) (mq22 HO_11) hg hat); replace BK200 := (kG BK200 hg (Kd.R_away HO_12.out (fun _ hk => hk.2.2.2))); replace HB := ak (hb); have HO213 := ak (ho); clear HO_12; clear ho hb hg hat))
             go_meet
             case rel => exact ⟨_, (y211), (wrap64 (x13_3 + 1)), mq39, H', ⟨mq42 HJ3 HJ20 HK3⟩, ⟨mq19 HO_9⟩, ⟨mq19 HO_11⟩, ⟨mq24 HO213⟩, ⟨mq28 BK200⟩, ⟨kW⟩⟩
            ·rw [if_neg c33] at H
             exact absurd H (by simp)
           ·rw [if_neg c32] at H
            have c32b0 : (a1 == 1) = false := beq_eq_false_iff_ne.mpr c32
            have c32b1 : (a1 != 1) = true := bne_iff_ne.mpr c32
            by_cases c36 : x12_3.length < 4398046511104
            ·rw [if_pos c36] at H
             have LMc36 := ak c36
             clear c36
             obtain ⟨y214, hy214⟩ : ∃ y_ : List (S24), y_ = (x12_3 ++ [(⟨a0_0, wrap64 (a0_1 + x13_3), a0_2, 1⟩ : S24)]) := ⟨_, rfl⟩
             replace H : (sashref04_Cut.j3 k3 a1 l2 y201 x10_20 x11_3 y214 (wrap64 (x13_3 + 1)) x44_3 (l2.length : Int) x44_3 a0_0 a0_1 a0_2 a0_3) = some (r1, r2, r3) := mq33 hy214
             have Ny214 := ak hy214
             clear hy214
             have H' := ak H
             clear H
             obtain ⟨hcz37_0, hcz37_1, hcz37_2, hcz37_3⟩ := cz4 BK200
             obtain ⟨hfz37_0, hfz37_1, hfz37_2, hfz37_3⟩ := fz4 BK200
             go_wp2_with (first | ((with_reducible refine gate_builtin (b := .append) (xs := #[.tmp 63, .tmp 73]) rfl ?_); (try (refine gate_guard (by rfl) ?_; dsimp only)); at_builtin; refine Kd.R_append k24 (w0 := w) w.heap.size rfl (.tmp 63) (.tmp 73) 73 24 (.agg #[(.int .i64 0), (.int .i64 0), (.int .i64 0), (.int .i64 0)]) 32 rfl Tryz.underlying73 info24 rfl (by decide) (by omega) u12 x12_3 (⟨a0_0, wrap64 (a0_1 + x13_3), a0_2, 1⟩ : S24) [.int .i64 a0_0, .int .i64 (wrap64 (a0_1 + x13_3)), .int .i64 a0_2, .int .i64 1] (fun k_ => (w.heap.size ≤ k_) ∧ some k_ ≠ (v202 : Value).ownBlock ∧ some k_ ≠ (u11 : Value).ownBlock ∧ k_ ≠ gb200) (fun _ => False) rfl rfl ?aP (fun _ hk => hk.elim) ?aF ?aO ?aB ?aS ?aL ?_; (case aP => exact k24_mkM _ _ _ (⟨a0_0, wrap64 (a0_1 + x13_3), a0_2, 1⟩ : S24)); (case aB => exact kW); (case aF => exact (fun k_ hk => ⟨(Nat.le_trans (below_size kW) hk), Kd.fresh' (Kd.R_lt (kR HO_9)) k_ hk, Kd.fresh' (Kd.R_lt (kR HO_11)) k_ hk, Kd.freshB (g := gb200) (o := .cells #[.int .i64 a0_0, .int .i64 a0_1, .int .i64 a0_2, .int .i64 a0_3] 24 (0, 0)) (kA BK200) k_ hk⟩)); (case aO => exact (kR HO_12)); (case aS => exact (below_size kW)); (case aL => have := LMc36.out; omega); intro v215 w38 ho hb hg hat; rw [← Ny214.out] at ho; replace HO_9 := ak (Kd.R_after (ok := (fun k_ => (w.heap.size ≤ k_) ∧ some k_ ≠ (u11 : Value).ownBlock ∧ k_ ≠ gb200)) (mq22 HO_9) hg hat); replace HO_11 := ak (Kd.R_after (ok := (fun k_ => (w.heap.size ≤ k_) ∧ some k_ ≠ (v202 : Value).ownBlock ∧ k_ ≠ gb200)) (mq22 HO_11) hg hat); replace BK200 := (kG BK200 hg (Kd.R_away HO_12.out (fun _ hk => hk.2.2.2))); replace HB := ak (hb); have HO216 := ak (ho); clear HO_12; clear ho hb hg hat))
             go_meet
             case rel => exact ⟨_, (y214), (wrap64 (x13_3 + 1)), mq39, H', ⟨mq42 HJ3 HJ20 HK3⟩, ⟨mq19 HO_9⟩, ⟨mq19 HO_11⟩, ⟨mq24 HO216⟩, ⟨mq28 BK200⟩, ⟨kW⟩⟩
            ·rw [if_neg c36] at H
             exact absurd H (by simp)
          ·rw [if_neg c31] at H
           have c31b0 : decide (0 < x44_3) = false := decide_eq_false c31
           clear c31
           (first | rw [c31b0] | (simp only [i64_w, i32_w]; rw [c31b0]) | skip)
           have H' := ak H
           clear H
           go_wp2
           go_meet
           case rel => exact ⟨_, (x12_3), (x13_3), mq39, H', ⟨mq42 HJ3 HJ20 HK3⟩, ⟨mq24 HO_9⟩, ⟨mq24 HO_11⟩, ⟨mq24 HO_12⟩, ⟨mq28 BK200⟩, ⟨kW⟩⟩
         case rest =>
          clear HC30
          clear c29b0
          obtain ⟨kq, x12_29, x13_29, rfl, HA, HJ29, HO_9, HO_11, HO_12, BK200, HB⟩ := hcut
          cases kq with
          | zero => exact absurd HA.out (by simp [sashref04_Cut.j3])
          | succ kj29 =>
           have H := HA.out
           clear HA
           simp only [sashref04_Cut.j3] at H
           have HC39 := ak H
           clear H
           go_upto_region 17 with (fail)
           go_cut [99] (fun v99 wc => ∃ (kq : Nat) (x99_38 : Bool), v99 = .bool x99_38 ∧ Aside0 (sashref04_Cut.j4 kq a1 l2 y201 x10_20 x11_3 x12_29 x13_29 x44_3 (l2.length : Int) x44_3 x99_38 a0_0 a0_1 a0_2 a0_3 = some (r1, r2, r3)) ∧ Aside0 (kq ≤ kj29) ∧ Aside0 (Kd.R k24 24 wc w.heap.size (fun k_ => (w.heap.size ≤ k_) ∧ some k_ ≠ (u11 : Value).ownBlock ∧ some k_ ≠ (u12 : Value).ownBlock ∧ k_ ≠ gb200) v202 y201) ∧ Aside0 (Kd.R k24 24 wc w.heap.size (fun k_ => (w.heap.size ≤ k_) ∧ some k_ ≠ (v202 : Value).ownBlock ∧ some k_ ≠ (u12 : Value).ownBlock ∧ k_ ≠ gb200) u11 x11_3) ∧ Aside0 (Kd.R k24 24 wc w.heap.size (fun k_ => (w.heap.size ≤ k_) ∧ some k_ ≠ (v202 : Value).ownBlock ∧ some k_ ≠ (u11 : Value).ownBlock ∧ k_ ≠ gb200) u12 x12_29) ∧ Aside0 (wc.heap[gb200]? = some (.cells #[.int .i64 a0_0, .int .i64 a0_1, .int .i64 a0_2, .int .i64 a0_3] 24 (0, 0))) ∧ Aside0 (Below w.heap.size w wc))
           case first =>
            have H := HC39.out
            clear HC39
            by_cases c40 : 0 ≤ x44_3
            ·rw [if_pos c40] at H
             have c40b0 : decide (0 ≤ x44_3) = true := decide_eq_true c40
             clear c40
             (first | rw [c40b0] | (simp only [i64_w, i32_w]; rw [c40b0]) | skip)
             by_cases c41 : x44_3 < (l2.length : Int)
             ·rw [if_pos c41] at H
              have c41b0 : decide (x44_3 < (l2.length : Int)) = true := decide_eq_true c41
              clear c41
              by_cases c42 : (rd l2 x44_3) < 1
              ·rw [if_pos c42] at H
               have c42b0 : decide ((rd l2 x44_3) < 1) = true := decide_eq_true c42
               clear c42
               have H' := ak H
               clear H
               have p217 : 0 ≤ (x44_3 : Int) := of_decide_eq_true mq34
               have q217 : x44_3 < (l2.length : Int) := of_decide_eq_true mq34
               obtain ⟨ad217, e217, hx217_0⟩ := Kd.at_int HR2.out x44_3 p217 q217
               cases e217
               replace hx217_0 := (HB.out.cell (World.block_lt_of_cell? w _ hx217_0)).trans hx217_0
               replace p217 := eq_true p217
               replace q217 := eq_true q217
               go_wp2
               go_meet
               case rel => exact ⟨_, (true), mq39, H', ⟨mq43 HJ3 HJ20 HK3 HJ29⟩, ⟨mq24 HO_9⟩, ⟨mq24 HO_11⟩, ⟨mq24 HO_12⟩, ⟨mq28 BK200⟩, ⟨kW⟩⟩
              ·rw [if_neg c42] at H
               have c42b0 : decide ((rd l2 x44_3) < 1) = false := decide_eq_false c42
               clear c42
               by_cases c43 : (rd l2 x44_3) > x10_20
               ·rw [if_pos c43] at H
                have c43b0 : decide (x10_20 < (rd l2 x44_3)) = true := decide_eq_true c43
                clear c43
                have H' := ak H
                clear H
                have p217 : 0 ≤ (x44_3 : Int) := of_decide_eq_true mq34
                have q217 : x44_3 < (l2.length : Int) := of_decide_eq_true mq34
                obtain ⟨ad217, e217, hx217_0⟩ := Kd.at_int HR2.out x44_3 p217 q217
                cases e217
                replace hx217_0 := (HB.out.cell (World.block_lt_of_cell? w _ hx217_0)).trans hx217_0
                replace p217 := eq_true p217
                replace q217 := eq_true q217
                have p218 : 0 ≤ (x44_3 : Int) := of_decide_eq_true mq34
                have q218 : x44_3 < (l2.length : Int) := of_decide_eq_true mq34
                obtain ⟨ad218, e218, hx218_0⟩ := Kd.at_int HR2.out x44_3 p218 q218
                obtain rfl : ad217 = ad218 := (by injection e218)
                replace hx218_0 := (HB.out.cell (World.block_lt_of_cell? w _ hx218_0)).trans hx218_0
                replace p218 := eq_true p218
                replace q218 := eq_true q218
                go_wp2
                go_meet
                case rel => exact ⟨_, (true), mq39, H', ⟨mq43 HJ3 HJ20 HK3 HJ29⟩, ⟨mq24 HO_9⟩, ⟨mq24 HO_11⟩, ⟨mq24 HO_12⟩, ⟨mq28 BK200⟩, ⟨kW⟩⟩
               ·rw [if_neg c43] at H
                have c43b0 : decide (x10_20 < (rd l2 x44_3)) = false := decide_eq_false c43
                clear c43
                have H' := ak H
                clear H
                have p217 : 0 ≤ (x44_3 : Int) := of_decide_eq_true mq34
                have q217 : x44_3 < (l2.length : Int) := of_decide_eq_true mq34
                obtain ⟨ad217, e217, hx217_0⟩ := Kd.at_int HR2.out x44_3 p217 q217
                cases e217
                replace hx217_0 := (HB.out.cell (World.block_lt_of_cell? w _ hx217_0)).trans hx217_0
                replace p217 := eq_true p217
                replace q217 := eq_true q217
                have p218 : 0 ≤ (x44_3 : Int) := of_decide_eq_true mq34
                have q218 : x44_3 < (l2.length : Int) := of_decide_eq_true mq34
                obtain ⟨ad218, e218, hx218_0⟩ := Kd.at_int HR2.out x44_3 p218 q218
                obtain rfl : ad217 = ad218 := (by injection e218)
                replace hx218_0 := (HB.out.cell (World.block_lt_of_cell? w _ hx218_0)).trans hx218_0
                replace p218 := eq_true p218
                replace q218 := eq_true q218
                have p219 : 0 ≤ (x44_3 : Int) := of_decide_eq_true mq34
                have q219 : x44_3 < (l2.length : Int) := of_decide_eq_true mq34
                obtain ⟨ad219, e219, hx219_0⟩ := Kd.at_int HR2.out x44_3 p219 q219
                obtain rfl : ad217 = ad219 := (by injection e219)
                replace hx219_0 := (HB.out.cell (World.block_lt_of_cell? w _ hx219_0)).trans hx219_0
                replace p219 := eq_true p219
                replace q219 := eq_true q219
                go_wp2
                go_meet
                case rel => exact ⟨_, (decide ((wrap64 (x13_29 + (rd l2 x44_3))) > x10_20)), mq39, H', ⟨mq43 HJ3 HJ20 HK3 HJ29⟩, ⟨mq24 HO_9⟩, ⟨mq24 HO_11⟩, ⟨mq24 HO_12⟩, ⟨mq28 BK200⟩, ⟨kW⟩⟩
             ·rw [if_neg c41] at H
              exact absurd H (by simp)
            ·rw [if_neg c40] at H
             exact absurd H (by simp)
           case rest =>
            clear HC39
            obtain ⟨kq, x99_38, rfl, HA, HJ38, HO_9, HO_11, HO_12, BK200, HB⟩ := hcut
            cases kq with
            | zero => exact absurd HA.out (by simp [sashref04_Cut.j4])
            | succ kj38 =>
             have H := HA.out
             clear HA
             simp only [sashref04_Cut.j4] at H
             by_cases c44 : x99_38 = true
             ·subst c44
              have H1 : (some (y201, y201, false)) = some (r1, r2, r3) := mq55
              clear H
              have H := H1
              clear H1
              simp only [Option.some.injEq, Prod.mk.injEq] at H
              obtain ⟨rfl, rfl, rfl⟩ := H
              go_wp2
              go_ret3
              exact ⟨_, _, mq37, Kd.R_V (mq14 HO_9), Kd.R_V (mq14 HO_9), kW⟩
             ·replace c44 := Bool.eq_false_iff.mpr c44
              subst c44
              have H1 : (if a1 = 1 then (if 0 ≤ x44_3 then (if x44_3 < (l2.length : Int) then (if x11_3.length < 4398046511104 then (sashref04_Cut.l0 kj38 a1 l2 y201 x10_20 (x11_3 ++ [(⟨wrap64 (a0_0 + x13_29), a0_1, rd l2 x44_3, a0_3⟩ : S24)]) x12_29 (wrap64 (x13_29 + (rd l2 x44_3))) (l2.length : Int) (wrap64 (x44_3 + 1)) a0_0 a0_1 a0_2 a0_3) else (none)) else (none)) else (none)) else (if 0 ≤ x44_3 then (if x44_3 < (l2.length : Int) then (if x11_3.length < 4398046511104 then (sashref04_Cut.l0 kj38 a1 l2 y201 x10_20 (x11_3 ++ [(⟨a0_0, wrap64 (a0_1 + x13_29), a0_2, rd l2 x44_3⟩ : S24)]) x12_29 (wrap64 (x13_29 + (rd l2 x44_3))) (l2.length : Int) (wrap64 (x44_3 + 1)) a0_0 a0_1 a0_2 a0_3) else (none)) else (none)) else (none))) = some (r1, r2, r3) := mq54
              clear H
              have H := H1
              clear H1
              by_cases c45 : a1 = 1
              ·rw [if_pos c45] at H
               have c45b0 : (a1 == 1) = true := beq_iff_eq.mpr c45
               have c45b1 : (a1 != 1) = false := bne_eq_false_iff_eq.mpr c45
               clear c45
               by_cases c46 : 0 ≤ x44_3
               ·rw [if_pos c46] at H
                have c46b0 : decide (0 ≤ x44_3) = true := decide_eq_true c46
                clear c46
                by_cases c47 : x44_3 < (l2.length : Int)
                ·rw [if_pos c47] at H
                 have c47b0 : decide (x44_3 < (l2.length : Int)) = true := decide_eq_true c47
                 clear c47
                 by_cases c48 : x11_3.length < 4398046511104
                 ·rw [if_pos c48] at H
                  have LMc48 := ak c48
                  clear c48
                  obtain ⟨y221, hy221⟩ : ∃ y_ : List (S24), y_ = (x11_3 ++ [(⟨wrap64 (a0_0 + x13_29), a0_1, rd l2 x44_3, a0_3⟩ : S24)]) := ⟨_, rfl⟩
                  replace H : (sashref04_Cut.l0 kj38 a1 l2 y201 x10_20 y221 x12_29 (wrap64 (x13_29 + (rd l2 x44_3))) (l2.length : Int) (wrap64 (x44_3 + 1)) a0_0 a0_1 a0_2 a0_3) = some (r1, r2, r3) := mq33 hy221
                  have Ny221 := ak hy221
                  clear hy221
                  have H' := ak H
                  clear H
                  try go_wp2
                  replace HO_9 := ak (Kd.R_drew HO_9.out)
                  replace HO_11 := ak (Kd.R_drew HO_11.out)
                  replace HO_12 := ak (Kd.R_drew HO_12.out)
                  replace BK200 := ak (blk_drew BK200.out)
                  replace HB := ak (below_drew1 HB.out)
                  have p220 : 0 ≤ (x44_3 : Int) := of_decide_eq_true mq34
                  have q220 : x44_3 < (l2.length : Int) := of_decide_eq_true mq34
                  obtain ⟨ad220, e220, hx220_0⟩ := Kd.at_int HR2.out x44_3 p220 q220
                  have hw220_0 := hx220_0
                  cases e220
                  replace hx220_0 := (HB.out.cell (World.block_lt_of_cell? w _ hx220_0)).trans hx220_0
                  replace p220 := eq_true p220
                  replace q220 := eq_true q220
                  refine start_ (n := 17) (S := fun w' => w'.cell? ⟨gb200, 0, none⟩ = some (.int .i64 a0_0) ∧ w'.cell? ⟨gb200, 1, none⟩ = some (.int .i64 a0_1) ∧ w'.cell? ⟨gb200, 2, none⟩ = some (.int .i64 a0_2) ∧ w'.cell? ⟨gb200, 3, none⟩ = some (.int .i64 a0_3) ∧ w'.cell? (ad220.add (x44_3).toNat) = some (.int .i64 (rd l2 x44_3))) (ds := []) #[false, false, false, false, false, false, false, false, false, false, false, false, false, false, false, false, false] (by kernel_rfl) rfl rfl ⟨(blk_cell BK200.out 0).trans rfl, (blk_cell BK200.out 1).trans rfl, (blk_cell BK200.out 2).trans rfl, (blk_cell BK200.out 3).trans rfl, ((HB.out.cell (World.block_lt_of_cell? w _ hw220_0)).trans hw220_0)⟩ (fun hHeld => ?_); refine with_tabW sashref04_Cut.tab20 sashref04_Cut.bits20 (fun HT_ HW_ => ?_)
                  generalize wc.drew = w49 at HO_9 HO_11 HO_12 BK200 HB hx220_0 hHeld ⊢
                  refine pu 0 (some 104) #[true, false, false, false, false, false, false, false, false, false, false, false, false, false, false, false, false] (h := ?_)
                  refine pu 1 (some 105) #[true, true, false, false, false, false, false, false, false, false, false, false, false, false, false, false, false] (h := ?_)
                  refine pu 3 (some 107) #[true, true, false, true, false, false, false, false, false, false, false, false, false, false, false, false, false] (h := ?_)
                  refine pu 5 (some 109) #[true, true, false, true, false, true, false, false, false, false, false, false, false, false, false, false, false] (h := ?_)
                  refine pu 7 (some 111) #[true, true, false, true, false, true, false, true, false, false, false, false, false, false, false, false, false] (h := ?_)
                  refine pu 8 (some 112) #[true, true, false, true, false, true, false, true, true, false, false, false, false, false, false, false, false] (h := ?_)
                  refine pu 9 (some 113) #[true, true, false, true, false, true, false, true, true, true, false, false, false, false, false, false, false] (h := ?_)
                  refine pu 11 (some 115) #[true, true, false, true, false, true, false, true, true, true, false, true, false, false, false, false, false] (h := ?_)
                  refine tk 2 (some 106) #[true, true, true, true, false, true, false, true, true, true, false, true, false, false, false, false, false] (h := ?_)
                  refine pu 4 (some 108) #[true, true, true, true, true, true, false, true, true, true, false, true, false, false, false, false, false] (h := ?_)
                  refine tk 6 (some 110) #[true, true, true, true, true, true, true, true, true, true, false, true, false, false, false, false, false] (h := ?_)
                  refine tk 10 (some 114) #[true, true, true, true, true, true, true, true, true, true, true, true, false, false, false, false, false] (h := ?_)
                  refine tk 12 (some 116) #[true, true, true, true, true, true, true, true, true, true, true, true, true, false, false, false, false] (h := ?_)
                  refine pu 13 (some 117) #[true, true, true, true, true, true, true, true, true, true, true, true, true, true, false, false, false] (h := ?_)
                  refine one_ (i := 14) (N := some 118) #[true, true, true, true, true, true, true, true, true, true, true, true, true, true, true, false, false] rfl rfl (one_of HT_.out (by kernel_rfl)) (by decide) (fun K hK => ?_)
                  refine value_ (w1 := ?_) (v := ?_) (by rfl) rfl ?_ ?_
                  rotate_left 2
                  ·go_simp
                   constructor
                   ·rfl
                   ·rfl
                  refine hK.out _ _ ⟨(blk_cell (blk_alloc BK200.out _) 0).trans rfl, (blk_cell (blk_alloc BK200.out _) 1).trans rfl, (blk_cell (blk_alloc BK200.out _) 2).trans rfl, (blk_cell (blk_alloc BK200.out _) 3).trans rfl, (World.cell?_alloc_lt _ _ _ (World.block_lt_of_cell? _ _ (((HB.out.cell (World.block_lt_of_cell? w _ hw220_0)).trans hw220_0)))).trans (((HB.out.cell (World.block_lt_of_cell? w _ hw220_0)).trans hw220_0))⟩ (fun hHeld => ?_)
                  clear hK K
                  refine norm_ (a' := ?_) ?_ ?_
                  rotate_left
                  ·show Act.put _ (some 118) _ = _
                   simp only [Act.put, List.setIfInBounds_toArray, List.set_cons_zero, List.set_cons_succ, i64_w, i32_w]
                   rfl
                  refine one_ (i := 15) (N := some 119) #[true, true, true, true, true, true, true, true, true, true, true, true, true, true, true, true, false] rfl rfl (one_of HT_.out (by kernel_rfl)) (by decide) (fun K hK => ?_)
                  refine Kd.R_append_step k24 (w0 := w) w.heap.size (by rfl) (.tmp 104) (.tmp 118) 73 24 (.agg #[(.int .i64 0), (.int .i64 0), (.int .i64 0), (.int .i64 0)]) 32 rfl Tryz.underlying73 info24 rfl (by decide) (by omega) u11 x11_3 (⟨wrap64 (a0_0 + x13_29), a0_1, rd l2 x44_3, a0_3⟩ : S24) [.int .i64 (wrap64 (a0_0 + x13_29)), .int .i64 a0_1, .int .i64 (rd l2 x44_3), .int .i64 a0_3] (fun k_ => (w.heap.size ≤ k_) ∧ some k_ ≠ (v202 : Value).ownBlock ∧ some k_ ≠ (u12 : Value).ownBlock ∧ k_ ≠ gb200) (fun _ => False) rfl rfl ?aP (fun _ hk => hk.elim) ?aF ?aO ?aB ?aS ?aL ?_
                  (case aP => exact k24_mkM _ _ _ (⟨wrap64 (a0_0 + x13_29), a0_1, rd l2 x44_3, a0_3⟩ : S24))
                  (case aB => exact kW)
                  (case aF => exact (fun k_ hk => ⟨(Nat.le_trans (below_size kW) hk), Kd.fresh' (Kd.R_lt (kR HO_9)) k_ hk, Kd.fresh' (Kd.R_lt (kR HO_12)) k_ hk, Kd.freshB (g := gb200) (o := .cells #[.int .i64 a0_0, .int .i64 a0_1, .int .i64 a0_2, .int .i64 a0_3] 24 (0, 0)) (kA BK200) k_ hk⟩))
                  (case aO => exact (kR HO_11))
                  (case aS => exact (below_size kW))
                  (case aL => have := LMc48.out; omega)
                  intro v222 w50 ho hb hg hat
                  rw [← Ny221.out] at ho
                  replace HO_9 := ak (Kd.R_after (ok := (fun k_ => (w.heap.size ≤ k_) ∧ some k_ ≠ (u12 : Value).ownBlock ∧ k_ ≠ gb200)) (mq23 HO_9) hg hat)
                  replace HO_12 := ak (Kd.R_after (ok := (fun k_ => (w.heap.size ≤ k_) ∧ some k_ ≠ (v202 : Value).ownBlock ∧ k_ ≠ gb200)) (mq22 HO_12) hg hat)
                  replace BK200 := (kG BK200 hg (Kd.R_away HO_11.out (fun _ hk => hk.2.2.2)))
                  replace HB := ak (hb)
                  have HO223 := ak (ho)
                  clear HO_11
                  clear ho hb hg hat
                  refine hK.out _ _ ⟨(blk_cell BK200.out 0).trans rfl, (blk_cell BK200.out 1).trans rfl, (blk_cell BK200.out 2).trans rfl, (blk_cell BK200.out 3).trans rfl, ((HB.out.cell (World.block_lt_of_cell? w _ hw220_0)).trans hw220_0)⟩ (fun hHeld => ?_)
                  clear hK K
                  refine norm_ (a' := ?_) ?_ ?_
                  rotate_left
                  ·show Act.put _ (some 119) _ = _
                   simp only [Act.put, List.setIfInBounds_toArray, List.set_cons_zero, List.set_cons_succ, i64_w, i32_w]
                   rfl
                  refine pu 16 (some 11) #[true, true, true, true, true, true, true, true, true, true, true, true, true, true, true, true, true] (h := ?_)
                  refine done_ (done_of HT_.out (by kernel_rfl)) ?_
                  have p224 : 0 ≤ (x44_3 : Int) := of_decide_eq_true mq34
                  have q224 : x44_3 < (l2.length : Int) := of_decide_eq_true mq34
                  obtain ⟨ad224, e224, hx224_0⟩ := Kd.at_int HR2.out x44_3 p224 q224
                  obtain rfl : ad220 = ad224 := (by injection e224)
                  replace hx224_0 := (HB.out.cell (World.block_lt_of_cell? w _ hx224_0)).trans hx224_0
                  replace p224 := eq_true p224
                  replace q224 := eq_true q224
                  try go_wp2
                  go_roundg kj38
                  case measure => have := HJ3.out; have := HJ20.out; have := HK3.out; have := HJ29.out; have := HJ38.out; omega
                  case rel => exact ⟨(y221), (x12_29), (wrap64 (x13_29 + (rd l2 x44_3))), (wrap64 (x44_3 + 1)), mq39, mq39, H', ⟨mq44 HJ3 HJ20 HK3 HJ29 HJ38⟩, ⟨mq20 HO_9⟩, ⟨mq24 HO223⟩, ⟨mq19 HO_12⟩, ⟨mq28 BK200⟩, ⟨kW⟩⟩
                 ·rw [if_neg c48] at H
                  exact absurd H (by simp)
                ·rw [if_neg c47] at H
                 exact absurd H (by simp)
               ·rw [if_neg c46] at H
                exact absurd H (by simp)
              ·rw [if_neg c45] at H
               have c45b0 : (a1 == 1) = false := beq_eq_false_iff_ne.mpr c45
               have c45b1 : (a1 != 1) = true := bne_iff_ne.mpr c45
               by_cases c51 : 0 ≤ x44_3
               ·rw [if_pos c51] at H
                have c51b0 : decide (0 ≤ x44_3) = true := decide_eq_true c51
                clear c51
                by_cases c52 : x44_3 < (l2.length : Int)
                ·rw [if_pos c52] at H
                 have c52b0 : decide (x44_3 < (l2.length : Int)) = true := decide_eq_true c52
                 clear c52
                 by_cases c53 : x11_3.length < 4398046511104
                 ·rw [if_pos c53] at H
                  have LMc53 := ak c53
                  clear c53
                  obtain ⟨y226, hy226⟩ : ∃ y_ : List (S24), y_ = (x11_3 ++ [(⟨a0_0, wrap64 (a0_1 + x13_29), a0_2, rd l2 x44_3⟩ : S24)]) := ⟨_, rfl⟩
                  replace H : (sashref04_Cut.l0 kj38 a1 l2 y201 x10_20 y226 x12_29 (wrap64 (x13_29 + (rd l2 x44_3))) (l2.length : Int) (wrap64 (x44_3 + 1)) a0_0 a0_1 a0_2 a0_3) = some (r1, r2, r3) := mq33 hy226
                  have Ny226 := ak hy226
                  clear hy226
                  have H' := ak H
                  clear H
                  try go_wp2
                  replace HO_9 := ak (Kd.R_drew HO_9.out)
                  replace HO_11 := ak (Kd.R_drew HO_11.out)
                  replace HO_12 := ak (Kd.R_drew HO_12.out)
                  replace BK200 := ak (blk_drew BK200.out)
                  replace HB := ak (below_drew1 HB.out)
                  have p225 : 0 ≤ (x44_3 : Int) := of_decide_eq_true mq34
                  have q225 : x44_3 < (l2.length : Int) := of_decide_eq_true mq34
                  obtain ⟨ad225, e225, hx225_0⟩ := Kd.at_int HR2.out x44_3 p225 q225
                  have hw225_0 := hx225_0
                  cases e225
                  replace hx225_0 := (HB.out.cell (World.block_lt_of_cell? w _ hx225_0)).trans hx225_0
                  replace p225 := eq_true p225
                  replace q225 := eq_true q225
                  refine start_ (n := 17) (S := fun w' => w'.cell? ⟨gb200, 0, none⟩ = some (.int .i64 a0_0) ∧ w'.cell? ⟨gb200, 1, none⟩ = some (.int .i64 a0_1) ∧ w'.cell? ⟨gb200, 2, none⟩ = some (.int .i64 a0_2) ∧ w'.cell? ⟨gb200, 3, none⟩ = some (.int .i64 a0_3) ∧ w'.cell? (ad225.add (x44_3).toNat) = some (.int .i64 (rd l2 x44_3))) (ds := []) #[false, false, false, false, false, false, false, false, false, false, false, false, false, false, false, false, false] (by kernel_rfl) rfl rfl ⟨(blk_cell BK200.out 0).trans rfl, (blk_cell BK200.out 1).trans rfl, (blk_cell BK200.out 2).trans rfl, (blk_cell BK200.out 3).trans rfl, ((HB.out.cell (World.block_lt_of_cell? w _ hw225_0)).trans hw225_0)⟩ (fun hHeld => ?_); refine with_tabW sashref04_Cut.tab21 sashref04_Cut.bits21 (fun HT_ HW_ => ?_)
                  generalize wc.drew = w54 at HO_9 HO_11 HO_12 BK200 HB hx225_0 hHeld ⊢
                  refine pu 0 (some 120) #[true, false, false, false, false, false, false, false, false, false, false, false, false, false, false, false, false] (h := ?_)
                  refine pu 1 (some 121) #[true, true, false, false, false, false, false, false, false, false, false, false, false, false, false, false, false] (h := ?_)
                  refine pu 3 (some 123) #[true, true, false, true, false, false, false, false, false, false, false, false, false, false, false, false, false] (h := ?_)
                  refine pu 5 (some 125) #[true, true, false, true, false, true, false, false, false, false, false, false, false, false, false, false, false] (h := ?_)
                  refine pu 7 (some 127) #[true, true, false, true, false, true, false, true, false, false, false, false, false, false, false, false, false] (h := ?_)
                  refine pu 9 (some 129) #[true, true, false, true, false, true, false, true, false, true, false, false, false, false, false, false, false] (h := ?_)
                  refine pu 10 (some 130) #[true, true, false, true, false, true, false, true, false, true, true, false, false, false, false, false, false] (h := ?_)
                  refine pu 11 (some 131) #[true, true, false, true, false, true, false, true, false, true, true, true, false, false, false, false, false] (h := ?_)
                  refine tk 2 (some 122) #[true, true, true, true, false, true, false, true, false, true, true, true, false, false, false, false, false] (h := ?_)
                  refine tk 4 (some 124) #[true, true, true, true, true, true, false, true, false, true, true, true, false, false, false, false, false] (h := ?_)
                  refine pu 6 (some 126) #[true, true, true, true, true, true, true, true, false, true, true, true, false, false, false, false, false] (h := ?_)
                  refine tk 8 (some 128) #[true, true, true, true, true, true, true, true, true, true, true, true, false, false, false, false, false] (h := ?_)
                  refine tk 12 (some 132) #[true, true, true, true, true, true, true, true, true, true, true, true, true, false, false, false, false] (h := ?_)
                  refine pu 13 (some 133) #[true, true, true, true, true, true, true, true, true, true, true, true, true, true, false, false, false] (h := ?_)
                  refine one_ (i := 14) (N := some 134) #[true, true, true, true, true, true, true, true, true, true, true, true, true, true, true, false, false] rfl rfl (one_of HT_.out (by kernel_rfl)) (by decide) (fun K hK => ?_)
                  refine value_ (w1 := ?_) (v := ?_) (by rfl) rfl ?_ ?_
                  rotate_left 2
                  ·go_simp
                   constructor
                   ·rfl
                   ·rfl
                  refine hK.out _ _ ⟨(blk_cell (blk_alloc BK200.out _) 0).trans rfl, (blk_cell (blk_alloc BK200.out _) 1).trans rfl, (blk_cell (blk_alloc BK200.out _) 2).trans rfl, (blk_cell (blk_alloc BK200.out _) 3).trans rfl, (World.cell?_alloc_lt _ _ _ (World.block_lt_of_cell? _ _ (((HB.out.cell (World.block_lt_of_cell? w _ hw225_0)).trans hw225_0)))).trans (((HB.out.cell (World.block_lt_of_cell? w _ hw225_0)).trans hw225_0))⟩ (fun hHeld => ?_)
                  clear hK K
                  refine norm_ (a' := ?_) ?_ ?_
                  rotate_left
                  ·show Act.put _ (some 134) _ = _
                   simp only [Act.put, List.setIfInBounds_toArray, List.set_cons_zero, List.set_cons_succ, i64_w, i32_w]
                   rfl
                  refine one_ (i := 15) (N := some 135) #[true, true, true, true, true, true, true, true, true, true, true, true, true, true, true, true, false] rfl rfl (one_of HT_.out (by kernel_rfl)) (by decide) (fun K hK => ?_)
                  refine Kd.R_append_step k24 (w0 := w) w.heap.size (by rfl) (.tmp 120) (.tmp 134) 73 24 (.agg #[(.int .i64 0), (.int .i64 0), (.int .i64 0), (.int .i64 0)]) 32 rfl Tryz.underlying73 info24 rfl (by decide) (by omega) u11 x11_3 (⟨a0_0, wrap64 (a0_1 + x13_29), a0_2, rd l2 x44_3⟩ : S24) [.int .i64 a0_0, .int .i64 (wrap64 (a0_1 + x13_29)), .int .i64 a0_2, .int .i64 (rd l2 x44_3)] (fun k_ => (w.heap.size ≤ k_) ∧ some k_ ≠ (v202 : Value).ownBlock ∧ some k_ ≠ (u12 : Value).ownBlock ∧ k_ ≠ gb200) (fun _ => False) rfl rfl ?aP (fun _ hk => hk.elim) ?aF ?aO ?aB ?aS ?aL ?_
                  (case aP => exact k24_mkM _ _ _ (⟨a0_0, wrap64 (a0_1 + x13_29), a0_2, rd l2 x44_3⟩ : S24))
                  (case aB => exact kW)
                  (case aF => exact (fun k_ hk => ⟨(Nat.le_trans (below_size kW) hk), Kd.fresh' (Kd.R_lt (kR HO_9)) k_ hk, Kd.fresh' (Kd.R_lt (kR HO_12)) k_ hk, Kd.freshB (g := gb200) (o := .cells #[.int .i64 a0_0, .int .i64 a0_1, .int .i64 a0_2, .int .i64 a0_3] 24 (0, 0)) (kA BK200) k_ hk⟩))
                  (case aO => exact (kR HO_11))
                  (case aS => exact (below_size kW))
                  (case aL => have := LMc53.out; omega)
                  intro v227 w55 ho hb hg hat
                  rw [← Ny226.out] at ho
                  replace HO_9 := ak (Kd.R_after (ok := (fun k_ => (w.heap.size ≤ k_) ∧ some k_ ≠ (u12 : Value).ownBlock ∧ k_ ≠ gb200)) (mq23 HO_9) hg hat)
                  replace HO_12 := ak (Kd.R_after (ok := (fun k_ => (w.heap.size ≤ k_) ∧ some k_ ≠ (v202 : Value).ownBlock ∧ k_ ≠ gb200)) (mq22 HO_12) hg hat)
                  replace BK200 := (kG BK200 hg (Kd.R_away HO_11.out (fun _ hk => hk.2.2.2)))
                  replace HB := ak (hb)
                  have HO228 := ak (ho)
                  clear HO_11
                  clear ho hb hg hat
                  refine hK.out _ _ ⟨(blk_cell BK200.out 0).trans rfl, (blk_cell BK200.out 1).trans rfl, (blk_cell BK200.out 2).trans rfl, (blk_cell BK200.out 3).trans rfl, ((HB.out.cell (World.block_lt_of_cell? w _ hw225_0)).trans hw225_0)⟩ (fun hHeld => ?_)
                  clear hK K
                  refine norm_ (a' := ?_) ?_ ?_
                  rotate_left
                  ·show Act.put _ (some 135) _ = _
                   simp only [Act.put, List.setIfInBounds_toArray, List.set_cons_zero, List.set_cons_succ, i64_w, i32_w]
                   rfl
                  refine pu 16 (some 11) #[true, true, true, true, true, true, true, true, true, true, true, true, true, true, true, true, true] (h := ?_)
                  refine done_ (done_of HT_.out (by kernel_rfl)) ?_
                  have p229 : 0 ≤ (x44_3 : Int) := of_decide_eq_true mq34
                  have q229 : x44_3 < (l2.length : Int) := of_decide_eq_true mq34
                  obtain ⟨ad229, e229, hx229_0⟩ := Kd.at_int HR2.out x44_3 p229 q229
                  obtain rfl : ad225 = ad229 := (by injection e229)
                  replace hx229_0 := (HB.out.cell (World.block_lt_of_cell? w _ hx229_0)).trans hx229_0
                  replace p229 := eq_true p229
                  replace q229 := eq_true q229
                  try go_wp2
                  go_roundg kj38
                  case measure => have := HJ3.out; have := HJ20.out; have := HK3.out; have := HJ29.out; have := HJ38.out; omega
                  case rel => exact ⟨(y226), (x12_29), (wrap64 (x13_29 + (rd l2 x44_3))), (wrap64 (x44_3 + 1)), mq39, mq39, H', ⟨mq44 HJ3 HJ20 HK3 HJ29 HJ38⟩, ⟨mq20 HO_9⟩, ⟨mq24 HO228⟩, ⟨mq19 HO_12⟩, ⟨mq28 BK200⟩, ⟨kW⟩⟩
                 ·rw [if_neg c53] at H
                  exact absurd H (by simp)
                ·rw [if_neg c52] at H
                 exact absurd H (by simp)
               ·rw [if_neg c51] at H
                exact absurd H (by simp)
        ·rw [if_neg c29] at H
         have c29b0 : decide (x44_3 < (l2.length : Int)) = false := decide_eq_false c29
         clear c29
         by_cases c56 : x13_3 = x10_20
         ·rw [if_pos c56] at H
          have c56b0 : (x13_3 == x10_20) = true := beq_iff_eq.mpr c56
          have c56b1 : (x13_3 != x10_20) = false := bne_eq_false_iff_eq.mpr c56
          clear c56
          simp only [Option.some.injEq, Prod.mk.injEq] at H
          obtain ⟨rfl, rfl, rfl⟩ := H
          go_wp2
          go_ret3
          exact ⟨_, _, mq37, Kd.R_V (mq14 HO_11), Kd.R_V (mq14 HO_12), kW⟩
         ·rw [if_neg c56] at H
          have c56b0 : (x13_3 == x10_20) = false := beq_eq_false_iff_ne.mpr c56
          have c56b1 : (x13_3 != x10_20) = true := bne_iff_ne.mpr c56
          simp only [Option.some.injEq, Prod.mk.injEq] at H
          obtain ⟨rfl, rfl, rfl⟩ := H
          go_wp2
          go_ret3
          exact ⟨_, _, mq37, Kd.R_V (mq14 HO_9), Kd.R_V (mq14 HO_9), kW⟩
end Go.Proofs.YtkobpbbegalfpaaGreatDoor.PParseBodies
