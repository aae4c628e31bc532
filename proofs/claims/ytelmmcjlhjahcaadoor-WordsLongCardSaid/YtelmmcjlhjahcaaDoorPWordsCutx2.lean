-- PRINTED BY print.sh 35421559b90ae4d0a3588c463048766b98c2df88dd9212a6774a882060cdf62d: not written by this session
import Derived.Test.YtelmmcjlhjahcaaDoorPWordsCutx0
namespace Go.Proofs.YtelmmcjlhjahcaaDoor.PWordsCut
open Go.RowKit Go.Proofs.YtelmmcjlhjahcaaDoorW.PrintWords Go.Proofs.YtelmmcjlhjahcaaDoorW.PrintLast Go.Proofs.YtelmmcjlhjahcaaDoorW.PrintMore
attribute [local go_sem] max2_int min2_int max_two min_two max_three min_three max_four min_four   -- for this text's walks alone
set_option linter.unusedVariables false
set_option linter.unusedSimpArgs false

/-! ### sashref20_Cut: function 25 -/
mutual
def sashref20_Cut.l0 : Nat → ByteArray → List (List ByteArray) → List (List ByteArray) → List ByteArray → ByteArray → Bool → Int → Int → Option ((List (List ByteArray)) × Int × Int)
  | 0, _, _, _, _, _, _, _, _ => none
  | k + 1, x0, x5, x6, x7, x8, x9, x10, x11 => if x11 < (x0.size : Int) then (if 0 ≤ x11 then (if x11 ≤ (wrap64 (x11 + 1)) then (if (wrap64 (x11 + 1)) ≤ (x0.size : Int) then (if (x0.extract (x11 : Int).toNat ((wrap64 (x11 + 1)) : Int).toNat).toList = ([92] : List UInt8) then (if (wrap64 (x11 + 1)) = (x0.size : Int) then (if x10 ≥ 0 then (some (x5, 2, x10)) else (some (x5, 2, wrap64 ((wrap64 (x11 + 1)) - 1)))) else (if 0 ≤ (wrap64 (x11 + 1)) then (if (wrap64 (x11 + 1)) ≤ (wrap64 ((wrap64 (x11 + 1)) + 1)) then (if (wrap64 ((wrap64 (x11 + 1)) + 1)) ≤ (x0.size : Int) then (if x8.size + (x0.extract ((wrap64 (x11 + 1)) : Int).toNat ((wrap64 ((wrap64 (x11 + 1)) + 1)) : Int).toNat).size ≤ 9223372036854775807 then (sashref20_Cut.l0 k x0 x5 x6 x7 (x8 ++ (x0.extract ((wrap64 (x11 + 1)) : Int).toNat ((wrap64 ((wrap64 (x11 + 1)) + 1)) : Int).toNat)) true x10 (wrap64 ((wrap64 (x11 + 1)) + 1))) else (none)) else (none)) else (none)) else (none))) else (if (x0.extract (x11 : Int).toNat ((wrap64 (x11 + 1)) : Int).toNat).toList = ([34] : List UInt8) then (if x10 < 0 then (sashref20_Cut.l0 k x0 x5 x6 x7 x8 true (wrap64 ((wrap64 (x11 + 1)) - 1)) (wrap64 (x11 + 1))) else (sashref20_Cut.l0 k x0 x5 x6 x7 x8 true (-1) (wrap64 (x11 + 1)))) else (if x10 < 0 then (if (x0.extract (x11 : Int).toNat ((wrap64 (x11 + 1)) : Int).toNat).toList = ([32] : List UInt8) then (sashref20_Cut.j1 k x0 x5 x6 x7 x8 x9 x10 (wrap64 (x11 + 1)) (x0.extract (x11 : Int).toNat ((wrap64 (x11 + 1)) : Int).toNat) true) else (if (x0.extract (x11 : Int).toNat ((wrap64 (x11 + 1)) : Int).toNat).toList = ([9] : List UInt8) then (sashref20_Cut.j1 k x0 x5 x6 x7 x8 x9 x10 (wrap64 (x11 + 1)) (x0.extract (x11 : Int).toNat ((wrap64 (x11 + 1)) : Int).toNat) true) else (sashref20_Cut.j1 k x0 x5 x6 x7 x8 x9 x10 (wrap64 (x11 + 1)) (x0.extract (x11 : Int).toNat ((wrap64 (x11 + 1)) : Int).toNat) ((x0.extract (x11 : Int).toNat ((wrap64 (x11 + 1)) : Int).toNat).toList == ([59] : List UInt8))))) else (sashref20_Cut.j1 k x0 x5 x6 x7 x8 x9 x10 (wrap64 (x11 + 1)) (x0.extract (x11 : Int).toNat ((wrap64 (x11 + 1)) : Int).toNat) false)))) else (none)) else (none)) else (none)) else (if x10 ≥ 0 then (some (x5, 2, x10)) else (if x9 = true then (if x7.length < 8796093022208 then ((some (x7 ++ [x8] : List ByteArray)).bind fun y132 => (if (y132.length : Int) > 0 then (if x6.length < 5864062014805 then (some ((x6 ++ [y132]), 0, 0)) else (none)) else (some (x6, 0, 0)))) else (none)) else (if (x7.length : Int) > 0 then (if x6.length < 5864062014805 then (some ((x6 ++ [x7]), 0, 0)) else (none)) else (some (x6, 0, 0)))))
def sashref20_Cut.j1 : Nat → ByteArray → List (List ByteArray) → List (List ByteArray) → List ByteArray → ByteArray → Bool → Int → Int → ByteArray → Bool → Option ((List (List ByteArray)) × Int × Int)
  | 0, _, _, _, _, _, _, _, _, _, _ => none
  | k + 1, x0, x5, x6, x7, x8, x9, x10, x11, x12, x72 => if x72 = true then (if x9 = true then (if x7.length < 8796093022208 then ((some (x7 ++ [x8] : List ByteArray)).bind fun y117 => (if x12.toList = ([59] : List UInt8) then (if (y117.length : Int) > 0 then (if x6.length < 5864062014805 then (sashref20_Cut.l0 k x0 x5 (x6 ++ [y117]) (([] : List ByteArray)) (⟨#[]⟩ : ByteArray) false x10 x11) else (none)) else (sashref20_Cut.l0 k x0 x5 x6 y117 (⟨#[]⟩ : ByteArray) false x10 x11)) else (sashref20_Cut.l0 k x0 x5 x6 y117 (⟨#[]⟩ : ByteArray) false x10 x11))) else (none)) else (if x12.toList = ([59] : List UInt8) then (if (x7.length : Int) > 0 then (if x6.length < 5864062014805 then (sashref20_Cut.l0 k x0 x5 (x6 ++ [x7]) (([] : List ByteArray)) (⟨#[]⟩ : ByteArray) false x10 x11) else (none)) else (sashref20_Cut.l0 k x0 x5 x6 x7 (⟨#[]⟩ : ByteArray) false x10 x11)) else (sashref20_Cut.l0 k x0 x5 x6 x7 (⟨#[]⟩ : ByteArray) false x10 x11))) else (if x8.size + x12.size ≤ 9223372036854775807 then (sashref20_Cut.l0 k x0 x5 x6 x7 (x8 ++ x12) true x10 x11) else (none))
end
def sashref20_Cut.f (k : Nat) (a0 : ByteArray) : Option ((List (List ByteArray)) × Int × Int) := (some (([] : List (List ByteArray)) : List (List ByteArray))).bind fun y108 => (if (a0.size : Int) > 4096 then (some (y108, 3, 0)) else (sashref20_Cut.l0 k a0 y108 (([] : List (List ByteArray))) (([] : List ByteArray)) (⟨#[]⟩ : ByteArray) false (-1) 0))
theorem sashref20_Cut.mono_l : ∀ k, (∀ y0 y1 y2 y3 y4 y5 y6 y7, LeO (sashref20_Cut.l0 k y0 y1 y2 y3 y4 y5 y6 y7) (sashref20_Cut.l0 (k + 1) y0 y1 y2 y3 y4 y5 y6 y7)) ∧ (∀ y0 y1 y2 y3 y4 y5 y6 y7 y8 y9, LeO (sashref20_Cut.j1 k y0 y1 y2 y3 y4 y5 y6 y7 y8 y9) (sashref20_Cut.j1 (k + 1) y0 y1 y2 y3 y4 y5 y6 y7 y8 y9))
  | 0 => ⟨fun _ _ _ _ _ _ _ _ r h => by simp [sashref20_Cut.l0] at h, fun _ _ _ _ _ _ _ _ _ _ r h => by simp [sashref20_Cut.j1] at h⟩
  | k + 1 => by
    obtain ⟨ih0, ih1⟩ := sashref20_Cut.mono_l k
    refine ⟨?_, ?_⟩
    · intro y0 y1 y2 y3 y4 y5 y6 y7
      unfold sashref20_Cut.l0
      repeat' first
      | (with_reducible exact ih0 _ _ _ _ _ _ _ _)
      | (with_reducible exact ih1 _ _ _ _ _ _ _ _ _ _)
      | (with_reducible exact LeO.refl _)
      | (with_reducible exact LeO.none _)
      | (with_reducible refine LeO.ite ?_ ?_)
      | (with_reducible refine LeO.bind ?_ (fun _ => ?_))
      | exact ih0 _ _ _ _ _ _ _ _
      | exact ih1 _ _ _ _ _ _ _ _ _ _
      | exact LeO.none _
      | refine LeO.ite ?_ ?_
      | refine LeO.bind ?_ (fun _ => ?_)
    · intro y0 y1 y2 y3 y4 y5 y6 y7 y8 y9
      unfold sashref20_Cut.j1
      repeat' first
      | (with_reducible exact ih0 _ _ _ _ _ _ _ _)
      | (with_reducible exact ih1 _ _ _ _ _ _ _ _ _ _)
      | (with_reducible exact LeO.refl _)
      | (with_reducible exact LeO.none _)
      | (with_reducible refine LeO.ite ?_ ?_)
      | (with_reducible refine LeO.bind ?_ (fun _ => ?_))
      | exact ih0 _ _ _ _ _ _ _ _
      | exact ih1 _ _ _ _ _ _ _ _ _ _
      | exact LeO.none _
      | refine LeO.ite ?_ ?_
      | refine LeO.bind ?_ (fun _ => ?_)
theorem sashref20_Cut.mono : ∀ a0 k, LeO (sashref20_Cut.f k a0) (sashref20_Cut.f (k + 1) a0) := by
  intro a0 k
  obtain ⟨ih0, ih1⟩ := sashref20_Cut.mono_l k
  unfold sashref20_Cut.f
  repeat' first
      | (with_reducible exact ih0 _ _ _ _ _ _ _ _)
      | (with_reducible exact ih1 _ _ _ _ _ _ _ _ _ _)
      | (with_reducible exact LeO.refl _)
      | (with_reducible exact LeO.none _)
      | (with_reducible refine LeO.ite ?_ ?_)
      | (with_reducible refine LeO.bind ?_ (fun _ => ?_))
      | exact ih0 _ _ _ _ _ _ _ _
      | exact ih1 _ _ _ _ _ _ _ _ _ _
      | exact LeO.none _
      | refine LeO.ite ?_ ?_
      | refine LeO.bind ?_ (fun _ => ?_)
set_option maxHeartbeats 8000000 in
set_option maxRecDepth 100000 in
theorem sashref20_Cut.calls (k : Nat) (a0 : ByteArray) (r1 : List (List ByteArray)) (r2 : Int) (r3 : Int) (w : World) (h : sashref20_Cut.f k a0 = some (r1, r2, r3)) :
    Calls Tryd.prog 25 #[.string a0] w fun e w' => ∃ v0_ : Value, e = .returned (.tuple #[v0_, .int .i64 r2, .int .i64 r3]) ∧ Kd.S (Kd.slice 9 Kd.string) 36 w' w.heap.size (fun _ => True) v0_ r1 ∧ Below w.heap.size w w' := by
  have HB := Aside0.mk (Below.refl w.heap.size w)
  have H : ((some (([] : List (List ByteArray)) : List (List ByteArray))).bind fun y108 => (if (a0.size : Int) > 4096 then (some (y108, 3, 0)) else (sashref20_Cut.l0 k a0 y108 (([] : List (List ByteArray))) (([] : List ByteArray)) (⟨#[]⟩ : ByteArray) false (-1) 0))) = some (r1, r2, r3) := h
  clear h
  obtain ⟨y108, hy108⟩ : ∃ y_ : List (List ByteArray), y_ = (([] : List (List ByteArray))) := ⟨_, rfl⟩
  replace H : (if (a0.size : Int) > 4096 then (some (y108, 3, 0)) else (sashref20_Cut.l0 k a0 y108 (([] : List (List ByteArray))) (([] : List ByteArray)) (⟨#[]⟩ : ByteArray) false (-1) 0)) = some (r1, r2, r3) := by first | (rw [hy108]; with_reducible exact H) | (have H2_ := (Option.bind_some _ _).symm.trans H; rw [hy108]; with_reducible exact H2_) | (have H2_ := (Option.bind_some _ _).symm.trans H; with_reducible exact H2_) | with_reducible exact H | (rw [hy108]; exact H) | exact H
  have Ny108 := Aside0.mk hy108
  clear hy108
  by_cases c2 : (a0.size : Int) > 4096
  · rw [if_pos c2] at H
    have c2b0 : decide (4096 < (a0.size : Int)) = true := decide_eq_true c2
    have c2b1 : decide (4096 < a0.size) = true := decide_eq_true (by omega)
    clear c2
    simp only [Option.some.injEq, Prod.mk.injEq] at H
    obtain ⟨rfl, rfl, rfl⟩ := H
    go_enter Tryd.func25, Tryd.ntmps25
    go_wp2_with (first | ((with_reducible refine gate_dst (N := 13) rfl ?_); (try (refine gate_guard (by rfl) ?_; dsimp only)); refine Kd.S_lit (Kd.slice 9 Kd.string) _ 36 ?hg (N := 13) ?hd (xs := ([] : List (List ByteArray))) (inner := []) (ok := fun _ => True) (okp := fun _ => True) ?hr ?hp (fun _ hk => hk) trivial (Below.refl _ _) (Nat.le_refl _) (by simp) ?_; (case hd => rfl); (case hg => rfl); (case hr => first | (go_simp; done) | (go_simp; rfl)); (case hp => exact (Reps.none _ _)); intro v109 w3 ho4 hb hg_ hnew_; clear hg_ hnew_; (first | rw [← Ny108.out] at ho4 | (simp only [Int.reduceToNat] at ho4; rw [← Ny108.out] at ho4)); have n0_ := Aside0.mk (Kd.S_lower ho4 (below_size (by repeat (first | (with_reducible first | exact HB.out | apply below_alloc | apply pw_below_drewN | apply below_drew1) | exact HB.out)))); have n1_ := Aside0.mk (below_step (by repeat (first | (with_reducible first | exact HB.out | apply below_alloc | apply pw_below_drewN | apply below_drew1) | exact HB.out)) hb); clear HB; have HO110 := n0_; have HB := n1_; clear n0_ n1_; clear hb ho4))
    go_ret3
    exact ⟨_, by first | rfl | (simp [errW_none, errW_some] <;> rfl) | (simp [*, errW_none, errW_some] <;> rfl), by (with_reducible repeat (first | apply Kd.S_alloc | apply Kd.S_drewN | apply Kd.S_drew)); exact HO110.out, by repeat (first | (with_reducible first | exact HB.out | apply below_alloc | apply pw_below_drewN | apply below_drew1) | exact HB.out)⟩
  · rw [if_neg c2] at H
    have c2b0 : decide (4096 < (a0.size : Int)) = false := decide_eq_false c2
    have c2b1 : decide (4096 < a0.size) = false := decide_eq_false (by omega)
    clear c2
    obtain ⟨y111, hy111⟩ : ∃ y_ : List (List ByteArray), y_ = (([] : List (List ByteArray))) := ⟨_, rfl⟩
    replace H : (sashref20_Cut.l0 k a0 y108 y111 (([] : List ByteArray)) (⟨#[]⟩ : ByteArray) false (-1) 0) = some (r1, r2, r3) := by first | (rw [hy111]; with_reducible exact H) | (have H2_ := (Option.bind_some _ _).symm.trans H; rw [hy111]; with_reducible exact H2_) | (have H2_ := (Option.bind_some _ _).symm.trans H; with_reducible exact H2_) | with_reducible exact H | (rw [hy111]; exact H) | exact H
    have Ny111 := Aside0.mk hy111
    clear hy111
    obtain ⟨y114, hy114⟩ : ∃ y_ : List ByteArray, y_ = (([] : List ByteArray)) := ⟨_, rfl⟩
    replace H : (sashref20_Cut.l0 k a0 y108 y111 y114 (⟨#[]⟩ : ByteArray) false (-1) 0) = some (r1, r2, r3) := by first | (rw [hy114]; with_reducible exact H) | (have H2_ := (Option.bind_some _ _).symm.trans H; rw [hy114]; with_reducible exact H2_) | (have H2_ := (Option.bind_some _ _).symm.trans H; with_reducible exact H2_) | with_reducible exact H | (rw [hy114]; exact H) | exact H
    have Ny114 := Aside0.mk hy114
    clear hy114
    have H' := Aside0.mk H
    clear H
    go_enter Tryd.func25, Tryd.ntmps25
    go_wp2_with (first | ((with_reducible refine gate_dst (N := 13) rfl ?_); (try (refine gate_guard (by rfl) ?_; dsimp only)); refine Kd.S_lit (Kd.slice 9 Kd.string) _ 36 ?hg (N := 13) ?hd (xs := ([] : List (List ByteArray))) (inner := []) (ok := fun _ => True) (okp := fun _ => True) ?hr ?hp (fun _ hk => hk) trivial (Below.refl _ _) (Nat.le_refl _) (by simp) ?_; (case hd => rfl); (case hg => rfl); (case hr => first | (go_simp; done) | (go_simp; rfl)); (case hp => exact (Reps.none _ _)); intro v109 w5 ho6 hb hg_ hnew_; clear hg_ hnew_; (first | rw [← Ny108.out] at ho6 | (simp only [Int.reduceToNat] at ho6; rw [← Ny108.out] at ho6)); have n0_ := Aside0.mk (Kd.S_lower ho6 (below_size (by repeat (first | (with_reducible first | exact HB.out | apply below_alloc | apply pw_below_drewN | apply below_drew1) | exact HB.out)))); have n1_ := Aside0.mk (below_step (by repeat (first | (with_reducible first | exact HB.out | apply below_alloc | apply pw_below_drewN | apply below_drew1) | exact HB.out)) hb); clear HB; have HO110 := n0_; have HB := n1_; clear n0_ n1_; clear hb ho6) | ((with_reducible refine gate_dst (N := 18) rfl ?_); (try (refine gate_guard (by rfl) ?_; dsimp only)); refine Kd.S_lit (Kd.slice 9 Kd.string) _ 36 ?hg (N := 18) ?hd (xs := ([] : List (List ByteArray))) (inner := []) (ok := fun _ => True) (okp := fun _ => True) ?hr ?hp (fun _ hk => hk) trivial (Below.refl _ _) (Nat.le_refl _) (by simp) ?_; (case hd => rfl); (case hg => rfl); (case hr => first | (go_simp; done) | (go_simp; rfl)); (case hp => exact (Reps.none _ _)); intro v112 w7 ho8 hb hg_ hnew_; clear hg_ hnew_; (first | rw [← Ny111.out] at ho8 | (simp only [Int.reduceToNat] at ho8; rw [← Ny111.out] at ho8)); have n0_ := Aside0.mk (Kd.S_elder' (by (with_reducible repeat (first | apply Kd.S_alloc | apply Kd.S_drewN | apply Kd.S_drew)); exact HO110.out) (Kd.S_base ho8) hb); have n1_ := Aside0.mk (Kd.S_lower (Kd.S_new' ho8 (Kd.S_lt (by (with_reducible repeat (first | apply Kd.S_alloc | apply Kd.S_drewN | apply Kd.S_drew)); exact HO110.out))) (below_size (by repeat (first | (with_reducible first | exact HB.out | apply below_alloc | apply pw_below_drewN | apply below_drew1) | exact HB.out)))); have n2_ := Aside0.mk (below_step (by repeat (first | (with_reducible first | exact HB.out | apply below_alloc | apply pw_below_drewN | apply below_drew1) | exact HB.out)) hb); clear HO110; clear HB; have HO110 := n0_; have HO113 := n1_; have HB := n2_; clear n0_ n1_ n2_; clear hb ho8) | ((with_reducible refine gate_dst (N := 19) rfl ?_); (try (refine gate_guard (by rfl) ?_; dsimp only)); refine Kd.R_lit Kd.string _ 9 ?hg (N := 19) ?hd (xs := ([] : List ByteArray)) (inner := []) (ok := fun _ => True) (okp := fun _ => True) ?hr ?hp (fun _ hk => hk) trivial (Below.refl _ _) (Nat.le_refl _) (by simp) ?_; (case hd => rfl); (case hg => rfl); (case hr => first | (go_simp; done) | (go_simp; rfl)); (case hp => exact (Reps.none _ _)); intro v115 w9 ho10 hb hg_ hnew_; clear hg_ hnew_; (first | rw [← Ny114.out] at ho10 | (simp only [Int.reduceToNat] at ho10; rw [← Ny114.out] at ho10)); have n0_ := Aside0.mk (Kd.S_elder' (by (with_reducible repeat (first | apply Kd.S_alloc | apply Kd.S_drewN | apply Kd.S_drew)); exact HO110.out) (Kd.R_base ho10) hb); have n1_ := Aside0.mk (Kd.S_elder' (by (with_reducible repeat (first | apply Kd.S_alloc | apply Kd.S_drewN | apply Kd.S_drew)); exact HO113.out) (Kd.R_base ho10) hb); have n2_ := Aside0.mk (Kd.R_lower ho10 (below_size (by repeat (first | (with_reducible first | exact HB.out | apply below_alloc | apply pw_below_drewN | apply below_drew1) | exact HB.out)))); have n3_ := Aside0.mk (below_step (by repeat (first | (with_reducible first | exact HB.out | apply below_alloc | apply pw_below_drewN | apply below_drew1) | exact HB.out)) hb); clear HO110; clear HO113; clear HB; have HO110 := n0_; have HO113 := n1_; have HO116 := n2_; have HB := n3_; clear n0_ n1_ n2_ n3_; clear hb ho10))
    go_loopg [6, 7, 8, 9, 10, 11] k (fun kq v6 v7 v8 v9 v10 v11 w' => ∃ (x6_1 : List (List ByteArray)) (x7_1 : List ByteArray) (x8_1 : ByteArray) (x9_1 : Bool) (x10_1 : Int) (x11_1 : Int), v8 = .string x8_1 ∧ v9 = .bool x9_1 ∧ v10 = .int .i64 x10_1 ∧ v11 = .int .i64 x11_1 ∧ Aside0 (sashref20_Cut.l0 kq a0 y108 x6_1 x7_1 x8_1 x9_1 x10_1 x11_1 = some (r1, r2, r3)) ∧ Aside0 (kq ≤ k) ∧ Aside0 (Kd.S (Kd.slice 9 Kd.string) 36 w' w.heap.size (fun k_ => some k_ ≠ (v6 : Value).ownBlock ∧ some k_ ≠ (v7 : Value).ownBlock) v109 y108) ∧ Aside0 (Kd.S (Kd.slice 9 Kd.string) 36 w' w.heap.size (fun k_ => some k_ ≠ (v109 : Value).ownBlock ∧ some k_ ≠ (v7 : Value).ownBlock) v6 x6_1) ∧ Aside0 (Kd.R Kd.string 9 w' w.heap.size (fun _ => True) v7 x7_1) ∧ Aside0 (Below w.heap.size w w'))
    case atStart => exact ⟨(y111), (y114), ((⟨#[]⟩ : ByteArray)), (false), ((-1)), (0), (by first | rfl | (simp; done) | (simp [*]; done)), (by first | rfl | (simp; done) | (simp [*]; done)), (by first | rfl | (simp; done) | (simp [*]; done)), (by first | rfl | (simp; done) | (simp [*]; done)), H', ⟨Nat.le_refl _⟩, ⟨by (with_reducible repeat (first | apply Kd.S_alloc | apply Kd.S_drewN | apply Kd.S_drew)); exact Kd.S_mono HO110.out (fun _ hk => ⟨hk.1.2, hk.2⟩)⟩, ⟨by (with_reducible repeat (first | apply Kd.S_alloc | apply Kd.S_drewN | apply Kd.S_drew)); exact Kd.S_mono HO113.out (fun _ hk => ⟨hk.1.2, hk.2⟩)⟩, ⟨by (with_reducible repeat (first | apply Kd.R_alloc | apply Kd.R_drewN | apply Kd.R_drew)); exact HO116.out⟩, ⟨by repeat (first | (with_reducible first | exact HB.out | apply below_alloc | apply pw_below_drewN | apply below_drew1) | exact HB.out)⟩⟩
    case round =>
      clear H'
      try clear c2
      try clear c2b0
      try clear c2b1
      try clear p2
      obtain ⟨x6_1, x7_1, x8_1, x9_1, x10_1, x11_1, rfl, rfl, rfl, rfl, HA, HK1, HO_5, HO_6, HO_7, HB⟩ := hrel
      cases gk with
      | zero => exact absurd HA.out (by simp [sashref20_Cut.l0])
      | succ k1 =>
        have H := HA.out
        clear HA
        simp only [sashref20_Cut.l0] at H
        by_cases c11 : x11_1 < (a0.size : Int)
        · rw [if_pos c11] at H
          have c11b0 : decide (x11_1 < (a0.size : Int)) = true := decide_eq_true c11
          clear c11
          by_cases c12 : 0 ≤ x11_1
          · rw [if_pos c12] at H
            have c12b0 := eq_true c12
            have c12b1 : decide (0 ≤ x11_1) = true := decide_eq_true c12
            clear c12
            by_cases c13 : x11_1 ≤ (wrap64 (x11_1 + 1))
            · rw [if_pos c13] at H
              have c13b0 := eq_true c13
              have c13b1 : decide (x11_1 ≤ (wrap64 (x11_1 + 1))) = true := decide_eq_true c13
              by_cases c14 : (wrap64 (x11_1 + 1)) ≤ (a0.size : Int)
              · rw [if_pos c14] at H
                have c14b0 := eq_true c14
                have c14b1 : decide ((wrap64 (x11_1 + 1)) ≤ (a0.size : Int)) = true := decide_eq_true c14
                by_cases c15 : (a0.extract (x11_1 : Int).toNat ((wrap64 (x11_1 + 1)) : Int).toNat).toList = ([92] : List UInt8)
                · rw [if_pos c15] at H
                  have c15b0 : ((a0.extract (x11_1 : Int).toNat ((wrap64 (x11_1 + 1)) : Int).toNat).toList == ([92] : List UInt8)) = true := beq_iff_eq.mpr c15
                  have c15b1 : ((a0.extract (x11_1 : Int).toNat ((wrap64 (x11_1 + 1)) : Int).toNat).toList != ([92] : List UInt8)) = false := bne_eq_false_iff_eq.mpr c15
                  clear c15
                  by_cases c16 : (wrap64 (x11_1 + 1)) = (a0.size : Int)
                  · rw [if_pos c16] at H
                    have c16b0 : ((wrap64 (x11_1 + 1)) == (a0.size : Int)) = true := beq_iff_eq.mpr c16
                    have c16b1 : ((wrap64 (x11_1 + 1)) != (a0.size : Int)) = false := bne_eq_false_iff_eq.mpr c16
                    clear c16
                    by_cases c17 : x10_1 ≥ 0
                    · rw [if_pos c17] at H
                      have c17b0 : decide (0 ≤ x10_1) = true := decide_eq_true c17
                      clear c17
                      simp only [Option.some.injEq, Prod.mk.injEq] at H
                      obtain ⟨rfl, rfl, rfl⟩ := H
                      go_wp2
                      go_ret3
                      exact ⟨_, by first | rfl | (simp [errW_none, errW_some] <;> rfl) | (simp [*, errW_none, errW_some] <;> rfl), by (with_reducible repeat (first | apply Kd.S_alloc | apply Kd.S_drewN | apply Kd.S_drew)); exact Kd.S_mono HO_5.out (fun _ hk => trivial), by repeat (first | (with_reducible first | exact HB.out | apply below_alloc | apply pw_below_drewN | apply below_drew1) | exact HB.out)⟩
                    · rw [if_neg c17] at H
                      have c17b0 : decide (0 ≤ x10_1) = false := decide_eq_false c17
                      clear c17
                      simp only [Option.some.injEq, Prod.mk.injEq] at H
                      obtain ⟨rfl, rfl, rfl⟩ := H
                      go_wp2
                      go_ret3
                      exact ⟨_, by first | rfl | (simp [errW_none, errW_some] <;> rfl) | (simp [*, errW_none, errW_some] <;> rfl), by (with_reducible repeat (first | apply Kd.S_alloc | apply Kd.S_drewN | apply Kd.S_drew)); exact Kd.S_mono HO_5.out (fun _ hk => trivial), by repeat (first | (with_reducible first | exact HB.out | apply below_alloc | apply pw_below_drewN | apply below_drew1) | exact HB.out)⟩
                  · rw [if_neg c16] at H
                    have c16b0 : ((wrap64 (x11_1 + 1)) == (a0.size : Int)) = false := beq_eq_false_iff_ne.mpr c16
                    have c16b1 : ((wrap64 (x11_1 + 1)) != (a0.size : Int)) = true := bne_iff_ne.mpr c16
                    obtain ⟨ji18, hji18⟩ : ∃ j_ : Int, (wrap64 (x11_1 + 1)) = j_ := ⟨_, rfl⟩
                    replace H : (if 0 ≤ (ji18) then (if (ji18) ≤ (wrap64 ((ji18) + 1)) then (if (wrap64 ((ji18) + 1)) ≤ (a0.size : Int) then (if x8_1.size + (a0.extract ((ji18) : Int).toNat ((wrap64 ((ji18) + 1)) : Int).toNat).size ≤ 9223372036854775807 then (sashref20_Cut.l0 k1 a0 y108 x6_1 x7_1 (x8_1 ++ (a0.extract ((ji18) : Int).toNat ((wrap64 ((ji18) + 1)) : Int).toNat)) true x10_1 (wrap64 ((ji18) + 1))) else (none)) else (none)) else (none)) else (none)) = some (r1, r2, r3) := by first | (rw [hji18] at H; exact H) | (simp only [hji18] at H ⊢; exact H)
                    (try rw [hji18] at c13b0)
                    (try rw [hji18] at c13b1)
                    (try rw [hji18] at c13)
                    (try rw [hji18] at c14b0)
                    (try rw [hji18] at c14b1)
                    (try rw [hji18] at c14)
                    (try rw [hji18] at c15b0)
                    (try rw [hji18] at c15b1)
                    (try rw [hji18] at c16b0)
                    (try rw [hji18] at c16b1)
                    have hji18w : (IntKind.i64.wrap (x11_1 + 1)) = ji18 := (i64_w _).trans hji18
                    by_cases c19 : 0 ≤ (ji18)
                    · rw [if_pos c19] at H
                      have c19b0 := eq_true c19
                      have c19b1 : decide (0 ≤ (ji18)) = true := decide_eq_true c19
                      clear c19
                      by_cases c20 : (ji18) ≤ (wrap64 ((ji18) + 1))
                      · rw [if_pos c20] at H
                        have c20b0 := eq_true c20
                        have c20b1 : decide ((ji18) ≤ (wrap64 ((ji18) + 1))) = true := decide_eq_true c20
                        by_cases c21 : (wrap64 ((ji18) + 1)) ≤ (a0.size : Int)
                        · rw [if_pos c21] at H
                          have c21b0 := eq_true c21
                          have c21b1 : decide ((wrap64 ((ji18) + 1)) ≤ (a0.size : Int)) = true := decide_eq_true c21
                          by_cases c22 : x8_1.size + (a0.extract ((ji18) : Int).toNat ((wrap64 ((ji18) + 1)) : Int).toNat).size ≤ 9223372036854775807
                          · rw [if_pos c22] at H
                            have c22b0 := eq_true c22
                            have c22b1 : decide (x8_1.size + (a0.extract ((ji18) : Int).toNat ((wrap64 ((ji18) + 1)) : Int).toNat).size ≤ 9223372036854775807) = true := decide_eq_true c22
                            try have c22b2 : (9223372036854775807 < x8_1.size + (a0.extract ((ji18) : Int).toNat ((wrap64 ((ji18) + 1)) : Int).toNat).size) = False := eq_false (Nat.not_lt.2 c22)
                            have H' := Aside0.mk H
                            clear H
                            go_wp2
                            go_roundg k1
                            case measure => have := HK1.out; omega
                            case rel => exact ⟨(x6_1), (x7_1), (x8_1 ++ (a0.extract ((ji18) : Int).toNat ((wrap64 ((ji18) + 1)) : Int).toNat)), (true), (x10_1), (wrap64 ((ji18) + 1)), (by first | rfl | (simp; done) | (simp only [← hji18] <;> (first | rfl | simp)) | (simp [*]; done)), (by first | rfl | (simp; done) | (simp [*]; done)), (by first | rfl | (simp; done) | (simp [*]; done)), (by first | rfl | (simp; done) | (simp only [← hji18] <;> (first | rfl | simp)) | (simp [*]; done)), H', ⟨by have := HK1.out; omega⟩, ⟨by (with_reducible repeat (first | apply Kd.S_alloc | apply Kd.S_drewN | apply Kd.S_drew)); exact HO_5.out⟩, ⟨by (with_reducible repeat (first | apply Kd.S_alloc | apply Kd.S_drewN | apply Kd.S_drew)); exact HO_6.out⟩, ⟨by (with_reducible repeat (first | apply Kd.R_alloc | apply Kd.R_drewN | apply Kd.R_drew)); exact HO_7.out⟩, ⟨by repeat (first | (with_reducible first | exact HB.out | apply below_alloc | apply pw_below_drewN | apply below_drew1) | exact HB.out)⟩⟩
                          · rw [if_neg c22] at H
                            exact absurd H (by simp)
                        · rw [if_neg c21] at H
                          exact absurd H (by simp)
                      · rw [if_neg c20] at H
                        exact absurd H (by simp)
                    · rw [if_neg c19] at H
                      exact absurd H (by simp)
                · rw [if_neg c15] at H
                  have c15b0 : ((a0.extract (x11_1 : Int).toNat ((wrap64 (x11_1 + 1)) : Int).toNat).toList == ([92] : List UInt8)) = false := beq_eq_false_iff_ne.mpr c15
                  have c15b1 : ((a0.extract (x11_1 : Int).toNat ((wrap64 (x11_1 + 1)) : Int).toNat).toList != ([92] : List UInt8)) = true := bne_iff_ne.mpr c15
                  by_cases c23 : (a0.extract (x11_1 : Int).toNat ((wrap64 (x11_1 + 1)) : Int).toNat).toList = ([34] : List UInt8)
                  · rw [if_pos c23] at H
                    have c23b0 : ((a0.extract (x11_1 : Int).toNat ((wrap64 (x11_1 + 1)) : Int).toNat).toList == ([34] : List UInt8)) = true := beq_iff_eq.mpr c23
                    have c23b1 : ((a0.extract (x11_1 : Int).toNat ((wrap64 (x11_1 + 1)) : Int).toNat).toList != ([34] : List UInt8)) = false := bne_eq_false_iff_eq.mpr c23
                    clear c23
                    by_cases c24 : x10_1 < 0
                    · rw [if_pos c24] at H
                      have c24b0 : decide (x10_1 < 0) = true := decide_eq_true c24
                      clear c24
                      have H' := Aside0.mk H
                      clear H
                      go_wp2
                      go_roundg k1
                      case measure => have := HK1.out; omega
                      case rel => exact ⟨(x6_1), (x7_1), (x8_1), (true), (wrap64 ((wrap64 (x11_1 + 1)) - 1)), (wrap64 (x11_1 + 1)), (by first | rfl | (simp; done) | (simp [*]; done)), (by first | rfl | (simp; done) | (simp [*]; done)), (by first | rfl | (simp; done) | (simp [*]; done)), (by first | rfl | (simp; done) | (simp [*]; done)), H', ⟨by have := HK1.out; omega⟩, ⟨by (with_reducible repeat (first | apply Kd.S_alloc | apply Kd.S_drewN | apply Kd.S_drew)); exact HO_5.out⟩, ⟨by (with_reducible repeat (first | apply Kd.S_alloc | apply Kd.S_drewN | apply Kd.S_drew)); exact HO_6.out⟩, ⟨by (with_reducible repeat (first | apply Kd.R_alloc | apply Kd.R_drewN | apply Kd.R_drew)); exact HO_7.out⟩, ⟨by repeat (first | (with_reducible first | exact HB.out | apply below_alloc | apply pw_below_drewN | apply below_drew1) | exact HB.out)⟩⟩
                    · rw [if_neg c24] at H
                      have c24b0 : decide (x10_1 < 0) = false := decide_eq_false c24
                      clear c24
                      have H' := Aside0.mk H
                      clear H
                      go_wp2
                      go_roundg k1
                      case measure => have := HK1.out; omega
                      case rel => exact ⟨(x6_1), (x7_1), (x8_1), (true), ((-1)), (wrap64 (x11_1 + 1)), (by first | rfl | (simp; done) | (simp [*]; done)), (by first | rfl | (simp; done) | (simp [*]; done)), (by first | rfl | (simp; done) | (simp [*]; done)), (by first | rfl | (simp; done) | (simp [*]; done)), H', ⟨by have := HK1.out; omega⟩, ⟨by (with_reducible repeat (first | apply Kd.S_alloc | apply Kd.S_drewN | apply Kd.S_drew)); exact HO_5.out⟩, ⟨by (with_reducible repeat (first | apply Kd.S_alloc | apply Kd.S_drewN | apply Kd.S_drew)); exact HO_6.out⟩, ⟨by (with_reducible repeat (first | apply Kd.R_alloc | apply Kd.R_drewN | apply Kd.R_drew)); exact HO_7.out⟩, ⟨by repeat (first | (with_reducible first | exact HB.out | apply below_alloc | apply pw_below_drewN | apply below_drew1) | exact HB.out)⟩⟩
                  · rw [if_neg c23] at H
                    have c23b0 : ((a0.extract (x11_1 : Int).toNat ((wrap64 (x11_1 + 1)) : Int).toNat).toList == ([34] : List UInt8)) = false := beq_eq_false_iff_ne.mpr c23
                    have c23b1 : ((a0.extract (x11_1 : Int).toNat ((wrap64 (x11_1 + 1)) : Int).toNat).toList != ([34] : List UInt8)) = true := bne_iff_ne.mpr c23
                    have HC25 := Aside0.mk H
                    clear H
                    go_upto_region 26 with (fail)
                    go_cut [72] (fun v72 wc => ∃ (kq : Nat) (x72_24 : Bool), v72 = .bool x72_24 ∧ Aside0 (sashref20_Cut.j1 kq a0 y108 x6_1 x7_1 x8_1 x9_1 x10_1 (wrap64 (x11_1 + 1)) (a0.extract (x11_1 : Int).toNat ((wrap64 (x11_1 + 1)) : Int).toNat) x72_24 = some (r1, r2, r3)) ∧ Aside0 (kq ≤ k1) ∧ Aside0 (Kd.S (Kd.slice 9 Kd.string) 36 wc w.heap.size (fun k_ => some k_ ≠ (u6 : Value).ownBlock ∧ some k_ ≠ (u7 : Value).ownBlock) v109 y108) ∧ Aside0 (Kd.S (Kd.slice 9 Kd.string) 36 wc w.heap.size (fun k_ => some k_ ≠ (v109 : Value).ownBlock ∧ some k_ ≠ (u7 : Value).ownBlock) u6 x6_1) ∧ Aside0 (Kd.R Kd.string 9 wc w.heap.size (fun _ => True) u7 x7_1) ∧ Aside0 (Below w.heap.size w wc))
                    case first =>
                      have H := HC25.out
                      clear HC25
                      by_cases c26 : x10_1 < 0
                      · rw [if_pos c26] at H
                        have c26b0 : decide (x10_1 < 0) = true := decide_eq_true c26
                        clear c26
                        (first | rw [c26b0] | (simp only [i64_w, i32_w]; rw [c26b0]) | skip)
                        by_cases c27 : (a0.extract (x11_1 : Int).toNat ((wrap64 (x11_1 + 1)) : Int).toNat).toList = ([32] : List UInt8)
                        · rw [if_pos c27] at H
                          have c27b0 : ((a0.extract (x11_1 : Int).toNat ((wrap64 (x11_1 + 1)) : Int).toNat).toList == ([32] : List UInt8)) = true := beq_iff_eq.mpr c27
                          have c27b1 : ((a0.extract (x11_1 : Int).toNat ((wrap64 (x11_1 + 1)) : Int).toNat).toList != ([32] : List UInt8)) = false := bne_eq_false_iff_eq.mpr c27
                          clear c27
                          have H' := Aside0.mk H
                          clear H
                          go_wp2
                          go_meet
                          case rel => exact ⟨_, (true), (by first | rfl | (simp; done) | (simp [*]; done)), H', ⟨by have := HK1.out; first | omega | exact Nat.le_refl _⟩, ⟨by (with_reducible repeat (first | apply Kd.S_alloc | apply Kd.S_drewN | apply Kd.S_drew)); exact HO_5.out⟩, ⟨by (with_reducible repeat (first | apply Kd.S_alloc | apply Kd.S_drewN | apply Kd.S_drew)); exact HO_6.out⟩, ⟨by (with_reducible repeat (first | apply Kd.R_alloc | apply Kd.R_drewN | apply Kd.R_drew)); exact HO_7.out⟩, ⟨by repeat (first | (with_reducible first | exact HB.out | apply below_alloc | apply pw_below_drewN | apply below_drew1) | exact HB.out)⟩⟩
                        · rw [if_neg c27] at H
                          have c27b0 : ((a0.extract (x11_1 : Int).toNat ((wrap64 (x11_1 + 1)) : Int).toNat).toList == ([32] : List UInt8)) = false := beq_eq_false_iff_ne.mpr c27
                          have c27b1 : ((a0.extract (x11_1 : Int).toNat ((wrap64 (x11_1 + 1)) : Int).toNat).toList != ([32] : List UInt8)) = true := bne_iff_ne.mpr c27
                          by_cases c28 : (a0.extract (x11_1 : Int).toNat ((wrap64 (x11_1 + 1)) : Int).toNat).toList = ([9] : List UInt8)
                          · rw [if_pos c28] at H
                            have c28b0 : ((a0.extract (x11_1 : Int).toNat ((wrap64 (x11_1 + 1)) : Int).toNat).toList == ([9] : List UInt8)) = true := beq_iff_eq.mpr c28
                            have c28b1 : ((a0.extract (x11_1 : Int).toNat ((wrap64 (x11_1 + 1)) : Int).toNat).toList != ([9] : List UInt8)) = false := bne_eq_false_iff_eq.mpr c28
                            clear c28
                            have H' := Aside0.mk H
                            clear H
                            go_wp2
                            go_meet
                            case rel => exact ⟨_, (true), (by first | rfl | (simp; done) | (simp [*]; done)), H', ⟨by have := HK1.out; first | omega | exact Nat.le_refl _⟩, ⟨by (with_reducible repeat (first | apply Kd.S_alloc | apply Kd.S_drewN | apply Kd.S_drew)); exact HO_5.out⟩, ⟨by (with_reducible repeat (first | apply Kd.S_alloc | apply Kd.S_drewN | apply Kd.S_drew)); exact HO_6.out⟩, ⟨by (with_reducible repeat (first | apply Kd.R_alloc | apply Kd.R_drewN | apply Kd.R_drew)); exact HO_7.out⟩, ⟨by repeat (first | (with_reducible first | exact HB.out | apply below_alloc | apply pw_below_drewN | apply below_drew1) | exact HB.out)⟩⟩
                          · rw [if_neg c28] at H
                            have c28b0 : ((a0.extract (x11_1 : Int).toNat ((wrap64 (x11_1 + 1)) : Int).toNat).toList == ([9] : List UInt8)) = false := beq_eq_false_iff_ne.mpr c28
                            have c28b1 : ((a0.extract (x11_1 : Int).toNat ((wrap64 (x11_1 + 1)) : Int).toNat).toList != ([9] : List UInt8)) = true := bne_iff_ne.mpr c28
                            have H' := Aside0.mk H
                            clear H
                            go_wp2
                            go_meet
                            case rel => exact ⟨_, (((a0.extract (x11_1 : Int).toNat ((wrap64 (x11_1 + 1)) : Int).toNat).toList == ([59] : List UInt8))), (by first | rfl | (simp; done) | (simp [*]; done)), H', ⟨by have := HK1.out; first | omega | exact Nat.le_refl _⟩, ⟨by (with_reducible repeat (first | apply Kd.S_alloc | apply Kd.S_drewN | apply Kd.S_drew)); exact HO_5.out⟩, ⟨by (with_reducible repeat (first | apply Kd.S_alloc | apply Kd.S_drewN | apply Kd.S_drew)); exact HO_6.out⟩, ⟨by (with_reducible repeat (first | apply Kd.R_alloc | apply Kd.R_drewN | apply Kd.R_drew)); exact HO_7.out⟩, ⟨by repeat (first | (with_reducible first | exact HB.out | apply below_alloc | apply pw_below_drewN | apply below_drew1) | exact HB.out)⟩⟩
                      · rw [if_neg c26] at H
                        have c26b0 : decide (x10_1 < 0) = false := decide_eq_false c26
                        clear c26
                        (first | rw [c26b0] | (simp only [i64_w, i32_w]; rw [c26b0]) | skip)
                        have H' := Aside0.mk H
                        clear H
                        go_wp2
                        go_meet
                        case rel => exact ⟨_, (false), (by first | rfl | (simp; done) | (simp [*]; done)), H', ⟨by have := HK1.out; first | omega | exact Nat.le_refl _⟩, ⟨by (with_reducible repeat (first | apply Kd.S_alloc | apply Kd.S_drewN | apply Kd.S_drew)); exact HO_5.out⟩, ⟨by (with_reducible repeat (first | apply Kd.S_alloc | apply Kd.S_drewN | apply Kd.S_drew)); exact HO_6.out⟩, ⟨by (with_reducible repeat (first | apply Kd.R_alloc | apply Kd.R_drewN | apply Kd.R_drew)); exact HO_7.out⟩, ⟨by repeat (first | (with_reducible first | exact HB.out | apply below_alloc | apply pw_below_drewN | apply below_drew1) | exact HB.out)⟩⟩
                    case rest =>
                      clear HC25
                      try clear c1
                      try clear c2
                      try clear c2b0
                      try clear c2b1
                      try clear p2
                      try clear p6
                      try clear c11
                      try clear c11b0
                      try clear c12
                      try clear c12b0
                      try clear c12b1
                      try clear c13
                      try clear c13b0
                      try clear c13b1
                      try clear c14
                      try clear c14b0
                      try clear c14b1
                      try clear c15
                      try clear c15b0
                      try clear c15b1
                      try clear c16
                      try clear c16b0
                      try clear c16b1
                      try clear c17
                      try clear c17b0
                      try clear c19
                      try clear c19b0
                      try clear c19b1
                      try clear c20
                      try clear c20b0
                      try clear c20b1
                      try clear c21
                      try clear c21b0
                      try clear c21b1
                      try clear c22
                      try clear c22b0
                      try clear c22b1
                      try clear c22b2
                      try clear c23
                      try clear c23b0
                      try clear c23b1
                      try clear c24
                      try clear c24b0
                      try clear c25
                      try clear c26
                      try clear c26b0
                      try clear c27
                      try clear c27b0
                      try clear c27b1
                      try clear c28
                      try clear c28b0
                      try clear c28b1
                      try clear p2
                      obtain ⟨kq, x72_24, rfl, HA, HJ24, HO_5, HO_6, HO_7, HB⟩ := hcut
                      cases kq with
                      | zero => exact absurd HA.out (by simp [sashref20_Cut.j1])
                      | succ kj24 =>
                        have H := HA.out
                        clear HA
                        simp only [sashref20_Cut.j1] at H
                        by_cases c29 : x72_24 = true
                        · subst c29
                          have H1 : (if x9_1 = true then (if x7_1.length < 8796093022208 then ((some (x7_1 ++ [x8_1] : List ByteArray)).bind fun y117 => (if (a0.extract (x11_1 : Int).toNat ((wrap64 (x11_1 + 1)) : Int).toNat).toList = ([59] : List UInt8) then (if (y117.length : Int) > 0 then (if x6_1.length < 5864062014805 then (sashref20_Cut.l0 kj24 a0 y108 (x6_1 ++ [y117]) (([] : List ByteArray)) (⟨#[]⟩ : ByteArray) false x10_1 (wrap64 (x11_1 + 1))) else (none)) else (sashref20_Cut.l0 kj24 a0 y108 x6_1 y117 (⟨#[]⟩ : ByteArray) false x10_1 (wrap64 (x11_1 + 1)))) else (sashref20_Cut.l0 kj24 a0 y108 x6_1 y117 (⟨#[]⟩ : ByteArray) false x10_1 (wrap64 (x11_1 + 1))))) else (none)) else (if (a0.extract (x11_1 : Int).toNat ((wrap64 (x11_1 + 1)) : Int).toNat).toList = ([59] : List UInt8) then (if (x7_1.length : Int) > 0 then (if x6_1.length < 5864062014805 then (sashref20_Cut.l0 kj24 a0 y108 (x6_1 ++ [x7_1]) (([] : List ByteArray)) (⟨#[]⟩ : ByteArray) false x10_1 (wrap64 (x11_1 + 1))) else (none)) else (sashref20_Cut.l0 kj24 a0 y108 x6_1 x7_1 (⟨#[]⟩ : ByteArray) false x10_1 (wrap64 (x11_1 + 1)))) else (sashref20_Cut.l0 kj24 a0 y108 x6_1 x7_1 (⟨#[]⟩ : ByteArray) false x10_1 (wrap64 (x11_1 + 1))))) = some (r1, r2, r3) := by rw [if_pos rfl] at H; exact H
                          clear H
                          have H := H1
                          clear H1
                          by_cases c30 : x9_1 = true
                          · subst c30
                            have H1 : (if x7_1.length < 8796093022208 then ((some (x7_1 ++ [x8_1] : List ByteArray)).bind fun y117 => (if (a0.extract (x11_1 : Int).toNat ((wrap64 (x11_1 + 1)) : Int).toNat).toList = ([59] : List UInt8) then (if (y117.length : Int) > 0 then (if x6_1.length < 5864062014805 then (sashref20_Cut.l0 kj24 a0 y108 (x6_1 ++ [y117]) (([] : List ByteArray)) (⟨#[]⟩ : ByteArray) false x10_1 (wrap64 (x11_1 + 1))) else (none)) else (sashref20_Cut.l0 kj24 a0 y108 x6_1 y117 (⟨#[]⟩ : ByteArray) false x10_1 (wrap64 (x11_1 + 1)))) else (sashref20_Cut.l0 kj24 a0 y108 x6_1 y117 (⟨#[]⟩ : ByteArray) false x10_1 (wrap64 (x11_1 + 1))))) else (none)) = some (r1, r2, r3) := by rw [if_pos rfl] at H; exact H
                            clear H
                            have H := H1
                            clear H1
                            by_cases c31 : x7_1.length < 8796093022208
                            · rw [if_pos c31] at H
                              have LMc31 := Aside0.mk c31
                              clear c31
                              obtain ⟨y117, hy117⟩ : ∃ y_ : List ByteArray, y_ = (x7_1 ++ [x8_1]) := ⟨_, rfl⟩
                              replace H : (if (a0.extract (x11_1 : Int).toNat ((wrap64 (x11_1 + 1)) : Int).toNat).toList = ([59] : List UInt8) then (if (y117.length : Int) > 0 then (if x6_1.length < 5864062014805 then (sashref20_Cut.l0 kj24 a0 y108 (x6_1 ++ [y117]) (([] : List ByteArray)) (⟨#[]⟩ : ByteArray) false x10_1 (wrap64 (x11_1 + 1))) else (none)) else (sashref20_Cut.l0 kj24 a0 y108 x6_1 y117 (⟨#[]⟩ : ByteArray) false x10_1 (wrap64 (x11_1 + 1)))) else (sashref20_Cut.l0 kj24 a0 y108 x6_1 y117 (⟨#[]⟩ : ByteArray) false x10_1 (wrap64 (x11_1 + 1)))) = some (r1, r2, r3) := by first | (rw [hy117]; with_reducible exact H) | (have H2_ := (Option.bind_some _ _).symm.trans H; rw [hy117]; with_reducible exact H2_) | (have H2_ := (Option.bind_some _ _).symm.trans H; with_reducible exact H2_) | with_reducible exact H | (rw [hy117]; exact H) | exact H
                              have Ny117 := Aside0.mk hy117
                              clear hy117
                              by_cases c32 : (a0.extract (x11_1 : Int).toNat ((wrap64 (x11_1 + 1)) : Int).toNat).toList = ([59] : List UInt8)
                              · rw [if_pos c32] at H
                                have c32b0 : ((a0.extract (x11_1 : Int).toNat ((wrap64 (x11_1 + 1)) : Int).toNat).toList == ([59] : List UInt8)) = true := beq_iff_eq.mpr c32
                                have c32b1 : ((a0.extract (x11_1 : Int).toNat ((wrap64 (x11_1 + 1)) : Int).toNat).toList != ([59] : List UInt8)) = false := bne_eq_false_iff_eq.mpr c32
                                clear c32
                                by_cases c33 : (y117.length : Int) > 0
                                · rw [if_pos c33] at H
                                  have c33b0 : decide (0 < (y117.length : Int)) = true := decide_eq_true c33
                                  have c33b1 : decide (0 < y117.length) = true := decide_eq_true (by omega)
                                  clear c33
                                  by_cases c34 : x6_1.length < 5864062014805
                                  · rw [if_pos c34] at H
                                    have LMc34 := Aside0.mk c34
                                    clear c34
                                    obtain ⟨y120, hy120⟩ : ∃ y_ : List (List ByteArray), y_ = (x6_1 ++ [y117]) := ⟨_, rfl⟩
                                    replace H : (sashref20_Cut.l0 kj24 a0 y108 y120 (([] : List ByteArray)) (⟨#[]⟩ : ByteArray) false x10_1 (wrap64 (x11_1 + 1))) = some (r1, r2, r3) := by first | (rw [hy120]; with_reducible exact H) | (have H2_ := (Option.bind_some _ _).symm.trans H; rw [hy120]; with_reducible exact H2_) | (have H2_ := (Option.bind_some _ _).symm.trans H; with_reducible exact H2_) | with_reducible exact H | (rw [hy120]; exact H) | exact H
                                    have Ny120 := Aside0.mk hy120
                                    clear hy120
                                    obtain ⟨y123, hy123⟩ : ∃ y_ : List ByteArray, y_ = (([] : List ByteArray)) := ⟨_, rfl⟩
                                    replace H : (sashref20_Cut.l0 kj24 a0 y108 y120 y123 (⟨#[]⟩ : ByteArray) false x10_1 (wrap64 (x11_1 + 1))) = some (r1, r2, r3) := by first | (rw [hy123]; with_reducible exact H) | (have H2_ := (Option.bind_some _ _).symm.trans H; rw [hy123]; with_reducible exact H2_) | (have H2_ := (Option.bind_some _ _).symm.trans H; with_reducible exact H2_) | with_reducible exact H | (rw [hy123]; exact H) | exact H
                                    have Ny123 := Aside0.mk hy123
                                    clear hy123
                                    have H' := Aside0.mk H
                                    clear H
                                    go_wp2_with (first | ((with_reducible refine gate_builtin (b := .append) (xs := #[.tmp 74, .tmp 76]) rfl ?_); (try (refine gate_guard (by rfl) ?_; dsimp only)); at_builtin; refine Kd.R_append Kd.string (w0 := w) w.heap.size rfl (.tmp 74) (.tmp 76) 36 9 (.string ⟨#[]⟩) 16 rfl Tryd.underlying36 info9 rfl (by decide) (by omega) u7 x7_1 x8_1 [.string x8_1] (fun _ => True) (fun _ => False) rfl rfl ?aP (fun _ hk => hk.elim) ?aF ?aO ?aB ?aS ?aL ?_; (case aP => exact rfl); (case aB => exact (by repeat (first | (with_reducible first | exact HB.out | apply below_alloc | apply pw_below_drewN | apply below_drew1) | exact HB.out))); (case aF => exact (fun _ _ => trivial)); (case aO => exact (by (with_reducible repeat (first | apply Kd.R_alloc | apply Kd.R_drewN | apply Kd.R_drew)); exact HO_7.out)); (case aS => exact (below_size (by repeat (first | (with_reducible first | exact HB.out | apply below_alloc | apply pw_below_drewN | apply below_drew1) | exact HB.out)))); (case aL => have := LMc31.out; omega); intro v118 w35 ho hb hg hat; rw [← Ny117.out] at ho; have n0_ := Aside0.mk (Kd.S_after (ok := (fun k_ => some k_ ≠ (u6 : Value).ownBlock)) (by (with_reducible repeat (first | apply Kd.S_alloc | apply Kd.S_drewN | apply Kd.S_drew)); exact HO_5.out) hg hat); have n1_ := Aside0.mk (Kd.S_after (ok := (fun k_ => some k_ ≠ (v109 : Value).ownBlock)) (by (with_reducible repeat (first | apply Kd.S_alloc | apply Kd.S_drewN | apply Kd.S_drew)); exact HO_6.out) hg hat); have n2_ := Aside0.mk (hb); have n3_ := Aside0.mk (ho); clear HO_5; clear HO_6; clear HB; clear HO_7; have HO_5 := n0_; have HO_6 := n1_; have HB := n2_; have HO119 := n3_; clear n0_ n1_ n2_ n3_; clear ho hb hg hat; obtain ⟨Ao36, co36, eo36⟩ := Kd.R_slice HO119.out; subst eo36) | ((with_reducible refine gate_builtin (b := .append) (xs := #[.tmp 85, .tmp 87]) rfl ?_); (try (refine gate_guard (by rfl) ?_; dsimp only)); at_builtin; refine Kd.S_append (Kd.slice 9 Kd.string) (w0 := w) w.heap.size rfl (.tmp 85) (.tmp 87) 22 36 (.slice none 0 0) 24 rfl Tryd.underlying22 info36 rfl (by decide) (by omega) u6 x6_1 y117 [.slice Ao36 y117.length co36] (fun k_ => some k_ ≠ (v109 : Value).ownBlock) (fun k_ => some k_ = (.slice Ao36 y117.length co36 : Value).ownBlock) rfl rfl ?aP (fun k_ hk_ => ((Kd.R_mono (ok' := fun k_ => ((fun k_ => some k_ ≠ (v109 : Value).ownBlock)) k_ ∧ some k_ ≠ (u6 : Value).ownBlock) (Kd.R_apart' (Kd.R_apart' (HO119.out) (Kd.S_typed HO_5.out) (by decide)) (Kd.S_typed HO_6.out) (by decide)) (fun k_ hk => ⟨hk.1.2, hk.2⟩))).1 k_ hk_.symm) ?aF ?aO ?aB ?aS ?aL ?_; (case aP => exact Kd.M_row (Kd.R_mono (Kd.R_tight rfl (Kd.R_mono (ok' := fun k_ => ((fun k_ => some k_ ≠ (v109 : Value).ownBlock)) k_ ∧ some k_ ≠ (u6 : Value).ownBlock) (Kd.R_apart' (Kd.R_apart' (HO119.out) (Kd.S_typed HO_5.out) (by decide)) (Kd.S_typed HO_6.out) (by decide)) (fun k_ hk => ⟨hk.1.2, hk.2⟩))) (fun _ h_ => h_))); (case aB => exact (by repeat (first | (with_reducible first | exact HB.out | apply below_alloc | apply pw_below_drewN | apply below_drew1) | exact HB.out))); (case aF => exact (fun k_ hk => Kd.fresh' (Kd.S_lt (by (with_reducible repeat (first | apply Kd.S_alloc | apply Kd.S_drewN | apply Kd.S_drew)); exact HO_5.out)) k_ hk)); (case aO => exact (by (with_reducible repeat (first | apply Kd.S_alloc | apply Kd.S_drewN | apply Kd.S_drew)); exact Kd.S_mono HO_6.out (fun k_ hk => ⟨hk.1, fun e_ => hk.2 e_⟩))); (case aS => exact (below_size (by repeat (first | (with_reducible first | exact HB.out | apply below_alloc | apply pw_below_drewN | apply below_drew1) | exact HB.out)))); (case aL => have := LMc34.out; omega); intro v121 w37 ho hb hg hat; rw [← Ny120.out] at ho; have n0_ := Aside0.mk (Kd.S_after (ok := (fun k_ => some k_ ≠ (.slice Ao36 y117.length co36 : Value).ownBlock)) (by (with_reducible repeat (first | apply Kd.S_alloc | apply Kd.S_drewN | apply Kd.S_drew)); exact Kd.S_mono HO_5.out (fun _ hk => ⟨hk.2, hk.1⟩)) hg hat); have n1_ := Aside0.mk (hb); have n2_ := Aside0.mk (ho); clear HO_5; clear HB; clear HO_6; clear HO119; have HO_5 := n0_; have HB := n1_; have HO122 := n2_; clear n0_ n1_ n2_; clear ho hb hg hat) | ((with_reducible refine gate_dst (N := 89) rfl ?_); (try (refine gate_guard (by rfl) ?_; dsimp only)); refine Kd.R_lit Kd.string _ 9 ?hg (N := 89) ?hd (xs := ([] : List ByteArray)) (inner := []) (ok := fun _ => True) (okp := fun _ => True) ?hr ?hp (fun _ hk => hk) trivial (Below.refl _ _) (Nat.le_refl _) (by simp) ?_; (case hd => rfl); (case hg => rfl); (case hr => first | (go_simp; done) | (go_simp; rfl)); (case hp => exact (Reps.none _ _)); intro v124 w38 ho39 hb hg_ hnew_; clear hg_ hnew_; (first | rw [← Ny123.out] at ho39 | (simp only [Int.reduceToNat] at ho39; rw [← Ny123.out] at ho39)); have n0_ := Aside0.mk (Kd.S_elder' (by (with_reducible repeat (first | apply Kd.S_alloc | apply Kd.S_drewN | apply Kd.S_drew)); exact HO_5.out) (Kd.R_base ho39) hb); have n1_ := Aside0.mk (Kd.S_elder' (by (with_reducible repeat (first | apply Kd.S_alloc | apply Kd.S_drewN | apply Kd.S_drew)); exact HO122.out) (Kd.R_base ho39) hb); have n2_ := Aside0.mk (Kd.R_lower ho39 (below_size (by repeat (first | (with_reducible first | exact HB.out | apply below_alloc | apply pw_below_drewN | apply below_drew1) | exact HB.out)))); have n3_ := Aside0.mk (below_step (by repeat (first | (with_reducible first | exact HB.out | apply below_alloc | apply pw_below_drewN | apply below_drew1) | exact HB.out)) hb); clear HO_5; clear HO122; clear HB; have HO_5 := n0_; have HO122 := n1_; have HO125 := n2_; have HB := n3_; clear n0_ n1_ n2_ n3_; clear hb ho39))
                                    go_roundg kj24
                                    case measure => have := HK1.out; have := HJ24.out; omega
                                    case rel => exact ⟨(y120), (y123), ((⟨#[]⟩ : ByteArray)), (false), (x10_1), ((wrap64 (x11_1 + 1))), (by first | rfl | (simp; done) | (simp [*]; done)), (by first | rfl | (simp; done) | (simp [*]; done)), (by first | rfl | (simp; done) | (simp [*]; done)), (by first | rfl | (simp; done) | (simp [*]; done)), H', ⟨by have := HK1.out; have := HJ24.out; omega⟩, ⟨by (with_reducible repeat (first | apply Kd.S_alloc | apply Kd.S_drewN | apply Kd.S_drew)); exact Kd.S_mono HO_5.out (fun _ hk => ⟨hk.1.2, hk.2⟩)⟩, ⟨by (with_reducible repeat (first | apply Kd.S_alloc | apply Kd.S_drewN | apply Kd.S_drew)); exact HO122.out⟩, ⟨by (with_reducible repeat (first | apply Kd.R_alloc | apply Kd.R_drewN | apply Kd.R_drew)); exact HO125.out⟩, ⟨by repeat (first | (with_reducible first | exact HB.out | apply below_alloc | apply pw_below_drewN | apply below_drew1) | exact HB.out)⟩⟩
                                  · rw [if_neg c34] at H
                                    exact absurd H (by simp)
                                · rw [if_neg c33] at H
                                  have c33b0 : decide (0 < (y117.length : Int)) = false := decide_eq_false c33
                                  have c33b1 : decide (0 < y117.length) = false := decide_eq_false (by omega)
                                  clear c33
                                  have H' := Aside0.mk H
                                  clear H
                                  go_wp2_with (first | ((with_reducible refine gate_builtin (b := .append) (xs := #[.tmp 74, .tmp 76]) rfl ?_); (try (refine gate_guard (by rfl) ?_; dsimp only)); at_builtin; refine Kd.R_append Kd.string (w0 := w) w.heap.size rfl (.tmp 74) (.tmp 76) 36 9 (.string ⟨#[]⟩) 16 rfl Tryd.underlying36 info9 rfl (by decide) (by omega) u7 x7_1 x8_1 [.string x8_1] (fun _ => True) (fun _ => False) rfl rfl ?aP (fun _ hk => hk.elim) ?aF ?aO ?aB ?aS ?aL ?_; (case aP => exact rfl); (case aB => exact (by repeat (first | (with_reducible first | exact HB.out | apply below_alloc | apply pw_below_drewN | apply below_drew1) | exact HB.out))); (case aF => exact (fun _ _ => trivial)); (case aO => exact (by (with_reducible repeat (first | apply Kd.R_alloc | apply Kd.R_drewN | apply Kd.R_drew)); exact HO_7.out)); (case aS => exact (below_size (by repeat (first | (with_reducible first | exact HB.out | apply below_alloc | apply pw_below_drewN | apply below_drew1) | exact HB.out)))); (case aL => have := LMc31.out; omega); intro v118 w40 ho hb hg hat; rw [← Ny117.out] at ho; have n0_ := Aside0.mk (Kd.S_after (ok := (fun k_ => some k_ ≠ (u6 : Value).ownBlock)) (by (with_reducible repeat (first | apply Kd.S_alloc | apply Kd.S_drewN | apply Kd.S_drew)); exact HO_5.out) hg hat); have n1_ := Aside0.mk (Kd.S_after (ok := (fun k_ => some k_ ≠ (v109 : Value).ownBlock)) (by (with_reducible repeat (first | apply Kd.S_alloc | apply Kd.S_drewN | apply Kd.S_drew)); exact HO_6.out) hg hat); have n2_ := Aside0.mk (hb); have n3_ := Aside0.mk (ho); clear HO_5; clear HO_6; clear HB; clear HO_7; have HO_5 := n0_; have HO_6 := n1_; have HB := n2_; have HO119 := n3_; clear n0_ n1_ n2_ n3_; clear ho hb hg hat; obtain ⟨Ao41, co41, eo41⟩ := Kd.R_slice HO119.out; subst eo41))
                                  go_roundg kj24
                                  case measure => have := HK1.out; have := HJ24.out; omega
                                  case rel => exact ⟨(x6_1), (y117), ((⟨#[]⟩ : ByteArray)), (false), (x10_1), ((wrap64 (x11_1 + 1))), (by first | rfl | (simp; done) | (simp [*]; done)), (by first | rfl | (simp; done) | (simp [*]; done)), (by first | rfl | (simp; done) | (simp [*]; done)), (by first | rfl | (simp; done) | (simp [*]; done)), H', ⟨by have := HK1.out; have := HJ24.out; omega⟩, ⟨by (with_reducible repeat (first | apply Kd.S_alloc | apply Kd.S_drewN | apply Kd.S_drew)); exact HO_5.out⟩, ⟨by (with_reducible repeat (first | apply Kd.S_alloc | apply Kd.S_drewN | apply Kd.S_drew)); exact HO_6.out⟩, ⟨by (with_reducible repeat (first | apply Kd.R_alloc | apply Kd.R_drewN | apply Kd.R_drew)); exact HO119.out⟩, ⟨by repeat (first | (with_reducible first | exact HB.out | apply below_alloc | apply pw_below_drewN | apply below_drew1) | exact HB.out)⟩⟩
                              · rw [if_neg c32] at H
                                have c32b0 : ((a0.extract (x11_1 : Int).toNat ((wrap64 (x11_1 + 1)) : Int).toNat).toList == ([59] : List UInt8)) = false := beq_eq_false_iff_ne.mpr c32
                                have c32b1 : ((a0.extract (x11_1 : Int).toNat ((wrap64 (x11_1 + 1)) : Int).toNat).toList != ([59] : List UInt8)) = true := bne_iff_ne.mpr c32
                                have H' := Aside0.mk H
                                clear H
                                go_wp2_with (first | ((with_reducible refine gate_builtin (b := .append) (xs := #[.tmp 74, .tmp 76]) rfl ?_); (try (refine gate_guard (by rfl) ?_; dsimp only)); at_builtin; refine Kd.R_append Kd.string (w0 := w) w.heap.size rfl (.tmp 74) (.tmp 76) 36 9 (.string ⟨#[]⟩) 16 rfl Tryd.underlying36 info9 rfl (by decide) (by omega) u7 x7_1 x8_1 [.string x8_1] (fun _ => True) (fun _ => False) rfl rfl ?aP (fun _ hk => hk.elim) ?aF ?aO ?aB ?aS ?aL ?_; (case aP => exact rfl); (case aB => exact (by repeat (first | (with_reducible first | exact HB.out | apply below_alloc | apply pw_below_drewN | apply below_drew1) | exact HB.out))); (case aF => exact (fun _ _ => trivial)); (case aO => exact (by (with_reducible repeat (first | apply Kd.R_alloc | apply Kd.R_drewN | apply Kd.R_drew)); exact HO_7.out)); (case aS => exact (below_size (by repeat (first | (with_reducible first | exact HB.out | apply below_alloc | apply pw_below_drewN | apply below_drew1) | exact HB.out)))); (case aL => have := LMc31.out; omega); intro v118 w42 ho hb hg hat; rw [← Ny117.out] at ho; have n0_ := Aside0.mk (Kd.S_after (ok := (fun k_ => some k_ ≠ (u6 : Value).ownBlock)) (by (with_reducible repeat (first | apply Kd.S_alloc | apply Kd.S_drewN | apply Kd.S_drew)); exact HO_5.out) hg hat); have n1_ := Aside0.mk (Kd.S_after (ok := (fun k_ => some k_ ≠ (v109 : Value).ownBlock)) (by (with_reducible repeat (first | apply Kd.S_alloc | apply Kd.S_drewN | apply Kd.S_drew)); exact HO_6.out) hg hat); have n2_ := Aside0.mk (hb); have n3_ := Aside0.mk (ho); clear HO_5; clear HO_6; clear HB; clear HO_7; have HO_5 := n0_; have HO_6 := n1_; have HB := n2_; have HO119 := n3_; clear n0_ n1_ n2_ n3_; clear ho hb hg hat))
                                go_roundg kj24
                                case measure => have := HK1.out; have := HJ24.out; omega
                                case rel => exact ⟨(x6_1), (y117), ((⟨#[]⟩ : ByteArray)), (false), (x10_1), ((wrap64 (x11_1 + 1))), (by first | rfl | (simp; done) | (simp [*]; done)), (by first | rfl | (simp; done) | (simp [*]; done)), (by first | rfl | (simp; done) | (simp [*]; done)), (by first | rfl | (simp; done) | (simp [*]; done)), H', ⟨by have := HK1.out; have := HJ24.out; omega⟩, ⟨by (with_reducible repeat (first | apply Kd.S_alloc | apply Kd.S_drewN | apply Kd.S_drew)); exact HO_5.out⟩, ⟨by (with_reducible repeat (first | apply Kd.S_alloc | apply Kd.S_drewN | apply Kd.S_drew)); exact HO_6.out⟩, ⟨by (with_reducible repeat (first | apply Kd.R_alloc | apply Kd.R_drewN | apply Kd.R_drew)); exact HO119.out⟩, ⟨by repeat (first | (with_reducible first | exact HB.out | apply below_alloc | apply pw_below_drewN | apply below_drew1) | exact HB.out)⟩⟩
                            · rw [if_neg c31] at H
                              exact absurd H (by simp)
                          · replace c30 := Bool.eq_false_iff.mpr c30
                            subst c30
                            have H1 : (if (a0.extract (x11_1 : Int).toNat ((wrap64 (x11_1 + 1)) : Int).toNat).toList = ([59] : List UInt8) then (if (x7_1.length : Int) > 0 then (if x6_1.length < 5864062014805 then (sashref20_Cut.l0 kj24 a0 y108 (x6_1 ++ [x7_1]) (([] : List ByteArray)) (⟨#[]⟩ : ByteArray) false x10_1 (wrap64 (x11_1 + 1))) else (none)) else (sashref20_Cut.l0 kj24 a0 y108 x6_1 x7_1 (⟨#[]⟩ : ByteArray) false x10_1 (wrap64 (x11_1 + 1)))) else (sashref20_Cut.l0 kj24 a0 y108 x6_1 x7_1 (⟨#[]⟩ : ByteArray) false x10_1 (wrap64 (x11_1 + 1)))) = some (r1, r2, r3) := by rw [if_neg (show ¬ (false = true) by decide)] at H; exact H
                            clear H
                            have H := H1
                            clear H1
                            by_cases c43 : (a0.extract (x11_1 : Int).toNat ((wrap64 (x11_1 + 1)) : Int).toNat).toList = ([59] : List UInt8)
                            · rw [if_pos c43] at H
                              have c43b0 : ((a0.extract (x11_1 : Int).toNat ((wrap64 (x11_1 + 1)) : Int).toNat).toList == ([59] : List UInt8)) = true := beq_iff_eq.mpr c43
                              have c43b1 : ((a0.extract (x11_1 : Int).toNat ((wrap64 (x11_1 + 1)) : Int).toNat).toList != ([59] : List UInt8)) = false := bne_eq_false_iff_eq.mpr c43
                              clear c43
                              by_cases c44 : (x7_1.length : Int) > 0
                              · rw [if_pos c44] at H
                                have c44b0 : decide (0 < (x7_1.length : Int)) = true := decide_eq_true c44
                                have c44b1 : decide (0 < x7_1.length) = true := decide_eq_true (by omega)
                                clear c44
                                by_cases c45 : x6_1.length < 5864062014805
                                · rw [if_pos c45] at H
                                  have LMc45 := Aside0.mk c45
                                  clear c45
                                  obtain ⟨y126, hy126⟩ : ∃ y_ : List (List ByteArray), y_ = (x6_1 ++ [x7_1]) := ⟨_, rfl⟩
                                  replace H : (sashref20_Cut.l0 kj24 a0 y108 y126 (([] : List ByteArray)) (⟨#[]⟩ : ByteArray) false x10_1 (wrap64 (x11_1 + 1))) = some (r1, r2, r3) := by first | (rw [hy126]; with_reducible exact H) | (have H2_ := (Option.bind_some _ _).symm.trans H; rw [hy126]; with_reducible exact H2_) | (have H2_ := (Option.bind_some _ _).symm.trans H; with_reducible exact H2_) | with_reducible exact H | (rw [hy126]; exact H) | exact H
                                  have Ny126 := Aside0.mk hy126
                                  clear hy126
                                  obtain ⟨y129, hy129⟩ : ∃ y_ : List ByteArray, y_ = (([] : List ByteArray)) := ⟨_, rfl⟩
                                  replace H : (sashref20_Cut.l0 kj24 a0 y108 y126 y129 (⟨#[]⟩ : ByteArray) false x10_1 (wrap64 (x11_1 + 1))) = some (r1, r2, r3) := by first | (rw [hy129]; with_reducible exact H) | (have H2_ := (Option.bind_some _ _).symm.trans H; rw [hy129]; with_reducible exact H2_) | (have H2_ := (Option.bind_some _ _).symm.trans H; with_reducible exact H2_) | with_reducible exact H | (rw [hy129]; exact H) | exact H
                                  have Ny129 := Aside0.mk hy129
                                  clear hy129
                                  have H' := Aside0.mk H
                                  clear H
                                  obtain ⟨Ao46, co46, eo46⟩ := Kd.R_slice HO_7.out
                                  subst eo46
                                  go_wp2_with (first | ((with_reducible refine gate_builtin (b := .append) (xs := #[.tmp 85, .tmp 87]) rfl ?_); (try (refine gate_guard (by rfl) ?_; dsimp only)); at_builtin; refine Kd.S_append (Kd.slice 9 Kd.string) (w0 := w) w.heap.size rfl (.tmp 85) (.tmp 87) 22 36 (.slice none 0 0) 24 rfl Tryd.underlying22 info36 rfl (by decide) (by omega) u6 x6_1 x7_1 [.slice Ao46 x7_1.length co46] (fun k_ => some k_ ≠ (v109 : Value).ownBlock) (fun k_ => some k_ = (.slice Ao46 x7_1.length co46 : Value).ownBlock) rfl rfl ?aP (fun k_ hk_ => ((Kd.R_mono (ok' := fun k_ => ((fun k_ => some k_ ≠ (v109 : Value).ownBlock)) k_ ∧ some k_ ≠ (u6 : Value).ownBlock) (Kd.R_apart' (Kd.R_apart' (HO_7.out) (Kd.S_typed HO_5.out) (by decide)) (Kd.S_typed HO_6.out) (by decide)) (fun k_ hk => ⟨hk.1.2, hk.2⟩))).1 k_ hk_.symm) ?aF ?aO ?aB ?aS ?aL ?_; (case aP => exact Kd.M_row (Kd.R_mono (Kd.R_tight rfl (Kd.R_mono (ok' := fun k_ => ((fun k_ => some k_ ≠ (v109 : Value).ownBlock)) k_ ∧ some k_ ≠ (u6 : Value).ownBlock) (Kd.R_apart' (Kd.R_apart' (HO_7.out) (Kd.S_typed HO_5.out) (by decide)) (Kd.S_typed HO_6.out) (by decide)) (fun k_ hk => ⟨hk.1.2, hk.2⟩))) (fun _ h_ => h_))); (case aB => exact (by repeat (first | (with_reducible first | exact HB.out | apply below_alloc | apply pw_below_drewN | apply below_drew1) | exact HB.out))); (case aF => exact (fun k_ hk => Kd.fresh' (Kd.S_lt (by (with_reducible repeat (first | apply Kd.S_alloc | apply Kd.S_drewN | apply Kd.S_drew)); exact HO_5.out)) k_ hk)); (case aO => exact (by (with_reducible repeat (first | apply Kd.S_alloc | apply Kd.S_drewN | apply Kd.S_drew)); exact Kd.S_mono HO_6.out (fun k_ hk => ⟨hk.1, fun e_ => hk.2 e_⟩))); (case aS => exact (below_size (by repeat (first | (with_reducible first | exact HB.out | apply below_alloc | apply pw_below_drewN | apply below_drew1) | exact HB.out)))); (case aL => have := LMc45.out; omega); intro v127 w47 ho hb hg hat; rw [← Ny126.out] at ho; have n0_ := Aside0.mk (Kd.S_after (ok := (fun k_ => some k_ ≠ (.slice Ao46 x7_1.length co46 : Value).ownBlock)) (by (with_reducible repeat (first | apply Kd.S_alloc | apply Kd.S_drewN | apply Kd.S_drew)); exact Kd.S_mono HO_5.out (fun _ hk => ⟨hk.2, hk.1⟩)) hg hat); have n1_ := Aside0.mk (hb); have n2_ := Aside0.mk (ho); clear HO_5; clear HB; clear HO_6; clear HO_7; have HO_5 := n0_; have HB := n1_; have HO128 := n2_; clear n0_ n1_ n2_; clear ho hb hg hat) | ((with_reducible refine gate_dst (N := 89) rfl ?_); (try (refine gate_guard (by rfl) ?_; dsimp only)); refine Kd.R_lit Kd.string _ 9 ?hg (N := 89) ?hd (xs := ([] : List ByteArray)) (inner := []) (ok := fun _ => True) (okp := fun _ => True) ?hr ?hp (fun _ hk => hk) trivial (Below.refl _ _) (Nat.le_refl _) (by simp) ?_; (case hd => rfl); (case hg => rfl); (case hr => first | (go_simp; done) | (go_simp; rfl)); (case hp => exact (Reps.none _ _)); intro v130 w48 ho49 hb hg_ hnew_; clear hg_ hnew_; (first | rw [← Ny129.out] at ho49 | (simp only [Int.reduceToNat] at ho49; rw [← Ny129.out] at ho49)); have n0_ := Aside0.mk (Kd.S_elder' (by (with_reducible repeat (first | apply Kd.S_alloc | apply Kd.S_drewN | apply Kd.S_drew)); exact HO_5.out) (Kd.R_base ho49) hb); have n1_ := Aside0.mk (Kd.S_elder' (by (with_reducible repeat (first | apply Kd.S_alloc | apply Kd.S_drewN | apply Kd.S_drew)); exact HO128.out) (Kd.R_base ho49) hb); have n2_ := Aside0.mk (Kd.R_lower ho49 (below_size (by repeat (first | (with_reducible first | exact HB.out | apply below_alloc | apply pw_below_drewN | apply below_drew1) | exact HB.out)))); have n3_ := Aside0.mk (below_step (by repeat (first | (with_reducible first | exact HB.out | apply below_alloc | apply pw_below_drewN | apply below_drew1) | exact HB.out)) hb); clear HO_5; clear HO128; clear HB; have HO_5 := n0_; have HO128 := n1_; have HO131 := n2_; have HB := n3_; clear n0_ n1_ n2_ n3_; clear hb ho49))
                                  go_roundg kj24
                                  case measure => have := HK1.out; have := HJ24.out; omega
                                  case rel => exact ⟨(y126), (y129), ((⟨#[]⟩ : ByteArray)), (false), (x10_1), ((wrap64 (x11_1 + 1))), (by first | rfl | (simp; done) | (simp [*]; done)), (by first | rfl | (simp; done) | (simp [*]; done)), (by first | rfl | (simp; done) | (simp [*]; done)), (by first | rfl | (simp; done) | (simp [*]; done)), H', ⟨by have := HK1.out; have := HJ24.out; omega⟩, ⟨by (with_reducible repeat (first | apply Kd.S_alloc | apply Kd.S_drewN | apply Kd.S_drew)); exact Kd.S_mono HO_5.out (fun _ hk => ⟨hk.1.2, hk.2⟩)⟩, ⟨by (with_reducible repeat (first | apply Kd.S_alloc | apply Kd.S_drewN | apply Kd.S_drew)); exact HO128.out⟩, ⟨by (with_reducible repeat (first | apply Kd.R_alloc | apply Kd.R_drewN | apply Kd.R_drew)); exact HO131.out⟩, ⟨by repeat (first | (with_reducible first | exact HB.out | apply below_alloc | apply pw_below_drewN | apply below_drew1) | exact HB.out)⟩⟩
                                · rw [if_neg c45] at H
                                  exact absurd H (by simp)
                              · rw [if_neg c44] at H
                                have c44b0 : decide (0 < (x7_1.length : Int)) = false := decide_eq_false c44
                                have c44b1 : decide (0 < x7_1.length) = false := decide_eq_false (by omega)
                                clear c44
                                have H' := Aside0.mk H
                                clear H
                                obtain ⟨Ao50, co50, eo50⟩ := Kd.R_slice HO_7.out
                                subst eo50
                                go_wp2
                                go_roundg kj24
                                case measure => have := HK1.out; have := HJ24.out; omega
                                case rel => exact ⟨(x6_1), (x7_1), ((⟨#[]⟩ : ByteArray)), (false), (x10_1), ((wrap64 (x11_1 + 1))), (by first | rfl | (simp; done) | (simp [*]; done)), (by first | rfl | (simp; done) | (simp [*]; done)), (by first | rfl | (simp; done) | (simp [*]; done)), (by first | rfl | (simp; done) | (simp [*]; done)), H', ⟨by have := HK1.out; have := HJ24.out; omega⟩, ⟨by (with_reducible repeat (first | apply Kd.S_alloc | apply Kd.S_drewN | apply Kd.S_drew)); exact HO_5.out⟩, ⟨by (with_reducible repeat (first | apply Kd.S_alloc | apply Kd.S_drewN | apply Kd.S_drew)); exact HO_6.out⟩, ⟨by (with_reducible repeat (first | apply Kd.R_alloc | apply Kd.R_drewN | apply Kd.R_drew)); exact HO_7.out⟩, ⟨by repeat (first | (with_reducible first | exact HB.out | apply below_alloc | apply pw_below_drewN | apply below_drew1) | exact HB.out)⟩⟩
                            · rw [if_neg c43] at H
                              have c43b0 : ((a0.extract (x11_1 : Int).toNat ((wrap64 (x11_1 + 1)) : Int).toNat).toList == ([59] : List UInt8)) = false := beq_eq_false_iff_ne.mpr c43
                              have c43b1 : ((a0.extract (x11_1 : Int).toNat ((wrap64 (x11_1 + 1)) : Int).toNat).toList != ([59] : List UInt8)) = true := bne_iff_ne.mpr c43
                              have H' := Aside0.mk H
                              clear H
                              go_wp2
                              go_roundg kj24
                              case measure => have := HK1.out; have := HJ24.out; omega
                              case rel => exact ⟨(x6_1), (x7_1), ((⟨#[]⟩ : ByteArray)), (false), (x10_1), ((wrap64 (x11_1 + 1))), (by first | rfl | (simp; done) | (simp [*]; done)), (by first | rfl | (simp; done) | (simp [*]; done)), (by first | rfl | (simp; done) | (simp [*]; done)), (by first | rfl | (simp; done) | (simp [*]; done)), H', ⟨by have := HK1.out; have := HJ24.out; omega⟩, ⟨by (with_reducible repeat (first | apply Kd.S_alloc | apply Kd.S_drewN | apply Kd.S_drew)); exact HO_5.out⟩, ⟨by (with_reducible repeat (first | apply Kd.S_alloc | apply Kd.S_drewN | apply Kd.S_drew)); exact HO_6.out⟩, ⟨by (with_reducible repeat (first | apply Kd.R_alloc | apply Kd.R_drewN | apply Kd.R_drew)); exact HO_7.out⟩, ⟨by repeat (first | (with_reducible first | exact HB.out | apply below_alloc | apply pw_below_drewN | apply below_drew1) | exact HB.out)⟩⟩
                        · replace c29 := Bool.eq_false_iff.mpr c29
                          subst c29
                          have H1 : (if x8_1.size + (a0.extract (x11_1 : Int).toNat ((wrap64 (x11_1 + 1)) : Int).toNat).size ≤ 9223372036854775807 then (sashref20_Cut.l0 kj24 a0 y108 x6_1 x7_1 (x8_1 ++ (a0.extract (x11_1 : Int).toNat ((wrap64 (x11_1 + 1)) : Int).toNat)) true x10_1 (wrap64 (x11_1 + 1))) else (none)) = some (r1, r2, r3) := by rw [if_neg (show ¬ (false = true) by decide)] at H; exact H
                          clear H
                          have H := H1
                          clear H1
                          by_cases c51 : x8_1.size + (a0.extract (x11_1 : Int).toNat ((wrap64 (x11_1 + 1)) : Int).toNat).size ≤ 9223372036854775807
                          · rw [if_pos c51] at H
                            have c51b0 := eq_true c51
                            have c51b1 : decide (x8_1.size + (a0.extract (x11_1 : Int).toNat ((wrap64 (x11_1 + 1)) : Int).toNat).size ≤ 9223372036854775807) = true := decide_eq_true c51
                            try have c51b2 : (9223372036854775807 < x8_1.size + (a0.extract (x11_1 : Int).toNat ((wrap64 (x11_1 + 1)) : Int).toNat).size) = False := eq_false (Nat.not_lt.2 c51)
                            have H' := Aside0.mk H
                            clear H
                            go_wp2
                            go_roundg kj24
                            case measure => have := HK1.out; have := HJ24.out; omega
                            case rel => exact ⟨(x6_1), (x7_1), (x8_1 ++ (a0.extract (x11_1 : Int).toNat ((wrap64 (x11_1 + 1)) : Int).toNat)), (true), (x10_1), ((wrap64 (x11_1 + 1))), (by first | rfl | (simp; done) | (simp [*]; done)), (by first | rfl | (simp; done) | (simp [*]; done)), (by first | rfl | (simp; done) | (simp [*]; done)), (by first | rfl | (simp; done) | (simp [*]; done)), H', ⟨by have := HK1.out; have := HJ24.out; omega⟩, ⟨by (with_reducible repeat (first | apply Kd.S_alloc | apply Kd.S_drewN | apply Kd.S_drew)); exact HO_5.out⟩, ⟨by (with_reducible repeat (first | apply Kd.S_alloc | apply Kd.S_drewN | apply Kd.S_drew)); exact HO_6.out⟩, ⟨by (with_reducible repeat (first | apply Kd.R_alloc | apply Kd.R_drewN | apply Kd.R_drew)); exact HO_7.out⟩, ⟨by repeat (first | (with_reducible first | exact HB.out | apply below_alloc | apply pw_below_drewN | apply below_drew1) | exact HB.out)⟩⟩
                          · rw [if_neg c51] at H
                            exact absurd H (by simp)
              · rw [if_neg c14] at H
                exact absurd H (by simp)
            · rw [if_neg c13] at H
              exact absurd H (by simp)
          · rw [if_neg c12] at H
            exact absurd H (by simp)
        · rw [if_neg c11] at H
          have c11b0 : decide (x11_1 < (a0.size : Int)) = false := decide_eq_false c11
          clear c11
          by_cases c52 : x10_1 ≥ 0
          · rw [if_pos c52] at H
            have c52b0 : decide (0 ≤ x10_1) = true := decide_eq_true c52
            clear c52
            simp only [Option.some.injEq, Prod.mk.injEq] at H
            obtain ⟨rfl, rfl, rfl⟩ := H
            go_wp2
            go_ret3
            exact ⟨_, by first | rfl | (simp [errW_none, errW_some] <;> rfl) | (simp [*, errW_none, errW_some] <;> rfl), by (with_reducible repeat (first | apply Kd.S_alloc | apply Kd.S_drewN | apply Kd.S_drew)); exact Kd.S_mono HO_5.out (fun _ hk => trivial), by repeat (first | (with_reducible first | exact HB.out | apply below_alloc | apply pw_below_drewN | apply below_drew1) | exact HB.out)⟩
          · rw [if_neg c52] at H
            have c52b0 : decide (0 ≤ x10_1) = false := decide_eq_false c52
            clear c52
            by_cases c53 : x9_1 = true
            · subst c53
              have H1 : (if x7_1.length < 8796093022208 then ((some (x7_1 ++ [x8_1] : List ByteArray)).bind fun y132 => (if (y132.length : Int) > 0 then (if x6_1.length < 5864062014805 then (some ((x6_1 ++ [y132]), 0, 0)) else (none)) else (some (x6_1, 0, 0)))) else (none)) = some (r1, r2, r3) := by rw [if_pos rfl] at H; exact H
              clear H
              have H := H1
              clear H1
              by_cases c54 : x7_1.length < 8796093022208
              · rw [if_pos c54] at H
                have LMc54 := Aside0.mk c54
                clear c54
                obtain ⟨y132, hy132⟩ : ∃ y_ : List ByteArray, y_ = (x7_1 ++ [x8_1]) := ⟨_, rfl⟩
                replace H : (if (y132.length : Int) > 0 then (if x6_1.length < 5864062014805 then (some ((x6_1 ++ [y132]), 0, 0)) else (none)) else (some (x6_1, 0, 0))) = some (r1, r2, r3) := by first | (rw [hy132]; with_reducible exact H) | (have H2_ := (Option.bind_some _ _).symm.trans H; rw [hy132]; with_reducible exact H2_) | (have H2_ := (Option.bind_some _ _).symm.trans H; with_reducible exact H2_) | with_reducible exact H | (rw [hy132]; exact H) | exact H
                have Ny132 := Aside0.mk hy132
                clear hy132
                by_cases c55 : (y132.length : Int) > 0
                · rw [if_pos c55] at H
                  have c55b0 : decide (0 < (y132.length : Int)) = true := decide_eq_true c55
                  have c55b1 : decide (0 < y132.length) = true := decide_eq_true (by omega)
                  clear c55
                  by_cases c56 : x6_1.length < 5864062014805
                  · rw [if_pos c56] at H
                    have LMc56 := Aside0.mk c56
                    clear c56
                    obtain ⟨y135, hy135⟩ : ∃ y_ : List (List ByteArray), y_ = (x6_1 ++ [y132]) := ⟨_, rfl⟩
                    replace H : (some (y135, 0, 0)) = some (r1, r2, r3) := by first | (rw [hy135]; with_reducible exact H) | (have H2_ := (Option.bind_some _ _).symm.trans H; rw [hy135]; with_reducible exact H2_) | (have H2_ := (Option.bind_some _ _).symm.trans H; with_reducible exact H2_) | with_reducible exact H | (rw [hy135]; exact H) | exact H
                    have Ny135 := Aside0.mk hy135
                    clear hy135
                    simp only [Option.some.injEq, Prod.mk.injEq] at H
                    obtain ⟨rfl, rfl, rfl⟩ := H
                    go_wp2_with (first | ((with_reducible refine gate_builtin (b := .append) (xs := #[.tmp 98, .tmp 100]) rfl ?_); (try (refine gate_guard (by rfl) ?_; dsimp only)); at_builtin; refine Kd.R_append Kd.string (w0 := w) w.heap.size rfl (.tmp 98) (.tmp 100) 36 9 (.string ⟨#[]⟩) 16 rfl Tryd.underlying36 info9 rfl (by decide) (by omega) u7 x7_1 x8_1 [.string x8_1] (fun _ => True) (fun _ => False) rfl rfl ?aP (fun _ hk => hk.elim) ?aF ?aO ?aB ?aS ?aL ?_; (case aP => exact rfl); (case aB => exact (by repeat (first | (with_reducible first | exact HB.out | apply below_alloc | apply pw_below_drewN | apply below_drew1) | exact HB.out))); (case aF => exact (fun _ _ => trivial)); (case aO => exact (by (with_reducible repeat (first | apply Kd.R_alloc | apply Kd.R_drewN | apply Kd.R_drew)); exact HO_7.out)); (case aS => exact (below_size (by repeat (first | (with_reducible first | exact HB.out | apply below_alloc | apply pw_below_drewN | apply below_drew1) | exact HB.out)))); (case aL => have := LMc54.out; omega); intro v133 w57 ho hb hg hat; rw [← Ny132.out] at ho; have n0_ := Aside0.mk (Kd.S_after (ok := (fun k_ => some k_ ≠ (u6 : Value).ownBlock)) (by (with_reducible repeat (first | apply Kd.S_alloc | apply Kd.S_drewN | apply Kd.S_drew)); exact HO_5.out) hg hat); have n1_ := Aside0.mk (Kd.S_after (ok := (fun k_ => some k_ ≠ (v109 : Value).ownBlock)) (by (with_reducible repeat (first | apply Kd.S_alloc | apply Kd.S_drewN | apply Kd.S_drew)); exact HO_6.out) hg hat); have n2_ := Aside0.mk (hb); have n3_ := Aside0.mk (ho); clear HO_5; clear HO_6; clear HB; clear HO_7; have HO_5 := n0_; have HO_6 := n1_; have HB := n2_; have HO134 := n3_; clear n0_ n1_ n2_ n3_; clear ho hb hg hat; obtain ⟨Ao58, co58, eo58⟩ := Kd.R_slice HO134.out; subst eo58) | ((with_reducible refine gate_builtin (b := .append) (xs := #[.tmp 105, .tmp 107]) rfl ?_); (try (refine gate_guard (by rfl) ?_; dsimp only)); at_builtin; refine Kd.S_append (Kd.slice 9 Kd.string) (w0 := w) w.heap.size rfl (.tmp 105) (.tmp 107) 22 36 (.slice none 0 0) 24 rfl Tryd.underlying22 info36 rfl (by decide) (by omega) u6 x6_1 y132 [.slice Ao58 y132.length co58] (fun k_ => some k_ ≠ (v109 : Value).ownBlock) (fun k_ => some k_ = (.slice Ao58 y132.length co58 : Value).ownBlock) rfl rfl ?aP (fun k_ hk_ => ((Kd.R_mono (ok' := fun k_ => ((fun k_ => some k_ ≠ (v109 : Value).ownBlock)) k_ ∧ some k_ ≠ (u6 : Value).ownBlock) (Kd.R_apart' (Kd.R_apart' (HO134.out) (Kd.S_typed HO_5.out) (by decide)) (Kd.S_typed HO_6.out) (by decide)) (fun k_ hk => ⟨hk.1.2, hk.2⟩))).1 k_ hk_.symm) ?aF ?aO ?aB ?aS ?aL ?_; (case aP => exact Kd.M_row (Kd.R_mono (Kd.R_tight rfl (Kd.R_mono (ok' := fun k_ => ((fun k_ => some k_ ≠ (v109 : Value).ownBlock)) k_ ∧ some k_ ≠ (u6 : Value).ownBlock) (Kd.R_apart' (Kd.R_apart' (HO134.out) (Kd.S_typed HO_5.out) (by decide)) (Kd.S_typed HO_6.out) (by decide)) (fun k_ hk => ⟨hk.1.2, hk.2⟩))) (fun _ h_ => h_))); (case aB => exact (by repeat (first | (with_reducible first | exact HB.out | apply below_alloc | apply pw_below_drewN | apply below_drew1) | exact HB.out))); (case aF => exact (fun k_ hk => Kd.fresh' (Kd.S_lt (by (with_reducible repeat (first | apply Kd.S_alloc | apply Kd.S_drewN | apply Kd.S_drew)); exact HO_5.out)) k_ hk)); (case aO => exact (by (with_reducible repeat (first | apply Kd.S_alloc | apply Kd.S_drewN | apply Kd.S_drew)); exact Kd.S_mono HO_6.out (fun k_ hk => ⟨hk.1, fun e_ => hk.2 e_⟩))); (case aS => exact (below_size (by repeat (first | (with_reducible first | exact HB.out | apply below_alloc | apply pw_below_drewN | apply below_drew1) | exact HB.out)))); (case aL => have := LMc56.out; omega); intro v136 w59 ho hb hg hat; rw [← Ny135.out] at ho; have n0_ := Aside0.mk (Kd.S_after (ok := (fun k_ => some k_ ≠ (.slice Ao58 y132.length co58 : Value).ownBlock)) (by (with_reducible repeat (first | apply Kd.S_alloc | apply Kd.S_drewN | apply Kd.S_drew)); exact Kd.S_mono HO_5.out (fun _ hk => ⟨hk.2, hk.1⟩)) hg hat); have n1_ := Aside0.mk (hb); have n2_ := Aside0.mk (ho); clear HO_5; clear HB; clear HO_6; clear HO134; have HO_5 := n0_; have HB := n1_; have HO137 := n2_; clear n0_ n1_ n2_; clear ho hb hg hat))
                    go_ret3
                    exact ⟨_, by first | rfl | (simp [errW_none, errW_some] <;> rfl) | (simp [*, errW_none, errW_some] <;> rfl), by (with_reducible repeat (first | apply Kd.S_alloc | apply Kd.S_drewN | apply Kd.S_drew)); exact Kd.S_mono HO137.out (fun _ hk => trivial), by repeat (first | (with_reducible first | exact HB.out | apply below_alloc | apply pw_below_drewN | apply below_drew1) | exact HB.out)⟩
                  · rw [if_neg c56] at H
                    exact absurd H (by simp)
                · rw [if_neg c55] at H
                  have c55b0 : decide (0 < (y132.length : Int)) = false := decide_eq_false c55
                  have c55b1 : decide (0 < y132.length) = false := decide_eq_false (by omega)
                  clear c55
                  simp only [Option.some.injEq, Prod.mk.injEq] at H
                  obtain ⟨rfl, rfl, rfl⟩ := H
                  go_wp2_with (first | ((with_reducible refine gate_builtin (b := .append) (xs := #[.tmp 98, .tmp 100]) rfl ?_); (try (refine gate_guard (by rfl) ?_; dsimp only)); at_builtin; refine Kd.R_append Kd.string (w0 := w) w.heap.size rfl (.tmp 98) (.tmp 100) 36 9 (.string ⟨#[]⟩) 16 rfl Tryd.underlying36 info9 rfl (by decide) (by omega) u7 x7_1 x8_1 [.string x8_1] (fun _ => True) (fun _ => False) rfl rfl ?aP (fun _ hk => hk.elim) ?aF ?aO ?aB ?aS ?aL ?_; (case aP => exact rfl); (case aB => exact (by repeat (first | (with_reducible first | exact HB.out | apply below_alloc | apply pw_below_drewN | apply below_drew1) | exact HB.out))); (case aF => exact (fun _ _ => trivial)); (case aO => exact (by (with_reducible repeat (first | apply Kd.R_alloc | apply Kd.R_drewN | apply Kd.R_drew)); exact HO_7.out)); (case aS => exact (below_size (by repeat (first | (with_reducible first | exact HB.out | apply below_alloc | apply pw_below_drewN | apply below_drew1) | exact HB.out)))); (case aL => have := LMc54.out; omega); intro v133 w60 ho hb hg hat; rw [← Ny132.out] at ho; have n0_ := Aside0.mk (Kd.S_after (ok := (fun k_ => some k_ ≠ (u6 : Value).ownBlock)) (by (with_reducible repeat (first | apply Kd.S_alloc | apply Kd.S_drewN | apply Kd.S_drew)); exact HO_5.out) hg hat); have n1_ := Aside0.mk (Kd.S_after (ok := (fun k_ => some k_ ≠ (v109 : Value).ownBlock)) (by (with_reducible repeat (first | apply Kd.S_alloc | apply Kd.S_drewN | apply Kd.S_drew)); exact HO_6.out) hg hat); have n2_ := Aside0.mk (hb); have n3_ := Aside0.mk (ho); clear HO_5; clear HO_6; clear HB; clear HO_7; have HO_5 := n0_; have HO_6 := n1_; have HB := n2_; have HO134 := n3_; clear n0_ n1_ n2_ n3_; clear ho hb hg hat; obtain ⟨Ao61, co61, eo61⟩ := Kd.R_slice HO134.out; subst eo61))
                  go_ret3
                  exact ⟨_, by first | rfl | (simp [errW_none, errW_some] <;> rfl) | (simp [*, errW_none, errW_some] <;> rfl), by (with_reducible repeat (first | apply Kd.S_alloc | apply Kd.S_drewN | apply Kd.S_drew)); exact Kd.S_mono HO_6.out (fun _ hk => trivial), by repeat (first | (with_reducible first | exact HB.out | apply below_alloc | apply pw_below_drewN | apply below_drew1) | exact HB.out)⟩
              · rw [if_neg c54] at H
                exact absurd H (by simp)
            · replace c53 := Bool.eq_false_iff.mpr c53
              subst c53
              have H1 : (if (x7_1.length : Int) > 0 then (if x6_1.length < 5864062014805 then (some ((x6_1 ++ [x7_1]), 0, 0)) else (none)) else (some (x6_1, 0, 0))) = some (r1, r2, r3) := by rw [if_neg (show ¬ (false = true) by decide)] at H; exact H
              clear H
              have H := H1
              clear H1
              by_cases c62 : (x7_1.length : Int) > 0
              · rw [if_pos c62] at H
                have c62b0 : decide (0 < (x7_1.length : Int)) = true := decide_eq_true c62
                have c62b1 : decide (0 < x7_1.length) = true := decide_eq_true (by omega)
                clear c62
                by_cases c63 : x6_1.length < 5864062014805
                · rw [if_pos c63] at H
                  have LMc63 := Aside0.mk c63
                  clear c63
                  obtain ⟨y138, hy138⟩ : ∃ y_ : List (List ByteArray), y_ = (x6_1 ++ [x7_1]) := ⟨_, rfl⟩
                  replace H : (some (y138, 0, 0)) = some (r1, r2, r3) := by first | (rw [hy138]; with_reducible exact H) | (have H2_ := (Option.bind_some _ _).symm.trans H; rw [hy138]; with_reducible exact H2_) | (have H2_ := (Option.bind_some _ _).symm.trans H; with_reducible exact H2_) | with_reducible exact H | (rw [hy138]; exact H) | exact H
                  have Ny138 := Aside0.mk hy138
                  clear hy138
                  simp only [Option.some.injEq, Prod.mk.injEq] at H
                  obtain ⟨rfl, rfl, rfl⟩ := H
                  obtain ⟨Ao64, co64, eo64⟩ := Kd.R_slice HO_7.out
                  subst eo64
                  go_wp2_with (first | ((with_reducible refine gate_builtin (b := .append) (xs := #[.tmp 105, .tmp 107]) rfl ?_); (try (refine gate_guard (by rfl) ?_; dsimp only)); at_builtin; refine Kd.S_append (Kd.slice 9 Kd.string) (w0 := w) w.heap.size rfl (.tmp 105) (.tmp 107) 22 36 (.slice none 0 0) 24 rfl Tryd.underlying22 info36 rfl (by decide) (by omega) u6 x6_1 x7_1 [.slice Ao64 x7_1.length co64] (fun k_ => some k_ ≠ (v109 : Value).ownBlock) (fun k_ => some k_ = (.slice Ao64 x7_1.length co64 : Value).ownBlock) rfl rfl ?aP (fun k_ hk_ => ((Kd.R_mono (ok' := fun k_ => ((fun k_ => some k_ ≠ (v109 : Value).ownBlock)) k_ ∧ some k_ ≠ (u6 : Value).ownBlock) (Kd.R_apart' (Kd.R_apart' (HO_7.out) (Kd.S_typed HO_5.out) (by decide)) (Kd.S_typed HO_6.out) (by decide)) (fun k_ hk => ⟨hk.1.2, hk.2⟩))).1 k_ hk_.symm) ?aF ?aO ?aB ?aS ?aL ?_; (case aP => exact Kd.M_row (Kd.R_mono (Kd.R_tight rfl (Kd.R_mono (ok' := fun k_ => ((fun k_ => some k_ ≠ (v109 : Value).ownBlock)) k_ ∧ some k_ ≠ (u6 : Value).ownBlock) (Kd.R_apart' (Kd.R_apart' (HO_7.out) (Kd.S_typed HO_5.out) (by decide)) (Kd.S_typed HO_6.out) (by decide)) (fun k_ hk => ⟨hk.1.2, hk.2⟩))) (fun _ h_ => h_))); (case aB => exact (by repeat (first | (with_reducible first | exact HB.out | apply below_alloc | apply pw_below_drewN | apply below_drew1) | exact HB.out))); (case aF => exact (fun k_ hk => Kd.fresh' (Kd.S_lt (by (with_reducible repeat (first | apply Kd.S_alloc | apply Kd.S_drewN | apply Kd.S_drew)); exact HO_5.out)) k_ hk)); (case aO => exact (by (with_reducible repeat (first | apply Kd.S_alloc | apply Kd.S_drewN | apply Kd.S_drew)); exact Kd.S_mono HO_6.out (fun k_ hk => ⟨hk.1, fun e_ => hk.2 e_⟩))); (case aS => exact (below_size (by repeat (first | (with_reducible first | exact HB.out | apply below_alloc | apply pw_below_drewN | apply below_drew1) | exact HB.out)))); (case aL => have := LMc63.out; omega); intro v139 w65 ho hb hg hat; rw [← Ny138.out] at ho; have n0_ := Aside0.mk (Kd.S_after (ok := (fun k_ => some k_ ≠ (.slice Ao64 x7_1.length co64 : Value).ownBlock)) (by (with_reducible repeat (first | apply Kd.S_alloc | apply Kd.S_drewN | apply Kd.S_drew)); exact Kd.S_mono HO_5.out (fun _ hk => ⟨hk.2, hk.1⟩)) hg hat); have n1_ := Aside0.mk (hb); have n2_ := Aside0.mk (ho); clear HO_5; clear HB; clear HO_6; clear HO_7; have HO_5 := n0_; have HB := n1_; have HO140 := n2_; clear n0_ n1_ n2_; clear ho hb hg hat))
                  go_ret3
                  exact ⟨_, by first | rfl | (simp [errW_none, errW_some] <;> rfl) | (simp [*, errW_none, errW_some] <;> rfl), by (with_reducible repeat (first | apply Kd.S_alloc | apply Kd.S_drewN | apply Kd.S_drew)); exact Kd.S_mono HO140.out (fun _ hk => trivial), by repeat (first | (with_reducible first | exact HB.out | apply below_alloc | apply pw_below_drewN | apply below_drew1) | exact HB.out)⟩
                · rw [if_neg c63] at H
                  exact absurd H (by simp)
              · rw [if_neg c62] at H
                have c62b0 : decide (0 < (x7_1.length : Int)) = false := decide_eq_false c62
                have c62b1 : decide (0 < x7_1.length) = false := decide_eq_false (by omega)
                clear c62
                simp only [Option.some.injEq, Prod.mk.injEq] at H
                obtain ⟨rfl, rfl, rfl⟩ := H
                obtain ⟨Ao66, co66, eo66⟩ := Kd.R_slice HO_7.out
                subst eo66
                go_wp2
                go_ret3
                exact ⟨_, by first | rfl | (simp [errW_none, errW_some] <;> rfl) | (simp [*, errW_none, errW_some] <;> rfl), by (with_reducible repeat (first | apply Kd.S_alloc | apply Kd.S_drewN | apply Kd.S_drew)); exact Kd.S_mono HO_6.out (fun _ hk => trivial), by repeat (first | (with_reducible first | exact HB.out | apply below_alloc | apply pw_below_drewN | apply below_drew1) | exact HB.out)⟩

-- NOT PRINTED: function 6 (sashlaw20_WordsCut)

end Go.Proofs.YtelmmcjlhjahcaaDoor.PWordsCut
