/- Printed texts of this seat, cut to what is used. -/
import Derived.Test.YtkobpbbegalfpaaGreatDoorPsBase
import Derived.Test.YtkobpbbegalfpaaGreatDoorPParseBodiesx1
namespace Go.Proofs.YtkobpbbegalfpaaGreatDoor.PParseBodies
open Go.RowKit YtkobpbbegalfpaaGreatDoorW.PrintWords YtkobpbbegalfpaaGreatDoorW.PrintLast YtkobpbbegalfpaaGreatDoorW.PrintMore
attribute [local go_sem] max2_int min2_int max_two min_two max_three min_three max_four min_four
set_option linter.unusedVariables false
set_option linter.unusedSimpArgs false
attribute [local go_sem high] eqA24
mutual
def sashref05_Same.j0 : Nat → Bool → Int → Int → Int → Int → Int → Int → List (S27) → Int → Int → Int → Int → Int → Int → List (S27) → Option (Bool)
 | 0, _, _, _, _, _, _, _, _, _, _, _, _, _, _, _ => none
 | k + 1, x33, x447000, x447001, x447002, x447003, x447004, x447005, x447006, x448000, x448001, x448002, x448003, x448004, x448005, x448006 => if x33 = true then (some false) else (sashref05_Same.l0 k (x447006.length : Int) 0 x447000 x447001 x447002 x447003 x447004 x447005 x447006 x448000 x448001 x448002 x448003 x448004 x448005 x448006)
def sashref05_Same.l0 : Nat → Int → Int → Int → Int → Int → Int → Int → Int → List (S27) → Int → Int → Int → Int → Int → Int → List (S27) → Option (Bool)
 | 0, _, _, _, _, _, _, _, _, _, _, _, _, _, _, _, _ => none
 | k + 1, x36, x37, x447000, x447001, x447002, x447003, x447004, x447005, x447006, x448000, x448001, x448002, x448003, x448004, x448005, x448006 => if x37 < x36 then (if 0 ≤ x37 then (if x37 < (x447006.length : Int) then (if x37 < (x448006.length : Int) then ((sashref05_Same.f k ((rd_T27 x447006 x37).f0) ((rd_T27 x447006 x37).f1.f0) ((rd_T27 x447006 x37).f1.f1) ((rd_T27 x447006 x37).f1.f2) ((rd_T27 x447006 x37).f1.f3) ((rd_T27 x447006 x37).f2) ((rd_T27 x447006 x37).f3) ((rd_T27 x448006 x37).f0) ((rd_T27 x448006 x37).f1.f0) ((rd_T27 x448006 x37).f1.f1) ((rd_T27 x448006 x37).f1.f2) ((rd_T27 x448006 x37).f1.f3) ((rd_T27 x448006 x37).f2) ((rd_T27 x448006 x37).f3)).bind fun t450 => (if t450 = true then (sashref05_Same.l0 k x36 (wrap64 (x37 + 1)) x447000 x447001 x447002 x447003 x447004 x447005 x447006 x448000 x448001 x448002 x448003 x448004 x448005 x448006) else (some false))) else (none)) else (none)) else (none)) else (some true)
def sashref05_Same.f : Nat → Int → Int → Int → Int → Int → Int → List (S27) → Int → Int → Int → Int → Int → Int → List (S27) → Option (Bool)
 | 0, _, _, _, _, _, _, _, _, _, _, _, _, _, _ => none
 | k + 1, a0_0, a0_1, a0_2, a0_3, a0_4, a0_5, l0_6, a1_0, a1_1, a1_2, a1_3, a1_4, a1_5, l1_6 => if a0_0 = a1_0 then (if (!(a0_1 == a1_1) || (!(a0_2 == a1_2) || (!(a0_3 == a1_3) || (!(a0_4 == a1_4))))) = true then (sashref05_Same.j0 k true a0_0 a0_1 a0_2 a0_3 a0_4 a0_5 l0_6 a1_0 a1_1 a1_2 a1_3 a1_4 a1_5 l1_6) else (if a0_5 = a1_5 then (sashref05_Same.j0 k ((l0_6.length : Int) != (l1_6.length : Int)) a0_0 a0_1 a0_2 a0_3 a0_4 a0_5 l0_6 a1_0 a1_1 a1_2 a1_3 a1_4 a1_5 l1_6) else (sashref05_Same.j0 k true a0_0 a0_1 a0_2 a0_3 a0_4 a0_5 l0_6 a1_0 a1_1 a1_2 a1_3 a1_4 a1_5 l1_6))) else (sashref05_Same.j0 k true a0_0 a0_1 a0_2 a0_3 a0_4 a0_5 l0_6 a1_0 a1_1 a1_2 a1_3 a1_4 a1_5 l1_6)
end
def sashref05_Same.T6 : Bool × List (List Nat × List Nat) := (true, [([], []), ([0], [0]), ([], []), ([1, 2], [1, 2]), ([3], [3]), ([], []), ([5], [5]), ([], []), ([6, 7], [6, 7]), ([8], [8]), ([4, 9], [4, 9]), ([10], [10])])
def sashref05_Same.B6 : List Nat := [0, 1, 0, 7, 15, 0, 32, 0, 224, 480, 1023, 2047]
theorem sashref05_Same.tab6 : rtab .any (opsOf Tryz.f14 6) = sashref05_Same.T6 := by kernel_rfl
theorem sashref05_Same.bits6 : waitsOk sashref05_Same.T6.2 sashref05_Same.B6 = true := by kernel_rfl
set_option maxHeartbeats 8000000 in
set_option maxRecDepth 100000 in
theorem sashref05_Same.calls (k : Nat) : ∀ (a0_0 : Int) (a0_1 : Int) (a0_2 : Int) (a0_3 : Int) (a0_4 : Int) (a0_5 : Int) (A0_6 : Option Addr) (c0_6 : Nat) (l0_6 : List (S27)) (a1_0 : Int) (a1_1 : Int) (a1_2 : Int) (a1_3 : Int) (a1_4 : Int) (a1_5 : Int) (A1_6 : Option Addr) (c1_6 : Nat) (l1_6 : List (S27)) (r : Bool) (w : World) (hr0_6 : Kd.C k27 w A0_6 l0_6.length l0_6) (hc0_6 : l0_6.length ≤ c0_6) (hr1_6 : Kd.C k27 w A1_6 l1_6.length l1_6) (hc1_6 : l1_6.length ≤ c1_6) (h : sashref05_Same.f k a0_0 a0_1 a0_2 a0_3 a0_4 a0_5 l0_6 a1_0 a1_1 a1_2 a1_3 a1_4 a1_5 l1_6 = some r),
  Calls Tryz.prog 14 #[.agg #[.int .u8 a0_0, .int .i64 a0_1, .int .i64 a0_2, .int .i64 a0_3, .int .i64 a0_4, .int .i64 a0_5, .slice A0_6 l0_6.length c0_6], .agg #[.int .u8 a1_0, .int .i64 a1_1, .int .i64 a1_2, .int .i64 a1_3, .int .i64 a1_4, .int .i64 a1_5, .slice A1_6 l1_6.length c1_6]] w fun e w' => e = .returned (.bool r) ∧ Below w.heap.size w w' := by
 induction k using Nat.strongRecOn with
 | _ k ih =>
 intro a0_0 a0_1 a0_2 a0_3 a0_4 a0_5 A0_6 c0_6 l0_6 a1_0 a1_1 a1_2 a1_3 a1_4 a1_5 A1_6 c1_6 l1_6 r w hr0_6 hc0_6 hr1_6 hc1_6 h
 cases k with
 | zero => exact absurd h (by simp [sashref05_Same.f])
 | succ k =>
 simp only [sashref05_Same.f] at h
 have hu27 := Tryz.underlying27
 have hu24 := Tryz.underlying24
 have HR0_6 := ak hr0_6
 have HC0_6 := ak hc0_6
 clear hr0_6 hc0_6
 have HR1_6 := ak hr1_6
 have HC1_6 := ak hc1_6
 clear hr1_6 hc1_6
 have HB := ak (Below.refl w.heap.size w)
 have H : (if a0_0 = a1_0 then (if (!(a0_1 == a1_1) || (!(a0_2 == a1_2) || (!(a0_3 == a1_3) || (!(a0_4 == a1_4))))) = true then (sashref05_Same.j0 k true a0_0 a0_1 a0_2 a0_3 a0_4 a0_5 l0_6 a1_0 a1_1 a1_2 a1_3 a1_4 a1_5 l1_6) else (if a0_5 = a1_5 then (sashref05_Same.j0 k ((l0_6.length : Int) != (l1_6.length : Int)) a0_0 a0_1 a0_2 a0_3 a0_4 a0_5 l0_6 a1_0 a1_1 a1_2 a1_3 a1_4 a1_5 l1_6) else (sashref05_Same.j0 k true a0_0 a0_1 a0_2 a0_3 a0_4 a0_5 l0_6 a1_0 a1_1 a1_2 a1_3 a1_4 a1_5 l1_6))) else (sashref05_Same.j0 k true a0_0 a0_1 a0_2 a0_3 a0_4 a0_5 l0_6 a1_0 a1_1 a1_2 a1_3 a1_4 a1_5 l1_6)) = some r := h
 clear h
 have HC3 := ak H
 clear H
 go_enter Tryz.func14, Tryz.ntmps14
 go_upto_region 1 with (first | ((with_reducible refine gate_dst (N := 2) rfl ?_); (try (refine gate_guard (by rfl) ?_; dsimp only)); refine bxe 2 #[.int .u8 a0_0, .int .i64 a0_1, .int .i64 a0_2, .int .i64 a0_3, .int .i64 a0_4, .int .i64 a0_5, .slice A0_6 l0_6.length c0_6] 27 (h := ?_); intro gb446 hg w4 hbox hb; have BK446 := ak (hbox); have GW446 := ak ((mq53 : w.heap.size ≤ gb446)); have GE446 := ak ((mq53 : w.heap.size ≤ gb446)); replace HB := ak (below_step kW hb); clear hb hbox hg) | ((with_reducible refine gate_dst (N := 3) rfl ?_); (try (refine gate_guard (by rfl) ?_; dsimp only)); refine bxe 3 #[.int .u8 a1_0, .int .i64 a1_1, .int .i64 a1_2, .int .i64 a1_3, .int .i64 a1_4, .int .i64 a1_5, .slice A1_6 l1_6.length c1_6] 27 (h := ?_); intro gb447 hg w5 hbox hb; have BK447 := ak (hbox); have GW447 := ak ((mq53 : w.heap.size ≤ gb447)); have GE447 := ak ((mq53 : w.heap.size ≤ gb447)); replace HB := ak (below_step kW hb); have NB446_447 := kE BK446 hg; have NB447_446 := kE' BK446 hg; replace BK446 := (kB BK446 hb); clear hb hbox hg))
 (try simp only [Act.put, List.setIfInBounds_toArray, List.set_cons_zero, List.set_cons_succ])
 go_cut [33] (fun v33 wc => ∃ (kq : Nat) (x33_2 : Bool), v33 = .bool x33_2 ∧ Aside0 (sashref05_Same.j0 kq x33_2 a0_0 a0_1 a0_2 a0_3 a0_4 a0_5 l0_6 a1_0 a1_1 a1_2 a1_3 a1_4 a1_5 l1_6 = some r) ∧ Aside0 (kq ≤ k) ∧ Aside0 (wc.heap[gb446]? = some (.cells #[.int .u8 a0_0, .int .i64 a0_1, .int .i64 a0_2, .int .i64 a0_3, .int .i64 a0_4, .int .i64 a0_5, (.slice A0_6 l0_6.length c0_6)] 27 (0, 0))) ∧ Aside0 (wc.heap[gb447]? = some (.cells #[.int .u8 a1_0, .int .i64 a1_1, .int .i64 a1_2, .int .i64 a1_3, .int .i64 a1_4, .int .i64 a1_5, (.slice A1_6 l1_6.length c1_6)] 27 (0, 0))) ∧ Aside0 (Below w.heap.size w wc))
 case first =>
  have H := HC3.out
  clear HC3
  by_cases c6 : a0_0 = a1_0
  ·rw [if_pos c6] at H
   have c6b0 : (a0_0 == a1_0) = true := beq_iff_eq.mpr c6
   have c6b1 : (a0_0 != a1_0) = false := bne_eq_false_iff_eq.mpr c6
   clear c6
   (first | rw [c6b0] | (simp only [i64_w, i32_w]; rw [c6b0]) | skip)
   by_cases c7 : (!(a0_1 == a1_1) || (!(a0_2 == a1_2) || (!(a0_3 == a1_3) || (!(a0_4 == a1_4))))) = true
   ·rw [if_pos c7] at H
    have c7b0 : (!(a0_1 == a1_1) || (!(a0_2 == a1_2) || (!(a0_3 == a1_3) || (!(a0_4 == a1_4))))) = true := c7
    clear c7
    have H' := ak H
    clear H
    have hnb8 := NB446_447.out
    have hnc8 := NB447_446.out
    obtain ⟨hcz9_0, hcz9_1, hcz9_2, hcz9_3, hcz9_4, hcz9_5, hcz9_6⟩ := cz7 BK446
    obtain ⟨hfz9_0, hfz9_1, hfz9_2, hfz9_3, hfz9_4, hfz9_5, hfz9_6⟩ := fz7 BK446
    obtain ⟨hcz10_0, hcz10_1, hcz10_2, hcz10_3, hcz10_4, hcz10_5, hcz10_6⟩ := cz7 BK447
    obtain ⟨hfz10_0, hfz10_1, hfz10_2, hfz10_3, hfz10_4, hfz10_5, hfz10_6⟩ := fz7 BK447
    go_wp2
    go_meet
    case rel => exact ⟨_, (true), mq39, H', ⟨mq36⟩, ⟨mq28 BK446⟩, ⟨mq28 BK447⟩, ⟨kW⟩⟩
   ·rw [if_neg c7] at H
    have c7b0 : (!(a0_1 == a1_1) || (!(a0_2 == a1_2) || (!(a0_3 == a1_3) || (!(a0_4 == a1_4))))) = false := by simpa using c7
    clear c7
    by_cases c11 : a0_5 = a1_5
    ·rw [if_pos c11] at H
     have c11b0 : (a0_5 == a1_5) = true := beq_iff_eq.mpr c11
     have c11b1 : (a0_5 != a1_5) = false := bne_eq_false_iff_eq.mpr c11
     clear c11
     have H' := ak H
     clear H
     have hnb12 := NB446_447.out
     have hnc12 := NB447_446.out
     obtain ⟨hcz13_0, hcz13_1, hcz13_2, hcz13_3, hcz13_4, hcz13_5, hcz13_6⟩ := cz7 BK446
     obtain ⟨hfz13_0, hfz13_1, hfz13_2, hfz13_3, hfz13_4, hfz13_5, hfz13_6⟩ := fz7 BK446
     obtain ⟨hcz14_0, hcz14_1, hcz14_2, hcz14_3, hcz14_4, hcz14_5, hcz14_6⟩ := cz7 BK447
     obtain ⟨hfz14_0, hfz14_1, hfz14_2, hfz14_3, hfz14_4, hfz14_5, hfz14_6⟩ := fz7 BK447
     go_wp2
     go_meet
     case rel => exact ⟨_, (((l0_6.length : Int) != (l1_6.length : Int))), mq39, H', ⟨mq36⟩, ⟨mq28 BK446⟩, ⟨mq28 BK447⟩, ⟨kW⟩⟩
    ·rw [if_neg c11] at H
     have c11b0 : (a0_5 == a1_5) = false := beq_eq_false_iff_ne.mpr c11
     have c11b1 : (a0_5 != a1_5) = true := bne_iff_ne.mpr c11
     have H' := ak H
     clear H
     have hnb15 := NB446_447.out
     have hnc15 := NB447_446.out
     obtain ⟨hcz16_0, hcz16_1, hcz16_2, hcz16_3, hcz16_4, hcz16_5, hcz16_6⟩ := cz7 BK446
     obtain ⟨hfz16_0, hfz16_1, hfz16_2, hfz16_3, hfz16_4, hfz16_5, hfz16_6⟩ := fz7 BK446
     obtain ⟨hcz17_0, hcz17_1, hcz17_2, hcz17_3, hcz17_4, hcz17_5, hcz17_6⟩ := cz7 BK447
     obtain ⟨hfz17_0, hfz17_1, hfz17_2, hfz17_3, hfz17_4, hfz17_5, hfz17_6⟩ := fz7 BK447
     go_wp2
     go_meet
     case rel => exact ⟨_, (true), mq39, H', ⟨mq36⟩, ⟨mq28 BK446⟩, ⟨mq28 BK447⟩, ⟨kW⟩⟩
  ·rw [if_neg c6] at H
   have c6b0 : (a0_0 == a1_0) = false := beq_eq_false_iff_ne.mpr c6
   have c6b1 : (a0_0 != a1_0) = true := bne_iff_ne.mpr c6
   (first | rw [c6b0] | (simp only [i64_w, i32_w]; rw [c6b0]) | skip)
   have H' := ak H
   clear H
   have hnb18 := NB446_447.out
   have hnc18 := NB447_446.out
   obtain ⟨hcz19_0, hcz19_1, hcz19_2, hcz19_3, hcz19_4, hcz19_5, hcz19_6⟩ := cz7 BK446
   obtain ⟨hfz19_0, hfz19_1, hfz19_2, hfz19_3, hfz19_4, hfz19_5, hfz19_6⟩ := fz7 BK446
   obtain ⟨hcz20_0, hcz20_1, hcz20_2, hcz20_3, hcz20_4, hcz20_5, hcz20_6⟩ := cz7 BK447
   obtain ⟨hfz20_0, hfz20_1, hfz20_2, hfz20_3, hfz20_4, hfz20_5, hfz20_6⟩ := fz7 BK447
   go_wp2
   go_meet
   case rel => exact ⟨_, (true), mq39, H', ⟨mq36⟩, ⟨mq28 BK446⟩, ⟨mq28 BK447⟩, ⟨kW⟩⟩
 case rest =>
  clear HC3
  obtain ⟨kq, x33_2, rfl, HA, HJ2, BK446, BK447, HB⟩ := hcut
  cases kq with
  | zero => exact absurd HA.out (by simp [sashref05_Same.j0])
  | succ kj2 =>
   have H := HA.out
   clear HA
   simp only [sashref05_Same.j0] at H
   by_cases c21 : x33_2 = true
   ·subst c21
    have H1 : (some false) = some r := mq55
    clear H
    have H := H1
    clear H1
    obtain rfl := Option.some.inj H
    go_wp2
    go_ret
    exact ⟨mq37, kW⟩
   ·replace c21 := Bool.eq_false_iff.mpr c21
    subst c21
    have H1 : (sashref05_Same.l0 kj2 (l0_6.length : Int) 0 a0_0 a0_1 a0_2 a0_3 a0_4 a0_5 l0_6 a1_0 a1_1 a1_2 a1_3 a1_4 a1_5 l1_6) = some r := mq54
    clear H
    have H := H1
    clear H1
    have H' := ak H
    clear H
    have hnb22 := NB446_447.out
    have hnc22 := NB447_446.out
    obtain ⟨hcz23_0, hcz23_1, hcz23_2, hcz23_3, hcz23_4, hcz23_5, hcz23_6⟩ := cz7 BK446
    obtain ⟨hfz23_0, hfz23_1, hfz23_2, hfz23_3, hfz23_4, hfz23_5, hfz23_6⟩ := fz7 BK446
    go_wp2
    go_loopg [37] kj2 (fun kq v37 w' => ∃ (x37_2 : Int), v37 = .int .i64 x37_2 ∧ Aside0 (sashref05_Same.l0 kq (l0_6.length : Int) x37_2 a0_0 a0_1 a0_2 a0_3 a0_4 a0_5 l0_6 a1_0 a1_1 a1_2 a1_3 a1_4 a1_5 l1_6 = some r) ∧ Aside0 (kq ≤ kj2) ∧ Aside0 (w'.heap[gb446]? = some (.cells #[.int .u8 a0_0, .int .i64 a0_1, .int .i64 a0_2, .int .i64 a0_3, .int .i64 a0_4, .int .i64 a0_5, (.slice A0_6 l0_6.length c0_6)] 27 (0, 0))) ∧ Aside0 (w'.heap[gb447]? = some (.cells #[.int .u8 a1_0, .int .i64 a1_1, .int .i64 a1_2, .int .i64 a1_3, .int .i64 a1_4, .int .i64 a1_5, (.slice A1_6 l1_6.length c1_6)] 27 (0, 0))) ∧ Aside0 (Below w.heap.size w w'))
    case atStart => exact ⟨(0), mq39, H', ⟨Nat.le_refl _⟩, ⟨mq28 BK446⟩, ⟨mq28 BK447⟩, ⟨kW⟩⟩
    case round =>
     clear H'
     clear hcz23_0 hcz23_1 hcz23_2 hcz23_3 hcz23_4 hcz23_5 hcz23_6 hfz23_0 hfz23_1 hfz23_2 hfz23_3 hfz23_4 hfz23_5 hfz23_6
     obtain ⟨x37_2, rfl, HA, HK2, BK446, BK447, HB⟩ := hrel
     cases gk with
     | zero => exact absurd HA.out (by simp [sashref05_Same.l0])
     | succ k2 =>
      have H := HA.out
      clear HA
      simp only [sashref05_Same.l0] at H
      by_cases c24 : x37_2 < (l0_6.length : Int)
      ·rw [if_pos c24] at H
       have c24b0 : decide (x37_2 < (l0_6.length : Int)) = true := decide_eq_true c24
       clear c24
       by_cases c25 : 0 ≤ x37_2
       ·rw [if_pos c25] at H
        have c25b0 : decide (0 ≤ x37_2) = true := decide_eq_true c25
        clear c25
        by_cases c26 : x37_2 < (l0_6.length : Int)
        ·rw [if_pos c26] at H
         have c26b0 : decide (x37_2 < (l0_6.length : Int)) = true := decide_eq_true c26
         clear c26
         by_cases c27 : x37_2 < (l1_6.length : Int)
         ·rw [if_pos c27] at H
          have c27b0 : decide (x37_2 < (l1_6.length : Int)) = true := decide_eq_true c27
          clear c27
          replace H := Option.bind_eq_some_iff.mp H
          obtain ⟨t450, A280, H⟩ := H
          replace H : (if t450 = true then (sashref05_Same.l0 k2 (l0_6.length : Int) (wrap64 (x37_2 + 1)) a0_0 a0_1 a0_2 a0_3 a0_4 a0_5 l0_6 a1_0 a1_1 a1_2 a1_3 a1_4 a1_5 l1_6) else (some false)) = some r := H
          have A28 := ak A280
          clear A280
          by_cases c29 : t450 = true
          ·subst c29
           have H1 : (sashref05_Same.l0 k2 (l0_6.length : Int) (wrap64 (x37_2 + 1)) a0_0 a0_1 a0_2 a0_3 a0_4 a0_5 l0_6 a1_0 a1_1 a1_2 a1_3 a1_4 a1_5 l1_6) = some r := mq55
           clear H
           have H := H1
           clear H1
           have H' := ak H
           clear H
           try go_wp2
           replace BK446 := ak (blk_drew BK446.out)
           replace BK447 := ak (blk_drew BK447.out)
           replace HB := ak (below_drew1 HB.out)
           have p448 : 0 ≤ (x37_2 : Int) := of_decide_eq_true mq34
           have q448 : x37_2 < (l0_6.length : Int) := of_decide_eq_true mq34
           obtain ⟨ad448, A448_6, c448_6, e448, hx448_0, hx448_1, hx448_2, hx448_3, hx448_4, hx448_5, hx448_6, hl448_6, hi448_6⟩ := at_T27 HR0_6.out x37_2 p448 q448
           have hw448_6 := hx448_6
           have hw448_5 := hx448_5
           have hw448_4 := hx448_4
           have hw448_3 := hx448_3
           have hw448_2 := hx448_2
           have hw448_1 := hx448_1
           have hw448_0 := hx448_0
           cases e448
           replace hx448_0 := (HB.out.cell (World.block_lt_of_cell? w _ hx448_0)).trans hx448_0
           replace hx448_1 := (HB.out.cell (World.block_lt_of_cell? w _ hx448_1)).trans hx448_1
           replace hx448_2 := (HB.out.cell (World.block_lt_of_cell? w _ hx448_2)).trans hx448_2
           replace hx448_3 := (HB.out.cell (World.block_lt_of_cell? w _ hx448_3)).trans hx448_3
           replace hx448_4 := (HB.out.cell (World.block_lt_of_cell? w _ hx448_4)).trans hx448_4
           replace hx448_5 := (HB.out.cell (World.block_lt_of_cell? w _ hx448_5)).trans hx448_5
           replace hx448_6 := (HB.out.cell (World.block_lt_of_cell? w _ hx448_6)).trans hx448_6
           have HR448_6 := ak hi448_6
           have HC448_6 := ak hl448_6
           clear hi448_6 hl448_6
           replace p448 := eq_true p448
           replace q448 := eq_true q448
           have p449 : 0 ≤ (x37_2 : Int) := of_decide_eq_true mq34
           have q449 : x37_2 < (l1_6.length : Int) := of_decide_eq_true mq34
           obtain ⟨ad449, A449_6, c449_6, e449, hx449_0, hx449_1, hx449_2, hx449_3, hx449_4, hx449_5, hx449_6, hl449_6, hi449_6⟩ := at_T27 HR1_6.out x37_2 p449 q449
           have hw449_6 := hx449_6
           have hw449_5 := hx449_5
           have hw449_4 := hx449_4
           have hw449_3 := hx449_3
           have hw449_2 := hx449_2
           have hw449_1 := hx449_1
           have hw449_0 := hx449_0
           cases e449
           replace hx449_0 := (HB.out.cell (World.block_lt_of_cell? w _ hx449_0)).trans hx449_0
           replace hx449_1 := (HB.out.cell (World.block_lt_of_cell? w _ hx449_1)).trans hx449_1
           replace hx449_2 := (HB.out.cell (World.block_lt_of_cell? w _ hx449_2)).trans hx449_2
           replace hx449_3 := (HB.out.cell (World.block_lt_of_cell? w _ hx449_3)).trans hx449_3
           replace hx449_4 := (HB.out.cell (World.block_lt_of_cell? w _ hx449_4)).trans hx449_4
           replace hx449_5 := (HB.out.cell (World.block_lt_of_cell? w _ hx449_5)).trans hx449_5
           replace hx449_6 := (HB.out.cell (World.block_lt_of_cell? w _ hx449_6)).trans hx449_6
           have HR449_6 := ak hi449_6
           have HC449_6 := ak hl449_6
           clear hi449_6 hl449_6
           replace p449 := eq_true p449
           replace q449 := eq_true q449
           refine start_ (n := 12) (S := fun w' => w'.cell? ⟨gb446, 0, none⟩ = some (.int .u8 a0_0) ∧ w'.cell? ⟨gb446, 1, none⟩ = some (.int .i64 a0_1) ∧ w'.cell? ⟨gb446, 2, none⟩ = some (.int .i64 a0_2) ∧ w'.cell? ⟨gb446, 3, none⟩ = some (.int .i64 a0_3) ∧ w'.cell? ⟨gb446, 4, none⟩ = some (.int .i64 a0_4) ∧ w'.cell? ⟨gb446, 5, none⟩ = some (.int .i64 a0_5) ∧ w'.cell? ⟨gb446, 6, none⟩ = some (.slice (some ad448) l0_6.length c0_6) ∧ w'.cell? ⟨gb447, 0, none⟩ = some (.int .u8 a1_0) ∧ w'.cell? ⟨gb447, 1, none⟩ = some (.int .i64 a1_1) ∧ w'.cell? ⟨gb447, 2, none⟩ = some (.int .i64 a1_2) ∧ w'.cell? ⟨gb447, 3, none⟩ = some (.int .i64 a1_3) ∧ w'.cell? ⟨gb447, 4, none⟩ = some (.int .i64 a1_4) ∧ w'.cell? ⟨gb447, 5, none⟩ = some (.int .i64 a1_5) ∧ w'.cell? ⟨gb447, 6, none⟩ = some (.slice (some ad449) l1_6.length c1_6) ∧ w'.cell? (ad448.add ((x37_2).toNat * 7)) = some (.int .u8 ((rd_T27 l0_6 x37_2).f0)) ∧ w'.cell? ⟨(ad448.add ((x37_2).toNat * 7)).block, (ad448.add ((x37_2).toNat * 7)).off + 1, none⟩ = some (.int .i64 ((rd_T27 l0_6 x37_2).f1.f0)) ∧ w'.cell? ⟨(ad448.add ((x37_2).toNat * 7)).block, (ad448.add ((x37_2).toNat * 7)).off + 2, none⟩ = some (.int .i64 ((rd_T27 l0_6 x37_2).f1.f1)) ∧ w'.cell? ⟨(ad448.add ((x37_2).toNat * 7)).block, (ad448.add ((x37_2).toNat * 7)).off + 3, none⟩ = some (.int .i64 ((rd_T27 l0_6 x37_2).f1.f2)) ∧ w'.cell? ⟨(ad448.add ((x37_2).toNat * 7)).block, (ad448.add ((x37_2).toNat * 7)).off + 4, none⟩ = some (.int .i64 ((rd_T27 l0_6 x37_2).f1.f3)) ∧ w'.cell? ⟨(ad448.add ((x37_2).toNat * 7)).block, (ad448.add ((x37_2).toNat * 7)).off + 5, none⟩ = some (.int .i64 ((rd_T27 l0_6 x37_2).f2)) ∧ w'.cell? ⟨(ad448.add ((x37_2).toNat * 7)).block, (ad448.add ((x37_2).toNat * 7)).off + 6, none⟩ = some (.slice A448_6 ((rd_T27 l0_6 x37_2).f3).length c448_6) ∧ w'.cell? (ad449.add ((x37_2).toNat * 7)) = some (.int .u8 ((rd_T27 l1_6 x37_2).f0)) ∧ w'.cell? ⟨(ad449.add ((x37_2).toNat * 7)).block, (ad449.add ((x37_2).toNat * 7)).off + 1, none⟩ = some (.int .i64 ((rd_T27 l1_6 x37_2).f1.f0)) ∧ w'.cell? ⟨(ad449.add ((x37_2).toNat * 7)).block, (ad449.add ((x37_2).toNat * 7)).off + 2, none⟩ = some (.int .i64 ((rd_T27 l1_6 x37_2).f1.f1)) ∧ w'.cell? ⟨(ad449.add ((x37_2).toNat * 7)).block, (ad449.add ((x37_2).toNat * 7)).off + 3, none⟩ = some (.int .i64 ((rd_T27 l1_6 x37_2).f1.f2)) ∧ w'.cell? ⟨(ad449.add ((x37_2).toNat * 7)).block, (ad449.add ((x37_2).toNat * 7)).off + 4, none⟩ = some (.int .i64 ((rd_T27 l1_6 x37_2).f1.f3)) ∧ w'.cell? ⟨(ad449.add ((x37_2).toNat * 7)).block, (ad449.add ((x37_2).toNat * 7)).off + 5, none⟩ = some (.int .i64 ((rd_T27 l1_6 x37_2).f2)) ∧ w'.cell? ⟨(ad449.add ((x37_2).toNat * 7)).block, (ad449.add ((x37_2).toNat * 7)).off + 6, none⟩ = some (.slice A449_6 ((rd_T27 l1_6 x37_2).f3).length c449_6)) (ds := []) #[false, false, false, false, false, false, false, false, false, false, false, false] (by kernel_rfl) rfl rfl ⟨(blk_cell BK446.out 0).trans rfl, (blk_cell BK446.out 1).trans rfl, (blk_cell BK446.out 2).trans rfl, (blk_cell BK446.out 3).trans rfl, (blk_cell BK446.out 4).trans rfl, (blk_cell BK446.out 5).trans rfl, (blk_cell BK446.out 6).trans rfl, (blk_cell BK447.out 0).trans rfl, (blk_cell BK447.out 1).trans rfl, (blk_cell BK447.out 2).trans rfl, (blk_cell BK447.out 3).trans rfl, (blk_cell BK447.out 4).trans rfl, (blk_cell BK447.out 5).trans rfl, (blk_cell BK447.out 6).trans rfl, ((HB.out.cell (World.block_lt_of_cell? w _ hw448_0)).trans hw448_0), ((HB.out.cell (World.block_lt_of_cell? w _ hw448_1)).trans hw448_1), ((HB.out.cell (World.block_lt_of_cell? w _ hw448_2)).trans hw448_2), ((HB.out.cell (World.block_lt_of_cell? w _ hw448_3)).trans hw448_3), ((HB.out.cell (World.block_lt_of_cell? w _ hw448_4)).trans hw448_4), ((HB.out.cell (World.block_lt_of_cell? w _ hw448_5)).trans hw448_5), ((HB.out.cell (World.block_lt_of_cell? w _ hw448_6)).trans hw448_6), ((HB.out.cell (World.block_lt_of_cell? w _ hw449_0)).trans hw449_0), ((HB.out.cell (World.block_lt_of_cell? w _ hw449_1)).trans hw449_1), ((HB.out.cell (World.block_lt_of_cell? w _ hw449_2)).trans hw449_2), ((HB.out.cell (World.block_lt_of_cell? w _ hw449_3)).trans hw449_3), ((HB.out.cell (World.block_lt_of_cell? w _ hw449_4)).trans hw449_4), ((HB.out.cell (World.block_lt_of_cell? w _ hw449_5)).trans hw449_5), ((HB.out.cell (World.block_lt_of_cell? w _ hw449_6)).trans hw449_6)⟩ (fun hHeld => ?_); refine with_tabW sashref05_Same.tab6 sashref05_Same.bits6 (fun HT_ HW_ => ?_)
           generalize wr.drew = w30 at BK446 BK447 HB HR448_6 HR449_6 hx448_0 hx448_1 hx448_2 hx448_3 hx448_4 hx448_5 hx448_6 hx449_0 hx449_1 hx449_2 hx449_3 hx449_4 hx449_5 hx449_6 hHeld ⊢
           refine pu 0 (some 40) #[true, false, false, false, false, false, false, false, false, false, false, false] (h := ?_)
           refine pu 2 (some 42) #[true, false, true, false, false, false, false, false, false, false, false, false] (h := ?_)
           refine pu 5 (some 45) #[true, false, true, false, false, true, false, false, false, false, false, false] (h := ?_)
           refine pu 7 (some 47) #[true, false, true, false, false, true, false, true, false, false, false, false] (h := ?_)
           refine tk 1 (some 41) #[true, true, true, false, false, true, false, true, false, false, false, false] (h := ?_)
           refine pu 3 (some 43) #[true, true, true, true, false, true, false, true, false, false, false, false] (h := ?_)
           refine tk 4 (some 44) #[true, true, true, true, true, true, false, true, false, false, false, false] (h := ?_)
           refine tk 6 (some 46) #[true, true, true, true, true, true, true, true, false, false, false, false] (h := ?_)
           refine pu 8 (some 48) #[true, true, true, true, true, true, true, true, true, false, false, false] (h := ?_)
           refine tk 9 (some 49) #[true, true, true, true, true, true, true, true, true, true, false, false] (h := ?_)
           refine one_ (i := 10) (N := some 50) #[true, true, true, true, true, true, true, true, true, true, true, false] rfl rfl (one_of HT_.out (by kernel_rfl)) (by decide) (fun K hK => ?_)
           refine goes_ Tryz.func14 (by kernel_rfl) rfl #[.agg #[.int .u8 ((rd_T27 l0_6 x37_2).f0), .int .i64 ((rd_T27 l0_6 x37_2).f1.f0), .int .i64 ((rd_T27 l0_6 x37_2).f1.f1), .int .i64 ((rd_T27 l0_6 x37_2).f1.f2), .int .i64 ((rd_T27 l0_6 x37_2).f1.f3), .int .i64 ((rd_T27 l0_6 x37_2).f2), .slice A448_6 ((rd_T27 l0_6 x37_2).f3).length c448_6], .agg #[.int .u8 ((rd_T27 l1_6 x37_2).f0), .int .i64 ((rd_T27 l1_6 x37_2).f1.f0), .int .i64 ((rd_T27 l1_6 x37_2).f1.f1), .int .i64 ((rd_T27 l1_6 x37_2).f1.f2), .int .i64 ((rd_T27 l1_6 x37_2).f1.f3), .int .i64 ((rd_T27 l1_6 x37_2).f2), .slice A449_6 ((rd_T27 l1_6 x37_2).f3).length c449_6]] (by rfl) rfl rfl mq2 ?_
           with_reducible refine (ih k2 (mq46 HJ2 HK2) ((rd_T27 l0_6 x37_2).f0) ((rd_T27 l0_6 x37_2).f1.f0) ((rd_T27 l0_6 x37_2).f1.f1) ((rd_T27 l0_6 x37_2).f1.f2) ((rd_T27 l0_6 x37_2).f1.f3) ((rd_T27 l0_6 x37_2).f2) _ _ ((rd_T27 l0_6 x37_2).f3) ((rd_T27 l1_6 x37_2).f0) ((rd_T27 l1_6 x37_2).f1.f0) ((rd_T27 l1_6 x37_2).f1.f1) ((rd_T27 l1_6 x37_2).f1.f2) ((rd_T27 l1_6 x37_2).f1.f3) ((rd_T27 l1_6 x37_2).f2) _ _ ((rd_T27 l1_6 x37_2).f3) true _ ?side1 ?side2 ?side3 ?side4 A28.out).mono ?_
           (case side1 => repeat (first | exact (Kd.C_below HR448_6.out HB.out) | (with_reducible refine Kd.C_alloc ?_ _) | (with_reducible refine Kd.C_drewN ?_ _) | (with_reducible refine Kd.C_drew ?_)))
           (case side2 => exact HC448_6.out)
           (case side3 => repeat (first | exact (Kd.C_below HR449_6.out HB.out) | (with_reducible refine Kd.C_alloc ?_ _) | (with_reducible refine Kd.C_drewN ?_ _) | (with_reducible refine Kd.C_drew ?_)))
           (case side4 => exact HC449_6.out)
           rintro e w31 ⟨rfl, hb⟩
           refine ⟨_, rfl, ?_⟩
           replace BK446 := (kB BK446 hb)
           replace BK447 := (kB BK447 hb)
           replace HB := ak (below_step kW hb)
           (try clear hb)
           (try clear hb2)
           (try clear hk)
           (try clear hi)
           refine hK.out _ _ ⟨(blk_cell BK446.out 0).trans rfl, (blk_cell BK446.out 1).trans rfl, (blk_cell BK446.out 2).trans rfl, (blk_cell BK446.out 3).trans rfl, (blk_cell BK446.out 4).trans rfl, (blk_cell BK446.out 5).trans rfl, (blk_cell BK446.out 6).trans rfl, (blk_cell BK447.out 0).trans rfl, (blk_cell BK447.out 1).trans rfl, (blk_cell BK447.out 2).trans rfl, (blk_cell BK447.out 3).trans rfl, (blk_cell BK447.out 4).trans rfl, (blk_cell BK447.out 5).trans rfl, (blk_cell BK447.out 6).trans rfl, ((HB.out.cell (World.block_lt_of_cell? w _ hw448_0)).trans hw448_0), ((HB.out.cell (World.block_lt_of_cell? w _ hw448_1)).trans hw448_1), ((HB.out.cell (World.block_lt_of_cell? w _ hw448_2)).trans hw448_2), ((HB.out.cell (World.block_lt_of_cell? w _ hw448_3)).trans hw448_3), ((HB.out.cell (World.block_lt_of_cell? w _ hw448_4)).trans hw448_4), ((HB.out.cell (World.block_lt_of_cell? w _ hw448_5)).trans hw448_5), ((HB.out.cell (World.block_lt_of_cell? w _ hw448_6)).trans hw448_6), ((HB.out.cell (World.block_lt_of_cell? w _ hw449_0)).trans hw449_0), ((HB.out.cell (World.block_lt_of_cell? w _ hw449_1)).trans hw449_1), ((HB.out.cell (World.block_lt_of_cell? w _ hw449_2)).trans hw449_2), ((HB.out.cell (World.block_lt_of_cell? w _ hw449_3)).trans hw449_3), ((HB.out.cell (World.block_lt_of_cell? w _ hw449_4)).trans hw449_4), ((HB.out.cell (World.block_lt_of_cell? w _ hw449_5)).trans hw449_5), ((HB.out.cell (World.block_lt_of_cell? w _ hw449_6)).trans hw449_6)⟩ (fun hHeld => ?_)
           clear hK K
           refine norm_ (a' := ?_) ?_ ?_
           rotate_left
           ·show Act.put _ (some 50) _ = _
            simp only [Act.put, List.setIfInBounds_toArray, List.set_cons_zero, List.set_cons_succ, i64_w, i32_w]
            rfl
           refine pu 11 (some 51) #[true, true, true, true, true, true, true, true, true, true, true, true] (h := ?_)
           refine done_ (done_of HT_.out (by kernel_rfl)) ?_
           try go_wp2
           go_roundg k2
           case measure => have := HJ2.out; have := HK2.out; omega
           case rel => exact ⟨(wrap64 (x37_2 + 1)), mq39, H', ⟨mq46 HJ2 HK2⟩, ⟨mq28 BK446⟩, ⟨mq28 BK447⟩, ⟨kW⟩⟩
          ·replace c29 := Bool.eq_false_iff.mpr c29
           subst c29
           have H1 : (some false) = some r := mq54
           clear H
           have H := H1
           clear H1
           obtain rfl := Option.some.inj H
           try go_wp2
           replace BK446 := ak (blk_drew BK446.out)
           replace BK447 := ak (blk_drew BK447.out)
           replace HB := ak (below_drew1 HB.out)
           have p448 : 0 ≤ (x37_2 : Int) := of_decide_eq_true mq34
           have q448 : x37_2 < (l0_6.length : Int) := of_decide_eq_true mq34
           obtain ⟨ad448, A448_6, c448_6, e448, hx448_0, hx448_1, hx448_2, hx448_3, hx448_4, hx448_5, hx448_6, hl448_6, hi448_6⟩ := at_T27 HR0_6.out x37_2 p448 q448
           have hw448_6 := hx448_6
           have hw448_5 := hx448_5
           have hw448_4 := hx448_4
           have hw448_3 := hx448_3
           have hw448_2 := hx448_2
           have hw448_1 := hx448_1
           have hw448_0 := hx448_0
           cases e448
           replace hx448_0 := (HB.out.cell (World.block_lt_of_cell? w _ hx448_0)).trans hx448_0
           replace hx448_1 := (HB.out.cell (World.block_lt_of_cell? w _ hx448_1)).trans hx448_1
           replace hx448_2 := (HB.out.cell (World.block_lt_of_cell? w _ hx448_2)).trans hx448_2
           replace hx448_3 := (HB.out.cell (World.block_lt_of_cell? w _ hx448_3)).trans hx448_3
           replace hx448_4 := (HB.out.cell (World.block_lt_of_cell? w _ hx448_4)).trans hx448_4
           replace hx448_5 := (HB.out.cell (World.block_lt_of_cell? w _ hx448_5)).trans hx448_5
           replace hx448_6 := (HB.out.cell (World.block_lt_of_cell? w _ hx448_6)).trans hx448_6
           have HR448_6 := ak hi448_6
           have HC448_6 := ak hl448_6
           clear hi448_6 hl448_6
           replace p448 := eq_true p448
           replace q448 := eq_true q448
           have p449 : 0 ≤ (x37_2 : Int) := of_decide_eq_true mq34
           have q449 : x37_2 < (l1_6.length : Int) := of_decide_eq_true mq34
           obtain ⟨ad449, A449_6, c449_6, e449, hx449_0, hx449_1, hx449_2, hx449_3, hx449_4, hx449_5, hx449_6, hl449_6, hi449_6⟩ := at_T27 HR1_6.out x37_2 p449 q449
           have hw449_6 := hx449_6
           have hw449_5 := hx449_5
           have hw449_4 := hx449_4
           have hw449_3 := hx449_3
           have hw449_2 := hx449_2
           have hw449_1 := hx449_1
           have hw449_0 := hx449_0
           cases e449
           replace hx449_0 := (HB.out.cell (World.block_lt_of_cell? w _ hx449_0)).trans hx449_0
           replace hx449_1 := (HB.out.cell (World.block_lt_of_cell? w _ hx449_1)).trans hx449_1
           replace hx449_2 := (HB.out.cell (World.block_lt_of_cell? w _ hx449_2)).trans hx449_2
           replace hx449_3 := (HB.out.cell (World.block_lt_of_cell? w _ hx449_3)).trans hx449_3
           replace hx449_4 := (HB.out.cell (World.block_lt_of_cell? w _ hx449_4)).trans hx449_4
           replace hx449_5 := (HB.out.cell (World.block_lt_of_cell? w _ hx449_5)).trans hx449_5
           replace hx449_6 := (HB.out.cell (World.block_lt_of_cell? w _ hx449_6)).trans hx449_6
           have HR449_6 := ak hi449_6
           have HC449_6 := ak hl449_6
           clear hi449_6 hl449_6
           replace p449 := eq_true p449
           replace q449 := eq_true q449
           refine start_ (n := 12) (S := fun w' => w'.cell? ⟨gb446, 0, none⟩ = some (.int .u8 a0_0) ∧ w'.cell? ⟨gb446, 1, none⟩ = some (.int .i64 a0_1) ∧ w'.cell? ⟨gb446, 2, none⟩ = some (.int .i64 a0_2) ∧ w'.cell? ⟨gb446, 3, none⟩ = some (.int .i64 a0_3) ∧ w'.cell? ⟨gb446, 4, none⟩ = some (.int .i64 a0_4) ∧ w'.cell? ⟨gb446, 5, none⟩ = some (.int .i64 a0_5) ∧ w'.cell? ⟨gb446, 6, none⟩ = some (.slice (some ad448) l0_6.length c0_6) ∧ w'.cell? ⟨gb447, 0, none⟩ = some (.int .u8 a1_0) ∧ w'.cell? ⟨gb447, 1, none⟩ = some (.int .i64 a1_1) ∧ w'.cell? ⟨gb447, 2, none⟩ = some (.int .i64 a1_2) ∧ w'.cell? ⟨gb447, 3, none⟩ = some (.int .i64 a1_3) ∧ w'.cell? ⟨gb447, 4, none⟩ = some (.int .i64 a1_4) ∧ w'.cell? ⟨gb447, 5, none⟩ = some (.int .i64 a1_5) ∧ w'.cell? ⟨gb447, 6, none⟩ = some (.slice (some ad449) l1_6.length c1_6) ∧ w'.cell? (ad448.add ((x37_2).toNat * 7)) = some (.int .u8 ((rd_T27 l0_6 x37_2).f0)) ∧ w'.cell? ⟨(ad448.add ((x37_2).toNat * 7)).block, (ad448.add ((x37_2).toNat * 7)).off + 1, none⟩ = some (.int .i64 ((rd_T27 l0_6 x37_2).f1.f0)) ∧ w'.cell? ⟨(ad448.add ((x37_2).toNat * 7)).block, (ad448.add ((x37_2).toNat * 7)).off + 2, none⟩ = some (.int .i64 ((rd_T27 l0_6 x37_2).f1.f1)) ∧ w'.cell? ⟨(ad448.add ((x37_2).toNat * 7)).block, (ad448.add ((x37_2).toNat * 7)).off + 3, none⟩ = some (.int .i64 ((rd_T27 l0_6 x37_2).f1.f2)) ∧ w'.cell? ⟨(ad448.add ((x37_2).toNat * 7)).block, (ad448.add ((x37_2).toNat * 7)).off + 4, none⟩ = some (.int .i64 ((rd_T27 l0_6 x37_2).f1.f3)) ∧ w'.cell? ⟨(ad448.add ((x37_2).toNat * 7)).block, (ad448.add ((x37_2).toNat * 7)).off + 5, none⟩ = some (.int .i64 ((rd_T27 l0_6 x37_2).f2)) ∧ w'.cell? ⟨(ad448.add ((x37_2).toNat * 7)).block, (ad448.add ((x37_2).toNat * 7)).off + 6, none⟩ = some (.slice A448_6 ((rd_T27 l0_6 x37_2).f3).length c448_6) ∧ w'.cell? (ad449.add ((x37_2).toNat * 7)) = some (.int .u8 ((rd_T27 l1_6 x37_2).f0)) ∧ w'.cell? ⟨(ad449.add ((x37_2).toNat * 7)).block, (ad449.add ((x37_2).toNat * 7)).off + 1, none⟩ = some (.int .i64 ((rd_T27 l1_6 x37_2).f1.f0)) ∧ w'.cell? ⟨(ad449.add ((x37_2).toNat * 7)).block, (ad449.add ((x37_2).toNat * 7)).off + 2, none⟩ = some (.int .i64 ((rd_T27 l1_6 x37_2).f1.f1)) ∧ w'.cell? ⟨(ad449.add ((x37_2).toNat * 7)).block, (ad449.add ((x37_2).toNat * 7)).off + 3, none⟩ = some (.int .i64 ((rd_T27 l1_6 x37_2).f1.f2)) ∧ w'.cell? ⟨(ad449.add ((x37_2).toNat * 7)).block, (ad449.add ((x37_2).toNat * 7)).off + 4, none⟩ = some (.int .i64 ((rd_T27 l1_6 x37_2).f1.f3)) ∧ w'.cell? ⟨(ad449.add ((x37_2).toNat * 7)).block, (ad449.add ((x37_2).toNat * 7)).off + 5, none⟩ = some (.int .i64 ((rd_T27 l1_6 x37_2).f2)) ∧ w'.cell? ⟨(ad449.add ((x37_2).toNat * 7)).block, (ad449.add ((x37_2).toNat * 7)).off + 6, none⟩ = some (.slice A449_6 ((rd_T27 l1_6 x37_2).f3).length c449_6)) (ds := []) #[false, false, false, false, false, false, false, false, false, false, false, false] (by kernel_rfl) rfl rfl ⟨(blk_cell BK446.out 0).trans rfl, (blk_cell BK446.out 1).trans rfl, (blk_cell BK446.out 2).trans rfl, (blk_cell BK446.out 3).trans rfl, (blk_cell BK446.out 4).trans rfl, (blk_cell BK446.out 5).trans rfl, (blk_cell BK446.out 6).trans rfl, (blk_cell BK447.out 0).trans rfl, (blk_cell BK447.out 1).trans rfl, (blk_cell BK447.out 2).trans rfl, (blk_cell BK447.out 3).trans rfl, (blk_cell BK447.out 4).trans rfl, (blk_cell BK447.out 5).trans rfl, (blk_cell BK447.out 6).trans rfl, ((HB.out.cell (World.block_lt_of_cell? w _ hw448_0)).trans hw448_0), ((HB.out.cell (World.block_lt_of_cell? w _ hw448_1)).trans hw448_1), ((HB.out.cell (World.block_lt_of_cell? w _ hw448_2)).trans hw448_2), ((HB.out.cell (World.block_lt_of_cell? w _ hw448_3)).trans hw448_3), ((HB.out.cell (World.block_lt_of_cell? w _ hw448_4)).trans hw448_4), ((HB.out.cell (World.block_lt_of_cell? w _ hw448_5)).trans hw448_5), ((HB.out.cell (World.block_lt_of_cell? w _ hw448_6)).trans hw448_6), ((HB.out.cell (World.block_lt_of_cell? w _ hw449_0)).trans hw449_0), ((HB.out.cell (World.block_lt_of_cell? w _ hw449_1)).trans hw449_1), ((HB.out.cell (World.block_lt_of_cell? w _ hw449_2)).trans hw449_2), ((HB.out.cell (World.block_lt_of_cell? w _ hw449_3)).trans hw449_3), ((HB.out.cell (World.block_lt_of_cell? w _ hw449_4)).trans hw449_4), ((HB.out.cell (World.block_lt_of_cell? w _ hw449_5)).trans hw449_5), ((HB.out.cell (World.block_lt_of_cell? w _ hw449_6)).trans hw449_6)⟩ (fun hHeld => ?_); refine with_tabW sashref05_Same.tab6 sashref05_Same.bits6 (fun HT_ HW_ => ?_)
           generalize wr.drew = w32 at BK446 BK447 HB HR448_6 HR449_6 hx448_0 hx448_1 hx448_2 hx448_3 hx448_4 hx448_5 hx448_6 hx449_0 hx449_1 hx449_2 hx449_3 hx449_4 hx449_5 hx449_6 hHeld ⊢
           refine pu 0 (some 40) #[true, false, false, false, false, false, false, false, false, false, false, false] (h := ?_)
           refine pu 2 (some 42) #[true, false, true, false, false, false, false, false, false, false, false, false] (h := ?_)
           refine pu 5 (some 45) #[true, false, true, false, false, true, false, false, false, false, false, false] (h := ?_)
           refine pu 7 (some 47) #[true, false, true, false, false, true, false, true, false, false, false, false] (h := ?_)
           refine tk 1 (some 41) #[true, true, true, false, false, true, false, true, false, false, false, false] (h := ?_)
           refine pu 3 (some 43) #[true, true, true, true, false, true, false, true, false, false, false, false] (h := ?_)
           refine tk 4 (some 44) #[true, true, true, true, true, true, false, true, false, false, false, false] (h := ?_)
           refine tk 6 (some 46) #[true, true, true, true, true, true, true, true, false, false, false, false] (h := ?_)
           refine pu 8 (some 48) #[true, true, true, true, true, true, true, true, true, false, false, false] (h := ?_)
           refine tk 9 (some 49) #[true, true, true, true, true, true, true, true, true, true, false, false] (h := ?_)
           refine one_ (i := 10) (N := some 50) #[true, true, true, true, true, true, true, true, true, true, true, false] rfl rfl (one_of HT_.out (by kernel_rfl)) (by decide) (fun K hK => ?_)
           refine goes_ Tryz.func14 (by kernel_rfl) rfl #[.agg #[.int .u8 ((rd_T27 l0_6 x37_2).f0), .int .i64 ((rd_T27 l0_6 x37_2).f1.f0), .int .i64 ((rd_T27 l0_6 x37_2).f1.f1), .int .i64 ((rd_T27 l0_6 x37_2).f1.f2), .int .i64 ((rd_T27 l0_6 x37_2).f1.f3), .int .i64 ((rd_T27 l0_6 x37_2).f2), .slice A448_6 ((rd_T27 l0_6 x37_2).f3).length c448_6], .agg #[.int .u8 ((rd_T27 l1_6 x37_2).f0), .int .i64 ((rd_T27 l1_6 x37_2).f1.f0), .int .i64 ((rd_T27 l1_6 x37_2).f1.f1), .int .i64 ((rd_T27 l1_6 x37_2).f1.f2), .int .i64 ((rd_T27 l1_6 x37_2).f1.f3), .int .i64 ((rd_T27 l1_6 x37_2).f2), .slice A449_6 ((rd_T27 l1_6 x37_2).f3).length c449_6]] (by rfl) rfl rfl mq2 ?_
           with_reducible refine (ih k2 (mq46 HJ2 HK2) ((rd_T27 l0_6 x37_2).f0) ((rd_T27 l0_6 x37_2).f1.f0) ((rd_T27 l0_6 x37_2).f1.f1) ((rd_T27 l0_6 x37_2).f1.f2) ((rd_T27 l0_6 x37_2).f1.f3) ((rd_T27 l0_6 x37_2).f2) _ _ ((rd_T27 l0_6 x37_2).f3) ((rd_T27 l1_6 x37_2).f0) ((rd_T27 l1_6 x37_2).f1.f0) ((rd_T27 l1_6 x37_2).f1.f1) ((rd_T27 l1_6 x37_2).f1.f2) ((rd_T27 l1_6 x37_2).f1.f3) ((rd_T27 l1_6 x37_2).f2) _ _ ((rd_T27 l1_6 x37_2).f3) false _ ?side1 ?side2 ?side3 ?side4 A28.out).mono ?_
           (case side1 => repeat (first | exact (Kd.C_below HR448_6.out HB.out) | (with_reducible refine Kd.C_alloc ?_ _) | (with_reducible refine Kd.C_drewN ?_ _) | (with_reducible refine Kd.C_drew ?_)))
           (case side2 => exact HC448_6.out)
           (case side3 => repeat (first | exact (Kd.C_below HR449_6.out HB.out) | (with_reducible refine Kd.C_alloc ?_ _) | (with_reducible refine Kd.C_drewN ?_ _) | (with_reducible refine Kd.C_drew ?_)))
           (case side4 => exact HC449_6.out)
           rintro e w33 ⟨rfl, hb⟩
           refine ⟨_, rfl, ?_⟩
           replace BK446 := (kB BK446 hb)
           replace BK447 := (kB BK447 hb)
           replace HB := ak (below_step kW hb)
           (try clear hb)
           (try clear hb2)
           (try clear hk)
           (try clear hi)
           refine hK.out _ _ ⟨(blk_cell BK446.out 0).trans rfl, (blk_cell BK446.out 1).trans rfl, (blk_cell BK446.out 2).trans rfl, (blk_cell BK446.out 3).trans rfl, (blk_cell BK446.out 4).trans rfl, (blk_cell BK446.out 5).trans rfl, (blk_cell BK446.out 6).trans rfl, (blk_cell BK447.out 0).trans rfl, (blk_cell BK447.out 1).trans rfl, (blk_cell BK447.out 2).trans rfl, (blk_cell BK447.out 3).trans rfl, (blk_cell BK447.out 4).trans rfl, (blk_cell BK447.out 5).trans rfl, (blk_cell BK447.out 6).trans rfl, ((HB.out.cell (World.block_lt_of_cell? w _ hw448_0)).trans hw448_0), ((HB.out.cell (World.block_lt_of_cell? w _ hw448_1)).trans hw448_1), ((HB.out.cell (World.block_lt_of_cell? w _ hw448_2)).trans hw448_2), ((HB.out.cell (World.block_lt_of_cell? w _ hw448_3)).trans hw448_3), ((HB.out.cell (World.block_lt_of_cell? w _ hw448_4)).trans hw448_4), ((HB.out.cell (World.block_lt_of_cell? w _ hw448_5)).trans hw448_5), ((HB.out.cell (World.block_lt_of_cell? w _ hw448_6)).trans hw448_6), ((HB.out.cell (World.block_lt_of_cell? w _ hw449_0)).trans hw449_0), ((HB.out.cell (World.block_lt_of_cell? w _ hw449_1)).trans hw449_1), ((HB.out.cell (World.block_lt_of_cell? w _ hw449_2)).trans hw449_2), ((HB.out.cell (World.block_lt_of_cell? w _ hw449_3)).trans hw449_3), ((HB.out.cell (World.block_lt_of_cell? w _ hw449_4)).trans hw449_4), ((HB.out.cell (World.block_lt_of_cell? w _ hw449_5)).trans hw449_5), ((HB.out.cell (World.block_lt_of_cell? w _ hw449_6)).trans hw449_6)⟩ (fun hHeld => ?_)
           clear hK K
           refine norm_ (a' := ?_) ?_ ?_
           rotate_left
           ·show Act.put _ (some 50) _ = _
            simp only [Act.put, List.setIfInBounds_toArray, List.set_cons_zero, List.set_cons_succ, i64_w, i32_w]
            rfl
           refine pu 11 (some 51) #[true, true, true, true, true, true, true, true, true, true, true, true] (h := ?_)
           refine done_ (done_of HT_.out (by kernel_rfl)) ?_
           try go_wp2
           go_ret
           exact ⟨mq37, kW⟩
         ·rw [if_neg c27] at H
          exact absurd H (by simp)
        ·rw [if_neg c26] at H
         exact absurd H (by simp)
       ·rw [if_neg c25] at H
        exact absurd H (by simp)
      ·rw [if_neg c24] at H
       have c24b0 : decide (x37_2 < (l0_6.length : Int)) = false := decide_eq_false c24
       clear c24
       obtain rfl := Option.some.inj H
       go_wp2
       go_ret
       exact ⟨mq37, kW⟩
end Go.Proofs.YtkobpbbegalfpaaGreatDoor.PParseBodies
