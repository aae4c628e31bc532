/-
  rect.May of one rectangle; cell.node.
-/
import Derived.Test.YtakhnigalkjhhaaDoorTiAll
import Derived.Test.YtakhnigalkjhhaaDoorPTileChecksx3
namespace Go.Proofs.YtakhnigalkjhhaaDoor
open Go.RowKit Go.Proofs.YtakhnigalkjhhaaDoorW.PrintWords Go.Proofs.YtakhnigalkjhhaaDoorW.PrintLast Go.Proofs.YtakhnigalkjhhaaDoorW.PrintMore Go.Proofs.YtakhnigalkjhhaaDoor.PTileChecks
set_option linter.unusedVariables false
set_option linter.unusedSimpArgs false
set_option maxRecDepth 100000

theorem rect_may_eq (r : SR) : rect_may.f r.f0 r.f1 r.f2 r.f3 = some (rectOk r) := by
  unfold rect_may.f rectOk
  by_cases h0 : 0 ≤ r.f0
  · rw [if_pos (by omega)]
    by_cases h1 : 1 ≤ r.f2
    · rw [if_pos (by omega)]
      by_cases h2 : r.f2 ≤ 10000
      · rw [if_pos (by omega)]
        have e : wrap64 (10000 - r.f2) = 10000 - r.f2 := by unfold wrap64; omega
        rw [e]
        by_cases h3 : r.f0 ≤ 10000 - r.f2
        · rw [if_pos h3]
          by_cases h4 : 0 ≤ r.f1
          · rw [if_pos (by omega)]
            by_cases h5 : 1 ≤ r.f3
            · rw [if_pos (by omega)]
              by_cases h6 : r.f3 ≤ 10000
              · rw [if_pos (by omega)]
                have e : wrap64 (10000 - r.f3) = 10000 - r.f3 := by unfold wrap64; omega
                rw [e]
                congr 1
                rw [decide_eq_decide]
                omega
              · rw [if_neg (by omega)]; simp; omega
            · rw [if_neg (by omega)]; simp; omega
          · rw [if_neg (by omega)]; simp; omega
        · rw [if_neg h3]; simp; omega
      · rw [if_neg (by omega)]; simp; omega
    · rw [if_neg (by omega)]; simp; omega
  · rw [if_neg (by omega)]; simp; omega

theorem rmay1_calls (r : SR) (w : World) : Calls Tryd.prog 90 #[.agg #[.int .i64 r.f0, .int .i64 r.f1, .int .i64 r.f2, .int .i64 r.f3]] w fun e w' => e = .returned (.bool (!rectOk r)) ∧ Below w.heap.size w w' := by
  have HB := Aside0.mk (below_alloc (Below.refl w.heap.size w) (.cells #[.int .i64 r.f0, .int .i64 r.f1, .int .i64 r.f2, .int .i64 r.f3] 23))
  have HC := Aside0.mk (rect_may.calls r.f0 r.f1 r.f2 r.f3 _ (w.alloc (.cells #[.int .i64 r.f0, .int .i64 r.f1, .int .i64 r.f2, .int .i64 r.f3] 23)) (rect_may_eq r))
  generalize rectOk r = b at *
  go_enter Tryd.func90, Tryd.ntmps90
  go_wp2_with fail
  refine HC.out.mono ?_
  rintro e w1 ⟨rfl, hb⟩
  have HB1 := Aside0.mk (HB.out.trans (hb.mono (by simp)))
  clear hb
  go_wp2
  go_ret
  exact ⟨rfl, HB1.out⟩

set_option maxHeartbeats 1000000 in
theorem ifr_calls (b : Nat) (r : SR) (w : World) (h0 : w.cell? ⟨b, 0, none⟩ = some (.int .i64 r.f0)) (h1 : w.cell? ⟨b, 1, none⟩ = some (.int .i64 r.f1)) (h2 : w.cell? ⟨b, 2, none⟩ = some (.int .i64 r.f2)) (h3 : w.cell? ⟨b, 3, none⟩ = some (.int .i64 r.f3)) :
    Calls Tryd.prog 100 #[.slice (some ⟨b, 0, none⟩) 1 1, .func (.func 90) #[] #[]] w fun e w' => ∃ q : Int, e = .returned (.int .i64 q) ∧ decide (0 ≤ q) = !rectOk r ∧ Below w.heap.size w w' := by
  have HC : Aside0 (∀ w, Calls Tryd.prog 90 #[.agg #[.int .i64 r.f0, .int .i64 r.f1, .int .i64 r.f2, .int .i64 r.f3]] w fun e w' => e = .returned (.bool (!rectOk r)) ∧ Below w.heap.size w w') := ⟨rmay1_calls r⟩
  generalize rectOk r = bb at *
  go_enter Tryd.func100, Tryd.ntmps100
  go_wp2
  go_loopw [5, 8] (fun _ i wr => (i = .int .i64 0 ∧ wr = w) ∨ (i = .int .i64 1 ∧ bb = true ∧ Below w.heap.size w wr)) (fun _ i _ => 1 - (intOf i).toNat)
  case atStart => exact .inl ⟨rfl, rfl⟩
  case round =>
    rcases hrel with ⟨rfl, rfl⟩ | ⟨rfl, hb1, hb2⟩
    · cases bb with
      | true =>
        go_wp2_with fail
        refine (HC.out _).mono ?_
        rintro e w1 ⟨rfl, hb⟩
        have HB1 := Aside0.mk hb
        clear hb
        go_wp2
        go_roundw
        case rel => exact .inr ⟨rfl, trivial, HB1.out⟩
        case measure => simp [intOf]
      | false =>
        go_wp2_with fail
        refine (HC.out _).mono ?_
        rintro e w1 ⟨rfl, hb⟩
        have HB1 := Aside0.mk hb
        clear hb
        go_wp2
        go_ret
        exact ⟨_, rfl, by simp, HB1.out⟩
    · subst hb1
      have HB1 := Aside0.mk hb2
      clear hb2
      go_wp2
      go_ret
      exact ⟨_, rfl, by simp, HB1.out⟩

/-- rect.May of one rectangle, in a block of its own. -/
theorem rmay_calls (b : Nat) (r : SR) (w : World) (h0 : w.cell? ⟨b, 0, none⟩ = some (.int .i64 r.f0)) (h1 : w.cell? ⟨b, 1, none⟩ = some (.int .i64 r.f1)) (h2 : w.cell? ⟨b, 2, none⟩ = some (.int .i64 r.f2)) (h3 : w.cell? ⟨b, 3, none⟩ = some (.int .i64 r.f3)) :
    Calls Tryd.prog 75 #[.slice (some ⟨b, 0, none⟩) 1 1] w fun e w' => e = .returned (.bool (rectOk r)) ∧ Below w.heap.size w w' := by
  have HC := ifr_calls b r w h0 h1 h2 h3
  have HF : Calls Tryd.prog 89 #[.slice (some ⟨b, 0, none⟩) 1 1, .func (.func 90) #[] #[]] w fun e w' => e = .returned (.bool (!rectOk r)) ∧ Below w.heap.size w w' := by
    have HC := Aside0.mk HC
    clear h0 h1 h2 h3
    generalize rectOk r = bb at *
    go_enter Tryd.func89, Tryd.ntmps89
    go_wp2_with fail
    refine HC.out.mono ?_
    rintro e w1 ⟨q, rfl, hq, hb⟩
    have HQ := Aside0.mk hq
    have HB := Aside0.mk hb
    clear hq hb
    go_wp2
    go_ret
    exact ⟨by rw [← HQ.out]; rfl, HB.out⟩
  replace HF := Aside0.mk HF
  clear h0 h1 h2 h3 HC
  generalize rectOk r = bb at *
  go_enter Tryd.func75, Tryd.ntmps75
  go_wp2_with fail
  refine HF.out.mono ?_
  rintro e w1 ⟨rfl, hb⟩
  have HB := Aside0.mk hb
  clear hb
  go_wp2
  go_ret
  exact ⟨by simp, HB.out⟩

def nodeB (k i : Int) (n : Nat) : Bool := if k = 1 then decide (n = 0) && decide (0 ≤ i ∧ i ≤ 2147483647) else if k = 2 ∨ k = 3 then decide (2 ≤ n ∧ i = 0) else false
theorem nodeOk_B (c : SC) : nodeOk c = nodeB c.f0 c.f2 c.f3.length := by
  unfold nodeOk nodeB
  have : c.f3.isEmpty = decide (c.f3.length = 0) := by cases c.f3 <;> simp
  rw [this]

set_option maxHeartbeats 2000000 in
theorem nodeB_calls (k x y v h i : Int) (A : Option Addr) (n cap : Nat) (w : World) (hn : n ≤ 9223372036854775807) :
    Calls Tryd.prog 74 #[.agg #[.int .u8 k, .int .i64 x, .int .i64 y, .int .i64 v, .int .i64 h, .int .i64 i, .slice A n cap]] w fun e w' => e = .returned (.bool (nodeB k i n)) ∧ Below w.heap.size w w' := by
  have HB := Aside0.mk (below_alloc (Below.refl w.heap.size w) (.cells #[.int .u8 k, .int .i64 x, .int .i64 y, .int .i64 v, .int .i64 h, .int .i64 i, .slice A n cap] 26))
  by_cases hk : k = 1
  · subst hk
    unfold nodeB
    rw [if_pos rfl]
    by_cases h1 : n = 0
    · subst h1
      by_cases h2 : 0 ≤ i
      · by_cases h3 : i ≤ 2147483647
        · go_enter Tryd.func74, Tryd.ntmps74
          go_wp2
          go_ret
          exact ⟨by simp [h2, h3], HB.out⟩
        · have h3b : decide (i ≤ 2147483647) = false := decide_eq_false h3
          go_enter Tryd.func74, Tryd.ntmps74
          go_wp2
          go_ret
          exact ⟨by simp [h3b], HB.out⟩
      · have h2b : decide (0 ≤ i) = false := decide_eq_false h2
        go_enter Tryd.func74, Tryd.ntmps74
        go_wp2
        go_ret
        exact ⟨by simp [h2], HB.out⟩
    · have h1b : ((n : Int) == 0) = false := beq_eq_false_iff_ne.2 (by omega)
      have h1c : (n == 0) = false := beq_eq_false_iff_ne.2 h1
      go_enter Tryd.func74, Tryd.ntmps74
      go_wp2
      go_ret
      exact ⟨by simp [h1], HB.out⟩
  · have hkb : (k == 1) = false := beq_eq_false_iff_ne.2 hk
    unfold nodeB
    rw [if_neg hk]
    by_cases hk2 : k = 2 ∨ k = 3
    · rw [if_pos hk2]
      rcases hk2 with rfl | rfl
      all_goals
        by_cases h1 : 2 ≤ n
        · have h1b : decide ((n : Int) ≥ 2) = true := decide_eq_true (by omega)
          have h1c : decide (2 ≤ (n : Int)) = true := decide_eq_true (by omega)
          by_cases h2 : i = 0
          · subst h2
            clear hk hkb
            go_enter Tryd.func74, Tryd.ntmps74
            go_wp2
            go_ret
            exact ⟨by simp [h1], HB.out⟩
          · have h2b : (i == 0) = false := beq_eq_false_iff_ne.2 h2
            clear hk hkb
            go_enter Tryd.func74, Tryd.ntmps74
            go_wp2
            go_ret
            exact ⟨by simp [h2], HB.out⟩
        · have h1b : decide ((n : Int) ≥ 2) = false := decide_eq_false (by omega)
          have h1c : decide (2 ≤ (n : Int)) = false := decide_eq_false (by omega)
          clear hk hkb
          go_enter Tryd.func74, Tryd.ntmps74
          go_wp2
          go_ret
          exact ⟨by simp [h1], HB.out⟩
    · rw [if_neg hk2]
      have g2 : (k == 2) = false := beq_eq_false_iff_ne.2 (fun h => hk2 (.inl h))
      have g3 : (k == 3) = false := beq_eq_false_iff_ne.2 (fun h => hk2 (.inr h))
      clear hk hk2
      go_enter Tryd.func74, Tryd.ntmps74
      go_wp2
      go_ret
      exact ⟨rfl, HB.out⟩
theorem node_calls (c : SC) (A : Option Addr) (cap : Nat) (w : World) (hn : c.f3.length ≤ 9223372036854775807) :
    Calls Tryd.prog 74 #[.agg #[.int .u8 c.f0, .int .i64 c.f1.f0, .int .i64 c.f1.f1, .int .i64 c.f1.f2, .int .i64 c.f1.f3, .int .i64 c.f2, .slice A c.f3.length cap]] w fun e w' => e = .returned (.bool (nodeOk c)) ∧ Below w.heap.size w w' := by
  rw [nodeOk_B]
  exact nodeB_calls _ _ _ _ _ _ A _ cap w hn
end Go.Proofs.YtakhnigalkjhhaaDoor
