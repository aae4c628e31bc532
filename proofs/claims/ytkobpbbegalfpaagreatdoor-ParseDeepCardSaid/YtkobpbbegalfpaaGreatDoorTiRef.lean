/-
  Joined texts: PsTold, PsAwake, TiRef.
-/
import Derived.Test.YtkobpbbegalfpaaGreatDoorPsTop
import Derived.Test.YtkobpbbegalfpaaGreatDoorAsTop
import Derived.Deep.RegionHeld3
import Derived.Test.YtkobpbbegalfpaaGreatDoorTiCut
import Derived.Test.YtkobpbbegalfpaaGreatDoorTiTop2
import Derived.Test.YtkobpbbegalfpaaGreatDoorPParseBodiesx10
/-
 The statements' told, and their examples.
-/
namespace Go.Proofs.YtkobpbbegalfpaaGreatDoor
open Go.RowKit Go.Proofs.YtkobpbbegalfpaaGreatDoorW.PrintWords Go.Proofs.YtkobpbbegalfpaaGreatDoorW.PrintLast Go.Proofs.YtkobpbbegalfpaaGreatDoorW.PrintMore Go.Proofs.YtkobpbbegalfpaaGreatDoor.PParseBodies
set_option linter.unusedVariables false
set_option linter.unusedSimpArgs false
set_option maxRecDepth 100000

/-- What an answer's error is in memory. -/
def ErrIs (w : World) (v : Value) : Option (Int × Int) → Prop
 | none => v = .nilIface
 | some q => ∃ t p, v = .iface t p ∧ As.EV w v [[layB]] (.fault q.1 q.2)
theorem told_nil (no at_ : Int) (w : World) : Calls Tryz.prog 13 #[.nilIface, .int .i64 no, .int .i64 at_] w fun e w' => e = .returned (.bool (decide (no = 0 ∧ at_ = 0))) ∧ Below w.heap.size w w' := by
 have HA := Aside0.mk (fun W => As.at_nil W)
 have HC := Aside0.mk (fun W => As.code_nil W)
 by_cases h0 : no = 0
 ·subst h0
  by_cases h1 : at_ = 0
  ·subst h1
   rw [decide_eq_true (show (0 : Int) = 0 ∧ (0 : Int) = 0 from ⟨rfl, rfl⟩)]
   go_enter Tryz.func13, Tryz.ntmps13
   go_wp2_with (first | (go_at_call 32; refine (HA.out _).mono ?_; rintro e w1 ⟨rfl, hb1⟩; replace hb1 := Aside0.mk hb1) | (go_at_call 24; refine (HC.out _).mono ?_; rintro e w2 ⟨rfl, hb2⟩; replace hb2 := Aside0.mk hb2))
   go_ret
   exact ⟨rfl, hb1.out.trans (hb2.out.mono hb1.out.size)⟩
  ·rw [decide_eq_false (fun h => h1 h.2)]
   have q1 : (0 == at_) = false := beq_eq_false_iff_ne.2 (fun h => h1 h.symm)
   have q2 : ¬ 0 = at_ := fun h => h1 h.symm
   go_enter Tryz.func13, Tryz.ntmps13
   go_wp2_with (first | (go_at_call 32; refine (HA.out _).mono ?_; rintro e w1 ⟨rfl, hb1⟩; replace hb1 := Aside0.mk hb1) | (go_at_call 24; refine (HC.out _).mono ?_; rintro e w2 ⟨rfl, hb2⟩; replace hb2 := Aside0.mk hb2))
   go_ret
   exact ⟨rfl, hb1.out.trans (hb2.out.mono hb1.out.size)⟩
 ·rw [decide_eq_false (fun h => h0 h.1)]
  have q1 : (0 == no) = false := beq_eq_false_iff_ne.2 (fun h => h0 h.symm)
  have q2 : ¬ 0 = no := fun h => h0 h.symm
  go_enter Tryz.func13, Tryz.ntmps13
  go_wp2_with (first | (go_at_call 32; refine (HA.out _).mono ?_; rintro e w1 ⟨rfl, hb1⟩; replace hb1 := Aside0.mk hb1) | (go_at_call 24; refine (HC.out _).mono ?_; rintro e w2 ⟨rfl, hb2⟩; replace hb2 := Aside0.mk hb2))
  go_ret
  exact ⟨rfl, hb1.out.trans (hb2.out.mono hb1.out.size)⟩
theorem told_err (t : TypeId) (p : Value) (c a no at_ : Int) (hc : ¬ c = 0) (w : World) (he : As.EV w (.iface t p) [[layB]] (.fault c a)) (hg : As.ErrT w) :
  Calls Tryz.prog 13 #[.iface t p, .int .i64 no, .int .i64 at_] w fun e w' => e = .returned (.bool (decide (c = no ∧ a = at_))) ∧ Below w.heap.size w w' := by
 have HA : Aside0 (∀ W, As.EV W (.iface t p) [[layB]] (.fault c a) → As.ErrT W → Calls Tryz.prog 32 #[.iface t p] W fun e w' => e = .returned (.tuple #[.int .i64 a, .bool true]) ∧ Below W.heap.size W w') := ⟨fun W h hg => As.at_calls _ _ _ W h hg⟩
 have HC : Aside0 (∀ W, As.EV W (.iface t p) [[layB]] (.fault c a) → As.ErrT W → Calls Tryz.prog 24 #[.iface t p] W fun e w' => e = .returned (.int .i64 c) ∧ Below W.heap.size W w') := ⟨fun W h hg => As.code_calls _ _ _ W h hg⟩
 have HE := Aside0.mk he
 have HG := Aside0.mk hg
 clear he hg
 by_cases h0 : c = no
 ·subst h0
  have q0 : (c == 0) = false := beq_eq_false_iff_ne.2 hc
  have q9 : (c != 0) = true := by simp [hc]
  by_cases h1 : a = at_
  ·subst h1
   rw [decide_eq_true (show c = c ∧ a = a from ⟨rfl, rfl⟩)]
   go_enter Tryz.func13, Tryz.ntmps13
   go_wp2_with (first | (go_at_call 32; refine (HA.out _ HE.out HG.out).mono ?_; rintro e w1 ⟨rfl, hb1⟩; replace hb1 := Aside0.mk hb1) | (go_at_call 24; refine (HC.out _ (As.EV_keep hb1.out HE.out) (HG.out.below hb1.out)).mono ?_; rintro e w2 ⟨rfl, hb2⟩; replace hb2 := Aside0.mk hb2))
   go_ret
   exact ⟨rfl, hb1.out.trans (hb2.out.mono hb1.out.size)⟩
  ·rw [decide_eq_false (fun h => h1 h.2)]
   have q1 : (a == at_) = false := beq_eq_false_iff_ne.2 h1
   go_enter Tryz.func13, Tryz.ntmps13
   go_wp2_with (first | (go_at_call 32; refine (HA.out _ HE.out HG.out).mono ?_; rintro e w1 ⟨rfl, hb1⟩; replace hb1 := Aside0.mk hb1) | (go_at_call 24; refine (HC.out _ (As.EV_keep hb1.out HE.out) (HG.out.below hb1.out)).mono ?_; rintro e w2 ⟨rfl, hb2⟩; replace hb2 := Aside0.mk hb2))
   go_ret
   exact ⟨rfl, hb1.out.trans (hb2.out.mono hb1.out.size)⟩
 ·rw [decide_eq_false (fun h => h0 h.1)]
  have q1 : (c == no) = false := beq_eq_false_iff_ne.2 h0
  go_enter Tryz.func13, Tryz.ntmps13
  go_wp2_with (first | (go_at_call 32; refine (HA.out _ HE.out HG.out).mono ?_; rintro e w1 ⟨rfl, hb1⟩; replace hb1 := Aside0.mk hb1) | (go_at_call 24; refine (HC.out _ (As.EV_keep hb1.out HE.out) (HG.out.below hb1.out)).mono ?_; rintro e w2 ⟨rfl, hb2⟩; replace hb2 := Aside0.mk hb2))
  go_ret
  exact ⟨rfl, hb1.out.trans (hb2.out.mono hb1.out.size)⟩
def exA : SC := ⟨1, ⟨0, 0, 80, 24⟩, 1, []⟩
theorem ex_ok : textA ⟨#[98, 50, 53, 101, 44, 56, 48, 120, 50, 52, 44, 48, 44, 48, 44, 49]⟩ = .ok exA := by kernel_rfl
theorem ex_no : textA ⟨#[98, 50, 53, 100, 44, 56, 48, 120, 50, 52, 44, 48, 44, 48, 44, 49]⟩ = .error (4, 0) := by kernel_rfl
theorem inside_ev {w : World} {base g' g : Nat} {no pl : Int} (h : Inside w base g' (.iface 82 (.pointer (some ⟨g, 0, none⟩))) [layB]) (hg : w.heap[g]? = some (.cells #[.int .i64 no, .int .i64 pl] 84 (0, 0))) :
  As.EV w (.iface 78 (.pointer (some ⟨g', 0, none⟩))) [[layB]] (.fault no pl) := by
 obtain ⟨_, v, h1, h2⟩ := h
 exact ⟨g', v, _, rfl, h1, Kd.R_lower h2 (Nat.zero_le _), ⟨g, rfl, hg⟩⟩
end Go.Proofs.YtkobpbbegalfpaaGreatDoor

/-
 The statements' example.
-/
namespace Go.Proofs.YtkobpbbegalfpaaGreatDoor
open Go.RowKit Go.Proofs.YtkobpbbegalfpaaGreatDoorW.PrintWords Go.Proofs.YtkobpbbegalfpaaGreatDoorW.PrintLast Go.Proofs.YtkobpbbegalfpaaGreatDoorW.PrintMore Go.Proofs.YtkobpbbegalfpaaGreatDoor.PParseBodies
set_option linter.unusedVariables false
set_option linter.unusedSimpArgs false
set_option maxRecDepth 100000

theorem ex1_calls (w : World) (hT : NumT w) (hE : NumE w) : Calls Tryz.prog 11 #[.string ⟨#[98, 50, 53, 101, 44, 56, 48, 120, 50, 52, 44, 48, 44, 48, 44, 49]⟩] w fun e w' => (∃ A c, e = .returned (.tuple #[.agg #[.int .u8 1, .int .i64 0, .int .i64 0, .int .i64 80, .int .i64 24, .int .i64 1, .slice A 0 c], .nilIface])) ∧ Below w.heap.size w w' := by
 have h := textA_calls w ⟨#[98, 50, 53, 101, 44, 56, 48, 120, 50, 52, 44, 48, 44, 48, 44, 49]⟩ (by decide) hT hE
 rw [ex_ok] at h
 refine h.mono ?_
 rintro e w' ⟨v, rfl, hR, hb⟩
 obtain ⟨A, cp, rfl⟩ := Kd.R_slice hR
 exact ⟨⟨A, cp, rfl⟩, hb⟩
theorem ex2_calls (w : World) (hT : NumT w) (hE : NumE w) : Calls Tryz.prog 11 #[.string ⟨#[98, 50, 53, 100, 44, 56, 48, 120, 50, 52, 44, 48, 44, 48, 44, 49]⟩] w fun e w' => ∃ p, e = .returned (.tuple #[.agg zeroA, .iface 78 p]) ∧ As.EV w' (.iface 78 p) [[layB]] (.fault 4 0) ∧ Below w.heap.size w w' := by
 have h := textA_calls w ⟨#[98, 50, 53, 100, 44, 56, 48, 120, 50, 52, 44, 48, 44, 48, 44, 49]⟩ (by decide) hT hE
 rw [ex_no] at h
 refine h.mono ?_
 rintro e w' ⟨g', g, rfl, hin, hg, hb⟩
 exact ⟨_, rfl, inside_ev hin hg, hb⟩
theorem awake_calls (w : World) (hT : NumT w) (hE : NumE w) (hg : As.ErrT w) : Calls Tryz.prog 8 #[] w fun e w' => e = .returned (.bool true) ∧ Below w.heap.size w w' := by
 have H1 := Aside0.mk (ex1_calls w hT hE)
 have H2 : Aside0 (∀ W, Below w.heap.size w W → Calls Tryz.prog 11 #[.string ⟨#[98, 50, 53, 100, 44, 56, 48, 120, 50, 52, 44, 48, 44, 48, 44, 49]⟩] W fun e w' => ∃ p, e = .returned (.tuple #[.agg zeroA, .iface 78 p]) ∧ As.EV w' (.iface 78 p) [[layB]] (.fault 4 0) ∧ Below W.heap.size W w') := ⟨fun W hb => ex2_calls W (hT.below hb) (hE.below hb)⟩
 have HC : Aside0 (∀ W p, Below w.heap.size w W → As.EV W (.iface 78 p) [[layB]] (.fault 4 0) → Calls Tryz.prog 24 #[.iface 78 p] W fun e w' => e = .returned (.int .i64 4) ∧ Below W.heap.size W w') := ⟨fun W p hb h => As.code_calls _ _ _ W h (hg.below hb)⟩
 clear hT hE hg
 go_enter Tryz.func8, Tryz.ntmps8
 go_wp2_with fail
 with_reducible refine H1.out.mono ?_
 rintro e w1 ⟨⟨A, cp, rfl⟩, hb1⟩
 replace hb1 := Aside0.mk hb1
 go_wp2_with fail
 obtain ⟨W2, hW2⟩ : ∃ W2, W2 = w1.alloc (.cells #[.int .u8 1, .int .i64 0, .int .i64 0, .int .i64 80, .int .i64 24, .int .i64 1, .slice A 0 cp] 27) := ⟨_, rfl⟩
 rw [← hW2]
 have HB2 : Aside0 (Below w.heap.size w W2) := ⟨by rw [hW2]; exact Below.alloc hb1.out hb1.out.size _⟩
 have HC2 : Aside0 (W2.heap[w1.heap.size]? = some (.cells #[.int .u8 1, .int .i64 0, .int .i64 0, .int .i64 80, .int .i64 24, .int .i64 1, .slice A 0 cp] 27 (0, 0))) := ⟨by rw [hW2]; exact heap_alloc_new w1 _⟩
 clear hW2
 refine (H2.out W2 HB2.out).mono ?_
 rintro e w3 ⟨p, rfl, hev, hb3⟩
 have HB3 : Aside0 (Below w.heap.size w w3) := ⟨HB2.out.trans (hb3.mono HB2.out.size)⟩
 have HC3 : Aside0 (w3.heap[w1.heap.size]? = some (.cells #[.int .u8 1, .int .i64 0, .int .i64 0, .int .i64 80, .int .i64 24, .int .i64 1, .slice A 0 cp] 27 (0, 0))) := ⟨(hb3.block _ (blk_lt HC2.out)).trans HC2.out⟩
 have hc3 : (w3.alloc (.cells #[.int .u8 0, .int .i64 0, .int .i64 0, .int .i64 0, .int .i64 0, .int .i64 0, .slice none 0 0] 27)).heap[w1.heap.size]? = some (.cells #[.int .u8 1, .int .i64 0, .int .i64 0, .int .i64 80, .int .i64 24, .int .i64 1, .slice A 0 cp] 27 (0, 0)) := blk_alloc HC3.out _
 have y0 : (w3.alloc (.cells #[.int .u8 0, .int .i64 0, .int .i64 0, .int .i64 0, .int .i64 0, .int .i64 0, .slice none 0 0] 27)).cell? ⟨w1.heap.size, 0, none⟩ = some (.int .u8 1) := (blk_cell hc3 _).trans rfl
 have y1 : (w3.alloc (.cells #[.int .u8 0, .int .i64 0, .int .i64 0, .int .i64 0, .int .i64 0, .int .i64 0, .slice none 0 0] 27)).cell? ⟨w1.heap.size, 5, none⟩ = some (.int .i64 1) := (blk_cell hc3 _).trans rfl
 have y2 : (w3.alloc (.cells #[.int .u8 0, .int .i64 0, .int .i64 0, .int .i64 0, .int .i64 0, .int .i64 0, .slice none 0 0] 27)).cell? ⟨w1.heap.size, 3, none⟩ = some (.int .i64 80) := (blk_cell hc3 _).trans rfl
 have HEV := Aside0.mk hev
 clear hc3 hev hb3
 go_wp2_with (go_at_call 24; refine (HC.out _ p (Below.alloc HB3.out HB3.out.size _) (As.EV_keep (below_alloc (Below.refl _ _) _) HEV.out)).mono ?_; rintro e w5 ⟨rfl, hb5⟩)
 go_ret
 exact ⟨rfl, (Below.alloc HB3.out HB3.out.size _).trans (hb5.mono (Below.alloc HB3.out HB3.out.size _).size)⟩
end Go.Proofs.YtkobpbbegalfpaaGreatDoor

/-
 The document's answers about trees: what the printed references compute. Pure.
-/
namespace Go.Proofs.YtkobpbbegalfpaaGreatDoor
open Go.RowKit Go.Proofs.YtkobpbbegalfpaaGreatDoorW.PrintWords Go.Proofs.YtkobpbbegalfpaaGreatDoorW.PrintLast Go.Proofs.YtkobpbbegalfpaaGreatDoorW.PrintMore Go.Proofs.YtkobpbbegalfpaaGreatDoor.PParseBodies
set_option linter.unusedVariables false
set_option linter.unusedSimpArgs false

theorem rd_T_getD (l : List SC) (i : Nat) : rd_T27 l (i : Int) = l.getD i z27 := by simp [rd_T27]
theorem rd_R_getD (l : List SR) (i : Nat) : rd_T24 l (i : Int) = l.getD i z24 := by simp [rd_T24]
theorem dropT (l : List SC) (i : Nat) (h : i < l.length) : l.drop i = l.getD i z27 :: l.drop (i + 1) := by
 rw [List.drop_eq_getElem_cons h, List.getD_eq_getElem?_getD, List.getElem?_eq_getElem h]; rfl
theorem takeT (l : List SC) (i : Nat) (h : i < l.length) : l.take (i + 1) = l.take i ++ [l.getD i z27] := by
 rw [List.take_add_one, List.getElem?_eq_getElem h, List.getD_eq_getElem?_getD, List.getElem?_eq_getElem h]; rfl
theorem getT_mem (l : List SC) (i : Nat) (h : i < l.length) : l.getD i z27 ∈ l := by
 rw [List.getD_eq_getElem?_getD, List.getElem?_eq_getElem h]; exact List.getElem_mem _
theorem SC.eta (c : SC) : (⟨c.f0, ⟨c.f1.f0, c.f1.f1, c.f1.f2, c.f1.f3⟩, c.f2, c.f3⟩ : SC) = c := by cases c; rfl
theorem wi (i : Nat) (h : i < 1000000000) : wrap64 ((i : Int) + 1) = ((i + 1 : Nat) : Int) := by
 have e : ((i + 1 : Nat) : Int) = (i : Int) + 1 := rfl
 rw [e]; exact w64s (by omega) (by omega)

theorem ref04_May_eq (r : SR) : sashref04_May.f r.f0 r.f1 r.f2 r.f3 = some (rectOk r) := by
 have h0 : rectOk r = true ↔ _ := rectOk_iff r
 unfold sashref04_May.f
 by_cases a : r.f0 < 0
 ·rw [if_pos a]; congr 1; symm; rw [Bool.eq_false_iff]; intro h; have := h0.1 h; omega
 ·rw [if_neg a]
  by_cases b : r.f0 > 10000
  ·rw [if_pos b]; congr 1; symm; rw [Bool.eq_false_iff]; intro h; have := h0.1 h; omega
  ·rw [if_neg b]
   by_cases c : r.f1 < 0
   ·rw [if_pos c]; congr 1; symm; rw [Bool.eq_false_iff]; intro h; have := h0.1 h; omega
   ·rw [if_neg c]
    by_cases d : r.f1 > 10000
    ·rw [if_pos d]; congr 1; symm; rw [Bool.eq_false_iff]; intro h; have := h0.1 h; omega
    ·rw [if_neg d]
     by_cases e : r.f2 > 0
     ·rw [if_pos e]
      by_cases f : r.f2 ≤ 10000
      ·rw [if_pos f]
       by_cases g : r.f3 > 0
       ·rw [if_pos g]
        by_cases h : r.f3 ≤ 10000
        ·rw [if_pos h, w64s (by omega) (by omega), w64s (by omega) (by omega)]
         by_cases i : r.f0 + r.f2 ≤ 10000
         ·rw [if_pos i]
          congr 1
          rw [Bool.eq_iff_iff, h0, decide_eq_true_iff]
          omega
         ·rw [if_neg i]; congr 1; symm; rw [Bool.eq_false_iff]; intro h; have := h0.1 h; omega
        ·rw [if_neg h]; congr 1; symm; rw [Bool.eq_false_iff]; intro h; have := h0.1 h; omega
       ·rw [if_neg g]; congr 1; symm; rw [Bool.eq_false_iff]; intro h; have := h0.1 h; omega
      ·rw [if_neg f]; congr 1; symm; rw [Bool.eq_false_iff]; intro h; have := h0.1 h; omega
     ·rw [if_neg e]; congr 1; symm; rw [Bool.eq_false_iff]; intro h; have := h0.1 h; omega

def AllF (k : Nat) (c : SC) : Option (List SC) := sashref05_All.f k c.f0 c.f1.f0 c.f1.f1 c.f1.f2 c.f1.f3 c.f2 c.f3
theorem cellsL_split (l : List SC) (i : Nat) (h : i < l.length) : cellsL (l.take (i + 1)) = cellsL (l.take i) ++ cells (l.getD i z27) := by
 rw [takeT l i h, cellsL_flat, cellsL_flat, List.flatMap_append]; simp
theorem cellsL_drop (l : List SC) (i : Nat) (h : i < l.length) : (cellsL (l.drop i)).length = (cells (l.getD i z27)).length + (cellsL (l.drop (i + 1))).length := by
 rw [dropT l i h, cellsL_cons, List.length_append]
theorem cellsL_td (l : List SC) (i : Nat) : (cellsL (l.take i)).length + (cellsL (l.drop i)).length = (cellsL l).length := by
 conv => rhs; rw [← List.take_append_drop i l]
 rw [cellsL_flat, cellsL_flat, cellsL_flat, List.flatMap_append, List.length_append]

theorem All_f (c : SC) : (cells c).length ≤ 100000 → ∀ k, 2 * (cells c).length < k → AllF k c = some (cells c) := by
 refine cell_ind (P := fun c => (cells c).length ≤ 100000 → ∀ k, 2 * (cells c).length < k → AllF k c = some (cells c)) (fun c ih hs k hk => ?_) c
 have hcl : (cells c).length = 1 + (cellsL c.f3).length := by rw [cells_eq]; simp; omega
 have hge := cellsL_ge c.f3
 obtain ⟨k, rfl⟩ : ∃ m, k = m + 1 := ⟨k - 1, by omega⟩
 have loop : ∀ (d k i : Nat), c.f3.length - i = d → i ≤ c.f3.length → 2 * (cellsL (c.f3.drop i)).length + 1 < k →
   sashref05_All.l0 k ([c] ++ cellsL (c.f3.take i)) (c.f3.length : Int) (i : Int) c.f0 c.f1.f0 c.f1.f1 c.f1.f2 c.f1.f3 c.f2 c.f3 = some (cells c) := by
  intro d
  induction d with
  | zero =>
   intro k i hd hi hk
   obtain ⟨k, rfl⟩ : ∃ m, k = m + 1 := ⟨k - 1, by omega⟩
   simp only [sashref05_All.l0]
   rw [if_neg (by omega), List.take_of_length_le (by omega), cells_eq]
   rfl
  | succ d ihd =>
   intro k i hd hi hk
   obtain ⟨k, rfl⟩ : ∃ m, k = m + 1 := ⟨k - 1, by omega⟩
   have hlt : i < c.f3.length := by omega
   have h1 := cellsL_drop c.f3 i hlt
   have h2 := cells_pos (c.f3.getD i z27)
   have h3 := cellsL_td c.f3 i
   have hk2 := kid_le _ c.f3 (getT_mem c.f3 i hlt)
   have hk1 := ih _ (getT_mem c.f3 i hlt) (by omega) k (by omega)
   unfold AllF at hk1
   simp only [sashref05_All.l0]
   rw [if_pos (by omega), if_pos (by omega), if_pos (by omega), rd_T_getD, hk1]
   simp only [Option.bind_some]
   rw [if_pos (by rw [List.length_append]; simp only [List.length_cons, List.length_nil]; omega), wi i (by omega), List.append_assoc, ← cellsL_split c.f3 i hlt]
   exact ihd k (i + 1) (by omega) (by omega) (by omega)
 unfold AllF
 simp only [sashref05_All.f]
 rw [SC.eta]
 have := loop c.f3.length k 0 (by omega) (by omega) (by rw [List.drop_zero]; omega)
 simpa [cellsL_nil] using this

theorem filter_dropT (p : SC → Bool) (l : List SC) (i : Nat) (h : i < l.length) : (l.drop i).filter p = (if p (l.getD i z27) = true then [l.getD i z27] else []) ++ (l.drop (i + 1)).filter p := by
 rw [dropT l i h, List.filter_cons]
 split <;> simp
theorem Leaves_l0 (l : List SC) (hl : l.length ≤ 100000) : ∀ (d k i : Nat) (acc : List SC), l.length - i = d → i ≤ l.length → d < k → acc.length ≤ i →
  sashref05_Leaves.l0 k acc l (l.length : Int) (i : Int) = some (acc ++ (l.drop i).filter (fun x => decide (x.f0 = 1))) := by
 intro d
 induction d with
 | zero =>
  intro k i acc hd hi hk ha
  obtain ⟨k, rfl⟩ : ∃ m, k = m + 1 := ⟨k - 1, by omega⟩
  simp only [sashref05_Leaves.l0]
  rw [if_neg (by omega), List.drop_eq_nil_of_le (by omega)]; simp
 | succ d ih =>
  intro k i acc hd hi hk ha
  obtain ⟨k, rfl⟩ : ∃ m, k = m + 1 := ⟨k - 1, by omega⟩
  have hlt : i < l.length := by omega
  simp only [sashref05_Leaves.l0]
  rw [if_pos (by omega), if_pos (by omega), if_pos (by omega), rd_T_getD, filter_dropT _ l i hlt, wi i (by omega)]
  by_cases h : (l.getD i z27).f0 = 1
  ·rw [if_pos h, if_pos (by omega), if_pos (by simpa using h), SC.eta, ih k (i + 1) _ (by omega) (by omega) (by omega) (by rw [List.length_append]; simp only [List.length_cons, List.length_nil]; omega)]
   simp
  ·rw [if_neg h, if_neg (by simpa using h), ih k (i + 1) _ (by omega) (by omega) (by omega) (by omega)]
   simp
theorem Leaves_f (c : SC) (hl : (cells c).length ≤ 100000) (k : Nat) (hk : 2 * (cells c).length < k) : sashref05_Leaves.f k c.f0 c.f1.f0 c.f1.f1 c.f1.f2 c.f1.f3 c.f2 c.f3 = some (leavesOf c) := by
 have h := All_f c hl k hk
 unfold AllF at h
 unfold sashref05_Leaves.f
 rw [h]
 simp only [Option.bind_some]
 have := Leaves_l0 (cells c) hl (cells c).length k 0 [] (by omega) (by omega) (by omega) (by simp)
 simpa [leavesOf] using this

/-! may -/
def ndL (pre : List Int) : List Int → Bool
 | [] => true
 | x :: r => !(pre.contains x) && ndL (pre ++ [x]) r
theorem ndL_iff : ∀ (l pre : List Int), ndL pre l = true ↔ l.Nodup ∧ ∀ x ∈ l, x ∉ pre := by
 intro l
 induction l with
 | nil => intro pre; simp [ndL]
 | cons x r ih =>
  intro pre
  simp only [ndL, Bool.and_eq_true, ih, Bool.not_eq_true', List.nodup_cons]
  constructor
  ·rintro ⟨h1, h2, h3⟩
   have hx : x ∉ pre := by intro h; rw [List.contains_iff_mem.2 h] at h1; cases h1
   refine ⟨⟨fun h => h3 x h (by simp), h2⟩, fun y hy => ?_⟩
   rcases List.mem_cons.1 hy with rfl | hy
   ·exact hx
   ·exact fun h => h3 y hy (by simp [h])
  ·rintro ⟨⟨h1, h2⟩, h3⟩
   refine ⟨?_, h2, fun y hy h => ?_⟩
   ·rw [Bool.eq_false_iff]; intro h; exact h3 x (by simp) (List.contains_iff_mem.1 h)
   ·rcases List.mem_append.1 h with h | h
    ·exact h3 y (by simp [hy]) h
    ·obtain rfl : y = x := by simpa using h
     exact h1 hy
theorem ids_drop (l : List SC) (i : Nat) (h : i < l.length) : (l.map (·.f2)).drop i = (l.getD i z27).f2 :: (l.map (·.f2)).drop (i + 1) := by
 rw [← List.map_drop, dropT l i h, List.map_cons, List.map_drop]
theorem ids_take (l : List SC) (i : Nat) (h : i < l.length) : (l.map (·.f2)).take (i + 1) = (l.map (·.f2)).take i ++ [(l.getD i z27).f2] := by
 rw [← List.map_take, takeT l i h, List.map_append, List.map_take]; rfl

theorem May_l2 (t : List SC) (ht : t.length ≤ 10000) (i : Nat) (hi : i < t.length) : ∀ (d k j : Nat), i - j = d → j ≤ i → d < k → ∃ k', k - d - 1 ≤ k' ∧
  sashref05_May.l2 k t (i : Int) (j : Int) (t.length : Int) (i : Int) = if (((t.map (·.f2)).take i).drop j).contains (t.getD i z27).f2 = true then some false else sashref05_May.l1 k' t (t.length : Int) ((i + 1 : Nat) : Int) := by
 intro d
 induction d with
 | zero =>
  intro k j hd hj hk
  obtain ⟨k, rfl⟩ : ∃ m, k = m + 1 := ⟨k - 1, by omega⟩
  refine ⟨k, by omega, ?_⟩
  simp only [sashref05_May.l2]
  rw [if_neg (by omega), wi i (by omega), List.drop_eq_nil_of_le (by rw [List.length_take]; omega), if_neg (by simp)]
 | succ d ih =>
  intro k j hd hj hk
  obtain ⟨k, rfl⟩ : ∃ m, k = m + 1 := ⟨k - 1, by omega⟩
  obtain ⟨k', hk', hh⟩ := ih k (j + 1) (by omega) (by omega) (by omega)
  refine ⟨k', by omega, ?_⟩
  simp only [sashref05_May.l2]
  rw [if_pos (by omega), if_pos (by omega), if_pos (by omega), if_pos (by omega), if_pos (by omega), rd_T_getD, rd_T_getD, wi j (by omega), hh]
  have hjl : j < ((t.map (·.f2)).take i).length := by rw [List.length_take, List.length_map]; omega
  have e : ((t.map (·.f2)).take i).drop j = (t.getD j z27).f2 :: ((t.map (·.f2)).take i).drop (j + 1) := by
   rw [List.drop_eq_getElem_cons hjl]
   congr 1
   rw [List.getElem_take, List.getElem_map, List.getD_eq_getElem?_getD, List.getElem?_eq_getElem (by omega)]
   rfl
  rw [e]
  by_cases h : (t.getD i z27).f2 = (t.getD j z27).f2
  ·rw [if_pos h, h, if_pos (by simp)]
  ·rw [if_neg h]
   have : ((t.getD j z27).f2 :: ((t.map (·.f2)).take i).drop (j + 1)).contains (t.getD i z27).f2 = (((t.map (·.f2)).take i).drop (j + 1)).contains (t.getD i z27).f2 := by
    rw [List.contains_cons]
    have : ((t.getD i z27).f2 == (t.getD j z27).f2) = false := beq_eq_false_iff_ne.2 h
    rw [this, Bool.false_or]
   rw [this]
theorem May_l1 (t : List SC) (ht : t.length ≤ 10000) (B : Nat) (hB : 10002 ≤ B) : ∀ (d k i : Nat), t.length - i = d → i ≤ t.length → d * B < k → sashref05_May.l1 k t (t.length : Int) (i : Int) = some (ndL ((t.map (·.f2)).take i) ((t.map (·.f2)).drop i)) := by
 intro d
 induction d with
 | zero =>
  intro k i hd hi hk
  obtain ⟨k, rfl⟩ : ∃ m, k = m + 1 := ⟨k - 1, by omega⟩
  simp only [sashref05_May.l1]
  rw [if_neg (by omega), List.drop_eq_nil_of_le (by rw [List.length_map]; omega)]
  rfl
 | succ d ih =>
  intro k i hd hi hk
  obtain ⟨k, rfl⟩ : ∃ m, k = m + 1 := ⟨k - 1, by omega⟩
  have hk2 : d * B + B < k + 1 := by rwa [Nat.succ_mul] at hk
  obtain ⟨k', hk', hh⟩ := May_l2 t ht i (by omega) i k 0 (by omega) (by omega) (by omega)
  have hkk : d * B < k' := by omega
  have hih := ih k' (i + 1) (by omega) (by omega) hkk
  simp only [sashref05_May.l1]
  have hz : ((0 : Nat) : Int) = 0 := rfl
  rw [hz] at hh
  rw [if_pos (by omega), hh, List.drop_zero, ids_drop t i (by omega), hih, ids_take t i (by omega)]
  simp only [ndL]
  cases ((t.map (·.f2)).take i).contains (t.getD i z27).f2 <;> simp

theorem May_step (l : List SC) (i : Nat) (hi : i < l.length) (hl : l.length ≤ 100000) (k : Nat) (c : SC) :
  sashref05_May.l0 (k + 2) l (l.length : Int) (i : Int) c.f0 c.f1.f0 c.f1.f1 c.f1.f2 c.f1.f3 c.f2 c.f3 =
   if (rectOk (l.getD i z27).f1 && nodeOk (l.getD i z27)) = true then sashref05_May.l0 k l (l.length : Int) ((i + 1 : Nat) : Int) c.f0 c.f1.f0 c.f1.f1 c.f1.f2 c.f1.f3 c.f2 c.f3 else some false := by
 conv => lhs; simp only [sashref05_May.l0, sashref05_May.j1]
 rw [if_pos (by omega), if_pos (by omega), if_pos (by omega), rd_T_getD, ref04_May_eq]
 simp only [Option.bind_some]
 rw [wi i (by omega), nodeOk_B]
 have hp : 0 ≤ (i : Int) := by omega
 have hq : (i : Int) < (l.length : Int) := by omega
 simp only [if_pos hp, if_pos hq]
 generalize l.getD i z27 = x
 cases hr : rectOk x.f1 with
 | false => simp
 | true =>
  simp only [if_true, Bool.true_and]
  by_cases h1 : x.f0 < 1
  ·rw [if_pos h1]
   have : nodeB x.f0 x.f2 x.f3.length = false := by unfold nodeB; rw [if_neg (by omega), if_neg (by omega)]
   rw [this]; simp
  ·rw [if_neg h1]
   by_cases h3 : x.f0 > 3
   ·have : nodeB x.f0 x.f2 x.f3.length = false := by unfold nodeB; rw [if_neg (by omega), if_neg (by omega)]
    rw [this, decide_eq_true h3]; simp
   ·rw [decide_eq_false h3]
    simp only [Bool.false_eq_true, if_false]
    unfold nodeB
    by_cases hk : x.f0 = 1
    ·rw [if_pos hk, if_pos hk]
     by_cases a : (x.f3.length : Int) > 0
     ·rw [if_pos a]
      have : ¬ x.f3.length = 0 := by omega
      simp [this]
     ·rw [if_neg a]
      have e : x.f3.length = 0 := by omega
      by_cases b : x.f2 < 0
      ·rw [if_pos b]; simp; omega
      ·rw [if_neg b]
       by_cases d : x.f2 > 2147483647
       ·rw [if_pos d]; simp; omega
       ·rw [if_neg d, if_neg (by omega)]
        have : (decide (x.f3.length = 0) && decide (0 ≤ x.f2 ∧ x.f2 ≤ 2147483647)) = true := by simp [e]; omega
        rw [if_pos this]
    ·rw [if_neg hk, if_neg hk, if_pos (show x.f0 > 1 by omega), if_pos (show x.f0 = 2 ∨ x.f0 = 3 by omega)]
     by_cases a : (x.f3.length : Int) < 2
     ·rw [if_pos a]
      have : ¬ 2 ≤ x.f3.length := by omega
      simp [this]
     ·rw [if_neg a]
      by_cases b : x.f2 = 0
      ·rw [if_pos b]
       have : decide (2 ≤ x.f3.length ∧ x.f2 = 0) = true := decide_eq_true ⟨by omega, b⟩
       rw [if_pos this]
      ·rw [if_neg b]; simp [b]
theorem May_l0 (l : List SC) (hl : l.length ≤ 100000) (c : SC) : ∀ (d k i : Nat), l.length - i = d → i ≤ l.length → 2 * d < k → ∃ k', k - 2 * d - 1 ≤ k' ∧
  sashref05_May.l0 k l (l.length : Int) (i : Int) c.f0 c.f1.f0 c.f1.f1 c.f1.f2 c.f1.f3 c.f2 c.f3 = if (l.drop i).all (fun x => rectOk x.f1 && nodeOk x) = true then ((sashref05_Leaves.f k' c.f0 c.f1.f0 c.f1.f1 c.f1.f2 c.f1.f3 c.f2 c.f3).bind fun t229 => (sashref05_May.l1 k' t229 (t229.length : Int) 0)) else some false := by
 intro d
 induction d with
 | zero =>
  intro k i hd hi hk
  obtain ⟨k, rfl⟩ : ∃ m, k = m + 1 := ⟨k - 1, by omega⟩
  refine ⟨k, by omega, ?_⟩
  simp only [sashref05_May.l0]
  rw [if_neg (by omega), List.drop_eq_nil_of_le (by omega)]
  simp
 | succ d ih =>
  intro k i hd hi hk
  obtain ⟨k, rfl⟩ : ∃ m, k = m + 2 := ⟨k - 2, by omega⟩
  obtain ⟨k', hk', hh⟩ := ih k (i + 1) (by omega) (by omega) (by omega)
  refine ⟨k', by omega, ?_⟩
  rw [May_step l i (by omega) hl, hh, dropT l i (by omega), List.all_cons]
  cases (rectOk (l.getD i z27).f1 && nodeOk (l.getD i z27)) <;> simp

theorem May_f (c : SC) (hl : (cells c).length ≤ 10000) (k : Nat) (hk : 200000000 < k) : sashref05_May.f k c.f0 c.f1.f0 c.f1.f1 c.f1.f2 c.f1.f3 c.f2 c.f3 = some (mayB c) := by
 have h := All_f c (by omega) k (by omega)
 unfold AllF at h
 unfold sashref05_May.f
 rw [h]
 simp only [Option.bind_some]
 rw [if_neg (by omega)]
 obtain ⟨k', hk', hh⟩ := May_l0 (cells c) (by omega) c (cells c).length k 0 (by omega) (by omega) (by omega)
 have hz : ((0 : Nat) : Int) = 0 := rfl
 rw [hz, List.drop_zero] at hh
 rw [hh]
 have hlv : (leavesOf c).length ≤ 10000 := Nat.le_trans (List.length_filter_le _ _) hl
 by_cases ha : (cells c).all (fun x => rectOk x.f1 && nodeOk x) = true
 ·rw [if_pos ha, Leaves_f c (by omega) k' (by omega)]
  simp only [Option.bind_some]
  have hl1 := May_l1 (leavesOf c) hlv 10010 (by decide) (leavesOf c).length k' 0 (by omega) (by omega) (by omega)
  rw [hz, List.take_zero, List.drop_zero] at hl1
  rw [hl1]
  congr 1
  rw [Bool.eq_iff_iff, ndL_iff, may_iff]
  have e : (leavesOf c).map (·.f2) = leafIds (cells c) := rfl
  rw [e]
  constructor
  ·rintro ⟨h1, _⟩
   refine ⟨by omega, fun x hx => ?_, h1⟩
   have := List.all_eq_true.1 ha x hx
   rw [Bool.and_eq_true] at this
   exact ⟨this.2, this.1⟩
  ·rintro ⟨_, _, h⟩
   exact ⟨h, fun _ _ h => by cases h⟩
 ·rw [if_neg ha]
  congr 1
  symm
  rw [Bool.eq_false_iff]
  intro hm
  apply ha
  rw [List.all_eq_true]
  intro x hx
  have := ((may_iff c).1 hm).2.1 x hx
  rw [this.1, this.2]; rfl
end Go.Proofs.YtkobpbbegalfpaaGreatDoor
