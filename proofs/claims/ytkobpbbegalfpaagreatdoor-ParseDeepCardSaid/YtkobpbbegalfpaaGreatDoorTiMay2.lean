/-
 cell.may, cell.May: whether trees may be. The numbers that were met lie in a map.
-/
import Derived.Test.YtkobpbbegalfpaaGreatDoorTiCut
import Derived.Maps.OwnSet
import Derived.Outline
namespace Go.Proofs.YtkobpbbegalfpaaGreatDoor
open Go.RowKit Go.Proofs.YtkobpbbegalfpaaGreatDoorW.PrintWords Go.Proofs.YtkobpbbegalfpaaGreatDoorW.PrintLast Go.Proofs.YtkobpbbegalfpaaGreatDoorW.PrintMore Go.Proofs.YtkobpbbegalfpaaGreatDoor.PParseBodies
set_option linter.unusedVariables false
set_option linter.unusedSimpArgs false
set_option maxRecDepth 100000

theorem wf64 {i : Int} (h0 : -9223372036854775808 ≤ i) (h1 : i ≤ 9223372036854775807) : (Lit.int .i64 i).wf = true := WalkArith.wf_i64 ⟨h0, h1⟩
/-- Block b of w is a map that has just the numbers ids (of those that an int may be). -/
def SetAt (w : World) (b u : Nat) (ids : List Int) : Prop :=
 ∃ D : DataW Unit, w.ownsMap Tryz.prog 3 (plainElem Tryz.prog 4) b u D ∧ ∀ i : Int, (Lit.int .i64 i).wf = true → D.atKey (.int .i64 i) (.lit (.bool false)) = .lit (.bool (decide (i ∈ ids)))
theorem SetAt.made (w : World) (u : Nat) : SetAt (w.alloc (.map #[] 0)) w.heap.size u [] := ⟨.map [], (World.ownsMap_made w Tryz.prog 3 _).mono (Nat.zero_le _), fun i _ => rfl⟩
theorem SetAt.below {w w' : World} {b u : Nat} {ids : List Int} (h : SetAt w b u ids) (hb : Below w.heap.size w w') : SetAt w' b u ids := by
 obtain ⟨D, h1, h2⟩ := h
 exact ⟨D, h1.kept (grown_of_below hb none) (by simp), h2⟩
theorem SetAt.mono {w : World} {b u u' : Nat} {ids : List Int} (h : SetAt w b u ids) (hu : u ≤ u') : SetAt w b u' ids := by
 obtain ⟨D, h1, h2⟩ := h
 exact ⟨D, h1.mono hu, h2⟩
theorem SetAt.setCell {w : World} {b u : Nat} {ids : List Int} (h : SetAt w b u ids) {a : Addr} (ha : b ≠ a.block) (v : Value) : SetAt (w.setCell a v) b u ids := by
 obtain ⟨D, h1, h2⟩ := h
 exact ⟨D, h1.setCell ha v, h2⟩
theorem SetAt.look {w : World} {b u : Nat} {ids : List Int} (h : SetAt w b u ids) (i : Int) (hw : (Lit.int .i64 i).wf = true) : (Instr.lookup 163 (.map (some b)) (.int .i64 i) false).run Tryz.prog w = .ok (.bool (decide (i ∈ ids))) w := by
 obtain ⟨D, h1, h2⟩ := h
 obtain ⟨v, ps, hr, hv⟩ := h1.lookup (z := .bool false) (Go.Maps.int_keyed Tryz.underlying3) Tryz.underlying163 (by kernel_rfl) (plainElem_bool Tryz.underlying4 false) (Go.Maps.keyOf_int_mk Tryz.underlying3 hw)
 rw [h2 i hw] at hv
 rw [hr]
 unfold plainElem at hv
 rw [Tryz.underlying4] at hv
 cases v <;> simp at hv
 rw [hv.1]
theorem SetAt.put {w : World} {b u : Nat} {ids : List Int} (h : SetAt w b u ids) (i : Int) (hw : (Lit.int .i64 i).wf = true) (hu : u < 1000000) :
  ∃ w', (Instr.mapUpdate 163 (.map (some b)) (.int .i64 i) (.bool true)).run Tryz.prog w = .ok () w' ∧ SetAt w' b (u + 1) (i :: ids) ∧ w.grownBy w' (some b) := by
 obtain ⟨D, h1, h2⟩ := h
 obtain ⟨w', hr, ho, hg⟩ := h1.update (val := .bool true) (Go.Maps.int_keyed Tryz.underlying3) Tryz.underlying163 (by unfold maxLen; omega) (Go.Maps.keyOf_int_mk Tryz.underlying3 hw) (plainElem_bool Tryz.underlying4 true)
 refine ⟨w', hr, ⟨_, ho, fun j hj => ?_⟩, hg⟩
 by_cases e : j = i
 ·subst e
  rw [Go.Maps.atKey_put_same h1.isMap (by simp [WideAt.IsKeyLit])]
  simp
 ·rw [Go.Maps.atKey_put_other (by intro h; injection h with _ h; exact e h), h2 j hj]
  simp [e]

/-- The state of the test: how many cells, the numbers met. -/
def MayInv (B N bn bm mb : Nat) (w : World) (st : Nat × List Int) (u : Nat) : Prop :=
 (st.1 ≤ u ∧ (B ≤ bn ∧ bn < N) ∧ (B ≤ mb ∧ mb < N) ∧ bn ≠ bm ∧ bn ≠ mb ∧ bm ≠ mb) ∧ w.heap[bn]? = some (.cells #[.int .i64 (st.1 : Nat)] 3 (0, 0)) ∧ w.heap[bm]? = some (.cells #[.map (some mb)] 163 (0, 0)) ∧ SetAt w mb u st.2
theorem MayInv.stable (B N bn bm mb : Nat) : Stable (MayInv B N bn bm mb) :=
 ⟨fun w w' st u h hb => ⟨h.1, (hb.block bn (blk_lt h.2.1)).trans h.2.1, (hb.block bm (blk_lt h.2.2.1)).trans h.2.2.1, h.2.2.2.below hb⟩,
 fun w st u u' h hu => ⟨⟨by have := h.1.1; omega, h.1.2⟩, h.2.1, h.2.2.1, h.2.2.2.mono hu⟩⟩

set_option maxHeartbeats 4000000 in
theorem may1_calls (B N bn bm mb : Nat) (c : SC) (w : World) (st : Nat × List Int) (u : Nat) (A : Option Addr) (cap : Nat) (hi : MayInv B N bn bm mb w st u) (hu : u + 1 ≤ 10000) (hN : N ≤ w.heap.size) (hn : c.f3.length ≤ 9223372036854775807) :
  Calls Tryz.prog 97 #[.agg #[.int .u8 c.f0, .int .i64 c.f1.f0, .int .i64 c.f1.f1, .int .i64 c.f1.f2, .int .i64 c.f1.f3, .int .i64 c.f2, .slice A c.f3.length cap], .pointer (some ⟨bn, 0, none⟩), .pointer (some ⟨bm, 0, none⟩)] w
   fun e w' => e = .returned (.bool (mayStep st c).1) ∧ MayInv B N bn bm mb w' (mayStep st c).2 (u + 1) ∧ Mid B N w w' := by
 obtain ⟨⟨q1, q2, q3, q4, q5, q6⟩, b1, b2, hS⟩ := hi
 obtain ⟨n, ids⟩ := st
 simp only at q1 b1 hS
 have hlt1 := blk_lt b1
 have hlt2 := blk_lt b2
 obtain ⟨w1, hw1⟩ : ∃ w1, w1 = w.setCell ⟨bn, 0, none⟩ (.int .i64 ((n : Int) + 1)) := ⟨_, rfl⟩
 have hs1 : w1.heap.size = w.heap.size := by rw [hw1]; simp [World.setCell]
 have b1' : w1.heap[bn]? = some (.cells #[.int .i64 ((n + 1 : Nat) : Int)] 3 (0, 0)) := by rw [hw1]; exact blk_set b1 0 _
 have hoth : ∀ k, k ≠ bn → w1.heap[k]? = w.heap[k]? := fun k hk => by rw [hw1]; exact Below.heap_setCell _ _ _ _ hk
 have b2' : w1.heap[bm]? = some (.cells #[.map (some mb)] 163 (0, 0)) := (hoth bm (Ne.symm q4)).trans b2
 have hS1 : SetAt w1 mb u ids := by rw [hw1]; exact hS.setCell (Ne.symm q5) _
 have hm01 : Mid B N w w1 := by rw [hw1]; exact (Mid.refl B N w).setCell q2 _
 obtain ⟨w2, hw2⟩ : ∃ w2, w2 = w1.alloc (.cells #[.int .u8 c.f0, .int .i64 c.f1.f0, .int .i64 c.f1.f1, .int .i64 c.f1.f2, .int .i64 c.f1.f3, .int .i64 c.f2, .slice A c.f3.length cap] 27) := ⟨_, rfl⟩
 have hb12 : Below w1.heap.size w1 w2 := by rw [hw2]; exact below_alloc (Below.refl _ _) _
 have b1'' : w2.heap[bn]? = some (.cells #[.int .i64 ((n + 1 : Nat) : Int)] 3 (0, 0)) := (hb12.block bn (blk_lt b1')).trans b1'
 have b2'' : w2.heap[bm]? = some (.cells #[.map (some mb)] 163 (0, 0)) := (hb12.block bm (blk_lt b2')).trans b2'
 have hbox2 : w2.heap[w.heap.size]? = some (.cells #[.int .u8 c.f0, .int .i64 c.f1.f0, .int .i64 c.f1.f1, .int .i64 c.f1.f2, .int .i64 c.f1.f3, .int .i64 c.f2, .slice A c.f3.length cap] 27 (0, 0)) := by rw [hw2, ← hs1]; exact heap_alloc_new w1 _
 have hS2 : SetAt w2 mb u ids := hS1.below hb12
 have hm02 : Mid B N w w2 := hm01.below hb12
 have hs2 : w2.heap.size = w.heap.size + 1 := by rw [hw2]; simp [hs1]
 -- the test of the node
 have HNODE := node_calls c A cap w2 hn
 obtain ⟨nd, hnd⟩ : ∃ nd, nd = nodeOk c := ⟨_, rfl⟩
 obtain ⟨rk, hrk⟩ : ∃ rk, rk = rectOk c.f1 := ⟨_, rfl⟩
 have hstep : mayStep (n, ids) c = if (nd = false ∨ rk = false ∨ (c.f0 = 1 ∧ c.f2 ∈ ids)) then (false, n + 1, ids) else (true, n + 1, if c.f0 = 1 then c.f2 :: ids else ids) := by
  unfold mayStep
  rw [← hnd, ← hrk]
  have : ¬ 20000 < n + 1 := by omega
  simp only [this, false_or]
 have hnode2 : nd = true → c.f0 = 1 → (Lit.int .i64 c.f2).wf = true := by
  intro h1 h2
  rw [hnd] at h1
  unfold nodeOk at h1
  rw [if_pos h2, Bool.and_eq_true, decide_eq_true_eq] at h1
  exact wf64 (by omega) (by omega)
 rw [← hnd] at HNODE
 have c0 : w.cell? ⟨bn, 0, none⟩ = some (.int .i64 (n : Int)) := by rw [blk_cell b1]; rfl
 have e0 : w.frozen? ⟨bn, 0, none⟩ = false := blk_frozen b1 0
 have cN : w2.cell? ⟨bn, 0, none⟩ = some (.int .i64 ((n : Int) + 1)) := by rw [blk_cell b1'']; rfl
 have hcb : ∀ j : Nat, w2.cell? ⟨w.heap.size, j, none⟩ = (#[Value.int .u8 c.f0, .int .i64 c.f1.f0, .int .i64 c.f1.f1, .int .i64 c.f1.f2, .int .i64 c.f1.f3, .int .i64 c.f2, .slice A c.f3.length cap] : Array Value)[j]? := fun j => by rw [blk_cell hbox2]
 have HCB := Aside0.mk hcb
 have HW : Aside0 (w2 = (w.setCell ⟨bn, 0, none⟩ (.int .i64 ((n : Int) + 1))).alloc (.cells #[.int .u8 c.f0, .int .i64 c.f1.f0, .int .i64 c.f1.f1, .int .i64 c.f1.f2, .int .i64 c.f1.f3, .int .i64 c.f2, .slice A c.f3.length cap] 27)) := ⟨by rw [hw2, hw1]⟩
 have d0 := hcb 0
 have d1 := hcb 1
 have d2 := hcb 2
 have d3 := hcb 3
 have d4 := hcb 4
 have d5 := hcb 5
 have d6 := hcb 6
 simp at d0 d1 d2 d3 d4 d5 d6
 rw [HW.out] at HNODE
 rw [HW.out] at cN d0 d1 d2 d3 d4 d5 d6
 have HN := Aside0.mk HNODE
 have hgt : decide ((n : Int) + 1 > 20000) = false := decide_eq_false (by omega)
 have hgt2 : decide (20000 < (n : Int) + 1) = false := decide_eq_false (by omega)
 have HM := Aside0.mk hm02
 have HQ := Aside0.mk (And.intro q2 (And.intro q3 (And.intro q4 (And.intro q5 q6))))
 have HS := Aside0.mk hS2
 have HB1 := Aside0.mk b1''
 have HB2 := Aside0.mk b2''
 have HSZ := Aside0.mk hs2
 have HST := Aside0.mk hstep
 have HWF := Aside0.mk hnode2
 have HRK := Aside0.mk hrk
 clear hrk
 have hfin : ∀ w4, Below w2.heap.size w2 w4 → MayInv B N bn bm mb w4 (n + 1, ids) (u + 1) ∧ Mid B N w w4 := fun w4 hb =>
  ⟨⟨⟨by show n + 1 ≤ u + 1; omega, q2, q3, q4, q5, q6⟩, (hb.block bn (blk_lt b1'')).trans b1'', (hb.block bm (blk_lt b2'')).trans b2'', (hS2.below hb).mono (by omega)⟩, hm02.below hb⟩
 have HFIN := Aside0.mk hfin
 clear hfin hnode2 hstep hs2 b1'' b2'' hS2 q2 q3 q4 q5 q6 hm02 hcb HNODE hoth hbox2 b1 b2 b1' b2' hS hS1 hb12 hm01 hs1 hw1 hw2 hnd
 have hnW : (n : Int) + 1 ≤ 10000 := by omega
 cases hndc : nd with
 | false =>
  subst hndc
  go_enter Tryz.func97, Tryz.ntmps97
  go_wp2_with fail
  refine HN.out.mono ?_
  rintro e w3 ⟨rfl, hb3⟩
  rw [← HW.out] at hb3
  have HB3 := Aside0.mk hb3
  clear hb3 HN
  go_wp2
  go_ret
  have e := HST.out
  rw [if_pos (by simp)] at e
  rw [e]
  exact ⟨rfl, (HFIN.out _ HB3.out).1, (HFIN.out _ HB3.out).2⟩
 | true =>
  subst hndc
  go_enter Tryz.func97, Tryz.ntmps97
  go_wp2_with fail
  refine HN.out.mono ?_
  rintro e w3 ⟨rfl, hb3⟩
  rw [← HW.out] at hb3
  have HB3 := Aside0.mk hb3
  have hcb3 : ∀ j : Nat, ∀ v, w2.cell? ⟨w.heap.size, j, none⟩ = some v → w3.cell? ⟨w.heap.size, j, none⟩ = some v := fun j v h => pw_cell_below hb3 h
  rw [← HW.out] at d0 d1 d2 d3 d4 d5 d6
  have g0 := hcb3 0 _ d0
  have g1 := hcb3 1 _ d1
  have g2 := hcb3 2 _ d2
  have g3 := hcb3 3 _ d3
  have g4 := hcb3 4 _ d4
  have g5 := hcb3 5 _ d5
  have HRM := Aside0.mk (rmay_calls w3.heap.size c.f1 (w3.alloc (.cells #[.int .i64 c.f1.f0, .int .i64 c.f1.f1, .int .i64 c.f1.f2, .int .i64 c.f1.f3] 24)) (by simp) (by simp) (by simp) (by simp))
  rw [show rectOk c.f1 = rk from HRK.out.symm] at HRM
  have HD0 := Aside0.mk d0
  have HD5 := Aside0.mk d5
  clear HN d0 d1 d2 d3 d4 d5 d6 g0 g5 hcb3 hb3
  go_wp2_with fail
  refine HRM.out.mono ?_
  rintro e w4 ⟨rfl, hb4⟩
  have hb24 : Below w2.heap.size w2 w4 := (below_alloc HB3.out _).trans (hb4.mono (by have := HB3.out.size; simp; omega))
  have e0 := pw_cell_below hb24 HD0.out
  have e5 := pw_cell_below hb24 HD5.out
  have em : w4.cell? ⟨bm, 0, none⟩ = some (.map (some mb)) := by rw [blk_cell ((hb24.block bm (blk_lt HB2.out)).trans HB2.out)]; rfl
  have HB4 := Aside0.mk hb24
  have HS4 := Aside0.mk (HS.out.below hb24)
  clear hb24 hb4 HRM g1 g2 g3 g4
  cases hrkc : rk with
  | false =>
   subst hrkc
   go_wp2
   go_ret
   have e := HST.out
   rw [if_pos (by simp)] at e
   rw [e]
   exact ⟨rfl, (HFIN.out _ HB4.out).1, (HFIN.out _ HB4.out).2⟩
  | true =>
   subst hrkc
   by_cases hk : c.f0 = 1
   ·have hwf := HWF.out trivial hk
    have hlook := HS4.out.look c.f2 hwf
    have HWFF := Aside0.mk hwf
    rw [hk] at e0
    have HK := Aside0.mk hk
    by_cases hin : c.f2 ∈ ids
    ·rw [decide_eq_true hin] at hlook
     have HIN := Aside0.mk hin
     clear hwf hin hk
     go_wp2
     go_ret
     have e := HST.out
     rw [if_pos (by simp [HK.out, HIN.out])] at e
     rw [e]
     exact ⟨rfl, (HFIN.out _ HB4.out).1, (HFIN.out _ HB4.out).2⟩
    ·rw [decide_eq_false hin] at hlook
     have HIN := Aside0.mk hin
     obtain ⟨w5, hput, hS5, hg5⟩ := HS4.out.put c.f2 hwf (by omega)
     have HS5 := Aside0.mk hS5
     have HG5 := Aside0.mk hg5
     clear hwf hin hk hS5 hg5
     go_wp2
     go_ret
     have e := HST.out
     rw [if_neg (by simp [HK.out, HIN.out]), if_pos HK.out] at e
     rw [e]
     have hf := HFIN.out _ HB4.out
     refine ⟨rfl, ⟨hf.1.1, ?_, ?_, HS5.out⟩, hf.2.grown HG5.out (fun k hk => by injection hk with hk; subst hk; exact HQ.out.2.1)⟩
     ·rw [HG5.out.block bn (blk_lt hf.1.2.1) (by intro h; injection h with h; exact HQ.out.2.2.2.1 h)]; exact hf.1.2.1
     ·rw [HG5.out.block bm (blk_lt hf.1.2.2.1) (by intro h; injection h with h; exact HQ.out.2.2.2.2 h)]; exact hf.1.2.2.1
   ·have hkb : (c.f0 == 1) = false := beq_eq_false_iff_ne.2 hk
    have HK := Aside0.mk hk
    clear hk
    go_wp2
    go_ret
    have e := HST.out
    rw [if_neg (by simp [HK.out]), if_neg HK.out] at e
    rw [e]
    exact ⟨rfl, (HFIN.out _ HB4.out).1, (HFIN.out _ HB4.out).2⟩


theorem enters97 : ∀ args w, (callFunc 97 args).run Tryz.prog w = .ok (.enter 97 args) w := enters_of Tryz.func97 (by kernel_rfl) rfl
theorem enters73 : ∀ args w, (callFunc 73 args).run Tryz.prog w = .ok (.enter 73 args) w := enters_of Tryz.func73 (by kernel_rfl) rfl

set_option maxHeartbeats 2000000 in
/-- cell.may: the tree lies below B, and has not too many cells. -/
theorem may_calls (B : Nat) (c : SC) (w : World) (A : Option Addr) (cap : Nat) (hB : B ≤ w.heap.size) (hl : (cells c).length ≤ 10000) (hcap : c.f3.length ≤ cap) (hT : Tr B w A c.f3.length c.f3) :
  Calls Tryz.prog 74 #[.agg #[.int .u8 c.f0, .int .i64 c.f1.f0, .int .i64 c.f1.f1, .int .i64 c.f1.f2, .int .i64 c.f1.f3, .int .i64 c.f2, .slice A c.f3.length cap]] w fun e w' => e = .returned (.bool (mayB c)) ∧ Below w.heap.size w w' := by
 obtain ⟨wa, hwa⟩ : ∃ wa, wa = w.alloc (.cells #[.int .u8 c.f0, .int .i64 c.f1.f0, .int .i64 c.f1.f1, .int .i64 c.f1.f2, .int .i64 c.f1.f3, .int .i64 c.f2, .slice A c.f3.length cap] 27) := ⟨_, rfl⟩
 obtain ⟨wb, hwb⟩ : ∃ wb, wb = wa.alloc (.map #[] 0) := ⟨_, rfl⟩
 obtain ⟨wc, hwc⟩ : ∃ wc, wc = wb.alloc (.cells #[.map (some (w.heap.size + 1))] 163) := ⟨_, rfl⟩
 obtain ⟨wd, hwd⟩ : ∃ wd, wd = wc.alloc (.cells #[.int .i64 0] 3) := ⟨_, rfl⟩
 have sa : wa.heap.size = w.heap.size + 1 := by rw [hwa]; simp
 have sb : wb.heap.size = w.heap.size + 2 := by rw [hwb]; simp [sa]
 have sc : wc.heap.size = w.heap.size + 3 := by rw [hwc]; simp [sb]
 have sd : wd.heap.size = w.heap.size + 4 := by rw [hwd]; simp [sc]
 have hbd : Below w.heap.size w wd := by rw [hwd, hwc, hwb, hwa]; exact below_alloc (below_alloc (below_alloc (below_alloc (Below.refl _ _) _) _) _) _
 have hbc : Below wc.heap.size wc wd := by rw [hwd]; exact below_alloc (Below.refl _ _) _
 have hbb : Below wb.heap.size wb wd := by rw [hwd, hwc]; exact below_alloc (below_alloc (Below.refl _ _) _) _
 have hset : SetAt wd (w.heap.size + 1) 0 [] := by
  have h := SetAt.made wa 0
  rw [← hwb, sa] at h
  exact h.below hbb
 have hmap : wd.heap[w.heap.size + 2]? = some (.cells #[.map (some (w.heap.size + 1))] 163 (0, 0)) := by
  have h := heap_alloc_new wb (.cells #[.map (some (w.heap.size + 1))] 163)
  rw [← hwc, sb] at h
  exact (hbc.block _ (by omega)).trans h
 have hnum : wd.heap[w.heap.size + 3]? = some (.cells #[.int .i64 ((0 : Nat) : Int)] 3 (0, 0)) := by
  have h := heap_alloc_new wc (.cells #[.int .i64 0] 3)
  rw [← hwd, sc] at h
  exact h
 have hinv : MayInv w.heap.size (w.heap.size + 4) (w.heap.size + 3) (w.heap.size + 2) (w.heap.size + 1) wd (0, []) 0 :=
  ⟨⟨Nat.le_refl _, by omega, by omega, by omega, by omega, by omega⟩, hnum, hmap, hset⟩
 have hTd : Tr w.heap.size wd A c.f3.length c.f3 := (hT.mono hB).below hbd
 have hpred : PredF w.heap.size (w.heap.size + 4) 10000 97 #[.pointer (some ⟨w.heap.size + 3, 0, none⟩), .pointer (some ⟨w.heap.size + 2, 0, none⟩)] (MayInv w.heap.size (w.heap.size + 4) (w.heap.size + 3) (w.heap.size + 2) (w.heap.size + 1)) (fun _ => 1) mayStep (cells c) :=
  fun x hx W st u A' cap' h1 h2 h3 h4 h5 => may1_calls _ _ _ _ _ x W st u A' cap' h1 h2 h3 h5.max
 have HC := all_calls w.heap.size (w.heap.size + 4) 10000 97 #[.pointer (some ⟨w.heap.size + 3, 0, none⟩), .pointer (some ⟨w.heap.size + 2, 0, none⟩)] enters97 _ (MayInv.stable _ _ _ _ _) mayStep (by omega) c hpred wd (0, []) 0 A cap hinv (by omega) (by omega) hcap hTd
 have HD := Aside0.mk hwd
 rw [hwc, hwb, hwa] at HD
 rw [HD.out] at HC
 have HCC := Aside0.mk HC
 have HB := Aside0.mk hbd
 have HS := Aside0.mk sd
 have hmm := @run_makeMap Tryz.prog
 unfold mayB
 generalize visitL mayStep (0, []) (cells c) = r at *
 clear hT hl hB HC hpred hTd hinv hnum hmap hset hbb hbc hbd sd sc sb sa hwd hwc hwb hwa
 go_enter Tryz.func74, Tryz.ntmps74
 go_wp2_with fail
 refine HCC.out.mono ?_
 rintro e w1 ⟨rfl, _, hm⟩
 rw [← HD.out] at hm
 have HM := Aside0.mk (HB.out.trans (hm.toB (by rw [HS.out]; omega)))
 clear hm
 go_wp2
 go_ret
 exact ⟨rfl, HM.out⟩

theorem cmay1_calls (B : Nat) (c : SC) (w : World) (A : Option Addr) (cap : Nat) (hB : B ≤ w.heap.size) (hl : (cells c).length ≤ 10000) (hcap : c.f3.length ≤ cap) (hT : Tr B w A c.f3.length c.f3) :
  Calls Tryz.prog 73 #[.agg #[.int .u8 c.f0, .int .i64 c.f1.f0, .int .i64 c.f1.f1, .int .i64 c.f1.f2, .int .i64 c.f1.f3, .int .i64 c.f2, .slice A c.f3.length cap]] w fun e w' => e = .returned (.bool (!mayB c)) ∧ Below w.heap.size w w' := by
 have hb : Below w.heap.size w (w.alloc (.cells #[.int .u8 c.f0, .int .i64 c.f1.f0, .int .i64 c.f1.f1, .int .i64 c.f1.f2, .int .i64 c.f1.f3, .int .i64 c.f2, .slice A c.f3.length cap] 27)) := below_alloc (Below.refl _ _) _
 have HC := Aside0.mk (may_calls B c _ A cap (by have := hb.size; omega) hl hcap (boxTr hT (.cells #[.int .u8 c.f0, .int .i64 c.f1.f0, .int .i64 c.f1.f1, .int .i64 c.f1.f2, .int .i64 c.f1.f3, .int .i64 c.f2, .slice A c.f3.length cap] 27) hB))
 have HB := Aside0.mk hb
 generalize mayB c = b at *
 clear hb hT hl hB
 go_enter Tryz.func73, Tryz.ntmps73
 go_wp2_with fail
 refine HC.out.mono ?_
 rintro e w1 ⟨rfl, hb⟩
 have HB1 := Aside0.mk (HB.out.trans (hb.mono HB.out.size))
 clear hb
 go_wp2
 go_ret
 exact ⟨rfl, HB1.out⟩

/-- No state at all. -/
def NoInv (_ : World) (_ : Unit) (_ : Nat) : Prop := True
theorem NoInv.stable : Stable NoInv := ⟨fun _ _ _ _ _ _ => trivial, fun _ _ _ _ _ _ => trivial⟩
theorem wts_zero (l : List SC) : wts (fun _ => 0) l = 0 := by
 induction l with
 | nil => rfl
 | cons x l ih => unfold wts at *; rw [List.map_cons, List.sum_cons, ih]
theorem not_any_not (p : SC → Bool) (l : List SC) : (!l.any (fun x => !p x)) = l.all p := by
 induction l with
 | nil => rfl
 | cons x l ih => simp only [List.any_cons, List.all_cons, Bool.not_or, Bool.not_not, ih]
theorem anyL_unit (p : SC → Bool) (l : List SC) : (anyL (fun (_ : Unit) x => (p x, ())) () l).1 = l.any p := by
 induction l with
 | nil => rfl
 | cons x l ih =>
  simp only [anyL, List.any_cons]
  cases h : p x <;> simp [ih]

/-- cell.May of several trees. -/
theorem cmay_calls (B : Nat) (l : List SC) (w : World) (A : Option Addr) (n cap : Nat) (hB : B ≤ w.heap.size) (hl : ∀ c ∈ l, (cells c).length ≤ 10000) (hT : Tr B w A n l) :
  Calls Tryz.prog 49 #[.slice A n cap] w fun e w' => e = .returned (.bool (l.all mayB)) ∧ Below w.heap.size w w' := by
 have hpred : PredF w.heap.size w.heap.size 0 73 #[] NoInv (fun _ => 0) (fun (_ : Unit) x => (!mayB x, ())) l := fun x hx W st u A' cap' _ _ h3 h4 h5 => by
  refine (cmay1_calls w.heap.size x W A' cap' h3 (hl x hx) h4 h5).mono ?_
  rintro e w' ⟨h1, h2⟩
  exact ⟨h1, trivial, Mid.ofBelow h2⟩
 have HC := none_calls w.heap.size w.heap.size 0 73 #[] enters73 NoInv NoInv.stable (fun _ => 0) (fun (_ : Unit) x => (!mayB x, ())) A n cap l w () 0 (Nat.le_refl _) (Nat.le_refl _) hpred (hT.mono hB) trivial (by rw [wts_zero]; exact Nat.le_refl _)
 rw [anyL_unit (fun x => !mayB x)] at HC
 have e : (!l.any (fun x => !mayB x)) = l.all mayB := not_any_not _ _
 rw [e] at HC
 have HCC := Aside0.mk HC
 generalize l.all mayB = b at *
 clear hpred hT hl hB HC
 go_enter Tryz.func49, Tryz.ntmps49
 go_wp2_with fail
 refine HCC.out.mono ?_
 rintro e w1 ⟨rfl, _, hm⟩
 have HM := Aside0.mk (hm.toB (Nat.le_refl _))
 clear hm
 go_wp2
 go_ret
 exact ⟨rfl, HM.out⟩
end Go.Proofs.YtkobpbbegalfpaaGreatDoor
