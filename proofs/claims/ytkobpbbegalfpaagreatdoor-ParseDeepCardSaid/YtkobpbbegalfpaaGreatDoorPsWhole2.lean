/-
  Joined texts: PsCatch, PsWhole, PsWhole2.
-/
import Derived.Test.YtkobpbbegalfpaaGreatDoorPsAll
import Derived.Defers
import Derived.Recover
/-
 The deferred closure of the reader's whole: an error on its way out is handed back; a return goes on.
-/
namespace Go.Proofs.YtkobpbbegalfpaaGreatDoor
open Go.RowKit Go.Proofs.YtkobpbbegalfpaaGreatDoorW.PrintWords Go.Proofs.YtkobpbbegalfpaaGreatDoorW.PrintLast Go.Proofs.YtkobpbbegalfpaaGreatDoorW.PrintMore Go.Proofs.YtkobpbbegalfpaaGreatDoor.PParseBodies
set_option linter.unusedVariables false
set_option linter.unusedSimpArgs false
set_option maxRecDepth 100000

theorem catch_idle (p q : Addr) (w : World) :
  CallsD Tryz.prog 46 #[.pointer (some p), .pointer (some q)] .returning w fun e u' w' => e = .returned (.tuple #[]) ∧ u' = .returning ∧ w' = w := by
 refine callsD_of_wpS Tryz.func46 rfl fun c₀ cs hu => ?_
 apply wpS_seq
 apply wpS_region
 simp [wpOpsS, go_sem, recoverD, hu, Tryz.ntmps46, Exit.thenS]
 refine wpS_of_wp ?_
 go_wp2
 cases c₀
 simp_all [bodyPostS, results, Tryz.results46]
def layB : ByteArray := ⟨#[108, 97, 121, 111, 117, 116]⟩
abbrev CaughtW (w3 : World) (cb eb g' : Nat) : World := (((((((w3.setCell ⟨cb, 0, none⟩ (.int .u8 0)).setCell ⟨cb, 1, none⟩ (.int .i64 0)).setCell ⟨cb, 2, none⟩ (.int .i64 0)).setCell ⟨cb, 3, none⟩ (.int .i64 0)).setCell ⟨cb, 4, none⟩ (.int .i64 0)).setCell ⟨cb, 5, none⟩ (.int .i64 0)).setCell ⟨cb, 6, none⟩ (.slice none 0 0)).setCell ⟨eb, 0, none⟩ (.iface 78 (.pointer (some ⟨g', 0, none⟩)))
set_option maxHeartbeats 4000000 in
theorem catch_panicking (cb eb g : Nat) (w : World) (cs0 : Array Value) (e0 : Value) (hcs : cs0.size = 7) (hc : w.heap[cb]? = some (.cells cs0 27 (0, 0))) (he : w.heap[eb]? = some (.cells #[e0] 29 (0, 0))) (hne : ¬ cb = eb) :
  CallsD Tryz.prog 46 #[.pointer (some ⟨cb, 0, none⟩), .pointer (some ⟨eb, 0, none⟩)] (.panicking [{ v := .iface 86 (.agg #[.iface 82 (.pointer (some ⟨g, 0, none⟩))]), recovered := false }]) w fun e u' w' =>
   e = .returned (.tuple #[]) ∧ u' = .panicking [{ v := .iface 86 (.agg #[.iface 82 (.pointer (some ⟨g, 0, none⟩))]), recovered := true }] ∧
    ∃ w3 g', Below w.heap.size w w3 ∧ Inside w3 w.heap.size g' (.iface 82 (.pointer (some ⟨g, 0, none⟩))) [layB] ∧ w' = CaughtW w3 cb eb g' := by
 obtain ⟨W1, hW1⟩ : ∃ W1, W1 = w.alloc (.cells #[.iface 82 (.pointer (some ⟨g, 0, none⟩))] 86) := ⟨_, rfl⟩
 obtain ⟨W2, hW2⟩ : ∃ W2, W2 = W1.alloc (.cells #[.string layB] 9) := ⟨_, rfl⟩
 have hC : Kd.string.C W2 (some ⟨W1.heap.size, 0, none⟩) 1 [layB] := by rw [hW2]; exact litC W1 9 [layB] (by decide)
 have e1 : W1.heap.size = w.heap.size + 1 := by rw [hW1]; simp
 rw [e1] at hC
 have HI := Aside0.mk (in_calls 82 (.pointer (some ⟨g, 0, none⟩)) ⟨w.heap.size + 1, 0, none⟩ 1 1 [layB] W2 rfl (by decide) (Nat.le_refl _) (by decide) hC)
 have HB2 : Aside0 (Below w.heap.size w W2) := ⟨by rw [hW2, hW1]; exact below_alloc (below_alloc (Below.refl _ _) _) _⟩
 have hE : ((w.alloc (.cells #[.iface 82 (.pointer (some ⟨g, 0, none⟩))] 86)).alloc (.cells #[.string (⟨#[108, 97, 121, 111, 117, 116]⟩ : ByteArray)] 9)) = W2 := by rw [hW2, hW1]; rfl
 have HE := Aside0.mk hE
 have HC := Aside0.mk hc
 have HH := Aside0.mk he
 clear hW1 hW2 hC e1 hE hc he
 have hta : ∀ w : World, (Instr.typeAssert (.iface 86 (.agg #[.iface 82 (.pointer (some ⟨g, 0, none⟩))])) 20 86 true).run Tryz.prog w = .ok (.tuple #[.agg #[.iface 82 (.pointer (some ⟨g, 0, none⟩))], .bool true]) w := fun _ => by first | rfl | kernel_rfl
 refine callsD_of_wpS Tryz.func46 rfl fun c₀ cs hu => ?_
 simp only [Tryz.ntmps46, List.size_toArray, List.length_cons, List.length_nil, Nat.reduceAdd, Nat.reduceSub, Array.replicate_succ, Array.replicate_zero, List.push_toArray, List.append_toArray, List.nil_append, List.cons_append]
 apply wpS_seq
 apply wpS_region
 simp [wpOpsS, go_sem, recoverD, hu, Exit.thenS]
 refine wpS_of_wp ?_
 go_wp2_with fail
 rw [HE.out]
 with_reducible refine HI.out.mono ?_
 rintro e w3 ⟨g', rfl, hin, hb3⟩
 have HB3 := Aside0.mk (HB2.out.trans (hb3.mono HB2.out.size))
 have HIN : Aside0 (Inside w3 w.heap.size g' (.iface 82 (.pointer (some ⟨g, 0, none⟩))) [layB]) := ⟨Nat.le_trans HB2.out.size hin.1, by obtain ⟨_, v, q1, q2⟩ := hin; exact ⟨v, q1, Kd.R_lower q2 HB2.out.size⟩⟩
 have hcb := (HB3.out.block cb (blk_lt HC.out)).trans HC.out
 have heb := (HB3.out.block eb (blk_lt HH.out)).trans HH.out
 have c0 : w3.cell? ⟨cb, 0, none⟩ = some (cs0[0]'(by omega)) := by simp [World.cell?, hcb, hcs]
 have f0 := blk_frozen hcb 0
 have c1 : w3.cell? ⟨cb, 1, none⟩ = some (cs0[1]'(by omega)) := by simp [World.cell?, hcb, hcs]
 have f1 := blk_frozen hcb 1
 have c2 : w3.cell? ⟨cb, 2, none⟩ = some (cs0[2]'(by omega)) := by simp [World.cell?, hcb, hcs]
 have f2 := blk_frozen hcb 2
 have c3 : w3.cell? ⟨cb, 3, none⟩ = some (cs0[3]'(by omega)) := by simp [World.cell?, hcb, hcs]
 have f3 := blk_frozen hcb 3
 have c4 : w3.cell? ⟨cb, 4, none⟩ = some (cs0[4]'(by omega)) := by simp [World.cell?, hcb, hcs]
 have f4 := blk_frozen hcb 4
 have c5 : w3.cell? ⟨cb, 5, none⟩ = some (cs0[5]'(by omega)) := by simp [World.cell?, hcb, hcs]
 have f5 := blk_frozen hcb 5
 have c6 : w3.cell? ⟨cb, 6, none⟩ = some (cs0[6]'(by omega)) := by simp [World.cell?, hcb, hcs]
 have f6 := blk_frozen hcb 6
 have x0 : w3.cell? ⟨eb, 0, none⟩ = some e0 := by simp [World.cell?, heb]
 have y0 := blk_frozen heb 0
 have hne2 : ¬ eb = cb := fun h => hne h.symm
 clear hin hb3 hcb heb HI HE hta
 go_wp2
 exact ⟨rfl, _, rfl, .tuple #[], by simp [results, Tryz.results46], rfl, rfl, w3, HB3.out, g', HIN.out, rfl⟩
end Go.Proofs.YtkobpbbegalfpaaGreatDoor

/-
 The reader reads a whole body.
-/
namespace Go.Proofs.YtkobpbbegalfpaaGreatDoor
open Go.RowKit Go.Proofs.YtkobpbbegalfpaaGreatDoorW.PrintWords Go.Proofs.YtkobpbbegalfpaaGreatDoorW.PrintLast Go.Proofs.YtkobpbbegalfpaaGreatDoorW.PrintMore Go.Proofs.YtkobpbbegalfpaaGreatDoor.PParseBodies
set_option linter.unusedVariables false
set_option linter.unusedSimpArgs false
set_option maxRecDepth 100000

/-- The world while a body is read: the reader's place, the two results' variables. -/
structure WSt (w W : World) (b : Nat) (s : ByteArray) (off : Int) (j : Nat) (cs : Array Value) : Prop where
 st : Step w b (j : Int) W
 rd : RdA W b s j off
 res : W.heap[w.heap.size]? = some (.cells cs 27 (0, 0))
 err : W.heap[w.heap.size + 1]? = some (.cells #[.nilIface] 29 (0, 0))
theorem WSt.new {w : World} {b : Nat} {s : ByteArray} {off : Int} {i : Nat} (k : RdA w b s i off) : WSt w ((w.alloc (.cells zeroA 27)).alloc (.cells #[.nilIface] 29)) b s off i zeroA := by
 have e : (w.alloc (.cells zeroA 27)).heap.size = w.heap.size + 1 := by simp
 refine ⟨Step.of_below k (below_alloc (below_alloc (Below.refl _ _) _) _), k.below (below_alloc (below_alloc (Below.refl _ _) _) _), blk_alloc (heap_alloc_new w _) _, ?_⟩
 have := heap_alloc_new (w.alloc (.cells zeroA 27)) (.cells #[.nilIface] 29)
 rw [e] at this
 exact this
theorem WSt.step {w W W' : World} {b : Nat} {s : ByteArray} {off i0 : Int} {i : Nat} {j : Int} {cs : Array Value} (p : WSt w W b s off i cs) (k : RdA w b s i0 off) (h : Step W b j W') :
  Step w b j W' ∧ W'.heap[w.heap.size]? = some (.cells cs 27 (0, 0)) ∧ W'.heap[w.heap.size + 1]? = some (.cells #[.nilIface] 29 (0, 0)) :=
 ⟨Step.trans k p.st h,
  (h.block _ (blk_lt p.res)).trans ((Below.heap_setCell W ⟨b, 1, none⟩ _ _ (Nat.ne_of_gt k.lt)).trans p.res),
  (h.block _ (blk_lt p.err)).trans ((Below.heap_setCell W ⟨b, 1, none⟩ _ _ (Nat.ne_of_gt (Nat.lt_succ_of_lt k.lt))).trans p.err)⟩
theorem caught_c {w3 : World} {cb eb g' : Nat} {cs0 : Array Value} (h : w3.heap[cb]? = some (.cells cs0 27 (0, 0))) (hne : ¬ cb = eb) (hz : (((((((cs0.setIfInBounds 0 (.int .u8 0)).setIfInBounds 1 (.int .i64 0)).setIfInBounds 2 (.int .i64 0)).setIfInBounds 3 (.int .i64 0)).setIfInBounds 4 (.int .i64 0)).setIfInBounds 5 (.int .i64 0)).setIfInBounds 6 (.slice none 0 0)) = zeroA) : (CaughtW w3 cb eb g').heap[cb]? = some (.cells zeroA 27 (0, 0)) := by
 have h7 := (blk_set (blk_set (blk_set (blk_set (blk_set (blk_set (blk_set h 0 (.int .u8 0)) 1 (.int .i64 0)) 2 (.int .i64 0)) 3 (.int .i64 0)) 4 (.int .i64 0)) 5 (.int .i64 0)) 6 (.slice none 0 0))
 rw [hz] at h7
 exact blk_far h7 (p := ⟨eb, 0, none⟩) hne _
theorem caught_e {w3 : World} {cb eb g' : Nat} {e0 : Value} (he : w3.heap[eb]? = some (.cells #[e0] 29 (0, 0))) (hne : ¬ cb = eb) : (CaughtW w3 cb eb g').heap[eb]? = some (.cells #[.iface 78 (.pointer (some ⟨g', 0, none⟩))] 29 (0, 0)) :=
 blk_set (blk_far (blk_far (blk_far (blk_far (blk_far (blk_far (blk_far he (p := ⟨cb, 0, none⟩) (fun e => hne e.symm) (.int .u8 0)) (p := ⟨cb, 1, none⟩) (fun e => hne e.symm) (.int .i64 0)) (p := ⟨cb, 2, none⟩) (fun e => hne e.symm) (.int .i64 0)) (p := ⟨cb, 3, none⟩) (fun e => hne e.symm) (.int .i64 0)) (p := ⟨cb, 4, none⟩) (fun e => hne e.symm) (.int .i64 0)) (p := ⟨cb, 5, none⟩) (fun e => hne e.symm) (.int .i64 0)) (p := ⟨cb, 6, none⟩) (fun e => hne e.symm) (.slice none 0 0)) 0 _
theorem caught_far {w3 : World} {cb eb g' g : Nat} {t : TypeId} {cs : Array Value} (h : w3.heap[g]? = some (.cells cs t (0, 0))) (h1 : g ≠ cb) (h2 : g ≠ eb) : (CaughtW w3 cb eb g').heap[g]? = some (.cells cs t (0, 0)) :=
 blk_far (blk_far (blk_far (blk_far (blk_far (blk_far (blk_far (blk_far h (p := ⟨cb, 0, none⟩) h1 (.int .u8 0)) (p := ⟨cb, 1, none⟩) h1 (.int .i64 0)) (p := ⟨cb, 2, none⟩) h1 (.int .i64 0)) (p := ⟨cb, 3, none⟩) h1 (.int .i64 0)) (p := ⟨cb, 4, none⟩) h1 (.int .i64 0)) (p := ⟨cb, 5, none⟩) h1 (.int .i64 0)) (p := ⟨cb, 6, none⟩) h1 (.slice none 0 0)) (p := ⟨eb, 0, none⟩) h2 _
theorem ins_set {w : World} {base g : Nat} {err : Value} {xs : List ByteArray} (h : Inside w base g err xs) {p : Addr} (hp : p.block < base) (u : Value) : Inside (w.setCell p u) base g err xs := by
 obtain ⟨h1, v, h2, h3⟩ := h
 exact ⟨h1, v, blk_far h2 (by omega) u, Kd.R_mono (Kd.R_step (Kd.R_bound h3) (fun k hk _ => Below.heap_setCell w p u k (by have := hk.2.1; omega))) (fun _ _ => trivial)⟩
theorem caught_in {w3 : World} {cb eb g' g base : Nat} {err : Value} {xs : List ByteArray} (h : Inside w3 base g err xs) (h1 : cb < base) (h2 : eb < base) : Inside (CaughtW w3 cb eb g') base g err xs :=
 ins_set (ins_set (ins_set (ins_set (ins_set (ins_set (ins_set (ins_set h (p := ⟨cb, 0, none⟩) h1 (.int .u8 0)) (p := ⟨cb, 1, none⟩) h1 (.int .i64 0)) (p := ⟨cb, 2, none⟩) h1 (.int .i64 0)) (p := ⟨cb, 3, none⟩) h1 (.int .i64 0)) (p := ⟨cb, 4, none⟩) h1 (.int .i64 0)) (p := ⟨cb, 5, none⟩) h1 (.int .i64 0)) (p := ⟨cb, 6, none⟩) h1 (.slice none 0 0)) (p := ⟨eb, 0, none⟩) h2 _
theorem caught_st {B w3 : World} {cb eb g' n : Nat} (h : Below n B w3) (h1 : n ≤ cb) (h2 : n ≤ eb) : Below n B (CaughtW w3 cb eb g') :=
 Below.setCell (((((((h.setCell (p := ⟨cb, 0, none⟩) h1 (.int .u8 0)).setCell (p := ⟨cb, 1, none⟩) h1 (.int .i64 0)).setCell (p := ⟨cb, 2, none⟩) h1 (.int .i64 0)).setCell (p := ⟨cb, 3, none⟩) h1 (.int .i64 0)).setCell (p := ⟨cb, 4, none⟩) h1 (.int .i64 0)).setCell (p := ⟨cb, 5, none⟩) h1 (.int .i64 0)).setCell (p := ⟨cb, 6, none⟩) h1 (.slice none 0 0)) (p := ⟨eb, 0, none⟩) h2 _
/-- What a body that cannot be read comes to. -/
def BadPost (w : World) (b : Nat) (no pl : Int) (e : Ending) (w' : World) : Prop :=
 ∃ g' g, e = .returned (.tuple #[.agg zeroA, .iface 78 (.pointer (some ⟨g', 0, none⟩))]) ∧ Inside w' w.heap.size g' (.iface 82 (.pointer (some ⟨g, 0, none⟩))) [layB] ∧
  w'.heap[g]? = some (.cells #[.int .i64 no, .int .i64 pl] 84 (0, 0)) ∧ ∃ j, Step w b j w'
set_option maxHeartbeats 8000000 in
theorem whole_bad (hd : ByteArray → Int × Int × Int) (I : World → Prop) (w : World) (b : Nat) (s : ByteArray) (m : Nat) (off : Int) (hs : s.size ≤ 100000) (ho : 0 ≤ off ∧ off ≤ 1000) (hb : HeadB hd) (hc : HeadC hd b I) (hI : I w) (k : RdA w b s ((0 : Nat) : Int) off)
  (q : Int × Nat) (hr : cellP hd s m 0 1 = some (.error q)) :
  Calls Tryz.prog 27 #[.pointer (some ⟨b, 0, none⟩)] w (BadPost w b q.1 (off + q.2)) := by
 have hmf : ∀ (fn : Fn) (first cap : Array Value) (w : World), (Instr.makeFunc fn first cap).run Tryz.prog w = .ok (.func fn first cap) w := fun _ _ _ _ => rfl
 obtain ⟨W0, hW0⟩ : ∃ W0, W0 = (w.alloc (.cells zeroA 27)).alloc (.cells #[.nilIface] 29) := ⟨_, rfl⟩
 have HP0 : Aside0 (WSt w W0 b s off 0 zeroA) := ⟨by rw [hW0]; exact WSt.new k⟩
 have HK := Aside0.mk k
 have HI0 : Aside0 (I W0) := ⟨hc.step hI HP0.out.st⟩
 have HW := Aside0.mk hW0
 have HN : Aside0 (Calls Tryz.prog 47 #[.pointer (some ⟨b, 0, none⟩), .int .i64 1] W0 (CellPost W0 b off (.error q))) := ⟨cell_calls hd I W0 b s 0 1 m off hs ho (Nat.zero_le _) (by decide) hb hc HI0.out HP0.out.rd _ hr⟩
 clear hW0 k hI hr
 go_enter_defers Tryz.func27, Tryz.ntmps27
 go_wp2_with fail
 rw [← HW.out]
 with_reducible refine HN.out.mono ?_
 rintro e w1 ⟨⟨g, rfl, hg, hg2⟩, jj, hst⟩
 obtain ⟨h1, h2, h3⟩ := HP0.out.step HK.out hst
 have HS := Aside0.mk h1
 have H2 := Aside0.mk h2
 have H3 := Aside0.mk h3
 have HG := Aside0.mk hg2
 clear hst h1 h2 h3 hg2
 refine leaves_cons (f := 46) (args := #[.pointer (some ⟨w.heap.size, 0, none⟩), .pointer (some ⟨w.heap.size + 1, 0, none⟩)]) (by simp) (by simp [go_sem]) ?_
 refine (catch_panicking w.heap.size (w.heap.size + 1) g w1 _ _ (by decide) H2.out H3.out (by omega)).mono ?_
 rintro e u' w'' ⟨rfl, rfl, w3, g', hb3, hin, rfl⟩
 have HC := Aside0.mk (caught_c (g' := g') (eb := w.heap.size + 1) ((hb3.block _ (blk_lt H2.out)).trans H2.out) (by omega) rfl)
 have HE := Aside0.mk (caught_e (g' := g') (cb := w.heap.size) ((hb3.block _ (blk_lt H3.out)).trans H3.out) (by omega))
 have HSZ := HS.out.size
 have hlt : w.heap.size + 1 < w1.heap.size := blk_lt H3.out
 have hlt0 : w.heap.size + 1 < W0.heap.size := blk_lt HP0.out.err
 have HI := Aside0.mk (caught_in (g' := g') (cb := w.heap.size) (eb := w.heap.size + 1) hin (by omega) hlt)
 have HF := Aside0.mk (caught_far (g' := g') (cb := w.heap.size) (eb := w.heap.size + 1) ((hb3.block _ (blk_lt HG.out)).trans HG.out) (by omega) (by omega))
 have HT : Aside0 (Step w b jj (CaughtW w3 w.heap.size (w.heap.size + 1) g')) := ⟨caught_st (Below.trans HS.out (hb3.mono HS.out.size)) (Nat.le_refl _) (Nat.le_succ _)⟩
 generalize CaughtW w3 w.heap.size (w.heap.size + 1) g' = WF at *
 have hc1 := HC.out
 have he1 := HE.out
 have z0 : WF.cell? ⟨w.heap.size + 1, 0, none⟩ = some (.iface 78 (.pointer (some ⟨g', 0, none⟩))) := by simp [World.cell?, he1]
 have y0 : WF.cell? ⟨w.heap.size, 0, none⟩ = some (.int .u8 0) := by simp [World.cell?, hc1]
 have y1 : WF.cell? ⟨w.heap.size, 1, none⟩ = some (.int .i64 0) := by simp [World.cell?, hc1]
 have y2 : WF.cell? ⟨w.heap.size, 2, none⟩ = some (.int .i64 0) := by simp [World.cell?, hc1]
 have y3 : WF.cell? ⟨w.heap.size, 3, none⟩ = some (.int .i64 0) := by simp [World.cell?, hc1]
 have y4 : WF.cell? ⟨w.heap.size, 4, none⟩ = some (.int .i64 0) := by simp [World.cell?, hc1]
 have y5 : WF.cell? ⟨w.heap.size, 5, none⟩ = some (.int .i64 0) := by simp [World.cell?, hc1]
 have y6 : WF.cell? ⟨w.heap.size, 6, none⟩ = some (.slice none 0 0) := by simp [World.cell?, hc1]
 clear hc1 he1 hin hb3
 have key : BadPost w b q.1 (off + q.2) (.returned (.tuple #[.agg zeroA, .iface 78 (.pointer (some ⟨g', 0, none⟩))])) WF :=
  ⟨g', g, rfl, ⟨Nat.le_trans HSZ HI.out.1, by obtain ⟨_, v, q1, q2⟩ := HI.out; exact ⟨v, q1, Kd.R_lower q2 HSZ⟩⟩, HF.out, _, HT.out⟩
 have HKEY := Aside0.mk key
 clear key
 simp [Leaves, settle, results, Tryz.results27, go_sem, y0, y1, y2, y3, y4, y5, y6, z0]
 exact HKEY.out
end Go.Proofs.YtkobpbbegalfpaaGreatDoor

/-
 The reader reads a whole body, of which a cell is read.
-/
namespace Go.Proofs.YtkobpbbegalfpaaGreatDoor
open Go.RowKit Go.Proofs.YtkobpbbegalfpaaGreatDoorW.PrintWords Go.Proofs.YtkobpbbegalfpaaGreatDoorW.PrintLast Go.Proofs.YtkobpbbegalfpaaGreatDoorW.PrintMore Go.Proofs.YtkobpbbegalfpaaGreatDoor.PParseBodies
set_option linter.unusedVariables false
set_option linter.unusedSimpArgs false
set_option maxRecDepth 100000

abbrev cellV (x : SC) (v : Value) : Array Value := #[.int .u8 x.f0, .int .i64 x.f1.f0, .int .i64 x.f1.f1, .int .i64 x.f1.f2, .int .i64 x.f1.f3, .int .i64 x.f2, v]
abbrev PutC (W : World) (n : Nat) (x : SC) (v : Value) : World := (((((((W.setCell ⟨n, 0, none⟩ (.int .u8 x.f0)).setCell ⟨n, 1, none⟩ (.int .i64 x.f1.f0)).setCell ⟨n, 2, none⟩ (.int .i64 x.f1.f1)).setCell ⟨n, 3, none⟩ (.int .i64 x.f1.f2)).setCell ⟨n, 4, none⟩ (.int .i64 x.f1.f3)).setCell ⟨n, 5, none⟩ (.int .i64 x.f2)).setCell ⟨n, 6, none⟩ (v))
theorem put_c {W : World} {n : Nat} (x : SC) (v : Value) (h : W.heap[n]? = some (.cells zeroA 27 (0, 0))) : (PutC W n x v).heap[n]? = some (.cells (cellV x v) 27 (0, 0)) := (blk_set (blk_set (blk_set (blk_set (blk_set (blk_set (blk_set h 0 (.int .u8 x.f0)) 1 (.int .i64 x.f1.f0)) 2 (.int .i64 x.f1.f1)) 3 (.int .i64 x.f1.f2)) 4 (.int .i64 x.f1.f3)) 5 (.int .i64 x.f2)) 6 (v))
theorem put_far {W : World} {n g : Nat} {t : TypeId} {cs : Array Value} (x : SC) (v : Value) (h : W.heap[g]? = some (.cells cs t (0, 0))) (h1 : g ≠ n) : (PutC W n x v).heap[g]? = some (.cells cs t (0, 0)) := (blk_far (blk_far (blk_far (blk_far (blk_far (blk_far (blk_far h (p := ⟨n, 0, none⟩) h1 (.int .u8 x.f0)) (p := ⟨n, 1, none⟩) h1 (.int .i64 x.f1.f0)) (p := ⟨n, 2, none⟩) h1 (.int .i64 x.f1.f1)) (p := ⟨n, 3, none⟩) h1 (.int .i64 x.f1.f2)) (p := ⟨n, 4, none⟩) h1 (.int .i64 x.f1.f3)) (p := ⟨n, 5, none⟩) h1 (.int .i64 x.f2)) (p := ⟨n, 6, none⟩) h1 (v))
/-- .. what stands behind a cell that is read. -/
structure WGd (w W : World) (b : Nat) (s : ByteArray) (off : Int) (j : Nat) (x : SC) (v : Value) : Prop where
 st : Step w b (j : Int) W
 rd : RdA W b s j off
 res : W.heap[w.heap.size]? = some (.cells (cellV x v) 27 (0, 0))
 err : W.heap[w.heap.size + 1]? = some (.cells #[.nilIface] 29 (0, 0))
 kids : Kd.R k27 27 W (w.heap.size + 2) (fun _ => True) v x.f3
theorem WGd.put {w W : World} {b : Nat} {s : ByteArray} {off i0 : Int} {j : Nat} {x : SC} {v : Value} (k : RdA w b s i0 off) (h1 : Step w b (j : Int) W) (h2 : RdA W b s j off) (h3 : W.heap[w.heap.size]? = some (.cells zeroA 27 (0, 0))) (h4 : W.heap[w.heap.size + 1]? = some (.cells #[.nilIface] 29 (0, 0)))
  (h5 : Kd.R k27 27 W (w.heap.size + 2) (fun _ => True) v x.f3) : WGd w (PutC W w.heap.size x v) b s off j x v :=
 ⟨step7 h1 _ _ _ _ _ _ _, put_far x v h2 (Nat.ne_of_lt k.lt), put_c x v h3, put_far x v h4 (by omega), R_set7 h5 (by omega) _ _ _ _ _ _ _⟩
theorem WGd.below {w W W' : World} {b : Nat} {s : ByteArray} {off : Int} {j : Nat} {x : SC} {v : Value} (p : WGd w W b s off j x v) (h : Below W.heap.size W W') : WGd w W' b s off j x v :=
 ⟨Below.trans p.st (h.mono p.st.size), p.rd.below h, (h.block _ (blk_lt p.res)).trans p.res, (h.block _ (blk_lt p.err)).trans p.err, Kd.R_below p.kids h⟩
set_option maxHeartbeats 8000000 in
theorem whole_rest (hd : ByteArray → Int × Int × Int) (I : World → Prop) (w : World) (b : Nat) (s : ByteArray) (m : Nat) (off : Int) (hs : s.size ≤ 100000) (ho : 0 ≤ off ∧ off ≤ 1000) (hb : HeadB hd) (hc : HeadC hd b I) (hI : I w) (k : RdA w b s ((0 : Nat) : Int) off)
  (p : SC × Nat) (hr : cellP hd s m 0 1 = some (.ok p)) (hp : p.2 < s.size) :
  Calls Tryz.prog 27 #[.pointer (some ⟨b, 0, none⟩)] w (BadPost w b 2 (off + p.2)) := by
 have hmf : ∀ (fn : Fn) (first cap : Array Value) (w : World), (Instr.makeFunc fn first cap).run Tryz.prog w = .ok (.func fn first cap) w := fun _ _ _ _ => rfl
 obtain ⟨W0, hW0⟩ : ∃ W0, W0 = (w.alloc (.cells zeroA 27)).alloc (.cells #[.nilIface] 29) := ⟨_, rfl⟩
 have HP0 : Aside0 (WSt w W0 b s off 0 zeroA) := ⟨by rw [hW0]; exact WSt.new k⟩
 have HK := Aside0.mk k
 have HI0 : Aside0 (I W0) := ⟨hc.step hI HP0.out.st⟩
 have HW := Aside0.mk hW0
 have HN : Aside0 (Calls Tryz.prog 47 #[.pointer (some ⟨b, 0, none⟩), .int .i64 1] W0 (CellPost W0 b off (.ok p))) := ⟨cell_calls hd I W0 b s 0 1 m off hs ho (Nat.zero_le _) (by decide) hb hc HI0.out HP0.out.rd _ hr⟩
 clear hW0 k hI hr
 go_enter_defers Tryz.func27, Tryz.ntmps27
 go_wp2_with fail
 rw [← HW.out]
 with_reducible refine HN.out.mono ?_
 rintro e w1 ⟨v, rfl, hR, hst⟩
 obtain ⟨h1, h2, h3⟩ := HP0.out.step HK.out hst
 have HRD := Aside0.mk (hst.rd HP0.out.rd)
 have HS := Aside0.mk h1
 have H2 := Aside0.mk h2
 have H3 := Aside0.mk h3
 obtain ⟨A, cp, rfl⟩ := Kd.R_slice hR
 obtain ⟨c0, c1, c2⟩ := HRD.out.cells
 have y0 : w1.cell? ⟨w.heap.size, 0, none⟩ = some (.int .u8 0) := by simp [World.cell?, h2]
 have f0 := blk_frozen h2 0
 have y1 : w1.cell? ⟨w.heap.size, 1, none⟩ = some (.int .i64 0) := by simp [World.cell?, h2]
 have f1 := blk_frozen h2 1
 have y2 : w1.cell? ⟨w.heap.size, 2, none⟩ = some (.int .i64 0) := by simp [World.cell?, h2]
 have f2 := blk_frozen h2 2
 have y3 : w1.cell? ⟨w.heap.size, 3, none⟩ = some (.int .i64 0) := by simp [World.cell?, h2]
 have f3 := blk_frozen h2 3
 have y4 : w1.cell? ⟨w.heap.size, 4, none⟩ = some (.int .i64 0) := by simp [World.cell?, h2]
 have f4 := blk_frozen h2 4
 have y5 : w1.cell? ⟨w.heap.size, 5, none⟩ = some (.int .i64 0) := by simp [World.cell?, h2]
 have f5 := blk_frozen h2 5
 have y6 : w1.cell? ⟨w.heap.size, 6, none⟩ = some (.slice none 0 0) := by simp [World.cell?, h2]
 have f6 := blk_frozen h2 6
 clear hst h1 h2 h3
 have hsz0 : W0.heap.size = w.heap.size + 2 := by rw [HW.out]; simp
 rw [hsz0] at hR
 have HD1 := Aside0.mk (WGd.put (x := p.1) (v := .slice A p.1.f3.length cp) HK.out HS.out HRD.out H2.out H3.out hR)
 have HPI : Aside0 ((p.2 : Int) < (s.size : Int)) := ⟨by omega⟩
 clear hR
 go_upto_region 3 with fail
 obtain ⟨W1, hW1⟩ : ∃ W1, W1 = (((((((w1.setCell ⟨w.heap.size, 0, none⟩ (.int .u8 p.1.f0)).setCell ⟨w.heap.size, 1, none⟩ (.int .i64 p.1.f1.f0)).setCell ⟨w.heap.size, 2, none⟩ (.int .i64 p.1.f1.f1)).setCell ⟨w.heap.size, 3, none⟩ (.int .i64 p.1.f1.f2)).setCell ⟨w.heap.size, 4, none⟩ (.int .i64 p.1.f1.f3)).setCell ⟨w.heap.size, 5, none⟩ (.int .i64 p.1.f2)).setCell ⟨w.heap.size, 6, none⟩ (.slice A p.1.f3.length cp)) := ⟨_, rfl⟩
 have HD1 : Aside0 (WGd w W1 b s off p.2 p.1 (.slice A p.1.f3.length cp)) := ⟨by rw [hW1]; exact HD1.out⟩
 rw [← hW1]
 clear hW1
 obtain ⟨c0, c1, c2⟩ := HD1.out.rd.cells
 have hpi := HPI.out
 clear y0 y1 y2 y3 y4 y5 y6 f0 f1 f2 f3 f4 f5 f6
 go_quiet (fail)
 go_wp2_with fail
 have HD2 := Aside0.mk (HD1.out.below (pw_below_drewN (Below.refl _ _) nq))
 have hsz2 : w.heap.size + 2 ≤ (W1.drewN nq).heap.size := blk_lt HD2.out.err
 have hw : IntKind.i64.wrap (off + (p.2 : Int)) = off + (p.2 : Int) := by rw [i64_w]; unfold wrap64; omega
 with_reducible refine (fail_calls (W1.drewN nq) b s p.2 off 2 p.2 (by decide) hw HD2.out.rd).mono ?_
 rintro e w2 ⟨⟨g, rfl, hg, hg2⟩, hb2⟩
 have HD9 := Aside0.mk (HD2.out.below hb2)
 have HG : Aside0 (w.heap.size + 2 ≤ g ∧ w2.heap[g]? = some (.cells #[.int .i64 2, .int .i64 (off + (p.2 : Int))] 84 (0, 0))) := ⟨Nat.le_trans hsz2 hg, hg2⟩
 clear hw hg hg2 hb2
 refine leaves_cons (f := 46) (args := #[.pointer (some ⟨w.heap.size, 0, none⟩), .pointer (some ⟨w.heap.size + 1, 0, none⟩)]) (by simp) (by simp [go_sem]) ?_
 refine (catch_panicking w.heap.size (w.heap.size + 1) g w2 _ _ (by rfl) HD9.out.res HD9.out.err (by omega)).mono ?_
 rintro e u' w'' ⟨rfl, rfl, w3, g', hb3, hin, rfl⟩
 have HCC := Aside0.mk (caught_c (g' := g') (eb := w.heap.size + 1) ((hb3.block _ (blk_lt HD9.out.res)).trans HD9.out.res) (by omega) rfl)
 have HEE := Aside0.mk (caught_e (g' := g') (cb := w.heap.size) ((hb3.block _ (blk_lt HD9.out.err)).trans HD9.out.err) (by omega))
 have HSZ := HD9.out.st.size
 have hlt : w.heap.size + 1 < w2.heap.size := blk_lt HD9.out.err
 have HII := Aside0.mk (caught_in (g' := g') (cb := w.heap.size) (eb := w.heap.size + 1) hin (by omega) hlt)
 have HFF := Aside0.mk (caught_far (g' := g') (cb := w.heap.size) (eb := w.heap.size + 1) ((hb3.block _ (blk_lt HG.out.2)).trans HG.out.2) (by have := HG.out.1; omega) (by have := HG.out.1; omega))
 have HTT : Aside0 (Step w b _ (CaughtW w3 w.heap.size (w.heap.size + 1) g')) := ⟨caught_st (Below.trans HD9.out.st (hb3.mono HD9.out.st.size)) (Nat.le_refl _) (Nat.le_succ _)⟩
 generalize CaughtW w3 w.heap.size (w.heap.size + 1) g' = WF at *
 have hc1 := HCC.out
 have he1 := HEE.out
 have z0 : WF.cell? ⟨w.heap.size + 1, 0, none⟩ = some (.iface 78 (.pointer (some ⟨g', 0, none⟩))) := by simp [World.cell?, he1]
 have y0 : WF.cell? ⟨w.heap.size, 0, none⟩ = some (.int .u8 0) := by simp [World.cell?, hc1]
 have y1 : WF.cell? ⟨w.heap.size, 1, none⟩ = some (.int .i64 0) := by simp [World.cell?, hc1]
 have y2 : WF.cell? ⟨w.heap.size, 2, none⟩ = some (.int .i64 0) := by simp [World.cell?, hc1]
 have y3 : WF.cell? ⟨w.heap.size, 3, none⟩ = some (.int .i64 0) := by simp [World.cell?, hc1]
 have y4 : WF.cell? ⟨w.heap.size, 4, none⟩ = some (.int .i64 0) := by simp [World.cell?, hc1]
 have y5 : WF.cell? ⟨w.heap.size, 5, none⟩ = some (.int .i64 0) := by simp [World.cell?, hc1]
 have y6 : WF.cell? ⟨w.heap.size, 6, none⟩ = some (.slice none 0 0) := by simp [World.cell?, hc1]
 clear hc1 he1 hin hb3
 have key : BadPost w b 2 (off + (p.2 : Int)) (.returned (.tuple #[.agg zeroA, .iface 78 (.pointer (some ⟨g', 0, none⟩))])) WF :=
  ⟨g', g, rfl, ⟨Nat.le_trans HSZ HII.out.1, by obtain ⟨_, v, q1, q2⟩ := HII.out; exact ⟨v, q1, Kd.R_lower q2 HSZ⟩⟩, HFF.out, _, HTT.out⟩
 have HKEY := Aside0.mk key
 clear key
 simp [Leaves, settle, results, Tryz.results27, go_sem, y0, y1, y2, y3, y4, y5, y6, z0]
 exact HKEY.out
end Go.Proofs.YtkobpbbegalfpaaGreatDoor
