/-
  Joined texts: TiAll, PParseBodiesx2.
-/
import Derived.Test.YtkobpbbegalfpaaGreatDoorTiMem
import Derived.Shelf.Abstract
import Derived.Test.YtkobpbbegalfpaaGreatDoorMac
import Derived.Test.YtkobpbbegalfpaaGreatDoorPParseBodiesx0
/-
 cell.all: it goes through a tree's cells with a function value, as long as it is told to.
-/
namespace Go.Proofs.YtkobpbbegalfpaaGreatDoor
open Go.RowKit Go.Proofs.YtkobpbbegalfpaaGreatDoorW.PrintWords Go.Proofs.YtkobpbbegalfpaaGreatDoorW.PrintLast Go.Proofs.YtkobpbbegalfpaaGreatDoorW.PrintMore Go.Proofs.YtkobpbbegalfpaaGreatDoor.PParseBodies
set_option linter.unusedVariables false
set_option linter.unusedSimpArgs false
set_option maxRecDepth 100000

theorem enters114 : ∀ args w, (callFunc 114 args).run Tryz.prog w = .ok (.enter 114 args) w := enters_of Tryz.func114 (by kernel_rfl) rfl

/-- The state, and a function value in a block of its own. -/
def WithFn {σ : Type} (Inv : World → σ → Nat → Prop) (p : Nat) (fv : Value) (w : World) (st : σ) (u : Nat) : Prop := Inv w st u ∧ w.heap[p]? = some (.cells #[fv] 50 (0, 0))
theorem WithFn.stable {σ : Type} {Inv : World → σ → Nat → Prop} (h : Stable Inv) (p : Nat) (fv : Value) : Stable (WithFn Inv p fv) :=
 ⟨fun w w' st u hi hb => ⟨h.below _ _ _ _ hi.1 hb, (hb.block p (blk_lt hi.2)).trans hi.2⟩, fun w st u u' hi hu => ⟨h.mono _ _ _ _ hi.1 hu, hi.2⟩⟩

theorem boxTr {B : Nat} {w : World} {A : Option Addr} {n : Nat} {xs : List SC} (h : Tr B w A n xs) (o : Obj) (hB : B ≤ w.heap.size) : Tr B (w.alloc o) A n xs := h.below ((Below.refl _ _).alloc hB _)

def AllOk (B N M g : Nat) (lb : Array Value) {σ : Type} (Inv : World → σ → Nat → Prop) (f : σ → SC → Bool × σ) (c : SC) : Prop :=
 ∀ (w : World) (st : σ) (u : Nat) (A : Option Addr) (cap : Nat), Inv w st u → u + (cells c).length ≤ M → N ≤ w.heap.size → c.f3.length ≤ cap → Tr B w A c.f3.length c.f3 →
  Calls Tryz.prog 96 #[.agg #[.int .u8 c.f0, .int .i64 c.f1.f0, .int .i64 c.f1.f1, .int .i64 c.f1.f2, .int .i64 c.f1.f3, .int .i64 c.f2, .slice A c.f3.length cap], .func (.func g) #[] lb] w
   fun e w' => e = .returned (.bool (visitL f st (cells c)).1) ∧ Inv w' (visitL f st (cells c)).2 (u + (cells c).length) ∧ Mid B N w w'

theorem all1_calls {σ : Type} (B N M g p : Nat) (lb : Array Value) (Inv : World → σ → Nat → Prop) (hI : Stable Inv) (f : σ → SC → Bool × σ) (k : SC) (hBN : B ≤ N) (hp : N ≤ p) (hA : AllOk B N M g lb Inv f k)
  (w : World) (st : σ) (u : Nat) (A : Option Addr) (cap : Nat) (hi : WithFn Inv p (.func (.func g) #[] lb) w st u) (hu : u + (cells k).length ≤ M) (hN : N ≤ w.heap.size) (hc : k.f3.length ≤ cap) (hT : Tr B w A k.f3.length k.f3) :
  Calls Tryz.prog 114 #[.agg #[.int .u8 k.f0, .int .i64 k.f1.f0, .int .i64 k.f1.f1, .int .i64 k.f1.f2, .int .i64 k.f1.f3, .int .i64 k.f2, .slice A k.f3.length cap], .pointer (some ⟨p, 0, none⟩)] w
   fun e w' => e = .returned (.bool (notV f st k).1) ∧ WithFn Inv p (.func (.func g) #[] lb) w' (notV f st k).2 (u + (cells k).length) ∧ Mid B N w w' := by
 obtain ⟨h1, hheap⟩ := hi
 have hcell : w.cell? ⟨p, 0, none⟩ = some (.func (.func g) #[] lb) := by rw [blk_cell hheap]; rfl
 have HH := Aside0.mk hheap
 clear hheap
 obtain ⟨w1, hw1⟩ : ∃ w1, w1 = w.alloc (.cells #[.int .u8 k.f0, .int .i64 k.f1.f0, .int .i64 k.f1.f1, .int .i64 k.f1.f2, .int .i64 k.f1.f3, .int .i64 k.f2, .slice A k.f3.length cap] 27) := ⟨_, rfl⟩
 have hb : Below w.heap.size w w1 := by rw [hw1]; exact below_alloc (Below.refl _ _) _
 have hbB : Below B w w1 := by rw [hw1]; exact (Below.refl _ _).alloc (by omega) _
 have HC := Aside0.mk (hA w1 st u A cap (hI.below _ _ _ _ h1 hb) hu (by have := hb.size; omega) hc (hT.below hbB))
 have HK := Aside0.mk hcell
 have HB := Aside0.mk hb
 have HL := Aside0.mk (pw_cell_below hb hcell)
 have HP := Aside0.mk hp
 rw [hw1] at HC
 have hlt := World.block_lt_of_cell? w _ hcell
 have HW := Aside0.mk hw1
 generalize hv : visitL f st (cells k) = r at HC
 have HV := Aside0.mk hv
 clear hw1 h1 hI hA hu hT hb hbB hv hp
 go_enter Tryz.func114, Tryz.ntmps114
 go_wp2_with fail
 with_reducible refine HC.out.mono ?_
 rintro e w2 ⟨rfl, h2⟩
 have H2 := Aside0.mk h2
 clear h2
 go_wp2
 go_ret
 refine ⟨by simp [notV, HV.out], ⟨by simp only [notV, HV.out]; exact H2.out.1, ?_⟩, ?_⟩
 ·have hm := H2.out.2
  rw [← HW.out] at hm
  exact hm.blk ((HB.out.block p (blk_lt HH.out)).trans HH.out) HP.out (by decide)
 ·have hm := H2.out.2
  rw [← HW.out] at hm
  exact (Mid.ofBelow HB.out).trans hm

set_option maxHeartbeats 4000000 in
theorem all_calls {σ : Type} (B N M g : Nat) (lb : Array Value) (eg : ∀ args w, (callFunc g args).run Tryz.prog w = .ok (.enter g args) w) (Inv : World → σ → Nat → Prop) (hI : Stable Inv) (f : σ → SC → Bool × σ) (hBN : B ≤ N)
  (c : SC) (hP : PredF B N M g lb Inv (fun _ => 1) f (cells c)) : AllOk B N M g lb Inv f c := by
 revert hP
 refine cell_ind (P := fun c => PredF B N M g lb Inv (fun _ => 1) f (cells c) → AllOk B N M g lb Inv f c) (fun c ih hP => ?_) c
 have hkids : ∀ k ∈ c.f3, AllOk B N M g lb Inv f k := fun k hk => ih k hk (hP.sub (cells_kid hk))
 clear ih
 intro w st u A cap hi hu hN hc hT
 obtain ⟨w1, hw1⟩ : ∃ w1, w1 = (w.alloc (.cells #[.int .u8 c.f0, .int .i64 c.f1.f0, .int .i64 c.f1.f1, .int .i64 c.f1.f2, .int .i64 c.f1.f3, .int .i64 c.f2, .slice A c.f3.length cap] 27)).alloc (.cells #[.func (.func g) #[] lb] 50) := ⟨_, rfl⟩
 have hb : Below w.heap.size w w1 := by rw [hw1]; exact below_alloc (below_alloc (Below.refl _ _) _) _
 have hsz : w1.heap.size = w.heap.size + 2 := by rw [hw1]; simp
 have hcl : (cells c).length = 1 + (cellsL c.f3).length := by rw [cells_eq]; simp; omega
 have hT1 : Tr B w1 A c.f3.length c.f3 := hT.below (((Mid.ofBelow hb : Mid B N w w1)).toB (by omega))
 have HC := Aside0.mk (hP c (cells_self c) w1 st u A cap (hI.below _ _ _ _ hi hb) (by show u + 1 ≤ M; omega) (by omega) hc hT1)
 have k6 : w1.heap[w.heap.size]? = some (.cells #[.int .u8 c.f0, .int .i64 c.f1.f0, .int .i64 c.f1.f1, .int .i64 c.f1.f2, .int .i64 c.f1.f3, .int .i64 c.f2, .slice A c.f3.length cap] 27 (0, 0)) := by
  rw [hw1, Below.heap_alloc _ _ _ (by simp)]; exact heap_alloc_new w _
 have kf : w1.heap[w.heap.size + 1]? = some (.cells #[.func (.func g) #[] lb] 50 (0, 0)) := by
  rw [hw1]
  have h := heap_alloc_new (w.alloc (.cells #[.int .u8 c.f0, .int .i64 c.f1.f0, .int .i64 c.f1.f1, .int .i64 c.f1.f2, .int .i64 c.f1.f3, .int .i64 c.f2, .slice A c.f3.length cap] 27)) (.cells #[.func (.func g) #[] lb] 50)
  simpa using h
 have hvis := visit_self f st c
 rw [hw1] at HC
 have HW := Aside0.mk hw1
 have HB := Aside0.mk hb
 have K6 := Aside0.mk k6
 have KF := Aside0.mk kf
 have HT := Aside0.mk hT1
 have HK := Aside0.mk hkids
 have HII := Aside0.mk hI
 have HCL := Aside0.mk hcl
 have HSZ := Aside0.mk hsz
 have HU := Aside0.mk hu
 clear hw1 hb k6 kf hT1 hkids hI hT hi hP hcl hsz hu
 generalize hv : visitL f st (cells c) = r at *
 have hr1 : ∀ b, (f st c).1 = b → Aside0 (r = if b = true then visitL f (f st c).2 (cellsL c.f3) else (false, (f st c).2)) := fun b hb => ⟨by rw [hvis, hb]⟩
 clear hv hvis
 cases hp : (f st c).1 with
 | false =>
  rw [hp] at HC
  have HR := hr1 false hp
  clear hr1 hp
  go_enter Tryz.func96, Tryz.ntmps96
  go_wp2_with fail
  refine HC.out.mono ?_
  rintro e w2 ⟨rfl, h2⟩
  have H2 := Aside0.mk h2
  clear h2
  go_wp2
  go_ret
  have e : r = (false, (f st c).2) := HR.out
  refine ⟨by rw [e]; rfl, by rw [e]; exact HII.out.mono _ _ _ _ H2.out.1 (by rw [HCL.out]; omega), ?_⟩
  have hm := H2.out.2
  rw [← HW.out] at hm
  exact (Mid.ofBelow HB.out).trans hm
 | true =>
  rw [hp] at HC
  have HR := hr1 true hp
  clear hr1 hp
  go_enter Tryz.func96, Tryz.ntmps96
  go_wp2_with fail
  refine HC.out.mono ?_
  rintro e w2 ⟨rfl, h2⟩
  have hm := h2.2
  rw [← HW.out] at hm
  have hsz2 : w.heap.size + 2 ≤ w2.heap.size := by have := hm.size; rw [HSZ.out] at this; exact this
  have g6 : w2.cell? ⟨w.heap.size, 6, none⟩ = some (.slice A c.f3.length cap) := by rw [blk_cell (hm.blk K6.out hN (by decide))]; rfl
  have gf := hm.blk KF.out (by omega) (by decide)
  have hT2 : Tr B w2 A c.f3.length c.f3 := HT.out.below (hm.toB (by rw [HSZ.out]; omega))
  have hpred : PredF B N M 114 #[.pointer (some ⟨w.heap.size + 1, 0, none⟩)] (WithFn Inv (w.heap.size + 1) (.func (.func g) #[] lb)) (fun k => (cells k).length) (notV f) c.f3 :=
   fun k hk w st u A cap h1 h2 h3 h4 h5 => all1_calls B N M g _ lb Inv HII.out f k hBN (by omega) (HK.out k hk) w st u A cap h1 h2 h3 h4 h5
  have HN := none_calls B N M 114 #[.pointer (some ⟨w.heap.size + 1, 0, none⟩)] enters114 (WithFn Inv (w.heap.size + 1) (.func (.func g) #[] lb)) (HII.out |> fun h => WithFn.stable h _ _) (fun k => (cells k).length) (notV f) A c.f3.length cap c.f3 w2 (f st c).2 (u + 1) hBN (by omega) hpred hT2 ⟨h2.1, gf⟩ (by rw [wts_cells]; have := HU.out; have := HCL.out; omega)
  rw [any_visit, wts_cells] at HN
  have HN := Aside0.mk HN
  have HM := Aside0.mk hm
  clear h2 hm gf hT2 hpred HC
  go_wp2_with fail
  refine HN.out.mono ?_
  rintro e w3 ⟨rfl, h3⟩
  have H3 := Aside0.mk h3
  clear h3
  go_wp2
  go_ret
  have e : r = visitL f (f st c).2 (cellsL c.f3) := HR.out
  refine ⟨by rw [e]; simp, by rw [e, HCL.out]; have := H3.out.1.1; rwa [Nat.add_assoc] at this, ((Mid.ofBelow HB.out).trans HM.out).trans H3.out.2⟩
end Go.Proofs.YtkobpbbegalfpaaGreatDoor

/- Printed texts of this seat, cut to what is used. -/
namespace Go.Proofs.YtkobpbbegalfpaaGreatDoor.PParseBodies
open Go.RowKit Go.Proofs.YtkobpbbegalfpaaGreatDoorW.PrintWords Go.Proofs.YtkobpbbegalfpaaGreatDoorW.PrintLast Go.Proofs.YtkobpbbegalfpaaGreatDoorW.PrintMore
attribute [local go_sem] max2_int min2_int max_two min_two max_three min_three max_four min_four   -- for this text's walks alone
set_option linter.unusedVariables false
set_option linter.unusedSimpArgs false










end Go.Proofs.YtkobpbbegalfpaaGreatDoor.PParseBodies
