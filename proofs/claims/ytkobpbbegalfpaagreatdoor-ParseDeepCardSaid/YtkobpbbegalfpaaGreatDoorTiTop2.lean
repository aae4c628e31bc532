/-
  Joined texts: TiTop, TiTop2.
-/
import Derived.Test.YtkobpbbegalfpaaGreatDoorTiWalk
import Derived.Test.YtkobpbbegalfpaaGreatDoorPsBase
/-
 tile.Check, tile.Tiles, tile.Lines.
-/
namespace Go.Proofs.YtkobpbbegalfpaaGreatDoor
open Go.RowKit Go.Proofs.YtkobpbbegalfpaaGreatDoorW.PrintWords Go.Proofs.YtkobpbbegalfpaaGreatDoorW.PrintLast Go.Proofs.YtkobpbbegalfpaaGreatDoorW.PrintMore Go.Proofs.YtkobpbbegalfpaaGreatDoor.PParseBodies
set_option linter.unusedVariables false
set_option linter.unusedSimpArgs false
set_option maxRecDepth 100000

/-- A row of one cell, in the block that was just made. -/
theorem one_row (W : World) (c : SC) (A : Option Addr) (cap : Nat) (hcap : c.f3.length ≤ cap) (hr : (k27).C W A c.f3.length c.f3) :
  (k27).C (W.alloc (.cells #[.int .u8 c.f0, .int .i64 c.f1.f0, .int .i64 c.f1.f1, .int .i64 c.f1.f2, .int .i64 c.f1.f3, .int .i64 c.f2, .slice A c.f3.length cap] 27)) (some ⟨W.heap.size, 0, none⟩) 1 [c] := by
 refine ⟨rfl, by decide, fun _ => ⟨_, rfl, fun j p hj => ?_⟩⟩
 match j, hj with
 | 0, hj =>
  obtain rfl : c = p := by simpa using hj
  refine ⟨[.int .u8 c.f0, .int .i64 c.f1.f0, .int .i64 c.f1.f1, .int .i64 c.f1.f2, .int .i64 c.f1.f3, .int .i64 c.f2, .slice A c.f3.length cap], rfl, k27_mk _ c hcap (Kd.C_alloc hr _), fun i u hu => ?_⟩
  rw [Nat.zero_mul, Nat.zero_add, add_plain, cell_of_row _ _ _ _ _ _ (heap_alloc_new W _)]
  simpa using hu

theorem kid_le (k : SC) : ∀ l : List SC, k ∈ l → (cells k).length ≤ (cellsL l).length := by
 intro l
 induction l with
 | nil => intro h; cases h
 | cons c l ih =>
  intro h
  rw [cellsL_cons, List.length_append]
  rcases List.mem_cons.1 h with rfl | h
  ·omega
  ·have := ih h; omega
theorem cells_le {c : SC} : ∀ x ∈ cells c, (cells x).length ≤ (cells c).length := by
 refine cell_ind (P := fun c => ∀ x ∈ cells c, (cells x).length ≤ (cells c).length) (fun c ih => ?_) c
 intro x hx
 rw [cells_eq] at hx
 rcases List.mem_cons.1 hx with rfl | hx
 ·exact Nat.le_refl _
 ·rw [cellsL_flat] at hx
  obtain ⟨k, hk, hxk⟩ := List.mem_flatMap.1 hx
  have h1 := ih k hk x hxk
  have h2 := kid_le k c.f3 hk
  rw [cells_eq c, List.length_cons]
  omega
theorem cellsL_ge (l : List SC) : l.length ≤ (cellsL l).length := by
 induction l with
 | nil => simp
 | cons c l ih =>
  have := cells_pos c
  rw [cellsL_cons, List.length_append, List.length_cons]
  omega
theorem kids_le {c : SC} : ∀ x ∈ cells c, x.f3.length ≤ (cells c).length := by
 intro x hx
 have h1 := cells_le x hx
 have h2 := cellsL_ge x.f3
 rw [cells_eq x, List.length_cons] at h1
 omega
theorem nodes_of {c : SC} (hl : (cells c).length ≤ 10000) (h : mayB c = true) : ∀ x ∈ cells c, NodeC x := by
 have h2 := ((may_iff c).1 h).2.1
 intro x hx
 have := kids_le x hx
 exact ⟨(h2 x hx).1, (h2 x hx).2, by omega⟩

/-- What the error of a tree is: its number, its place. -/
def ChkErr (w : World) (base : Nat) (v : Value) (e at_ : Int) : Prop :=
 ∃ g f, v = .iface 78 (.pointer (some ⟨g, 0, none⟩)) ∧ Inside w base g (.iface 82 (.pointer (some ⟨f, 0, none⟩))) [(⟨#[108, 97, 121, 111, 117, 116]⟩ : ByteArray)] ∧ base ≤ f ∧ w.heap[f]? = some (.cells #[.int .i64 e, .int .i64 at_] 84 (0, 0))
def chkNo (c : SC) : Int := if mayB c = true then (if (walkV c).1 = true then 0 else 5) else 1
def chkAt (c : SC) : Int := if mayB c = true then (if (walkV c).1 = true then 0 else ((walkV c).2.1 : Int)) else 0
theorem tilesB_no (c : SC) : tilesB c = decide (chkNo c = 0) := by
 unfold tilesB chkNo
 cases mayB c <;> cases (walkV c).1 <;> simp
/-- What Check answers with. -/
def OutCheck (w : World) (c : SC) (e : Ending) (w' : World) : Prop :=
 Below w.heap.size w w' ∧ ∃ v, e = .returned v ∧ (chkNo c = 0 → v = .nilIface) ∧ (chkNo c ≠ 0 → ChkErr w' w.heap.size v (chkNo c) (chkAt c))

set_option maxHeartbeats 4000000 in
theorem check_calls (c : SC) (w : World) (A : Option Addr) (cap : Nat) (hl : (cells c).length ≤ 10000) (hcap : c.f3.length ≤ cap) (hr : (k27).C w A c.f3.length c.f3) :
  Calls Tryz.prog 77 #[.agg #[.int .u8 c.f0, .int .i64 c.f1.f0, .int .i64 c.f1.f1, .int .i64 c.f1.f2, .int .i64 c.f1.f3, .int .i64 c.f2, .slice A c.f3.length cap]] w (OutCheck w c) := by
 obtain ⟨w1, hw1⟩ : ∃ w1, w1 = w.alloc (.cells #[.int .u8 c.f0, .int .i64 c.f1.f0, .int .i64 c.f1.f1, .int .i64 c.f1.f2, .int .i64 c.f1.f3, .int .i64 c.f2, .slice A c.f3.length cap] 27) := ⟨_, rfl⟩
 obtain ⟨w2, hw2⟩ : ∃ w2, w2 = w1.alloc (.cells #[.int .i64 0, .slice none 0 0] 169) := ⟨_, rfl⟩
 obtain ⟨w3, hw3⟩ : ∃ w3, w3 = w2.alloc (.cells #[.int .u8 c.f0, .int .i64 c.f1.f0, .int .i64 c.f1.f1, .int .i64 c.f1.f2, .int .i64 c.f1.f3, .int .i64 c.f2, .slice A c.f3.length cap] 27) := ⟨_, rfl⟩
 have s1 : w1.heap.size = w.heap.size + 1 := by rw [hw1]; simp
 have s2 : w2.heap.size = w.heap.size + 2 := by rw [hw2]; simp [s1]
 have s3 : w3.heap.size = w.heap.size + 3 := by rw [hw3]; simp [s2]
 have hb1 : Below w.heap.size w w1 := by rw [hw1]; exact below_alloc (Below.refl _ _) _
 have hb2 : Below w.heap.size w w2 := by rw [hw2]; exact below_alloc hb1 _
 have hb3 : Below w.heap.size w w3 := by rw [hw3]; exact below_alloc hb2 _
 have hb13 : Below w1.heap.size w1 w3 := by rw [hw3, hw2]; exact below_alloc (below_alloc (Below.refl _ _) _) _
 have hb23 : Below w2.heap.size w2 w3 := by rw [hw3]; exact below_alloc (Below.refl _ _) _
 have hbox : w3.heap[w.heap.size]? = some (.cells #[.int .u8 c.f0, .int .i64 c.f1.f0, .int .i64 c.f1.f1, .int .i64 c.f1.f2, .int .i64 c.f1.f3, .int .i64 c.f2, .slice A c.f3.length cap] 27 (0, 0)) := by
  have h : w1.heap[w.heap.size]? = some (.cells #[.int .u8 c.f0, .int .i64 c.f1.f0, .int .i64 c.f1.f1, .int .i64 c.f1.f2, .int .i64 c.f1.f3, .int .i64 c.f2, .slice A c.f3.length cap] 27 (0, 0)) := by rw [hw1]; exact heap_alloc_new w _
  exact (hb13.block _ (by omega)).trans h
 have hwk : w3.heap[w.heap.size + 1]? = some (.cells #[.int .i64 0, .slice none 0 0] 169 (0, 0)) := by
  have h : w2.heap[w1.heap.size]? = some (.cells #[.int .i64 0, .slice none 0 0] 169 (0, 0)) := by rw [hw2]; exact heap_alloc_new w1 _
  rw [s1] at h
  exact (hb23.block _ (by omega)).trans h
 have hrow : (k27).C w3 (some ⟨w.heap.size + 2, 0, none⟩) 1 [c] := by
  have h := one_row w2 c A cap hcap (Kd.C_below hr hb2)
  rw [← hw3, s2] at h
  exact h
 have HM := cmay_calls w3.heap.size [c] w3 _ 1 1 (Nat.le_refl _) (fun x hx => by obtain rfl : x = c := by simpa using hx
                                                                                 exact hl) (Tr.of hrow)
 rw [show [c].all mayB = mayB c by simp] at HM
 have hT3 : Tr w.heap.size w3 A c.f3.length c.f3 := (Tr.of hr).below hb3
 have HW : Aside0 (w3 = ((w.alloc (.cells #[.int .u8 c.f0, .int .i64 c.f1.f0, .int .i64 c.f1.f1, .int .i64 c.f1.f2, .int .i64 c.f1.f3, .int .i64 c.f2, .slice A c.f3.length cap] 27)).alloc (.cells #[.int .i64 0, .slice none 0 0] 169)).alloc (.cells #[.int .u8 c.f0, .int .i64 c.f1.f0, .int .i64 c.f1.f1, .int .i64 c.f1.f2, .int .i64 c.f1.f3, .int .i64 c.f2, .slice A c.f3.length cap] 27)) := ⟨by rw [hw3, hw2, hw1]⟩
 rw [HW.out] at HM
 have HM := Aside0.mk HM
 have HB := Aside0.mk hb3
 have HBOX := Aside0.mk hbox
 have HWK := Aside0.mk hwk
 have HT := Aside0.mk hT3
 have HS := Aside0.mk s3
 have HL := Aside0.mk hl
 have HNO : Aside0 (∀ b q, mayB c = b → (walkV c).1 = q → chkNo c = (if b = true then (if q = true then 0 else 5) else 1) ∧ chkAt c = (if b = true then (if q = true then 0 else ((walkV c).2.1 : Int)) else 0)) := ⟨fun b q h1 h2 => by unfold chkNo chkAt; rw [h1, h2]; exact ⟨rfl, rfl⟩⟩
 clear hT3 hrow hwk hbox hb23 hb13 hb3 hb2 hb1 s1 s2 s3 hw3 hw2 hw1 hr hl
 cases hmay : mayB c with
 | false =>
  rw [hmay] at HM
  have HNA := Aside0.mk (HNO.out false _ hmay rfl)
  clear hmay HNO
  go_enter Tryz.func77, Tryz.ntmps77
  go_wp2_with fail
  refine HM.out.mono ?_
  rintro e w4 ⟨rfl, hb4⟩
  rw [← HW.out] at hb4
  have HB4 := Aside0.mk (HB.out.trans (hb4.mono HB.out.size))
  clear hb4 HM
  go_wp2_with fail
  refine (new_calls 1 0 w4 rfl).mono ?_
  rintro e w5 ⟨rfl, rfl⟩
  have HE := Aside0.mk (in_calls 82 (.pointer (some ⟨w4.heap.size, 0, none⟩)) ⟨w4.heap.size + 1, 0, none⟩ 1 1 [(⟨#[108, 97, 121, 111, 117, 116]⟩ : ByteArray)] ((w4.alloc (.cells #[.int .i64 1, .int .i64 0] 84)).alloc (.cells #[.string ((⟨#[108, 97, 121, 111, 117, 116]⟩ : ByteArray))] 9)) rfl (by omega) (by omega) (by omega) (by
   have := litC (w4.alloc (.cells #[.int .i64 1, .int .i64 0] 84)) 9 [(⟨#[108, 97, 121, 111, 117, 116]⟩ : ByteArray)] (by decide)
   simpa [encs] using this))
  have hblk : ((w4.alloc (.cells #[.int .i64 1, .int .i64 0] 84)).alloc (.cells #[.string ((⟨#[108, 97, 121, 111, 117, 116]⟩ : ByteArray))] 9)).heap[w4.heap.size]? = some (.cells #[.int .i64 1, .int .i64 0] 84 (0, 0)) := by
   rw [Below.heap_alloc _ _ _ (by simp)]; exact heap_alloc_new w4 _
  have HW5 : Aside0 (Below w.heap.size w ((w4.alloc (.cells #[.int .i64 1, .int .i64 0] 84)).alloc (.cells #[.string ((⟨#[108, 97, 121, 111, 117, 116]⟩ : ByteArray))] 9))) := ⟨below_alloc (below_alloc HB4.out _) _⟩
  have HK := Aside0.mk hblk
  have hsz4 := HB4.out.size
  clear hblk
  go_wp2_with fail
  refine HE.out.mono ?_
  rintro e w6 ⟨gg, rfl, hin, hb6⟩
  have hF : ChkErr w6 w.heap.size (.iface 78 (.pointer (some ⟨gg, 0, none⟩))) 1 0 := by
   obtain ⟨k1, v, k2, k3⟩ := hin
   exact ⟨gg, w4.heap.size, rfl, ⟨by simp at k1; omega, v, k2, Kd.R_lower k3 (by simp; omega)⟩, by omega, (hb6.block _ (by simp; omega)).trans HK.out⟩
  have HF := Aside0.mk hF
  have HB6 : Aside0 (Below w.heap.size w w6) := ⟨HW5.out.trans (hb6.mono HW5.out.size)⟩
  clear hF hin hb6
  go_wp2
  go_ret
  refine ⟨HB6.out, _, rfl, fun h => ?_, fun _ => ?_⟩
  ·rw [HNA.out.1] at h; simp at h
  ·rw [HNA.out.1, HNA.out.2]; exact HF.out
 | true =>
  rw [hmay] at HM
  have HNO2 : Aside0 (∀ q, (walkV c).1 = q → chkNo c = (if q = true then 0 else 5) ∧ chkAt c = (if q = true then 0 else ((walkV c).2.1 : Int))) := ⟨fun q h => by have := HNO.out true q hmay h; simpa using this⟩
  have HND := Aside0.mk (nodes_of HL.out hmay)
  clear hmay HNO
  go_enter Tryz.func77, Tryz.ntmps77
  go_wp2_with fail
  refine HM.out.mono ?_
  rintro e w4 ⟨rfl, hb4⟩
  rw [← HW.out] at hb4
  have hsz4 := hb4.size
  rw [HS.out] at hsz4
  have bx := (hb4.block w.heap.size (by rw [HS.out]; omega)).trans HBOX.out
  have bw := (hb4.block (w.heap.size + 1) (by rw [HS.out]; omega)).trans HWK.out
  have hT4 := HT.out.below (hb4.mono HB.out.size)
  have hinv : WalkInv w.heap.size w4.heap.size (w.heap.size + 1) w4 (0, []) 0 := ⟨⟨Nat.le_refl _, by simp, by omega, by omega⟩, _, bw, Kd.R_nil _ _ _ _ _⟩
  have HWC := Aside0.mk (walk_calls w.heap.size w4.heap.size 10000 (w.heap.size + 1) (by omega) (Nat.le_refl _) c HND.out w4 (0, []) 0 A cap hinv (by have := HL.out; omega) (Nat.le_refl _) hcap hT4)
  have d0 : w4.cell? ⟨w.heap.size, 0, none⟩ = some (.int .u8 c.f0) := by rw [blk_cell bx]; rfl
  have d1 : w4.cell? ⟨w.heap.size, 1, none⟩ = some (.int .i64 c.f1.f0) := by rw [blk_cell bx]; rfl
  have d2 : w4.cell? ⟨w.heap.size, 2, none⟩ = some (.int .i64 c.f1.f1) := by rw [blk_cell bx]; rfl
  have d3 : w4.cell? ⟨w.heap.size, 3, none⟩ = some (.int .i64 c.f1.f2) := by rw [blk_cell bx]; rfl
  have d4 : w4.cell? ⟨w.heap.size, 4, none⟩ = some (.int .i64 c.f1.f3) := by rw [blk_cell bx]; rfl
  have d5 : w4.cell? ⟨w.heap.size, 5, none⟩ = some (.int .i64 c.f2) := by rw [blk_cell bx]; rfl
  have d6 : w4.cell? ⟨w.heap.size, 6, none⟩ = some (.slice A c.f3.length cap) := by rw [blk_cell bx]; rfl
  have HB4 := Aside0.mk (HB.out.trans (hb4.mono HB.out.size))
  have hv : (walkV c) = visitL walkStep (0, []) (cells c) := rfl
  rw [← hv] at HWC
  generalize walkV c = r at *
  obtain ⟨q, num, ls⟩ := r
  simp only at HWC HNO2
  clear hb4 HM bx bw hT4 hinv hv
  cases q with
  | true =>
   have HNA := Aside0.mk (HNO2.out true rfl)
   go_wp2_with fail
   refine HWC.out.mono ?_
   rintro e w5 ⟨rfl, _, hm5⟩
   have HB5 := Aside0.mk (HB4.out.trans (hm5.toB (by omega)))
   clear hm5 HWC
   go_wp2
   go_ret
   refine ⟨HB5.out, _, rfl, fun _ => rfl, fun h => ?_⟩
   rw [HNA.out.1] at h; exact absurd rfl h
  | false =>
   have HNA := Aside0.mk (HNO2.out false rfl)
   go_wp2_with fail
   refine HWC.out.mono ?_
   rintro e w5 ⟨rfl, hi5, hm5⟩
   have HB5 := Aside0.mk (HB4.out.trans (hm5.toB (by omega)))
   obtain ⟨_, vL, bg, _⟩ := hi5
   have cg : w5.cell? ⟨w.heap.size + 1, 0, none⟩ = some (.int .i64 (num : Int)) := by rw [blk_cell bg]; rfl
   have hsz5 := hm5.size
   clear hm5 HWC bg d0 d1 d2 d3 d4 d5 d6
   go_wp2_with fail
   refine (new_calls 5 num w5 rfl).mono ?_
   rintro e w6 ⟨rfl, rfl⟩
   have HE := Aside0.mk (in_calls 82 (.pointer (some ⟨w5.heap.size, 0, none⟩)) ⟨w5.heap.size + 1, 0, none⟩ 1 1 [(⟨#[108, 97, 121, 111, 117, 116]⟩ : ByteArray)] ((w5.alloc (.cells #[.int .i64 5, .int .i64 num] 84)).alloc (.cells #[.string ((⟨#[108, 97, 121, 111, 117, 116]⟩ : ByteArray))] 9)) rfl (by omega) (by omega) (by omega) (by
    have := litC (w5.alloc (.cells #[.int .i64 5, .int .i64 num] 84)) 9 [(⟨#[108, 97, 121, 111, 117, 116]⟩ : ByteArray)] (by decide)
    simpa [encs] using this))
   have hblk : ((w5.alloc (.cells #[.int .i64 5, .int .i64 num] 84)).alloc (.cells #[.string ((⟨#[108, 97, 121, 111, 117, 116]⟩ : ByteArray))] 9)).heap[w5.heap.size]? = some (.cells #[.int .i64 5, .int .i64 num] 84 (0, 0)) := by
    rw [Below.heap_alloc _ _ _ (by simp)]; exact heap_alloc_new w5 _
   have HW5 : Aside0 (Below w.heap.size w ((w5.alloc (.cells #[.int .i64 5, .int .i64 num] 84)).alloc (.cells #[.string ((⟨#[108, 97, 121, 111, 117, 116]⟩ : ByteArray))] 9))) := ⟨below_alloc (below_alloc HB5.out _) _⟩
   have HK := Aside0.mk hblk
   clear hblk
   go_wp2_with fail
   refine HE.out.mono ?_
   rintro e w6 ⟨gg, rfl, hin, hb6⟩
   have hF : ChkErr w6 w.heap.size (.iface 78 (.pointer (some ⟨gg, 0, none⟩))) 5 num := by
    obtain ⟨k1, v, k2, k3⟩ := hin
    exact ⟨gg, w5.heap.size, rfl, ⟨by simp at k1; omega, v, k2, Kd.R_lower k3 (by simp; omega)⟩, by omega, (hb6.block _ (by simp; omega)).trans HK.out⟩
   have HF := Aside0.mk hF
   have HB6 : Aside0 (Below w.heap.size w w6) := ⟨HW5.out.trans (hb6.mono HW5.out.size)⟩
   clear hF hin hb6
   go_wp2
   go_ret
   refine ⟨HB6.out, _, rfl, fun h => ?_, fun _ => ?_⟩
   ·rw [HNA.out.1] at h; exact absurd h (by decide)
   ·rw [HNA.out.1, HNA.out.2]; exact HF.out
end Go.Proofs.YtkobpbbegalfpaaGreatDoor

/-
 tile.Tiles and tile.Lines.
-/
namespace Go.Proofs.YtkobpbbegalfpaaGreatDoor
open Go.RowKit Go.Proofs.YtkobpbbegalfpaaGreatDoorW.PrintWords Go.Proofs.YtkobpbbegalfpaaGreatDoorW.PrintLast Go.Proofs.YtkobpbbegalfpaaGreatDoorW.PrintMore Go.Proofs.YtkobpbbegalfpaaGreatDoor.PParseBodies
set_option linter.unusedVariables false
set_option linter.unusedSimpArgs false
set_option maxRecDepth 100000

theorem enters76 : ∀ args w, (callFunc 76 args).run Tryz.prog w = .ok (.enter 76 args) w := enters_of Tryz.func76 (by kernel_rfl) rfl

theorem tiles1_calls (c : SC) (w : World) (A : Option Addr) (cap : Nat) (hl : (cells c).length ≤ 10000) (hcap : c.f3.length ≤ cap) (hr : (k27).C w A c.f3.length c.f3) :
  Calls Tryz.prog 76 #[.agg #[.int .u8 c.f0, .int .i64 c.f1.f0, .int .i64 c.f1.f1, .int .i64 c.f1.f2, .int .i64 c.f1.f3, .int .i64 c.f2, .slice A c.f3.length cap]] w fun e w' => e = .returned (.bool (!tilesB c)) ∧ Below w.heap.size w w' := by
 have hb : Below w.heap.size w (w.alloc (.cells #[.int .u8 c.f0, .int .i64 c.f1.f0, .int .i64 c.f1.f1, .int .i64 c.f1.f2, .int .i64 c.f1.f3, .int .i64 c.f2, .slice A c.f3.length cap] 27)) := below_alloc (Below.refl _ _) _
 have HC := Aside0.mk (check_calls c (w.alloc (.cells #[.int .u8 c.f0, .int .i64 c.f1.f0, .int .i64 c.f1.f1, .int .i64 c.f1.f2, .int .i64 c.f1.f3, .int .i64 c.f2, .slice A c.f3.length cap] 27)) A cap hl hcap (Kd.C_below hr hb))
 have HB := Aside0.mk hb
 rw [tilesB_no]
 clear hb hr hl
 go_enter Tryz.func76, Tryz.ntmps76
 go_wp2_with fail
 refine HC.out.mono ?_
 rintro e w1 ⟨hb1, v, rfl, h0, h1⟩
 have HB1 := Aside0.mk (HB.out.trans (hb1.mono HB.out.size))
 by_cases h : chkNo c = 0
 ·obtain rfl := h0 h
  have HD : Aside0 (decide (chkNo c = 0) = true) := ⟨decide_eq_true h⟩
  clear hb1 h0 h1 h HC
  go_wp2
  go_ret
  exact ⟨by rw [HD.out]; rfl, HB1.out⟩
 ·obtain ⟨g, f, rfl, _⟩ := h1 h
  have HD : Aside0 (decide (chkNo c = 0) = false) := ⟨decide_eq_false h⟩
  clear hb1 h0 h1 h HC
  go_wp2
  go_ret
  exact ⟨by rw [HD.out]; rfl, HB1.out⟩

/-- tile.Tiles of several trees. -/
theorem tiles_calls (l : List SC) (w : World) (A : Option Addr) (n cap : Nat) (hl : ∀ c ∈ l, (cells c).length ≤ 10000) (hr : (k27).C w A n l) :
  Calls Tryz.prog 50 #[.slice A n cap] w fun e w' => e = .returned (.bool (l.all tilesB)) ∧ Below w.heap.size w w' := by
 have hpred : PredF w.heap.size w.heap.size 0 76 #[] NoInv (fun _ => 0) (fun (_ : Unit) x => (!tilesB x, ())) l := fun x hx W st u A' cap' _ _ h3 h4 h5 => by
  refine (tiles1_calls x W A' cap' (hl x hx) h4 h5.now).mono ?_
  rintro e w' ⟨h1, h2⟩
  exact ⟨h1, trivial, Mid.ofBelow h2⟩
 have HC := cfn_calls w.heap.size w.heap.size 0 76 #[] enters76 NoInv NoInv.stable (fun _ => 0) (fun (_ : Unit) x => (!tilesB x, ())) A n cap l w () 0 (Nat.le_refl _) (Nat.le_refl _) hpred (Tr.of hr) trivial (by rw [wts_zero]; exact Nat.le_refl _)
 rw [anyL_unit (fun x => !tilesB x)] at HC
 have e : (!l.any (fun x => !tilesB x)) = l.all tilesB := not_any_not _ _
 rw [← e]
 have HCC := Aside0.mk HC
 generalize l.any (fun x => !tilesB x) = b at *
 clear hpred hr hl HC e
 go_enter Tryz.func50, Tryz.ntmps50
 go_wp2_with fail
 refine HCC.out.mono ?_
 rintro e w1 ⟨rfl, _, hm⟩
 have HM := Aside0.mk (hm.toB (Nat.le_refl _))
 clear hm
 go_wp2
 go_ret
 exact ⟨rfl, HM.out⟩

theorem lnR_walk (c : SC) (h : (walkV c).1 = true) : (walkV c).2.2 = lnR c := by
 have := walk_lines (cells c) (0, []) h
 unfold walkV lnR
 rw [this]
 simp

def linesAns (c : SC) : List SR := if tilesB c = true then lnR c else []
end Go.Proofs.YtkobpbbegalfpaaGreatDoor
