/-
  tile.Hit; the example of the statements on trees.
-/
import Derived.Test.YtakhnigalkjhhaaDoorTiRef2
import Derived.Outline
namespace Go.Proofs.YtakhnigalkjhhaaDoor
open Go.RowKit Go.Proofs.YtakhnigalkjhhaaDoorW.PrintWords Go.Proofs.YtakhnigalkjhhaaDoorW.PrintLast Go.Proofs.YtakhnigalkjhhaaDoorW.PrintMore Go.Proofs.YtakhnigalkjhhaaDoor.PTileChecks
set_option linter.unusedVariables false
set_option linter.unusedSimpArgs false
set_option maxRecDepth 100000

/-- Block b is the box of a cell. -/
def BoxAt (w : World) (b : Nat) (c : SC) (A : Option Addr) (cap : Nat) : Prop := w.heap[b]? = some (.cells #[.int .u8 c.f0, .int .i64 c.f1.f0, .int .i64 c.f1.f1, .int .i64 c.f1.f2, .int .i64 c.f1.f3, .int .i64 c.f2, .slice A c.f3.length cap] 26 (0, 0))
theorem BoxAt.new (w : World) (c : SC) (A : Option Addr) (cap : Nat) : BoxAt (w.alloc (.cells #[.int .u8 c.f0, .int .i64 c.f1.f0, .int .i64 c.f1.f1, .int .i64 c.f1.f2, .int .i64 c.f1.f3, .int .i64 c.f2, .slice A c.f3.length cap] 26)) w.heap.size c A cap := heap_alloc_new w _
theorem BoxAt.below {w w' : World} {b : Nat} {c : SC} {A : Option Addr} {cap : Nat} (h : BoxAt w b c A cap) (hb : Below w.heap.size w w') : BoxAt w' b c A cap := (hb.block b (blk_lt h)).trans h
theorem BoxAt.cells {w : World} {b : Nat} {c : SC} {A : Option Addr} {cap : Nat} (h : BoxAt w b c A cap) :
    w.cell? ⟨b, 0, none⟩ = some (.int .u8 c.f0) ∧ w.cell? ⟨b, 1, none⟩ = some (.int .i64 c.f1.f0) ∧ w.cell? ⟨b, 2, none⟩ = some (.int .i64 c.f1.f1) ∧ w.cell? ⟨b, 3, none⟩ = some (.int .i64 c.f1.f2) ∧ w.cell? ⟨b, 4, none⟩ = some (.int .i64 c.f1.f3) ∧ w.cell? ⟨b, 5, none⟩ = some (.int .i64 c.f2) ∧ w.cell? ⟨b, 6, none⟩ = some (.slice A c.f3.length cap) := by
  refine ⟨?_, ?_, ?_, ?_, ?_, ?_, ?_⟩ <;> (rw [blk_cell h]; rfl)

theorem hit_ans (x y : Int) (c : SC) : (if tilesB c = true then (if hasB c.f1 x y = true then hitC x y c else (0, false)) else (0, false)) = hitAns c x y := by
  unfold hitAns
  cases ht : tilesB c with
  | false => rfl
  | true =>
    have hG := tiles_good ht
    rw [if_pos rfl, if_pos rfl]
    cases hh : hasB c.f1 x y with
    | true => rw [if_pos rfl]; exact hit_eq x y c hG hh
    | false => rw [if_neg (by decide), firstHit_none x y _ (lv_not (geo c hG) hG hh)]

set_option maxHeartbeats 4000000 in
theorem thit_calls (c : SC) (x y : Int) (w : World) (A : Option Addr) (cap : Nat) (hl : (cells c).length ≤ 10000) (hcap : c.f3.length ≤ cap) (hr : (k26).C w A c.f3.length c.f3) :
    Calls Tryd.prog 26 #[.agg #[.int .u8 c.f0, .int .i64 c.f1.f0, .int .i64 c.f1.f1, .int .i64 c.f1.f2, .int .i64 c.f1.f3, .int .i64 c.f2, .slice A c.f3.length cap], .int .i64 x, .int .i64 y] w
      fun e w' => e = .returned (.tuple #[.int .i64 (hitAns c x y).1, .bool (hitAns c x y).2]) ∧ Below w.heap.size w w' := by
  obtain ⟨w1, hw1⟩ : ∃ w1, w1 = w.alloc (.cells #[.int .u8 c.f0, .int .i64 c.f1.f0, .int .i64 c.f1.f1, .int .i64 c.f1.f2, .int .i64 c.f1.f3, .int .i64 c.f2, .slice A c.f3.length cap] 26) := ⟨_, rfl⟩
  obtain ⟨w2, hw2⟩ : ∃ w2, w2 = w1.alloc (.cells #[.int .u8 c.f0, .int .i64 c.f1.f0, .int .i64 c.f1.f1, .int .i64 c.f1.f2, .int .i64 c.f1.f3, .int .i64 c.f2, .slice A c.f3.length cap] 26) := ⟨_, rfl⟩
  have s1 : w1.heap.size = w.heap.size + 1 := by rw [hw1]; simp
  have hb1 : Below w.heap.size w w1 := by rw [hw1]; exact below_alloc (Below.refl _ _) _
  have hb12 : Below w1.heap.size w1 w2 := by rw [hw2]; exact below_alloc (Below.refl _ _) _
  have hb2 : Below w.heap.size w w2 := hb1.trans (hb12.mono hb1.size)
  have hbox : BoxAt w2 w.heap.size c A cap := by
    have h := BoxAt.new w c A cap
    rw [← hw1] at h
    exact h.below hb12
  have hrow : (k26).C w2 (some ⟨w.heap.size + 1, 0, none⟩) 1 [c] := by
    have h := one_row w1 c A cap hcap (Kd.C_below hr hb1)
    rw [← hw2, s1] at h
    exact h
  have HT := tiles_calls [c] w2 _ 1 1 (fun z hz => by obtain rfl : z = c := by simpa using hz
                                                      exact hl) hrow
  rw [show [c].all tilesB = tilesB c by simp] at HT
  have hr2 := Kd.C_below hr hb2
  have HW : Aside0 (w2 = (w.alloc (.cells #[.int .u8 c.f0, .int .i64 c.f1.f0, .int .i64 c.f1.f1, .int .i64 c.f1.f2, .int .i64 c.f1.f3, .int .i64 c.f2, .slice A c.f3.length cap] 26)).alloc (.cells #[.int .u8 c.f0, .int .i64 c.f1.f0, .int .i64 c.f1.f1, .int .i64 c.f1.f2, .int .i64 c.f1.f3, .int .i64 c.f2, .slice A c.f3.length cap] 26)) := ⟨by rw [hw2, hw1]⟩
  rw [HW.out] at HT
  have HT := Aside0.mk HT
  have HB := Aside0.mk hb2
  have HX := Aside0.mk hbox
  have HR := Aside0.mk hr2
  have HH : Aside0 (∀ w, Calls Tryd.prog 45 #[.agg #[.int .i64 c.f1.f0, .int .i64 c.f1.f1, .int .i64 c.f1.f2, .int .i64 c.f1.f3], .int .i64 x, .int .i64 y] w fun e w' => e = .returned (.bool (hasB c.f1 x y)) ∧ Below w.heap.size w w') := ⟨fun w => rect_Has.calls _ _ _ _ _ _ _ w (Has_eq c.f1 x y)⟩
  have HF := Aside0.mk (hit_f x y c (by omega) (2 * (cells c).length + 1) (by omega))
  have hans := hit_ans x y c
  rw [← hans]
  clear hrow hbox hb2 hb12 hb1 s1 hw1 hw2 hr hr2 hans
  generalize hitC x y c = q at *
  obtain ⟨q1, q2⟩ := q
  cases ht : tilesB c with
  | false =>
    rw [ht] at HT
    simp only [Bool.false_eq_true, if_false]
    clear ht
    go_enter Tryd.func26, Tryd.ntmps26
    go_wp2_with fail
    refine HT.out.mono ?_
    rintro e w3 ⟨rfl, hb3⟩
    rw [← HW.out] at hb3
    have HB3 := Aside0.mk (HB.out.trans (hb3.mono HB.out.size))
    clear hb3 HT
    go_wp2
    go_ret2
    exact ⟨rfl, HB3.out⟩
  | true =>
    rw [ht] at HT
    simp only [if_true]
    clear ht
    generalize hRR : (if hasB c.f1 x y = true then (q1, q2) else ((0 : Int), false)) = R
    have HRR := Aside0.mk hRR
    clear hRR
    go_enter Tryd.func26, Tryd.ntmps26
    go_wp2_with fail
    refine HT.out.mono ?_
    rintro e w3 ⟨rfl, hb3⟩
    rw [← HW.out] at hb3
    have HB3 := Aside0.mk (HB.out.trans (hb3.mono HB.out.size))
    have HX3 := Aside0.mk (HX.out.below hb3)
    have HR3 := Aside0.mk (Kd.C_below HR.out hb3)
    obtain ⟨d0, d1, d2, d3, d4, d5, d6⟩ := HX3.out.cells
    clear hb3 HT
    cases hh : hasB c.f1 x y with
    | false =>
      rw [hh] at HH
      have e := HRR.out
      rw [hh, if_neg (by decide)] at e
      have HE := Aside0.mk e
      clear hh e HRR
      go_wp2_with fail
      refine (HH.out _).mono ?_
      rintro e w4 ⟨rfl, hb4⟩
      have HB4 := Aside0.mk (HB3.out.trans (hb4.mono HB3.out.size))
      clear hb4
      go_wp2
      go_ret2
      exact ⟨by rw [← HE.out]; rfl, HB4.out⟩
    | true =>
      rw [hh] at HH
      have e := HRR.out
      rw [hh, if_pos rfl] at e
      have HE := Aside0.mk e
      clear hh e HRR
      go_wp2_with fail
      refine (HH.out _).mono ?_
      rintro e w4 ⟨rfl, hb4⟩
      have HB4 := Aside0.mk (HB3.out.trans (hb4.mono HB3.out.size))
      obtain ⟨e0, e1, e2, e3, e4, e5, e6⟩ := (HX3.out.below hb4).cells
      have HC := Aside0.mk (tile_hit.calls _ _ _ _ _ _ _ A cap c.f3 x y q1 q2 w4 (Kd.C_below HR3.out hb4) hcap HF.out)
      clear hb4 d0 d1 d2 d3 d4 d5 d6
      go_wp2_with fail
      refine HC.out.mono ?_
      rintro e w5 ⟨rfl, hb5⟩
      have HB5 := Aside0.mk (HB4.out.trans (hb5.mono HB4.out.size))
      clear hb5
      go_wp2
      go_ret2
      exact ⟨by rw [← HE.out]; rfl, HB5.out⟩

/-! the example -/
def awA : SC := ⟨1, ⟨0, 0, 3, 2⟩, 1, []⟩
def awB : SC := ⟨1, ⟨4, 0, 3, 2⟩, 2, []⟩
def awC : SC := ⟨2, ⟨0, 0, 7, 2⟩, 0, [awA, awB]⟩
theorem aw_1 : hitAns awC 4 1 = (2, true) := by kernel_rfl
theorem aw_2 : tilesB awA = true ∧ tilesB awC = true ∧ tilesB z26 = false := ⟨by kernel_rfl, by kernel_rfl, by kernel_rfl⟩
theorem aw_3 : linesAns awA = [] := by kernel_rfl
theorem aw_4 : (cells awA).length ≤ 10000 ∧ (cells awB).length ≤ 10000 ∧ (cells awC).length ≤ 10000 ∧ (cells z26).length ≤ 10000 := by
  refine ⟨of_decide_eq_true (by kernel_rfl), of_decide_eq_true (by kernel_rfl), of_decide_eq_true (by kernel_rfl), of_decide_eq_true (by kernel_rfl)⟩

/-- A row of two cells, in the block that was just made. -/
theorem two_row (W : World) (c d : SC) (A B : Option Addr) (cap cap' : Nat) (hcap : c.f3.length ≤ cap) (hcap' : d.f3.length ≤ cap') (hr : (k26).C W A c.f3.length c.f3) (hr' : (k26).C W B d.f3.length d.f3) :
    (k26).C (W.alloc (.cells #[.int .u8 c.f0, .int .i64 c.f1.f0, .int .i64 c.f1.f1, .int .i64 c.f1.f2, .int .i64 c.f1.f3, .int .i64 c.f2, .slice A c.f3.length cap, .int .u8 d.f0, .int .i64 d.f1.f0, .int .i64 d.f1.f1, .int .i64 d.f1.f2, .int .i64 d.f1.f3, .int .i64 d.f2, .slice B d.f3.length cap'] 26)) (some ⟨W.heap.size, 0, none⟩) 2 [c, d] := by
  refine ⟨rfl, by decide, fun _ => ⟨_, rfl, fun j p hj => ?_⟩⟩
  match j, hj with
  | 0, hj =>
    obtain rfl : c = p := by simpa using hj
    refine ⟨[.int .u8 c.f0, .int .i64 c.f1.f0, .int .i64 c.f1.f1, .int .i64 c.f1.f2, .int .i64 c.f1.f3, .int .i64 c.f2, .slice A c.f3.length cap], rfl, k26_mk _ c hcap (Kd.C_alloc hr _), fun i u hu => ?_⟩
    have hi : i < 7 := by simpa using (List.getElem?_eq_some_iff.1 hu).1
    rw [Nat.zero_mul, Nat.zero_add, add_plain, cell_of_row _ _ _ _ _ _ (heap_alloc_new W _)]
    match i, hi with
    | 0, _ => exact hu
    | 1, _ => exact hu
    | 2, _ => exact hu
    | 3, _ => exact hu
    | 4, _ => exact hu
    | 5, _ => exact hu
    | 6, _ => exact hu
  | 1, hj =>
    obtain rfl : d = p := by simpa using hj
    refine ⟨[.int .u8 d.f0, .int .i64 d.f1.f0, .int .i64 d.f1.f1, .int .i64 d.f1.f2, .int .i64 d.f1.f3, .int .i64 d.f2, .slice B d.f3.length cap'], rfl, k26_mk _ d hcap' (Kd.C_alloc hr' _), fun i u hu => ?_⟩
    have hi : i < 7 := by simpa using (List.getElem?_eq_some_iff.1 hu).1
    have hsz : (k26).sz = 7 := rfl
    rw [hsz, Nat.one_mul, add_plain, cell_of_row _ _ _ _ _ _ (heap_alloc_new W _)]
    match i, hi with
    | 0, _ => exact hu
    | 1, _ => exact hu
    | 2, _ => exact hu
    | 3, _ => exact hu
    | 4, _ => exact hu
    | 5, _ => exact hu
    | 6, _ => exact hu
end Go.Proofs.YtakhnigalkjhhaaDoor
