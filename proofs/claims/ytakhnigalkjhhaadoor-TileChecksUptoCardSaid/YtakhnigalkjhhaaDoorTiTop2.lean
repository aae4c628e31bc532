/-
  tile.Tiles and tile.Lines.
-/
import Derived.Test.YtakhnigalkjhhaaDoorTiTop
namespace Go.Proofs.YtakhnigalkjhhaaDoor
open Go.RowKit Go.Proofs.YtakhnigalkjhhaaDoorW.PrintWords Go.Proofs.YtakhnigalkjhhaaDoorW.PrintLast Go.Proofs.YtakhnigalkjhhaaDoorW.PrintMore Go.Proofs.YtakhnigalkjhhaaDoor.PTileChecks
set_option linter.unusedVariables false
set_option linter.unusedSimpArgs false
set_option maxRecDepth 100000

theorem enters36 : ∀ args w, (callFunc 36 args).run Tryd.prog w = .ok (.enter 36 args) w := enters_of Tryd.func36 (by kernel_rfl) rfl

theorem tiles1_calls (c : SC) (w : World) (A : Option Addr) (cap : Nat) (hl : (cells c).length ≤ 10000) (hcap : c.f3.length ≤ cap) (hr : (k26).C w A c.f3.length c.f3) :
    Calls Tryd.prog 36 #[.agg #[.int .u8 c.f0, .int .i64 c.f1.f0, .int .i64 c.f1.f1, .int .i64 c.f1.f2, .int .i64 c.f1.f3, .int .i64 c.f2, .slice A c.f3.length cap]] w fun e w' => e = .returned (.bool (!tilesB c)) ∧ Below w.heap.size w w' := by
  have hb : Below w.heap.size w (w.alloc (.cells #[.int .u8 c.f0, .int .i64 c.f1.f0, .int .i64 c.f1.f1, .int .i64 c.f1.f2, .int .i64 c.f1.f3, .int .i64 c.f2, .slice A c.f3.length cap] 26)) := below_alloc (Below.refl _ _) _
  have HC := Aside0.mk (check_calls c (w.alloc (.cells #[.int .u8 c.f0, .int .i64 c.f1.f0, .int .i64 c.f1.f1, .int .i64 c.f1.f2, .int .i64 c.f1.f3, .int .i64 c.f2, .slice A c.f3.length cap] 26)) A cap hl hcap (Kd.C_below hr hb))
  have HB := Aside0.mk hb
  rw [tilesB_no]
  clear hb hr hl
  go_enter Tryd.func36, Tryd.ntmps36
  go_wp2_with fail
  refine HC.out.mono ?_
  rintro e w1 ⟨hb1, v, rfl, h0, h1⟩
  have HB1 := Aside0.mk (HB.out.trans (hb1.mono HB.out.size))
  by_cases h : chkNo c = 0
  · obtain rfl := h0 h
    have HD : Aside0 (decide (chkNo c = 0) = true) := ⟨decide_eq_true h⟩
    clear hb1 h0 h1 h HC
    go_wp2
    go_ret
    exact ⟨by rw [HD.out]; rfl, HB1.out⟩
  · obtain ⟨g, f, rfl, _⟩ := h1 h
    have HD : Aside0 (decide (chkNo c = 0) = false) := ⟨decide_eq_false h⟩
    clear hb1 h0 h1 h HC
    go_wp2
    go_ret
    exact ⟨by rw [HD.out]; rfl, HB1.out⟩

/-- tile.Tiles of several trees. -/
theorem tiles_calls (l : List SC) (w : World) (A : Option Addr) (n cap : Nat) (hl : ∀ c ∈ l, (cells c).length ≤ 10000) (hr : (k26).C w A n l) :
    Calls Tryd.prog 15 #[.slice A n cap] w fun e w' => e = .returned (.bool (l.all tilesB)) ∧ Below w.heap.size w w' := by
  have hpred : PredF w.heap.size w.heap.size 0 36 #[] NoInv (fun _ => 0) (fun (_ : Unit) x => (!tilesB x, ())) l := fun x hx W st u A' cap' _ _ h3 h4 h5 => by
    refine (tiles1_calls x W A' cap' (hl x hx) h4 h5.now).mono ?_
    rintro e w' ⟨h1, h2⟩
    exact ⟨h1, trivial, Mid.ofBelow h2⟩
  have HC := cfn_calls w.heap.size w.heap.size 0 36 #[] enters36 NoInv NoInv.stable (fun _ => 0) (fun (_ : Unit) x => (!tilesB x, ())) A n cap l w () 0 (Nat.le_refl _) (Nat.le_refl _) hpred (Tr.of hr) trivial (by rw [wts_zero]; exact Nat.le_refl _)
  rw [anyL_unit (fun x => !tilesB x)] at HC
  have e : (!l.any (fun x => !tilesB x)) = l.all tilesB := not_any_not _ _
  rw [← e]
  have HCC := Aside0.mk HC
  generalize l.any (fun x => !tilesB x) = b at *
  clear hpred hr hl HC e
  go_enter Tryd.func15, Tryd.ntmps15
  go_wp2_with fail
  refine HCC.out.mono ?_
  rintro e w1 ⟨rfl, _, hm⟩
  have HM := Aside0.mk (hm.toB (Nat.le_refl _))
  clear hm
  go_wp2
  go_ret
  exact ⟨rfl, HM.out⟩

theorem lnR_walk (c : SC) (h : (walkV c).1 = true) : (walkV c).2.2 = lnR c := by
  have := walk_lines (cells c) (0, []) h
  unfold walkV lnR
  rw [this]
  simp

def linesAns (c : SC) : List SR := if tilesB c = true then lnR c else []
set_option maxHeartbeats 4000000 in
theorem tlines_calls (c : SC) (w : World) (A : Option Addr) (cap : Nat) (hl : (cells c).length ≤ 10000) (hcap : c.f3.length ≤ cap) (hr : (k26).C w A c.f3.length c.f3) :
    Calls Tryd.prog 14 #[.agg #[.int .u8 c.f0, .int .i64 c.f1.f0, .int .i64 c.f1.f1, .int .i64 c.f1.f2, .int .i64 c.f1.f3, .int .i64 c.f2, .slice A c.f3.length cap]] w
      fun e w' => Below w.heap.size w w' ∧ ∃ A1 n1 c1, e = .returned (.slice A1 n1 c1) ∧ (k23).R 23 w' w.heap.size (fun _ => True) (.slice A1 n1 c1) (linesAns c) := by
  obtain ⟨w1, hw1⟩ : ∃ w1, w1 = w.alloc (.cells #[.int .u8 c.f0, .int .i64 c.f1.f0, .int .i64 c.f1.f1, .int .i64 c.f1.f2, .int .i64 c.f1.f3, .int .i64 c.f2, .slice A c.f3.length cap] 26) := ⟨_, rfl⟩
  obtain ⟨w2, hw2⟩ : ∃ w2, w2 = w1.alloc (.cells #[.int .i64 0, .slice none 0 0] 54) := ⟨_, rfl⟩
  obtain ⟨w3, hw3⟩ : ∃ w3, w3 = w2.alloc (.cells #[.int .u8 c.f0, .int .i64 c.f1.f0, .int .i64 c.f1.f1, .int .i64 c.f1.f2, .int .i64 c.f1.f3, .int .i64 c.f2, .slice A c.f3.length cap] 26) := ⟨_, rfl⟩
  have s1 : w1.heap.size = w.heap.size + 1 := by rw [hw1]; simp
  have s2 : w2.heap.size = w.heap.size + 2 := by rw [hw2]; simp [s1]
  have s3 : w3.heap.size = w.heap.size + 3 := by rw [hw3]; simp [s2]
  have hb1 : Below w.heap.size w w1 := by rw [hw1]; exact below_alloc (Below.refl _ _) _
  have hb2 : Below w.heap.size w w2 := by rw [hw2]; exact below_alloc hb1 _
  have hb3 : Below w.heap.size w w3 := by rw [hw3]; exact below_alloc hb2 _
  have hb13 : Below w1.heap.size w1 w3 := by rw [hw3, hw2]; exact below_alloc (below_alloc (Below.refl _ _) _) _
  have hb23 : Below w2.heap.size w2 w3 := by rw [hw3]; exact below_alloc (Below.refl _ _) _
  have hbox : w3.heap[w.heap.size]? = some (.cells #[.int .u8 c.f0, .int .i64 c.f1.f0, .int .i64 c.f1.f1, .int .i64 c.f1.f2, .int .i64 c.f1.f3, .int .i64 c.f2, .slice A c.f3.length cap] 26 (0, 0)) := by
    have h : w1.heap[w.heap.size]? = some (.cells #[.int .u8 c.f0, .int .i64 c.f1.f0, .int .i64 c.f1.f1, .int .i64 c.f1.f2, .int .i64 c.f1.f3, .int .i64 c.f2, .slice A c.f3.length cap] 26 (0, 0)) := by rw [hw1]; exact heap_alloc_new w _
    exact (hb13.block _ (by omega)).trans h
  have hwk : w3.heap[w.heap.size + 1]? = some (.cells #[.int .i64 0, .slice none 0 0] 54 (0, 0)) := by
    have h : w2.heap[w1.heap.size]? = some (.cells #[.int .i64 0, .slice none 0 0] 54 (0, 0)) := by rw [hw2]; exact heap_alloc_new w1 _
    rw [s1] at h
    exact (hb23.block _ (by omega)).trans h
  have hrow : (k26).C w3 (some ⟨w.heap.size + 2, 0, none⟩) 1 [c] := by
    have h := one_row w2 c A cap hcap (Kd.C_below hr hb2)
    rw [← hw3, s2] at h
    exact h
  have HM := cmay_calls w3.heap.size [c] w3 _ 1 1 (Nat.le_refl _) (fun x hx => by obtain rfl : x = c := by simpa using hx
                                                                                  exact hl) (Tr.of hrow)
  rw [show [c].all mayB = mayB c by simp] at HM
  have hT3 : Tr w.heap.size w3 A c.f3.length c.f3 := (Tr.of hr).below hb3
  have HW : Aside0 (w3 = ((w.alloc (.cells #[.int .u8 c.f0, .int .i64 c.f1.f0, .int .i64 c.f1.f1, .int .i64 c.f1.f2, .int .i64 c.f1.f3, .int .i64 c.f2, .slice A c.f3.length cap] 26)).alloc (.cells #[.int .i64 0, .slice none 0 0] 54)).alloc (.cells #[.int .u8 c.f0, .int .i64 c.f1.f0, .int .i64 c.f1.f1, .int .i64 c.f1.f2, .int .i64 c.f1.f3, .int .i64 c.f2, .slice A c.f3.length cap] 26)) := ⟨by rw [hw3, hw2, hw1]⟩
  rw [HW.out] at HM
  have HM := Aside0.mk HM
  have HB := Aside0.mk hb3
  have HBOX := Aside0.mk hbox
  have HWK := Aside0.mk hwk
  have HT := Aside0.mk hT3
  have HS := Aside0.mk s3
  have HL := Aside0.mk hl
  have HAN : Aside0 (linesAns c = if mayB c = true then (if (walkV c).1 = true then (walkV c).2.2 else []) else []) := ⟨by
    unfold linesAns tilesB
    cases hm : mayB c with
    | false => simp
    | true =>
      cases hw : (walkV c).1 with
      | false => simp
      | true => simp [lnR_walk c hw]⟩
  clear hT3 hrow hwk hbox hb23 hb13 hb3 hb2 hb1 s1 s2 s3 hw3 hw2 hw1 hr hl
  cases hmay : mayB c with
  | false =>
    rw [hmay] at HM
    have e := HAN.out
    rw [hmay] at e
    have HNA := Aside0.mk e
    clear hmay e HAN
    go_enter Tryd.func14, Tryd.ntmps14
    go_wp2_with fail
    refine HM.out.mono ?_
    rintro e w4 ⟨rfl, hb4⟩
    rw [← HW.out] at hb4
    have HB4 := Aside0.mk (HB.out.trans (hb4.mono HB.out.size))
    clear hb4 HM
    go_wp2
    go_ret
    exact ⟨HB4.out, _, _, _, rfl, by rw [HNA.out]; exact Kd.R_nil _ _ _ _ _⟩
  | true =>
    rw [hmay] at HM
    have e := HAN.out
    rw [hmay] at e
    have HNA := Aside0.mk e
    have HND := Aside0.mk (nodes_of HL.out hmay)
    clear hmay e HAN
    go_enter Tryd.func14, Tryd.ntmps14
    go_wp2_with fail
    refine HM.out.mono ?_
    rintro e w4 ⟨rfl, hb4⟩
    rw [← HW.out] at hb4
    have hsz4 := hb4.size
    rw [HS.out] at hsz4
    have bx := (hb4.block w.heap.size (by rw [HS.out]; omega)).trans HBOX.out
    have bw := (hb4.block (w.heap.size + 1) (by rw [HS.out]; omega)).trans HWK.out
    have hT4 := HT.out.below (hb4.mono HB.out.size)
    have hinv : WalkInv w.heap.size w4.heap.size (w.heap.size + 1) w4 (0, []) 0 := ⟨⟨Nat.le_refl _, by simp, by omega, by omega⟩, _, bw, Kd.R_nil _ _ _ _ _⟩
    have HWC := Aside0.mk (walk_calls w.heap.size w4.heap.size 10000 (w.heap.size + 1) (by omega) (Nat.le_refl _) c HND.out w4 (0, []) 0 A cap hinv (by have := HL.out; omega) (Nat.le_refl _) hcap hT4)
    have d0 : w4.cell? ⟨w.heap.size, 0, none⟩ = some (.int .u8 c.f0) := by rw [blk_cell bx]; rfl
    have d1 : w4.cell? ⟨w.heap.size, 1, none⟩ = some (.int .i64 c.f1.f0) := by rw [blk_cell bx]; rfl
    have d2 : w4.cell? ⟨w.heap.size, 2, none⟩ = some (.int .i64 c.f1.f1) := by rw [blk_cell bx]; rfl
    have d3 : w4.cell? ⟨w.heap.size, 3, none⟩ = some (.int .i64 c.f1.f2) := by rw [blk_cell bx]; rfl
    have d4 : w4.cell? ⟨w.heap.size, 4, none⟩ = some (.int .i64 c.f1.f3) := by rw [blk_cell bx]; rfl
    have d5 : w4.cell? ⟨w.heap.size, 5, none⟩ = some (.int .i64 c.f2) := by rw [blk_cell bx]; rfl
    have d6 : w4.cell? ⟨w.heap.size, 6, none⟩ = some (.slice A c.f3.length cap) := by rw [blk_cell bx]; rfl
    have HB4 := Aside0.mk (HB.out.trans (hb4.mono HB.out.size))
    have hv : (walkV c) = visitL walkStep (0, []) (cells c) := rfl
    rw [← hv] at HWC
    generalize walkV c = r at *
    obtain ⟨q, num, ls⟩ := r
    simp only at HWC
    clear hb4 HM bx bw hT4 hinv hv
    cases q with
    | false =>
      go_wp2_with fail
      refine HWC.out.mono ?_
      rintro e w5 ⟨rfl, _, hm5⟩
      have HB5 := Aside0.mk (HB4.out.trans (hm5.toB (by omega)))
      clear hm5 HWC
      go_wp2
      go_ret
      exact ⟨HB5.out, _, _, _, rfl, by rw [HNA.out]; exact Kd.R_nil _ _ _ _ _⟩
    | true =>
      go_wp2_with fail
      refine HWC.out.mono ?_
      rintro e w5 ⟨rfl, hi5, hm5⟩
      have HB5 := Aside0.mk (HB4.out.trans (hm5.toB (by omega)))
      obtain ⟨_, vL, bg, hR⟩ := hi5
      obtain ⟨A1, n1, c1, rfl⟩ := sl_of_R hR
      have cg : w5.cell? ⟨w.heap.size + 1, 1, none⟩ = some (.slice A1 n1 c1) := by rw [blk_cell bg]; rfl
      have HR := Aside0.mk hR
      clear hm5 HWC bg d0 d1 d2 d3 d4 d5 d6 hR
      go_wp2
      go_ret
      exact ⟨HB5.out, _, _, _, rfl, by rw [HNA.out]; exact HR.out⟩
end Go.Proofs.YtakhnigalkjhhaaDoor
