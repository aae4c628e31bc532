/-
  The example of the statements on trees: it is answered with yes.
-/
import Derived.Test.YtakhnigalkjhhaaDoorTiHit
namespace Go.Proofs.YtakhnigalkjhhaaDoor
open Go.RowKit Go.Proofs.YtakhnigalkjhhaaDoorW.PrintWords Go.Proofs.YtakhnigalkjhhaaDoorW.PrintLast Go.Proofs.YtakhnigalkjhhaaDoorW.PrintMore Go.Proofs.YtakhnigalkjhhaaDoor.PTileChecks
set_option linter.unusedVariables false
set_option linter.unusedSimpArgs false
set_option maxRecDepth 100000

set_option maxHeartbeats 4000000 in
theorem awake_calls (w : World) : Calls Tryd.prog 8 #[] w fun e w' => e = .returned (.bool true) ∧ Below w.heap.size w w' := by
  obtain ⟨w1, hw1⟩ : ∃ w1, w1 = w.alloc (.cells #[.int .u8 1, .int .i64 0, .int .i64 0, .int .i64 3, .int .i64 2, .int .i64 1, .slice none 0 0] 26) := ⟨_, rfl⟩
  obtain ⟨w2, hw2⟩ : ∃ w2, w2 = w1.alloc (.cells #[.int .u8 1, .int .i64 4, .int .i64 0, .int .i64 3, .int .i64 2, .int .i64 2, .slice none 0 0] 26) := ⟨_, rfl⟩
  obtain ⟨w3, hw3⟩ : ∃ w3, w3 = w2.alloc (.cells #[.int .u8 1, .int .i64 0, .int .i64 0, .int .i64 3, .int .i64 2, .int .i64 1, .slice none 0 0, .int .u8 1, .int .i64 4, .int .i64 0, .int .i64 3, .int .i64 2, .int .i64 2, .slice none 0 0] 26) := ⟨_, rfl⟩
  obtain ⟨w4, hw4⟩ : ∃ w4, w4 = w3.alloc (.cells #[.int .u8 2, .int .i64 0, .int .i64 0, .int .i64 7, .int .i64 2, .int .i64 0, .slice (some ⟨w.heap.size + 2, 0, none⟩) 2 2] 26) := ⟨_, rfl⟩
  have s1 : w1.heap.size = w.heap.size + 1 := by rw [hw1]; simp
  have s2 : w2.heap.size = w.heap.size + 2 := by rw [hw2]; simp [s1]
  have s3 : w3.heap.size = w.heap.size + 3 := by rw [hw3]; simp [s2]
  have hb1 : Below w.heap.size w w1 := by rw [hw1]; exact below_alloc (Below.refl _ _) _
  have hb12 : Below w1.heap.size w1 w2 := by rw [hw2]; exact below_alloc (Below.refl _ _) _
  have hb23 : Below w2.heap.size w2 w3 := by rw [hw3]; exact below_alloc (Below.refl _ _) _
  have hb34 : Below w3.heap.size w3 w4 := by rw [hw4]; exact below_alloc (Below.refl _ _) _
  have hb24 := hb23.trans (hb34.mono hb23.size)
  have hb14 := hb12.trans (hb24.mono hb12.size)
  have hb4 := hb1.trans (hb14.mono hb1.size)
  have xA : BoxAt w4 w.heap.size awA none 0 := by
    have h : BoxAt w1 w.heap.size awA none 0 := by rw [hw1]; exact BoxAt.new w awA none 0
    exact h.below hb14
  have xB : BoxAt w4 (w.heap.size + 1) awB none 0 := by
    have h : BoxAt w2 w1.heap.size awB none 0 := by rw [hw2]; exact BoxAt.new w1 awB none 0
    rw [s1] at h
    exact h.below hb24
  have hrow : (k26).C w4 (some ⟨w.heap.size + 2, 0, none⟩) 2 [awA, awB] := by
    have h := two_row w2 awA awB none none 0 0 (Nat.le_refl _) (Nat.le_refl _) (Kd.C_nil _ _) (Kd.C_nil _ _)
    rw [s2] at h
    have h' : (k26).C w3 (some ⟨w.heap.size + 2, 0, none⟩) 2 [awA, awB] := by rw [hw3]; exact h
    exact Kd.C_below h' hb34
  have xC : BoxAt w4 (w.heap.size + 3) awC (some ⟨w.heap.size + 2, 0, none⟩) 2 := by
    have h : BoxAt w4 w3.heap.size awC (some ⟨w.heap.size + 2, 0, none⟩) 2 := by rw [hw4]; exact BoxAt.new w3 awC _ 2
    rw [s3] at h
    exact h
  have HH := thit_calls awC 4 1 w4 (some ⟨w.heap.size + 2, 0, none⟩) 2 aw_4.2.2.1 (Nat.le_refl _) hrow
  rw [aw_1] at HH
  have HW : Aside0 (w4 = (((w.alloc (.cells #[.int .u8 1, .int .i64 0, .int .i64 0, .int .i64 3, .int .i64 2, .int .i64 1, .slice none 0 0] 26)).alloc (.cells #[.int .u8 1, .int .i64 4, .int .i64 0, .int .i64 3, .int .i64 2, .int .i64 2, .slice none 0 0] 26)).alloc (.cells #[.int .u8 1, .int .i64 0, .int .i64 0, .int .i64 3, .int .i64 2, .int .i64 1, .slice none 0 0, .int .u8 1, .int .i64 4, .int .i64 0, .int .i64 3, .int .i64 2, .int .i64 2, .slice none 0 0] 26)).alloc (.cells #[.int .u8 2, .int .i64 0, .int .i64 0, .int .i64 7, .int .i64 2, .int .i64 0, .slice (some ⟨w.heap.size + 2, 0, none⟩) 2 2] 26)) := ⟨by rw [hw4, hw3, hw2, hw1]⟩
  rw [HW.out] at HH
  have HH := Aside0.mk HH
  have HB := Aside0.mk hb4
  have XA := Aside0.mk xA
  have XB := Aside0.mk xB
  have XC := Aside0.mk xC
  have HR := Aside0.mk hrow
  clear xA xB xC hrow hb4 hb14 hb24 hb34 hb23 hb12 hb1 s1 s2 s3 hw1 hw2 hw3 hw4
  go_enter Tryd.func8, Tryd.ntmps8
  go_wp2_with fail
  refine HH.out.mono ?_
  rintro e w5 ⟨rfl, hb5⟩
  rw [← HW.out] at hb5
  have HB5 := Aside0.mk (HB.out.trans (hb5.mono HB.out.size))
  have XA5 := Aside0.mk (XA.out.below hb5)
  have XB5 := Aside0.mk (XB.out.below hb5)
  have XC5 := Aside0.mk (XC.out.below hb5)
  have HR5 := Aside0.mk (Kd.C_below HR.out hb5)
  obtain ⟨a0, a1, a2, a3, a4, a5, a6⟩ := XA5.out.cells
  obtain ⟨c0, c1, c2, c3, c4, c5, c6⟩ := XC5.out.cells
  simp only [awA, awC, List.length_nil, List.length_cons] at a0 a1 a2 a3 a4 a5 a6 c0 c1 c2 c3 c4 c5 c6
  have HT := tiles_calls [awA, awC] (w5.alloc (.cells #[.int .u8 1, .int .i64 0, .int .i64 0, .int .i64 3, .int .i64 2, .int .i64 1, .slice none 0 0, .int .u8 2, .int .i64 0, .int .i64 0, .int .i64 7, .int .i64 2, .int .i64 0, .slice (some ⟨w.heap.size + 2, 0, none⟩) 2 2] 26)) (some ⟨w5.heap.size, 0, none⟩) 2 2
    (fun z hz => by
      rcases List.mem_cons.1 hz with rfl | hz
      · exact aw_4.1
      · obtain rfl : z = awC := by simpa using hz
        exact aw_4.2.2.1) (two_row w5 awA awC none (some ⟨w.heap.size + 2, 0, none⟩) 0 2 (Nat.le_refl _) (Nat.le_refl _) (Kd.C_nil _ _) HR5.out)
  rw [show [awA, awC].all tilesB = true by simp [aw_2.1, aw_2.2.1]] at HT
  have HT := Aside0.mk HT
  clear hb5 HH
  go_wp2_with fail
  refine HT.out.mono ?_
  rintro e w6 ⟨rfl, hb6⟩
  have hb56 : Below w5.heap.size w5 w6 := (below_alloc (Below.refl _ _) _).trans (hb6.mono (by simp))
  have HB6 := Aside0.mk (HB5.out.trans (hb56.mono HB5.out.size))
  have XA6 := Aside0.mk (XA5.out.below hb56)
  have XB6 := Aside0.mk (XB5.out.below hb56)
  obtain ⟨b0, b1, b2, b3, b4, b5, b6⟩ := XB6.out.cells
  simp only [awB, List.length_nil] at b0 b1 b2 b3 b4 b5 b6
  have HT2 := tiles_calls [awB, z26] (w6.alloc (.cells #[.int .u8 1, .int .i64 4, .int .i64 0, .int .i64 3, .int .i64 2, .int .i64 2, .slice none 0 0, .int .u8 0, .int .i64 0, .int .i64 0, .int .i64 0, .int .i64 0, .int .i64 0, .slice none 0 0] 26)) (some ⟨w6.heap.size, 0, none⟩) 2 2
    (fun z hz => by
      rcases List.mem_cons.1 hz with rfl | hz
      · exact aw_4.2.1
      · obtain rfl : z = z26 := by simpa using hz
        exact aw_4.2.2.2) (two_row w6 awB z26 none none 0 0 (Nat.le_refl _) (Nat.le_refl _) (Kd.C_nil _ _) (Kd.C_nil _ _))
  rw [show [awB, z26].all tilesB = false by simp [aw_2.2.2]] at HT2
  have HT2 := Aside0.mk HT2
  clear hb6 hb56 HT a0 a1 a2 a3 a4 a5 a6 c0 c1 c2 c3 c4 c5 c6
  go_wp2_with fail
  refine HT2.out.mono ?_
  rintro e w7 ⟨rfl, hb7⟩
  have hb67 : Below w6.heap.size w6 w7 := (below_alloc (Below.refl _ _) _).trans (hb7.mono (by simp))
  have HB7 := Aside0.mk (HB6.out.trans (hb67.mono HB6.out.size))
  have XA7 := Aside0.mk (XA6.out.below hb67)
  obtain ⟨a0, a1, a2, a3, a4, a5, a6⟩ := XA7.out.cells
  simp only [awA, List.length_nil] at a0 a1 a2 a3 a4 a5 a6
  have HL := tlines_calls awA w7 none 0 aw_4.1 (Nat.le_refl _) (Kd.C_nil _ _)
  rw [aw_3] at HL
  have HL := Aside0.mk HL
  clear hb7 hb67 HT2 b0 b1 b2 b3 b4 b5 b6
  go_wp2_with fail
  refine HL.out.mono ?_
  rintro e w8 ⟨hb8, A1, n1, c1, rfl, hR⟩
  obtain ⟨hn, _, _⟩ := Kd.R_reads' hR
  obtain rfl : n1 = 0 := hn
  have HB8 := Aside0.mk (HB7.out.trans (hb8.mono HB7.out.size))
  clear hb8 hR HL
  go_wp2
  go_ret
  exact ⟨rfl, HB8.out⟩

/-- Whether a tree is too great. -/
theorem great_f (c : SC) (hl : (cells c).length ≤ 2000000) (k : Nat) (hk : 2 * (cells c).length < k) : sashref05_Great.f k c.f0 c.f1.f0 c.f1.f1 c.f1.f2 c.f1.f3 c.f2 c.f3 = some (decide (200 < (cells c).length)) := by
  obtain ⟨n, hn, h1, h2, h3⟩ := count_f c hl k hk
  unfold sashref05_Great.f
  rw [hn]
  simp only [Option.bind_some]
  congr 1
  rw [decide_eq_decide]
  constructor
  · intro h; omega
  · intro h
    by_cases hq : n ≤ 200
    · have := h3 hq; omega
    · omega
end Go.Proofs.YtakhnigalkjhhaaDoor
