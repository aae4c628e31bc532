/-
  print.Head: what it returns.
-/
import Derived.Test.YtakhnigalkjhhaaGreatDoorPrInj
import Derived.Deep.RegionHeld3
namespace Go.Proofs.YtakhnigalkjhhaaGreatDoor
open Go.RowKit Go.Proofs.YtakhnigalkjhhaaGreatDoorW.PrintWords Go.Proofs.YtakhnigalkjhhaaGreatDoorW.PrintLast Go.Proofs.YtakhnigalkjhhaaGreatDoorW.PrintMore Go.Proofs.YtakhnigalkjhhaaGreatDoor.PPrintFits
set_option linter.unusedVariables false
set_option linter.unusedSimpArgs false
set_option maxRecDepth 100000

theorem joinS1 (a : ByteArray) : (joinS [a]).data.toList = a.data.toList := by simp [joinS, Lib.join, Lib.joinTail]
theorem joinS3 (a b c : ByteArray) : (joinS [a, b, c]).data.toList = a.data.toList ++ [44] ++ b.data.toList ++ [44] ++ c.data.toList := by simp [joinS, Lib.join, Lib.joinTail]
theorem headS_eq (r : SR) : ((joinS [digS r.f2] ++ (⟨#[120]⟩ : ByteArray)) ++ joinS [digS r.f3, digS r.f0, digS r.f1]) = (⟨(headB r).toArray⟩ : ByteArray) := by
  have h : ((joinS [digS r.f2] ++ (⟨#[120]⟩ : ByteArray)) ++ joinS [digS r.f3, digS r.f0, digS r.f1]).data.toList = headB r := by
    simp only [ByteArray.data_append, Array.toList_append, joinS1, joinS3]
    simp [headB, digL]
  cases hq : ((joinS [digS r.f2] ++ (⟨#[120]⟩ : ByteArray)) ++ joinS [digS r.f3, digS r.f0, digS r.f1]) with
  | mk d => rw [hq] at h; simp only at h; rw [← h]

set_option maxHeartbeats 4000000 in
theorem phead_calls (r : SR) (w : World) (hT : NumT w) :
    Calls Tryz.prog 38 #[.agg #[.int .i64 r.f0, .int .i64 r.f1, .int .i64 r.f2, .int .i64 r.f3]] w fun e w' => e = .returned (.string ⟨(headB r).toArray⟩) ∧ Below w.heap.size w w' := by
  have hz1 : (joinS [digS r.f2]).size ≤ 1000 := by have := joinS_len [r.f2] [44] rfl; have e : (joinS [digS r.f2]).size = _ := rfl; simp only [joinS, List.map_cons, List.map_nil, List.length_cons, List.length_nil] at this ⊢; simpa [ByteArray.size] using (by omega : _ ≤ 1000)
  have hz3 : (joinS [digS r.f3, digS r.f0, digS r.f1]).size ≤ 1000 := by have := joinS_len [r.f3, r.f0, r.f1] [44] rfl; simp only [joinS, List.map_cons, List.map_nil, List.length_cons, List.length_nil] at this ⊢; simpa [ByteArray.size] using (by omega : _ ≤ 1000)
  rw [← headS_eq]
  obtain ⟨wB, hwB⟩ : ∃ wB, wB = w.alloc (.cells #[.int .i64 r.f0, .int .i64 r.f1, .int .i64 r.f2, .int .i64 r.f3] 28) := ⟨_, rfl⟩
  have hbB : Below w.heap.size w wB := by rw [hwB]; exact below_alloc (Below.refl _ _) _
  have hsB : wB.heap.size = w.heap.size + 1 := by rw [hwB]; simp
  have hblk : wB.heap[w.heap.size]? = some (.cells #[.int .i64 r.f0, .int .i64 r.f1, .int .i64 r.f2, .int .i64 r.f3] 28 (0, 0)) := by rw [hwB]; exact heap_alloc_new w _
  have CE : ∀ w', Below wB.heap.size wB w' → w'.cell? ⟨w.heap.size, 0, none⟩ = some (.int .i64 r.f0) ∧ w'.cell? ⟨w.heap.size, 1, none⟩ = some (.int .i64 r.f1) ∧ w'.cell? ⟨w.heap.size, 2, none⟩ = some (.int .i64 r.f2) ∧ w'.cell? ⟨w.heap.size, 3, none⟩ = some (.int .i64 r.f3) := fun w' hb => by
    have h := (hb.block _ (blk_lt hblk)).trans hblk
    exact ⟨(blk_cell h 0).trans rfl, (blk_cell h 1).trans rfl, (blk_cell h 2).trans rfl, (blk_cell h 3).trans rfl⟩
  have HD1 : ∀ W A, Below wB.heap.size wB W → (Kd.int .i64).C W A 1 [r.f2] → Calls Tryz.prog 39 #[.slice A 1 1] W fun e w' => e = .returned (.string (joinS [digS r.f2])) ∧ Below wB.heap.size wB w' ∧ Below W.heap.size W w' :=
    fun W A hb hC => (digits_all W A 1 1 [r.f2] hC (by decide) (hT.below (hbB.trans (hb.mono hbB.size)))).mono fun e w' ⟨h1, h2⟩ => ⟨h1, hb.trans (h2.mono hb.size), h2⟩
  have HD3 : Aside0 (∀ W A, Below wB.heap.size wB W → (Kd.int .i64).C W A 3 [r.f3, r.f0, r.f1] → Calls Tryz.prog 39 #[.slice A 3 3] W fun e w' => e = .returned (.string (joinS [digS r.f3, digS r.f0, digS r.f1])) ∧ Below wB.heap.size wB w') :=
    ⟨fun W A hb hC => (digits_all W A 3 3 [r.f3, r.f0, r.f1] hC (by decide) (hT.below (hbB.trans (hb.mono hbB.size)))).mono fun e w' ⟨h1, h2⟩ => ⟨h1, hb.trans (h2.mono hb.size)⟩⟩
  have H3 : Aside0 (∀ W, Below wB.heap.size wB W → Calls Tryz.prog 39 #[.slice (some ⟨W.heap.size, 0, none⟩) 3 3] (W.alloc (.cells #[.int .i64 r.f3, .int .i64 r.f0, .int .i64 r.f1] 3)) fun e w' => e = .returned (.string (joinS [digS r.f3, digS r.f0, digS r.f1])) ∧ Below wB.heap.size wB w') :=
    ⟨fun W hb => HD3.out _ _ (below_alloc hb _) (nlitI W 3 [r.f3, r.f0, r.f1] (by simp))⟩
  have bA : Below wB.heap.size wB (wB.alloc (.cells #[.int .i64 r.f2] 3)).drew := below_drew (below_alloc (Below.refl _ _) _)
  have bB : Below wB.heap.size wB ((wB.alloc (.cells #[.int .i64 r.f3, .int .i64 r.f0, .int .i64 r.f1] 3)).alloc (.cells #[.int .i64 r.f2] 3)).drew := below_drew (below_alloc (below_alloc (Below.refl _ _) _) _)
  have bC : Below wB.heap.size wB ((wB.alloc (.cells #[.int .i64 r.f2] 3)).alloc (.cells #[.int .i64 r.f3, .int .i64 r.f0, .int .i64 r.f1] 3)).drew := below_drew (below_alloc (below_alloc (Below.refl _ _) _) _)
  have HA := HD1 _ (some ⟨w.heap.size + 1, 0, none⟩) bA (Kd.C_drew (by have h := nlitI wB 3 [r.f2] (by simp); rw [hsB] at h; exact h))
  have HB := HD1 _ (some ⟨w.heap.size + 2, 0, none⟩) bB (Kd.C_drew (by have h := nlitI (wB.alloc (.cells #[.int .i64 r.f3, .int .i64 r.f0, .int .i64 r.f1] 3)) 3 [r.f2] (by simp); rw [show (wB.alloc (.cells #[.int .i64 r.f3, .int .i64 r.f0, .int .i64 r.f1] 3)).heap.size = w.heap.size + 2 by simp [hsB]] at h; exact h))
  have HC := HD1 _ (some ⟨w.heap.size + 1, 0, none⟩) bC (Kd.C_drew (Kd.C_alloc (by have h := nlitI wB 3 [r.f2] (by simp); rw [hsB] at h; exact h) _))
  have cB : (Kd.int .i64).C ((wB.alloc (.cells #[.int .i64 r.f3, .int .i64 r.f0, .int .i64 r.f1] 3)).alloc (.cells #[.int .i64 r.f2] 3)).drew (some ⟨w.heap.size + 1, 0, none⟩) 3 [r.f3, r.f0, r.f1] := Kd.C_drew (Kd.C_alloc (by have h := nlitI wB 3 [r.f3, r.f0, r.f1] (by simp); rw [hsB] at h; exact h) _)
  have cC : (Kd.int .i64).C ((wB.alloc (.cells #[.int .i64 r.f2] 3)).alloc (.cells #[.int .i64 r.f3, .int .i64 r.f0, .int .i64 r.f1] 3)).drew (some ⟨w.heap.size + 2, 0, none⟩) 3 [r.f3, r.f0, r.f1] := Kd.C_drew (by have h := nlitI (wB.alloc (.cells #[.int .i64 r.f2] 3)) 3 [r.f3, r.f0, r.f1] (by simp); rw [show (wB.alloc (.cells #[.int .i64 r.f2] 3)).heap.size = w.heap.size + 2 by simp [hsB]] at h; exact h)
  have KA := Aside0.mk (HA.mono fun e w' (h : e = .returned (.string (joinS [digS r.f2])) ∧ _ ∧ _) => (⟨h.1, h.2.1, CE _ h.2.1⟩ : e = .returned (.string (joinS [digS r.f2])) ∧ Below wB.heap.size wB w' ∧ _ ∧ _ ∧ _ ∧ _))
  have KB := Aside0.mk (HB.mono fun e w' (h : e = .returned (.string (joinS [digS r.f2])) ∧ _ ∧ _) => (⟨h.1, h.2.1, CE _ h.2.1, HD3.out _ _ h.2.1 (Kd.C_below cB h.2.2)⟩ : e = .returned (.string (joinS [digS r.f2])) ∧ Below wB.heap.size wB w' ∧ (_ ∧ _ ∧ _ ∧ _) ∧ _))
  have KC := Aside0.mk (HC.mono fun e w' (h : e = .returned (.string (joinS [digS r.f2])) ∧ _ ∧ _) => (⟨h.1, h.2.1, CE _ h.2.1, HD3.out _ _ h.2.1 (Kd.C_below cC h.2.2)⟩ : e = .returned (.string (joinS [digS r.f2])) ∧ Below wB.heap.size wB w' ∧ (_ ∧ _ ∧ _ ∧ _) ∧ _))
  obtain ⟨x0, x1, x2, x3⟩ := CE wB.drew (below_drew (Below.refl _ _))
  have CEE := Aside0.mk CE
  have HBB := Aside0.mk hbB
  have HWB := Aside0.mk hwB
  clear HA HB HC cB cC HD1 HD3 hT CE hblk hbB hwB
  generalize joinS [digS r.f2] = s1 at *
  generalize joinS [digS r.f3, digS r.f0, digS r.f1] = s3 at *
  have z1 : s1.size + 1 ≤ 9223372036854775807 := by omega
  have z2 : (s1 ++ (⟨#[120]⟩ : ByteArray)).size + s3.size ≤ 9223372036854775807 := by rw [ByteArray.size_append]; have : (⟨#[120]⟩ : ByteArray).size = 1 := rfl; omega
  have z1b : (9223372036854775807 < s1.size + 1) = False := eq_false (by omega)
  have z2s : s1.size + 1 + s3.size ≤ 9223372036854775807 := by omega
  have z2b : (9223372036854775807 < s1.size + 1 + s3.size) = False := eq_false (by omega)
  have z2c : (9223372036854775807 < (s1 ++ (⟨#[120]⟩ : ByteArray)).size + s3.size) = False := eq_false (by omega)
  go_enter Tryz.func38, Tryz.ntmps38
  go_upto_region 1 with fail
  rw [← HWB.out]
  go_region_held3 (fun w' => w'.cell? ⟨w.heap.size, 0, none⟩ = some (.int .i64 r.f0) ∧ w'.cell? ⟨w.heap.size, 1, none⟩ = some (.int .i64 r.f1) ∧ w'.cell? ⟨w.heap.size, 2, none⟩ = some (.int .i64 r.f2) ∧ w'.cell? ⟨w.heap.size, 3, none⟩ = some (.int .i64 r.f3)) (first | exact ⟨x0, x1, x2, x3⟩ | exact CEE.out _ (by assumption) | exact CEE.out _ (below_alloc (by assumption) _) | exact CEE.out _ (below_drew (below_alloc (Below.refl _ _) _))) (first
    | (go_at_call 39; with_reducible refine KA.out.mono ?_; rintro e w3 ⟨rfl, hb3, y0, y1, y2, y3⟩)
    | (go_at_call 39; with_reducible refine KB.out.mono ?_; rintro e w3 ⟨rfl, hb3, ⟨y0, y1, y2, y3⟩, K15⟩)
    | (go_at_call 39; with_reducible refine KC.out.mono ?_; rintro e w3 ⟨rfl, hb3, ⟨y0, y1, y2, y3⟩, K15⟩)
    | (go_at_call 39; with_reducible refine K15.mono ?_; rintro e w4 ⟨rfl, hb4⟩)
    | (go_at_call 39; with_reducible refine (H3.out _ hb3).mono ?_; rintro e w4 ⟨rfl, hb4⟩))
  all_goals (go_wp2; go_ret; exact ⟨rfl, HBB.out.trans (hb4.mono HBB.out.size)⟩)
end Go.Proofs.YtakhnigalkjhhaaGreatDoor
