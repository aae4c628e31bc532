/-
  The document's example of the words: it is answered with yes.
-/
import Derived.Test.YtelmmcjlhjahcaaDoorWoCut
import Derived.Test.YtelmmcjlhjahcaaDoorWoSame
namespace Go.Proofs.YtelmmcjlhjahcaaDoor
open Go.RowKit Go.Proofs.YtelmmcjlhjahcaaDoorW.PrintWords Go.Proofs.YtelmmcjlhjahcaaDoorW.PrintLast Go.Proofs.YtelmmcjlhjahcaaDoorW.PrintMore Go.Proofs.YtelmmcjlhjahcaaDoor.PWordsOptions
set_option linter.unusedVariables false
set_option maxRecDepth 100000
set_option linter.unusedSimpArgs false

/-- A literal of slices of strings, in the block that was just made. -/
theorem litSS (W : World) (e : Nat) (vs : List Value) (xss : List (List ByteArray)) (hm : xss.length ≤ 100000) (h : ∀ (j : Nat) p, xss[j]? = some p → ∃ A c, vs[j]? = some (.slice A p.length c) ∧ p.length ≤ c ∧ Kd.string.C W A p.length p) :
    (Kd.slice 9 Kd.string).C (W.alloc (.cells vs.toArray e)) (some ⟨W.heap.size, 0, none⟩) xss.length xss := by
  refine ⟨rfl, by omega, fun _ => ⟨_, rfl, fun j p hj => ?_⟩⟩
  obtain ⟨A, c, hv, hc, hr⟩ := h j p hj
  refine ⟨[.slice A p.length c], rfl, ⟨A, c, rfl, hc, Kd.C_alloc hr _⟩, fun i u hu => ?_⟩
  have hi : i = 0 := by
    have := (List.getElem?_eq_some_iff.1 hu).1
    simpa using this
  subst hi
  have hu' : Value.slice A p.length c = u := by simpa using hu
  subst hu'
  have e1 : (Kd.slice 9 Kd.string).sz = 1 := rfl
  rw [e1, Nat.mul_one, Nat.add_zero, add_plain, cell_of_row _ _ _ _ _ _ (heap_alloc_new W _)]
  simpa using hv

def awakeLine : ByteArray := ⟨#[115, 112, 108, 105, 116, 45, 119, 105, 110, 100, 111, 119, 32, 45, 104, 32, 45, 108, 32, 49, 48, 32, 34, 97, 32, 98, 34, 59, 32, 107, 105, 108, 108, 45, 112, 97, 110, 101]⟩
def awakeWords1 : List ByteArray := [⟨#[115, 112, 108, 105, 116, 45, 119, 105, 110, 100, 111, 119]⟩, ⟨#[45, 104]⟩, ⟨#[45, 108]⟩, ⟨#[49, 48]⟩, ⟨#[97, 32, 98]⟩]
def awakeWords2 : List ByteArray := [⟨#[107, 105, 108, 108, 45, 112, 97, 110, 101]⟩]
theorem awake_cut : (cutL 0 awakeLine.data.toList (-1) CS.init).1 = -1 ∧ (cutL 0 awakeLine.data.toList (-1) CS.init).2.commandW.cmds = [awakeWords1, awakeWords2] := by
  constructor
  · kernel_rfl
  · kernel_rfl

set_option maxHeartbeats 2000000 in
theorem awake_calls (w : World) : Calls Tryd.prog 24 #[] w fun e w' => e = .returned (.bool true) ∧ Below w.heap.size w w' := by
  have HC := Aside0.mk (cut_calls awakeLine w (by decide))
  go_enter Tryd.func24, Tryd.ntmps24
  go_wp2_with fail
  refine HC.out.mono ?_
  rintro e w1 ⟨hb, _, h2⟩
  obtain ⟨A, n, c, rfl, hR, _⟩ := h2 (by rw [awake_cut.1]; decide)
  rw [awake_cut.2] at hR
  have hC := Kd.R_reads' hR
  obtain ⟨hn, hc, hC⟩ := hC
  have hn : n = 2 := hn
  subst hn
  have HB := Aside0.mk hb
  have HCC := Aside0.mk hC
  have HCL : 2 ≤ c := hc
  clear h2 hR hC hc hb
  obtain ⟨k, hk⟩ := sameAll_self _ w1 A 2 HCC.out
  have HL1 : Aside0 (Kd.string.C (w1.alloc (.cells (encs Value.string awakeWords1).toArray 9)) (some ⟨w1.heap.size, 0, none⟩) awakeWords1.length awakeWords1) := ⟨litC w1 9 awakeWords1 (by decide)⟩
  have HL2 : Aside0 (Kd.string.C ((w1.alloc (.cells (encs Value.string awakeWords1).toArray 9)).alloc (.cells (encs Value.string awakeWords2).toArray 9)) (some ⟨w1.heap.size + 1, 0, none⟩) awakeWords2.length awakeWords2) := ⟨by
    have := litC (w1.alloc (.cells (encs Value.string awakeWords1).toArray 9)) 9 awakeWords2 (by decide)
    simpa using this⟩
  have HL3 : Aside0 ((Kd.slice 9 Kd.string).C (((w1.alloc (.cells (encs Value.string awakeWords1).toArray 9)).alloc (.cells (encs Value.string awakeWords2).toArray 9)).alloc (.cells (List.toArray [.slice (some ⟨w1.heap.size, 0, none⟩) 5 5, .slice (some ⟨w1.heap.size + 1, 0, none⟩) 1 1]) 36)) (some ⟨w1.heap.size + 1 + 1, 0, none⟩) 2 [awakeWords1, awakeWords2]) := ⟨by
    have := litSS ((w1.alloc (.cells (encs Value.string awakeWords1).toArray 9)).alloc (.cells (encs Value.string awakeWords2).toArray 9)) 36 [.slice (some ⟨w1.heap.size, 0, none⟩) 5 5, .slice (some ⟨w1.heap.size + 1, 0, none⟩) 1 1] [awakeWords1, awakeWords2] (by decide) (by
      intro j p hj
      match j, hj with
      | 0, hj => obtain rfl : awakeWords1 = p := by simpa using hj
                 exact ⟨_, _, rfl, by decide, Kd.C_alloc HL1.out _⟩
      | 1, hj => obtain rfl : awakeWords2 = p := by simpa using hj
                 exact ⟨_, _, rfl, by decide, HL2.out⟩)
    simpa using this⟩
  have HC2 : Aside0 ((Kd.slice 9 Kd.string).C (((w1.alloc (.cells (encs Value.string awakeWords1).toArray 9)).alloc (.cells (encs Value.string awakeWords2).toArray 9)).alloc (.cells (List.toArray [.slice (some ⟨w1.heap.size, 0, none⟩) 5 5, .slice (some ⟨w1.heap.size + 1, 0, none⟩) 1 1]) 36)) A 2 [awakeWords1, awakeWords2]) := ⟨Kd.C_alloc (Kd.C_alloc (Kd.C_alloc HCC.out _) _) _⟩
  have HS := Aside0.mk (sashref20_SameAll.calls k A c [awakeWords1, awakeWords2] (some ⟨w1.heap.size + 1 + 1, 0, none⟩) 2 [awakeWords1, awakeWords2] true _ HC2.out HCL HL3.out (Nat.le_refl 2) hk)
  have HB2 : Aside0 (Below w.heap.size w (((w1.alloc (.cells (encs Value.string awakeWords1).toArray 9)).alloc (.cells (encs Value.string awakeWords2).toArray 9)).alloc (.cells (List.toArray [.slice (some ⟨w1.heap.size, 0, none⟩) 5 5, .slice (some ⟨w1.heap.size + 1, 0, none⟩) 1 1]) 36))) := ⟨((HB.out.alloc HB.out.size _).alloc (by have := HB.out.size; simp; omega) _).alloc (by have := HB.out.size; simp; omega) _⟩
  clear hk HCC HL1 HL2 HL3 HC2 HC
  go_wp2_with fail
  refine HS.out.mono ?_
  rintro e w2 ⟨rfl, hd⟩
  have HF : Aside0 (Below w.heap.size w w2) := ⟨HB2.out.trans (hd.below.mono (Nat.le_trans HB2.out.size (Nat.le_refl _)))⟩
  clear hd HS HB2
  go_wp2
  go_ret
  exact ⟨rfl, HF.out⟩
end Go.Proofs.YtelmmcjlhjahcaaDoor
