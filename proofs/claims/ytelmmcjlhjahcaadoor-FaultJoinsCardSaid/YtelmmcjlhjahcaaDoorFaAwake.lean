/-
  sashlaw03.awake; what is none.
-/
import Derived.Test.YtelmmcjlhjahcaaDoorFaPure
namespace Go.Proofs.YtelmmcjlhjahcaaDoor
open Go.RowKit Go.Proofs.YtelmmcjlhjahcaaDoorW.PrintWords Go.Proofs.YtelmmcjlhjahcaaDoorW.PrintLast Go.Proofs.YtelmmcjlhjahcaaDoorW.PrintMore Go.Proofs.YtelmmcjlhjahcaaDoor.PFaultTells
set_option linter.unusedVariables false
set_option linter.unusedSimpArgs false
set_option maxRecDepth 100000

theorem same3_l0 (l : List ByteArray) (hl : l.length ≤ 100000) (d : Nat) : ∀ (k : Nat) (i : Int), 0 ≤ i → i ≤ l.length → (l.length : Int) - i = d → d < k → sashref03_Same.l0 k l l (l.length : Int) i = some true := by
  induction d with
  | zero =>
    intro k i h0 h1 hd hk
    obtain ⟨k, rfl⟩ : ∃ m, k = m + 1 := ⟨k - 1, by omega⟩
    simp only [sashref03_Same.l0]; rw [if_neg (by omega)]
  | succ d ih =>
    intro k i h0 h1 hd hk
    obtain ⟨k, rfl⟩ : ∃ m, k = m + 1 := ⟨k - 1, by omega⟩
    simp only [sashref03_Same.l0]
    have e : wrap64 (i + 1) = i + 1 := by unfold wrap64; omega
    rw [if_pos (by omega), if_pos h0, if_pos (by omega), if_pos (by omega), if_pos trivial, e]
    exact ih k (i + 1) (by omega) (by omega) (by omega) (by omega)
theorem same3_self (l : List ByteArray) (hl : l.length ≤ 100000) (k : Nat) (hk : l.length < k) : sashref03_Same.f k l l = some true := by
  unfold sashref03_Same.f
  rw [if_pos rfl]
  exact same3_l0 l hl l.length k 0 (by omega) (by omega) (by omega) hk

def wPane : ByteArray := ⟨#[112, 97, 110, 101]⟩
def w4 : ByteArray := ⟨#[52]⟩
def wSplit : ByteArray := ⟨#[115, 112, 108, 105, 116]⟩

set_option maxHeartbeats 4000000 in
theorem awake3_calls (w : World) (hE : As.ErrT w) : Calls Tryd.prog 13 #[] w fun e w' => e = .returned (.bool true) ∧ Below w.heap.size w w' := by
  have HG := Aside0.mk hE
  clear hE
  go_enter Tryd.func13, Tryd.ntmps13
  go_wp2_with fail
  refine (new_calls 2 7 _ rfl).mono ?_
  rintro e w1 ⟨rfl, hw1⟩
  have HV1 : Aside0 (As.EV w1 (.iface 77 (.pointer (some ⟨w.heap.size, 0, none⟩))) [] (.fault 2 7) ∧ Below w.heap.size w w1) := ⟨⟨_, rfl, by rw [hw1]; exact heap_alloc_new w _⟩, by rw [hw1]; exact below_alloc (Below.refl _ _) _⟩
  clear hw1
  have hb2 : Below w1.heap.size w1 (w1.alloc (.cells #[.string ⟨#[112, 97, 110, 101]⟩, .string ⟨#[52]⟩] 9)) := below_alloc (Below.refl _ _) _
  have HI1 := Aside0.mk (in_ev _ _ [] (.fault 2 7) (some ⟨w1.heap.size, 0, none⟩) 2 2 [⟨#[112, 97, 110, 101]⟩, ⟨#[52]⟩] (As.EV_keep hb2 HV1.out.1) rfl (Nat.le_refl _) (by decide) (litC w1 9 [⟨#[112, 97, 110, 101]⟩, ⟨#[52]⟩] (by decide)))
  have HB2 := Aside0.mk (HV1.out.2.trans (hb2.mono HV1.out.2.size))
  clear hb2
  go_wp2_with fail
  with_reducible refine HI1.out.mono ?_
  rintro e w2 ⟨t2, x2, rfl, hv2, hb⟩
  have hv2' : As.EV w2 (.iface t2 x2) [[⟨#[112, 97, 110, 101]⟩, ⟨#[52]⟩]] (.fault 2 7) := by simpa using hv2
  replace HB2 := Aside0.mk (HB2.out.trans (hb.mono HB2.out.size))
  have hb3 : Below w2.heap.size w2 (w2.alloc (.cells #[.string ⟨#[115, 112, 108, 105, 116]⟩] 9)) := below_alloc (Below.refl _ _) _
  have HI2 := Aside0.mk (in_ev _ _ _ (.fault 2 7) (some ⟨w2.heap.size, 0, none⟩) 1 1 [⟨#[115, 112, 108, 105, 116]⟩] (As.EV_keep hb3 hv2') rfl (Nat.le_refl _) (by decide) (litC w2 9 [⟨#[115, 112, 108, 105, 116]⟩] (by decide)))
  have HB3 := Aside0.mk (HB2.out.trans (hb3.mono HB2.out.size))
  clear hb3 hb hv2 hv2' HI1
  go_wp2_with fail
  with_reducible refine HI2.out.mono ?_
  rintro e w3 ⟨t3, x3, rfl, hv3, hb⟩
  have HV3 : Aside0 (As.EV w3 (.iface t3 x3) [[⟨#[115, 112, 108, 105, 116]⟩], [⟨#[112, 97, 110, 101]⟩, ⟨#[52]⟩]] (.fault 2 7)) := ⟨by simpa using hv3⟩
  replace HB3 := Aside0.mk (HB3.out.trans (hb.mono HB3.out.size))
  have HW := Aside0.mk (words_calls w3 _ _ _ HV3.out (by decide))
  clear hv3 hb HI2 HB2
  go_wp2_with fail
  with_reducible refine HW.out.mono ?_
  rintro e w4' ⟨A, n, c, rfl, hR, hb⟩
  obtain ⟨hn, hc, hC⟩ := Kd.R_reads' hR
  have hn3 : n = 3 := hn
  subst hn3
  have hb4 : Below w4'.heap.size w4' (w4'.alloc (.cells #[.string ⟨#[115, 112, 108, 105, 116]⟩, .string ⟨#[112, 97, 110, 101]⟩, .string ⟨#[52]⟩] 9)) := below_alloc (Below.refl _ _) _
  have HS : Aside0 (Calls Tryd.prog 17 #[.slice A 3 c, .slice (some ⟨w4'.heap.size, 0, none⟩) 3 3] (w4'.alloc (.cells #[.string ⟨#[115, 112, 108, 105, 116]⟩, .string ⟨#[112, 97, 110, 101]⟩, .string ⟨#[52]⟩] 9)) fun e w' => e = .returned (.bool true) ∧ Drawn0 (w4'.alloc (.cells #[.string ⟨#[115, 112, 108, 105, 116]⟩, .string ⟨#[112, 97, 110, 101]⟩, .string ⟨#[52]⟩] 9)) w') :=
    ⟨sashref03_Same.calls 10 A c [⟨#[115, 112, 108, 105, 116]⟩, ⟨#[112, 97, 110, 101]⟩, ⟨#[52]⟩] (some ⟨w4'.heap.size, 0, none⟩) 3 [⟨#[115, 112, 108, 105, 116]⟩, ⟨#[112, 97, 110, 101]⟩, ⟨#[52]⟩] true _ (Kd.C_below hC hb4) hc (litC w4' 9 [⟨#[115, 112, 108, 105, 116]⟩, ⟨#[112, 97, 110, 101]⟩, ⟨#[52]⟩] (by decide)) (Nat.le_refl _) (same3_self _ (by decide) 10 (by decide))⟩
  replace HV3 := Aside0.mk (As.EV_keep (hb.trans (hb4.mono hb.size)) HV3.out)
  replace HB3 := Aside0.mk (HB3.out.trans ((hb.trans (hb4.mono hb.size)).mono HB3.out.size))
  clear hb4 hR hn hc hC hb HW
  go_wp2_with fail
  with_reducible refine HS.out.mono ?_
  rintro e w5 ⟨rfl, hd⟩
  have hb5 := HB3.out.trans (hd.below.mono HB3.out.size)
  have HCO : Aside0 (Calls Tryd.prog 16 #[.iface t3 x3] w5 fun e w' => e = .returned (.int .i64 2) ∧ Below w5.heap.size w5 w') := ⟨As.code_calls _ _ _ w5 (As.EV_keep hd.below HV3.out) (HG.out.below hb5)⟩
  replace HB3 := Aside0.mk hb5
  clear hd hb5 HS HV3
  go_wp2_with fail
  with_reducible refine HCO.out.mono ?_
  rintro e w6 ⟨rfl, hb⟩
  replace HB3 := Aside0.mk (HB3.out.trans (hb.mono HB3.out.size))
  clear hb HCO
  go_wp2
  go_ret
  exact ⟨rfl, HB3.out⟩
end Go.Proofs.YtelmmcjlhjahcaaDoor
