/-
  The document's example of frames.
-/
import Derived.Test.YtmcjfnebkpifnaaDoorFrSame
namespace Go.Proofs.YtmcjfnebkpifnaaDoor
open Go.RowKit Go.Proofs.YtmcjfnebkpifnaaDoorW.PrintWords Go.Proofs.YtmcjfnebkpifnaaDoorW.PrintLast Go.Proofs.YtmcjfnebkpifnaaDoorW.PrintMore Go.Proofs.YtmcjfnebkpifnaaDoor.PFrameFeeds
set_option linter.unusedVariables false
set_option maxRecDepth 100000
set_option linter.unusedSimpArgs false

def awakeBytes : List Int := [1, 0, 0, 0, 2, 108, 115]
def awakeFrame : S63 := ⟨1, ⟨#[108, 115]⟩⟩
theorem awake_feed : DS.init.feedL awakeBytes = ({ bytes := [], fed := 7, over := false }, [awakeFrame], none) := by kernel_rfl
theorem litNums (W : World) (e : Nat) (xs : List Int) (hm : xs.length ≤ 100000) : (Kd.int .u8).C (W.alloc (.cells (nums .u8 xs).toArray e)) (some ⟨W.heap.size, 0, none⟩) xs.length xs :=
  (Kd.R_reads' (Kd.R_of_own (e := e) (ok := fun _ => True) (own_lit_of (enc := Value.int .u8) W 0 e xs (Nat.zero_le _) (by omega)) (fun _ _ => trivial))).2.2

set_option maxHeartbeats 4000000 in
theorem awake_calls (w : World) : Calls Tryd.prog 10 #[] w fun e w' => e = .returned (.bool true) ∧ Below w.heap.size w w' := by
  have hC := litNums w 5 awakeBytes (by decide)
  have hR := read_calls _ _ 7 7 awakeBytes hC (Nat.le_refl _) (by decide) (by unfold Bytes awakeBytes; decide)
  rw [awake_feed] at hR
  have HR := Aside0.mk hR
  have HB0 : Aside0 (Below w.heap.size w (w.alloc (.cells (nums .u8 awakeBytes).toArray 5))) := ⟨below_alloc (Below.refl _ _) _⟩
  clear hC hR
  go_enter Tryd.func10, Tryd.ntmps10
  go_wp2_with fail
  refine HR.out.mono ?_
  rintro e w1 ⟨v, ev, rfl, hB, hF1, hF2, _⟩
  obtain rfl := hF2 rfl
  obtain ⟨A, n, c, rfl⟩ := sl_of_R hF1
  obtain ⟨hn, hc, hCC⟩ := Kd.R_reads' hF1
  have hn1 : n = 1 := hn
  subst hn1
  have e1 : (DS.mk [] 7 false).waits = 0 := rfl
  rw [e1]
  have HB1 : Aside0 (Below w.heap.size w w1) := ⟨HB0.out.trans (hB.mono (by simp))⟩
  have HC1 : Aside0 ((k63).C (w1.alloc (.cells #[.int .u8 1, .string ⟨#[108, 115]⟩] 63)) A 1 [awakeFrame]) := ⟨Kd.C_alloc hCC _⟩
  have HC2 : Aside0 ((k63).C (w1.alloc (.cells #[.int .u8 1, .string ⟨#[108, 115]⟩] 63)) (some ⟨w1.heap.size, 0, none⟩) 1 [awakeFrame]) := ⟨frame_one awakeFrame (heap_alloc_new w1 _)⟩
  have HS := Aside0.mk (sashref23_Same.calls 10 A c [awakeFrame] (some ⟨w1.heap.size, 0, none⟩) 1 [awakeFrame] true _ HC1.out hc HC2.out (Nat.le_refl 1) (same_self _ (by decide) 10 (by decide)))
  clear hF1 hF2 hn hc hCC hB HR HC1 HC2 e1
  go_wp2_with fail
  refine HS.out.mono ?_
  rintro e w2 ⟨rfl, hd⟩
  have HF : Aside0 (Below w.heap.size w w2) := ⟨(HB1.out.alloc HB1.out.size _).trans (hd.below.mono (by have := HB1.out.size; simp; omega))⟩
  clear hd HS
  go_wp2
  go_ret
  exact ⟨rfl, HF.out⟩
end Go.Proofs.YtmcjfnebkpifnaaDoor
