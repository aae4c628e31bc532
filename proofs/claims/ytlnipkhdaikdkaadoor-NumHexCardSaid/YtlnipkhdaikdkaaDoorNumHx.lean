/-
  NumHex: the walk.
-/
import Derived.Test.YtlnipkhdaikdkaaDoorNumRef
import Derived.Test.YtlnipkhdaikdkaaDoorSuCut
namespace Go.Proofs.YtlnipkhdaikdkaaDoor
open Go.RowKit Go.Proofs.YtlnipkhdaikdkaaDoorW.PrintWords Go.Proofs.YtlnipkhdaikdkaaDoorW.PrintLast Go.Proofs.YtlnipkhdaikdkaaDoorW.PrintMore
set_option linter.unusedVariables false

theorem numHex_many (n : Int) (s : ByteArray) (hs : 200 < s.size) (w : World) (hT : NumT w) (hE : NumE w) :
    Calls Tryd.prog 12 #[.int .u16 n, .string s] w fun e w' => e = .returned (.bool true) ∧ Below w.heap.size w w' := by
  have h1000 : decide ((s.size : Int) > 200) = true := by simp; omega
  have HA := Aside0.mk (awakeN_calls w hT hE)
  clear hT hE hs
  go_enter Tryd.func12, Tryd.ntmps12
  go_wp2_with (go_at_call 19; refine HA.out.mono ?_; rintro e w' ⟨rfl, hb⟩)
  go_ret
  exact ⟨rfl, hb⟩
set_option maxRecDepth 100000 in
set_option maxHeartbeats 4000000 in
theorem numHex_few (n : Int) (h0 : 0 ≤ n) (h1 : n < 65536) (s : ByteArray) (hs : s.size ≤ 200) (w : World) (hT : NumT w) (hE : NumE w) :
    Calls Tryd.prog 12 #[.int .u16 n, .string s] w fun e w' => e = .returned (.bool true) ∧ Below w.heap.size w w' := by
  have h1000 : decide ((s.size : Int) > 200) = false := by simp; omega
  have HT := Aside0.mk hT
  have HE := Aside0.mk hE
  have HR := rhex_calls s (by omega)
  have HF := refRH_calls s
  have HX := Aside0.mk (hex_calls n h0 h1)
  have HB2 := rhex_calls (hex4 n) (by rw [hex4_size]; omega)
  have hb4 : rhR (hex4 n) = (n, 0) := by unfold rhR; rw [unhex_hex4 n h0 h1]
  rw [hb4] at HB2
  replace HB2 := Aside0.mk HB2
  have HRX := Aside0.mk (refHex_calls n h0 h1)
  generalize hex4 n = x at *
  unfold rhR at HR
  unfold unhexP at HF
  generalize unhexS s = u at *
  clear hT hE hs hb4 h0 h1
  rcases u with _ | u
  · replace HR := Aside0.mk HR
    replace HF := Aside0.mk HF
    go_enter Tryd.func12, Tryd.ntmps12
    go_wp2_with fail
    with_reducible refine (HR.out w HT.out HE.out).mono ?_
    rintro e w1 ⟨rfl, hb⟩
    have HB := Aside0.mk hb
    clear hb
    go_wp2_with fail
    with_reducible refine (HF.out _).mono ?_
    rintro e w2 ⟨rfl, hb⟩
    replace HB := Aside0.mk (HB.out.trans (hb.below.mono HB.out.size))
    clear hb
    go_wp2_with fail
    with_reducible refine (HX.out _ (HT.out.below HB.out)).mono ?_
    rintro e w3 ⟨rfl, hb⟩
    replace HB := Aside0.mk (HB.out.trans (hb.mono HB.out.size))
    clear hb
    go_wp2_with fail
    with_reducible refine (HB2.out _ (HT.out.below HB.out) (HE.out.below HB.out)).mono ?_
    rintro e w4 ⟨rfl, hb⟩
    replace HB := Aside0.mk (HB.out.trans (hb.mono HB.out.size))
    clear hb
    go_wp2_with fail
    with_reducible refine (HX.out _ (HT.out.below HB.out)).mono ?_
    rintro e w5 ⟨rfl, hb⟩
    replace HB := Aside0.mk (HB.out.trans (hb.mono HB.out.size))
    clear hb
    go_wp2_with fail
    with_reducible refine (HRX.out _).mono ?_
    rintro e w6 ⟨rfl, hb⟩
    replace HB := Aside0.mk (HB.out.trans (hb.mono HB.out.size))
    clear hb
    go_wp2_with fail
    with_reducible refine (awakeN_calls _ (HT.out.below HB.out) (HE.out.below HB.out)).mono ?_
    rintro e w7 ⟨rfl, hb⟩
    replace HB := Aside0.mk (HB.out.trans (hb.mono HB.out.size))
    clear hb
    go_wp2
    go_ret
    exact ⟨rfl, HB.out⟩
  · replace HR := Aside0.mk HR
    replace HF := Aside0.mk HF
    go_enter Tryd.func12, Tryd.ntmps12
    go_wp2_with fail
    with_reducible refine (HR.out w HT.out HE.out).mono ?_
    rintro e w1 ⟨rfl, hb⟩
    have HB := Aside0.mk hb
    clear hb
    go_wp2_with fail
    with_reducible refine (HF.out _).mono ?_
    rintro e w2 ⟨rfl, hb⟩
    replace HB := Aside0.mk (HB.out.trans (hb.below.mono HB.out.size))
    clear hb
    go_wp2_with fail
    with_reducible refine (HX.out _ (HT.out.below HB.out)).mono ?_
    rintro e w3 ⟨rfl, hb⟩
    replace HB := Aside0.mk (HB.out.trans (hb.mono HB.out.size))
    clear hb
    go_wp2_with fail
    with_reducible refine (HB2.out _ (HT.out.below HB.out) (HE.out.below HB.out)).mono ?_
    rintro e w4 ⟨rfl, hb⟩
    replace HB := Aside0.mk (HB.out.trans (hb.mono HB.out.size))
    clear hb
    go_wp2_with fail
    with_reducible refine (HX.out _ (HT.out.below HB.out)).mono ?_
    rintro e w5 ⟨rfl, hb⟩
    replace HB := Aside0.mk (HB.out.trans (hb.mono HB.out.size))
    clear hb
    go_wp2_with fail
    with_reducible refine (HRX.out _).mono ?_
    rintro e w6 ⟨rfl, hb⟩
    replace HB := Aside0.mk (HB.out.trans (hb.mono HB.out.size))
    clear hb
    go_wp2_with fail
    with_reducible refine (awakeN_calls _ (HT.out.below HB.out) (HE.out.below HB.out)).mono ?_
    rintro e w7 ⟨rfl, hb⟩
    replace HB := Aside0.mk (HB.out.trans (hb.mono HB.out.size))
    clear hb
    go_wp2
    go_ret
    exact ⟨rfl, HB.out⟩
theorem numHex_calls (n : Int) (hn : 0 ≤ n ∧ n < 65536) (s : ByteArray) (w : World) (hT : NumT w) (hE : NumE w) :
    Calls Tryd.prog 12 #[.int .u16 n, .string s] w fun e w' => e = .returned (.bool true) ∧ Below w.heap.size w w' := by
  by_cases h : s.size ≤ 200
  · exact numHex_few n hn.1 hn.2 s h w hT hE
  · exact numHex_many n s (by omega) w hT hE
end Go.Proofs.YtlnipkhdaikdkaaDoor
