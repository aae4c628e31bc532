/-
  SumIs: the walk.
-/
import Derived.Test.YtlnipkhdaikdkaaDoorSuPut
namespace Go.Proofs.YtlnipkhdaikdkaaDoor
open Go.RowKit Go.Proofs.YtlnipkhdaikdkaaDoorW.PrintWords Go.Proofs.YtlnipkhdaikdkaaDoorW.PrintLast Go.Proofs.YtlnipkhdaikdkaaDoorW.PrintMore Go.Proofs.YtlnipkhdaikdkaaDoor.PSumIs
set_option linter.unusedVariables false

theorem sumIs_many (c : Int) (s : ByteArray) (hs : 1000 < s.size) (w : World) (hT : NumT w) :
    Calls Tryd.prog 3 #[.int .u16 c, .string s] w fun e w' => e = .returned (.bool true) ∧ Below w.heap.size w w' := by
  have h1000 : decide ((s.size : Int) > 1000) = true := by simp; omega
  have HA := Aside0.mk (awake_calls w hT)
  clear hT hs
  go_enter Tryd.func3, Tryd.ntmps3
  go_wp2_with (go_at_call 13; refine HA.out.mono ?_; rintro e w' ⟨rfl, hb⟩)
  go_ret
  exact ⟨rfl, hb⟩
set_option maxHeartbeats 2000000 in
theorem sumIs_few (c : Int) (h0 : 0 ≤ c) (h1 : c < 65536) (s : ByteArray) (hs : s.size ≤ 1000) (w : World) (hT : NumT w) :
    Calls Tryd.prog 3 #[.int .u16 c, .string s] w fun e w' => e = .returned (.bool true) ∧ Below w.heap.size w w' := by
  have h1000 : decide ((s.size : Int) > 1000) = false := by simp; omega
  have HF := Aside0.mk (from1_calls c h0 h1 s (by omega))
  have HRF := Aside0.mk (fun (c : Int) (h0 : 0 ≤ c) (h1 : c < 65536) => refFrom_calls c h0 h1 s (by omega))
  have HO := Aside0.mk (of1_calls s (by omega))
  have HP := Aside0.mk (put_calls s (by omega))
  have HRP := Aside0.mk (refPut_calls s (by omega))
  have HT := Aside0.mk hT
  have HC := Aside0.mk (And.intro h0 h1)
  clear hT hs
  go_enter Tryd.func3, Tryd.ntmps3
  go_wp2_with fail
  with_reducible refine (HF.out w).mono ?_
  rintro e w1 ⟨rfl, hb⟩
  have HB := Aside0.mk hb
  clear hb
  go_wp2_with fail
  with_reducible refine (HRF.out c HC.out.1 HC.out.2 _).mono ?_
  rintro e w2 ⟨rfl, hb⟩
  replace HB := Aside0.mk (HB.out.trans (hb.below.mono HB.out.size))
  clear hb
  go_wp2_with fail
  with_reducible refine (HO.out _).mono ?_
  rintro e w3 ⟨rfl, hb⟩
  replace HB := Aside0.mk (HB.out.trans (hb.mono HB.out.size))
  clear hb
  go_wp2_with fail
  with_reducible refine (HRF.out 0 (by decide) (by decide) _).mono ?_
  rintro e w4 ⟨rfl, hb⟩
  replace HB := Aside0.mk (HB.out.trans (hb.below.mono HB.out.size))
  clear hb
  go_wp2_with fail
  with_reducible refine (HP.out _ (HT.out.below HB.out)).mono ?_
  rintro e w5 ⟨rfl, hb⟩
  replace HB := Aside0.mk (HB.out.trans (hb.mono HB.out.size))
  clear hb
  go_wp2_with fail
  with_reducible refine (HRP.out _).mono ?_
  rintro e w6 ⟨rfl, hb⟩
  replace HB := Aside0.mk (HB.out.trans (hb.mono HB.out.size))
  clear hb
  go_wp2_with fail
  with_reducible refine (awake_calls _ (HT.out.below HB.out)).mono ?_
  rintro e w7 ⟨rfl, hb⟩
  replace HB := Aside0.mk (HB.out.trans (hb.mono HB.out.size))
  clear hb
  go_wp2
  go_ret
  exact ⟨rfl, HB.out⟩
theorem sumIs_calls (c : Int) (hc : 0 ≤ c ∧ c < 65536) (s : ByteArray) (w : World) (hT : NumT w) :
    Calls Tryd.prog 3 #[.int .u16 c, .string s] w fun e w' => e = .returned (.bool true) ∧ Below w.heap.size w w' := by
  by_cases h : s.size ≤ 1000
  · exact sumIs_few c hc.1 hc.2 s h w hT
  · exact sumIs_many c s (by omega) w hT
end Go.Proofs.YtlnipkhdaikdkaaDoor
