/-
  NumReads: the walk.
-/
import Derived.Test.YtlnipkhdaikdkaaDoorNumRead
namespace Go.Proofs.YtlnipkhdaikdkaaDoor
open Go.RowKit Go.Proofs.YtlnipkhdaikdkaaDoorW.PrintWords Go.Proofs.YtlnipkhdaikdkaaDoorW.PrintLast Go.Proofs.YtlnipkhdaikdkaaDoorW.PrintMore
set_option linter.unusedVariables false

theorem numReads_many (s : ByteArray) (hs : 200 < s.size) (w : World) (hT : NumT w) (hE : NumE w) :
    Calls Tryd.prog 7 #[.string s] w fun e w' => e = .returned (.bool true) ∧ Below w.heap.size w w' := by
  have h1000 : decide ((s.size : Int) > 200) = true := by simp; omega
  have HA := Aside0.mk (awakeN_calls w hT hE)
  clear hT hE hs
  go_enter Tryd.func7, Tryd.ntmps7
  go_wp2_with (go_at_call 19; refine HA.out.mono ?_; rintro e w' ⟨rfl, hb⟩)
  go_ret
  exact ⟨rfl, hb⟩
set_option maxHeartbeats 2000000 in
theorem numReads_few (s : ByteArray) (hs : s.size ≤ 200) (w : World) (hT : NumT w) (hE : NumE w) :
    Calls Tryd.prog 7 #[.string s] w fun e w' => e = .returned (.bool true) ∧ Below w.heap.size w w' := by
  have h1000 : decide ((s.size : Int) > 200) = false := by simp; omega
  have HT := Aside0.mk hT
  have HE := Aside0.mk hE
  have HH := Aside0.mk (read_calls s (by omega))
  have HR := Aside0.mk (refRead_calls s (by omega))
  generalize readR s = r at *
  obtain ⟨a, b⟩ := r
  clear hT hE hs
  go_enter Tryd.func7, Tryd.ntmps7
  go_wp2_with fail
  with_reducible refine (HH.out w HE.out).mono ?_
  rintro e w1 ⟨rfl, hb⟩
  have HB := Aside0.mk hb
  clear hb
  go_wp2_with fail
  with_reducible refine (HR.out _).mono ?_
  rintro e w2 ⟨rfl, hb⟩
  replace HB := Aside0.mk (HB.out.trans (hb.below.mono HB.out.size))
  clear hb
  go_wp2_with fail
  with_reducible refine (awakeN_calls _ (HT.out.below HB.out) (HE.out.below HB.out)).mono ?_
  rintro e w3 ⟨rfl, hb⟩
  replace HB := Aside0.mk (HB.out.trans (hb.mono HB.out.size))
  clear hb
  go_wp2
  go_ret
  exact ⟨rfl, HB.out⟩
theorem numReads_calls (s : ByteArray) (w : World) (hT : NumT w) (hE : NumE w) :
    Calls Tryd.prog 7 #[.string s] w fun e w' => e = .returned (.bool true) ∧ Below w.heap.size w w' := by
  by_cases h : s.size ≤ 200
  · exact numReads_few  s h w hT hE
  · exact numReads_many  s (by omega) w hT hE
end Go.Proofs.YtlnipkhdaikdkaaDoor
