/-
  NumDigits: the walk.
-/
import Derived.Test.YtlnipkhdaikdkaaDoorNumRef
namespace Go.Proofs.YtlnipkhdaikdkaaDoor
open Go.RowKit Go.Proofs.YtlnipkhdaikdkaaDoorW.PrintWords Go.Proofs.YtlnipkhdaikdkaaDoorW.PrintLast Go.Proofs.YtlnipkhdaikdkaaDoorW.PrintMore
set_option linter.unusedVariables false

theorem wf_i64 {n : Int} (h : (Lit.int .i64 n).wf = true) : -9223372036854775808 ≤ n ∧ n ≤ 9223372036854775807 := by
  simp only [Lit.wf, Bool.and_eq_true, decide_eq_true_eq] at h
  have e1 : IntKind.i64.min = -9223372036854775808 := by decide
  have e2 : IntKind.i64.max = 9223372036854775807 := by decide
  omega
theorem numDigits_calls (w : World) (A : Option Addr) (c : Nat) (zs : List Int) (hr : (Kd.int .i64).C w A zs.length zs) (hz : ∀ z ∈ zs, -9223372036854775808 ≤ z ∧ z ≤ 9223372036854775807) (hT : NumT w) (hE : NumE w) :
    Calls Tryd.prog 5 #[.slice A zs.length c] w fun e w' => e = .returned (.bool true) ∧ Below w.heap.size w w' := by
  have HT := Aside0.mk hT
  have HE := Aside0.mk hE
  by_cases h : zs.length ≤ 50
  · have h50 : decide ((zs.length : Int) > 50) = false := by simp; omega
    have HD := Aside0.mk (digits_all w A zs.length c zs hr (by omega) hT)
    have HJ := Aside0.mk (fun w1 (hb : Below w.heap.size w w1) => refJoin_calls w1 A zs.length c zs (Kd.C_below hr hb) (by omega) hz)
    generalize joinS (zs.map digS) = x at *
    generalize zs.length = n at *
    clear hT hE hr hz h
    go_enter Tryd.func5, Tryd.ntmps5
    go_wp2_with fail
    with_reducible refine HD.out.mono ?_
    rintro e w1 ⟨rfl, hb⟩
    have HB := Aside0.mk hb
    clear hb
    go_wp2_with fail
    with_reducible refine (HJ.out _ HB.out).mono ?_
    rintro e w2 ⟨rfl, hb⟩
    replace HB := Aside0.mk (HB.out.trans (hb.mono HB.out.size))
    clear hb
    go_wp2_with fail
    with_reducible refine (awakeN_calls _ (HT.out.below HB.out) (HE.out.below HB.out)).mono ?_
    rintro e w3 ⟨rfl, hb⟩
    replace HB := Aside0.mk (HB.out.trans (hb.mono HB.out.size))
    clear hb
    go_wp2
    go_ret
    exact ⟨rfl, HB.out⟩
  · have h50 : decide ((zs.length : Int) > 50) = true := by simp; omega
    have HA := Aside0.mk (awakeN_calls w hT hE)
    generalize zs.length = n at *
    clear hT hE hr hz h
    go_enter Tryd.func5, Tryd.ntmps5
    go_wp2_with (go_at_call 19; refine HA.out.mono ?_; rintro e w' ⟨rfl, hb⟩)
    go_ret
    exact ⟨rfl, hb⟩
end Go.Proofs.YtlnipkhdaikdkaaDoor
