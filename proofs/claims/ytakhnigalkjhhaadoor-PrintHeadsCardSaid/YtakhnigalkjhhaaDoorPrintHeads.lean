/-
  PrintHeads: the row and its tied card.
-/
import Derived.Test.YtakhnigalkjhhaaDoorPrLaw
import Derived.Test.YtakhnigalkjhhaaDoorTiOpen
import Derived.Test.YtakhnigalkjhhaaDoorLaidP
import Derived.Test.YtakhnigalkjhhaaDoorCards
import Derived.Test.YtakhnigalkjhhaaDoorTie
import Derived.WalkKit
import Derived.ProofKit
import Derived.OpenShut
import Derived.Deep.DeepHandedRow
namespace Go.Proofs.YtakhnigalkjhhaaDoor.printHeads
open Go.ChangeShapes Go.WideShapes Go.ChangeAt Go.RowKit Go.Proofs.YtakhnigalkjhhaaDoor Go.Proofs.YtakhnigalkjhhaaDoor.PTileChecks Go.Proofs.YtakhnigalkjhhaaDoorW.PrintWords
set_option linter.unusedVariables false

theorem laidOut : laidOutB Tryd.prog = true := by kernel_rfl

set_option maxRecDepth 100000 in
theorem wf_i64 {n : Int} (h : (Lit.int .i64 n).wf = true) : IR n := by
  simp only [Lit.wf, Bool.and_eq_true, decide_eq_true_eq] at h
  have e1 : IntKind.i64.min = -9223372036854775808 := by decide
  have e2 : IntKind.i64.max = 9223372036854775807 := by decide
  exact ⟨by omega, by omega⟩
set_option maxRecDepth 100000 in
theorem opens_rectW {H : Type} {enc : TypeId × Value → H} {w : World} {base : Nat} {spare : Nat → Bool} {held : Bool} {fuel : Nat} {cs : List Value} {x : DataW H × List MemPlace} (h : DataW.trod enc Tryd.prog w base spare held fuel 23 cs = some x) : ∃ r : SR, cs = [.int .i64 r.f0, .int .i64 r.f1, .int .i64 r.f2, .int .i64 r.f3] ∧ RIR r := by
  obtain ⟨xs, n, _, rfl, hl, hlen, hf⟩ := DataW.trod_struct Tryd.underlying23 h
  have hl4 : cs.length = 4 := hl
  match cs, hl4 with
  | [a, b, c, d], _ =>
    match xs, hlen with
    | [y0, y1, y2, y3], _ =>
      have t0 : DataW.trod enc Tryd.prog w base spare held n 3 [a] = some y0 := by simpa [cofI, cofU, cofR, cofS] using hf 0 _ rfl
      have t1 : DataW.trod enc Tryd.prog w base spare held n 3 [b] = some y1 := by simpa [cofI, cofU, cofR, cofS] using hf 1 _ rfl
      have t2 : DataW.trod enc Tryd.prog w base spare held n 3 [c] = some y2 := by simpa [cofI, cofU, cofR, cofS] using hf 2 _ rfl
      have t3 : DataW.trod enc Tryd.prog w base spare held n 3 [d] = some y3 := by simpa [cofI, cofU, cofR, cofS] using hf 3 _ rfl
      obtain ⟨n0, e0, _, w0⟩ := DataW.trod_int Tryd.underlying3 t0
      obtain ⟨n1, e1, _, w1⟩ := DataW.trod_int Tryd.underlying3 t1
      obtain ⟨n2, e2, _, w2⟩ := DataW.trod_int Tryd.underlying3 t2
      obtain ⟨n3, e3, _, w3⟩ := DataW.trod_int Tryd.underlying3 t3
      injection e0 with e0 _
      injection e1 with e1 _
      injection e2 with e2 _
      injection e3 with e3 _
      exact ⟨⟨n0, n1, n2, n3⟩, by rw [e0, e1, e2, e3], wf_i64 w0, wf_i64 w1, wf_i64 w2, wf_i64 w3⟩

set_option maxRecDepth 100000 in
theorem lifted (os : Os) (started : os.Started) (H : Type) (enc : TypeId × Value → H) (F : Stop.Interp) :
    ReturnsInHanded {} Tryd.checked os 5 .any ((OpenSpec.ofChange Rows.printHeadsSpec).preRow enc Tryd.prog Tryd.f5 Rows.printHeadsRow.domain false Rows.printHeadsRow.laid) (((OpenSpec.ofChange Rows.printHeadsSpec).at F).post enc Tryd.prog Tryd.f5 false true false false) := by
  refine returnsInHanded_of_row (C := Tryd.checked) (s := OpenSpec.ofChange Rows.printHeadsSpec) LaidE.own started (by kernel_rfl) Tryd.func5
    (witness_row_at (enc := enc) (C := Tryd.checked) false (LaidE.laidWorld os) #[.agg #[.int .i64 0, .int .i64 0, .int .i64 0, .int .i64 0]] rfl (by kernel_rfl) (by kernel_rfl) (by kernel_rfl)
      (OpenSpec.preRow_of_cond (x := ([.agg [.lit (.int .i64 0), .lit (.int .i64 0), .lit (.int .i64 0), .lit (.int .i64 0)]], [], [])) 8 (by kernel_rfl) (by kernel_rfl) (fun k hk => by cases hk) (by kernel_rfl) (LaidE.laid3_met os _))) ?_
  intro W base args ds gs before hval0 hW _ _ _ hL _ _
  have hval : ∀ (j : Nat) t v, Tryd.f5.params[j]? = some t → args[j]? = some v → Value.okWide Tryd.prog W .any base t v := hval0
  have hW' := hW
  obtain ⟨p, q, hA0, hV, rfl, hfz, hnd⟩ := hW
  have hA : DataW.TrodAll enc Tryd.prog W 0 (fun _ => true) true Tryd.f5.params.toList args.toList ds p := hA0
  rw [Tryd.params5] at hA hval
  obtain ⟨v0, vs0, d0, ds0, p0, q0, hargs, rfl, rfl, h0, r0⟩ := trodAll_cons hA
  obtain ⟨rfl, rfl, rfl⟩ := trodAll_nil r0
  obtain rfl : args = #[v0] := by cases args; simp_all
  obtain ⟨rfl, rfl⟩ := trodVars_none hV
  obtain ⟨cs, rfl, hsz⟩ := okWide_struct Tryd.underlying23 (hval 0 23 v0 rfl rfl)
  have k0 := h0
  have lt0 : ∀ x ∈ p0, x.block < W.heap.size := by obtain ⟨m, hm⟩ := k0; exact DataW.trod_lt m _ _ _ hm
  obtain ⟨r, hcs, hr⟩ : ∃ r : SR, cs.toList = [.int .i64 r.f0, .int .i64 r.f1, .int .i64 r.f2, .int .i64 r.f3] ∧ RIR r := by
    obtain ⟨fuel, hf⟩ := h0
    exact opens_rectW hf
  obtain rfl : cs = #[.int .i64 r.f0, .int .i64 r.f1, .int .i64 r.f2, .int .i64 r.f3] := by
    have := congrArg List.toArray hcs
    simpa using this
  clear hA0 hval0
  refine (printHeads_calls W r hr (LaidE.numT3 hL)).mono fun e W' ⟨he, bel⟩ => ?_
  subst he
  exact ⟨_, rfl, _, _, _, [], _, [], hW', trodAll_mk1 (shut_bool Tryd.underlying4 _), trodAll_cons_mk (Below.trod laidOut (by kernel_rfl) (of_decide_eq_true (by kernel_rfl)) k0 bel lt0) trodAll_mk0, rfl, bel.frame _, fun h => by cases h⟩

theorem said : Rows.PrintHeadsSaid :=
  OpenClaim.holds_of_cond 5 Tryd.f5 rfl rfl rfl rfl rfl rfl rfl ⟨rfl, rfl, rfl, rfl, rfl⟩ rfl rfl rfl rfl rfl (by kernel_rfl) Tryd.func5 (by kernel_rfl)
    (of_decide_eq_true (by kernel_rfl)) (by unfold Func.isWrapper; first | (rw [if_pos (by decide +kernel)]; kernel_rfl) | (rw [if_neg (by decide +kernel)]; exact ⟨rfl, rfl⟩))
    (fun os started H enc _ F => by rw [OpenClaim.pre_eq_preRow]; exact lifted os started H enc F)

theorem plain (f : FuncId) (fn : Func) (hf : Tryd.pinned.checked.prog.funcNamed "sash/sashlaw10.PrintHeads" = some f) (hfn : Tryd.pinned.checked.prog.funcs[f]? = some fn) :
    true = Tryd.pinned.checked.prog.looks [] ∧ ∀ (j : Nat) t, fn.params[j]? = some t → Tryd.pinned.checked.prog.wantsStandIn t = false := by
  obtain rfl : f = 5 := Option.some.inj ((show Tryd.prog.funcNamed "sash/sashlaw10.PrintHeads" = some 5 by kernel_rfl).symm.trans hf) |>.symm
  obtain rfl : fn = Tryd.f5 := (Option.some.inj (Tryd.func5.symm.trans hfn)).symm
  refine ⟨by kernel_rfl, fun j t ht => ?_⟩
  rw [Tryd.params5] at ht
  obtain rfl : t = 23 := by simpa using Array.mem_of_getElem? ht
  exact (show Tryd.prog.wantsStandIn 23 = false by kernel_rfl)

/-- THE STATEMENT. -/
theorem proved : Rows.PrintHeadsCardSaid :=
  Claim7.holds_tied_plain_at .later [] _ _ _ _ said (fun _ h => by cases h) (by kernel_rfl) (fun _ h => by cases h) printHeads_row_tie rfl ⟨rfl, rfl⟩ (by kernel_rfl) rfl plain (by kernel_rfl)
#print axioms proved
end Go.Proofs.YtakhnigalkjhhaaDoor.printHeads
