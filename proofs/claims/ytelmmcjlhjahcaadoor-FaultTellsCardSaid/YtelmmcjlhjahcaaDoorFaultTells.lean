/-
  FaultTells: the row and its tied card.
-/
import Derived.Test.YtelmmcjlhjahcaaDoorFaLaw
import Derived.Test.YtelmmcjlhjahcaaDoorOpen3
import Derived.Test.YtelmmcjlhjahcaaDoorLaid
import Derived.Test.YtelmmcjlhjahcaaDoorCards
import Derived.Test.YtelmmcjlhjahcaaDoorTie
import Derived.WalkKit
import Derived.ProofKit
import Derived.OpenShut
import Derived.Deep.DeepHandedRow
namespace Go.Proofs.YtelmmcjlhjahcaaDoor.faultTells
open Go.ChangeShapes Go.WideShapes Go.ChangeAt Go.RowKit Go.Proofs.YtelmmcjlhjahcaaDoor Go.Proofs.YtelmmcjlhjahcaaDoor.PFaultTells Go.Proofs.YtelmmcjlhjahcaaDoorW.PrintWords
set_option linter.unusedVariables false

theorem laidOut : laidOutB Tryd.prog = true := by kernel_rfl

theorem opens_F {H : Type} (enc : TypeId × Value → H) (w : World) (base : Nat) (spare : Nat → Bool) (held : Bool) :
    Opens enc Tryd.prog w base spare held 24 k24 (fun _ => True) := by
  intro fuel cs x h
  obtain ⟨f, hf, _⟩ := opens_iso (f := fun x : S24 => (x.f0, x.f1, x.f2)) (g := fun p => S24.mk p.1 p.2.1 p.2.2) (fun _ => rfl)
    (opens_triple Tryd.underlying24 rfl rfl rfl (by kernel_rfl) (by kernel_rfl) (by kernel_rfl) (by kernel_rfl) (opens_int Tryd.underlying3) (opens_int Tryd.underlying3)
      (opens_slice Tryd.underlying22 (by kernel_rfl) (opens_slice Tryd.underlying36 (by kernel_rfl) (opens_string Tryd.underlying9)))) fuel cs x h
  exact ⟨f, hf, trivial⟩

set_option maxRecDepth 100000 in
theorem lifted (os : Os) (started : os.Started) (H : Type) (enc : TypeId × Value → H) (F : Stop.Interp) :
    ReturnsInHanded {} Tryd.checked os 3 .any ((OpenSpec.ofChange Rows.faultTellsSpec).preRow enc Tryd.prog Tryd.f3 Rows.faultTellsRow.domain false Rows.faultTellsRow.laid) (((OpenSpec.ofChange Rows.faultTellsSpec).at F).post enc Tryd.prog Tryd.f3 false true false false) := by
  refine returnsInHanded_of_row (C := Tryd.checked) (s := OpenSpec.ofChange Rows.faultTellsSpec) LaidE.own started (by kernel_rfl) Tryd.func3
    (witness_row_at (enc := enc) (C := Tryd.checked) false (LaidE.laidWorld os) #[.agg #[.int .i64 0, .int .i64 0, .slice none 0 0]] rfl (by kernel_rfl) (by kernel_rfl) (by kernel_rfl)
      (OpenSpec.preRow_of_cond (x := ([.agg [.lit (.int .i64 0), .lit (.int .i64 0), .nil]], [], [])) 8 (by kernel_rfl) (by kernel_rfl) (fun k hk => by cases hk) (by kernel_rfl) (LaidE.laidWorld_met os _))) ?_
  intro W base args ds gs before hval0 hW _ _ _ hL _ _
  have hval : ∀ (j : Nat) t v, Tryd.f3.params[j]? = some t → args[j]? = some v → Value.okWide Tryd.prog W .any base t v := hval0
  have hW' := hW
  obtain ⟨p, q, hA0, hV, rfl, hfz, hnd⟩ := hW
  have hA : DataW.TrodAll enc Tryd.prog W 0 (fun _ => true) true Tryd.f3.params.toList args.toList ds p := hA0
  rw [Tryd.params3] at hA hval
  obtain ⟨v0, vs0, d0, ds0, p0, q0, hargs, rfl, rfl, h0, r0⟩ := trodAll_cons hA
  obtain ⟨rfl, rfl, rfl⟩ := trodAll_nil r0
  obtain rfl : args = #[v0] := by cases args; simp_all
  obtain ⟨rfl, rfl⟩ := trodVars_none hV
  obtain ⟨cs, rfl, hsz⟩ := okWide_struct Tryd.underlying24 (hval 0 24 v0 rfl rfl)
  have k0 := h0
  have lt0 : ∀ x ∈ p0, x.block < W.heap.size := by obtain ⟨m, hm⟩ := k0; exact DataW.trod_lt m _ _ _ hm
  obtain ⟨f, hK⟩ : ∃ f, (k24).K W f cs.toList := by
    obtain ⟨fuel, hf⟩ := h0
    obtain ⟨f, hf, _⟩ := opens_F enc W _ _ _ fuel _ _ hf
    exact ⟨f, hf⟩
  obtain ⟨A0, c0, hcs, hlc, hC⟩ := k24_open hK
  obtain rfl : cs = #[.int .i64 f.f0, .int .i64 f.f1, .slice A0 f.f2.length c0] := by
    have := congrArg List.toArray hcs
    simpa using this
  clear hA0 hval0
  refine (tells_calls W _ _ _ _ _ f.f2 hC hlc (LaidE.errT hL)).mono fun e W' ⟨he, bel⟩ => ?_
  subst he
  exact ⟨_, rfl, _, _, _, [], _, [], hW', trodAll_mk1 (shut_bool Tryd.underlying4 _), trodAll_cons_mk (Below.trod laidOut (by kernel_rfl) (of_decide_eq_true (by kernel_rfl)) k0 bel lt0) trodAll_mk0, rfl, bel.frame _, fun h => by cases h⟩

theorem said : Rows.FaultTellsSaid :=
  OpenClaim.holds_of_cond 3 Tryd.f3 rfl rfl rfl rfl rfl rfl rfl ⟨rfl, rfl, rfl, rfl, rfl⟩ rfl rfl rfl rfl rfl (by kernel_rfl) Tryd.func3 (by kernel_rfl)
    (of_decide_eq_true (by kernel_rfl)) (by unfold Func.isWrapper; first | (rw [if_pos (by decide +kernel)]; kernel_rfl) | (rw [if_neg (by decide +kernel)]; exact ⟨rfl, rfl⟩))
    (fun os started H enc _ F => by rw [OpenClaim.pre_eq_preRow]; exact lifted os started H enc F)

theorem plain (f : FuncId) (fn : Func) (hf : Tryd.pinned.checked.prog.funcNamed "sash/sashlaw03.FaultTells" = some f) (hfn : Tryd.pinned.checked.prog.funcs[f]? = some fn) :
    true = Tryd.pinned.checked.prog.looks [] ∧ ∀ (j : Nat) t, fn.params[j]? = some t → Tryd.pinned.checked.prog.wantsStandIn t = false := by
  obtain rfl : f = 3 := Option.some.inj ((show Tryd.prog.funcNamed "sash/sashlaw03.FaultTells" = some 3 by kernel_rfl).symm.trans hf) |>.symm
  obtain rfl : fn = Tryd.f3 := (Option.some.inj (Tryd.func3.symm.trans hfn)).symm
  refine ⟨by kernel_rfl, fun j t ht => ?_⟩
  rw [Tryd.params3] at ht
  obtain rfl : t = 24 := by simpa using Array.mem_of_getElem? ht
  exact (show Tryd.prog.wantsStandIn 24 = false by kernel_rfl)

/-- THE STATEMENT. -/
theorem proved : Rows.FaultTellsCardSaid :=
  Claim7.holds_tied_plain_at .later [] _ _ _ _ said (fun _ h => by cases h) (by kernel_rfl) (fun _ h => by cases h) faultTells_row_tie rfl ⟨rfl, rfl⟩ (by kernel_rfl) rfl plain (by kernel_rfl)
#print axioms proved
end Go.Proofs.YtelmmcjlhjahcaaDoor.faultTells
