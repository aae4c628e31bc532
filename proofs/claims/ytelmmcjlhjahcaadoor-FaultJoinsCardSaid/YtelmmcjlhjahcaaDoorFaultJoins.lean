/-
  FaultJoins: the row and its tied card.
-/
import Derived.Test.YtelmmcjlhjahcaaDoorFjMany
import Derived.Test.YtelmmcjlhjahcaaDoorLaid
import Derived.Test.YtelmmcjlhjahcaaDoorOpen3
import Derived.Test.YtelmmcjlhjahcaaDoorOpen
import Derived.ShutString
import Derived.Below
import Derived.ChangeOld
import Derived.Test.YtelmmcjlhjahcaaDoorCards
import Derived.Test.YtelmmcjlhjahcaaDoorTie
import Derived.WalkKit
import Derived.ProofKit
import Derived.OpenShut
import Derived.Deep.DeepHandedRow
namespace Go.Proofs.YtelmmcjlhjahcaaDoor.faultJoins
open Go.ChangeMaps (open_string shut_string)
open Go.Proofs.YtelmmcjlhjahcaaDoor.PFaultTells
open Go.ChangeShapes Go.WideShapes Go.ChangeAt Go.RowKit Go.Proofs.YtelmmcjlhjahcaaDoor Go.Proofs.YtelmmcjlhjahcaaDoorW.PrintWords
set_option linter.unusedVariables false

theorem laidOut : laidOutB Tryd.prog = true := by kernel_rfl

instance : Inhabited S24 := ⟨z24⟩
theorem opens_F {H : Type} (enc : TypeId × Value → H) (w : World) (base : Nat) (spare : Nat → Bool) (held : Bool) :
    Opens enc Tryd.prog w base spare held 24 k24 (fun _ => True) := by
  intro fuel cs x h
  obtain ⟨f, hf, _⟩ := opens_iso (f := fun x : S24 => (x.f0, x.f1, x.f2)) (g := fun p => S24.mk p.1 p.2.1 p.2.2) (fun _ => rfl)
    (opens_triple Tryd.underlying24 rfl rfl rfl (by kernel_rfl) (by kernel_rfl) (by kernel_rfl) (by kernel_rfl) (opens_int Tryd.underlying3) (opens_int Tryd.underlying3)
      (opens_slice Tryd.underlying22 (by kernel_rfl) (opens_slice Tryd.underlying36 (by kernel_rfl) (opens_string Tryd.underlying9)))) fuel cs x h
  exact ⟨f, hf, trivial⟩

set_option maxRecDepth 100000 in
theorem lifted (os : Os) (started : os.Started) (H : Type) (enc : TypeId × Value → H) (F : Stop.Interp) :
    ReturnsInHanded {} Tryd.checked os 8 .any ((OpenSpec.ofChange Rows.faultJoinsSpec).preRow enc Tryd.prog Tryd.f8 Rows.faultJoinsRow.domain false Rows.faultJoinsRow.laid) (((OpenSpec.ofChange Rows.faultJoinsSpec).at F).post enc Tryd.prog Tryd.f8 false true false false) := by
  refine returnsInHanded_of_row (C := Tryd.checked) (s := OpenSpec.ofChange Rows.faultJoinsSpec) LaidE.own started (by kernel_rfl) Tryd.func8
    (witness_row_at (enc := enc) (C := Tryd.checked) false (LaidE.laidWorld os) #[.slice none 0 0, .slice none 0 0, .int .i64 0] rfl (by kernel_rfl) (by kernel_rfl) (by kernel_rfl)
      (OpenSpec.preRow_of_cond (x := ([.nil, .nil, .lit (.int .i64 0)], [], [])) 8 (by kernel_rfl) (by kernel_rfl) (fun k hk => by cases hk) (by kernel_rfl) (LaidE.laidWorld_met os _))) ?_
  intro W base args ds gs before hval0 hW _ _ _ hL _ _
  have hval : ∀ (j : Nat) t v, Tryd.f8.params[j]? = some t → args[j]? = some v → Value.okWide Tryd.prog W .any base t v := hval0
  have hW' := hW
  obtain ⟨p, q, hA0, hV, rfl, hfz, hnd⟩ := hW
  have hA : DataW.TrodAll enc Tryd.prog W 0 (fun _ => true) true Tryd.f8.params.toList args.toList ds p := hA0
  rw [Tryd.params8] at hA hval
  obtain ⟨v0, vs0, d0, ds0, p0, q0, hargs, rfl, rfl, h0, r0⟩ := trodAll_cons hA
  obtain ⟨v1, vs1, d1, ds1, p1, q1, rfl, rfl, rfl, h1, r1⟩ := trodAll_cons r0
  obtain ⟨v2, vs2, d2, ds2, p2, q2, rfl, rfl, rfl, h2, r2⟩ := trodAll_cons r1
  obtain ⟨rfl, rfl, rfl⟩ := trodAll_nil r2
  obtain rfl : args = #[v0, v1, v2] := by cases args; simp_all
  obtain ⟨rfl, rfl⟩ := trodVars_none hV
  obtain ⟨A0, len0, cap0, rfl⟩ := okWide_slice Tryd.underlying26 (hval 0 26 v0 rfl rfl)
  have k0 := h0
  have lt0 : ∀ x ∈ p0, x.block < W.heap.size := by obtain ⟨m, hm⟩ := k0; exact DataW.trod_lt m _ _ _ hm
  obtain ⟨l0, ⟨B0, c0, hcs0, hlc0, hC0⟩, hg0⟩ : ∃ l0, (Kd.slice 24 k24).K W l0 [.slice A0 len0 cap0] ∧ ∀ x ∈ l0, (fun _ => True) x := by
    obtain ⟨fuel, hf⟩ := h0
    exact opens_slice Tryd.underlying26 (by kernel_rfl) (opens_F enc W _ _ _) fuel _ _ hf
  obtain ⟨rfl, rfl, rfl⟩ : A0 = B0 ∧ len0 = l0.length ∧ cap0 = c0 := by simpa using hcs0
  obtain ⟨A1, len1, cap1, rfl⟩ := okWide_slice Tryd.underlying36 (hval 1 36 v1 rfl rfl)
  have k1 := h1
  have lt1 : ∀ x ∈ p1, x.block < W.heap.size := by obtain ⟨m, hm⟩ := k1; exact DataW.trod_lt m _ _ _ hm
  obtain ⟨l1, ⟨B1, c1, hcs1, hlc1, hC1⟩, hg1⟩ : ∃ l1, (Kd.slice 9 Kd.string).K W l1 [.slice A1 len1 cap1] ∧ ∀ x ∈ l1, (fun s => s.size ≤ maxLen) x := by
    obtain ⟨fuel, hf⟩ := h1
    exact opens_slice Tryd.underlying36 (by kernel_rfl) (opens_string Tryd.underlying9) fuel _ _ hf
  obtain ⟨rfl, rfl, rfl⟩ : A1 = B1 ∧ len1 = l1.length ∧ cap1 = c1 := by simpa using hcs1
  obtain ⟨n2, rfl, rfl, rfl, hw2⟩ := open_int Tryd.underlying3 (hval 2 3 v2 rfl rfl) h2
  clear hA0 hval0
  refine (joins_calls W _ _ _ l0 _ _ _ l1 _ hC0 hlc0 hC1 hlc1 (LaidE.errT hL)).mono fun e W' ⟨he, bel⟩ => ?_
  subst he
  exact ⟨_, rfl, _, _, _, [], _, [], hW', trodAll_mk1 (shut_bool Tryd.underlying4 _), (trodAll_cons_mk (Below.trod laidOut (by kernel_rfl) (of_decide_eq_true (by kernel_rfl)) k0 bel lt0) (trodAll_cons_mk (Below.trod laidOut (by kernel_rfl) (of_decide_eq_true (by kernel_rfl)) k1 bel lt1) (trodAll_cons_mk (shut_int Tryd.underlying3 hw2) trodAll_mk0))), rfl, bel.frame _, fun h => by cases h⟩

theorem said : Rows.FaultJoinsSaid :=
  OpenClaim.holds_of_cond 8 Tryd.f8 rfl rfl rfl rfl rfl rfl rfl ⟨rfl, rfl, rfl, rfl, rfl⟩ rfl rfl rfl rfl rfl (by kernel_rfl) Tryd.func8 (by kernel_rfl)
    (of_decide_eq_true (by kernel_rfl)) (by unfold Func.isWrapper; first | (rw [if_pos (by decide +kernel)]; kernel_rfl) | (rw [if_neg (by decide +kernel)]; exact ⟨rfl, rfl⟩))
    (fun os started H enc _ F => by rw [OpenClaim.pre_eq_preRow]; exact lifted os started H enc F)

theorem plain (f : FuncId) (fn : Func) (hf : Tryd.pinned.checked.prog.funcNamed "sash/sashlaw03.FaultJoins" = some f) (hfn : Tryd.pinned.checked.prog.funcs[f]? = some fn) :
    true = Tryd.pinned.checked.prog.looks [] ∧ ∀ (j : Nat) t, fn.params[j]? = some t → Tryd.pinned.checked.prog.wantsStandIn t = false := by
  obtain rfl : f = 8 := Option.some.inj ((show Tryd.prog.funcNamed "sash/sashlaw03.FaultJoins" = some 8 by kernel_rfl).symm.trans hf) |>.symm
  obtain rfl : fn = Tryd.f8 := (Option.some.inj (Tryd.func8.symm.trans hfn)).symm
  refine ⟨by kernel_rfl, fun j t ht => ?_⟩
  rw [Tryd.params8] at ht
  have hm := Array.mem_of_getElem? ht
  have ht' : t = 26 ∨ t = 36 ∨ t = 3 := by simpa using hm
  rcases ht' with rfl | rfl | rfl
  · exact (show Tryd.prog.wantsStandIn 26 = false by kernel_rfl)
  · exact (show Tryd.prog.wantsStandIn 36 = false by kernel_rfl)
  · exact (show Tryd.prog.wantsStandIn 3 = false by kernel_rfl)

/-- THE STATEMENT. -/
theorem proved : Rows.FaultJoinsCardSaid :=
  Claim7.holds_tied_plain_at .later [] _ _ _ _ said (fun _ h => by cases h) (by kernel_rfl) (fun _ h => by cases h) faultJoins_row_tie rfl ⟨rfl, rfl⟩ (by kernel_rfl) rfl plain (by kernel_rfl)
#print axioms proved
end Go.Proofs.YtelmmcjlhjahcaaDoor.faultJoins
