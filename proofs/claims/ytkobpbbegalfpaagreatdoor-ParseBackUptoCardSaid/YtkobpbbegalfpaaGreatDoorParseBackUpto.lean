/-
 ParseBack: the row and its tied card, the second form: what is read is of bulk at most 1048576.
-/
import Derived.Test.YtkobpbbegalfpaaGreatDoorOpen
import Derived.Test.YtkobpbbegalfpaaGreatDoorLaidY
import Derived.ShutString
import Derived.Below
import Derived.ChangeOld
import Derived.Test.YtkobpbbegalfpaaGreatDoorCards
import Derived.Test.YtkobpbbegalfpaaGreatDoorTie
import Derived.WalkKit
import Derived.ProofKit
import Derived.OpenShut
import Derived.Deep.DeepHandedRow
namespace Go.Proofs.YtkobpbbegalfpaaGreatDoor.parseBack
open Go.ChangeShapes Go.WideShapes Go.ChangeAt Go.RowKit Go.Proofs.YtkobpbbegalfpaaGreatDoor Go.Proofs.YtkobpbbegalfpaaGreatDoor.PParseBodies Go.Proofs.YtkobpbbegalfpaaGreatDoorW.PrintWords
set_option linter.unusedVariables false
theorem laidOut : laidOutB Tryz.prog = true := by kernel_rfl
set_option maxRecDepth 100000 in
theorem lifted (os : Os) (started : os.Started) (H : Type) (enc : TypeId × Value → H) (F : Stop.Interp) :
  ReturnsInHanded {} Tryz.checked os 7 .any ((Rows.OpenSpec.upto Rows.parseBackSpec).preRow enc Tryz.prog Tryz.f7 Rows.parseBackUptoRow.domain false Rows.parseBackUptoRow.laid) (((Rows.OpenSpec.upto Rows.parseBackSpec).at F).post enc Tryz.prog Tryz.f7 false true false false) := by
 refine returnsInHanded_of_row (C := Tryz.checked) (s := Rows.OpenSpec.upto Rows.parseBackSpec) LaidE.own started (by kernel_rfl) Tryz.func7
  (witness_row_at (enc := enc) (C := Tryz.checked) false (LaidE.laidWorld os) #[.agg #[.int .u8 0, .int .i64 0, .int .i64 0, .int .i64 0, .int .i64 0, .int .i64 0, .slice none 0 0]] rfl (by kernel_rfl) (by kernel_rfl) (by kernel_rfl)
   (OpenSpec.preRow_of_cond (x := ([.agg [.lit (.int .u8 0), .agg [.lit (.int .i64 0), .lit (.int .i64 0), .lit (.int .i64 0), .lit (.int .i64 0)], .lit (.int .i64 0), .nil]], [], [])) 8 (by kernel_rfl) (by kernel_rfl) (fun k hk => by cases hk; kernel_rfl) (by kernel_rfl) (LaidE.laid6_met os _))) ?_
 intro W base args ds gs before hval0 hW x1 x2 x3 hL x4 x5
 have hk : Rows.uptoSmall H (ds ++ gs) = true := by first | exact x1 _ rfl | exact x2 _ rfl | exact x3 _ rfl | exact x4 _ rfl
 have hval : ∀ (j : Nat) t v, Tryz.f7.params[j]? = some t → args[j]? = some v → Value.okWide Tryz.prog W .any base t v := hval0
 have hW' := hW
 obtain ⟨p, q, hA0, hV, rfl, hfz, hnd⟩ := hW
 have hA : DataW.TrodAll enc Tryz.prog W 0 (fun _ => true) true Tryz.f7.params.toList args.toList ds p := hA0
 rw [Tryz.params7] at hA hval
 obtain ⟨v0, vs0, d0, ds0, p0, q0, hargs, rfl, rfl, h0, r0⟩ := trodAll_cons hA
 obtain ⟨rfl, rfl, rfl⟩ := trodAll_nil r0
 obtain rfl : args = #[v0] := by cases args; simp_all
 obtain ⟨rfl, rfl⟩ := trodVars_none hV
 obtain ⟨cs0, rfl, hcs0⟩ := okWide_struct Tryz.underlying27 (hval 0 27 v0 rfl rfl)
 have hb : Rows.uptoBulk d0 ≤ 1048576 := by
  have h := of_decide_eq_true hk
  simp only [Rows.uptoBulkAll, List.append_nil] at h
  omega
 have k0 := h0
 have lt0 : ∀ x ∈ p0, x.block < W.heap.size := by obtain ⟨m, hm⟩ := k0; exact DataW.trod_lt m _ _ _ hm
 obtain ⟨c, hK, hbk⟩ : ∃ c : SC, (k27).K W c cs0.toList ∧ (cells c).length ≤ Rows.uptoBulk d0 := by
  obtain ⟨fuel, hf⟩ := h0
  exact opens_cell 1048576 fuel _ (d0, p0) hb hf
 obtain ⟨A6, c6, he, hcap, hC⟩ := k27_open hK
 obtain rfl : cs0 = #[.int .u8 c.f0, .int .i64 c.f1.f0, .int .i64 c.f1.f1, .int .i64 c.f1.f2, .int .i64 c.f1.f3, .int .i64 c.f2, .slice A6 c.f3.length c6] := by
  apply Array.toList_inj.1
  simpa using he
 clear hA0 hval0
 refine (parseBack_calls W c _ _ (by omega) hC hcap (LaidE.numT (LaidE.parts6 hL).1) (LaidE.numE (LaidE.parts6 hL).1) (LaidE.errTH (LaidE.parts6 hL).2)).mono fun e W' ⟨he, bel⟩ => ?_
 subst he
 exact ⟨_, rfl, _, _, _, [], _, [], hW', trodAll_mk1 (shut_bool Tryz.underlying4 _), trodAll_cons_mk (Below.trod laidOut (by kernel_rfl) (of_decide_eq_true (by kernel_rfl)) k0 bel lt0) trodAll_mk0, rfl, bel.frame _, fun h => by cases h⟩
theorem said : Rows.ParseBackUptoSaid :=
 OpenClaim.holds_of_cond 7 Tryz.f7 rfl rfl rfl rfl rfl rfl rfl ⟨rfl, rfl, rfl, rfl, rfl⟩ rfl rfl rfl rfl rfl (by kernel_rfl) Tryz.func7 (by kernel_rfl)
  (of_decide_eq_true (by kernel_rfl)) (by unfold Func.isWrapper; first | (rw [if_pos (by decide +kernel)]; kernel_rfl) | (rw [if_neg (by decide +kernel)]; exact ⟨rfl, rfl⟩))
  (fun os started H enc _ F => by rw [OpenClaim.pre_eq_preRow]; exact lifted os started H enc F)
theorem plain (f : FuncId) (fn : Func) (hf : Tryz.pinned.checked.prog.funcNamed "sash/sashlaw11.ParseBack" = some f) (hfn : Tryz.pinned.checked.prog.funcs[f]? = some fn) :
  true = Tryz.pinned.checked.prog.looks [] ∧ ∀ (j : Nat) t, fn.params[j]? = some t → Tryz.pinned.checked.prog.wantsStandIn t = false := by
 obtain rfl : f = 7 := Option.some.inj ((show Tryz.prog.funcNamed "sash/sashlaw11.ParseBack" = some 7 by kernel_rfl).symm.trans hf) |>.symm
 obtain rfl : fn = Tryz.f7 := (Option.some.inj (Tryz.func7.symm.trans hfn)).symm
 refine ⟨by kernel_rfl, fun j t ht => ?_⟩
 rw [Tryz.params7] at ht
 obtain rfl : t = 27 := by simpa using Array.mem_of_getElem? ht
 exact (show Tryz.prog.wantsStandIn 27 = false by kernel_rfl)
theorem proved : Rows.ParseBackUptoCardSaid :=
 Claim7.holds_tied_plain_at .later [] _ _ _ _ said (fun _ h => by cases h) (by kernel_rfl) (fun _ h => by cases h) parseBackUpto_row_tie rfl ⟨rfl, rfl⟩ (by kernel_rfl) rfl plain (by kernel_rfl)
#print axioms proved
end Go.Proofs.YtkobpbbegalfpaaGreatDoor.parseBack
