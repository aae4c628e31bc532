/-
  PrintApart: the row and its tied card, the second form: what is read is of bulk at most 1048576.
-/
import Derived.Test.YtakhnigalkjhhaaDoorPrApart
import Derived.Test.YtakhnigalkjhhaaDoorTiOpen
import Derived.Test.YtakhnigalkjhhaaDoorLaidP
import Derived.ShutString
import Derived.Below
import Derived.ChangeOld
import Derived.Test.YtakhnigalkjhhaaDoorCards
import Derived.Test.YtakhnigalkjhhaaDoorTie
import Derived.WalkKit
import Derived.ProofKit
import Derived.OpenShut
import Derived.Deep.DeepHandedRow
namespace Go.Proofs.YtakhnigalkjhhaaDoor.printApart
open Go.ChangeShapes Go.WideShapes Go.ChangeAt Go.RowKit Go.Proofs.YtakhnigalkjhhaaDoor Go.Proofs.YtakhnigalkjhhaaDoor.PTileChecks Go.Proofs.YtakhnigalkjhhaaDoorW.PrintWords
set_option linter.unusedVariables false

theorem laidOut : laidOutB Tryd.prog = true := by kernel_rfl

set_option maxRecDepth 100000 in
theorem lifted (os : Os) (started : os.Started) (H : Type) (enc : TypeId × Value → H) (F : Stop.Interp) :
    ReturnsInHanded {} Tryd.checked os 6 .any ((Rows.OpenSpec.upto Rows.printApartSpec).preRow enc Tryd.prog Tryd.f6 Rows.printApartUptoRow.domain false Rows.printApartUptoRow.laid) (((Rows.OpenSpec.upto Rows.printApartSpec).at F).post enc Tryd.prog Tryd.f6 false true false false) := by
  refine returnsInHanded_of_row (C := Tryd.checked) (s := Rows.OpenSpec.upto Rows.printApartSpec) LaidE.own started (by kernel_rfl) Tryd.func6
    (witness_row_at (enc := enc) (C := Tryd.checked) false (LaidE.laidWorld os) #[.agg #[.int .u8 0, .int .i64 0, .int .i64 0, .int .i64 0, .int .i64 0, .int .i64 0, .slice none 0 0], .agg #[.int .u8 0, .int .i64 0, .int .i64 0, .int .i64 0, .int .i64 0, .int .i64 0, .slice none 0 0]] rfl (by kernel_rfl) (by kernel_rfl) (by kernel_rfl)
      (OpenSpec.preRow_of_cond (x := ([.agg [.lit (.int .u8 0), .agg [.lit (.int .i64 0), .lit (.int .i64 0), .lit (.int .i64 0), .lit (.int .i64 0)], .lit (.int .i64 0), .nil], .agg [.lit (.int .u8 0), .agg [.lit (.int .i64 0), .lit (.int .i64 0), .lit (.int .i64 0), .lit (.int .i64 0)], .lit (.int .i64 0), .nil]], [], [])) 8 (by kernel_rfl) (by kernel_rfl) (fun k hk => by cases hk; kernel_rfl) (by kernel_rfl) (LaidE.laid3_met os _))) ?_
  intro W base args ds gs before hval0 hW x1 x2 x3 hL x4 x5
  have hk : Rows.uptoSmall H (ds ++ gs) = true := by first | exact x1 _ rfl | exact x2 _ rfl | exact x3 _ rfl | exact x4 _ rfl
  have hval : ∀ (j : Nat) t v, Tryd.f6.params[j]? = some t → args[j]? = some v → Value.okWide Tryd.prog W .any base t v := hval0
  have hW' := hW
  obtain ⟨p, q, hA0, hV, rfl, hfz, hnd⟩ := hW
  have hA : DataW.TrodAll enc Tryd.prog W 0 (fun _ => true) true Tryd.f6.params.toList args.toList ds p := hA0
  rw [Tryd.params6] at hA hval
  obtain ⟨v0, vs0, d0, ds0, p0, q0, hargs, rfl, rfl, h0, r0⟩ := trodAll_cons hA
  obtain ⟨v1, vs1, d1, ds1, p1, q1, rfl, rfl, rfl, h1, r1⟩ := trodAll_cons r0
  obtain ⟨rfl, rfl, rfl⟩ := trodAll_nil r1
  obtain rfl : args = #[v0, v1] := by cases args; simp_all
  obtain ⟨rfl, rfl⟩ := trodVars_none hV
  obtain ⟨cs0, rfl, hcs0⟩ := okWide_struct Tryd.underlying26 (hval 0 26 v0 rfl rfl)
  obtain ⟨cs1, rfl, hcs1⟩ := okWide_struct Tryd.underlying26 (hval 1 26 v1 rfl rfl)
  have hb : Rows.uptoBulk d0 ≤ 1048576 ∧ Rows.uptoBulk d1 ≤ 1048576 := by
    have h := of_decide_eq_true hk
    simp only [Rows.uptoBulkAll, List.append_nil] at h
    omega
  have k0 := h0
  have k1 := h1
  have lt0 : ∀ x ∈ p0, x.block < W.heap.size := by obtain ⟨m, hm⟩ := k0; exact DataW.trod_lt m _ _ _ hm
  have lt1 : ∀ x ∈ p1, x.block < W.heap.size := by obtain ⟨m, hm⟩ := k1; exact DataW.trod_lt m _ _ _ hm
  obtain ⟨c, hK, hbk⟩ : ∃ c : SC, (k26).K W c cs0.toList ∧ (cells c).length ≤ Rows.uptoBulk d0 := by
    obtain ⟨fuel, hf⟩ := h0
    exact opens_cell 1048576 fuel _ (d0, p0) hb.1 hf
  obtain ⟨d, hKd, hbd⟩ : ∃ c : SC, (k26).K W c cs1.toList ∧ (cells c).length ≤ Rows.uptoBulk d1 := by
    obtain ⟨fuel, hf⟩ := h1
    exact opens_cell 1048576 fuel _ (d1, p1) hb.2 hf
  obtain ⟨A6, c6, he, hcap, hC⟩ := k26_open hK
  obtain ⟨B6, e6, hed, hcapd, hD⟩ := k26_open hKd
  obtain rfl : cs0 = #[.int .u8 c.f0, .int .i64 c.f1.f0, .int .i64 c.f1.f1, .int .i64 c.f1.f2, .int .i64 c.f1.f3, .int .i64 c.f2, .slice A6 c.f3.length c6] := by
    apply Array.toList_inj.1
    simpa using he
  obtain rfl : cs1 = #[.int .u8 d.f0, .int .i64 d.f1.f0, .int .i64 d.f1.f1, .int .i64 d.f1.f2, .int .i64 d.f1.f3, .int .i64 d.f2, .slice B6 d.f3.length e6] := by
    apply Array.toList_inj.1
    simpa using hed
  clear hA0 hval0
  refine (printApart_calls W c d _ _ _ _ hC hD hcap hcapd (by omega) (by omega) (LaidE.numT3 hL)).mono fun e W' ⟨he, bel⟩ => ?_
  subst he
  exact ⟨_, rfl, _, _, _, [], _, [], hW', trodAll_mk1 (shut_bool Tryd.underlying4 _), trodAll_cons_mk (Below.trod laidOut (by kernel_rfl) (of_decide_eq_true (by kernel_rfl)) k0 bel lt0) (trodAll_cons_mk (Below.trod laidOut (by kernel_rfl) (of_decide_eq_true (by kernel_rfl)) k1 bel lt1) trodAll_mk0), rfl, bel.frame _, fun h => by cases h⟩

theorem said : Rows.PrintApartUptoSaid :=
  OpenClaim.holds_of_cond 6 Tryd.f6 rfl rfl rfl rfl rfl rfl rfl ⟨rfl, rfl, rfl, rfl, rfl⟩ rfl rfl rfl rfl rfl (by kernel_rfl) Tryd.func6 (by kernel_rfl)
    (of_decide_eq_true (by kernel_rfl)) (by unfold Func.isWrapper; first | (rw [if_pos (by decide +kernel)]; kernel_rfl) | (rw [if_neg (by decide +kernel)]; exact ⟨rfl, rfl⟩))
    (fun os started H enc _ F => by rw [OpenClaim.pre_eq_preRow]; exact lifted os started H enc F)

theorem plain (f : FuncId) (fn : Func) (hf : Tryd.pinned.checked.prog.funcNamed "sash/sashlaw10.PrintApart" = some f) (hfn : Tryd.pinned.checked.prog.funcs[f]? = some fn) :
    true = Tryd.pinned.checked.prog.looks [] ∧ ∀ (j : Nat) t, fn.params[j]? = some t → Tryd.pinned.checked.prog.wantsStandIn t = false := by
  obtain rfl : f = 6 := Option.some.inj ((show Tryd.prog.funcNamed "sash/sashlaw10.PrintApart" = some 6 by kernel_rfl).symm.trans hf) |>.symm
  obtain rfl : fn = Tryd.f6 := (Option.some.inj (Tryd.func6.symm.trans hfn)).symm
  refine ⟨by kernel_rfl, fun j t ht => ?_⟩
  rw [Tryd.params6] at ht
  obtain rfl : t = 26 := by simpa using Array.mem_of_getElem? ht
  exact (show Tryd.prog.wantsStandIn 26 = false by kernel_rfl)

/-- THE STATEMENT, its second form. -/
theorem proved : Rows.PrintApartUptoCardSaid :=
  Claim7.holds_tied_plain_at .later [] _ _ _ _ said (fun _ h => by cases h) (by kernel_rfl) (fun _ h => by cases h) printApartUpto_row_tie rfl ⟨rfl, rfl⟩ (by kernel_rfl) rfl plain (by kernel_rfl)
#print axioms proved
end Go.Proofs.YtakhnigalkjhhaaDoor.printApart
