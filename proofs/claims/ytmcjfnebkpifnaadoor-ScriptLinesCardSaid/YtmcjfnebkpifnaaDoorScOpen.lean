/-
  What happenings that came in read as.
-/
import Derived.Test.YtmcjfnebkpifnaaDoorScPure
import Derived.Test.YtmcjfnebkpifnaaDoorOpen3
namespace Go.Proofs.YtmcjfnebkpifnaaDoor
open Go.RowKit Go.Deep Go.ChangeShapes Go.ChangeMaps Go.WideShapes Go.Proofs.YtmcjfnebkpifnaaDoorW.PrintWords Go.Proofs.YtmcjfnebkpifnaaDoorW.PrintMore Go.Proofs.YtmcjfnebkpifnaaDoor.PScriptLines
set_option linter.unusedVariables false

instance : Inhabited S56 := ⟨z56⟩
theorem opens_hap {H : Type} (enc : TypeId × Value → H) (w : World) (base : Nat) (spare : Nat → Bool) (held : Bool) :
    Opens enc Tryd.prog w base spare held 56 k56 (fun x => (Lit.int .u8 x.f0).wf = true ∧ (Lit.int .i64 x.f1).wf = true ∧ x.f2.size ≤ maxLen) := by
  intro fuel cs x h
  exact opens_iso (f := fun x : S56 => (x.f0, x.f1, x.f2)) (g := fun p => S56.mk p.1 p.2.1 p.2.2) (fun _ => rfl)
    (opens_triple Tryd.underlying56 rfl rfl rfl (by kernel_rfl) (by kernel_rfl) (by kernel_rfl) (by kernel_rfl) (opens_int Tryd.underlying5) (opens_int Tryd.underlying3) (opens_string Tryd.underlying9)) fuel cs x h
theorem opens_haps {H : Type} (enc : TypeId × Value → H) (w : World) (base : Nat) (spare : Nat → Bool) (held : Bool) :
    Opens enc Tryd.prog w base spare held 49 (Kd.slice 56 k56) (fun l => ∀ x ∈ l, (Lit.int .u8 x.f0).wf = true ∧ (Lit.int .i64 x.f1).wf = true ∧ x.f2.size ≤ maxLen) :=
  opens_slice Tryd.underlying49 (by kernel_rfl) (opens_hap enc w base spare held)
end Go.Proofs.YtmcjfnebkpifnaaDoor
