/- Printed texts of this seat, cut to what is used. -/
import Derived.Test.YtmcjfnebkpifnaaDoorNuHexP
import Derived.Lib.OthersKept
import Derived.Lib.ItoaMem
import Derived.Lib.AppendIntMem
namespace Go.Proofs.YtmcjfnebkpifnaaDoor
open Go.RowKit Go.Proofs.YtmcjfnebkpifnaaDoorW.PrintWords Go.Proofs.YtmcjfnebkpifnaaDoorW.PrintLast Go.Proofs.YtmcjfnebkpifnaaDoorW.PrintMore
set_option linter.unusedVariables false

/-- A number's digits. -/
def digS (n : Int) : ByteArray := if n < 0 ∨ 2147483647 < n then ⟨#[]⟩ else ⟨(Lib.itoa n).toArray⟩
theorem digits_calls (n : Int) (w : World) (hT : NumT w) : Calls Tryd.prog 69 #[.int .i64 n] w fun e w' => e = .returned (.string (digS n)) ∧ Below w.heap.size w w' := by
  unfold digS
  by_cases h : n < 0
  · rw [if_pos (.inl h)]
    clear hT
    go_enter Tryd.func69, Tryd.ntmps69
    go_wp2
    go_ret
    exact ⟨rfl, Below.refl _ _⟩
  · by_cases h2 : 2147483647 < n
    · rw [if_pos (.inr h2)]
      clear hT
      go_enter Tryd.func69, Tryd.ntmps69
      go_wp2
      go_ret
      exact ⟨rfl, Below.refl _ _⟩
    · rw [if_neg (by omega)]
      have HI : Aside0 (Calls Tryd.prog 73 #[.int .i64 n] w fun e w' => e = .returned (.string ⟨(Lib.itoa n).toArray⟩) ∧ Below w.heap.size w w') :=
        Aside0.mk ((Tryd.strconv_Itoa n (by omega) (by omega) w hT.tab).mono fun e w' ⟨h1, k, os, h2⟩ => ⟨h1, by rw [h2]; exact Lib.below_grow _ _ (Nat.le_refl _) _ _⟩)
      clear hT
      go_enter Tryd.func69, Tryd.ntmps69
      go_wp2_with (go_at_call 73; refine HI.out.mono ?_; rintro e w' ⟨rfl, hb⟩)
      go_ret
      exact ⟨rfl, hb⟩

end Go.Proofs.YtmcjfnebkpifnaaDoor
