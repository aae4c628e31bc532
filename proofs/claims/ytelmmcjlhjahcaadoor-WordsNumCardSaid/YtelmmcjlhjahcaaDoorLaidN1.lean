/-
  What the rows' lists give the functions of numbers; a world that has them.
-/
import Derived.Test.YtelmmcjlhjahcaaDoorNuErr1
import Derived.Test.YtelmmcjlhjahcaaDoorRows
import Derived.ChangeSame
import Derived.ChangeVars
import Derived.JoinedOf
import Derived.RowKit
import Derived.RowKitTokens
import Derived.LaidLaws
import Derived.LaidHandle
import Derived.LaidSub
import Derived.MakeChecks
import Derived.Lib.LaidTab
import Derived.Stop.LaidErr
import Derived.Stop.Joined
import Derived.Deep.DeepHandedRow
namespace Go.Proofs.YtelmmcjlhjahcaaDoor
open Go.ChangeShapes Go.WideShapes Go.RowKit Go.ChangeAt
set_option linter.unusedVariables false
namespace LaidNE

theorem own : ownKnob Tryd.prog.godebug = none := by kernel_rfl
abbrev laid5 : List (String × DataW Unit) := [("math/bits.deBruijn32tab", Rows.laid_math_bits_deBruijn32tab), ("math/bits.deBruijn64tab", Rows.laid_math_bits_deBruijn64tab), ("internal/strconv.uint64pow10", Rows.laid_internal_strconv_uint64pow10), ("strconv.ErrRange", Rows.laid_strconv_ErrRange), ("strconv.ErrSyntax", Rows.laid_strconv_ErrSyntax)]
def tab64 : List Int := [0, 1, 56, 2, 57, 49, 28, 3, 61, 58, 42, 50, 38, 29, 17, 4, 62, 47, 59, 36, 45, 43, 51, 22, 53, 39, 33, 30, 24, 18, 12, 5, 63, 55, 48, 27, 60, 41, 37, 16, 46, 35, 44, 21, 52, 32, 23, 11, 54, 26, 40, 15, 34, 20, 31, 10, 25, 14, 19, 9, 13, 8, 7, 6]
theorem star : "*" ++ "errors.errorString" = "*errors.errorString" := by decide
theorem row_es : ∀ u, Tryd.prog.typeName? 3 u = some "*errors.errorString" → u = 188 := fun u h =>
  typeName_ptr_named (nm := "errors.errorString") (by rw [star]; kernel_rfl) (by kernel_rfl) (by decide) u (by rw [star]; exact h)
theorem numE {W : World} {x y z : String × DataW Unit} (h : laidMet Tryd.prog (x :: y :: z :: [("strconv.ErrRange", Rows.laid_strconv_ErrRange), ("strconv.ErrSyntax", Rows.laid_strconv_ErrSyntax)]) W) : NumE W := by
  have h3 := h.tail.tail.tail
  obtain ⟨a0, s0, hv0, -, -, -⟩ := laid_sentinel h3 (g := 3) (ti := 29) (by kernel_rfl) (by kernel_rfl) Tryd.underlying29 row_es Tryd.underlying188 Tryd.underlying190 rfl rfl Tryd.underlying9 (by kernel_rfl) (by kernel_rfl)
  obtain ⟨a1, s1, hv1, -, -, -⟩ := laid_sentinel h3.tail (g := 2) (ti := 29) (by kernel_rfl) (by kernel_rfl) Tryd.underlying29 row_es Tryd.underlying188 Tryd.underlying190 rfl rfl Tryd.underlying9 (by kernel_rfl) (by kernel_rfl)
  exact ⟨⟨_, _, by have h0 := World.var?_cell (show Tryd.prog.globalNamed "strconv.ErrSyntax" = some 2 by kernel_rfl) hv1 0; simpa using h0⟩, ⟨_, _, by have h0 := World.var?_cell (show Tryd.prog.globalNamed "strconv.ErrRange" = some 3 by kernel_rfl) hv0 0; simpa using h0⟩⟩

/-- A world that meets the conditions: the settled one, the variables' cells laid. -/
noncomputable def low : Nat := (World.holding Tryd.prog default ⟨#[], #[], []⟩).heap.size
noncomputable def laidWorld (os : Os) : World :=
  let w0 := World.holding Tryd.prog os ⟨#[.cells #[.string ⟨#[105, 110, 118, 97, 108, 105, 100, 32, 115, 121, 110, 116, 97, 120]⟩] 190, .cells #[.string ⟨#[118, 97, 108, 117, 101, 32, 111, 117, 116, 32, 111, 102, 32, 114, 97, 110, 103, 101]⟩] 190], #[], []⟩
  { w0 with heap := ((((w0.heap.modify 2 fun
      | .cells _ t frozen => .cells #[.iface 188 (.pointer (some ⟨low, 0, none⟩))] t frozen
      | o => o).modify 3 fun
      | .cells _ t frozen => .cells #[.iface 188 (.pointer (some ⟨low + 1, 0, none⟩))] t frozen
      | o => o).modify 6 fun
      | .cells _ t frozen => .cells (Lib.pow10Tab.map (Value.int .u64)).toArray t frozen
      | o => o).modify 7 fun
      | .cells _ t frozen => .cells #[.int .u8 0, .int .u8 1, .int .u8 28, .int .u8 2, .int .u8 29, .int .u8 14, .int .u8 24, .int .u8 3, .int .u8 30, .int .u8 22, .int .u8 20, .int .u8 15, .int .u8 25, .int .u8 17, .int .u8 4, .int .u8 8, .int .u8 31, .int .u8 27, .int .u8 13, .int .u8 23, .int .u8 21, .int .u8 19, .int .u8 16, .int .u8 7, .int .u8 26, .int .u8 12, .int .u8 18, .int .u8 6, .int .u8 11, .int .u8 5, .int .u8 10, .int .u8 9] t frozen
      | o => o).modify 8 fun
      | .cells _ t frozen => .cells (tab64.map (Value.int .u8)).toArray t frozen
      | o => o }
theorem laid5_met (os : Os) (args : Array Value) : laidMetH Tryd.prog laid5 ((laidWorld os).forCall (fun _ _ => 0) ⟨#[], args, []⟩).memory := by
  rw [MakeChecks.laidMetH_plain _ _ _ (by kernel_rfl)]
  exact laidMet_of_run' 8 (by kernel_rfl) (by kernel_rfl)
theorem numE5 {W : World} (h : laidMetH Tryd.prog laid5 W) : NumE W := by
  rw [MakeChecks.laidMetH_plain _ _ _ (by kernel_rfl)] at h
  exact numE h
theorem wf_u8 {n : Int} (h : (Lit.int .u8 n).wf = true) : 0 ≤ n ∧ n < 256 := by
  simp only [Lit.wf, Bool.and_eq_true, decide_eq_true_eq] at h
  have e1 : IntKind.u8.min = 0 := by decide
  have e2 : IntKind.u8.max = 255 := by decide
  omega
end LaidNE
end Go.Proofs.YtelmmcjlhjahcaaDoor
