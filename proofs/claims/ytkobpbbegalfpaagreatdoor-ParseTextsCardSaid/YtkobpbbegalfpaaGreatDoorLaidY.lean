/-
  Joined texts: PsTxtL, LaidY.
-/
import Derived.Test.YtkobpbbegalfpaaGreatDoorPsRTx
import Derived.Test.YtkobpbbegalfpaaGreatDoorPParseBodiesx4
import Derived.Test.YtkobpbbegalfpaaGreatDoorPsAwake
import Derived.Test.YtkobpbbegalfpaaGreatDoorRows
import Derived.ChangeSame
import Derived.ChangeVars
import Derived.JoinedOf
import Derived.RowKit
import Derived.RowKitTokens
import Derived.LaidLaws
import Derived.LaidHandle
import Derived.Shelf.LaysM
import Derived.Stop.LaidErr
import Derived.LaidSub
import Derived.MakeChecks
import Derived.Lib.LaidTab
import Derived.Stop.Joined
import Derived.Deep.DeepHandedRow
namespace Go.Proofs.YtkobpbbegalfpaaGreatDoor
open Go.RowKit YtkobpbbegalfpaaGreatDoorW.PrintWords YtkobpbbegalfpaaGreatDoorW.PrintLast YtkobpbbegalfpaaGreatDoorW.PrintMore PParseBodies
set_option linter.unusedVariables false
set_option linter.unusedSimpArgs false
set_option maxRecDepth 100000
set_option maxHeartbeats 16000000 in
theorem parseTexts_calls (w : World) (s : ByteArray) (hT : NumT w) (hE : NumE w) (hg : As.ErrT w) :
  Calls Tryz.prog 6 #[.string s] w fun e w' => e = .returned (.bool true) ∧ Below w.heap.size w w' := by
 by_cases hlong : 3000 < s.size
 ·have HA := ak (awake_calls w hT hE hg)
  have q1 : ((s.size : Int) > 3000) = True := eq_true (by omega)
  have q2 : decide ((3000 : Int) < (s.size : Int)) = true := decide_eq_true (by omega)
  clear hlong hT hE hg
  go_enter Tryz.func6, Tryz.ntmps6
  go_wp2_with (go_at_call 8; refine HA.out.mono ?_; rintro e w1 ⟨rfl, hb⟩)
  go_ret
  exact ⟨rfl, hb⟩
 ·have q1 : ((s.size : Int) > 3000) = False := eq_false (by omega)
  have q2 : decide ((3000 : Int) < (s.size : Int)) = false := decide_eq_false (by omega)
  have hsm := textA_small (s := s)
  have h5 := tree500 (s := s) (by omega)
  have HB1 := text_uni w s (by omega) hT hE
  have HR1 : ∀ W, Calls Tryz.prog 18 #[.string s] W (RefPost W (textA s)) := fun W => rtext_uni W s (by omega)
  have HTO : ∀ W ev, Below w.heap.size w W → ErrIs W ev (errR (textA s)) → Calls Tryz.prog 13 #[ev, .int .i64 (noR (textA s)), .int .i64 (atR (textA s))] W fun e w' => e = .returned (.bool true) ∧ Below W.heap.size W w' := fun W ev hb h => by
   have := told_uni W ev (textA s) (noR (textA s)) (atR (textA s)) h (fun q hq => by have := textA_no hq; omega) (hg.below hb)
   rwa [decide_eq_true (show noR (textA s) = noR (textA s) ∧ atR (textA s) = atR (textA s) from ⟨rfl, rfl⟩)] at this
  have HS : ∀ W A B c d b1 b2, TreeAt W b1 (treeR (textA s)) A c → TreeAt W b2 (treeR (textA s)) B d → Calls Tryz.prog 14 #[.agg #[.int .u8 (treeR (textA s)).f0, .int .i64 (treeR (textA s)).f1.f0, .int .i64 (treeR (textA s)).f1.f1, .int .i64 (treeR (textA s)).f1.f2, .int .i64 (treeR (textA s)).f1.f3, .int .i64 (treeR (textA s)).f2, .slice A (treeR (textA s)).f3.length c], .agg #[.int .u8 (treeR (textA s)).f0, .int .i64 (treeR (textA s)).f1.f0, .int .i64 (treeR (textA s)).f1.f1, .int .i64 (treeR (textA s)).f1.f2, .int .i64 (treeR (textA s)).f1.f3, .int .i64 (treeR (textA s)).f2, .slice B (treeR (textA s)).f3.length d]] W fun e w' => e = .returned (.bool true) ∧ Below W.heap.size W w' := fun W A B c d b1 b2 h1 h2 => by
   have := rsame_calls (treeR (textA s)) (treeR (textA s)) A B c d W hsm h1.row h1.cap h2.row h2.cap
   rwa [eqB_yes rfl] at this
  have HA : ∀ W, Below w.heap.size w W → Calls Tryz.prog 8 #[] W fun e w' => e = .returned (.bool true) ∧ Below W.heap.size W w' := fun W hb => awake_calls W (hT.below hb) (hE.below hb) (hg.below hb)
  have HP : ∀ W A c b, Below w.heap.size w W → TreeAt W b (treeR (textA s)) A c → Calls Tryz.prog 21 #[.agg #[.int .u8 (treeR (textA s)).f0, .int .i64 (treeR (textA s)).f1.f0, .int .i64 (treeR (textA s)).f1.f1, .int .i64 (treeR (textA s)).f1.f2, .int .i64 (treeR (textA s)).f1.f3, .int .i64 (treeR (textA s)).f2, .slice A (treeR (textA s)).f3.length c]] W fun e w' => e = .returned (.tuple #[.string (textAns (treeR (textA s))).1, .int .i64 (textAns (treeR (textA s))).2]) ∧ Below W.heap.size W w' :=
   fun W A c b hb h => ptext_calls _ W A c h5 h.cap h.row (hT.below hb)
  have HO1 : okB s = false → ∀ W, Below w.heap.size w W → Calls Tryz.prog 20 #[.slice (some ⟨W.heap.size, 0, none⟩) 1 1] (W.alloc (.cells #[.string s] 9)) fun e w' => e = .returned (.bool false) ∧ Below W.heap.size W w' := fun ho W hb =>
   (round_calls _ 1 1 [s] _ (by decide) (fun x hx => by obtain rfl : x = s := by simpa using hx
                                                        exact ⟨by omega, h5⟩) (nlitC W 9 [s] (by simp)) (hT.below (below_alloc hb _)) (hE.below (below_alloc hb _)) false (by simp [ho])).mono fun e w' ⟨h1, h2⟩ => ⟨h1, (below_alloc (Below.refl _ _) _).trans (h2.mono (by simp))⟩
  have HO2 : okB s = true → ∀ W, Below w.heap.size w W → Calls Tryz.prog 20 #[.slice (some ⟨W.heap.size, 0, none⟩) 2 2] (W.alloc (.cells #[.string s, .string s] 9)) fun e w' => e = .returned (.bool true) ∧ Below W.heap.size W w' := fun ho W hb =>
   (round_calls _ 2 2 [s, s] _ (by decide) (fun x hx => by obtain rfl : x = s := by simpa using hx
                                                           exact ⟨by omega, h5⟩) (nlitC W 9 [s, s] (by simp)) (hT.below (below_alloc hb _)) (hE.below (below_alloc hb _)) true (by simp [ho])).mono fun e w' ⟨h1, h2⟩ => ⟨h1, (below_alloc (Below.refl _ _) _).trans (h2.mono (by simp))⟩
  unfold UniPost at HB1
  unfold RefPost at HR1
  have hcase : (okB s = false ∧ ¬ noR (textA s) = 0) ∨ (okB s = true ∧ noR (textA s) = 0 ∧ textAns (treeR (textA s)) = (s, 0)) := by
   unfold okB
   cases ht : textA s with
   | error q => exact .inl ⟨rfl, by have := textA_no ht; show ¬ q.1 = 0; omega⟩
   | ok x => exact .inr ⟨rfl, rfl, text_ans_ok ht⟩
  replace HB1 := ak HB1
  replace HR1 := ak HR1
  replace HTO := ak HTO
  replace HS := ak HS
  replace HA := ak HA
  replace HP := ak HP
  have HC := ak hcase
  have HQ1 := ak HO1
  have HQ2 := ak HO2
  clear hlong hT hE hg hsm h5 hcase HO1 HO2
  generalize textAns (treeR (textA s)) = ta at *
  generalize treeR (textA s) = x at *
  generalize noR (textA s) = no at *
  generalize atR (textA s) = at_ at *
  generalize errR (textA s) = o1 at *
  go_enter Tryz.func6, Tryz.ntmps6
  go_wp2_with fail
  refine HB1.out.mono ?_
  rintro e w1 ⟨A1, c1, ev1, rfl, hr1, he1, hb1⟩
  obtain ⟨W2, hW2⟩ : ∃ W2, W2 = w1.alloc (.cells #[.int .u8 x.f0, .int .i64 x.f1.f0, .int .i64 x.f1.f1, .int .i64 x.f1.f2, .int .i64 x.f1.f3, .int .i64 x.f2, .slice A1 x.f3.length c1] 27) := ⟨_, rfl⟩
  have HBB2 : Aside0 (Below w.heap.size w W2) := ⟨by rw [hW2]; exact Below.alloc hb1 hb1.size _⟩
  have HX2 : Aside0 (TreeAt W2 w1.heap.size x A1 c1) := ⟨by rw [hW2]; exact tree_new hr1⟩
  have HE2 : Aside0 (ErrIs W2 ev1 o1) := ⟨he1.below (by rw [hW2]; exact below_alloc (Below.refl _ _) _)⟩
  have HW2 := ak hW2
  clear hr1 he1 hb1 hW2
  go_wp2_with fail
  rw [← HW2.out]
  refine (HR1.out W2).mono ?_
  rintro e w3 ⟨A3, c3, rfl, hr3, hb3⟩
  have HB3 : Aside0 (Below w.heap.size w w3) := ⟨HBB2.out.trans (hb3.mono HBB2.out.size)⟩
  obtain ⟨W4, hW4⟩ : ∃ W4, W4 = w3.alloc (.cells #[.int .u8 x.f0, .int .i64 x.f1.f0, .int .i64 x.f1.f1, .int .i64 x.f1.f2, .int .i64 x.f1.f3, .int .i64 x.f2, .slice A3 x.f3.length c3] 27) := ⟨_, rfl⟩
  have hb34 : Below w3.heap.size w3 W4 := by rw [hW4]; exact below_alloc (Below.refl _ _) _
  have HB4 : Aside0 (Below w.heap.size w W4) := ⟨HB3.out.trans (hb34.mono HB3.out.size)⟩
  have HX4 : Aside0 (TreeAt W4 w1.heap.size x A1 c1) := ⟨(HX2.out.below hb3).below hb34⟩
  have HZ4 : Aside0 (TreeAt W4 w3.heap.size x A3 c3) := ⟨by rw [hW4]; exact tree_new hr3⟩
  have HE4 : Aside0 (ErrIs W4 ev1 o1) := ⟨(HE2.out.below hb3).below hb34⟩
  have HW4 := ak hW4
  clear hr3 hb3 hW4 hb34 HX2 HE2 HW2 HBB2
  go_wp2_with fail
  rw [← HW4.out]
  refine (HTO.out W4 ev1 HB4.out HE4.out).mono ?_
  rintro e w8 ⟨rfl, hb8⟩
  have HB8 : Aside0 (Below w.heap.size w w8) := ⟨HB4.out.trans (hb8.mono HB4.out.size)⟩
  have HX8 : Aside0 (TreeAt w8 w1.heap.size x A1 c1) := ⟨HX4.out.below hb8⟩
  have HZ8 : Aside0 (TreeAt w8 w3.heap.size x A3 c3) := ⟨HZ4.out.below hb8⟩
  obtain ⟨y0, y1, y2, y3, y4, y5, y6⟩ := tree_cells HX8.out
  obtain ⟨z0, z1, z2, z3, z4, z5, z6⟩ := tree_cells HZ8.out
  clear hb8 HX4 HZ4 HE4
  go_wp2_with fail
  refine (HS.out w8 A1 A3 c1 c3 _ _ HX8.out HZ8.out).mono ?_
  rintro e w9 ⟨rfl, hb9⟩
  have HB9 : Aside0 (Below w.heap.size w w9) := ⟨HB8.out.trans (hb9.mono HB8.out.size)⟩
  have HX9 : Aside0 (TreeAt w9 w1.heap.size x A1 c1) := ⟨HX8.out.below hb9⟩
  clear hb9 y0 y1 y2 y3 y4 y5 y6 z0 z1 z2 z3 z4 z5 z6 HX8 HZ8
  rcases HC.out with ⟨ho, hn⟩ | ⟨ho, rfl, hta⟩
  ·have q3 : (no != 0) = true := by simp [hn]
   have q4 : (no == 0) = false := by simp [hn]
   have HQ := ak (HQ1.out ho w9 HB9.out)
   clear hn ho
   go_wp2_with (first | (go_at_call 20; refine HQ.out.mono ?_; rintro e w10 ⟨rfl, hb10⟩; replace hb10 := ak (HB9.out.trans (hb10.mono HB9.out.size))) | (go_at_call 8; refine (HA.out _ hb10.out).mono ?_; rintro e w11 ⟨rfl, hb11⟩))
   go_ret
   exact ⟨rfl, hb10.out.trans (hb11.mono hb10.out.size)⟩
  ·subst hta
   obtain ⟨y0, y1, y2, y3, y4, y5, y6⟩ := tree_cells HX9.out
   go_wp2_with fail
   refine (HP.out w9 A1 c1 _ HB9.out HX9.out).mono ?_
   rintro e w10 ⟨rfl, hb10⟩
   have HB10 : Aside0 (Below w.heap.size w w10) := ⟨HB9.out.trans (hb10.mono HB9.out.size)⟩
   have HQ := ak (HQ2.out ho w10 HB10.out)
   clear hb10 y0 y1 y2 y3 y4 y5 y6 ho
   go_wp2_with (first | (go_at_call 20; refine HQ.out.mono ?_; rintro e w11 ⟨rfl, hb11⟩; replace hb11 := ak (HB10.out.trans (hb11.mono HB10.out.size))) | (go_at_call 8; refine (HA.out _ hb11.out).mono ?_; rintro e w12 ⟨rfl, hb12⟩))
   go_ret
   exact ⟨rfl, hb11.out.trans (hb12.mono hb11.out.size)⟩
end Go.Proofs.YtkobpbbegalfpaaGreatDoor
namespace Go.Proofs.YtkobpbbegalfpaaGreatDoor
open Go.ChangeShapes Go.WideShapes Go.RowKit Go.ChangeAt
set_option linter.unusedVariables false
namespace LaidE
theorem own : ownKnob Tryz.prog.godebug = none := by kernel_rfl
abbrev laid5 : List (String × DataW Unit) := [("math/bits.deBruijn32tab", Rows.laid_math_bits_deBruijn32tab), ("math/bits.deBruijn64tab", Rows.laid_math_bits_deBruijn64tab), ("internal/strconv.uint64pow10", Rows.laid_internal_strconv_uint64pow10), ("strconv.ErrRange", Rows.laid_strconv_ErrRange), ("strconv.ErrSyntax", Rows.laid_strconv_ErrSyntax)]
abbrev laidH : List (String × DataW Unit) := [("errors.errorType", Rows.laid_errors_errorType)]
abbrev laid6 : List (String × DataW Unit) := [("math/bits.deBruijn32tab", Rows.laid_math_bits_deBruijn32tab), ("math/bits.deBruijn64tab", Rows.laid_math_bits_deBruijn64tab), ("internal/strconv.uint64pow10", Rows.laid_internal_strconv_uint64pow10), ("errors.errorType", Rows.laid_errors_errorType), ("strconv.ErrRange", Rows.laid_strconv_ErrRange), ("strconv.ErrSyntax", Rows.laid_strconv_ErrSyntax)]
def tab64 : List Int := [0, 1, 56, 2, 57, 49, 28, 3, 61, 58, 42, 50, 38, 29, 17, 4, 62, 47, 59, 36, 45, 43, 51, 22, 53, 39, 33, 30, 24, 18, 12, 5, 63, 55, 48, 27, 60, 41, 37, 16, 46, 35, 44, 21, 52, 32, 23, 11, 54, 26, 40, 15, 34, 20, 31, 10, 25, 14, 19, 9, 13, 8, 7, 6]
theorem e64 : (Rows.laid_math_bits_deBruijn64tab : DataW Unit) = Lib.tabData .u8 tab64 := rfl
theorem e10 : (Rows.laid_internal_strconv_uint64pow10 : DataW Unit) = Lib.tabData .u64 Lib.pow10Tab := rfl
theorem numT {W : World} {x : String × DataW Unit} {r : List (String × DataW Unit)} (h : laidMet Tryz.prog (x :: ("math/bits.deBruijn64tab", Rows.laid_math_bits_deBruijn64tab) :: ("internal/strconv.uint64pow10", Rows.laid_internal_strconv_uint64pow10) :: r) W) : NumT W := by
 rw [e64, e10] at h
 have h1 := h.tail
 have h2 := h1.tail
 have t1 := Lib.tabIs_of_head (g := 6) (t := 219) (e := 5) (n := 64) (by kernel_rfl) (by kernel_rfl) Tryz.underlying219 Tryz.underlying5 (by kernel_rfl) (by kernel_rfl) h1
 have t2 := Lib.tabIs_of_head (g := 3) (t := 205) (e := 134) (n := 20) (by kernel_rfl) (by kernel_rfl) Tryz.underlying205 Tryz.underlying134 (by kernel_rfl) (by kernel_rfl) h2
 exact ⟨t2, t1.cell (by kernel_rfl) 15 (by decide)⟩
theorem star : "*" ++ "errors.errorString" = "*errors.errorString" := by decide
theorem row_es : ∀ u, Tryz.prog.typeName? 3 u = some "*errors.errorString" → u = 211 := fun u h =>
 typeName_ptr_named (nm := "errors.errorString") (by rw [star]; kernel_rfl) (by kernel_rfl) (by decide) u (by rw [star]; exact h)
theorem numE {W : World} {x y z : String × DataW Unit} {r : List (String × DataW Unit)} (h : laidMet Tryz.prog (x :: y :: z :: ("strconv.ErrRange", Rows.laid_strconv_ErrRange) :: ("strconv.ErrSyntax", Rows.laid_strconv_ErrSyntax) :: r) W) : NumE W := by
 have h3 := h.tail.tail.tail
 obtain ⟨a0, s0, hv0, -, -, -⟩ := laid_sentinel h3 (g := 2) (ti := 29) (by kernel_rfl) (by kernel_rfl) Tryz.underlying29 row_es Tryz.underlying211 Tryz.underlying213 rfl rfl Tryz.underlying9 (by kernel_rfl) (by kernel_rfl)
 obtain ⟨a1, s1, hv1, -, -, -⟩ := laid_sentinel h3.tail (g := 1) (ti := 29) (by kernel_rfl) (by kernel_rfl) Tryz.underlying29 row_es Tryz.underlying211 Tryz.underlying213 rfl rfl Tryz.underlying9 (by kernel_rfl) (by kernel_rfl)
 exact ⟨⟨_, _, by have h0 := World.var?_cell (show Tryz.prog.globalNamed "strconv.ErrSyntax" = some 1 by kernel_rfl) hv1 0; simpa using h0⟩, ⟨_, _, by have h0 := World.var?_cell (show Tryz.prog.globalNamed "strconv.ErrRange" = some 2 by kernel_rfl) hv0 0; simpa using h0⟩⟩
theorem et : Tryz.prog.globalNamed "errors.errorType" = some 0 := by kernel_rfl
theorem rt : (Tryz.prog.cutTypes.find? (·.1 == "internal/reflectlite.rtype")).map (·.2) = some 148 := by kernel_rfl
theorem oneRow : ((List.range 245).filter fun t => Tryz.prog.rowNamed t [101, 114, 114, 111, 114]) = [29] := by kernel_rfl
theorem size : Tryz.prog.types.size = 245 := by kernel_rfl
theorem errTH {W : World} (h : handlesMet Tryz.prog laidH W) : As.ErrT W := by
 obtain ⟨name, u, ty, e1, e2, e3, e4, e5⟩ := h _ (List.mem_singleton.2 rfl)
 have en : name = [101, 114, 114, 111, 114] := (Option.some.inj e1).symm
 subst en
 obtain rfl := Option.some.inj (rt.symm.trans e2)
 have hm : ty ∈ (List.range 245).filter fun t => Tryz.prog.rowNamed t [101, 114, 114, 111, 114] := List.mem_filter.2 ⟨List.mem_range.2 (by rw [← size]; exact e3), e4⟩
 rw [oneRow] at hm
 obtain rfl := List.mem_singleton.1 hm
 have hh : typeHandle Tryz.prog 29 = .pointer (some ⟨7, 29, none⟩) := by kernel_rfl
 rw [hh] at e5
 have := World.var?_cell et e5 0
 simpa [As.ErrT] using this
noncomputable def low : Nat := (World.holding Tryz.prog default ⟨#[], #[], []⟩).heap.size
noncomputable def laidWorld (os : Os) : World :=
 let w0 := World.holding Tryz.prog os ⟨#[.cells #[.string ⟨#[105, 110, 118, 97, 108, 105, 100, 32, 115, 121, 110, 116, 97, 120]⟩] 213, .cells #[.string ⟨#[118, 97, 108, 117, 101, 32, 111, 117, 116, 32, 111, 102, 32, 114, 97, 110, 103, 101]⟩] 213], #[], []⟩
 {w0 with heap := (((((w0.heap.modify 0 fun
   | .cells _ t frozen => .cells #[.iface 148 (.agg #[.pointer (some ⟨7, 29, none⟩)])] t frozen
   | o => o).modify 1 fun
   | .cells _ t frozen => .cells #[.iface 211 (.pointer (some ⟨low, 0, none⟩))] t frozen
   | o => o).modify 2 fun
   | .cells _ t frozen => .cells #[.iface 211 (.pointer (some ⟨low + 1, 0, none⟩))] t frozen
   | o => o).modify 3 fun
   | .cells _ t frozen => .cells (Lib.pow10Tab.map (Value.int .u64)).toArray t frozen
   | o => o).modify 5 fun
   | .cells _ t frozen => .cells #[.int .u8 0, .int .u8 1, .int .u8 28, .int .u8 2, .int .u8 29, .int .u8 14, .int .u8 24, .int .u8 3, .int .u8 30, .int .u8 22, .int .u8 20, .int .u8 15, .int .u8 25, .int .u8 17, .int .u8 4, .int .u8 8, .int .u8 31, .int .u8 27, .int .u8 13, .int .u8 23, .int .u8 21, .int .u8 19, .int .u8 16, .int .u8 7, .int .u8 26, .int .u8 12, .int .u8 18, .int .u8 6, .int .u8 11, .int .u8 5, .int .u8 10, .int .u8 9] t frozen
   | o => o).modify 6 fun
   | .cells _ t frozen => .cells (tab64.map (Value.int .u8)).toArray t frozen
   | o => o }
theorem laid6_met (os : Os) (args : Array Value) : laidMetH Tryz.prog laid6 ((laidWorld os).forCall (fun _ _ => 0) ⟨#[], args, []⟩).memory :=
 laidMetH_of_parts (show laidMet Tryz.prog laid5 _ from laidMet_of_run' 8 (by kernel_rfl) (by kernel_rfl)) (by kernel_rfl)
theorem parts6 {W : World} (h : laidMetH Tryz.prog laid6 W) : laidMet Tryz.prog laid5 W ∧ handlesMet Tryz.prog laidH W := h
end LaidE
end Go.Proofs.YtkobpbbegalfpaaGreatDoor
