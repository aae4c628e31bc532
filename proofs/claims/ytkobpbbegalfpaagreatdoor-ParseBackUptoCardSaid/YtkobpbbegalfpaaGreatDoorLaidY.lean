/-
  Joined texts: TiOpen, LaidY.
-/
import Derived.Test.YtkobpbbegalfpaaGreatDoorPsCell
import Derived.Test.YtkobpbbegalfpaaGreatDoorOpen
import Derived.Test.YtkobpbbegalfpaaGreatDoorRows
import Derived.Test.YtkobpbbegalfpaaGreatDoorPParseBodiesx4
import Derived.Test.YtkobpbbegalfpaaGreatDoorPsAwake
import Derived.ChangeSame
import Derived.ChangeVars
import Derived.JoinedOf
import Derived.RowKit
import Derived.RowKitTokens
import Derived.LaidLaws
import Derived.LaidHandle
import Derived.Shelf.LaysM
import Derived.Stop.LaidErr
import Derived.LaidSub
import Derived.MakeChecks
import Derived.Lib.LaidTab
import Derived.Stop.Joined
import Derived.Deep.DeepHandedRow
namespace Go.Proofs.YtkobpbbegalfpaaGreatDoor
open Go.RowKit Go.Deep Go.ChangeShapes Go.ChangeMaps Go.WideShapes YtkobpbbegalfpaaGreatDoorW.PrintWords YtkobpbbegalfpaaGreatDoorW.PrintMore PParseBodies
set_option linter.unusedVariables false
set_option linter.unusedSimpArgs false
set_option maxRecDepth 100000
theorem bulk_one {H : Type} (d : DataW H) : 1 ≤ Rows.uptoBulk d := by
 cases d with
 | lit l => cases l <;> simp [Rows.uptoBulk]
 | nil => simp [Rows.uptoBulk]
 | ptr d => simp [Rows.uptoBulk]
 | slice elems spare => simp [Rows.uptoBulk]
 | agg parts => simp [Rows.uptoBulk]
 | iface t d => simp [Rows.uptoBulk]
 | map entries => simp [Rows.uptoBulk]
 | held h => simp [Rows.uptoBulk]
theorem bulk_mem {H : Type} {d : DataW H} {l : List (DataW H)} (h : d ∈ l) : Rows.uptoBulk d ≤ Rows.uptoBulkAll l := by
 induction l with
 | nil => cases h
 | cons x r ih =>
  simp only [Rows.uptoBulkAll]
  rcases List.mem_cons.1 h with e | e
  ·subst e; omega
  ·have := ih e; omega
theorem cofI : Tryz.prog.cellsOf 3 = 1 := by kernel_rfl
theorem cofU : Tryz.prog.cellsOf 5 = 1 := by kernel_rfl
theorem cofR : Tryz.prog.cellsOf 24 = 4 := by kernel_rfl
theorem cofS : Tryz.prog.cellsOf 25 = 1 := by kernel_rfl
section
variable {H : Type} {enc : TypeId × Value → H} {w : World} {base : Nat} {spare : Nat → Bool} {held : Bool}
theorem opens_rect {fuel : Nat} {cs : List Value} {x : DataW H × List MemPlace} (h : DataW.trod enc Tryz.prog w base spare held fuel 24 cs = some x) : ∃ r : SR, cs = [.int .i64 r.f0, .int .i64 r.f1, .int .i64 r.f2, .int .i64 r.f3] := by
 obtain ⟨xs, n, _, rfl, hl, hlen, hf⟩ := DataW.trod_struct Tryz.underlying24 h
 have hl4 : cs.length = 4 := hl
 match cs, hl4 with
 | [a, b, c, d], _ =>
  match xs, hlen with
  | [y0, y1, y2, y3], _ =>
   have t0 : DataW.trod enc Tryz.prog w base spare held n 3 [a] = some y0 := by simpa [cofI, cofU, cofR, cofS] using hf 0 _ rfl
   have t1 : DataW.trod enc Tryz.prog w base spare held n 3 [b] = some y1 := by simpa [cofI, cofU, cofR, cofS] using hf 1 _ rfl
   have t2 : DataW.trod enc Tryz.prog w base spare held n 3 [c] = some y2 := by simpa [cofI, cofU, cofR, cofS] using hf 2 _ rfl
   have t3 : DataW.trod enc Tryz.prog w base spare held n 3 [d] = some y3 := by simpa [cofI, cofU, cofR, cofS] using hf 3 _ rfl
   obtain ⟨n0, e0, _⟩ := DataW.trod_int Tryz.underlying3 t0
   obtain ⟨n1, e1, _⟩ := DataW.trod_int Tryz.underlying3 t1
   obtain ⟨n2, e2, _⟩ := DataW.trod_int Tryz.underlying3 t2
   obtain ⟨n3, e3, _⟩ := DataW.trod_int Tryz.underlying3 t3
   injection e0 with e0 _
   injection e1 with e1 _
   injection e2 with e2 _
   injection e3 with e3 _
   exact ⟨⟨n0, n1, n2, n3⟩, by rw [e0, e1, e2, e3]⟩
theorem sum_cells (D : Nat → DataW H) (f : Nat → SC) (len : Nat) (h : ∀ i, i < len → (cells (f i)).length ≤ Rows.uptoBulk (D i)) : (cellsL ((List.range len).map f)).length ≤ Rows.uptoBulkAll ((List.range len).map D) := by
 have : ∀ l : List Nat, (∀ i ∈ l, i < len) → (cellsL (l.map f)).length ≤ Rows.uptoBulkAll (l.map D) := by
  intro l
  induction l with
  | nil => intro _; simp [cellsL_nil, Rows.uptoBulkAll]
  | cons i l ih =>
   intro hl
   have h1 := h i (hl i (by simp))
   have h2 := ih (fun j hj => hl j (by simp [hj]))
   simp only [List.map_cons, cellsL_cons, List.length_append, Rows.uptoBulkAll]
   omega
 exact this _ (fun i hi => List.mem_range.1 hi)
theorem opens_cells_of (N : Nat) (he : ∀ fuel cs x, Rows.uptoBulk (Prod.fst x) ≤ N → DataW.trod enc Tryz.prog w base spare held fuel 27 cs = some x → ∃ c : SC, (k27).K w c cs ∧ (cells c).length ≤ Rows.uptoBulk (Prod.fst x))
  {fuel : Nat} {cs : List Value} {x : DataW H × List MemPlace} (hN : Rows.uptoBulk x.1 ≤ N + 1) (h : DataW.trod enc Tryz.prog w base spare held fuel 25 cs = some x) :
  ∃ (l : List SC) (A : Option Addr) (cap : Nat), cs = [.slice A l.length cap] ∧ l.length ≤ cap ∧ (k27).C w A l.length l ∧ (cellsL l).length + 1 ≤ Rows.uptoBulk x.1 := by
 rcases open_slice Tryz.underlying25 h with ⟨rfl, rfl⟩ | ⟨a, len, cap, m, n, D, Pl, rfl, hb, hl, hm, hmm, rfl, hel⟩
 ·exact ⟨[], none, 0, rfl, Nat.le_refl _, Kd.C_nil _ w, by simp [cellsL_nil, Rows.uptoBulk]⟩
 ·have hlm : len ≤ m := by rw [hmm]; split <;> omega
  have hc : Tryz.prog.cellsOf 27 = 7 := by kernel_rfl
  have hbk : Rows.uptoBulkAll ((List.range len).map D) + Rows.uptoBulkAll ((List.range (m - len)).map fun j => D (len + j)) + 1 ≤ N + 1 := by simpa only [Rows.uptoBulk] using hN
  have hD : ∀ i, i < len → Rows.uptoBulk (D i) ≤ N := fun i hi => by
   have := bulk_mem (List.mem_map.2 ⟨i, List.mem_range.2 hi, rfl⟩ : D i ∈ (List.range len).map D)
   omega
  have h1 : ∀ i, i < len → ∃ y : SC × List Value, w.cells? base (a.add (i * 7)) 7 = some y.2 ∧ (k27).K w y.1 y.2 ∧ (cells y.1).length ≤ Rows.uptoBulk (D i) := by
   intro i hi
   obtain ⟨cs', hcs, htr⟩ := hel i (by omega)
   obtain ⟨y, hy, hg⟩ := he _ _ _ (hD i hi) htr
   rw [hc] at hcs
   exact ⟨(y, cs'), hcs, hy, hg⟩
  have h2 : ∃ f : Nat → SC × List Value, ∀ i, i < len → w.cells? base (a.add (i * 7)) 7 = some (f i).2 ∧ (k27).K w (f i).1 (f i).2 ∧ (cells (f i).1).length ≤ Rows.uptoBulk (D i) := by
   classical
   refine ⟨fun i => if hi : i < len then (h1 i hi).choose else (z27, []), fun i hi => ?_⟩
   simp only [hi, dite_true]
   exact (h1 i hi).choose_spec
  obtain ⟨f, hf⟩ := h2
  refine ⟨(List.range len).map fun i => (f i).1, some a, cap, by simp, by simpa using hl, ?_, ?_⟩
  ·refine ⟨rfl, ?_, fun hpos => ⟨a, rfl, fun j p hj => ?_⟩⟩
   ·simp [maxLen] at hm ⊢; omega
   ·have hjl : j < len := by have := (List.getElem?_eq_some_iff.1 hj).1; simpa using this
    have hp : (f j).1 = p := by rw [List.getElem?_map, List.getElem?_range hjl] at hj; simpa using hj
    obtain ⟨q1, q2, q3⟩ := hf j hjl
    obtain ⟨r1, r2⟩ := cells?_at q1
    refine ⟨(f j).2, r1, hp ▸ q2, fun i u hu => ?_⟩
    have hsz : (k27).sz = 7 := rfl
    rw [hsz, ← Deep.add_add]
    exact r2 i u hu
  ·have := sum_cells D (fun i => (f i).1) len (fun i hi => (hf i hi).2.2)
   simp only [Rows.uptoBulk]
   omega
theorem opens_cell : ∀ (N fuel : Nat) (cs : List Value) (x : DataW H × List MemPlace), Rows.uptoBulk x.1 ≤ N → DataW.trod enc Tryz.prog w base spare held fuel 27 cs = some x → ∃ c : SC, (k27).K w c cs ∧ (cells c).length ≤ Rows.uptoBulk x.1 := by
 intro N
 induction N with
 | zero => intro fuel cs x h _; have := bulk_one x.1; omega
 | succ N ih =>
  intro fuel cs x hN h
  obtain ⟨xs, n, _, rfl, hl, hlen, hf⟩ := DataW.trod_struct Tryz.underlying27 h
  have hl7 : cs.length = 7 := hl
  match cs, hl7 with
  | [a0, a1, a2, a3, a4, a5, a6], _ =>
   match xs, hlen with
   | [y0, y1, y2, y3], _ =>
    have t0 : DataW.trod enc Tryz.prog w base spare held n 5 [a0] = some y0 := by simpa [cofI, cofU, cofR, cofS] using hf 0 _ rfl
    have t1 : DataW.trod enc Tryz.prog w base spare held n 24 [a1, a2, a3, a4] = some y1 := by simpa [cofI, cofU, cofR, cofS] using hf 1 _ rfl
    have t2 : DataW.trod enc Tryz.prog w base spare held n 3 [a5] = some y2 := by simpa [cofI, cofU, cofR, cofS] using hf 2 _ rfl
    have t3 : DataW.trod enc Tryz.prog w base spare held n 25 [a6] = some y3 := by simpa [cofI, cofU, cofR, cofS] using hf 3 _ rfl
    have hb0 := bulk_one y0.1
    have hb1 := bulk_one y1.1
    have hbk : Rows.uptoBulk y0.1 + (Rows.uptoBulk y1.1 + (Rows.uptoBulk y2.1 + (Rows.uptoBulk y3.1 + 0))) + 1 ≤ N + 1 := by simpa only [Rows.uptoBulk, Rows.uptoBulkAll, List.map_cons, List.map_nil] using hN
    obtain ⟨k, e0, _⟩ := DataW.trod_int Tryz.underlying5 t0
    obtain ⟨r, e1⟩ := opens_rect t1
    obtain ⟨i, e2, _⟩ := DataW.trod_int Tryz.underlying3 t2
    obtain ⟨l, A, cap, e3, hcap, hC, hcl⟩ := opens_cells_of N ih (by omega) t3
    injection e0 with e0 _
    injection e2 with e2 _
    injection e3 with e3 _
    injection e1 with p1 e1
    injection e1 with p2 e1
    injection e1 with p3 e1
    injection e1 with p4 _
    refine ⟨⟨k, r, i, l⟩, ?_, ?_⟩
    ·rw [e0, p1, p2, p3, p4, e2, e3]
     exact k27_mk w ⟨k, r, i, l⟩ hcap hC
    ·have hcs : (cells (⟨k, r, i, l⟩ : SC)).length = 1 + (cellsL l).length := by rw [cells_eq]; simp; omega
     rw [hcs]
     simp only [Rows.uptoBulk, Rows.uptoBulkAll, List.map_cons, List.map_nil]
     omega
end
end Go.Proofs.YtkobpbbegalfpaaGreatDoor
namespace Go.Proofs.YtkobpbbegalfpaaGreatDoor
open Go.ChangeShapes Go.WideShapes Go.RowKit Go.ChangeAt
set_option linter.unusedVariables false
namespace LaidE
theorem own : ownKnob Tryz.prog.godebug = none := by kernel_rfl
abbrev laid5 : List (String × DataW Unit) := [("math/bits.deBruijn32tab", Rows.laid_math_bits_deBruijn32tab), ("math/bits.deBruijn64tab", Rows.laid_math_bits_deBruijn64tab), ("internal/strconv.uint64pow10", Rows.laid_internal_strconv_uint64pow10), ("strconv.ErrRange", Rows.laid_strconv_ErrRange), ("strconv.ErrSyntax", Rows.laid_strconv_ErrSyntax)]
abbrev laidH : List (String × DataW Unit) := [("errors.errorType", Rows.laid_errors_errorType)]
abbrev laid6 : List (String × DataW Unit) := [("math/bits.deBruijn32tab", Rows.laid_math_bits_deBruijn32tab), ("math/bits.deBruijn64tab", Rows.laid_math_bits_deBruijn64tab), ("internal/strconv.uint64pow10", Rows.laid_internal_strconv_uint64pow10), ("errors.errorType", Rows.laid_errors_errorType), ("strconv.ErrRange", Rows.laid_strconv_ErrRange), ("strconv.ErrSyntax", Rows.laid_strconv_ErrSyntax)]
def tab64 : List Int := [0, 1, 56, 2, 57, 49, 28, 3, 61, 58, 42, 50, 38, 29, 17, 4, 62, 47, 59, 36, 45, 43, 51, 22, 53, 39, 33, 30, 24, 18, 12, 5, 63, 55, 48, 27, 60, 41, 37, 16, 46, 35, 44, 21, 52, 32, 23, 11, 54, 26, 40, 15, 34, 20, 31, 10, 25, 14, 19, 9, 13, 8, 7, 6]
theorem e64 : (Rows.laid_math_bits_deBruijn64tab : DataW Unit) = Lib.tabData .u8 tab64 := rfl
theorem e10 : (Rows.laid_internal_strconv_uint64pow10 : DataW Unit) = Lib.tabData .u64 Lib.pow10Tab := rfl
theorem numT {W : World} {x : String × DataW Unit} {r : List (String × DataW Unit)} (h : laidMet Tryz.prog (x :: ("math/bits.deBruijn64tab", Rows.laid_math_bits_deBruijn64tab) :: ("internal/strconv.uint64pow10", Rows.laid_internal_strconv_uint64pow10) :: r) W) : NumT W := by
 rw [e64, e10] at h
 have h1 := h.tail
 have h2 := h1.tail
 have t1 := Lib.tabIs_of_head (g := 6) (t := 219) (e := 5) (n := 64) (by kernel_rfl) (by kernel_rfl) Tryz.underlying219 Tryz.underlying5 (by kernel_rfl) (by kernel_rfl) h1
 have t2 := Lib.tabIs_of_head (g := 3) (t := 205) (e := 134) (n := 20) (by kernel_rfl) (by kernel_rfl) Tryz.underlying205 Tryz.underlying134 (by kernel_rfl) (by kernel_rfl) h2
 exact ⟨t2, t1.cell (by kernel_rfl) 15 (by decide)⟩
theorem star : "*" ++ "errors.errorString" = "*errors.errorString" := by decide
theorem row_es : ∀ u, Tryz.prog.typeName? 3 u = some "*errors.errorString" → u = 211 := fun u h =>
 typeName_ptr_named (nm := "errors.errorString") (by rw [star]; kernel_rfl) (by kernel_rfl) (by decide) u (by rw [star]; exact h)
theorem numE {W : World} {x y z : String × DataW Unit} {r : List (String × DataW Unit)} (h : laidMet Tryz.prog (x :: y :: z :: ("strconv.ErrRange", Rows.laid_strconv_ErrRange) :: ("strconv.ErrSyntax", Rows.laid_strconv_ErrSyntax) :: r) W) : NumE W := by
 have h3 := h.tail.tail.tail
 obtain ⟨a0, s0, hv0, -, -, -⟩ := laid_sentinel h3 (g := 2) (ti := 29) (by kernel_rfl) (by kernel_rfl) Tryz.underlying29 row_es Tryz.underlying211 Tryz.underlying213 rfl rfl Tryz.underlying9 (by kernel_rfl) (by kernel_rfl)
 obtain ⟨a1, s1, hv1, -, -, -⟩ := laid_sentinel h3.tail (g := 1) (ti := 29) (by kernel_rfl) (by kernel_rfl) Tryz.underlying29 row_es Tryz.underlying211 Tryz.underlying213 rfl rfl Tryz.underlying9 (by kernel_rfl) (by kernel_rfl)
 exact ⟨⟨_, _, by have h0 := World.var?_cell (show Tryz.prog.globalNamed "strconv.ErrSyntax" = some 1 by kernel_rfl) hv1 0; simpa using h0⟩, ⟨_, _, by have h0 := World.var?_cell (show Tryz.prog.globalNamed "strconv.ErrRange" = some 2 by kernel_rfl) hv0 0; simpa using h0⟩⟩
theorem et : Tryz.prog.globalNamed "errors.errorType" = some 0 := by kernel_rfl
theorem rt : (Tryz.prog.cutTypes.find? (·.1 == "internal/reflectlite.rtype")).map (·.2) = some 148 := by kernel_rfl
theorem oneRow : ((List.range 245).filter fun t => Tryz.prog.rowNamed t [101, 114, 114, 111, 114]) = [29] := by kernel_rfl
theorem size : Tryz.prog.types.size = 245 := by kernel_rfl
theorem errTH {W : World} (h : handlesMet Tryz.prog laidH W) : As.ErrT W := by
 obtain ⟨name, u, ty, e1, e2, e3, e4, e5⟩ := h _ (List.mem_singleton.2 rfl)
 have en : name = [101, 114, 114, 111, 114] := (Option.some.inj e1).symm
 subst en
 obtain rfl := Option.some.inj (rt.symm.trans e2)
 have hm : ty ∈ (List.range 245).filter fun t => Tryz.prog.rowNamed t [101, 114, 114, 111, 114] := List.mem_filter.2 ⟨List.mem_range.2 (by rw [← size]; exact e3), e4⟩
 rw [oneRow] at hm
 obtain rfl := List.mem_singleton.1 hm
 have hh : typeHandle Tryz.prog 29 = .pointer (some ⟨7, 29, none⟩) := by kernel_rfl
 rw [hh] at e5
 have := World.var?_cell et e5 0
 simpa [As.ErrT] using this
noncomputable def low : Nat := (World.holding Tryz.prog default ⟨#[], #[], []⟩).heap.size
noncomputable def laidWorld (os : Os) : World :=
 let w0 := World.holding Tryz.prog os ⟨#[.cells #[.string ⟨#[105, 110, 118, 97, 108, 105, 100, 32, 115, 121, 110, 116, 97, 120]⟩] 213, .cells #[.string ⟨#[118, 97, 108, 117, 101, 32, 111, 117, 116, 32, 111, 102, 32, 114, 97, 110, 103, 101]⟩] 213], #[], []⟩
 {w0 with heap := (((((w0.heap.modify 0 fun
   | .cells _ t frozen => .cells #[.iface 148 (.agg #[.pointer (some ⟨7, 29, none⟩)])] t frozen
   | o => o).modify 1 fun
   | .cells _ t frozen => .cells #[.iface 211 (.pointer (some ⟨low, 0, none⟩))] t frozen
   | o => o).modify 2 fun
   | .cells _ t frozen => .cells #[.iface 211 (.pointer (some ⟨low + 1, 0, none⟩))] t frozen
   | o => o).modify 3 fun
   | .cells _ t frozen => .cells (Lib.pow10Tab.map (Value.int .u64)).toArray t frozen
   | o => o).modify 5 fun
   | .cells _ t frozen => .cells #[.int .u8 0, .int .u8 1, .int .u8 28, .int .u8 2, .int .u8 29, .int .u8 14, .int .u8 24, .int .u8 3, .int .u8 30, .int .u8 22, .int .u8 20, .int .u8 15, .int .u8 25, .int .u8 17, .int .u8 4, .int .u8 8, .int .u8 31, .int .u8 27, .int .u8 13, .int .u8 23, .int .u8 21, .int .u8 19, .int .u8 16, .int .u8 7, .int .u8 26, .int .u8 12, .int .u8 18, .int .u8 6, .int .u8 11, .int .u8 5, .int .u8 10, .int .u8 9] t frozen
   | o => o).modify 6 fun
   | .cells _ t frozen => .cells (tab64.map (Value.int .u8)).toArray t frozen
   | o => o }
theorem laid6_met (os : Os) (args : Array Value) : laidMetH Tryz.prog laid6 ((laidWorld os).forCall (fun _ _ => 0) ⟨#[], args, []⟩).memory :=
 laidMetH_of_parts (show laidMet Tryz.prog laid5 _ from laidMet_of_run' 8 (by kernel_rfl) (by kernel_rfl)) (by kernel_rfl)
theorem parts6 {W : World} (h : laidMetH Tryz.prog laid6 W) : laidMet Tryz.prog laid5 W ∧ handlesMet Tryz.prog laidH W := h
end LaidE
end Go.Proofs.YtkobpbbegalfpaaGreatDoor
