/-
  errors.As, fault.Code, fault.At at several errors joined, in words. (its walks by program from As, AsTop)
-/
import Derived.Test.YtelmmcjlhjahcaaDoorAsTop
import Derived.Test.YtelmmcjlhjahcaaDoorFaJoin
namespace Go.Proofs.YtelmmcjlhjahcaaDoor
open Go.RowKit Go.Extern.Stop Go.Stop Go.Extern Go.Proofs.YtelmmcjlhjahcaaDoorW.PrintWords Go.Proofs.YtelmmcjlhjahcaaDoorW.PrintLast Go.Proofs.YtelmmcjlhjahcaaDoorW.PrintMore
set_option linter.unusedVariables false
set_option linter.unusedSimpArgs false
namespace As
/-- Several errors joined: what each one is. -/
def JB (w : World) (v : Value) (es : List (List (List ByteArray) × Base)) : Prop :=
  ∃ g A n c zs, v = .iface 91 (.pointer (some ⟨g, 0, none⟩)) ∧ w.heap[g]? = some (.cells #[.slice A n c] 93 (0, 0)) ∧ n = zs.length ∧ n ≤ 100000 ∧ kErr.C w A n zs ∧ zs.length = es.length ∧ ∀ i, i < zs.length → EV w (encE (zs.getD i none)) (es.getD i ([], .errno 0)).1 (es.getD i ([], .errno 0)).2
/-- The same, put in words. -/
def JV (w : World) : Value → List (List ByteArray) → List (List (List ByteArray) × Base) → Prop
  | v, [], es => JB w v es
  | v, xs :: ins, es => ∃ g ws err, v = .iface 83 (.pointer (some ⟨g, 0, none⟩)) ∧ w.heap[g]? = some (.cells #[ws, err] 86 (0, 0)) ∧ Kd.string.R 9 w 0 (fun _ => True) ws xs ∧ JV w err ins es
theorem JV_iface {w : World} {v : Value} {ins : List (List ByteArray)} {es : List (List (List ByteArray) × Base)} (h : JV w v ins es) : ∃ t x, v = .iface t x := by
  cases ins with
  | nil => obtain ⟨g, A, n, c, zs, rfl, _⟩ := h; exact ⟨_, _, rfl⟩
  | cons xs ins => obtain ⟨g, ws, err, rfl, _⟩ := h; exact ⟨_, _, rfl⟩
theorem JV_keep {w w' : World} (hk : Below w.heap.size w w') {v : Value} {ins : List (List ByteArray)} {es : List (List (List ByteArray) × Base)} (h : JV w v ins es) : JV w' v ins es := by
  have kept : ∀ g o, w.heap[g]? = some o → w'.heap[g]? = some o := fun g o hg => (hk.block g (blk_lt hg)).trans hg
  induction ins generalizing v with
  | nil =>
    obtain ⟨g, A, n, c, zs, rfl, hg, hn, hc, hz, hl, he⟩ := h
    exact ⟨g, A, n, c, zs, rfl, kept _ _ hg, hn, hc, Kd.C_below hz hk, hl, fun i hi => EV_keep hk (he i hi)⟩
  | cons xs ins ih =>
    obtain ⟨g, ws, err, rfl, hg, hr, he⟩ := h
    exact ⟨g, ws, err, rfl, kept _ _ hg, Kd.R_below hr hk, ih he⟩
theorem err_cell {w : World} {A : Option Addr} {n : Nat} {zs : List (Option (TypeId × Value))} (h : kErr.C w A n zs) (k : Nat) (hk : k < n) : ∃ ad, A = some ad ∧ w.cell? (ad.add k) = some (encE (zs.getD k none)) := by
  have hl := Kd.C_len h
  obtain ⟨a, rfl, hh⟩ := h.2.2 (by omega)
  refine ⟨a, rfl, ?_⟩
  have hz : zs[k]? = some (zs.getD k none) := by rw [List.getD_eq_getElem?_getD, List.getElem?_eq_getElem (by omega)]; rfl
  obtain ⟨cs, h1, h2, h3⟩ := hh k _ hz
  have h1' : cs = [encE (zs.getD k none)] := h2
  subst h1'
  have hq := h3 0 _ rfl
  rwa [show kErr.sz = 1 from rfl, Nat.mul_one, Nat.add_zero] at hq
theorem add_zero' (ad : Addr) : ad.add 0 = ad := by simp [Addr.add]
theorem unw_joined (g : Nat) (v : Value) (w : World) (hg : w.heap[g]? = some (.cells #[v] 93 (0, 0))) :
    Calls Tryd.prog 150 #[.pointer (some ⟨g, 0, none⟩)] w fun e w' => e = .returned v ∧ w' = w := by
  have c0 : w.cell? ⟨g, 0, none⟩ = some v := (blk_cell hg 0).trans rfl
  clear hg
  go_enter Tryd.func150, Tryd.ntmps150
  go_wp2
  go_ret
  exact ⟨rfl, rfl⟩
theorem mUnwJ (h : Option Addr) (w : World) : (Go.method 333 91 (.pointer h) "Unwrap").run Tryd.prog w = .ok (150, .pointer h) w := by kernel_rfl
theorem typeOfJ (v : Value) (w : World) : (ReflectliteType.typeOf #[.iface 91 v]).run Tryd.prog w = .ok (.iface 139 (.agg #[.pointer (some ⟨9, 91, none⟩)])) w := by kernel_rfl
theorem noAsJ (v : Value) (w : World) : (Instr.typeAssert (.iface 91 v) 29 143 true).run Tryd.prog w = .ok (.tuple #[.nilIface, .bool false]) w := run_typeAssert_lacksB Tryd.underlying143 (by kernel_rfl) (by kernel_rfl) v 29 w
theorem noUnJ (v : Value) (w : World) : (Instr.typeAssert (.iface 91 v) 29 146 true).run Tryd.prog w = .ok (.tuple #[.nilIface, .bool false]) w := run_typeAssert_lacksB Tryd.underlying146 (by kernel_rfl) (by kernel_rfl) v 29 w
theorem unlJ (v : Value) (w : World) : (Instr.typeAssert (.iface 91 v) 29 148 true).run Tryd.prog w = .ok (.tuple #[.iface 91 v, .bool true]) w := run_typeAssert_hasB Tryd.underlying148 (by kernel_rfl) v 29 w
theorem assignJF (w : World) : (ReflectliteType.relation "AssignableTo" ReflectliteType.assignableTo #[.agg #[.pointer (some ⟨9, 91, none⟩)], .iface 139 (.agg #[.pointer (some ⟨9, 77, none⟩)])]).run Tryd.prog w = .ok (.bool false) w := by kernel_rfl
theorem assignJE (w : World) : (ReflectliteType.relation "AssignableTo" ReflectliteType.assignableTo #[.agg #[.pointer (some ⟨9, 91, none⟩)], .iface 139 (.agg #[.pointer (some ⟨9, 33, none⟩)])]).run Tryd.prog w = .ok (.bool false) w := by kernel_rfl

set_option maxHeartbeats 4000000 in
theorem as2_FJ (v : Value) (ins : List (List ByteArray)) (i0 : List (List ByteArray)) (n0 x0 : Int) (es : List (List (List ByteArray) × Base)) (t a : Addr) (old : Value) (w W0 : World) (hW0 : W0 = (w.alloc (.cells #[.pointer (some ⟨9, 79, none⟩), .pointer (some a), .int .u64 150] 113))) (he : JV w v ins ((i0, .fault n0 x0) :: es))
    (ht0 : w.cell? t = some old) (hf0 : w.frozen? t = false) (ha : w.cell? a = some (.pointer (some t))) :
    Calls Tryd.prog 62 #[v, .iface 79 (.pointer (some t)), (.agg #[.pointer (some ⟨9, 79, none⟩), .pointer (some a), .int .u64 150]), .iface 139 (.agg #[.pointer (some ⟨9, 77, none⟩)])] w fun e w' => ToldF (W0.alloc (.cells #[.pointer (some ⟨9, 79, none⟩), .pointer (some a), .int .u64 150] 113)) t (.fault n0 x0) e w' := by
  have h66 := @run_callFunc_extern Tryd.prog 66 _ ReflectliteType.typeOf Tryd.func66 (by kernel_rfl) (by kernel_rfl) (by kernel_rfl) (by kernel_rfl)
  have h156 := @run_callFunc_extern Tryd.prog 156 _ (ReflectliteType.relation "AssignableTo" ReflectliteType.assignableTo) Tryd.func156 (by kernel_rfl) (by kernel_rfl) (by kernel_rfl) (by kernel_rfl)
  have h59 := @run_callFunc_extern Tryd.prog 59 _ (fun args => ReflectliteValue.unpack (args.getD 0 (.tuple #[]))) Tryd.func59 (by kernel_rfl) (by kernel_rfl) (by kernel_rfl) (by kernel_rfl)
  have h77 := @run_callFunc_extern Tryd.prog 77 _ (ReflectliteValue.method (ReflectliteValue.valueError "reflectlite.Value.Elem" 0) ReflectliteValue.elem) Tryd.func77 (by kernel_rfl) (by kernel_rfl) (by kernel_rfl) (by kernel_rfl)
  have h78 := @run_callFunc_extern Tryd.prog 78 _ ReflectliteValue.set Tryd.func78 (by kernel_rfl) (by kernel_rfl) (by kernel_rfl) (by kernel_rfl)
  have tI := typeOfI; have tJ := typeOfJ
  have mA := mAssignableTo; have mUI := mUnwI; have mUJ := mUnwJ
  have aI := ToF.assignI; have aJ := assignJF
  have nI := noAsI; have nJ := noAsJ
  have uI := unI; have uJ := noUnJ; have ulJ := unlJ
  have vT := ToF.valueOfT
  have htl := World.lt_of_cell ht0
  have hal := World.lt_of_cell ha
  have ht1 : W0.cell? t = some old := by rw [hW0, World.cell?_alloc_lt _ _ t htl]; exact ht0
  have hf1 : W0.frozen? t = false := by rw [hW0, World.frozen?_alloc_old _ _ t (Nat.ne_of_lt htl)]; exact hf0
  have el := ToF.elemV a t W0 (by rw [hW0, World.cell?_alloc_lt _ _ a hal]; exact ha)
  have bx0 : W0.cell? ⟨w.heap.size, 0, none⟩ = some (.pointer (some ⟨9, 79, none⟩)) := by rw [hW0]; simp
  have bx1 : W0.cell? ⟨w.heap.size, 1, none⟩ = some (.pointer (some a)) := by rw [hW0]; simp
  have bx2 : W0.cell? ⟨w.heap.size, 2, none⟩ = some (.int .u64 150) := by rw [hW0]; simp
  have HE : Aside0 (JV W0 v ins ((i0, .fault n0 x0) :: es)) := ⟨by rw [hW0]; exact JV_keep (below_alloc (Below.refl _ _) _) he⟩
  have HAA : Aside0 (W0.cell? a = some (.pointer (some t))) := ⟨by rw [hW0, World.cell?_alloc_lt _ _ a hal]; exact ha⟩
  have HT : Aside0 (t.block < W0.heap.size ∧ W0.cell? t = some old ∧ W0.frozen? t = false) := ⟨by rw [hW0]; simp; omega, ht1, hf1⟩
  have HW : Aside0 (W0 = (w.alloc (.cells #[.pointer (some ⟨9, 79, none⟩), .pointer (some a), .int .u64 150] 113))) := ⟨hW0⟩
  clear he ht0 hf0 ha htl hal ht1 hf1 hW0
  go_enter Tryd.func62, Tryd.ntmps62
  go_wp2
  rw [← HW.out]

  go_loopg [0] (ins.length) (fun k p wr => wr = W0 ∧ ∃ xs, xs.length = k ∧ JV W0 p xs ((i0, .fault n0 x0) :: es))
  case atStart => exact ⟨rfl, ins, rfl, HE.out⟩
  case round =>
    obtain ⟨rfl, xs, hk, hv⟩ := hrel
    have HK : Aside0 (xs.length = gk) := ⟨hk⟩
    clear hk
    rcases xs with _ | ⟨ys, xs⟩
    · obtain ⟨g, A, n, c, zs, rfl, hg, hn, hc, hzc, hall⟩ := hv
      have hn0 : 0 < n := by rw [hn]; have := hall.1; simp at this; omega
      obtain ⟨ad, rfl, hcell⟩ := err_cell hzc 0 hn0
      have hev := hall.2 0 (by rw [← hn]; exact hn0)
      obtain ⟨ut, ux, hux⟩ := EV_iface hev
      rw [hux] at hcell hev
      rw [add_zero'] at hcell
      have HG := Aside0.mk (unw_joined g (.slice (some ad) n c) wr hg)
      have HC := Aside0.mk (as2_F (.iface ut ux) i0 (.fault n0 x0) t a old wr _ rfl hev HT.out.2.1 HT.out.2.2 HAA.out)
      have hnz : (0 : Int) < (n : Int) := by omega
      clear hg hn hc hzc hall hev
      go_wp2_with (go_at_call 150; refine HG.out.mono ?_; rintro e w' ⟨rfl, rfl⟩)
      refine wp_loop_rounds 1 ?_
      rw [rounds_succ]
      go_wp2_with (go_at_call 62; refine HC.out.mono ?_; rintro e w' ⟨g0, hg0, rfl, hw0⟩)
      go_ret
      exact ⟨g0, hg0, rfl, by first | rfl | exact hw0⟩
    · obtain ⟨g, ws, err, rfl, hg, hws, hv'⟩ := hv
      obtain ⟨ut, ux, rfl⟩ := JV_iface hv'
      have HG : Aside0 (wr.heap[g]? = some (.cells #[ws, .iface ut ux] 86 (0, 0)) ∧ JV wr (.iface ut ux) xs ((i0, .fault n0 x0) :: es)) := ⟨hg, hv'⟩
      clear hg hws hv'
      go_wp2_with (go_at_call 148; refine (unw_inside g ws (.iface ut ux) _ HG.out.1).mono ?_; rintro e w' ⟨rfl, rfl⟩)
      go_roundg xs.length
      case measure => have := HK.out; simp at this; omega
      case rel => exact ⟨rfl, xs, rfl, HG.out.2⟩

set_option maxHeartbeats 4000000 in
theorem as2_EJ (v : Value) (ins : List (List ByteArray)) (i0 : List (List ByteArray)) (n0 x0 : Int) (es : List (List (List ByteArray) × Base)) (t a : Addr) (old : Value) (w W0 : World) (hW0 : W0 = (w.alloc (.cells #[.pointer (some ⟨9, 82, none⟩), .pointer (some a), .int .u64 150] 113))) (he : JV w v ins ((i0, .fault n0 x0) :: es))
    (ht0 : w.cell? t = some old) (hf0 : w.frozen? t = false) (ha : w.cell? a = some (.pointer (some t))) :
    Calls Tryd.prog 62 #[v, .iface 82 (.pointer (some t)), (.agg #[.pointer (some ⟨9, 82, none⟩), .pointer (some a), .int .u64 150]), .iface 139 (.agg #[.pointer (some ⟨9, 33, none⟩)])] w fun e w' => ToldE (W0.alloc (.cells #[.pointer (some ⟨9, 82, none⟩), .pointer (some a), .int .u64 150] 113)) t (.fault n0 x0) e w' := by
  have h66 := @run_callFunc_extern Tryd.prog 66 _ ReflectliteType.typeOf Tryd.func66 (by kernel_rfl) (by kernel_rfl) (by kernel_rfl) (by kernel_rfl)
  have h156 := @run_callFunc_extern Tryd.prog 156 _ (ReflectliteType.relation "AssignableTo" ReflectliteType.assignableTo) Tryd.func156 (by kernel_rfl) (by kernel_rfl) (by kernel_rfl) (by kernel_rfl)
  have h59 := @run_callFunc_extern Tryd.prog 59 _ (fun args => ReflectliteValue.unpack (args.getD 0 (.tuple #[]))) Tryd.func59 (by kernel_rfl) (by kernel_rfl) (by kernel_rfl) (by kernel_rfl)
  have h77 := @run_callFunc_extern Tryd.prog 77 _ (ReflectliteValue.method (ReflectliteValue.valueError "reflectlite.Value.Elem" 0) ReflectliteValue.elem) Tryd.func77 (by kernel_rfl) (by kernel_rfl) (by kernel_rfl) (by kernel_rfl)
  have h78 := @run_callFunc_extern Tryd.prog 78 _ ReflectliteValue.set Tryd.func78 (by kernel_rfl) (by kernel_rfl) (by kernel_rfl) (by kernel_rfl)
  have tI := typeOfI; have tJ := typeOfJ
  have mA := mAssignableTo; have mUI := mUnwI; have mUJ := mUnwJ
  have aI := ToE.assignI; have aJ := assignJE
  have nI := noAsI; have nJ := noAsJ
  have uI := unI; have uJ := noUnJ; have ulJ := unlJ
  have vT := ToE.valueOfT
  have htl := World.lt_of_cell ht0
  have hal := World.lt_of_cell ha
  have ht1 : W0.cell? t = some old := by rw [hW0, World.cell?_alloc_lt _ _ t htl]; exact ht0
  have hf1 : W0.frozen? t = false := by rw [hW0, World.frozen?_alloc_old _ _ t (Nat.ne_of_lt htl)]; exact hf0
  have el := ToE.elemV a t W0 (by rw [hW0, World.cell?_alloc_lt _ _ a hal]; exact ha)
  have bx0 : W0.cell? ⟨w.heap.size, 0, none⟩ = some (.pointer (some ⟨9, 82, none⟩)) := by rw [hW0]; simp
  have bx1 : W0.cell? ⟨w.heap.size, 1, none⟩ = some (.pointer (some a)) := by rw [hW0]; simp
  have bx2 : W0.cell? ⟨w.heap.size, 2, none⟩ = some (.int .u64 150) := by rw [hW0]; simp
  have HE : Aside0 (JV W0 v ins ((i0, .fault n0 x0) :: es)) := ⟨by rw [hW0]; exact JV_keep (below_alloc (Below.refl _ _) _) he⟩
  have HAA : Aside0 (W0.cell? a = some (.pointer (some t))) := ⟨by rw [hW0, World.cell?_alloc_lt _ _ a hal]; exact ha⟩
  have HT : Aside0 (t.block < W0.heap.size ∧ W0.cell? t = some old ∧ W0.frozen? t = false) := ⟨by rw [hW0]; simp; omega, ht1, hf1⟩
  have HW : Aside0 (W0 = (w.alloc (.cells #[.pointer (some ⟨9, 82, none⟩), .pointer (some a), .int .u64 150] 113))) := ⟨hW0⟩
  clear he ht0 hf0 ha htl hal ht1 hf1 hW0
  go_enter Tryd.func62, Tryd.ntmps62
  go_wp2
  rw [← HW.out]

  go_loopg [0] (ins.length) (fun k p wr => wr = W0 ∧ ∃ xs, xs.length = k ∧ JV W0 p xs ((i0, .fault n0 x0) :: es))
  case atStart => exact ⟨rfl, ins, rfl, HE.out⟩
  case round =>
    obtain ⟨rfl, xs, hk, hv⟩ := hrel
    have HK : Aside0 (xs.length = gk) := ⟨hk⟩
    clear hk
    rcases xs with _ | ⟨ys, xs⟩
    · obtain ⟨g, A, n, c, zs, rfl, hg, hn, hc, hzc, hall⟩ := hv
      have hn0 : 0 < n := by rw [hn]; have := hall.1; simp at this; omega
      obtain ⟨ad, rfl, hcell⟩ := err_cell hzc 0 hn0
      have hev := hall.2 0 (by rw [← hn]; exact hn0)
      obtain ⟨ut, ux, hux⟩ := EV_iface hev
      rw [hux] at hcell hev
      rw [add_zero'] at hcell
      have HG := Aside0.mk (unw_joined g (.slice (some ad) n c) wr hg)
      have HC := Aside0.mk (as2_E (.iface ut ux) i0 (.fault n0 x0) t a old wr _ rfl hev HT.out.2.1 HT.out.2.2 HAA.out)
      have hnz : (0 : Int) < (n : Int) := by omega
      clear hg hn hc hzc hall hev
      go_wp2_with (go_at_call 150; refine HG.out.mono ?_; rintro e w' ⟨rfl, rfl⟩)
      refine wp_loop_rounds 1 ?_
      rw [rounds_succ]
      go_wp2_with (go_at_call 62; refine HC.out.mono ?_; rintro e w' ⟨rfl, hw0⟩)
      go_ret
      exact ⟨rfl, by first | rfl | exact hw0⟩
    · obtain ⟨g, ws, err, rfl, hg, hws, hv'⟩ := hv
      obtain ⟨ut, ux, rfl⟩ := JV_iface hv'
      have HG : Aside0 (wr.heap[g]? = some (.cells #[ws, .iface ut ux] 86 (0, 0)) ∧ JV wr (.iface ut ux) xs ((i0, .fault n0 x0) :: es)) := ⟨hg, hv'⟩
      clear hg hws hv'
      go_wp2_with (go_at_call 148; refine (unw_inside g ws (.iface ut ux) _ HG.out.1).mono ?_; rintro e w' ⟨rfl, rfl⟩)
      go_roundg xs.length
      case measure => have := HK.out; simp at this; omega
      case rel => exact ⟨rfl, xs, rfl, HG.out.2⟩

set_option maxHeartbeats 4000000 in
theorem as_FJ (v : Value) (ins : List (List ByteArray)) (i0 : List (List ByteArray)) (n0 x0 : Int) (es : List (List (List ByteArray) × Base)) (tb : Nat) (old : Value) (w : World) (he : JV w v ins ((i0, .fault n0 x0) :: es))
    (ht : w.heap[tb]? = some (.cells #[old] 77 (0, 0))) (hg : ErrT w) :
    Calls Tryd.prog 40 #[v, .iface 79 (.pointer (some ⟨tb, 0, none⟩))] w fun e w' => ∃ r, e = .returned (.bool r) ∧ Aside0 (Keeps (fun k => k = tb) w w' ∧ SeenF (.fault n0 x0) tb r w') := by
  have h59 := @run_callFunc_extern Tryd.prog 59 _ (fun args => ReflectliteValue.unpack (args.getD 0 (.tuple #[]))) Tryd.func59 (by kernel_rfl) (by kernel_rfl) (by kernel_rfl) (by kernel_rfl)
  have h60 := @run_callFunc_extern Tryd.prog 60 _ (ReflectliteValue.methodAny (ReflectliteValue.valueError "reflectlite.Value.Type" 0) (fun t _ _ _ => ReflectliteType.toType t)) Tryd.func60 (by kernel_rfl) (by kernel_rfl) (by kernel_rfl) (by kernel_rfl)
  have h61 := @run_callFunc_extern Tryd.prog 61 _ (ReflectliteValue.method (ReflectliteValue.valueError "reflectlite.Value.IsNil" 0) ReflectliteValue.isNil) Tryd.func61 (by kernel_rfl) (by kernel_rfl) (by kernel_rfl) (by kernel_rfl)
  have h141 := @run_callFunc_extern Tryd.prog 141 _ (ReflectliteType.abiMethod fun t => do pure (.int .u8 (← Rtype.kind t))) Tryd.func141 (by kernel_rfl) (by kernel_rfl) (by kernel_rfl) (by kernel_rfl)
  have h158 := @run_callFunc_extern Tryd.prog 158 _ (ReflectliteType.method ReflectliteType.elem) Tryd.func158 (by kernel_rfl) (by kernel_rfl) (by kernel_rfl) (by kernel_rfl)
  have h159 := @run_callFunc_extern Tryd.prog 159 _ (ReflectliteType.relation "Implements" ReflectliteType.implements_) Tryd.func159 (by kernel_rfl) (by kernel_rfl) (by kernel_rfl) (by kernel_rfl)
  have vP := ToF.valueOfP; have tP := ToF.typeP; have kP := ToF.kindP; have kT := ToF.kindT
  have eP := ToF.elemP; have iT := ToF.implementsT
  have mK := mKind; have mE := mElem; have mI := mImplements
  have htl : tb < w.heap.size := by
    rcases Nat.lt_or_ge tb w.heap.size with h | h
    · exact h
    · rw [Array.getElem?_eq_none h] at ht; cases ht
  have hlt : 0 < w.heap.size := World.lt_of_cell hg
  obtain ⟨W2, hW2⟩ : ∃ W2, W2 = ((w.alloc (.cells #[.pointer (some ⟨tb, 0, none⟩)] 79)).alloc (.cells #[.pointer (some ⟨9, 79, none⟩), .pointer (some ⟨w.heap.size, 0, none⟩), .int .u64 150] 113)) := ⟨_, rfl⟩
  have B2 : Below w.heap.size w W2 := by rw [hW2]; exact below_alloc (below_alloc (Below.refl _ _) _) _
  have nP := ToF.isNilP ⟨w.heap.size, 0, none⟩ ⟨tb, 0, none⟩ ((w.alloc (.cells #[.pointer (some ⟨tb, 0, none⟩)] 79)).alloc (.cells #[.pointer (some ⟨9, 79, none⟩), .pointer (some ⟨w.heap.size, 0, none⟩), .int .u64 150] 113)) (by rw [World.cell?_alloc_lt _ _ ⟨w.heap.size, 0, none⟩ (by simp)]; simp)
  have hg2 : ((w.alloc (.cells #[.pointer (some ⟨tb, 0, none⟩)] 79)).alloc (.cells #[.pointer (some ⟨9, 79, none⟩), .pointer (some ⟨w.heap.size, 0, none⟩), .int .u64 150] 113)).cell? ⟨0, 0, none⟩ = some (.iface 139 (.agg #[.pointer (some ⟨9, 29, none⟩)])) := by rw [← hW2]; exact hg.below B2
  have HT : Aside0 (w.heap[tb]? = some (.cells #[old] 77 (0, 0)) ∧ tb < w.heap.size) := ⟨ht, htl⟩
  have htW : W2.heap[tb]? = some (.cells #[old] 77 (0, 0)) := by rw [B2.block tb htl]; exact ht
  have HC : Aside0 (Calls Tryd.prog 62 #[v, .iface 79 (.pointer (some ⟨tb, 0, none⟩)), (.agg #[.pointer (some ⟨9, 79, none⟩), .pointer (some ⟨w.heap.size, 0, none⟩), .int .u64 150]), .iface 139 (.agg #[.pointer (some ⟨9, 77, none⟩)])] W2 fun e w' => ∃ r, e = .returned (.bool r) ∧ Aside0 (Keeps (fun k => k = tb) w w' ∧ SeenF (.fault n0 x0) tb r w')) :=
    ⟨(as2_FJ v ins i0 n0 x0 es ⟨tb, 0, none⟩ ⟨w.heap.size, 0, none⟩ old W2 _ rfl (JV_keep B2 he)
      ((blk_cell htW 0).trans rfl)
      (blk_frozen htW _)
      (by rw [hW2, World.cell?_alloc_lt _ _ ⟨w.heap.size, 0, none⟩ (by simp)]; simp)).mono fun e w' hT => by
        obtain ⟨r, hr, hk⟩ := seenF (blk_alloc (blk_alloc htW _) _) hT
        exact ⟨r, hr, ⟨((((Keeps.refl _ w).below B2).alloc _).alloc _).trans hk.out.1, hk.out.2⟩⟩⟩
  have HW : Aside0 (W2 = ((w.alloc (.cells #[.pointer (some ⟨tb, 0, none⟩)] 79)).alloc (.cells #[.pointer (some ⟨9, 79, none⟩), .pointer (some ⟨w.heap.size, 0, none⟩), .int .u64 150] 113)) ∧ Below w.heap.size w W2) := ⟨hW2, B2⟩
  obtain ⟨ut, ux, rfl⟩ := JV_iface he
  clear he ht hg htl hlt hW2 B2 htW
  go_enter Tryd.func40, Tryd.ntmps40
  go_wp2_with (go_at_call 62; rw [← HW.out.1]; refine HC.out.mono ?_; rintro e w' ⟨r, rfl, hT⟩)
  go_ret
  exact ⟨r, rfl, hT⟩

set_option maxHeartbeats 4000000 in
theorem as_EJ (v : Value) (ins : List (List ByteArray)) (i0 : List (List ByteArray)) (n0 x0 : Int) (es : List (List (List ByteArray) × Base)) (tb : Nat) (old : Value) (w : World) (he : JV w v ins ((i0, .fault n0 x0) :: es))
    (ht : w.heap[tb]? = some (.cells #[old] 33 (0, 0))) (hg : ErrT w) :
    Calls Tryd.prog 40 #[v, .iface 82 (.pointer (some ⟨tb, 0, none⟩))] w fun e w' => ∃ r, e = .returned (.bool r) ∧ Aside0 (Keeps (fun k => k = tb) w w' ∧ SeenE (.fault n0 x0) tb r w') := by
  have h59 := @run_callFunc_extern Tryd.prog 59 _ (fun args => ReflectliteValue.unpack (args.getD 0 (.tuple #[]))) Tryd.func59 (by kernel_rfl) (by kernel_rfl) (by kernel_rfl) (by kernel_rfl)
  have h60 := @run_callFunc_extern Tryd.prog 60 _ (ReflectliteValue.methodAny (ReflectliteValue.valueError "reflectlite.Value.Type" 0) (fun t _ _ _ => ReflectliteType.toType t)) Tryd.func60 (by kernel_rfl) (by kernel_rfl) (by kernel_rfl) (by kernel_rfl)
  have h61 := @run_callFunc_extern Tryd.prog 61 _ (ReflectliteValue.method (ReflectliteValue.valueError "reflectlite.Value.IsNil" 0) ReflectliteValue.isNil) Tryd.func61 (by kernel_rfl) (by kernel_rfl) (by kernel_rfl) (by kernel_rfl)
  have h141 := @run_callFunc_extern Tryd.prog 141 _ (ReflectliteType.abiMethod fun t => do pure (.int .u8 (← Rtype.kind t))) Tryd.func141 (by kernel_rfl) (by kernel_rfl) (by kernel_rfl) (by kernel_rfl)
  have h158 := @run_callFunc_extern Tryd.prog 158 _ (ReflectliteType.method ReflectliteType.elem) Tryd.func158 (by kernel_rfl) (by kernel_rfl) (by kernel_rfl) (by kernel_rfl)
  have h159 := @run_callFunc_extern Tryd.prog 159 _ (ReflectliteType.relation "Implements" ReflectliteType.implements_) Tryd.func159 (by kernel_rfl) (by kernel_rfl) (by kernel_rfl) (by kernel_rfl)
  have vP := ToE.valueOfP; have tP := ToE.typeP; have kP := ToE.kindP; have kT := ToE.kindT
  have eP := ToE.elemP; have iT := ToE.implementsT
  have mK := mKind; have mE := mElem; have mI := mImplements
  have htl : tb < w.heap.size := by
    rcases Nat.lt_or_ge tb w.heap.size with h | h
    · exact h
    · rw [Array.getElem?_eq_none h] at ht; cases ht
  have hlt : 0 < w.heap.size := World.lt_of_cell hg
  obtain ⟨W2, hW2⟩ : ∃ W2, W2 = ((w.alloc (.cells #[.pointer (some ⟨tb, 0, none⟩)] 82)).alloc (.cells #[.pointer (some ⟨9, 82, none⟩), .pointer (some ⟨w.heap.size, 0, none⟩), .int .u64 150] 113)) := ⟨_, rfl⟩
  have B2 : Below w.heap.size w W2 := by rw [hW2]; exact below_alloc (below_alloc (Below.refl _ _) _) _
  have nP := ToE.isNilP ⟨w.heap.size, 0, none⟩ ⟨tb, 0, none⟩ ((w.alloc (.cells #[.pointer (some ⟨tb, 0, none⟩)] 82)).alloc (.cells #[.pointer (some ⟨9, 82, none⟩), .pointer (some ⟨w.heap.size, 0, none⟩), .int .u64 150] 113)) (by rw [World.cell?_alloc_lt _ _ ⟨w.heap.size, 0, none⟩ (by simp)]; simp)
  have hg2 : ((w.alloc (.cells #[.pointer (some ⟨tb, 0, none⟩)] 82)).alloc (.cells #[.pointer (some ⟨9, 82, none⟩), .pointer (some ⟨w.heap.size, 0, none⟩), .int .u64 150] 113)).cell? ⟨0, 0, none⟩ = some (.iface 139 (.agg #[.pointer (some ⟨9, 29, none⟩)])) := by rw [← hW2]; exact hg.below B2
  have HT : Aside0 (w.heap[tb]? = some (.cells #[old] 33 (0, 0)) ∧ tb < w.heap.size) := ⟨ht, htl⟩
  have htW : W2.heap[tb]? = some (.cells #[old] 33 (0, 0)) := by rw [B2.block tb htl]; exact ht
  have HC : Aside0 (Calls Tryd.prog 62 #[v, .iface 82 (.pointer (some ⟨tb, 0, none⟩)), (.agg #[.pointer (some ⟨9, 82, none⟩), .pointer (some ⟨w.heap.size, 0, none⟩), .int .u64 150]), .iface 139 (.agg #[.pointer (some ⟨9, 33, none⟩)])] W2 fun e w' => ∃ r, e = .returned (.bool r) ∧ Aside0 (Keeps (fun k => k = tb) w w' ∧ SeenE (.fault n0 x0) tb r w')) :=
    ⟨(as2_EJ v ins i0 n0 x0 es ⟨tb, 0, none⟩ ⟨w.heap.size, 0, none⟩ old W2 _ rfl (JV_keep B2 he)
      ((blk_cell htW 0).trans rfl)
      (blk_frozen htW _)
      (by rw [hW2, World.cell?_alloc_lt _ _ ⟨w.heap.size, 0, none⟩ (by simp)]; simp)).mono fun e w' hT => by
        obtain ⟨r, hr, hk⟩ := seenE (blk_alloc (blk_alloc htW _) _) hT
        exact ⟨r, hr, ⟨((((Keeps.refl _ w).below B2).alloc _).alloc _).trans hk.out.1, hk.out.2⟩⟩⟩
  have HW : Aside0 (W2 = ((w.alloc (.cells #[.pointer (some ⟨tb, 0, none⟩)] 82)).alloc (.cells #[.pointer (some ⟨9, 82, none⟩), .pointer (some ⟨w.heap.size, 0, none⟩), .int .u64 150] 113)) ∧ Below w.heap.size w W2) := ⟨hW2, B2⟩
  obtain ⟨ut, ux, rfl⟩ := JV_iface he
  clear he ht hg htl hlt hW2 B2 htW
  go_enter Tryd.func40, Tryd.ntmps40
  go_wp2_with (go_at_call 62; rw [← HW.out.1]; refine HC.out.mono ?_; rintro e w' ⟨r, rfl, hT⟩)
  go_ret
  exact ⟨r, rfl, hT⟩


set_option maxHeartbeats 4000000 in
theorem code_callsJ (v : Value) (ins : List (List ByteArray)) (i0 : List (List ByteArray)) (n0 x0 : Int) (es : List (List (List ByteArray) × Base)) (w : World) (he : JV w v ins ((i0, .fault n0 x0) :: es)) (hg : ErrT w) :
    Calls Tryd.prog 16 #[v] w fun e w' => e = .returned (.int .i64 n0) ∧ Below w.heap.size w w' := by
  have B0 : Below w.heap.size w (w.alloc (.cells #[.int .i64 0] 33)) := below_alloc (Below.refl _ _) _
  have HC : Aside0 (Calls Tryd.prog 40 #[v, .iface 82 (.pointer (some ⟨w.heap.size, 0, none⟩))] (w.alloc (.cells #[.int .i64 0] 33)) fun e w' => e = .returned (.bool true) ∧ w'.cell? ⟨w.heap.size, 0, none⟩ = some (.int .i64 n0) ∧ Aside0 (Below w.heap.size w w')) :=
    ⟨(as_EJ v ins i0 n0 x0 es w.heap.size _ _ (JV_keep B0 he) (heap_alloc_new w _) (hg.below B0)).mono fun e w' ⟨r, hr, hk⟩ => by
      obtain ⟨h1, rfl, h2⟩ := hk.out
      exact ⟨hr, h2, ⟨B0.trans (h1.toBelow B0.size (fun k hk => by omega))⟩⟩⟩
  obtain ⟨ut, ux, rfl⟩ := JV_iface he
  clear he hg B0
  go_enter Tryd.func16, Tryd.ntmps16
  go_wp2_with (go_at_call 40; refine HC.out.mono ?_; rintro e w' ⟨rfl, hc, hb⟩)
  go_ret
  exact ⟨rfl, hb.out⟩
set_option maxHeartbeats 4000000 in
theorem at_callsJ (v : Value) (ins : List (List ByteArray)) (i0 : List (List ByteArray)) (n0 x0 : Int) (es : List (List (List ByteArray) × Base)) (w : World) (he : JV w v ins ((i0, .fault n0 x0) :: es)) (hg : ErrT w) :
    Calls Tryd.prog 15 #[v] w fun e w' => e = .returned (.tuple #[.int .i64 x0, .bool true]) ∧ Below w.heap.size w w' := by
  have B0 : Below w.heap.size w (w.alloc (.cells #[.pointer none] 77)) := below_alloc (Below.refl _ _) _
  have HC : Aside0 (Calls Tryd.prog 40 #[v, .iface 79 (.pointer (some ⟨w.heap.size, 0, none⟩))] (w.alloc (.cells #[.pointer none] 77)) fun e w' => ∃ r, e = .returned (.bool r) ∧ Aside0 (SeenF (.fault n0 x0) w.heap.size r w' ∧ Below w.heap.size w w')) :=
    ⟨(as_FJ v ins i0 n0 x0 es w.heap.size _ _ (JV_keep B0 he) (heap_alloc_new w _) (hg.below B0)).mono fun e w' ⟨r, hr, hk⟩ =>
      ⟨r, hr, ⟨hk.out.2, B0.trans (hk.out.1.toBelow B0.size (fun k hk => by omega))⟩⟩⟩
  obtain ⟨ut, ux, rfl⟩ := JV_iface he
  clear he hg B0
  go_enter Tryd.func15, Tryd.ntmps15
  go_wp2_with (go_at_call 40; refine HC.out.mono ?_; rintro e w' ⟨r, rfl, hb⟩; obtain ⟨g, rfl, c0, c1⟩ := hb.out.1)
  go_ret2
  exact ⟨rfl, hb.out.2⟩


end As
end Go.Proofs.YtelmmcjlhjahcaaDoor
