/-
  Joined texts: As, AsTop.
-/
import Derived.Test.YtkobpbbegalfpaaGreatDoorAsFacts
/-
 errors.as, errors.As, fault.Code, fault.At walked. (printed by wip/tools/gen_as3.py)
-/
namespace Go.Proofs.YtkobpbbegalfpaaGreatDoor
open Go.RowKit Go.Extern.Stop Go.Stop Go.Extern Go.Proofs.YtkobpbbegalfpaaGreatDoorW.PrintWords Go.Proofs.YtkobpbbegalfpaaGreatDoorW.PrintLast Go.Proofs.YtkobpbbegalfpaaGreatDoorW.PrintMore
set_option linter.unusedVariables false
set_option linter.unusedSimpArgs false
namespace As
theorem World.lt_of_cell {w : World} {a : Addr} {v : Value} (h : w.cell? a = some v) : a.block < w.heap.size := by
 rcases Nat.lt_or_ge a.block w.heap.size with h1 | h1
 ·exact h1
 ·simp [World.cell?, Array.getElem?_eq_none h1] at h
/-- The number that an error tells; the fault. -/
def Base.code : Base → Int
 | .errno e => e
 | .fault e _ => e
def Base.at? : Base → Option Int
 | .errno _ => none
 | .fault _ a => some a

def ToldF (W0 : World) (t : Addr) (b : Base) (e : Ending) (w' : World) : Prop :=
 match b with
 | .errno _ => e = .returned (.bool false) ∧ w' = W0
 | .fault n x => ∃ g, W0.heap[g]? = some (.cells #[.int .i64 n, .int .i64 x] 84 (0, 0)) ∧ e = .returned (.bool true) ∧ w' = (W0.alloc (.cells #[.pointer (some ⟨g, 0, none⟩)] 82)).setCell t (.pointer (some ⟨g, 0, none⟩))

set_option maxHeartbeats 4000000 in
theorem as2_F (v : Value) (ins : List (List ByteArray)) (b : Base) (t a : Addr) (old : Value) (w W0 : World) (hW0 : W0 = (w.alloc (.cells #[.pointer (some ⟨7, 96, none⟩), .pointer (some a), .int .u64 150] 113))) (he : EV w v ins b)
  (ht0 : w.cell? t = some old) (hf0 : w.frozen? t = false) (ha : w.cell? a = some (.pointer (some t))) :
  Calls Tryz.prog 66 #[v, .iface 96 (.pointer (some t)), (.agg #[.pointer (some ⟨7, 96, none⟩), .pointer (some a), .int .u64 150]), .iface 148 (.agg #[.pointer (some ⟨7, 82, none⟩)])] w fun e w' => ToldF W0 t b e w' := by
 have h66 := @run_callFunc_extern Tryz.prog 92 _ ReflectliteType.typeOf Tryz.func92 (by kernel_rfl) (by kernel_rfl) (by kernel_rfl) (by kernel_rfl)
 have h156 := @run_callFunc_extern Tryz.prog 181 _ (ReflectliteType.relation "AssignableTo" ReflectliteType.assignableTo) Tryz.func181 (by kernel_rfl) (by kernel_rfl) (by kernel_rfl) (by kernel_rfl)
 have h59 := @run_callFunc_extern Tryz.prog 63 _ (fun args => ReflectliteValue.unpack (args.getD 0 (.tuple #[]))) Tryz.func63 (by kernel_rfl) (by kernel_rfl) (by kernel_rfl) (by kernel_rfl)
 have h77 := @run_callFunc_extern Tryz.prog 93 _ (ReflectliteValue.method (ReflectliteValue.valueError "reflectlite.Value.Elem" 0) ReflectliteValue.elem) Tryz.func93 (by kernel_rfl) (by kernel_rfl) (by kernel_rfl) (by kernel_rfl)
 have h78 := @run_callFunc_extern Tryz.prog 94 _ ReflectliteValue.set Tryz.func94 (by kernel_rfl) (by kernel_rfl) (by kernel_rfl) (by kernel_rfl)
 have tI := typeOfI; have tF := typeOfF; have tE := typeOfE
 have mA := mAssignableTo; have mUI := mUnwI; have mUF := mUnwF
 have aI := ToF.assignI; have aF := ToF.assignF; have aE := ToF.assignE
 have nI := noAsI; have nF := noAsF; have nE := noAsE
 have uI := unI; have uF := unF; have uE := noUnE; have ulE := noUnlE
 have vT := ToF.valueOfT
 have htl := World.lt_of_cell ht0
 have hal := World.lt_of_cell ha
 have ht1 : W0.cell? t = some old := by rw [hW0, World.cell?_alloc_lt _ _ t htl]; exact ht0
 have hf1 : W0.frozen? t = false := by rw [hW0, World.frozen?_alloc_old _ _ t (Nat.ne_of_lt htl)]; exact hf0
 have el := ToF.elemV a t W0 (by rw [hW0, World.cell?_alloc_lt _ _ a hal]; exact ha)
 have bx0 : W0.cell? ⟨w.heap.size, 0, none⟩ = some (.pointer (some ⟨7, 96, none⟩)) := by rw [hW0]; simp
 have bx1 : W0.cell? ⟨w.heap.size, 1, none⟩ = some (.pointer (some a)) := by rw [hW0]; simp
 have bx2 : W0.cell? ⟨w.heap.size, 2, none⟩ = some (.int .u64 150) := by rw [hW0]; simp
 have HE : Aside0 (EV W0 v ins b) := ⟨by rw [hW0]; exact EV_keep (below_alloc (Below.refl _ _) _) he⟩
 have HT : Aside0 (t.block < W0.heap.size ∧ W0.cell? t = some old ∧ W0.frozen? t = false) := ⟨by rw [hW0]; simp; omega, ht1, hf1⟩
 have HW : Aside0 (W0 = (w.alloc (.cells #[.pointer (some ⟨7, 96, none⟩), .pointer (some a), .int .u64 150] 113))) := ⟨hW0⟩
 clear he ht0 hf0 ha htl hal ht1 hf1 hW0
 go_enter Tryz.func66, Tryz.ntmps66
 go_wp2
 rw [← HW.out]

 go_loopg [0] (ins.length) (fun k p wr => wr = W0 ∧ ∃ xs, xs.length = k ∧ EV W0 p xs b)
 case atStart => exact ⟨rfl, ins, rfl, HE.out⟩
 case round =>
  obtain ⟨rfl, xs, hk, hv⟩ := hrel
  have HK : Aside0 (xs.length = gk) := ⟨hk⟩
  clear hk
  rcases xs with _ | ⟨ys, xs⟩
  ·cases b with
   | errno m =>
    simp only [EV, EB] at hv
    subst hv
    go_wp2
    go_ret
    exact ⟨rfl, rfl⟩
   | fault m x =>
    obtain ⟨g, rfl, hg⟩ := hv
    have HG : Aside0 (wr.heap[g]? = some (.cells #[.int .i64 m, .int .i64 x] 84 (0, 0))) := ⟨hg⟩
    clear hg
    have st := ToF.setT t ⟨wr.heap.size, 0, none⟩ ⟨g, 0, none⟩ old (wr.alloc (.cells #[.pointer (some ⟨g, 0, none⟩)] 82))
     (by rw [World.cell?_alloc_at _ _ _ _ (by simp)]; rfl)
     (by rw [World.cell?_alloc_lt _ _ t HT.out.1]; exact HT.out.2.1)
     (by rw [World.frozen?_alloc_old _ _ t (Nat.ne_of_lt HT.out.1)]; exact HT.out.2.2)
    go_wp2
    go_ret
    exact ⟨g, HG.out, rfl, rfl⟩
  ·obtain ⟨g, ws, err, rfl, hg, hws, hv'⟩ := hv
   obtain ⟨ut, ux, rfl⟩ := EV_iface hv'
   have HG : Aside0 (wr.heap[g]? = some (.cells #[ws, .iface ut ux] 81 (0, 0)) ∧ EV wr (.iface ut ux) xs b) := ⟨hg, hv'⟩
   clear hg hws hv'
   go_wp2_with (go_at_call 173; refine (unw_inside g ws (.iface ut ux) _ HG.out.1).mono ?_; rintro e w' ⟨rfl, rfl⟩)
   go_roundg xs.length
   case measure => have := HK.out; simp at this; omega
   case rel => exact ⟨rfl, xs, rfl, HG.out.2⟩

def ToldE (W0 : World) (t : Addr) (b : Base) (e : Ending) (w' : World) : Prop := e = .returned (.bool true) ∧ w' = (W0.alloc (.cells #[.int .i64 b.code] 42)).setCell t (.int .i64 b.code)

set_option maxHeartbeats 4000000 in
theorem as2_E (v : Value) (ins : List (List ByteArray)) (b : Base) (t a : Addr) (old : Value) (w W0 : World) (hW0 : W0 = (w.alloc (.cells #[.pointer (some ⟨7, 77, none⟩), .pointer (some a), .int .u64 150] 113))) (he : EV w v ins b)
  (ht0 : w.cell? t = some old) (hf0 : w.frozen? t = false) (ha : w.cell? a = some (.pointer (some t))) :
  Calls Tryz.prog 66 #[v, .iface 77 (.pointer (some t)), (.agg #[.pointer (some ⟨7, 77, none⟩), .pointer (some a), .int .u64 150]), .iface 148 (.agg #[.pointer (some ⟨7, 42, none⟩)])] w fun e w' => ToldE W0 t b e w' := by
 have h66 := @run_callFunc_extern Tryz.prog 92 _ ReflectliteType.typeOf Tryz.func92 (by kernel_rfl) (by kernel_rfl) (by kernel_rfl) (by kernel_rfl)
 have h156 := @run_callFunc_extern Tryz.prog 181 _ (ReflectliteType.relation "AssignableTo" ReflectliteType.assignableTo) Tryz.func181 (by kernel_rfl) (by kernel_rfl) (by kernel_rfl) (by kernel_rfl)
 have h59 := @run_callFunc_extern Tryz.prog 63 _ (fun args => ReflectliteValue.unpack (args.getD 0 (.tuple #[]))) Tryz.func63 (by kernel_rfl) (by kernel_rfl) (by kernel_rfl) (by kernel_rfl)
 have h77 := @run_callFunc_extern Tryz.prog 93 _ (ReflectliteValue.method (ReflectliteValue.valueError "reflectlite.Value.Elem" 0) ReflectliteValue.elem) Tryz.func93 (by kernel_rfl) (by kernel_rfl) (by kernel_rfl) (by kernel_rfl)
 have h78 := @run_callFunc_extern Tryz.prog 94 _ ReflectliteValue.set Tryz.func94 (by kernel_rfl) (by kernel_rfl) (by kernel_rfl) (by kernel_rfl)
 have tI := typeOfI; have tF := typeOfF; have tE := typeOfE
 have mA := mAssignableTo; have mUI := mUnwI; have mUF := mUnwF
 have aI := ToE.assignI; have aF := ToE.assignF; have aE := ToE.assignE
 have nI := noAsI; have nF := noAsF; have nE := noAsE
 have uI := unI; have uF := unF; have uE := noUnE; have ulE := noUnlE
 have vT := ToE.valueOfT
 have htl := World.lt_of_cell ht0
 have hal := World.lt_of_cell ha
 have ht1 : W0.cell? t = some old := by rw [hW0, World.cell?_alloc_lt _ _ t htl]; exact ht0
 have hf1 : W0.frozen? t = false := by rw [hW0, World.frozen?_alloc_old _ _ t (Nat.ne_of_lt htl)]; exact hf0
 have el := ToE.elemV a t W0 (by rw [hW0, World.cell?_alloc_lt _ _ a hal]; exact ha)
 have bx0 : W0.cell? ⟨w.heap.size, 0, none⟩ = some (.pointer (some ⟨7, 77, none⟩)) := by rw [hW0]; simp
 have bx1 : W0.cell? ⟨w.heap.size, 1, none⟩ = some (.pointer (some a)) := by rw [hW0]; simp
 have bx2 : W0.cell? ⟨w.heap.size, 2, none⟩ = some (.int .u64 150) := by rw [hW0]; simp
 have HE : Aside0 (EV W0 v ins b) := ⟨by rw [hW0]; exact EV_keep (below_alloc (Below.refl _ _) _) he⟩
 have HT : Aside0 (t.block < W0.heap.size ∧ W0.cell? t = some old ∧ W0.frozen? t = false) := ⟨by rw [hW0]; simp; omega, ht1, hf1⟩
 have HW : Aside0 (W0 = (w.alloc (.cells #[.pointer (some ⟨7, 77, none⟩), .pointer (some a), .int .u64 150] 113))) := ⟨hW0⟩
 clear he ht0 hf0 ha htl hal ht1 hf1 hW0
 go_enter Tryz.func66, Tryz.ntmps66
 go_wp2
 rw [← HW.out]

 go_loopg [0] (ins.length + 1) (fun k p wr => wr = W0 ∧ ∃ xs b', (xs.length = k ∧ (∃ m, b' = .errno m) ∨ xs.length + 1 = k) ∧ b'.code = b.code ∧ EV W0 p xs b')
 case atStart => exact ⟨rfl, ins, b, Or.inr rfl, rfl, HE.out⟩
 case round =>
  obtain ⟨rfl, xs, b', hk, hb, hv⟩ := hrel
  have HK : Aside0 (xs.length = gk ∧ (∃ m, b' = .errno m) ∨ xs.length + 1 = gk) := ⟨hk⟩
  have HB : Aside0 (b'.code = b.code) := ⟨hb⟩
  clear hk hb
  rcases xs with _ | ⟨ys, xs⟩
  ·cases b' with
   | errno m =>
    simp only [EV, EB] at hv
    subst hv
    have st := ToE.setT t ⟨wr.heap.size, 0, none⟩ m old (wr.alloc (.cells #[.int .i64 m] 42))
     (by rw [World.cell?_alloc_at _ _ _ _ (by simp)]; rfl)
     (by rw [World.cell?_alloc_lt _ _ t HT.out.1]; exact HT.out.2.1)
     (by rw [World.frozen?_alloc_old _ _ t (Nat.ne_of_lt HT.out.1)]; exact HT.out.2.2)
    go_wp2
    go_ret
    have hb := HB.out
    exact ⟨rfl, by rw [← hb]; rfl⟩
   | fault m x =>
    obtain ⟨g, rfl, hg⟩ := hv
    have HG : Aside0 (wr.heap[g]? = some (.cells #[.int .i64 m, .int .i64 x] 84 (0, 0))) := ⟨hg⟩
    clear hg
    go_wp2_with (go_at_call 175; refine (unw_fault g m x _ HG.out).mono ?_; rintro e w' ⟨rfl, rfl⟩)
    go_roundg 0
    case measure => have := HK.out; simp at this; omega
    case rel => exact ⟨rfl, [], .errno m, Or.inl ⟨rfl, _, rfl⟩, HB.out, rfl⟩
  ·obtain ⟨g, ws, err, rfl, hg, hws, hv'⟩ := hv
   obtain ⟨ut, ux, rfl⟩ := EV_iface hv'
   have HG : Aside0 (wr.heap[g]? = some (.cells #[ws, .iface ut ux] 81 (0, 0)) ∧ EV wr (.iface ut ux) xs b') := ⟨hg, hv'⟩
   clear hg hws hv'
   go_wp2_with (go_at_call 173; refine (unw_inside g ws (.iface ut ux) _ HG.out.1).mono ?_; rintro e w' ⟨rfl, rfl⟩)
   go_roundg (gk - 1)
   case measure => have := HK.out; simp at this; omega
   case rel => exact ⟨rfl, xs, b', by have := HK.out; rcases this with ⟨h1, h2⟩ | h1 <;> simp at h1 <;> first | exact Or.inl ⟨by omega, h2⟩ | exact Or.inr (by omega), HB.out, HG.out.2⟩

end As
end Go.Proofs.YtkobpbbegalfpaaGreatDoor

/-
 errors.As, fault.Code, fault.At by their contracts. (printed by wip/tools/gen_as4.py)
-/
namespace Go.Proofs.YtkobpbbegalfpaaGreatDoor
open Go.RowKit Go.Extern.Stop Go.Stop Go.Extern Go.Proofs.YtkobpbbegalfpaaGreatDoorW.PrintWords Go.Proofs.YtkobpbbegalfpaaGreatDoorW.PrintLast Go.Proofs.YtkobpbbegalfpaaGreatDoorW.PrintMore
set_option linter.unusedVariables false
set_option linter.unusedSimpArgs false
namespace As
/-- What the variable errors.errorType holds. -/
def ErrT (w : World) : Prop := w.cell? ⟨0, 0, none⟩ = some (.iface 148 (.agg #[.pointer (some ⟨7, 29, none⟩)]))
theorem ErrT.below {w w' : World} (h : ErrT w) (hb : Below w.heap.size w w') : ErrT w' := by
 have hlt : 0 < w.heap.size := World.lt_of_cell h
 unfold ErrT World.cell? at *
 rw [hb.block 0 hlt]; exact h
theorem TF_ne_TPF : (84 : Nat) ≠ 82 := by decide

def SeenF (b : Base) (tb : Nat) (r : Bool) (w' : World) : Prop :=
 match b with
 | .errno _ => r = false
 | .fault n x => ∃ g, r = true ∧ w'.cell? ⟨tb, 0, none⟩ = some (.pointer (some ⟨g, 0, none⟩)) ∧ w'.cell? ⟨g, 1, none⟩ = some (.int .i64 x)
theorem seenF {W0 w' : World} {b : Base} {tb : Nat} {old : Value} {e : Ending} (ht : W0.heap[tb]? = some (.cells #[old] 82 (0, 0))) (h : ToldF W0 ⟨tb, 0, none⟩ b e w') :
  ∃ r, e = .returned (.bool r) ∧ Aside0 (Keeps (fun k => k = tb) W0 w' ∧ SeenF b tb r w') := by
 cases b with
 | errno m => obtain ⟨rfl, rfl⟩ := h; exact ⟨_, rfl, ⟨Keeps.refl _ _, rfl⟩⟩
 | fault m x =>
  obtain ⟨g, hg, rfl, rfl⟩ := h
  have hg' := blk_alloc hg (.cells #[.pointer (some ⟨g, 0, none⟩)] 82 (0, 0))
  have ht' := blk_alloc ht (.cells #[.pointer (some ⟨g, 0, none⟩)] 82 (0, 0))
  refine ⟨_, rfl, ⟨Keeps.setCell (ok := fun k => k = tb) ((Keeps.refl _ _).alloc _) (p := ⟨tb, 0, none⟩) rfl _, g, rfl, ?_, ?_⟩⟩
  ·exact (blk_cell (blk_set ht' 0 _) 0).trans rfl
  ·exact (blk_cell (blk_far hg' (p := ⟨tb, 0, none⟩) (blk_ne hg' ht' TF_ne_TPF) _) 1).trans rfl


set_option maxHeartbeats 4000000 in
theorem as_F (v : Value) (ins : List (List ByteArray)) (b : Base) (tb : Nat) (old : Value) (w : World) (he : EV w v ins b)
  (ht : w.heap[tb]? = some (.cells #[old] 82 (0, 0))) (hg : ErrT w) :
  Calls Tryz.prog 44 #[v, .iface 96 (.pointer (some ⟨tb, 0, none⟩))] w fun e w' => ∃ r, e = .returned (.bool r) ∧ Aside0 (Keeps (fun k => k = tb) w w' ∧ SeenF b tb r w') := by
 have h59 := @run_callFunc_extern Tryz.prog 63 _ (fun args => ReflectliteValue.unpack (args.getD 0 (.tuple #[]))) Tryz.func63 (by kernel_rfl) (by kernel_rfl) (by kernel_rfl) (by kernel_rfl)
 have h60 := @run_callFunc_extern Tryz.prog 64 _ (ReflectliteValue.methodAny (ReflectliteValue.valueError "reflectlite.Value.Type" 0) (fun t _ _ _ => ReflectliteType.toType t)) Tryz.func64 (by kernel_rfl) (by kernel_rfl) (by kernel_rfl) (by kernel_rfl)
 have h61 := @run_callFunc_extern Tryz.prog 65 _ (ReflectliteValue.method (ReflectliteValue.valueError "reflectlite.Value.IsNil" 0) ReflectliteValue.isNil) Tryz.func65 (by kernel_rfl) (by kernel_rfl) (by kernel_rfl) (by kernel_rfl)
 have h141 := @run_callFunc_extern Tryz.prog 168 _ (ReflectliteType.abiMethod fun t => do pure (.int .u8 (← Rtype.kind t))) Tryz.func168 (by kernel_rfl) (by kernel_rfl) (by kernel_rfl) (by kernel_rfl)
 have h158 := @run_callFunc_extern Tryz.prog 183 _ (ReflectliteType.method ReflectliteType.elem) Tryz.func183 (by kernel_rfl) (by kernel_rfl) (by kernel_rfl) (by kernel_rfl)
 have h159 := @run_callFunc_extern Tryz.prog 184 _ (ReflectliteType.relation "Implements" ReflectliteType.implements_) Tryz.func184 (by kernel_rfl) (by kernel_rfl) (by kernel_rfl) (by kernel_rfl)
 have vP := ToF.valueOfP; have tP := ToF.typeP; have kP := ToF.kindP; have kT := ToF.kindT
 have eP := ToF.elemP; have iT := ToF.implementsT
 have mK := mKind; have mE := mElem; have mI := mImplements
 have htl : tb < w.heap.size := by
  rcases Nat.lt_or_ge tb w.heap.size with h | h
  ·exact h
  ·rw [Array.getElem?_eq_none h] at ht; cases ht
 have hlt : 0 < w.heap.size := World.lt_of_cell hg
 obtain ⟨W2, hW2⟩ : ∃ W2, W2 = ((w.alloc (.cells #[.pointer (some ⟨tb, 0, none⟩)] 96)).alloc (.cells #[.pointer (some ⟨7, 96, none⟩), .pointer (some ⟨w.heap.size, 0, none⟩), .int .u64 150] 113)) := ⟨_, rfl⟩
 have B2 : Below w.heap.size w W2 := by rw [hW2]; exact below_alloc (below_alloc (Below.refl _ _) _) _
 have nP := ToF.isNilP ⟨w.heap.size, 0, none⟩ ⟨tb, 0, none⟩ ((w.alloc (.cells #[.pointer (some ⟨tb, 0, none⟩)] 96)).alloc (.cells #[.pointer (some ⟨7, 96, none⟩), .pointer (some ⟨w.heap.size, 0, none⟩), .int .u64 150] 113)) (by rw [World.cell?_alloc_lt _ _ ⟨w.heap.size, 0, none⟩ (by simp)]; simp)
 have hg2 : ((w.alloc (.cells #[.pointer (some ⟨tb, 0, none⟩)] 96)).alloc (.cells #[.pointer (some ⟨7, 96, none⟩), .pointer (some ⟨w.heap.size, 0, none⟩), .int .u64 150] 113)).cell? ⟨0, 0, none⟩ = some (.iface 148 (.agg #[.pointer (some ⟨7, 29, none⟩)])) := by rw [← hW2]; exact hg.below B2
 have HT : Aside0 (w.heap[tb]? = some (.cells #[old] 82 (0, 0)) ∧ tb < w.heap.size) := ⟨ht, htl⟩
 have htW : W2.heap[tb]? = some (.cells #[old] 82 (0, 0)) := by rw [B2.block tb htl]; exact ht
 have HC : Aside0 (Calls Tryz.prog 66 #[v, .iface 96 (.pointer (some ⟨tb, 0, none⟩)), (.agg #[.pointer (some ⟨7, 96, none⟩), .pointer (some ⟨w.heap.size, 0, none⟩), .int .u64 150]), .iface 148 (.agg #[.pointer (some ⟨7, 82, none⟩)])] W2 fun e w' => ∃ r, e = .returned (.bool r) ∧ Aside0 (Keeps (fun k => k = tb) w w' ∧ SeenF b tb r w')) :=
  ⟨(as2_F v ins b ⟨tb, 0, none⟩ ⟨w.heap.size, 0, none⟩ old W2 _ rfl (EV_keep B2 he)
   ((blk_cell htW 0).trans rfl)
   (blk_frozen htW _)
   (by rw [hW2, World.cell?_alloc_lt _ _ ⟨w.heap.size, 0, none⟩ (by simp)]; simp)).mono fun e w' hT => by
    obtain ⟨r, hr, hk⟩ := seenF (blk_alloc htW _) hT
    exact ⟨r, hr, ⟨(((Keeps.refl _ w).below B2).alloc _).trans hk.out.1, hk.out.2⟩⟩⟩
 have HW : Aside0 (W2 = ((w.alloc (.cells #[.pointer (some ⟨tb, 0, none⟩)] 96)).alloc (.cells #[.pointer (some ⟨7, 96, none⟩), .pointer (some ⟨w.heap.size, 0, none⟩), .int .u64 150] 113)) ∧ Below w.heap.size w W2) := ⟨hW2, B2⟩
 obtain ⟨ut, ux, rfl⟩ := EV_iface he
 clear he ht hg htl hlt hW2 B2 htW
 go_enter Tryz.func44, Tryz.ntmps44
 go_wp2_with (go_at_call 66; rw [← HW.out.1]; refine HC.out.mono ?_; rintro e w' ⟨r, rfl, hT⟩)
 go_ret
 exact ⟨r, rfl, hT⟩

def SeenE (b : Base) (tb : Nat) (r : Bool) (w' : World) : Prop := r = true ∧ w'.cell? ⟨tb, 0, none⟩ = some (.int .i64 b.code)
theorem seenE {W0 w' : World} {b : Base} {tb : Nat} {old : Value} {e : Ending} (ht : W0.heap[tb]? = some (.cells #[old] 42 (0, 0))) (h : ToldE W0 ⟨tb, 0, none⟩ b e w') :
  ∃ r, e = .returned (.bool r) ∧ Aside0 (Keeps (fun k => k = tb) W0 w' ∧ SeenE b tb r w') := by
 obtain ⟨rfl, rfl⟩ := h
 have ht' := blk_alloc ht (.cells #[.int .i64 b.code] 42 (0, 0))
 exact ⟨_, rfl, ⟨Keeps.setCell (ok := fun k => k = tb) ((Keeps.refl _ _).alloc _) (p := ⟨tb, 0, none⟩) rfl _, rfl, (blk_cell (blk_set ht' 0 _) 0).trans rfl⟩⟩


set_option maxHeartbeats 4000000 in
theorem as_E (v : Value) (ins : List (List ByteArray)) (b : Base) (tb : Nat) (old : Value) (w : World) (he : EV w v ins b)
  (ht : w.heap[tb]? = some (.cells #[old] 42 (0, 0))) (hg : ErrT w) :
  Calls Tryz.prog 44 #[v, .iface 77 (.pointer (some ⟨tb, 0, none⟩))] w fun e w' => ∃ r, e = .returned (.bool r) ∧ Aside0 (Keeps (fun k => k = tb) w w' ∧ SeenE b tb r w') := by
 have h59 := @run_callFunc_extern Tryz.prog 63 _ (fun args => ReflectliteValue.unpack (args.getD 0 (.tuple #[]))) Tryz.func63 (by kernel_rfl) (by kernel_rfl) (by kernel_rfl) (by kernel_rfl)
 have h60 := @run_callFunc_extern Tryz.prog 64 _ (ReflectliteValue.methodAny (ReflectliteValue.valueError "reflectlite.Value.Type" 0) (fun t _ _ _ => ReflectliteType.toType t)) Tryz.func64 (by kernel_rfl) (by kernel_rfl) (by kernel_rfl) (by kernel_rfl)
 have h61 := @run_callFunc_extern Tryz.prog 65 _ (ReflectliteValue.method (ReflectliteValue.valueError "reflectlite.Value.IsNil" 0) ReflectliteValue.isNil) Tryz.func65 (by kernel_rfl) (by kernel_rfl) (by kernel_rfl) (by kernel_rfl)
 have h141 := @run_callFunc_extern Tryz.prog 168 _ (ReflectliteType.abiMethod fun t => do pure (.int .u8 (← Rtype.kind t))) Tryz.func168 (by kernel_rfl) (by kernel_rfl) (by kernel_rfl) (by kernel_rfl)
 have h158 := @run_callFunc_extern Tryz.prog 183 _ (ReflectliteType.method ReflectliteType.elem) Tryz.func183 (by kernel_rfl) (by kernel_rfl) (by kernel_rfl) (by kernel_rfl)
 have h159 := @run_callFunc_extern Tryz.prog 184 _ (ReflectliteType.relation "Implements" ReflectliteType.implements_) Tryz.func184 (by kernel_rfl) (by kernel_rfl) (by kernel_rfl) (by kernel_rfl)
 have vP := ToE.valueOfP; have tP := ToE.typeP; have kP := ToE.kindP; have kT := ToE.kindT
 have eP := ToE.elemP; have iT := ToE.implementsT
 have mK := mKind; have mE := mElem; have mI := mImplements
 have htl : tb < w.heap.size := by
  rcases Nat.lt_or_ge tb w.heap.size with h | h
  ·exact h
  ·rw [Array.getElem?_eq_none h] at ht; cases ht
 have hlt : 0 < w.heap.size := World.lt_of_cell hg
 obtain ⟨W2, hW2⟩ : ∃ W2, W2 = ((w.alloc (.cells #[.pointer (some ⟨tb, 0, none⟩)] 77)).alloc (.cells #[.pointer (some ⟨7, 77, none⟩), .pointer (some ⟨w.heap.size, 0, none⟩), .int .u64 150] 113)) := ⟨_, rfl⟩
 have B2 : Below w.heap.size w W2 := by rw [hW2]; exact below_alloc (below_alloc (Below.refl _ _) _) _
 have nP := ToE.isNilP ⟨w.heap.size, 0, none⟩ ⟨tb, 0, none⟩ ((w.alloc (.cells #[.pointer (some ⟨tb, 0, none⟩)] 77)).alloc (.cells #[.pointer (some ⟨7, 77, none⟩), .pointer (some ⟨w.heap.size, 0, none⟩), .int .u64 150] 113)) (by rw [World.cell?_alloc_lt _ _ ⟨w.heap.size, 0, none⟩ (by simp)]; simp)
 have hg2 : ((w.alloc (.cells #[.pointer (some ⟨tb, 0, none⟩)] 77)).alloc (.cells #[.pointer (some ⟨7, 77, none⟩), .pointer (some ⟨w.heap.size, 0, none⟩), .int .u64 150] 113)).cell? ⟨0, 0, none⟩ = some (.iface 148 (.agg #[.pointer (some ⟨7, 29, none⟩)])) := by rw [← hW2]; exact hg.below B2
 have HT : Aside0 (w.heap[tb]? = some (.cells #[old] 42 (0, 0)) ∧ tb < w.heap.size) := ⟨ht, htl⟩
 have htW : W2.heap[tb]? = some (.cells #[old] 42 (0, 0)) := by rw [B2.block tb htl]; exact ht
 have HC : Aside0 (Calls Tryz.prog 66 #[v, .iface 77 (.pointer (some ⟨tb, 0, none⟩)), (.agg #[.pointer (some ⟨7, 77, none⟩), .pointer (some ⟨w.heap.size, 0, none⟩), .int .u64 150]), .iface 148 (.agg #[.pointer (some ⟨7, 42, none⟩)])] W2 fun e w' => ∃ r, e = .returned (.bool r) ∧ Aside0 (Keeps (fun k => k = tb) w w' ∧ SeenE b tb r w')) :=
  ⟨(as2_E v ins b ⟨tb, 0, none⟩ ⟨w.heap.size, 0, none⟩ old W2 _ rfl (EV_keep B2 he)
   ((blk_cell htW 0).trans rfl)
   (blk_frozen htW _)
   (by rw [hW2, World.cell?_alloc_lt _ _ ⟨w.heap.size, 0, none⟩ (by simp)]; simp)).mono fun e w' hT => by
    obtain ⟨r, hr, hk⟩ := seenE (blk_alloc htW _) hT
    exact ⟨r, hr, ⟨(((Keeps.refl _ w).below B2).alloc _).trans hk.out.1, hk.out.2⟩⟩⟩
 have HW : Aside0 (W2 = ((w.alloc (.cells #[.pointer (some ⟨tb, 0, none⟩)] 77)).alloc (.cells #[.pointer (some ⟨7, 77, none⟩), .pointer (some ⟨w.heap.size, 0, none⟩), .int .u64 150] 113)) ∧ Below w.heap.size w W2) := ⟨hW2, B2⟩
 obtain ⟨ut, ux, rfl⟩ := EV_iface he
 clear he ht hg htl hlt hW2 B2 htW
 go_enter Tryz.func44, Tryz.ntmps44
 go_wp2_with (go_at_call 66; rw [← HW.out.1]; refine HC.out.mono ?_; rintro e w' ⟨r, rfl, hT⟩)
 go_ret
 exact ⟨r, rfl, hT⟩


theorem code_nil (w : World) : Calls Tryz.prog 24 #[.nilIface] w fun e w' => e = .returned (.int .i64 0) ∧ Below w.heap.size w w' := by
 have B0 : Aside0 (Below w.heap.size w (w.alloc (.cells #[.int .i64 0] 42))) := ⟨below_alloc (Below.refl _ _) _⟩
 go_enter Tryz.func24, Tryz.ntmps24
 go_wp2
 go_ret
 exact ⟨rfl, B0.out⟩
theorem at_nil (w : World) : Calls Tryz.prog 32 #[.nilIface] w fun e w' => e = .returned (.tuple #[.int .i64 0, .bool false]) ∧ Below w.heap.size w w' := by
 have B0 : Aside0 (Below w.heap.size w (w.alloc (.cells #[.pointer none] 82))) := ⟨below_alloc (Below.refl _ _) _⟩
 go_enter Tryz.func32, Tryz.ntmps32
 go_wp2_with (go_at_call 44; refine (as_nil _ _).mono ?_; rintro e w' ⟨rfl, rfl⟩)
 go_ret2
 exact ⟨rfl, B0.out⟩
set_option maxHeartbeats 4000000 in
theorem code_calls (v : Value) (ins : List (List ByteArray)) (b : Base) (w : World) (he : EV w v ins b) (hg : ErrT w) :
  Calls Tryz.prog 24 #[v] w fun e w' => e = .returned (.int .i64 b.code) ∧ Below w.heap.size w w' := by
 have B0 : Below w.heap.size w (w.alloc (.cells #[.int .i64 0] 42)) := below_alloc (Below.refl _ _) _
 have HC : Aside0 (Calls Tryz.prog 44 #[v, .iface 77 (.pointer (some ⟨w.heap.size, 0, none⟩))] (w.alloc (.cells #[.int .i64 0] 42)) fun e w' => e = .returned (.bool true) ∧ w'.cell? ⟨w.heap.size, 0, none⟩ = some (.int .i64 b.code) ∧ Aside0 (Below w.heap.size w w')) :=
  ⟨(as_E v ins b w.heap.size _ _ (EV_keep B0 he) (heap_alloc_new w _) (hg.below B0)).mono fun e w' ⟨r, hr, hk⟩ => by
   obtain ⟨h1, rfl, h2⟩ := hk.out
   exact ⟨hr, h2, ⟨B0.trans (h1.toBelow B0.size (fun k hk => by omega))⟩⟩⟩
 obtain ⟨ut, ux, rfl⟩ := EV_iface he
 clear he hg B0
 go_enter Tryz.func24, Tryz.ntmps24
 go_wp2_with (go_at_call 44; refine HC.out.mono ?_; rintro e w' ⟨rfl, hc, hb⟩)
 go_ret
 exact ⟨rfl, hb.out⟩
set_option maxHeartbeats 4000000 in
theorem at_calls (v : Value) (ins : List (List ByteArray)) (b : Base) (w : World) (he : EV w v ins b) (hg : ErrT w) :
  Calls Tryz.prog 32 #[v] w fun e w' => e = .returned (.tuple #[.int .i64 (b.at?.getD 0), .bool b.at?.isSome]) ∧ Below w.heap.size w w' := by
 have B0 : Below w.heap.size w (w.alloc (.cells #[.pointer none] 82)) := below_alloc (Below.refl _ _) _
 have HC : Aside0 (Calls Tryz.prog 44 #[v, .iface 96 (.pointer (some ⟨w.heap.size, 0, none⟩))] (w.alloc (.cells #[.pointer none] 82)) fun e w' => ∃ r, e = .returned (.bool r) ∧ Aside0 (SeenF b w.heap.size r w' ∧ Below w.heap.size w w')) :=
  ⟨(as_F v ins b w.heap.size _ _ (EV_keep B0 he) (heap_alloc_new w _) (hg.below B0)).mono fun e w' ⟨r, hr, hk⟩ =>
   ⟨r, hr, ⟨hk.out.2, B0.trans (hk.out.1.toBelow B0.size (fun k hk => by omega))⟩⟩⟩
 obtain ⟨ut, ux, rfl⟩ := EV_iface he
 clear he hg B0
 cases b with
 | errno m =>
  go_enter Tryz.func32, Tryz.ntmps32
  go_wp2_with (go_at_call 44; refine HC.out.mono ?_; rintro e w' ⟨r, rfl, hb⟩; obtain rfl : r = false := hb.out.1)
  go_ret2
  exact ⟨rfl, hb.out.2⟩
 | fault m x =>
  go_enter Tryz.func32, Tryz.ntmps32
  go_wp2_with (go_at_call 44; refine HC.out.mono ?_; rintro e w' ⟨r, rfl, hb⟩; obtain ⟨g, rfl, c0, c1⟩ := hb.out.1)
  go_ret2
  exact ⟨rfl, hb.out.2⟩

end As
end Go.Proofs.YtkobpbbegalfpaaGreatDoor
