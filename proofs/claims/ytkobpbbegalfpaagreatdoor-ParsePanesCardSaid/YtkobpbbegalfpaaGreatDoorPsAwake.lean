/-
  Joined texts: As, AsTop, PsTold, PsAwake.
-/
import Derived.Test.YtkobpbbegalfpaaGreatDoorAsFacts
import Derived.Test.YtkobpbbegalfpaaGreatDoorPsTop
import Derived.Deep.RegionHeld3
/- Printed texts of this seat, cut to what is used. -/
namespace Go.Proofs.YtkobpbbegalfpaaGreatDoor
open Go.RowKit Go.Extern.Stop Go.Stop Go.Extern Go.Proofs.YtkobpbbegalfpaaGreatDoorW.PrintWords Go.Proofs.YtkobpbbegalfpaaGreatDoorW.PrintLast Go.Proofs.YtkobpbbegalfpaaGreatDoorW.PrintMore
set_option linter.unusedVariables false
set_option linter.unusedSimpArgs false
namespace As
theorem World.lt_of_cell {w : World} {a : Addr} {v : Value} (h : w.cell? a = some v) : a.block < w.heap.size := by
 rcases Nat.lt_or_ge a.block w.heap.size with h1 | h1
 ·exact h1
 ·simp [World.cell?, Array.getElem?_eq_none h1] at h
/-- The number that an error tells; the fault. -/
def Base.code : Base → Int
 | .errno e => e
 | .fault e _ => e

def ToldF (W0 : World) (t : Addr) (b : Base) (e : Ending) (w' : World) : Prop :=
 match b with
 | .errno _ => e = .returned (.bool false) ∧ w' = W0
 | .fault n x => ∃ g, W0.heap[g]? = some (.cells #[.int .i64 n, .int .i64 x] 84 (0, 0)) ∧ e = .returned (.bool true) ∧ w' = (W0.alloc (.cells #[.pointer (some ⟨g, 0, none⟩)] 82)).setCell t (.pointer (some ⟨g, 0, none⟩))

set_option maxHeartbeats 4000000 in
theorem as2_F (v : Value) (ins : List (List ByteArray)) (b : Base) (t a : Addr) (old : Value) (w W0 : World) (hW0 : W0 = (w.alloc (.cells #[.pointer (some ⟨7, 96, none⟩), .pointer (some a), .int .u64 150] 113))) (he : EV w v ins b)
  (ht0 : w.cell? t = some old) (hf0 : w.frozen? t = false) (ha : w.cell? a = some (.pointer (some t))) :
  Calls Tryz.prog 66 #[v, .iface 96 (.pointer (some t)), (.agg #[.pointer (some ⟨7, 96, none⟩), .pointer (some a), .int .u64 150]), .iface 148 (.agg #[.pointer (some ⟨7, 82, none⟩)])] w fun e w' => ToldF W0 t b e w' := by
 have h66 := @run_callFunc_extern Tryz.prog 92 _ ReflectliteType.typeOf Tryz.func92 (by kernel_rfl) (by kernel_rfl) (by kernel_rfl) (by kernel_rfl)
 have h156 := @run_callFunc_extern Tryz.prog 181 _ (ReflectliteType.relation "AssignableTo" ReflectliteType.assignableTo) Tryz.func181 (by kernel_rfl) (by kernel_rfl) (by kernel_rfl) (by kernel_rfl)
 have h59 := @run_callFunc_extern Tryz.prog 63 _ (fun args => ReflectliteValue.unpack (args.getD 0 (.tuple #[]))) Tryz.func63 (by kernel_rfl) (by kernel_rfl) (by kernel_rfl) (by kernel_rfl)
 have h77 := @run_callFunc_extern Tryz.prog 93 _ (ReflectliteValue.method (ReflectliteValue.valueError "reflectlite.Value.Elem" 0) ReflectliteValue.elem) Tryz.func93 (by kernel_rfl) (by kernel_rfl) (by kernel_rfl) (by kernel_rfl)
 have h78 := @run_callFunc_extern Tryz.prog 94 _ ReflectliteValue.set Tryz.func94 (by kernel_rfl) (by kernel_rfl) (by kernel_rfl) (by kernel_rfl)
 have tI := typeOfI; have tF := typeOfF; have tE := typeOfE
 have mA := mAssignableTo; have mUI := mUnwI; have mUF := mUnwF
 have aI := ToF.assignI; have aF := ToF.assignF; have aE := ToF.assignE
 have nI := noAsI; have nF := noAsF; have nE := noAsE
 have uI := unI; have uF := unF; have uE := noUnE; have ulE := noUnlE
 have vT := ToF.valueOfT
 have htl := World.lt_of_cell ht0
 have hal := World.lt_of_cell ha
 have ht1 : W0.cell? t = some old := by rw [hW0, World.cell?_alloc_lt _ _ t htl]; exact ht0
 have hf1 : W0.frozen? t = false := by rw [hW0, World.frozen?_alloc_old _ _ t (Nat.ne_of_lt htl)]; exact hf0
 have el := ToF.elemV a t W0 (by rw [hW0, World.cell?_alloc_lt _ _ a hal]; exact ha)
 have bx0 : W0.cell? ⟨w.heap.size, 0, none⟩ = some (.pointer (some ⟨7, 96, none⟩)) := by rw [hW0]; simp
 have bx1 : W0.cell? ⟨w.heap.size, 1, none⟩ = some (.pointer (some a)) := by rw [hW0]; simp
 have bx2 : W0.cell? ⟨w.heap.size, 2, none⟩ = some (.int .u64 150) := by rw [hW0]; simp
 have HE : Aside0 (EV W0 v ins b) := ⟨by rw [hW0]; exact EV_keep (below_alloc (Below.refl _ _) _) he⟩
 have HT : Aside0 (t.block < W0.heap.size ∧ W0.cell? t = some old ∧ W0.frozen? t = false) := ⟨by rw [hW0]; simp; omega, ht1, hf1⟩
 have HW : Aside0 (W0 = (w.alloc (.cells #[.pointer (some ⟨7, 96, none⟩), .pointer (some a), .int .u64 150] 113))) := ⟨hW0⟩
 clear he ht0 hf0 ha htl hal ht1 hf1 hW0
 go_enter Tryz.func66, Tryz.ntmps66
 go_wp2
 rw [← HW.out]

 go_loopg [0] (ins.length) (fun k p wr => wr = W0 ∧ ∃ xs, xs.length = k ∧ EV W0 p xs b)
 case atStart => exact ⟨rfl, ins, rfl, HE.out⟩
 case round =>
  obtain ⟨rfl, xs, hk, hv⟩ := hrel
  have HK : Aside0 (xs.length = gk) := ⟨hk⟩
  clear hk
  rcases xs with _ | ⟨ys, xs⟩
  ·cases b with
   | errno m =>
    simp only [EV, EB] at hv
    subst hv
    go_wp2
    go_ret
    exact ⟨rfl, rfl⟩
   | fault m x =>
    obtain ⟨g, rfl, hg⟩ := hv
    have HG : Aside0 (wr.heap[g]? = some (.cells #[.int .i64 m, .int .i64 x] 84 (0, 0))) := ⟨hg⟩
    clear hg
    have st := ToF.setT t ⟨wr.heap.size, 0, none⟩ ⟨g, 0, none⟩ old (wr.alloc (.cells #[.pointer (some ⟨g, 0, none⟩)] 82))
     (by rw [World.cell?_alloc_at _ _ _ _ (by simp)]; rfl)
     (by rw [World.cell?_alloc_lt _ _ t HT.out.1]; exact HT.out.2.1)
     (by rw [World.frozen?_alloc_old _ _ t (Nat.ne_of_lt HT.out.1)]; exact HT.out.2.2)
    go_wp2
    go_ret
    exact ⟨g, HG.out, rfl, rfl⟩
  ·obtain ⟨g, ws, err, rfl, hg, hws, hv'⟩ := hv
   obtain ⟨ut, ux, rfl⟩ := EV_iface hv'
   have HG : Aside0 (wr.heap[g]? = some (.cells #[ws, .iface ut ux] 81 (0, 0)) ∧ EV wr (.iface ut ux) xs b) := ⟨hg, hv'⟩
   clear hg hws hv'
   go_wp2_with (go_at_call 173; refine (unw_inside g ws (.iface ut ux) _ HG.out.1).mono ?_; rintro e w' ⟨rfl, rfl⟩)
   go_roundg xs.length
   case measure => have := HK.out; simp at this; omega
   case rel => exact ⟨rfl, xs, rfl, HG.out.2⟩

def ToldE (W0 : World) (t : Addr) (b : Base) (e : Ending) (w' : World) : Prop := e = .returned (.bool true) ∧ w' = (W0.alloc (.cells #[.int .i64 b.code] 42)).setCell t (.int .i64 b.code)

set_option maxHeartbeats 4000000 in
theorem as2_E (v : Value) (ins : List (List ByteArray)) (b : Base) (t a : Addr) (old : Value) (w W0 : World) (hW0 : W0 = (w.alloc (.cells #[.pointer (some ⟨7, 77, none⟩), .pointer (some a), .int .u64 150] 113))) (he : EV w v ins b)
  (ht0 : w.cell? t = some old) (hf0 : w.frozen? t = false) (ha : w.cell? a = some (.pointer (some t))) :
  Calls Tryz.prog 66 #[v, .iface 77 (.pointer (some t)), (.agg #[.pointer (some ⟨7, 77, none⟩), .pointer (some a), .int .u64 150]), .iface 148 (.agg #[.pointer (some ⟨7, 42, none⟩)])] w fun e w' => ToldE W0 t b e w' := by
 have h66 := @run_callFunc_extern Tryz.prog 92 _ ReflectliteType.typeOf Tryz.func92 (by kernel_rfl) (by kernel_rfl) (by kernel_rfl) (by kernel_rfl)
 have h156 := @run_callFunc_extern Tryz.prog 181 _ (ReflectliteType.relation "AssignableTo" ReflectliteType.assignableTo) Tryz.func181 (by kernel_rfl) (by kernel_rfl) (by kernel_rfl) (by kernel_rfl)
 have h59 := @run_callFunc_extern Tryz.prog 63 _ (fun args => ReflectliteValue.unpack (args.getD 0 (.tuple #[]))) Tryz.func63 (by kernel_rfl) (by kernel_rfl) (by kernel_rfl) (by kernel_rfl)
 have h77 := @run_callFunc_extern Tryz.prog 93 _ (ReflectliteValue.method (ReflectliteValue.valueError "reflectlite.Value.Elem" 0) ReflectliteValue.elem) Tryz.func93 (by kernel_rfl) (by kernel_rfl) (by kernel_rfl) (by kernel_rfl)
 have h78 := @run_callFunc_extern Tryz.prog 94 _ ReflectliteValue.set Tryz.func94 (by kernel_rfl) (by kernel_rfl) (by kernel_rfl) (by kernel_rfl)
 have tI := typeOfI; have tF := typeOfF; have tE := typeOfE
 have mA := mAssignableTo; have mUI := mUnwI; have mUF := mUnwF
 have aI := ToE.assignI; have aF := ToE.assignF; have aE := ToE.assignE
 have nI := noAsI; have nF := noAsF; have nE := noAsE
 have uI := unI; have uF := unF; have uE := noUnE; have ulE := noUnlE
 have vT := ToE.valueOfT
 have htl := World.lt_of_cell ht0
 have hal := World.lt_of_cell ha
 have ht1 : W0.cell? t = some old := by rw [hW0, World.cell?_alloc_lt _ _ t htl]; exact ht0
 have hf1 : W0.frozen? t = false := by rw [hW0, World.frozen?_alloc_old _ _ t (Nat.ne_of_lt htl)]; exact hf0
 have el := ToE.elemV a t W0 (by rw [hW0, World.cell?_alloc_lt _ _ a hal]; exact ha)
 have bx0 : W0.cell? ⟨w.heap.size, 0, none⟩ = some (.pointer (some ⟨7, 77, none⟩)) := by rw [hW0]; simp
 have bx1 : W0.cell? ⟨w.heap.size, 1, none⟩ = some (.pointer (some a)) := by rw [hW0]; simp
 have bx2 : W0.cell? ⟨w.heap.size, 2, none⟩ = some (.int .u64 150) := by rw [hW0]; simp
 have HE : Aside0 (EV W0 v ins b) := ⟨by rw [hW0]; exact EV_keep (below_alloc (Below.refl _ _) _) he⟩
 have HT : Aside0 (t.block < W0.heap.size ∧ W0.cell? t = some old ∧ W0.frozen? t = false) := ⟨by rw [hW0]; simp; omega, ht1, hf1⟩
 have HW : Aside0 (W0 = (w.alloc (.cells #[.pointer (some ⟨7, 77, none⟩), .pointer (some a), .int .u64 150] 113))) := ⟨hW0⟩
 clear he ht0 hf0 ha htl hal ht1 hf1 hW0
 go_enter Tryz.func66, Tryz.ntmps66
 go_wp2
 rw [← HW.out]

 go_loopg [0] (ins.length + 1) (fun k p wr => wr = W0 ∧ ∃ xs b', (xs.length = k ∧ (∃ m, b' = .errno m) ∨ xs.length + 1 = k) ∧ b'.code = b.code ∧ EV W0 p xs b')
 case atStart => exact ⟨rfl, ins, b, Or.inr rfl, rfl, HE.out⟩
 case round =>
  obtain ⟨rfl, xs, b', hk, hb, hv⟩ := hrel
  have HK : Aside0 (xs.length = gk ∧ (∃ m, b' = .errno m) ∨ xs.length + 1 = gk) := ⟨hk⟩
  have HB : Aside0 (b'.code = b.code) := ⟨hb⟩
  clear hk hb
  rcases xs with _ | ⟨ys, xs⟩
  ·cases b' with
   | errno m =>
    simp only [EV, EB] at hv
    subst hv
    have st := ToE.setT t ⟨wr.heap.size, 0, none⟩ m old (wr.alloc (.cells #[.int .i64 m] 42))
     (by rw [World.cell?_alloc_at _ _ _ _ (by simp)]; rfl)
     (by rw [World.cell?_alloc_lt _ _ t HT.out.1]; exact HT.out.2.1)
     (by rw [World.frozen?_alloc_old _ _ t (Nat.ne_of_lt HT.out.1)]; exact HT.out.2.2)
    go_wp2
    go_ret
    have hb := HB.out
    exact ⟨rfl, by rw [← hb]; rfl⟩
   | fault m x =>
    obtain ⟨g, rfl, hg⟩ := hv
    have HG : Aside0 (wr.heap[g]? = some (.cells #[.int .i64 m, .int .i64 x] 84 (0, 0))) := ⟨hg⟩
    clear hg
    go_wp2_with (go_at_call 175; refine (unw_fault g m x _ HG.out).mono ?_; rintro e w' ⟨rfl, rfl⟩)
    go_roundg 0
    case measure => have := HK.out; simp at this; omega
    case rel => exact ⟨rfl, [], .errno m, Or.inl ⟨rfl, _, rfl⟩, HB.out, rfl⟩
  ·obtain ⟨g, ws, err, rfl, hg, hws, hv'⟩ := hv
   obtain ⟨ut, ux, rfl⟩ := EV_iface hv'
   have HG : Aside0 (wr.heap[g]? = some (.cells #[ws, .iface ut ux] 81 (0, 0)) ∧ EV wr (.iface ut ux) xs b') := ⟨hg, hv'⟩
   clear hg hws hv'
   go_wp2_with (go_at_call 173; refine (unw_inside g ws (.iface ut ux) _ HG.out.1).mono ?_; rintro e w' ⟨rfl, rfl⟩)
   go_roundg (gk - 1)
   case measure => have := HK.out; simp at this; omega
   case rel => exact ⟨rfl, xs, b', by have := HK.out; rcases this with ⟨h1, h2⟩ | h1 <;> simp at h1 <;> first | exact Or.inl ⟨by omega, h2⟩ | exact Or.inr (by omega), HB.out, HG.out.2⟩

end As
end Go.Proofs.YtkobpbbegalfpaaGreatDoor

/- Printed texts of this seat, cut to what is used. -/
namespace Go.Proofs.YtkobpbbegalfpaaGreatDoor
open Go.RowKit Go.Extern.Stop Go.Stop Go.Extern Go.Proofs.YtkobpbbegalfpaaGreatDoorW.PrintWords Go.Proofs.YtkobpbbegalfpaaGreatDoorW.PrintLast Go.Proofs.YtkobpbbegalfpaaGreatDoorW.PrintMore
set_option linter.unusedVariables false
set_option linter.unusedSimpArgs false
namespace As
/-- What the variable errors.errorType holds. -/
def ErrT (w : World) : Prop := w.cell? ⟨0, 0, none⟩ = some (.iface 148 (.agg #[.pointer (some ⟨7, 29, none⟩)]))
theorem ErrT.below {w w' : World} (h : ErrT w) (hb : Below w.heap.size w w') : ErrT w' := by
 have hlt : 0 < w.heap.size := World.lt_of_cell h
 unfold ErrT World.cell? at *
 rw [hb.block 0 hlt]; exact h




def SeenE (b : Base) (tb : Nat) (r : Bool) (w' : World) : Prop := r = true ∧ w'.cell? ⟨tb, 0, none⟩ = some (.int .i64 b.code)
theorem seenE {W0 w' : World} {b : Base} {tb : Nat} {old : Value} {e : Ending} (ht : W0.heap[tb]? = some (.cells #[old] 42 (0, 0))) (h : ToldE W0 ⟨tb, 0, none⟩ b e w') :
  ∃ r, e = .returned (.bool r) ∧ Aside0 (Keeps (fun k => k = tb) W0 w' ∧ SeenE b tb r w') := by
 obtain ⟨rfl, rfl⟩ := h
 have ht' := blk_alloc ht (.cells #[.int .i64 b.code] 42 (0, 0))
 exact ⟨_, rfl, ⟨Keeps.setCell (ok := fun k => k = tb) ((Keeps.refl _ _).alloc _) (p := ⟨tb, 0, none⟩) rfl _, rfl, (blk_cell (blk_set ht' 0 _) 0).trans rfl⟩⟩


set_option maxHeartbeats 4000000 in
theorem as_E (v : Value) (ins : List (List ByteArray)) (b : Base) (tb : Nat) (old : Value) (w : World) (he : EV w v ins b)
  (ht : w.heap[tb]? = some (.cells #[old] 42 (0, 0))) (hg : ErrT w) :
  Calls Tryz.prog 44 #[v, .iface 77 (.pointer (some ⟨tb, 0, none⟩))] w fun e w' => ∃ r, e = .returned (.bool r) ∧ Aside0 (Keeps (fun k => k = tb) w w' ∧ SeenE b tb r w') := by
 have h59 := @run_callFunc_extern Tryz.prog 63 _ (fun args => ReflectliteValue.unpack (args.getD 0 (.tuple #[]))) Tryz.func63 (by kernel_rfl) (by kernel_rfl) (by kernel_rfl) (by kernel_rfl)
 have h60 := @run_callFunc_extern Tryz.prog 64 _ (ReflectliteValue.methodAny (ReflectliteValue.valueError "reflectlite.Value.Type" 0) (fun t _ _ _ => ReflectliteType.toType t)) Tryz.func64 (by kernel_rfl) (by kernel_rfl) (by kernel_rfl) (by kernel_rfl)
 have h61 := @run_callFunc_extern Tryz.prog 65 _ (ReflectliteValue.method (ReflectliteValue.valueError "reflectlite.Value.IsNil" 0) ReflectliteValue.isNil) Tryz.func65 (by kernel_rfl) (by kernel_rfl) (by kernel_rfl) (by kernel_rfl)
 have h141 := @run_callFunc_extern Tryz.prog 168 _ (ReflectliteType.abiMethod fun t => do pure (.int .u8 (← Rtype.kind t))) Tryz.func168 (by kernel_rfl) (by kernel_rfl) (by kernel_rfl) (by kernel_rfl)
 have h158 := @run_callFunc_extern Tryz.prog 183 _ (ReflectliteType.method ReflectliteType.elem) Tryz.func183 (by kernel_rfl) (by kernel_rfl) (by kernel_rfl) (by kernel_rfl)
 have h159 := @run_callFunc_extern Tryz.prog 184 _ (ReflectliteType.relation "Implements" ReflectliteType.implements_) Tryz.func184 (by kernel_rfl) (by kernel_rfl) (by kernel_rfl) (by kernel_rfl)
 have vP := ToE.valueOfP; have tP := ToE.typeP; have kP := ToE.kindP; have kT := ToE.kindT
 have eP := ToE.elemP; have iT := ToE.implementsT
 have mK := mKind; have mE := mElem; have mI := mImplements
 have htl : tb < w.heap.size := by
  rcases Nat.lt_or_ge tb w.heap.size with h | h
  ·exact h
  ·rw [Array.getElem?_eq_none h] at ht; cases ht
 have hlt : 0 < w.heap.size := World.lt_of_cell hg
 obtain ⟨W2, hW2⟩ : ∃ W2, W2 = ((w.alloc (.cells #[.pointer (some ⟨tb, 0, none⟩)] 77)).alloc (.cells #[.pointer (some ⟨7, 77, none⟩), .pointer (some ⟨w.heap.size, 0, none⟩), .int .u64 150] 113)) := ⟨_, rfl⟩
 have B2 : Below w.heap.size w W2 := by rw [hW2]; exact below_alloc (below_alloc (Below.refl _ _) _) _
 have nP := ToE.isNilP ⟨w.heap.size, 0, none⟩ ⟨tb, 0, none⟩ ((w.alloc (.cells #[.pointer (some ⟨tb, 0, none⟩)] 77)).alloc (.cells #[.pointer (some ⟨7, 77, none⟩), .pointer (some ⟨w.heap.size, 0, none⟩), .int .u64 150] 113)) (by rw [World.cell?_alloc_lt _ _ ⟨w.heap.size, 0, none⟩ (by simp)]; simp)
 have hg2 : ((w.alloc (.cells #[.pointer (some ⟨tb, 0, none⟩)] 77)).alloc (.cells #[.pointer (some ⟨7, 77, none⟩), .pointer (some ⟨w.heap.size, 0, none⟩), .int .u64 150] 113)).cell? ⟨0, 0, none⟩ = some (.iface 148 (.agg #[.pointer (some ⟨7, 29, none⟩)])) := by rw [← hW2]; exact hg.below B2
 have HT : Aside0 (w.heap[tb]? = some (.cells #[old] 42 (0, 0)) ∧ tb < w.heap.size) := ⟨ht, htl⟩
 have htW : W2.heap[tb]? = some (.cells #[old] 42 (0, 0)) := by rw [B2.block tb htl]; exact ht
 have HC : Aside0 (Calls Tryz.prog 66 #[v, .iface 77 (.pointer (some ⟨tb, 0, none⟩)), (.agg #[.pointer (some ⟨7, 77, none⟩), .pointer (some ⟨w.heap.size, 0, none⟩), .int .u64 150]), .iface 148 (.agg #[.pointer (some ⟨7, 42, none⟩)])] W2 fun e w' => ∃ r, e = .returned (.bool r) ∧ Aside0 (Keeps (fun k => k = tb) w w' ∧ SeenE b tb r w')) :=
  ⟨(as2_E v ins b ⟨tb, 0, none⟩ ⟨w.heap.size, 0, none⟩ old W2 _ rfl (EV_keep B2 he)
   ((blk_cell htW 0).trans rfl)
   (blk_frozen htW _)
   (by rw [hW2, World.cell?_alloc_lt _ _ ⟨w.heap.size, 0, none⟩ (by simp)]; simp)).mono fun e w' hT => by
    obtain ⟨r, hr, hk⟩ := seenE (blk_alloc htW _) hT
    exact ⟨r, hr, ⟨(((Keeps.refl _ w).below B2).alloc _).trans hk.out.1, hk.out.2⟩⟩⟩
 have HW : Aside0 (W2 = ((w.alloc (.cells #[.pointer (some ⟨tb, 0, none⟩)] 77)).alloc (.cells #[.pointer (some ⟨7, 77, none⟩), .pointer (some ⟨w.heap.size, 0, none⟩), .int .u64 150] 113)) ∧ Below w.heap.size w W2) := ⟨hW2, B2⟩
 obtain ⟨ut, ux, rfl⟩ := EV_iface he
 clear he ht hg htl hlt hW2 B2 htW
 go_enter Tryz.func44, Tryz.ntmps44
 go_wp2_with (go_at_call 66; rw [← HW.out.1]; refine HC.out.mono ?_; rintro e w' ⟨r, rfl, hT⟩)
 go_ret
 exact ⟨r, rfl, hT⟩


theorem code_nil (w : World) : Calls Tryz.prog 24 #[.nilIface] w fun e w' => e = .returned (.int .i64 0) ∧ Below w.heap.size w w' := by
 have B0 : Aside0 (Below w.heap.size w (w.alloc (.cells #[.int .i64 0] 42))) := ⟨below_alloc (Below.refl _ _) _⟩
 go_enter Tryz.func24, Tryz.ntmps24
 go_wp2
 go_ret
 exact ⟨rfl, B0.out⟩
set_option maxHeartbeats 4000000 in
theorem code_calls (v : Value) (ins : List (List ByteArray)) (b : Base) (w : World) (he : EV w v ins b) (hg : ErrT w) :
  Calls Tryz.prog 24 #[v] w fun e w' => e = .returned (.int .i64 b.code) ∧ Below w.heap.size w w' := by
 have B0 : Below w.heap.size w (w.alloc (.cells #[.int .i64 0] 42)) := below_alloc (Below.refl _ _) _
 have HC : Aside0 (Calls Tryz.prog 44 #[v, .iface 77 (.pointer (some ⟨w.heap.size, 0, none⟩))] (w.alloc (.cells #[.int .i64 0] 42)) fun e w' => e = .returned (.bool true) ∧ w'.cell? ⟨w.heap.size, 0, none⟩ = some (.int .i64 b.code) ∧ Aside0 (Below w.heap.size w w')) :=
  ⟨(as_E v ins b w.heap.size _ _ (EV_keep B0 he) (heap_alloc_new w _) (hg.below B0)).mono fun e w' ⟨r, hr, hk⟩ => by
   obtain ⟨h1, rfl, h2⟩ := hk.out
   exact ⟨hr, h2, ⟨B0.trans (h1.toBelow B0.size (fun k hk => by omega))⟩⟩⟩
 obtain ⟨ut, ux, rfl⟩ := EV_iface he
 clear he hg B0
 go_enter Tryz.func24, Tryz.ntmps24
 go_wp2_with (go_at_call 44; refine HC.out.mono ?_; rintro e w' ⟨rfl, hc, hb⟩)
 go_ret
 exact ⟨rfl, hb.out⟩

end As
end Go.Proofs.YtkobpbbegalfpaaGreatDoor

/- Printed texts of this seat, cut to what is used. -/
namespace Go.Proofs.YtkobpbbegalfpaaGreatDoor
open Go.RowKit Go.Proofs.YtkobpbbegalfpaaGreatDoorW.PrintWords Go.Proofs.YtkobpbbegalfpaaGreatDoorW.PrintLast Go.Proofs.YtkobpbbegalfpaaGreatDoorW.PrintMore Go.Proofs.YtkobpbbegalfpaaGreatDoor.PParseBodies
set_option linter.unusedVariables false
set_option linter.unusedSimpArgs false
set_option maxRecDepth 100000

/-- What an answer's error is in memory. -/
def ErrIs (w : World) (v : Value) : Option (Int × Int) → Prop
 | none => v = .nilIface
 | some q => ∃ t p, v = .iface t p ∧ As.EV w v [[layB]] (.fault q.1 q.2)
def exA : SC := ⟨1, ⟨0, 0, 80, 24⟩, 1, []⟩
theorem ex_ok : textA ⟨#[98, 50, 53, 101, 44, 56, 48, 120, 50, 52, 44, 48, 44, 48, 44, 49]⟩ = .ok exA := by kernel_rfl
theorem ex_no : textA ⟨#[98, 50, 53, 100, 44, 56, 48, 120, 50, 52, 44, 48, 44, 48, 44, 49]⟩ = .error (4, 0) := by kernel_rfl
theorem inside_ev {w : World} {base g' g : Nat} {no pl : Int} (h : Inside w base g' (.iface 82 (.pointer (some ⟨g, 0, none⟩))) [layB]) (hg : w.heap[g]? = some (.cells #[.int .i64 no, .int .i64 pl] 84 (0, 0))) :
  As.EV w (.iface 78 (.pointer (some ⟨g', 0, none⟩))) [[layB]] (.fault no pl) := by
 obtain ⟨_, v, h1, h2⟩ := h
 exact ⟨g', v, _, rfl, h1, Kd.R_lower h2 (Nat.zero_le _), ⟨g, rfl, hg⟩⟩
end Go.Proofs.YtkobpbbegalfpaaGreatDoor

/-
 The statements' example.
-/
namespace Go.Proofs.YtkobpbbegalfpaaGreatDoor
open Go.RowKit Go.Proofs.YtkobpbbegalfpaaGreatDoorW.PrintWords Go.Proofs.YtkobpbbegalfpaaGreatDoorW.PrintLast Go.Proofs.YtkobpbbegalfpaaGreatDoorW.PrintMore Go.Proofs.YtkobpbbegalfpaaGreatDoor.PParseBodies
set_option linter.unusedVariables false
set_option linter.unusedSimpArgs false
set_option maxRecDepth 100000

theorem ex1_calls (w : World) (hT : NumT w) (hE : NumE w) : Calls Tryz.prog 11 #[.string ⟨#[98, 50, 53, 101, 44, 56, 48, 120, 50, 52, 44, 48, 44, 48, 44, 49]⟩] w fun e w' => (∃ A c, e = .returned (.tuple #[.agg #[.int .u8 1, .int .i64 0, .int .i64 0, .int .i64 80, .int .i64 24, .int .i64 1, .slice A 0 c], .nilIface])) ∧ Below w.heap.size w w' := by
 have h := textA_calls w ⟨#[98, 50, 53, 101, 44, 56, 48, 120, 50, 52, 44, 48, 44, 48, 44, 49]⟩ (by decide) hT hE
 rw [ex_ok] at h
 refine h.mono ?_
 rintro e w' ⟨v, rfl, hR, hb⟩
 obtain ⟨A, cp, rfl⟩ := Kd.R_slice hR
 exact ⟨⟨A, cp, rfl⟩, hb⟩
theorem ex2_calls (w : World) (hT : NumT w) (hE : NumE w) : Calls Tryz.prog 11 #[.string ⟨#[98, 50, 53, 100, 44, 56, 48, 120, 50, 52, 44, 48, 44, 48, 44, 49]⟩] w fun e w' => ∃ p, e = .returned (.tuple #[.agg zeroA, .iface 78 p]) ∧ As.EV w' (.iface 78 p) [[layB]] (.fault 4 0) ∧ Below w.heap.size w w' := by
 have h := textA_calls w ⟨#[98, 50, 53, 100, 44, 56, 48, 120, 50, 52, 44, 48, 44, 48, 44, 49]⟩ (by decide) hT hE
 rw [ex_no] at h
 refine h.mono ?_
 rintro e w' ⟨g', g, rfl, hin, hg, hb⟩
 exact ⟨_, rfl, inside_ev hin hg, hb⟩
theorem awake_calls (w : World) (hT : NumT w) (hE : NumE w) (hg : As.ErrT w) : Calls Tryz.prog 8 #[] w fun e w' => e = .returned (.bool true) ∧ Below w.heap.size w w' := by
 have H1 := Aside0.mk (ex1_calls w hT hE)
 have H2 : Aside0 (∀ W, Below w.heap.size w W → Calls Tryz.prog 11 #[.string ⟨#[98, 50, 53, 100, 44, 56, 48, 120, 50, 52, 44, 48, 44, 48, 44, 49]⟩] W fun e w' => ∃ p, e = .returned (.tuple #[.agg zeroA, .iface 78 p]) ∧ As.EV w' (.iface 78 p) [[layB]] (.fault 4 0) ∧ Below W.heap.size W w') := ⟨fun W hb => ex2_calls W (hT.below hb) (hE.below hb)⟩
 have HC : Aside0 (∀ W p, Below w.heap.size w W → As.EV W (.iface 78 p) [[layB]] (.fault 4 0) → Calls Tryz.prog 24 #[.iface 78 p] W fun e w' => e = .returned (.int .i64 4) ∧ Below W.heap.size W w') := ⟨fun W p hb h => As.code_calls _ _ _ W h (hg.below hb)⟩
 clear hT hE hg
 go_enter Tryz.func8, Tryz.ntmps8
 go_wp2_with fail
 with_reducible refine H1.out.mono ?_
 rintro e w1 ⟨⟨A, cp, rfl⟩, hb1⟩
 replace hb1 := Aside0.mk hb1
 go_wp2_with fail
 obtain ⟨W2, hW2⟩ : ∃ W2, W2 = w1.alloc (.cells #[.int .u8 1, .int .i64 0, .int .i64 0, .int .i64 80, .int .i64 24, .int .i64 1, .slice A 0 cp] 27) := ⟨_, rfl⟩
 rw [← hW2]
 have HB2 : Aside0 (Below w.heap.size w W2) := ⟨by rw [hW2]; exact Below.alloc hb1.out hb1.out.size _⟩
 have HC2 : Aside0 (W2.heap[w1.heap.size]? = some (.cells #[.int .u8 1, .int .i64 0, .int .i64 0, .int .i64 80, .int .i64 24, .int .i64 1, .slice A 0 cp] 27 (0, 0))) := ⟨by rw [hW2]; exact heap_alloc_new w1 _⟩
 clear hW2
 refine (H2.out W2 HB2.out).mono ?_
 rintro e w3 ⟨p, rfl, hev, hb3⟩
 have HB3 : Aside0 (Below w.heap.size w w3) := ⟨HB2.out.trans (hb3.mono HB2.out.size)⟩
 have HC3 : Aside0 (w3.heap[w1.heap.size]? = some (.cells #[.int .u8 1, .int .i64 0, .int .i64 0, .int .i64 80, .int .i64 24, .int .i64 1, .slice A 0 cp] 27 (0, 0))) := ⟨(hb3.block _ (blk_lt HC2.out)).trans HC2.out⟩
 have hc3 : (w3.alloc (.cells #[.int .u8 0, .int .i64 0, .int .i64 0, .int .i64 0, .int .i64 0, .int .i64 0, .slice none 0 0] 27)).heap[w1.heap.size]? = some (.cells #[.int .u8 1, .int .i64 0, .int .i64 0, .int .i64 80, .int .i64 24, .int .i64 1, .slice A 0 cp] 27 (0, 0)) := blk_alloc HC3.out _
 have y0 : (w3.alloc (.cells #[.int .u8 0, .int .i64 0, .int .i64 0, .int .i64 0, .int .i64 0, .int .i64 0, .slice none 0 0] 27)).cell? ⟨w1.heap.size, 0, none⟩ = some (.int .u8 1) := (blk_cell hc3 _).trans rfl
 have y1 : (w3.alloc (.cells #[.int .u8 0, .int .i64 0, .int .i64 0, .int .i64 0, .int .i64 0, .int .i64 0, .slice none 0 0] 27)).cell? ⟨w1.heap.size, 5, none⟩ = some (.int .i64 1) := (blk_cell hc3 _).trans rfl
 have y2 : (w3.alloc (.cells #[.int .u8 0, .int .i64 0, .int .i64 0, .int .i64 0, .int .i64 0, .int .i64 0, .slice none 0 0] 27)).cell? ⟨w1.heap.size, 3, none⟩ = some (.int .i64 80) := (blk_cell hc3 _).trans rfl
 have HEV := Aside0.mk hev
 clear hc3 hev hb3
 go_wp2_with (go_at_call 24; refine (HC.out _ p (Below.alloc HB3.out HB3.out.size _) (As.EV_keep (below_alloc (Below.refl _ _) _) HEV.out)).mono ?_; rintro e w5 ⟨rfl, hb5⟩)
 go_ret
 exact ⟨rfl, (Below.alloc HB3.out HB3.out.size _).trans (hb5.mono (Below.alloc HB3.out HB3.out.size _).size)⟩
end Go.Proofs.YtkobpbbegalfpaaGreatDoor
