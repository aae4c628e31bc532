/-
  errors.as, errors.As, fault.Code, fault.At walked. (printed by wip/tools/gen_as3.py)
-/
import Derived.Test.YtmcjfnebkpifnaaGreatDoorAsFacts
namespace Go.Proofs.YtmcjfnebkpifnaaGreatDoor
open Go.RowKit Go.Extern.Stop Go.Stop Go.Extern Go.Proofs.YtmcjfnebkpifnaaGreatDoorW.PrintWords Go.Proofs.YtmcjfnebkpifnaaGreatDoorW.PrintLast Go.Proofs.YtmcjfnebkpifnaaGreatDoorW.PrintMore
set_option linter.unusedVariables false
set_option linter.unusedSimpArgs false
namespace As
theorem World.lt_of_cell {w : World} {a : Addr} {v : Value} (h : w.cell? a = some v) : a.block < w.heap.size := by
  rcases Nat.lt_or_ge a.block w.heap.size with h1 | h1
  · exact h1
  · simp [World.cell?, Array.getElem?_eq_none h1] at h
/-- The number that an error tells; the fault. -/
def Base.code : Base → Int
  | .errno e => e
  | .fault e _ => e
def Base.at? : Base → Option Int
  | .errno _ => none
  | .fault _ a => some a

def ToldF (W0 : World) (t : Addr) (b : Base) (e : Ending) (w' : World) : Prop :=
  match b with
  | .errno _ => e = .returned (.bool false) ∧ w' = W0
  | .fault n x => ∃ g, W0.heap[g]? = some (.cells #[.int .i64 n, .int .i64 x] 66 (0, 0)) ∧ e = .returned (.bool true) ∧ w' = (W0.alloc (.cells #[.pointer (some ⟨g, 0, none⟩)] 62)).setCell t (.pointer (some ⟨g, 0, none⟩))

set_option maxHeartbeats 4000000 in
theorem as2_F (v : Value) (ins : List (List ByteArray)) (b : Base) (t a : Addr) (old : Value) (w W0 : World) (hW0 : W0 = (w.alloc (.cells #[.pointer (some ⟨9, 64, none⟩), .pointer (some a), .int .u64 150] 90))) (he : EV w v ins b)
    (ht0 : w.cell? t = some old) (hf0 : w.frozen? t = false) (ha : w.cell? a = some (.pointer (some t))) :
    Calls Tryz.prog 52 #[v, .iface 64 (.pointer (some t)), (.agg #[.pointer (some ⟨9, 64, none⟩), .pointer (some a), .int .u64 150]), .iface 115 (.agg #[.pointer (some ⟨9, 62, none⟩)])] w fun e w' => ToldF W0 t b e w' := by
  have h66 := @run_callFunc_extern Tryz.prog 66 _ ReflectliteType.typeOf Tryz.func66 (by kernel_rfl) (by kernel_rfl) (by kernel_rfl) (by kernel_rfl)
  have h156 := @run_callFunc_extern Tryz.prog 161 _ (ReflectliteType.relation "AssignableTo" ReflectliteType.assignableTo) Tryz.func161 (by kernel_rfl) (by kernel_rfl) (by kernel_rfl) (by kernel_rfl)
  have h59 := @run_callFunc_extern Tryz.prog 49 _ (fun args => ReflectliteValue.unpack (args.getD 0 (.tuple #[]))) Tryz.func49 (by kernel_rfl) (by kernel_rfl) (by kernel_rfl) (by kernel_rfl)
  have h77 := @run_callFunc_extern Tryz.prog 67 _ (ReflectliteValue.method (ReflectliteValue.valueError "reflectlite.Value.Elem" 0) ReflectliteValue.elem) Tryz.func67 (by kernel_rfl) (by kernel_rfl) (by kernel_rfl) (by kernel_rfl)
  have h78 := @run_callFunc_extern Tryz.prog 68 _ ReflectliteValue.set Tryz.func68 (by kernel_rfl) (by kernel_rfl) (by kernel_rfl) (by kernel_rfl)
  have tI := typeOfI; have tF := typeOfF; have tE := typeOfE
  have mA := mAssignableTo; have mUI := mUnwI; have mUF := mUnwF
  have aI := ToF.assignI; have aF := ToF.assignF; have aE := ToF.assignE
  have nI := noAsI; have nF := noAsF; have nE := noAsE
  have uI := unI; have uF := unF; have uE := noUnE; have ulE := noUnlE
  have vT := ToF.valueOfT
  have htl := World.lt_of_cell ht0
  have hal := World.lt_of_cell ha
  have ht1 : W0.cell? t = some old := by rw [hW0, World.cell?_alloc_lt _ _ t htl]; exact ht0
  have hf1 : W0.frozen? t = false := by rw [hW0, World.frozen?_alloc_old _ _ t (Nat.ne_of_lt htl)]; exact hf0
  have el := ToF.elemV a t W0 (by rw [hW0, World.cell?_alloc_lt _ _ a hal]; exact ha)
  have bx0 : W0.cell? ⟨w.heap.size, 0, none⟩ = some (.pointer (some ⟨9, 64, none⟩)) := by rw [hW0]; simp
  have bx1 : W0.cell? ⟨w.heap.size, 1, none⟩ = some (.pointer (some a)) := by rw [hW0]; simp
  have bx2 : W0.cell? ⟨w.heap.size, 2, none⟩ = some (.int .u64 150) := by rw [hW0]; simp
  have HE : Aside0 (EV W0 v ins b) := ⟨by rw [hW0]; exact EV_keep (below_alloc (Below.refl _ _) _) he⟩
  have HT : Aside0 (t.block < W0.heap.size ∧ W0.cell? t = some old ∧ W0.frozen? t = false) := ⟨by rw [hW0]; simp; omega, ht1, hf1⟩
  have HW : Aside0 (W0 = (w.alloc (.cells #[.pointer (some ⟨9, 64, none⟩), .pointer (some a), .int .u64 150] 90))) := ⟨hW0⟩
  clear he ht0 hf0 ha htl hal ht1 hf1 hW0
  go_enter Tryz.func52, Tryz.ntmps52
  go_wp2
  rw [← HW.out]

  go_loopg [0] (ins.length) (fun k p wr => wr = W0 ∧ ∃ xs, xs.length = k ∧ EV W0 p xs b)
  case atStart => exact ⟨rfl, ins, rfl, HE.out⟩
  case round =>
    obtain ⟨rfl, xs, hk, hv⟩ := hrel
    have HK : Aside0 (xs.length = gk) := ⟨hk⟩
    clear hk
    rcases xs with _ | ⟨ys, xs⟩
    · cases b with
      | errno m =>
        simp only [EV, EB] at hv
        subst hv
        go_wp2
        go_ret
        exact ⟨rfl, rfl⟩
      | fault m x =>
        obtain ⟨g, rfl, hg⟩ := hv
        have HG : Aside0 (wr.heap[g]? = some (.cells #[.int .i64 m, .int .i64 x] 66 (0, 0))) := ⟨hg⟩
        clear hg
        have st := ToF.setT t ⟨wr.heap.size, 0, none⟩ ⟨g, 0, none⟩ old (wr.alloc (.cells #[.pointer (some ⟨g, 0, none⟩)] 62))
          (by rw [World.cell?_alloc_at _ _ _ _ (by simp)]; rfl)
          (by rw [World.cell?_alloc_lt _ _ t HT.out.1]; exact HT.out.2.1)
          (by rw [World.frozen?_alloc_old _ _ t (Nat.ne_of_lt HT.out.1)]; exact HT.out.2.2)
        go_wp2
        go_ret
        exact ⟨g, HG.out, rfl, rfl⟩
    · obtain ⟨g, ws, err, rfl, hg, hws, hv'⟩ := hv
      obtain ⟨ut, ux, rfl⟩ := EV_iface hv'
      have HG : Aside0 (wr.heap[g]? = some (.cells #[ws, .iface ut ux] 80 (0, 0)) ∧ EV wr (.iface ut ux) xs b) := ⟨hg, hv'⟩
      clear hg hws hv'
      go_wp2_with (go_at_call 156; refine (unw_inside g ws (.iface ut ux) _ HG.out.1).mono ?_; rintro e w' ⟨rfl, rfl⟩)
      go_roundg xs.length
      case measure => have := HK.out; simp at this; omega
      case rel => exact ⟨rfl, xs, rfl, HG.out.2⟩

def ToldE (W0 : World) (t : Addr) (b : Base) (e : Ending) (w' : World) : Prop := e = .returned (.bool true) ∧ w' = (W0.alloc (.cells #[.int .i64 b.code] 25)).setCell t (.int .i64 b.code)

set_option maxHeartbeats 4000000 in
theorem as2_E (v : Value) (ins : List (List ByteArray)) (b : Base) (t a : Addr) (old : Value) (w W0 : World) (hW0 : W0 = (w.alloc (.cells #[.pointer (some ⟨9, 67, none⟩), .pointer (some a), .int .u64 150] 90))) (he : EV w v ins b)
    (ht0 : w.cell? t = some old) (hf0 : w.frozen? t = false) (ha : w.cell? a = some (.pointer (some t))) :
    Calls Tryz.prog 52 #[v, .iface 67 (.pointer (some t)), (.agg #[.pointer (some ⟨9, 67, none⟩), .pointer (some a), .int .u64 150]), .iface 115 (.agg #[.pointer (some ⟨9, 25, none⟩)])] w fun e w' => ToldE W0 t b e w' := by
  have h66 := @run_callFunc_extern Tryz.prog 66 _ ReflectliteType.typeOf Tryz.func66 (by kernel_rfl) (by kernel_rfl) (by kernel_rfl) (by kernel_rfl)
  have h156 := @run_callFunc_extern Tryz.prog 161 _ (ReflectliteType.relation "AssignableTo" ReflectliteType.assignableTo) Tryz.func161 (by kernel_rfl) (by kernel_rfl) (by kernel_rfl) (by kernel_rfl)
  have h59 := @run_callFunc_extern Tryz.prog 49 _ (fun args => ReflectliteValue.unpack (args.getD 0 (.tuple #[]))) Tryz.func49 (by kernel_rfl) (by kernel_rfl) (by kernel_rfl) (by kernel_rfl)
  have h77 := @run_callFunc_extern Tryz.prog 67 _ (ReflectliteValue.method (ReflectliteValue.valueError "reflectlite.Value.Elem" 0) ReflectliteValue.elem) Tryz.func67 (by kernel_rfl) (by kernel_rfl) (by kernel_rfl) (by kernel_rfl)
  have h78 := @run_callFunc_extern Tryz.prog 68 _ ReflectliteValue.set Tryz.func68 (by kernel_rfl) (by kernel_rfl) (by kernel_rfl) (by kernel_rfl)
  have tI := typeOfI; have tF := typeOfF; have tE := typeOfE
  have mA := mAssignableTo; have mUI := mUnwI; have mUF := mUnwF
  have aI := ToE.assignI; have aF := ToE.assignF; have aE := ToE.assignE
  have nI := noAsI; have nF := noAsF; have nE := noAsE
  have uI := unI; have uF := unF; have uE := noUnE; have ulE := noUnlE
  have vT := ToE.valueOfT
  have htl := World.lt_of_cell ht0
  have hal := World.lt_of_cell ha
  have ht1 : W0.cell? t = some old := by rw [hW0, World.cell?_alloc_lt _ _ t htl]; exact ht0
  have hf1 : W0.frozen? t = false := by rw [hW0, World.frozen?_alloc_old _ _ t (Nat.ne_of_lt htl)]; exact hf0
  have el := ToE.elemV a t W0 (by rw [hW0, World.cell?_alloc_lt _ _ a hal]; exact ha)
  have bx0 : W0.cell? ⟨w.heap.size, 0, none⟩ = some (.pointer (some ⟨9, 67, none⟩)) := by rw [hW0]; simp
  have bx1 : W0.cell? ⟨w.heap.size, 1, none⟩ = some (.pointer (some a)) := by rw [hW0]; simp
  have bx2 : W0.cell? ⟨w.heap.size, 2, none⟩ = some (.int .u64 150) := by rw [hW0]; simp
  have HE : Aside0 (EV W0 v ins b) := ⟨by rw [hW0]; exact EV_keep (below_alloc (Below.refl _ _) _) he⟩
  have HT : Aside0 (t.block < W0.heap.size ∧ W0.cell? t = some old ∧ W0.frozen? t = false) := ⟨by rw [hW0]; simp; omega, ht1, hf1⟩
  have HW : Aside0 (W0 = (w.alloc (.cells #[.pointer (some ⟨9, 67, none⟩), .pointer (some a), .int .u64 150] 90))) := ⟨hW0⟩
  clear he ht0 hf0 ha htl hal ht1 hf1 hW0
  go_enter Tryz.func52, Tryz.ntmps52
  go_wp2
  rw [← HW.out]

  go_loopg [0] (ins.length + 1) (fun k p wr => wr = W0 ∧ ∃ xs b', (xs.length = k ∧ (∃ m, b' = .errno m) ∨ xs.length + 1 = k) ∧ b'.code = b.code ∧ EV W0 p xs b')
  case atStart => exact ⟨rfl, ins, b, Or.inr rfl, rfl, HE.out⟩
  case round =>
    obtain ⟨rfl, xs, b', hk, hb, hv⟩ := hrel
    have HK : Aside0 (xs.length = gk ∧ (∃ m, b' = .errno m) ∨ xs.length + 1 = gk) := ⟨hk⟩
    have HB : Aside0 (b'.code = b.code) := ⟨hb⟩
    clear hk hb
    rcases xs with _ | ⟨ys, xs⟩
    · cases b' with
      | errno m =>
        simp only [EV, EB] at hv
        subst hv
        have st := ToE.setT t ⟨wr.heap.size, 0, none⟩ m old (wr.alloc (.cells #[.int .i64 m] 25))
          (by rw [World.cell?_alloc_at _ _ _ _ (by simp)]; rfl)
          (by rw [World.cell?_alloc_lt _ _ t HT.out.1]; exact HT.out.2.1)
          (by rw [World.frozen?_alloc_old _ _ t (Nat.ne_of_lt HT.out.1)]; exact HT.out.2.2)
        go_wp2
        go_ret
        have hb := HB.out
        exact ⟨rfl, by rw [← hb]; rfl⟩
      | fault m x =>
        obtain ⟨g, rfl, hg⟩ := hv
        have HG : Aside0 (wr.heap[g]? = some (.cells #[.int .i64 m, .int .i64 x] 66 (0, 0))) := ⟨hg⟩
        clear hg
        go_wp2_with (go_at_call 154; refine (unw_fault g m x _ HG.out).mono ?_; rintro e w' ⟨rfl, rfl⟩)
        go_roundg 0
        case measure => have := HK.out; simp at this; omega
        case rel => exact ⟨rfl, [], .errno m, Or.inl ⟨rfl, _, rfl⟩, HB.out, rfl⟩
    · obtain ⟨g, ws, err, rfl, hg, hws, hv'⟩ := hv
      obtain ⟨ut, ux, rfl⟩ := EV_iface hv'
      have HG : Aside0 (wr.heap[g]? = some (.cells #[ws, .iface ut ux] 80 (0, 0)) ∧ EV wr (.iface ut ux) xs b') := ⟨hg, hv'⟩
      clear hg hws hv'
      go_wp2_with (go_at_call 156; refine (unw_inside g ws (.iface ut ux) _ HG.out.1).mono ?_; rintro e w' ⟨rfl, rfl⟩)
      go_roundg (gk - 1)
      case measure => have := HK.out; simp at this; omega
      case rel => exact ⟨rfl, xs, b', by have := HK.out; rcases this with ⟨h1, h2⟩ | h1 <;> simp at h1 <;> first | exact Or.inl ⟨by omega, h2⟩ | exact Or.inr (by omega), HB.out, HG.out.2⟩

end As
end Go.Proofs.YtmcjfnebkpifnaaGreatDoor
