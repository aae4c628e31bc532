/- Printed texts of this seat, cut to what is used. -/
import Derived.Test.YtmcjfnebkpifnaaGreatDoorAs
namespace Go.Proofs.YtmcjfnebkpifnaaGreatDoor
open Go.RowKit Go.Extern.Stop Go.Stop Go.Extern Go.Proofs.YtmcjfnebkpifnaaGreatDoorW.PrintWords Go.Proofs.YtmcjfnebkpifnaaGreatDoorW.PrintLast Go.Proofs.YtmcjfnebkpifnaaGreatDoorW.PrintMore
set_option linter.unusedVariables false
set_option linter.unusedSimpArgs false
namespace As
/-- What the variable errors.errorType holds. -/
def ErrT (w : World) : Prop := w.cell? ⟨0, 0, none⟩ = some (.iface 115 (.agg #[.pointer (some ⟨9, 31, none⟩)]))
theorem ErrT.below {w w' : World} (h : ErrT w) (hb : Below w.heap.size w w') : ErrT w' := by
  have hlt : 0 < w.heap.size := World.lt_of_cell h
  unfold ErrT World.cell? at *
  rw [hb.block 0 hlt]; exact h
theorem TF_ne_TPF : (66 : Nat) ≠ 62 := by decide

def SeenF (b : Base) (tb : Nat) (r : Bool) (w' : World) : Prop :=
  match b with
  | .errno _ => r = false
  | .fault n x => ∃ g, r = true ∧ w'.cell? ⟨tb, 0, none⟩ = some (.pointer (some ⟨g, 0, none⟩)) ∧ w'.cell? ⟨g, 1, none⟩ = some (.int .i64 x)
theorem seenF {W0 w' : World} {b : Base} {tb : Nat} {old : Value} {e : Ending} (ht : W0.heap[tb]? = some (.cells #[old] 62 (0, 0))) (h : ToldF W0 ⟨tb, 0, none⟩ b e w') :
    ∃ r, e = .returned (.bool r) ∧ Aside0 (Keeps (fun k => k = tb) W0 w' ∧ SeenF b tb r w') := by
  cases b with
  | errno m => obtain ⟨rfl, rfl⟩ := h; exact ⟨_, rfl, ⟨Keeps.refl _ _, rfl⟩⟩
  | fault m x =>
    obtain ⟨g, hg, rfl, rfl⟩ := h
    have hg' := blk_alloc hg (.cells #[.pointer (some ⟨g, 0, none⟩)] 62 (0, 0))
    have ht' := blk_alloc ht (.cells #[.pointer (some ⟨g, 0, none⟩)] 62 (0, 0))
    refine ⟨_, rfl, ⟨Keeps.setCell (ok := fun k => k = tb) ((Keeps.refl _ _).alloc _) (p := ⟨tb, 0, none⟩) rfl _, g, rfl, ?_, ?_⟩⟩
    · exact (blk_cell (blk_set ht' 0 _) 0).trans rfl
    · exact (blk_cell (blk_far hg' (p := ⟨tb, 0, none⟩) (blk_ne hg' ht' TF_ne_TPF) _) 1).trans rfl


set_option maxHeartbeats 4000000 in
theorem as_F (v : Value) (ins : List (List ByteArray)) (b : Base) (tb : Nat) (old : Value) (w : World) (he : EV w v ins b)
    (ht : w.heap[tb]? = some (.cells #[old] 62 (0, 0))) (hg : ErrT w) :
    Calls Tryz.prog 27 #[v, .iface 64 (.pointer (some ⟨tb, 0, none⟩))] w fun e w' => ∃ r, e = .returned (.bool r) ∧ Aside0 (Keeps (fun k => k = tb) w w' ∧ SeenF b tb r w') := by
  have h59 := @run_callFunc_extern Tryz.prog 49 _ (fun args => ReflectliteValue.unpack (args.getD 0 (.tuple #[]))) Tryz.func49 (by kernel_rfl) (by kernel_rfl) (by kernel_rfl) (by kernel_rfl)
  have h60 := @run_callFunc_extern Tryz.prog 50 _ (ReflectliteValue.methodAny (ReflectliteValue.valueError "reflectlite.Value.Type" 0) (fun t _ _ _ => ReflectliteType.toType t)) Tryz.func50 (by kernel_rfl) (by kernel_rfl) (by kernel_rfl) (by kernel_rfl)
  have h61 := @run_callFunc_extern Tryz.prog 51 _ (ReflectliteValue.method (ReflectliteValue.valueError "reflectlite.Value.IsNil" 0) ReflectliteValue.isNil) Tryz.func51 (by kernel_rfl) (by kernel_rfl) (by kernel_rfl) (by kernel_rfl)
  have h141 := @run_callFunc_extern Tryz.prog 148 _ (ReflectliteType.abiMethod fun t => do pure (.int .u8 (← Rtype.kind t))) Tryz.func148 (by kernel_rfl) (by kernel_rfl) (by kernel_rfl) (by kernel_rfl)
  have h158 := @run_callFunc_extern Tryz.prog 163 _ (ReflectliteType.method ReflectliteType.elem) Tryz.func163 (by kernel_rfl) (by kernel_rfl) (by kernel_rfl) (by kernel_rfl)
  have h159 := @run_callFunc_extern Tryz.prog 164 _ (ReflectliteType.relation "Implements" ReflectliteType.implements_) Tryz.func164 (by kernel_rfl) (by kernel_rfl) (by kernel_rfl) (by kernel_rfl)
  have vP := ToF.valueOfP; have tP := ToF.typeP; have kP := ToF.kindP; have kT := ToF.kindT
  have eP := ToF.elemP; have iT := ToF.implementsT
  have mK := mKind; have mE := mElem; have mI := mImplements
  have htl : tb < w.heap.size := by
    rcases Nat.lt_or_ge tb w.heap.size with h | h
    · exact h
    · rw [Array.getElem?_eq_none h] at ht; cases ht
  have hlt : 0 < w.heap.size := World.lt_of_cell hg
  obtain ⟨W2, hW2⟩ : ∃ W2, W2 = ((w.alloc (.cells #[.pointer (some ⟨tb, 0, none⟩)] 64)).alloc (.cells #[.pointer (some ⟨9, 64, none⟩), .pointer (some ⟨w.heap.size, 0, none⟩), .int .u64 150] 90)) := ⟨_, rfl⟩
  have B2 : Below w.heap.size w W2 := by rw [hW2]; exact below_alloc (below_alloc (Below.refl _ _) _) _
  have nP := ToF.isNilP ⟨w.heap.size, 0, none⟩ ⟨tb, 0, none⟩ ((w.alloc (.cells #[.pointer (some ⟨tb, 0, none⟩)] 64)).alloc (.cells #[.pointer (some ⟨9, 64, none⟩), .pointer (some ⟨w.heap.size, 0, none⟩), .int .u64 150] 90)) (by rw [World.cell?_alloc_lt _ _ ⟨w.heap.size, 0, none⟩ (by simp)]; simp)
  have hg2 : ((w.alloc (.cells #[.pointer (some ⟨tb, 0, none⟩)] 64)).alloc (.cells #[.pointer (some ⟨9, 64, none⟩), .pointer (some ⟨w.heap.size, 0, none⟩), .int .u64 150] 90)).cell? ⟨0, 0, none⟩ = some (.iface 115 (.agg #[.pointer (some ⟨9, 31, none⟩)])) := by rw [← hW2]; exact hg.below B2
  have HT : Aside0 (w.heap[tb]? = some (.cells #[old] 62 (0, 0)) ∧ tb < w.heap.size) := ⟨ht, htl⟩
  have htW : W2.heap[tb]? = some (.cells #[old] 62 (0, 0)) := by rw [B2.block tb htl]; exact ht
  have HC : Aside0 (Calls Tryz.prog 52 #[v, .iface 64 (.pointer (some ⟨tb, 0, none⟩)), (.agg #[.pointer (some ⟨9, 64, none⟩), .pointer (some ⟨w.heap.size, 0, none⟩), .int .u64 150]), .iface 115 (.agg #[.pointer (some ⟨9, 62, none⟩)])] W2 fun e w' => ∃ r, e = .returned (.bool r) ∧ Aside0 (Keeps (fun k => k = tb) w w' ∧ SeenF b tb r w')) :=
    ⟨(as2_F v ins b ⟨tb, 0, none⟩ ⟨w.heap.size, 0, none⟩ old W2 _ rfl (EV_keep B2 he)
      ((blk_cell htW 0).trans rfl)
      (blk_frozen htW _)
      (by rw [hW2, World.cell?_alloc_lt _ _ ⟨w.heap.size, 0, none⟩ (by simp)]; simp)).mono fun e w' hT => by
        obtain ⟨r, hr, hk⟩ := seenF (blk_alloc htW _) hT
        exact ⟨r, hr, ⟨(((Keeps.refl _ w).below B2).alloc _).trans hk.out.1, hk.out.2⟩⟩⟩
  have HW : Aside0 (W2 = ((w.alloc (.cells #[.pointer (some ⟨tb, 0, none⟩)] 64)).alloc (.cells #[.pointer (some ⟨9, 64, none⟩), .pointer (some ⟨w.heap.size, 0, none⟩), .int .u64 150] 90)) ∧ Below w.heap.size w W2) := ⟨hW2, B2⟩
  obtain ⟨ut, ux, rfl⟩ := EV_iface he
  clear he ht hg htl hlt hW2 B2 htW
  go_enter Tryz.func27, Tryz.ntmps27
  go_wp2_with (go_at_call 52; rw [← HW.out.1]; refine HC.out.mono ?_; rintro e w' ⟨r, rfl, hT⟩)
  go_ret
  exact ⟨r, rfl, hT⟩

def SeenE (b : Base) (tb : Nat) (r : Bool) (w' : World) : Prop := r = true ∧ w'.cell? ⟨tb, 0, none⟩ = some (.int .i64 b.code)
theorem seenE {W0 w' : World} {b : Base} {tb : Nat} {old : Value} {e : Ending} (ht : W0.heap[tb]? = some (.cells #[old] 25 (0, 0))) (h : ToldE W0 ⟨tb, 0, none⟩ b e w') :
    ∃ r, e = .returned (.bool r) ∧ Aside0 (Keeps (fun k => k = tb) W0 w' ∧ SeenE b tb r w') := by
  obtain ⟨rfl, rfl⟩ := h
  have ht' := blk_alloc ht (.cells #[.int .i64 b.code] 25 (0, 0))
  exact ⟨_, rfl, ⟨Keeps.setCell (ok := fun k => k = tb) ((Keeps.refl _ _).alloc _) (p := ⟨tb, 0, none⟩) rfl _, rfl, (blk_cell (blk_set ht' 0 _) 0).trans rfl⟩⟩


set_option maxHeartbeats 4000000 in
theorem as_E (v : Value) (ins : List (List ByteArray)) (b : Base) (tb : Nat) (old : Value) (w : World) (he : EV w v ins b)
    (ht : w.heap[tb]? = some (.cells #[old] 25 (0, 0))) (hg : ErrT w) :
    Calls Tryz.prog 27 #[v, .iface 67 (.pointer (some ⟨tb, 0, none⟩))] w fun e w' => ∃ r, e = .returned (.bool r) ∧ Aside0 (Keeps (fun k => k = tb) w w' ∧ SeenE b tb r w') := by
  have h59 := @run_callFunc_extern Tryz.prog 49 _ (fun args => ReflectliteValue.unpack (args.getD 0 (.tuple #[]))) Tryz.func49 (by kernel_rfl) (by kernel_rfl) (by kernel_rfl) (by kernel_rfl)
  have h60 := @run_callFunc_extern Tryz.prog 50 _ (ReflectliteValue.methodAny (ReflectliteValue.valueError "reflectlite.Value.Type" 0) (fun t _ _ _ => ReflectliteType.toType t)) Tryz.func50 (by kernel_rfl) (by kernel_rfl) (by kernel_rfl) (by kernel_rfl)
  have h61 := @run_callFunc_extern Tryz.prog 51 _ (ReflectliteValue.method (ReflectliteValue.valueError "reflectlite.Value.IsNil" 0) ReflectliteValue.isNil) Tryz.func51 (by kernel_rfl) (by kernel_rfl) (by kernel_rfl) (by kernel_rfl)
  have h141 := @run_callFunc_extern Tryz.prog 148 _ (ReflectliteType.abiMethod fun t => do pure (.int .u8 (← Rtype.kind t))) Tryz.func148 (by kernel_rfl) (by kernel_rfl) (by kernel_rfl) (by kernel_rfl)
  have h158 := @run_callFunc_extern Tryz.prog 163 _ (ReflectliteType.method ReflectliteType.elem) Tryz.func163 (by kernel_rfl) (by kernel_rfl) (by kernel_rfl) (by kernel_rfl)
  have h159 := @run_callFunc_extern Tryz.prog 164 _ (ReflectliteType.relation "Implements" ReflectliteType.implements_) Tryz.func164 (by kernel_rfl) (by kernel_rfl) (by kernel_rfl) (by kernel_rfl)
  have vP := ToE.valueOfP; have tP := ToE.typeP; have kP := ToE.kindP; have kT := ToE.kindT
  have eP := ToE.elemP; have iT := ToE.implementsT
  have mK := mKind; have mE := mElem; have mI := mImplements
  have htl : tb < w.heap.size := by
    rcases Nat.lt_or_ge tb w.heap.size with h | h
    · exact h
    · rw [Array.getElem?_eq_none h] at ht; cases ht
  have hlt : 0 < w.heap.size := World.lt_of_cell hg
  obtain ⟨W2, hW2⟩ : ∃ W2, W2 = ((w.alloc (.cells #[.pointer (some ⟨tb, 0, none⟩)] 67)).alloc (.cells #[.pointer (some ⟨9, 67, none⟩), .pointer (some ⟨w.heap.size, 0, none⟩), .int .u64 150] 90)) := ⟨_, rfl⟩
  have B2 : Below w.heap.size w W2 := by rw [hW2]; exact below_alloc (below_alloc (Below.refl _ _) _) _
  have nP := ToE.isNilP ⟨w.heap.size, 0, none⟩ ⟨tb, 0, none⟩ ((w.alloc (.cells #[.pointer (some ⟨tb, 0, none⟩)] 67)).alloc (.cells #[.pointer (some ⟨9, 67, none⟩), .pointer (some ⟨w.heap.size, 0, none⟩), .int .u64 150] 90)) (by rw [World.cell?_alloc_lt _ _ ⟨w.heap.size, 0, none⟩ (by simp)]; simp)
  have hg2 : ((w.alloc (.cells #[.pointer (some ⟨tb, 0, none⟩)] 67)).alloc (.cells #[.pointer (some ⟨9, 67, none⟩), .pointer (some ⟨w.heap.size, 0, none⟩), .int .u64 150] 90)).cell? ⟨0, 0, none⟩ = some (.iface 115 (.agg #[.pointer (some ⟨9, 31, none⟩)])) := by rw [← hW2]; exact hg.below B2
  have HT : Aside0 (w.heap[tb]? = some (.cells #[old] 25 (0, 0)) ∧ tb < w.heap.size) := ⟨ht, htl⟩
  have htW : W2.heap[tb]? = some (.cells #[old] 25 (0, 0)) := by rw [B2.block tb htl]; exact ht
  have HC : Aside0 (Calls Tryz.prog 52 #[v, .iface 67 (.pointer (some ⟨tb, 0, none⟩)), (.agg #[.pointer (some ⟨9, 67, none⟩), .pointer (some ⟨w.heap.size, 0, none⟩), .int .u64 150]), .iface 115 (.agg #[.pointer (some ⟨9, 25, none⟩)])] W2 fun e w' => ∃ r, e = .returned (.bool r) ∧ Aside0 (Keeps (fun k => k = tb) w w' ∧ SeenE b tb r w')) :=
    ⟨(as2_E v ins b ⟨tb, 0, none⟩ ⟨w.heap.size, 0, none⟩ old W2 _ rfl (EV_keep B2 he)
      ((blk_cell htW 0).trans rfl)
      (blk_frozen htW _)
      (by rw [hW2, World.cell?_alloc_lt _ _ ⟨w.heap.size, 0, none⟩ (by simp)]; simp)).mono fun e w' hT => by
        obtain ⟨r, hr, hk⟩ := seenE (blk_alloc htW _) hT
        exact ⟨r, hr, ⟨(((Keeps.refl _ w).below B2).alloc _).trans hk.out.1, hk.out.2⟩⟩⟩
  have HW : Aside0 (W2 = ((w.alloc (.cells #[.pointer (some ⟨tb, 0, none⟩)] 67)).alloc (.cells #[.pointer (some ⟨9, 67, none⟩), .pointer (some ⟨w.heap.size, 0, none⟩), .int .u64 150] 90)) ∧ Below w.heap.size w W2) := ⟨hW2, B2⟩
  obtain ⟨ut, ux, rfl⟩ := EV_iface he
  clear he ht hg htl hlt hW2 B2 htW
  go_enter Tryz.func27, Tryz.ntmps27
  go_wp2_with (go_at_call 52; rw [← HW.out.1]; refine HC.out.mono ?_; rintro e w' ⟨r, rfl, hT⟩)
  go_ret
  exact ⟨r, rfl, hT⟩


set_option maxHeartbeats 4000000 in
theorem code_calls (v : Value) (ins : List (List ByteArray)) (b : Base) (w : World) (he : EV w v ins b) (hg : ErrT w) :
    Calls Tryz.prog 13 #[v] w fun e w' => e = .returned (.int .i64 b.code) ∧ Below w.heap.size w w' := by
  have B0 : Below w.heap.size w (w.alloc (.cells #[.int .i64 0] 25)) := below_alloc (Below.refl _ _) _
  have HC : Aside0 (Calls Tryz.prog 27 #[v, .iface 67 (.pointer (some ⟨w.heap.size, 0, none⟩))] (w.alloc (.cells #[.int .i64 0] 25)) fun e w' => e = .returned (.bool true) ∧ w'.cell? ⟨w.heap.size, 0, none⟩ = some (.int .i64 b.code) ∧ Aside0 (Below w.heap.size w w')) :=
    ⟨(as_E v ins b w.heap.size _ _ (EV_keep B0 he) (heap_alloc_new w _) (hg.below B0)).mono fun e w' ⟨r, hr, hk⟩ => by
      obtain ⟨h1, rfl, h2⟩ := hk.out
      exact ⟨hr, h2, ⟨B0.trans (h1.toBelow B0.size (fun k hk => by omega))⟩⟩⟩
  obtain ⟨ut, ux, rfl⟩ := EV_iface he
  clear he hg B0
  go_enter Tryz.func13, Tryz.ntmps13
  go_wp2_with (go_at_call 27; refine HC.out.mono ?_; rintro e w' ⟨rfl, hc, hb⟩)
  go_ret
  exact ⟨rfl, hb.out⟩
set_option maxHeartbeats 4000000 in
theorem at_calls (v : Value) (ins : List (List ByteArray)) (b : Base) (w : World) (he : EV w v ins b) (hg : ErrT w) :
    Calls Tryz.prog 12 #[v] w fun e w' => e = .returned (.tuple #[.int .i64 (b.at?.getD 0), .bool b.at?.isSome]) ∧ Below w.heap.size w w' := by
  have B0 : Below w.heap.size w (w.alloc (.cells #[.pointer none] 62)) := below_alloc (Below.refl _ _) _
  have HC : Aside0 (Calls Tryz.prog 27 #[v, .iface 64 (.pointer (some ⟨w.heap.size, 0, none⟩))] (w.alloc (.cells #[.pointer none] 62)) fun e w' => ∃ r, e = .returned (.bool r) ∧ Aside0 (SeenF b w.heap.size r w' ∧ Below w.heap.size w w')) :=
    ⟨(as_F v ins b w.heap.size _ _ (EV_keep B0 he) (heap_alloc_new w _) (hg.below B0)).mono fun e w' ⟨r, hr, hk⟩ =>
      ⟨r, hr, ⟨hk.out.2, B0.trans (hk.out.1.toBelow B0.size (fun k hk => by omega))⟩⟩⟩
  obtain ⟨ut, ux, rfl⟩ := EV_iface he
  clear he hg B0
  cases b with
  | errno m =>
    go_enter Tryz.func12, Tryz.ntmps12
    go_wp2_with (go_at_call 27; refine HC.out.mono ?_; rintro e w' ⟨r, rfl, hb⟩; obtain rfl : r = false := hb.out.1)
    go_ret2
    exact ⟨rfl, hb.out.2⟩
  | fault m x =>
    go_enter Tryz.func12, Tryz.ntmps12
    go_wp2_with (go_at_call 27; refine HC.out.mono ?_; rintro e w' ⟨r, rfl, hb⟩; obtain ⟨g, rfl, c0, c1⟩ := hb.out.1)
    go_ret2
    exact ⟨rfl, hb.out.2⟩

end As
end Go.Proofs.YtmcjfnebkpifnaaGreatDoor
