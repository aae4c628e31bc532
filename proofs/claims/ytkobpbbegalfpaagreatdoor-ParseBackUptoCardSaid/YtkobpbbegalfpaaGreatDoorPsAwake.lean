/-
  Joined texts: AsFacts, As, AsTop, PsTold, PsAwake.
-/
import Derived.Test.YtkobpbbegalfpaaGreatDoorPsBase
import Derived.LaidEql
import Derived.Stop.Asserts
import Derived.Deep.LoopGhost
import Derived.Test.YtkobpbbegalfpaaGreatDoorPsTop
import Derived.Deep.RegionHeld3
namespace Go.Proofs.YtkobpbbegalfpaaGreatDoor
open Go.RowKit Go.Extern.Stop Go.Stop Go.Extern YtkobpbbegalfpaaGreatDoorW.PrintWords YtkobpbbegalfpaaGreatDoorW.PrintLast YtkobpbbegalfpaaGreatDoorW.PrintMore
set_option linter.unusedVariables false
set_option linter.unusedSimpArgs false
namespace As
inductive Base where
 | errno (e : Int)
 | fault (e at_ : Int)
def EB (w : World) (v : Value) : Base → Prop
 | .errno e => v = .iface 42 (.int .i64 e)
 | .fault e a => ∃ g, v = .iface 82 (.pointer (some ⟨g, 0, none⟩)) ∧ w.heap[g]? = some (.cells #[.int .i64 e, .int .i64 a] 84 (0, 0))
def EV (w : World) : Value → List (List ByteArray) → Base → Prop
 | v, [], b => EB w v b
 | v, xs :: ins, b => ∃ g ws err, v = .iface 78 (.pointer (some ⟨g, 0, none⟩)) ∧ w.heap[g]? = some (.cells #[ws, err] 81 (0, 0)) ∧ Kd.string.R 9 w 0 (fun _ => True) ws xs ∧ EV w err ins b
theorem EB_iface {w : World} {v : Value} {b : Base} (h : EB w v b) : ∃ t x, v = .iface t x := by
 cases b with
 | errno e => exact ⟨_, _, h⟩
 | fault e a => obtain ⟨g, rfl, _⟩ := h; exact ⟨_, _, rfl⟩
theorem EV_iface {w : World} {v : Value} {ins : List (List ByteArray)} {b : Base} (h : EV w v ins b) : ∃ t x, v = .iface t x := by
 cases ins with
 | nil => exact EB_iface h
 | cons xs ins => obtain ⟨g, ws, err, rfl, _⟩ := h; exact ⟨_, _, rfl⟩
theorem EV_keep {w w' : World} (hk : Below w.heap.size w w') {v : Value} {ins : List (List ByteArray)} {b : Base} (h : EV w v ins b) : EV w' v ins b := by
 have kept : ∀ g o, w.heap[g]? = some o → w'.heap[g]? = some o := fun g o hg => by
  have hlt : g < w.heap.size := by
   rcases Nat.lt_or_ge g w.heap.size with h1 | h1
   ·exact h1
   ·rw [Array.getElem?_eq_none h1] at hg; cases hg
  rw [hk.block g hlt]; exact hg
 induction ins generalizing v with
 | nil =>
  cases b with
  | errno e => exact h
  | fault e a => obtain ⟨g, rfl, hg⟩ := h; exact ⟨g, rfl, kept _ _ hg⟩
 | cons xs ins ih =>
  obtain ⟨g, ws, err, rfl, hg, hr, he⟩ := h
  exact ⟨g, ws, err, rfl, kept _ _ hg, Kd.R_below hr hk, ih he⟩
theorem unw_inside (g : Nat) (ws err : Value) (w : World) (hg : w.heap[g]? = some (.cells #[ws, err] 81 (0, 0))) :
  Calls Tryz.prog 173 #[.pointer (some ⟨g, 0, none⟩)] w fun e w' => e = .returned err ∧ w' = w := by
 have c1 : w.cell? ⟨g, 1, none⟩ = some err := (blk_cell hg 1).trans rfl
 clear hg
 go_enter Tryz.func173, Tryz.ntmps173
 go_wp2
 go_ret
 exact ⟨rfl, rfl⟩
theorem unw_fault (g : Nat) (n a : Int) (w : World) (hg : w.heap[g]? = some (.cells #[.int .i64 n, .int .i64 a] 84 (0, 0))) :
  Calls Tryz.prog 175 #[.pointer (some ⟨g, 0, none⟩)] w fun e w' => e = .returned (.iface 42 (.int .i64 n)) ∧ w' = w := by
 have c0 : w.cell? ⟨g, 0, none⟩ = some (.int .i64 n) := (blk_cell hg 0).trans rfl
 clear hg
 go_enter Tryz.func175, Tryz.ntmps175
 go_wp2
 go_ret
 exact ⟨rfl, rfl⟩
theorem rlm (z : Sem Value) (f : TypeId → Addr → Nat → Nat → Sem Value) (v : Value) :
  ReflectliteValue.method z f #[v] = (do match ← ReflectliteValue.parts v with | none => z | some (t, a, fl) => f t a fl (fl % 32)) := rfl
theorem rls (v x : Value) : ReflectliteValue.set #[v, x] = (do
  let (some (dst, a, fl), some (src, b, _)) := (← ReflectliteValue.parts v, ← ReflectliteValue.parts x)
   | unsupported (.noEntry "extern/(internal/reflectlite.Value).Set.zeroValue")
  if fl / ReflectliteValue.flagAddr % 2 == 0 then unsupported (.noEntry "extern/(internal/reflectlite.Value).Set.unaddressable")
  let val ← loadVar src b
  if ← Rtype.directlyAssignable dst src then storeVar dst a val
  else if ← Rtype.implements dst src then
   if (← Rtype.kind src) == 20 then
    match val with
    | .nilIface => unsupported (.noEntry "extern/reflectlite: a nil value of one interface type handed on as a value of another")
    | _ => storeVar dst a val
   else storeVar dst a (.iface src val)
  else panicString ("reflectlite.Set: value of type " ++ (← Rtype.spelt src) ++ " is not assignable to type " ++ (← Rtype.spelt dst))
  pure (.tuple #[])) := rfl
theorem mKind (h : Value) (w : World) : (Go.method 345 148 (.agg #[h]) "Kind").run Tryz.prog w = .ok (168, h) w := by kernel_rfl
theorem mElem (h : Value) (w : World) : (Go.method 345 148 (.agg #[h]) "Elem").run Tryz.prog w = .ok (183, .agg #[h]) w := by kernel_rfl
theorem mImplements (h : Value) (w : World) : (Go.method 345 148 (.agg #[h]) "Implements").run Tryz.prog w = .ok (184, .agg #[h]) w := by kernel_rfl
theorem mAssignableTo (h : Value) (w : World) : (Go.method 345 148 (.agg #[h]) "AssignableTo").run Tryz.prog w = .ok (181, .agg #[h]) w := by kernel_rfl
theorem mUnwI (h : Option Addr) (w : World) : (Go.method 345 78 (.pointer h) "Unwrap").run Tryz.prog w = .ok (173, .pointer h) w := by kernel_rfl
theorem mUnwF (h : Option Addr) (w : World) : (Go.method 345 82 (.pointer h) "Unwrap").run Tryz.prog w = .ok (175, .pointer h) w := by kernel_rfl
theorem typeOfI (v : Value) (w : World) : (ReflectliteType.typeOf #[.iface 78 v]).run Tryz.prog w = .ok (.iface 148 (.agg #[.pointer (some ⟨7, 78, none⟩)])) w := by kernel_rfl
theorem noAsI (v : Value) (w : World) : (Instr.typeAssert (.iface 78 v) 29 153 true).run Tryz.prog w = .ok (.tuple #[.nilIface, .bool false]) w := run_typeAssert_lacksB Tryz.underlying153 (by kernel_rfl) (by kernel_rfl) v 29 w
theorem typeOfF (v : Value) (w : World) : (ReflectliteType.typeOf #[.iface 82 v]).run Tryz.prog w = .ok (.iface 148 (.agg #[.pointer (some ⟨7, 82, none⟩)])) w := by kernel_rfl
theorem noAsF (v : Value) (w : World) : (Instr.typeAssert (.iface 82 v) 29 153 true).run Tryz.prog w = .ok (.tuple #[.nilIface, .bool false]) w := run_typeAssert_lacksB Tryz.underlying153 (by kernel_rfl) (by kernel_rfl) v 29 w
theorem typeOfE (v : Value) (w : World) : (ReflectliteType.typeOf #[.iface 42 v]).run Tryz.prog w = .ok (.iface 148 (.agg #[.pointer (some ⟨7, 42, none⟩)])) w := by kernel_rfl
theorem noAsE (v : Value) (w : World) : (Instr.typeAssert (.iface 42 v) 29 153 true).run Tryz.prog w = .ok (.tuple #[.nilIface, .bool false]) w := run_typeAssert_lacksB Tryz.underlying153 (by kernel_rfl) (by kernel_rfl) v 29 w
theorem unI (v : Value) (w : World) : (Instr.typeAssert (.iface 78 v) 29 156 true).run Tryz.prog w = .ok (.tuple #[.iface 78 v, .bool true]) w := run_typeAssert_hasB Tryz.underlying156 (by kernel_rfl) v 29 w
theorem unF (v : Value) (w : World) : (Instr.typeAssert (.iface 82 v) 29 156 true).run Tryz.prog w = .ok (.tuple #[.iface 82 v, .bool true]) w := run_typeAssert_hasB Tryz.underlying156 (by kernel_rfl) v 29 w
theorem noUnE (v : Value) (w : World) : (Instr.typeAssert (.iface 42 v) 29 156 true).run Tryz.prog w = .ok (.tuple #[.nilIface, .bool false]) w := run_typeAssert_lacksB Tryz.underlying156 (by kernel_rfl) (by kernel_rfl) v 29 w
theorem noUnlE (v : Value) (w : World) : (Instr.typeAssert (.iface 42 v) 29 158 true).run Tryz.prog w = .ok (.tuple #[.nilIface, .bool false]) w := run_typeAssert_lacksB Tryz.underlying158 (by kernel_rfl) (by kernel_rfl) v 29 w
namespace ToF
theorem valueOfP (t : Addr) (w : World) : (ReflectliteValue.unpack (.iface 96 (.pointer (some t)))).run Tryz.prog w
  = .ok (.agg #[.pointer (some ⟨7, 96, none⟩), .pointer (some ⟨w.heap.size, 0, none⟩), .int .u64 150]) (w.alloc (.cells #[.pointer (some t)] 96)) := by kernel_rfl
theorem typeP (a : Addr) (w : World) : (ReflectliteValue.methodAny (ReflectliteValue.valueError "reflectlite.Value.Type" 0) (fun t _ _ _ => ReflectliteType.toType t) #[.agg #[.pointer (some ⟨7, 96, none⟩), .pointer (some a), .int .u64 150]]).run Tryz.prog w
  = .ok (.iface 148 (.agg #[.pointer (some ⟨7, 96, none⟩)])) w := by kernel_rfl
theorem kindP (w : World) : ((ReflectliteType.abiMethod fun t => (fun a : Nat => Value.int IntKind.u8 (a : Int)) <$> Rtype.kind t) #[.pointer (some ⟨7, 96, none⟩)]).run Tryz.prog w = .ok (.int .u8 22) w := by kernel_rfl
theorem kindT (w : World) : ((ReflectliteType.abiMethod fun t => (fun a : Nat => Value.int IntKind.u8 (a : Int)) <$> Rtype.kind t) #[.pointer (some ⟨7, 82, none⟩)]).run Tryz.prog w = .ok (.int .u8 22) w := by kernel_rfl
theorem partsP (a : Addr) (w : World) : (ReflectliteValue.parts (.agg #[.pointer (some ⟨7, 96, none⟩), .pointer (some a), .int .u64 150])).run Tryz.prog w = .ok (some (96, a, 150)) w := by kernel_rfl
theorem isNilP (a p : Addr) (W : World) (ha : W.cell? a = some (.pointer (some p))) :
  (ReflectliteValue.method (ReflectliteValue.valueError "reflectlite.Value.IsNil" 0) ReflectliteValue.isNil #[.agg #[.pointer (some ⟨7, 96, none⟩), .pointer (some a), .int .u64 150]]).run Tryz.prog W = .ok (.bool false) W := by
 rw [rlm]
 simp only [Sem.run_bind, partsP, Result.andThen]
 simp [ReflectliteValue.isNil, loadVar, isAgg, underlying, Tryz.underlying96, ha, Result.andThen]
theorem elemP (w : World) : (ReflectliteType.method ReflectliteType.elem #[.agg #[.pointer (some ⟨7, 96, none⟩)]]).run Tryz.prog w = .ok (.iface 148 (.agg #[.pointer (some ⟨7, 82, none⟩)])) w := by kernel_rfl
theorem implementsT (w : World) : (ReflectliteType.relation "Implements" ReflectliteType.implements_ #[.agg #[.pointer (some ⟨7, 82, none⟩)], .iface 148 (.agg #[.pointer (some ⟨7, 29, none⟩)])]).run Tryz.prog w = .ok (.bool true) w := by kernel_rfl
theorem elemOfP (w : World) : (Rtype.elem? 96).run Tryz.prog w = .ok (some 82) w := by kernel_rfl
theorem mkT (p : Addr) (w : World) : (ReflectliteValue.mk 82 p ReflectliteValue.flagAddr).run Tryz.prog w = .ok (.agg #[.pointer (some ⟨7, 82, none⟩), .pointer (some p), .int .u64 406]) w := by kernel_rfl
theorem elemV (a p : Addr) (W : World) (ha : W.cell? a = some (.pointer (some p))) :
  (ReflectliteValue.method (ReflectliteValue.valueError "reflectlite.Value.Elem" 0) ReflectliteValue.elem #[.agg #[.pointer (some ⟨7, 96, none⟩), .pointer (some a), .int .u64 150]]).run Tryz.prog W
   = .ok (.agg #[.pointer (some ⟨7, 82, none⟩), .pointer (some p), .int .u64 406]) W := by
 rw [rlm]
 simp only [Sem.run_bind, partsP, Result.andThen]
 simp [ReflectliteValue.elem, loadVar, isAgg, underlying, Tryz.underlying96, ha, Result.andThen, elemOfP, mkT]
theorem partsTa (a : Addr) (w : World) : (ReflectliteValue.parts (.agg #[.pointer (some ⟨7, 82, none⟩), .pointer (some a), .int .u64 406])).run Tryz.prog w = .ok (some (82, a, 406)) w := by kernel_rfl
theorem partsT (a : Addr) (w : World) : (ReflectliteValue.parts (.agg #[.pointer (some ⟨7, 82, none⟩), .pointer (some a), .int .u64 150])).run Tryz.prog w = .ok (some (82, a, 150)) w := by kernel_rfl
theorem valueOfT (e : Addr) (w : World) : (ReflectliteValue.unpack (.iface 82 (.pointer (some e)))).run Tryz.prog w
  = .ok (.agg #[.pointer (some ⟨7, 82, none⟩), .pointer (some ⟨w.heap.size, 0, none⟩), .int .u64 150]) (w.alloc (.cells #[.pointer (some e)] 82)) := by kernel_rfl
theorem directT (w : World) : (Rtype.directlyAssignable 82 82).run Tryz.prog w = .ok true w := by kernel_rfl
theorem setT (ta b : Addr) (e : Addr) (old : Value) (W : World) (hb : W.cell? b = some (.pointer (some e))) (ht : W.cell? ta = some old) (hf : W.frozen? ta = false) :
  (ReflectliteValue.set #[.agg #[.pointer (some ⟨7, 82, none⟩), .pointer (some ta), .int .u64 406], .agg #[.pointer (some ⟨7, 82, none⟩), .pointer (some b), .int .u64 150]]).run Tryz.prog W
   = .ok (.tuple #[]) (W.setCell ta (.pointer (some e))) := by
 rw [rls]
 simp only [Sem.run_bind, partsTa, partsT, Result.andThen]
 simp [ReflectliteValue.flagAddr, loadVar, isAgg, underlying, Tryz.underlying82, hb, Result.andThen, directT, storeVar, Value.cells, storeCells, Addr.add]
 rw [run_store Tryz.prog W ta _ _ (by rfl)]
 simp [ht, hf]
theorem assignI (w : World) : (ReflectliteType.relation "AssignableTo" ReflectliteType.assignableTo #[.agg #[.pointer (some ⟨7, 78, none⟩)], .iface 148 (.agg #[.pointer (some ⟨7, 82, none⟩)])]).run Tryz.prog w = .ok (.bool false) w := by kernel_rfl
theorem assignF (w : World) : (ReflectliteType.relation "AssignableTo" ReflectliteType.assignableTo #[.agg #[.pointer (some ⟨7, 82, none⟩)], .iface 148 (.agg #[.pointer (some ⟨7, 82, none⟩)])]).run Tryz.prog w = .ok (.bool true) w := by kernel_rfl
theorem assignE (w : World) : (ReflectliteType.relation "AssignableTo" ReflectliteType.assignableTo #[.agg #[.pointer (some ⟨7, 42, none⟩)], .iface 148 (.agg #[.pointer (some ⟨7, 82, none⟩)])]).run Tryz.prog w = .ok (.bool false) w := by kernel_rfl
end ToF
namespace ToE
theorem valueOfP (t : Addr) (w : World) : (ReflectliteValue.unpack (.iface 77 (.pointer (some t)))).run Tryz.prog w
  = .ok (.agg #[.pointer (some ⟨7, 77, none⟩), .pointer (some ⟨w.heap.size, 0, none⟩), .int .u64 150]) (w.alloc (.cells #[.pointer (some t)] 77)) := by kernel_rfl
theorem typeP (a : Addr) (w : World) : (ReflectliteValue.methodAny (ReflectliteValue.valueError "reflectlite.Value.Type" 0) (fun t _ _ _ => ReflectliteType.toType t) #[.agg #[.pointer (some ⟨7, 77, none⟩), .pointer (some a), .int .u64 150]]).run Tryz.prog w
  = .ok (.iface 148 (.agg #[.pointer (some ⟨7, 77, none⟩)])) w := by kernel_rfl
theorem kindP (w : World) : ((ReflectliteType.abiMethod fun t => (fun a : Nat => Value.int IntKind.u8 (a : Int)) <$> Rtype.kind t) #[.pointer (some ⟨7, 77, none⟩)]).run Tryz.prog w = .ok (.int .u8 22) w := by kernel_rfl
theorem kindT (w : World) : ((ReflectliteType.abiMethod fun t => (fun a : Nat => Value.int IntKind.u8 (a : Int)) <$> Rtype.kind t) #[.pointer (some ⟨7, 42, none⟩)]).run Tryz.prog w = .ok (.int .u8 2) w := by kernel_rfl
theorem partsP (a : Addr) (w : World) : (ReflectliteValue.parts (.agg #[.pointer (some ⟨7, 77, none⟩), .pointer (some a), .int .u64 150])).run Tryz.prog w = .ok (some (77, a, 150)) w := by kernel_rfl
theorem isNilP (a p : Addr) (W : World) (ha : W.cell? a = some (.pointer (some p))) :
  (ReflectliteValue.method (ReflectliteValue.valueError "reflectlite.Value.IsNil" 0) ReflectliteValue.isNil #[.agg #[.pointer (some ⟨7, 77, none⟩), .pointer (some a), .int .u64 150]]).run Tryz.prog W = .ok (.bool false) W := by
 rw [rlm]
 simp only [Sem.run_bind, partsP, Result.andThen]
 simp [ReflectliteValue.isNil, loadVar, isAgg, underlying, Tryz.underlying77, ha, Result.andThen]
theorem elemP (w : World) : (ReflectliteType.method ReflectliteType.elem #[.agg #[.pointer (some ⟨7, 77, none⟩)]]).run Tryz.prog w = .ok (.iface 148 (.agg #[.pointer (some ⟨7, 42, none⟩)])) w := by kernel_rfl
theorem implementsT (w : World) : (ReflectliteType.relation "Implements" ReflectliteType.implements_ #[.agg #[.pointer (some ⟨7, 42, none⟩)], .iface 148 (.agg #[.pointer (some ⟨7, 29, none⟩)])]).run Tryz.prog w = .ok (.bool true) w := by kernel_rfl
theorem elemOfP (w : World) : (Rtype.elem? 77).run Tryz.prog w = .ok (some 42) w := by kernel_rfl
theorem mkT (p : Addr) (w : World) : (ReflectliteValue.mk 42 p ReflectliteValue.flagAddr).run Tryz.prog w = .ok (.agg #[.pointer (some ⟨7, 42, none⟩), .pointer (some p), .int .u64 386]) w := by kernel_rfl
theorem elemV (a p : Addr) (W : World) (ha : W.cell? a = some (.pointer (some p))) :
  (ReflectliteValue.method (ReflectliteValue.valueError "reflectlite.Value.Elem" 0) ReflectliteValue.elem #[.agg #[.pointer (some ⟨7, 77, none⟩), .pointer (some a), .int .u64 150]]).run Tryz.prog W
   = .ok (.agg #[.pointer (some ⟨7, 42, none⟩), .pointer (some p), .int .u64 386]) W := by
 rw [rlm]
 simp only [Sem.run_bind, partsP, Result.andThen]
 simp [ReflectliteValue.elem, loadVar, isAgg, underlying, Tryz.underlying77, ha, Result.andThen, elemOfP, mkT]
theorem partsTa (a : Addr) (w : World) : (ReflectliteValue.parts (.agg #[.pointer (some ⟨7, 42, none⟩), .pointer (some a), .int .u64 386])).run Tryz.prog w = .ok (some (42, a, 386)) w := by kernel_rfl
theorem partsT (a : Addr) (w : World) : (ReflectliteValue.parts (.agg #[.pointer (some ⟨7, 42, none⟩), .pointer (some a), .int .u64 130])).run Tryz.prog w = .ok (some (42, a, 130)) w := by kernel_rfl
theorem valueOfT (e : Int) (w : World) : (ReflectliteValue.unpack (.iface 42 (.int .i64 e))).run Tryz.prog w
  = .ok (.agg #[.pointer (some ⟨7, 42, none⟩), .pointer (some ⟨w.heap.size, 0, none⟩), .int .u64 130]) (w.alloc (.cells #[.int .i64 e] 42)) := by kernel_rfl
theorem directT (w : World) : (Rtype.directlyAssignable 42 42).run Tryz.prog w = .ok true w := by kernel_rfl
theorem setT (ta b : Addr) (e : Int) (old : Value) (W : World) (hb : W.cell? b = some (.int .i64 e)) (ht : W.cell? ta = some old) (hf : W.frozen? ta = false) :
  (ReflectliteValue.set #[.agg #[.pointer (some ⟨7, 42, none⟩), .pointer (some ta), .int .u64 386], .agg #[.pointer (some ⟨7, 42, none⟩), .pointer (some b), .int .u64 130]]).run Tryz.prog W
   = .ok (.tuple #[]) (W.setCell ta (.int .i64 e)) := by
 rw [rls]
 simp only [Sem.run_bind, partsTa, partsT, Result.andThen]
 simp [ReflectliteValue.flagAddr, loadVar, isAgg, underlying, Tryz.underlying42, hb, Result.andThen, directT, storeVar, Value.cells, storeCells, Addr.add]
 rw [run_store Tryz.prog W ta _ _ (by rfl)]
 simp [ht, hf]
theorem assignI (w : World) : (ReflectliteType.relation "AssignableTo" ReflectliteType.assignableTo #[.agg #[.pointer (some ⟨7, 78, none⟩)], .iface 148 (.agg #[.pointer (some ⟨7, 42, none⟩)])]).run Tryz.prog w = .ok (.bool false) w := by kernel_rfl
theorem assignF (w : World) : (ReflectliteType.relation "AssignableTo" ReflectliteType.assignableTo #[.agg #[.pointer (some ⟨7, 82, none⟩)], .iface 148 (.agg #[.pointer (some ⟨7, 42, none⟩)])]).run Tryz.prog w = .ok (.bool false) w := by kernel_rfl
theorem assignE (w : World) : (ReflectliteType.relation "AssignableTo" ReflectliteType.assignableTo #[.agg #[.pointer (some ⟨7, 42, none⟩)], .iface 148 (.agg #[.pointer (some ⟨7, 42, none⟩)])]).run Tryz.prog w = .ok (.bool true) w := by kernel_rfl
end ToE
end As
end Go.Proofs.YtkobpbbegalfpaaGreatDoor
namespace Go.Proofs.YtkobpbbegalfpaaGreatDoor
open Go.RowKit Go.Extern.Stop Go.Stop Go.Extern YtkobpbbegalfpaaGreatDoorW.PrintWords YtkobpbbegalfpaaGreatDoorW.PrintLast YtkobpbbegalfpaaGreatDoorW.PrintMore
set_option linter.unusedVariables false
set_option linter.unusedSimpArgs false
namespace As
theorem World.lt_of_cell {w : World} {a : Addr} {v : Value} (h : w.cell? a = some v) : a.block < w.heap.size := by
 rcases Nat.lt_or_ge a.block w.heap.size with h1 | h1
 ·exact h1
 ·simp [World.cell?, Array.getElem?_eq_none h1] at h
def Base.code : Base → Int
 | .errno e => e
 | .fault e _ => e
def ToldF (W0 : World) (t : Addr) (b : Base) (e : Ending) (w' : World) : Prop :=
 match b with
 | .errno _ => e = .returned (.bool false) ∧ w' = W0
 | .fault n x => ∃ g, W0.heap[g]? = some (.cells #[.int .i64 n, .int .i64 x] 84 (0, 0)) ∧ e = .returned (.bool true) ∧ w' = (W0.alloc (.cells #[.pointer (some ⟨g, 0, none⟩)] 82)).setCell t (.pointer (some ⟨g, 0, none⟩))
set_option maxHeartbeats 4000000 in
theorem as2_F (v : Value) (ins : List (List ByteArray)) (b : Base) (t a : Addr) (old : Value) (w W0 : World) (hW0 : W0 = (w.alloc (.cells #[.pointer (some ⟨7, 96, none⟩), .pointer (some a), .int .u64 150] 113))) (he : EV w v ins b)
  (ht0 : w.cell? t = some old) (hf0 : w.frozen? t = false) (ha : w.cell? a = some (.pointer (some t))) :
  Calls Tryz.prog 66 #[v, .iface 96 (.pointer (some t)), (.agg #[.pointer (some ⟨7, 96, none⟩), .pointer (some a), .int .u64 150]), .iface 148 (.agg #[.pointer (some ⟨7, 82, none⟩)])] w fun e w' => ToldF W0 t b e w' := by
 have h66 := @run_callFunc_extern Tryz.prog 92 _ ReflectliteType.typeOf Tryz.func92 (by kernel_rfl) (by kernel_rfl) (by kernel_rfl) (by kernel_rfl)
 have h156 := @run_callFunc_extern Tryz.prog 181 _ (ReflectliteType.relation "AssignableTo" ReflectliteType.assignableTo) Tryz.func181 (by kernel_rfl) (by kernel_rfl) (by kernel_rfl) (by kernel_rfl)
 have h59 := @run_callFunc_extern Tryz.prog 63 _ (fun args => ReflectliteValue.unpack (args.getD 0 (.tuple #[]))) Tryz.func63 (by kernel_rfl) (by kernel_rfl) (by kernel_rfl) (by kernel_rfl)
 have h77 := @run_callFunc_extern Tryz.prog 93 _ (ReflectliteValue.method (ReflectliteValue.valueError "reflectlite.Value.Elem" 0) ReflectliteValue.elem) Tryz.func93 (by kernel_rfl) (by kernel_rfl) (by kernel_rfl) (by kernel_rfl)
 have h78 := @run_callFunc_extern Tryz.prog 94 _ ReflectliteValue.set Tryz.func94 (by kernel_rfl) (by kernel_rfl) (by kernel_rfl) (by kernel_rfl)
 have tI := typeOfI; have tF := typeOfF; have tE := typeOfE
 have mA := mAssignableTo; have mUI := mUnwI; have mUF := mUnwF
 have aI := ToF.assignI; have aF := ToF.assignF; have aE := ToF.assignE
 have nI := noAsI; have nF := noAsF; have nE := noAsE
 have uI := unI; have uF := unF; have uE := noUnE; have ulE := noUnlE
 have vT := ToF.valueOfT
 have htl := World.lt_of_cell ht0
 have hal := World.lt_of_cell ha
 have ht1 : W0.cell? t = some old := by rw [hW0, World.cell?_alloc_lt _ _ t htl]; exact ht0
 have hf1 : W0.frozen? t = false := by rw [hW0, World.frozen?_alloc_old _ _ t (Nat.ne_of_lt htl)]; exact hf0
 have el := ToF.elemV a t W0 (by rw [hW0, World.cell?_alloc_lt _ _ a hal]; exact ha)
 have bx0 : W0.cell? ⟨w.heap.size, 0, none⟩ = some (.pointer (some ⟨7, 96, none⟩)) := by rw [hW0]; simp
 have bx1 : W0.cell? ⟨w.heap.size, 1, none⟩ = some (.pointer (some a)) := by rw [hW0]; simp
 have bx2 : W0.cell? ⟨w.heap.size, 2, none⟩ = some (.int .u64 150) := by rw [hW0]; simp
 have HE : Aside0 (EV W0 v ins b) := ⟨by rw [hW0]; exact EV_keep (below_alloc (Below.refl _ _) _) he⟩
 have HT : Aside0 (t.block < W0.heap.size ∧ W0.cell? t = some old ∧ W0.frozen? t = false) := ⟨by rw [hW0]; simp; omega, ht1, hf1⟩
 have HW : Aside0 (W0 = (w.alloc (.cells #[.pointer (some ⟨7, 96, none⟩), .pointer (some a), .int .u64 150] 113))) := ⟨hW0⟩
 clear he ht0 hf0 ha htl hal ht1 hf1 hW0
 go_enter Tryz.func66, Tryz.ntmps66
 go_wp2
 rw [← HW.out]
 go_loopg [0] (ins.length) (fun k p wr => wr = W0 ∧ ∃ xs, xs.length = k ∧ EV W0 p xs b)
 case atStart => exact ⟨rfl, ins, rfl, HE.out⟩
 case round =>
  obtain ⟨rfl, xs, hk, hv⟩ := hrel
  have HK : Aside0 (xs.length = gk) := ⟨hk⟩
  clear hk
  rcases xs with _ | ⟨ys, xs⟩
  ·cases b with
   | errno m =>
    simp only [EV, EB] at hv
    subst hv
    go_wp2
    go_ret
    exact ⟨rfl, rfl⟩
   | fault m x =>
    obtain ⟨g, rfl, hg⟩ := hv
    have HG : Aside0 (wr.heap[g]? = some (.cells #[.int .i64 m, .int .i64 x] 84 (0, 0))) := ⟨hg⟩
    clear hg
    have st := ToF.setT t ⟨wr.heap.size, 0, none⟩ ⟨g, 0, none⟩ old (wr.alloc (.cells #[.pointer (some ⟨g, 0, none⟩)] 82))
     (by rw [World.cell?_alloc_at _ _ _ _ (by simp)]; rfl)
     (by rw [World.cell?_alloc_lt _ _ t HT.out.1]; exact HT.out.2.1)
     (by rw [World.frozen?_alloc_old _ _ t (Nat.ne_of_lt HT.out.1)]; exact HT.out.2.2)
    go_wp2
    go_ret
    exact ⟨g, HG.out, rfl, rfl⟩
  ·obtain ⟨g, ws, err, rfl, hg, hws, hv'⟩ := hv
   obtain ⟨ut, ux, rfl⟩ := EV_iface hv'
   have HG : Aside0 (wr.heap[g]? = some (.cells #[ws, .iface ut ux] 81 (0, 0)) ∧ EV wr (.iface ut ux) xs b) := ⟨hg, hv'⟩
   clear hg hws hv'
   go_wp2_with (go_at_call 173; refine (unw_inside g ws (.iface ut ux) _ HG.out.1).mono ?_; rintro e w' ⟨rfl, rfl⟩)
   go_roundg xs.length
   case measure => have := HK.out; simp at this; omega
   case rel => exact ⟨rfl, xs, rfl, HG.out.2⟩
def ToldE (W0 : World) (t : Addr) (b : Base) (e : Ending) (w' : World) : Prop := e = .returned (.bool true) ∧ w' = (W0.alloc (.cells #[.int .i64 b.code] 42)).setCell t (.int .i64 b.code)
set_option maxHeartbeats 4000000 in
theorem as2_E (v : Value) (ins : List (List ByteArray)) (b : Base) (t a : Addr) (old : Value) (w W0 : World) (hW0 : W0 = (w.alloc (.cells #[.pointer (some ⟨7, 77, none⟩), .pointer (some a), .int .u64 150] 113))) (he : EV w v ins b)
  (ht0 : w.cell? t = some old) (hf0 : w.frozen? t = false) (ha : w.cell? a = some (.pointer (some t))) :
  Calls Tryz.prog 66 #[v, .iface 77 (.pointer (some t)), (.agg #[.pointer (some ⟨7, 77, none⟩), .pointer (some a), .int .u64 150]), .iface 148 (.agg #[.pointer (some ⟨7, 42, none⟩)])] w fun e w' => ToldE W0 t b e w' := by
 have h66 := @run_callFunc_extern Tryz.prog 92 _ ReflectliteType.typeOf Tryz.func92 (by kernel_rfl) (by kernel_rfl) (by kernel_rfl) (by kernel_rfl)
 have h156 := @run_callFunc_extern Tryz.prog 181 _ (ReflectliteType.relation "AssignableTo" ReflectliteType.assignableTo) Tryz.func181 (by kernel_rfl) (by kernel_rfl) (by kernel_rfl) (by kernel_rfl)
 have h59 := @run_callFunc_extern Tryz.prog 63 _ (fun args => ReflectliteValue.unpack (args.getD 0 (.tuple #[]))) Tryz.func63 (by kernel_rfl) (by kernel_rfl) (by kernel_rfl) (by kernel_rfl)
 have h77 := @run_callFunc_extern Tryz.prog 93 _ (ReflectliteValue.method (ReflectliteValue.valueError "reflectlite.Value.Elem" 0) ReflectliteValue.elem) Tryz.func93 (by kernel_rfl) (by kernel_rfl) (by kernel_rfl) (by kernel_rfl)
 have h78 := @run_callFunc_extern Tryz.prog 94 _ ReflectliteValue.set Tryz.func94 (by kernel_rfl) (by kernel_rfl) (by kernel_rfl) (by kernel_rfl)
 have tI := typeOfI; have tF := typeOfF; have tE := typeOfE
 have mA := mAssignableTo; have mUI := mUnwI; have mUF := mUnwF
 have aI := ToE.assignI; have aF := ToE.assignF; have aE := ToE.assignE
 have nI := noAsI; have nF := noAsF; have nE := noAsE
 have uI := unI; have uF := unF; have uE := noUnE; have ulE := noUnlE
 have vT := ToE.valueOfT
 have htl := World.lt_of_cell ht0
 have hal := World.lt_of_cell ha
 have ht1 : W0.cell? t = some old := by rw [hW0, World.cell?_alloc_lt _ _ t htl]; exact ht0
 have hf1 : W0.frozen? t = false := by rw [hW0, World.frozen?_alloc_old _ _ t (Nat.ne_of_lt htl)]; exact hf0
 have el := ToE.elemV a t W0 (by rw [hW0, World.cell?_alloc_lt _ _ a hal]; exact ha)
 have bx0 : W0.cell? ⟨w.heap.size, 0, none⟩ = some (.pointer (some ⟨7, 77, none⟩)) := by rw [hW0]; simp
 have bx1 : W0.cell? ⟨w.heap.size, 1, none⟩ = some (.pointer (some a)) := by rw [hW0]; simp
 have bx2 : W0.cell? ⟨w.heap.size, 2, none⟩ = some (.int .u64 150) := by rw [hW0]; simp
 have HE : Aside0 (EV W0 v ins b) := ⟨by rw [hW0]; exact EV_keep (below_alloc (Below.refl _ _) _) he⟩
 have HT : Aside0 (t.block < W0.heap.size ∧ W0.cell? t = some old ∧ W0.frozen? t = false) := ⟨by rw [hW0]; simp; omega, ht1, hf1⟩
 have HW : Aside0 (W0 = (w.alloc (.cells #[.pointer (some ⟨7, 77, none⟩), .pointer (some a), .int .u64 150] 113))) := ⟨hW0⟩
 clear he ht0 hf0 ha htl hal ht1 hf1 hW0
 go_enter Tryz.func66, Tryz.ntmps66
 go_wp2
 rw [← HW.out]
 go_loopg [0] (ins.length + 1) (fun k p wr => wr = W0 ∧ ∃ xs b', (xs.length = k ∧ (∃ m, b' = .errno m) ∨ xs.length + 1 = k) ∧ b'.code = b.code ∧ EV W0 p xs b')
 case atStart => exact ⟨rfl, ins, b, Or.inr rfl, rfl, HE.out⟩
 case round =>
  obtain ⟨rfl, xs, b', hk, hb, hv⟩ := hrel
  have HK : Aside0 (xs.length = gk ∧ (∃ m, b' = .errno m) ∨ xs.length + 1 = gk) := ⟨hk⟩
  have HB : Aside0 (b'.code = b.code) := ⟨hb⟩
  clear hk hb
  rcases xs with _ | ⟨ys, xs⟩
  ·cases b' with
   | errno m =>
    simp only [EV, EB] at hv
    subst hv
    have st := ToE.setT t ⟨wr.heap.size, 0, none⟩ m old (wr.alloc (.cells #[.int .i64 m] 42))
     (by rw [World.cell?_alloc_at _ _ _ _ (by simp)]; rfl)
     (by rw [World.cell?_alloc_lt _ _ t HT.out.1]; exact HT.out.2.1)
     (by rw [World.frozen?_alloc_old _ _ t (Nat.ne_of_lt HT.out.1)]; exact HT.out.2.2)
    go_wp2
    go_ret
    have hb := HB.out
    exact ⟨rfl, by rw [← hb]; rfl⟩
   | fault m x =>
    obtain ⟨g, rfl, hg⟩ := hv
    have HG : Aside0 (wr.heap[g]? = some (.cells #[.int .i64 m, .int .i64 x] 84 (0, 0))) := ⟨hg⟩
    clear hg
    go_wp2_with (go_at_call 175; refine (unw_fault g m x _ HG.out).mono ?_; rintro e w' ⟨rfl, rfl⟩)
    go_roundg 0
    case measure => have := HK.out; simp at this; omega
    case rel => exact ⟨rfl, [], .errno m, Or.inl ⟨rfl, _, rfl⟩, HB.out, rfl⟩
  ·obtain ⟨g, ws, err, rfl, hg, hws, hv'⟩ := hv
   obtain ⟨ut, ux, rfl⟩ := EV_iface hv'
   have HG : Aside0 (wr.heap[g]? = some (.cells #[ws, .iface ut ux] 81 (0, 0)) ∧ EV wr (.iface ut ux) xs b') := ⟨hg, hv'⟩
   clear hg hws hv'
   go_wp2_with (go_at_call 173; refine (unw_inside g ws (.iface ut ux) _ HG.out.1).mono ?_; rintro e w' ⟨rfl, rfl⟩)
   go_roundg (gk - 1)
   case measure => have := HK.out; simp at this; omega
   case rel => exact ⟨rfl, xs, b', by have := HK.out; rcases this with ⟨h1, h2⟩ | h1 <;> simp at h1 <;> first | exact Or.inl ⟨by omega, h2⟩ | exact Or.inr (by omega), HB.out, HG.out.2⟩
end As
end Go.Proofs.YtkobpbbegalfpaaGreatDoor
namespace Go.Proofs.YtkobpbbegalfpaaGreatDoor
open Go.RowKit Go.Extern.Stop Go.Stop Go.Extern YtkobpbbegalfpaaGreatDoorW.PrintWords YtkobpbbegalfpaaGreatDoorW.PrintLast YtkobpbbegalfpaaGreatDoorW.PrintMore
set_option linter.unusedVariables false
set_option linter.unusedSimpArgs false
namespace As
def ErrT (w : World) : Prop := w.cell? ⟨0, 0, none⟩ = some (.iface 148 (.agg #[.pointer (some ⟨7, 29, none⟩)]))
theorem ErrT.below {w w' : World} (h : ErrT w) (hb : Below w.heap.size w w') : ErrT w' := by
 have hlt : 0 < w.heap.size := World.lt_of_cell h
 unfold ErrT World.cell? at *
 rw [hb.block 0 hlt]; exact h
def SeenE (b : Base) (tb : Nat) (r : Bool) (w' : World) : Prop := r = true ∧ w'.cell? ⟨tb, 0, none⟩ = some (.int .i64 b.code)
theorem seenE {W0 w' : World} {b : Base} {tb : Nat} {old : Value} {e : Ending} (ht : W0.heap[tb]? = some (.cells #[old] 42 (0, 0))) (h : ToldE W0 ⟨tb, 0, none⟩ b e w') :
  ∃ r, e = .returned (.bool r) ∧ Aside0 (Keeps (fun k => k = tb) W0 w' ∧ SeenE b tb r w') := by
 obtain ⟨rfl, rfl⟩ := h
 have ht' := blk_alloc ht (.cells #[.int .i64 b.code] 42 (0, 0))
 exact ⟨_, rfl, ⟨Keeps.setCell (ok := fun k => k = tb) ((Keeps.refl _ _).alloc _) (p := ⟨tb, 0, none⟩) rfl _, rfl, (blk_cell (blk_set ht' 0 _) 0).trans rfl⟩⟩
set_option maxHeartbeats 4000000 in
theorem as_E (v : Value) (ins : List (List ByteArray)) (b : Base) (tb : Nat) (old : Value) (w : World) (he : EV w v ins b)
  (ht : w.heap[tb]? = some (.cells #[old] 42 (0, 0))) (hg : ErrT w) :
  Calls Tryz.prog 44 #[v, .iface 77 (.pointer (some ⟨tb, 0, none⟩))] w fun e w' => ∃ r, e = .returned (.bool r) ∧ Aside0 (Keeps (fun k => k = tb) w w' ∧ SeenE b tb r w') := by
 have h59 := @run_callFunc_extern Tryz.prog 63 _ (fun args => ReflectliteValue.unpack (args.getD 0 (.tuple #[]))) Tryz.func63 (by kernel_rfl) (by kernel_rfl) (by kernel_rfl) (by kernel_rfl)
 have h60 := @run_callFunc_extern Tryz.prog 64 _ (ReflectliteValue.methodAny (ReflectliteValue.valueError "reflectlite.Value.Type" 0) (fun t _ _ _ => ReflectliteType.toType t)) Tryz.func64 (by kernel_rfl) (by kernel_rfl) (by kernel_rfl) (by kernel_rfl)
 have h61 := @run_callFunc_extern Tryz.prog 65 _ (ReflectliteValue.method (ReflectliteValue.valueError "reflectlite.Value.IsNil" 0) ReflectliteValue.isNil) Tryz.func65 (by kernel_rfl) (by kernel_rfl) (by kernel_rfl) (by kernel_rfl)
 have h141 := @run_callFunc_extern Tryz.prog 168 _ (ReflectliteType.abiMethod fun t => do pure (.int .u8 (← Rtype.kind t))) Tryz.func168 (by kernel_rfl) (by kernel_rfl) (by kernel_rfl) (by kernel_rfl)
 have h158 := @run_callFunc_extern Tryz.prog 183 _ (ReflectliteType.method ReflectliteType.elem) Tryz.func183 (by kernel_rfl) (by kernel_rfl) (by kernel_rfl) (by kernel_rfl)
 have h159 := @run_callFunc_extern Tryz.prog 184 _ (ReflectliteType.relation "Implements" ReflectliteType.implements_) Tryz.func184 (by kernel_rfl) (by kernel_rfl) (by kernel_rfl) (by kernel_rfl)
 have vP := ToE.valueOfP; have tP := ToE.typeP; have kP := ToE.kindP; have kT := ToE.kindT
 have eP := ToE.elemP; have iT := ToE.implementsT
 have mK := mKind; have mE := mElem; have mI := mImplements
 have htl : tb < w.heap.size := by
  rcases Nat.lt_or_ge tb w.heap.size with h | h
  ·exact h
  ·rw [Array.getElem?_eq_none h] at ht; cases ht
 have hlt : 0 < w.heap.size := World.lt_of_cell hg
 obtain ⟨W2, hW2⟩ : ∃ W2, W2 = ((w.alloc (.cells #[.pointer (some ⟨tb, 0, none⟩)] 77)).alloc (.cells #[.pointer (some ⟨7, 77, none⟩), .pointer (some ⟨w.heap.size, 0, none⟩), .int .u64 150] 113)) := ⟨_, rfl⟩
 have B2 : Below w.heap.size w W2 := by rw [hW2]; exact below_alloc (below_alloc (Below.refl _ _) _) _
 have nP := ToE.isNilP ⟨w.heap.size, 0, none⟩ ⟨tb, 0, none⟩ ((w.alloc (.cells #[.pointer (some ⟨tb, 0, none⟩)] 77)).alloc (.cells #[.pointer (some ⟨7, 77, none⟩), .pointer (some ⟨w.heap.size, 0, none⟩), .int .u64 150] 113)) (by rw [World.cell?_alloc_lt _ _ ⟨w.heap.size, 0, none⟩ (by simp)]; simp)
 have hg2 : ((w.alloc (.cells #[.pointer (some ⟨tb, 0, none⟩)] 77)).alloc (.cells #[.pointer (some ⟨7, 77, none⟩), .pointer (some ⟨w.heap.size, 0, none⟩), .int .u64 150] 113)).cell? ⟨0, 0, none⟩ = some (.iface 148 (.agg #[.pointer (some ⟨7, 29, none⟩)])) := by rw [← hW2]; exact hg.below B2
 have HT : Aside0 (w.heap[tb]? = some (.cells #[old] 42 (0, 0)) ∧ tb < w.heap.size) := ⟨ht, htl⟩
 have htW : W2.heap[tb]? = some (.cells #[old] 42 (0, 0)) := by rw [B2.block tb htl]; exact ht
 have HC : Aside0 (Calls Tryz.prog 66 #[v, .iface 77 (.pointer (some ⟨tb, 0, none⟩)), (.agg #[.pointer (some ⟨7, 77, none⟩), .pointer (some ⟨w.heap.size, 0, none⟩), .int .u64 150]), .iface 148 (.agg #[.pointer (some ⟨7, 42, none⟩)])] W2 fun e w' => ∃ r, e = .returned (.bool r) ∧ Aside0 (Keeps (fun k => k = tb) w w' ∧ SeenE b tb r w')) :=
  ⟨(as2_E v ins b ⟨tb, 0, none⟩ ⟨w.heap.size, 0, none⟩ old W2 _ rfl (EV_keep B2 he)
   ((blk_cell htW 0).trans rfl)
   (blk_frozen htW _)
   (by rw [hW2, World.cell?_alloc_lt _ _ ⟨w.heap.size, 0, none⟩ (by simp)]; simp)).mono fun e w' hT => by
    obtain ⟨r, hr, hk⟩ := seenE (blk_alloc htW _) hT
    exact ⟨r, hr, ⟨(((Keeps.refl _ w).below B2).alloc _).trans hk.out.1, hk.out.2⟩⟩⟩
 have HW : Aside0 (W2 = ((w.alloc (.cells #[.pointer (some ⟨tb, 0, none⟩)] 77)).alloc (.cells #[.pointer (some ⟨7, 77, none⟩), .pointer (some ⟨w.heap.size, 0, none⟩), .int .u64 150] 113)) ∧ Below w.heap.size w W2) := ⟨hW2, B2⟩
 obtain ⟨ut, ux, rfl⟩ := EV_iface he
 clear he ht hg htl hlt hW2 B2 htW
 go_enter Tryz.func44, Tryz.ntmps44
 go_wp2_with (go_at_call 66; rw [← HW.out.1]; refine HC.out.mono ?_; rintro e w' ⟨r, rfl, hT⟩)
 go_ret
 exact ⟨r, rfl, hT⟩
theorem code_nil (w : World) : Calls Tryz.prog 24 #[.nilIface] w fun e w' => e = .returned (.int .i64 0) ∧ Below w.heap.size w w' := by
 have B0 : Aside0 (Below w.heap.size w (w.alloc (.cells #[.int .i64 0] 42))) := ⟨below_alloc (Below.refl _ _) _⟩
 go_enter Tryz.func24, Tryz.ntmps24
 go_wp2
 go_ret
 exact ⟨rfl, B0.out⟩
set_option maxHeartbeats 4000000 in
theorem code_calls (v : Value) (ins : List (List ByteArray)) (b : Base) (w : World) (he : EV w v ins b) (hg : ErrT w) :
  Calls Tryz.prog 24 #[v] w fun e w' => e = .returned (.int .i64 b.code) ∧ Below w.heap.size w w' := by
 have B0 : Below w.heap.size w (w.alloc (.cells #[.int .i64 0] 42)) := below_alloc (Below.refl _ _) _
 have HC : Aside0 (Calls Tryz.prog 44 #[v, .iface 77 (.pointer (some ⟨w.heap.size, 0, none⟩))] (w.alloc (.cells #[.int .i64 0] 42)) fun e w' => e = .returned (.bool true) ∧ w'.cell? ⟨w.heap.size, 0, none⟩ = some (.int .i64 b.code) ∧ Aside0 (Below w.heap.size w w')) :=
  ⟨(as_E v ins b w.heap.size _ _ (EV_keep B0 he) (heap_alloc_new w _) (hg.below B0)).mono fun e w' ⟨r, hr, hk⟩ => by
   obtain ⟨h1, rfl, h2⟩ := hk.out
   exact ⟨hr, h2, ⟨B0.trans (h1.toBelow B0.size (fun k hk => by omega))⟩⟩⟩
 obtain ⟨ut, ux, rfl⟩ := EV_iface he
 clear he hg B0
 go_enter Tryz.func24, Tryz.ntmps24
 go_wp2_with (go_at_call 44; refine HC.out.mono ?_; rintro e w' ⟨rfl, hc, hb⟩)
 go_ret
 exact ⟨rfl, hb.out⟩
end As
end Go.Proofs.YtkobpbbegalfpaaGreatDoor
namespace Go.Proofs.YtkobpbbegalfpaaGreatDoor
open Go.RowKit YtkobpbbegalfpaaGreatDoorW.PrintWords YtkobpbbegalfpaaGreatDoorW.PrintLast YtkobpbbegalfpaaGreatDoorW.PrintMore PParseBodies
set_option linter.unusedVariables false
set_option linter.unusedSimpArgs false
set_option maxRecDepth 100000
def ErrIs (w : World) (v : Value) : Option (Int × Int) → Prop
 | none => v = .nilIface
 | some q => ∃ t p, v = .iface t p ∧ As.EV w v [[layB]] (.fault q.1 q.2)
def exA : SC := ⟨1, ⟨0, 0, 80, 24⟩, 1, []⟩
theorem ex_ok : textA ⟨#[98, 50, 53, 101, 44, 56, 48, 120, 50, 52, 44, 48, 44, 48, 44, 49]⟩ = .ok exA := by kernel_rfl
theorem ex_no : textA ⟨#[98, 50, 53, 100, 44, 56, 48, 120, 50, 52, 44, 48, 44, 48, 44, 49]⟩ = .error (4, 0) := by kernel_rfl
theorem inside_ev {w : World} {base g' g : Nat} {no pl : Int} (h : Inside w base g' (.iface 82 (.pointer (some ⟨g, 0, none⟩))) [layB]) (hg : w.heap[g]? = some (.cells #[.int .i64 no, .int .i64 pl] 84 (0, 0))) :
  As.EV w (.iface 78 (.pointer (some ⟨g', 0, none⟩))) [[layB]] (.fault no pl) := by
 obtain ⟨_, v, h1, h2⟩ := h
 exact ⟨g', v, _, rfl, h1, Kd.R_lower h2 (Nat.zero_le _), ⟨g, rfl, hg⟩⟩
theorem ex1_calls (w : World) (hT : NumT w) (hE : NumE w) : Calls Tryz.prog 11 #[.string ⟨#[98, 50, 53, 101, 44, 56, 48, 120, 50, 52, 44, 48, 44, 48, 44, 49]⟩] w fun e w' => (∃ A c, e = .returned (.tuple #[.agg #[.int .u8 1, .int .i64 0, .int .i64 0, .int .i64 80, .int .i64 24, .int .i64 1, .slice A 0 c], .nilIface])) ∧ Below w.heap.size w w' := by
 have h := textA_calls w ⟨#[98, 50, 53, 101, 44, 56, 48, 120, 50, 52, 44, 48, 44, 48, 44, 49]⟩ (by decide) hT hE
 rw [ex_ok] at h
 refine h.mono ?_
 rintro e w' ⟨v, rfl, hR, hb⟩
 obtain ⟨A, cp, rfl⟩ := Kd.R_slice hR
 exact ⟨⟨A, cp, rfl⟩, hb⟩
theorem ex2_calls (w : World) (hT : NumT w) (hE : NumE w) : Calls Tryz.prog 11 #[.string ⟨#[98, 50, 53, 100, 44, 56, 48, 120, 50, 52, 44, 48, 44, 48, 44, 49]⟩] w fun e w' => ∃ p, e = .returned (.tuple #[.agg zeroA, .iface 78 p]) ∧ As.EV w' (.iface 78 p) [[layB]] (.fault 4 0) ∧ Below w.heap.size w w' := by
 have h := textA_calls w ⟨#[98, 50, 53, 100, 44, 56, 48, 120, 50, 52, 44, 48, 44, 48, 44, 49]⟩ (by decide) hT hE
 rw [ex_no] at h
 refine h.mono ?_
 rintro e w' ⟨g', g, rfl, hin, hg, hb⟩
 exact ⟨_, rfl, inside_ev hin hg, hb⟩
theorem awake_calls (w : World) (hT : NumT w) (hE : NumE w) (hg : As.ErrT w) : Calls Tryz.prog 8 #[] w fun e w' => e = .returned (.bool true) ∧ Below w.heap.size w w' := by
 have H1 := ak (ex1_calls w hT hE)
 have H2 : Aside0 (∀ W, Below w.heap.size w W → Calls Tryz.prog 11 #[.string ⟨#[98, 50, 53, 100, 44, 56, 48, 120, 50, 52, 44, 48, 44, 48, 44, 49]⟩] W fun e w' => ∃ p, e = .returned (.tuple #[.agg zeroA, .iface 78 p]) ∧ As.EV w' (.iface 78 p) [[layB]] (.fault 4 0) ∧ Below W.heap.size W w') := ⟨fun W hb => ex2_calls W (hT.below hb) (hE.below hb)⟩
 have HC : Aside0 (∀ W p, Below w.heap.size w W → As.EV W (.iface 78 p) [[layB]] (.fault 4 0) → Calls Tryz.prog 24 #[.iface 78 p] W fun e w' => e = .returned (.int .i64 4) ∧ Below W.heap.size W w') := ⟨fun W p hb h => As.code_calls _ _ _ W h (hg.below hb)⟩
 clear hT hE hg
 go_enter Tryz.func8, Tryz.ntmps8
 go_wp2_with fail
 with_reducible refine H1.out.mono ?_
 rintro e w1 ⟨⟨A, cp, rfl⟩, hb1⟩
 replace hb1 := ak hb1
 go_wp2_with fail
 obtain ⟨W2, hW2⟩ : ∃ W2, W2 = w1.alloc (.cells #[.int .u8 1, .int .i64 0, .int .i64 0, .int .i64 80, .int .i64 24, .int .i64 1, .slice A 0 cp] 27) := ⟨_, rfl⟩
 rw [← hW2]
 have HB2 : Aside0 (Below w.heap.size w W2) := ⟨by rw [hW2]; exact Below.alloc hb1.out hb1.out.size _⟩
 have HC2 : Aside0 (W2.heap[w1.heap.size]? = some (.cells #[.int .u8 1, .int .i64 0, .int .i64 0, .int .i64 80, .int .i64 24, .int .i64 1, .slice A 0 cp] 27 (0, 0))) := ⟨by rw [hW2]; exact heap_alloc_new w1 _⟩
 clear hW2
 refine (H2.out W2 HB2.out).mono ?_
 rintro e w3 ⟨p, rfl, hev, hb3⟩
 have HB3 : Aside0 (Below w.heap.size w w3) := ⟨HB2.out.trans (hb3.mono HB2.out.size)⟩
 have HC3 : Aside0 (w3.heap[w1.heap.size]? = some (.cells #[.int .u8 1, .int .i64 0, .int .i64 0, .int .i64 80, .int .i64 24, .int .i64 1, .slice A 0 cp] 27 (0, 0))) := ⟨(hb3.block _ (blk_lt HC2.out)).trans HC2.out⟩
 have hc3 : (w3.alloc (.cells #[.int .u8 0, .int .i64 0, .int .i64 0, .int .i64 0, .int .i64 0, .int .i64 0, .slice none 0 0] 27)).heap[w1.heap.size]? = some (.cells #[.int .u8 1, .int .i64 0, .int .i64 0, .int .i64 80, .int .i64 24, .int .i64 1, .slice A 0 cp] 27 (0, 0)) := blk_alloc HC3.out _
 have y0 : (w3.alloc (.cells #[.int .u8 0, .int .i64 0, .int .i64 0, .int .i64 0, .int .i64 0, .int .i64 0, .slice none 0 0] 27)).cell? ⟨w1.heap.size, 0, none⟩ = some (.int .u8 1) := (blk_cell hc3 _).trans rfl
 have y1 : (w3.alloc (.cells #[.int .u8 0, .int .i64 0, .int .i64 0, .int .i64 0, .int .i64 0, .int .i64 0, .slice none 0 0] 27)).cell? ⟨w1.heap.size, 5, none⟩ = some (.int .i64 1) := (blk_cell hc3 _).trans rfl
 have y2 : (w3.alloc (.cells #[.int .u8 0, .int .i64 0, .int .i64 0, .int .i64 0, .int .i64 0, .int .i64 0, .slice none 0 0] 27)).cell? ⟨w1.heap.size, 3, none⟩ = some (.int .i64 80) := (blk_cell hc3 _).trans rfl
 have HEV := ak hev
 clear hc3 hev hb3
 go_wp2_with (go_at_call 24; refine (HC.out _ p (Below.alloc HB3.out HB3.out.size _) (As.EV_keep (below_alloc (Below.refl _ _) _) HEV.out)).mono ?_; rintro e w5 ⟨rfl, hb5⟩)
 go_ret
 exact ⟨rfl, (Below.alloc HB3.out HB3.out.size _).trans (hb5.mono (Below.alloc HB3.out HB3.out.size _).size)⟩
end Go.Proofs.YtkobpbbegalfpaaGreatDoor
