/-
 errors.As at the targets *api.Errno and **api.Fault, for errors in words. (printed by wip/tools/gen_as.py)
-/
import Derived.Test.YtkobpbbegalfpaaGreatDoorPsBase
import Derived.LaidEql
import Derived.Stop.Asserts
import Derived.Deep.LoopGhost
namespace Go.Proofs.YtkobpbbegalfpaaGreatDoor
open Go.RowKit Go.Extern.Stop Go.Stop Go.Extern Go.Proofs.YtkobpbbegalfpaaGreatDoorW.PrintWords Go.Proofs.YtkobpbbegalfpaaGreatDoorW.PrintLast Go.Proofs.YtkobpbbegalfpaaGreatDoorW.PrintMore
set_option linter.unusedVariables false
set_option linter.unusedSimpArgs false
namespace As

/-- What an error is at bottom. -/
inductive Base where
 | errno (e : Int)
 | fault (e at_ : Int)
def EB (w : World) (v : Value) : Base → Prop
 | .errno e => v = .iface 42 (.int .i64 e)
 | .fault e a => ∃ g, v = .iface 82 (.pointer (some ⟨g, 0, none⟩)) ∧ w.heap[g]? = some (.cells #[.int .i64 e, .int .i64 a] 84 (0, 0))
/-- An error in words, the outermost ones first. -/
def EV (w : World) : Value → List (List ByteArray) → Base → Prop
 | v, [], b => EB w v b
 | v, xs :: ins, b => ∃ g ws err, v = .iface 78 (.pointer (some ⟨g, 0, none⟩)) ∧ w.heap[g]? = some (.cells #[ws, err] 81 (0, 0)) ∧ Kd.string.R 9 w 0 (fun _ => True) ws xs ∧ EV w err ins b
theorem EB_iface {w : World} {v : Value} {b : Base} (h : EB w v b) : ∃ t x, v = .iface t x := by
 cases b with
 | errno e => exact ⟨_, _, h⟩
 | fault e a => obtain ⟨g, rfl, _⟩ := h; exact ⟨_, _, rfl⟩
theorem EV_iface {w : World} {v : Value} {ins : List (List ByteArray)} {b : Base} (h : EV w v ins b) : ∃ t x, v = .iface t x := by
 cases ins with
 | nil => exact EB_iface h
 | cons xs ins => obtain ⟨g, ws, err, rfl, _⟩ := h; exact ⟨_, _, rfl⟩
theorem EV_keep {w w' : World} (hk : Below w.heap.size w w') {v : Value} {ins : List (List ByteArray)} {b : Base} (h : EV w v ins b) : EV w' v ins b := by
 have kept : ∀ g o, w.heap[g]? = some o → w'.heap[g]? = some o := fun g o hg => by
  have hlt : g < w.heap.size := by
   rcases Nat.lt_or_ge g w.heap.size with h1 | h1
   ·exact h1
   ·rw [Array.getElem?_eq_none h1] at hg; cases hg
  rw [hk.block g hlt]; exact hg
 induction ins generalizing v with
 | nil =>
  cases b with
  | errno e => exact h
  | fault e a => obtain ⟨g, rfl, hg⟩ := h; exact ⟨g, rfl, kept _ _ hg⟩
 | cons xs ins ih =>
  obtain ⟨g, ws, err, rfl, hg, hr, he⟩ := h
  exact ⟨g, ws, err, rfl, kept _ _ hg, Kd.R_below hr hk, ih he⟩


theorem unw_inside (g : Nat) (ws err : Value) (w : World) (hg : w.heap[g]? = some (.cells #[ws, err] 81 (0, 0))) :
  Calls Tryz.prog 173 #[.pointer (some ⟨g, 0, none⟩)] w fun e w' => e = .returned err ∧ w' = w := by
 have c1 : w.cell? ⟨g, 1, none⟩ = some err := (blk_cell hg 1).trans rfl
 clear hg
 go_enter Tryz.func173, Tryz.ntmps173
 go_wp2
 go_ret
 exact ⟨rfl, rfl⟩
theorem unw_fault (g : Nat) (n a : Int) (w : World) (hg : w.heap[g]? = some (.cells #[.int .i64 n, .int .i64 a] 84 (0, 0))) :
  Calls Tryz.prog 175 #[.pointer (some ⟨g, 0, none⟩)] w fun e w' => e = .returned (.iface 42 (.int .i64 n)) ∧ w' = w := by
 have c0 : w.cell? ⟨g, 0, none⟩ = some (.int .i64 n) := (blk_cell hg 0).trans rfl
 clear hg
 go_enter Tryz.func175, Tryz.ntmps175
 go_wp2
 go_ret
 exact ⟨rfl, rfl⟩
/-- errors.As(nil, target). -/
theorem as_nil (t : Value) (w : World) : Calls Tryz.prog 44 #[.nilIface, t] w fun e w' => e = .returned (.bool false) ∧ w' = w := by
 go_enter Tryz.func44, Tryz.ntmps44
 go_wp2
 go_ret
 exact ⟨rfl, rfl⟩

theorem rlm (z : Sem Value) (f : TypeId → Addr → Nat → Nat → Sem Value) (v : Value) :
  ReflectliteValue.method z f #[v] = (do match ← ReflectliteValue.parts v with | none => z | some (t, a, fl) => f t a fl (fl % 32)) := rfl
theorem rls (v x : Value) : ReflectliteValue.set #[v, x] = (do
  let (some (dst, a, fl), some (src, b, _)) := (← ReflectliteValue.parts v, ← ReflectliteValue.parts x)
   | unsupported (.noEntry "extern/(internal/reflectlite.Value).Set.zeroValue")
  if fl / ReflectliteValue.flagAddr % 2 == 0 then unsupported (.noEntry "extern/(internal/reflectlite.Value).Set.unaddressable")
  let val ← loadVar src b
  if ← Rtype.directlyAssignable dst src then storeVar dst a val
  else if ← Rtype.implements dst src then
   if (← Rtype.kind src) == 20 then
    match val with
    | .nilIface => unsupported (.noEntry "extern/reflectlite: a nil value of one interface type handed on as a value of another")
    | _ => storeVar dst a val
   else storeVar dst a (.iface src val)
  else panicString ("reflectlite.Set: value of type " ++ (← Rtype.spelt src) ++ " is not assignable to type " ++ (← Rtype.spelt dst))
  pure (.tuple #[])) := rfl
theorem mKind (h : Value) (w : World) : (Go.method 345 148 (.agg #[h]) "Kind").run Tryz.prog w = .ok (168, h) w := by kernel_rfl
theorem mElem (h : Value) (w : World) : (Go.method 345 148 (.agg #[h]) "Elem").run Tryz.prog w = .ok (183, .agg #[h]) w := by kernel_rfl
theorem mImplements (h : Value) (w : World) : (Go.method 345 148 (.agg #[h]) "Implements").run Tryz.prog w = .ok (184, .agg #[h]) w := by kernel_rfl
theorem mAssignableTo (h : Value) (w : World) : (Go.method 345 148 (.agg #[h]) "AssignableTo").run Tryz.prog w = .ok (181, .agg #[h]) w := by kernel_rfl
theorem mUnwI (h : Option Addr) (w : World) : (Go.method 345 78 (.pointer h) "Unwrap").run Tryz.prog w = .ok (173, .pointer h) w := by kernel_rfl
theorem mUnwF (h : Option Addr) (w : World) : (Go.method 345 82 (.pointer h) "Unwrap").run Tryz.prog w = .ok (175, .pointer h) w := by kernel_rfl
theorem typeOfI (v : Value) (w : World) : (ReflectliteType.typeOf #[.iface 78 v]).run Tryz.prog w = .ok (.iface 148 (.agg #[.pointer (some ⟨7, 78, none⟩)])) w := by kernel_rfl
theorem noAsI (v : Value) (w : World) : (Instr.typeAssert (.iface 78 v) 29 153 true).run Tryz.prog w = .ok (.tuple #[.nilIface, .bool false]) w := run_typeAssert_lacksB Tryz.underlying153 (by kernel_rfl) (by kernel_rfl) v 29 w
theorem typeOfF (v : Value) (w : World) : (ReflectliteType.typeOf #[.iface 82 v]).run Tryz.prog w = .ok (.iface 148 (.agg #[.pointer (some ⟨7, 82, none⟩)])) w := by kernel_rfl
theorem noAsF (v : Value) (w : World) : (Instr.typeAssert (.iface 82 v) 29 153 true).run Tryz.prog w = .ok (.tuple #[.nilIface, .bool false]) w := run_typeAssert_lacksB Tryz.underlying153 (by kernel_rfl) (by kernel_rfl) v 29 w
theorem typeOfE (v : Value) (w : World) : (ReflectliteType.typeOf #[.iface 42 v]).run Tryz.prog w = .ok (.iface 148 (.agg #[.pointer (some ⟨7, 42, none⟩)])) w := by kernel_rfl
theorem noAsE (v : Value) (w : World) : (Instr.typeAssert (.iface 42 v) 29 153 true).run Tryz.prog w = .ok (.tuple #[.nilIface, .bool false]) w := run_typeAssert_lacksB Tryz.underlying153 (by kernel_rfl) (by kernel_rfl) v 29 w
theorem unI (v : Value) (w : World) : (Instr.typeAssert (.iface 78 v) 29 156 true).run Tryz.prog w = .ok (.tuple #[.iface 78 v, .bool true]) w := run_typeAssert_hasB Tryz.underlying156 (by kernel_rfl) v 29 w
theorem unF (v : Value) (w : World) : (Instr.typeAssert (.iface 82 v) 29 156 true).run Tryz.prog w = .ok (.tuple #[.iface 82 v, .bool true]) w := run_typeAssert_hasB Tryz.underlying156 (by kernel_rfl) v 29 w
theorem noUnE (v : Value) (w : World) : (Instr.typeAssert (.iface 42 v) 29 156 true).run Tryz.prog w = .ok (.tuple #[.nilIface, .bool false]) w := run_typeAssert_lacksB Tryz.underlying156 (by kernel_rfl) (by kernel_rfl) v 29 w
theorem noUnlE (v : Value) (w : World) : (Instr.typeAssert (.iface 42 v) 29 158 true).run Tryz.prog w = .ok (.tuple #[.nilIface, .bool false]) w := run_typeAssert_lacksB Tryz.underlying158 (by kernel_rfl) (by kernel_rfl) v 29 w

namespace ToF
theorem valueOfP (t : Addr) (w : World) : (ReflectliteValue.unpack (.iface 96 (.pointer (some t)))).run Tryz.prog w
  = .ok (.agg #[.pointer (some ⟨7, 96, none⟩), .pointer (some ⟨w.heap.size, 0, none⟩), .int .u64 150]) (w.alloc (.cells #[.pointer (some t)] 96)) := by kernel_rfl
theorem typeP (a : Addr) (w : World) : (ReflectliteValue.methodAny (ReflectliteValue.valueError "reflectlite.Value.Type" 0) (fun t _ _ _ => ReflectliteType.toType t) #[.agg #[.pointer (some ⟨7, 96, none⟩), .pointer (some a), .int .u64 150]]).run Tryz.prog w
  = .ok (.iface 148 (.agg #[.pointer (some ⟨7, 96, none⟩)])) w := by kernel_rfl
theorem kindP (w : World) : ((ReflectliteType.abiMethod fun t => (fun a : Nat => Value.int IntKind.u8 (a : Int)) <$> Rtype.kind t) #[.pointer (some ⟨7, 96, none⟩)]).run Tryz.prog w = .ok (.int .u8 22) w := by kernel_rfl
theorem kindT (w : World) : ((ReflectliteType.abiMethod fun t => (fun a : Nat => Value.int IntKind.u8 (a : Int)) <$> Rtype.kind t) #[.pointer (some ⟨7, 82, none⟩)]).run Tryz.prog w = .ok (.int .u8 22) w := by kernel_rfl
theorem partsP (a : Addr) (w : World) : (ReflectliteValue.parts (.agg #[.pointer (some ⟨7, 96, none⟩), .pointer (some a), .int .u64 150])).run Tryz.prog w = .ok (some (96, a, 150)) w := by kernel_rfl
theorem isNilP (a p : Addr) (W : World) (ha : W.cell? a = some (.pointer (some p))) :
  (ReflectliteValue.method (ReflectliteValue.valueError "reflectlite.Value.IsNil" 0) ReflectliteValue.isNil #[.agg #[.pointer (some ⟨7, 96, none⟩), .pointer (some a), .int .u64 150]]).run Tryz.prog W = .ok (.bool false) W := by
 rw [rlm]
 simp only [Sem.run_bind, partsP, Result.andThen]
 simp [ReflectliteValue.isNil, loadVar, isAgg, underlying, Tryz.underlying96, ha, Result.andThen]
theorem elemP (w : World) : (ReflectliteType.method ReflectliteType.elem #[.agg #[.pointer (some ⟨7, 96, none⟩)]]).run Tryz.prog w = .ok (.iface 148 (.agg #[.pointer (some ⟨7, 82, none⟩)])) w := by kernel_rfl
theorem implementsT (w : World) : (ReflectliteType.relation "Implements" ReflectliteType.implements_ #[.agg #[.pointer (some ⟨7, 82, none⟩)], .iface 148 (.agg #[.pointer (some ⟨7, 29, none⟩)])]).run Tryz.prog w = .ok (.bool true) w := by kernel_rfl
theorem elemOfP (w : World) : (Rtype.elem? 96).run Tryz.prog w = .ok (some 82) w := by kernel_rfl
theorem mkT (p : Addr) (w : World) : (ReflectliteValue.mk 82 p ReflectliteValue.flagAddr).run Tryz.prog w = .ok (.agg #[.pointer (some ⟨7, 82, none⟩), .pointer (some p), .int .u64 406]) w := by kernel_rfl
theorem elemV (a p : Addr) (W : World) (ha : W.cell? a = some (.pointer (some p))) :
  (ReflectliteValue.method (ReflectliteValue.valueError "reflectlite.Value.Elem" 0) ReflectliteValue.elem #[.agg #[.pointer (some ⟨7, 96, none⟩), .pointer (some a), .int .u64 150]]).run Tryz.prog W
   = .ok (.agg #[.pointer (some ⟨7, 82, none⟩), .pointer (some p), .int .u64 406]) W := by
 rw [rlm]
 simp only [Sem.run_bind, partsP, Result.andThen]
 simp [ReflectliteValue.elem, loadVar, isAgg, underlying, Tryz.underlying96, ha, Result.andThen, elemOfP, mkT]
theorem partsTa (a : Addr) (w : World) : (ReflectliteValue.parts (.agg #[.pointer (some ⟨7, 82, none⟩), .pointer (some a), .int .u64 406])).run Tryz.prog w = .ok (some (82, a, 406)) w := by kernel_rfl
theorem partsT (a : Addr) (w : World) : (ReflectliteValue.parts (.agg #[.pointer (some ⟨7, 82, none⟩), .pointer (some a), .int .u64 150])).run Tryz.prog w = .ok (some (82, a, 150)) w := by kernel_rfl
theorem valueOfT (e : Addr) (w : World) : (ReflectliteValue.unpack (.iface 82 (.pointer (some e)))).run Tryz.prog w
  = .ok (.agg #[.pointer (some ⟨7, 82, none⟩), .pointer (some ⟨w.heap.size, 0, none⟩), .int .u64 150]) (w.alloc (.cells #[.pointer (some e)] 82)) := by kernel_rfl
theorem directT (w : World) : (Rtype.directlyAssignable 82 82).run Tryz.prog w = .ok true w := by kernel_rfl
theorem setT (ta b : Addr) (e : Addr) (old : Value) (W : World) (hb : W.cell? b = some (.pointer (some e))) (ht : W.cell? ta = some old) (hf : W.frozen? ta = false) :
  (ReflectliteValue.set #[.agg #[.pointer (some ⟨7, 82, none⟩), .pointer (some ta), .int .u64 406], .agg #[.pointer (some ⟨7, 82, none⟩), .pointer (some b), .int .u64 150]]).run Tryz.prog W
   = .ok (.tuple #[]) (W.setCell ta (.pointer (some e))) := by
 rw [rls]
 simp only [Sem.run_bind, partsTa, partsT, Result.andThen]
 simp [ReflectliteValue.flagAddr, loadVar, isAgg, underlying, Tryz.underlying82, hb, Result.andThen, directT, storeVar, Value.cells, storeCells, Addr.add]
 rw [run_store Tryz.prog W ta _ _ (by rfl)]
 simp [ht, hf]
theorem assignI (w : World) : (ReflectliteType.relation "AssignableTo" ReflectliteType.assignableTo #[.agg #[.pointer (some ⟨7, 78, none⟩)], .iface 148 (.agg #[.pointer (some ⟨7, 82, none⟩)])]).run Tryz.prog w = .ok (.bool false) w := by kernel_rfl
theorem assignF (w : World) : (ReflectliteType.relation "AssignableTo" ReflectliteType.assignableTo #[.agg #[.pointer (some ⟨7, 82, none⟩)], .iface 148 (.agg #[.pointer (some ⟨7, 82, none⟩)])]).run Tryz.prog w = .ok (.bool true) w := by kernel_rfl
theorem assignE (w : World) : (ReflectliteType.relation "AssignableTo" ReflectliteType.assignableTo #[.agg #[.pointer (some ⟨7, 42, none⟩)], .iface 148 (.agg #[.pointer (some ⟨7, 82, none⟩)])]).run Tryz.prog w = .ok (.bool false) w := by kernel_rfl
end ToF

namespace ToE
theorem valueOfP (t : Addr) (w : World) : (ReflectliteValue.unpack (.iface 77 (.pointer (some t)))).run Tryz.prog w
  = .ok (.agg #[.pointer (some ⟨7, 77, none⟩), .pointer (some ⟨w.heap.size, 0, none⟩), .int .u64 150]) (w.alloc (.cells #[.pointer (some t)] 77)) := by kernel_rfl
theorem typeP (a : Addr) (w : World) : (ReflectliteValue.methodAny (ReflectliteValue.valueError "reflectlite.Value.Type" 0) (fun t _ _ _ => ReflectliteType.toType t) #[.agg #[.pointer (some ⟨7, 77, none⟩), .pointer (some a), .int .u64 150]]).run Tryz.prog w
  = .ok (.iface 148 (.agg #[.pointer (some ⟨7, 77, none⟩)])) w := by kernel_rfl
theorem kindP (w : World) : ((ReflectliteType.abiMethod fun t => (fun a : Nat => Value.int IntKind.u8 (a : Int)) <$> Rtype.kind t) #[.pointer (some ⟨7, 77, none⟩)]).run Tryz.prog w = .ok (.int .u8 22) w := by kernel_rfl
theorem kindT (w : World) : ((ReflectliteType.abiMethod fun t => (fun a : Nat => Value.int IntKind.u8 (a : Int)) <$> Rtype.kind t) #[.pointer (some ⟨7, 42, none⟩)]).run Tryz.prog w = .ok (.int .u8 2) w := by kernel_rfl
theorem partsP (a : Addr) (w : World) : (ReflectliteValue.parts (.agg #[.pointer (some ⟨7, 77, none⟩), .pointer (some a), .int .u64 150])).run Tryz.prog w = .ok (some (77, a, 150)) w := by kernel_rfl
theorem isNilP (a p : Addr) (W : World) (ha : W.cell? a = some (.pointer (some p))) :
  (ReflectliteValue.method (ReflectliteValue.valueError "reflectlite.Value.IsNil" 0) ReflectliteValue.isNil #[.agg #[.pointer (some ⟨7, 77, none⟩), .pointer (some a), .int .u64 150]]).run Tryz.prog W = .ok (.bool false) W := by
 rw [rlm]
 simp only [Sem.run_bind, partsP, Result.andThen]
 simp [ReflectliteValue.isNil, loadVar, isAgg, underlying, Tryz.underlying77, ha, Result.andThen]
theorem elemP (w : World) : (ReflectliteType.method ReflectliteType.elem #[.agg #[.pointer (some ⟨7, 77, none⟩)]]).run Tryz.prog w = .ok (.iface 148 (.agg #[.pointer (some ⟨7, 42, none⟩)])) w := by kernel_rfl
theorem implementsT (w : World) : (ReflectliteType.relation "Implements" ReflectliteType.implements_ #[.agg #[.pointer (some ⟨7, 42, none⟩)], .iface 148 (.agg #[.pointer (some ⟨7, 29, none⟩)])]).run Tryz.prog w = .ok (.bool true) w := by kernel_rfl
theorem elemOfP (w : World) : (Rtype.elem? 77).run Tryz.prog w = .ok (some 42) w := by kernel_rfl
theorem mkT (p : Addr) (w : World) : (ReflectliteValue.mk 42 p ReflectliteValue.flagAddr).run Tryz.prog w = .ok (.agg #[.pointer (some ⟨7, 42, none⟩), .pointer (some p), .int .u64 386]) w := by kernel_rfl
theorem elemV (a p : Addr) (W : World) (ha : W.cell? a = some (.pointer (some p))) :
  (ReflectliteValue.method (ReflectliteValue.valueError "reflectlite.Value.Elem" 0) ReflectliteValue.elem #[.agg #[.pointer (some ⟨7, 77, none⟩), .pointer (some a), .int .u64 150]]).run Tryz.prog W
   = .ok (.agg #[.pointer (some ⟨7, 42, none⟩), .pointer (some p), .int .u64 386]) W := by
 rw [rlm]
 simp only [Sem.run_bind, partsP, Result.andThen]
 simp [ReflectliteValue.elem, loadVar, isAgg, underlying, Tryz.underlying77, ha, Result.andThen, elemOfP, mkT]
theorem partsTa (a : Addr) (w : World) : (ReflectliteValue.parts (.agg #[.pointer (some ⟨7, 42, none⟩), .pointer (some a), .int .u64 386])).run Tryz.prog w = .ok (some (42, a, 386)) w := by kernel_rfl
theorem partsT (a : Addr) (w : World) : (ReflectliteValue.parts (.agg #[.pointer (some ⟨7, 42, none⟩), .pointer (some a), .int .u64 130])).run Tryz.prog w = .ok (some (42, a, 130)) w := by kernel_rfl
theorem valueOfT (e : Int) (w : World) : (ReflectliteValue.unpack (.iface 42 (.int .i64 e))).run Tryz.prog w
  = .ok (.agg #[.pointer (some ⟨7, 42, none⟩), .pointer (some ⟨w.heap.size, 0, none⟩), .int .u64 130]) (w.alloc (.cells #[.int .i64 e] 42)) := by kernel_rfl
theorem directT (w : World) : (Rtype.directlyAssignable 42 42).run Tryz.prog w = .ok true w := by kernel_rfl
theorem setT (ta b : Addr) (e : Int) (old : Value) (W : World) (hb : W.cell? b = some (.int .i64 e)) (ht : W.cell? ta = some old) (hf : W.frozen? ta = false) :
  (ReflectliteValue.set #[.agg #[.pointer (some ⟨7, 42, none⟩), .pointer (some ta), .int .u64 386], .agg #[.pointer (some ⟨7, 42, none⟩), .pointer (some b), .int .u64 130]]).run Tryz.prog W
   = .ok (.tuple #[]) (W.setCell ta (.int .i64 e)) := by
 rw [rls]
 simp only [Sem.run_bind, partsTa, partsT, Result.andThen]
 simp [ReflectliteValue.flagAddr, loadVar, isAgg, underlying, Tryz.underlying42, hb, Result.andThen, directT, storeVar, Value.cells, storeCells, Addr.add]
 rw [run_store Tryz.prog W ta _ _ (by rfl)]
 simp [ht, hf]
theorem assignI (w : World) : (ReflectliteType.relation "AssignableTo" ReflectliteType.assignableTo #[.agg #[.pointer (some ⟨7, 78, none⟩)], .iface 148 (.agg #[.pointer (some ⟨7, 42, none⟩)])]).run Tryz.prog w = .ok (.bool false) w := by kernel_rfl
theorem assignF (w : World) : (ReflectliteType.relation "AssignableTo" ReflectliteType.assignableTo #[.agg #[.pointer (some ⟨7, 82, none⟩)], .iface 148 (.agg #[.pointer (some ⟨7, 42, none⟩)])]).run Tryz.prog w = .ok (.bool false) w := by kernel_rfl
theorem assignE (w : World) : (ReflectliteType.relation "AssignableTo" ReflectliteType.assignableTo #[.agg #[.pointer (some ⟨7, 42, none⟩)], .iface 148 (.agg #[.pointer (some ⟨7, 42, none⟩)])]).run Tryz.prog w = .ok (.bool true) w := by kernel_rfl
end ToE
end As
end Go.Proofs.YtkobpbbegalfpaaGreatDoor
