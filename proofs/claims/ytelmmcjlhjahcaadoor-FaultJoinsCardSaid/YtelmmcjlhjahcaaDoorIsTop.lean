/-
  errors.Is of an error in words at a number (api.Errno).
-/
import Derived.Test.YtelmmcjlhjahcaaDoorAs
namespace Go.Proofs.YtelmmcjlhjahcaaDoor
open Go.RowKit Go.Extern.Stop Go.Stop Go.Extern Go.Proofs.YtelmmcjlhjahcaaDoorW.PrintWords Go.Proofs.YtelmmcjlhjahcaaDoorW.PrintLast Go.Proofs.YtelmmcjlhjahcaaDoorW.PrintMore
set_option linter.unusedVariables false
set_option linter.unusedSimpArgs false
set_option maxRecDepth 100000
namespace As
theorem isTypeOf (v : Value) (w : World) : (ReflectliteType.typeOf #[.iface 33 v]).run Tryd.prog w = .ok (.iface 139 (.agg #[.pointer (some ⟨9, 33, none⟩)])) w := by kernel_rfl
theorem callComp (w : World) : (callFunc 157 #[.agg #[.pointer (some ⟨9, 33, none⟩)]]).run Tryd.prog w = .ok (.value (.bool true)) w := by
  rw [@run_callFunc_extern Tryd.prog 157 _ (ReflectliteType.method fun t => do Rtype.noPackHeld "Comparable" t; pure (.bool (← typeInfo t).comparable)) Tryd.func157 (by kernel_rfl) (by kernel_rfl) (by kernel_rfl) (by kernel_rfl)]
  kernel_rfl
theorem isMethodComparable (v : Value) (w : World) : (Go.method 333 139 v "Comparable").run Tryd.prog w = .ok (157, v) w := by kernel_rfl
theorem noIsI (v : Value) (w : World) : (Instr.typeAssert (.iface 83 v) 29 150 true).run Tryd.prog w = .ok (.tuple #[.nilIface, .bool false]) w := run_typeAssert_lacksB Tryd.underlying150 (by kernel_rfl) (by kernel_rfl) v 29 w
theorem noIsF (v : Value) (w : World) : (Instr.typeAssert (.iface 77 v) 29 150 true).run Tryd.prog w = .ok (.tuple #[.nilIface, .bool false]) w := run_typeAssert_lacksB Tryd.underlying150 (by kernel_rfl) (by kernel_rfl) v 29 w
theorem noIsE (v : Value) (w : World) : (Instr.typeAssert (.iface 33 v) 29 150 true).run Tryd.prog w = .ok (.tuple #[.nilIface, .bool false]) w := run_typeAssert_lacksB Tryd.underlying150 (by kernel_rfl) (by kernel_rfl) v 29 w
theorem eqI (p : Option Addr) (k : Int) (w : World) : (binOp .eql 29 (.iface 83 (.pointer p)) (.iface 33 (.int .i64 k))).run Tryd.prog w = .ok (.bool false) w := by kernel_rfl
theorem eqF (p : Option Addr) (k : Int) (w : World) : (binOp .eql 29 (.iface 77 (.pointer p)) (.iface 33 (.int .i64 k))).run Tryd.prog w = .ok (.bool false) w := by kernel_rfl
theorem eqE (m k : Int) (w : World) : (binOp .eql 29 (.iface 33 (.int .i64 m)) (.iface 33 (.int .i64 k))).run Tryd.prog w = .ok (.bool (m == k)) w := by kernel_rfl

set_option maxHeartbeats 4000000 in
theorem is2_calls (v : Value) (ins : List (List ByteArray)) (b : Base) (k : Int) (w : World) (he : EV w v ins b) :
    Calls Tryd.prog 67 #[v, .iface 33 (.int .i64 k), .bool true] w fun e w' => e = .returned (.bool (b.code == k)) ∧ w' = w := by
  have mUI := mUnwI; have mUF := mUnwF
  have nI := noIsI; have nF := noIsF; have nE := noIsE
  have uI := unI; have uF := unF; have uE := noUnE; have ulE := noUnlE
  have qI := eqI; have qF := eqF
  have HE : Aside0 (EV w v ins b) := ⟨he⟩
  clear he
  go_enter Tryd.func67, Tryd.ntmps67
  go_wp2
  go_loopg [0] (ins.length + 1) (fun gk p wr => wr = w ∧ ∃ xs b', (xs.length = gk ∧ (∃ m, b' = .errno m) ∨ xs.length + 1 = gk) ∧ b'.code = b.code ∧ EV w p xs b')
  case atStart => exact ⟨rfl, ins, b, Or.inr rfl, rfl, HE.out⟩
  case round =>
    obtain ⟨rfl, xs, b', hk, hb, hv⟩ := hrel
    have HK : Aside0 (xs.length = gk ∧ (∃ m, b' = .errno m) ∨ xs.length + 1 = gk) := ⟨hk⟩
    have HB : Aside0 (b'.code = b.code) := ⟨hb⟩
    clear hk hb
    rcases xs with _ | ⟨ys, xs⟩
    · cases b' with
      | errno m =>
        simp only [EV, EB] at hv
        subst hv
        obtain ⟨r, hr⟩ : ∃ r, r = (m == k) := ⟨_, rfl⟩
        have HR : Aside0 (r = (b.code == k)) := ⟨by rw [hr, ← HB.out]; rfl⟩
        have qE := eqE m k wr
        rw [← hr] at qE
        clear hr
        cases r with
        | true =>
          go_wp2
          go_ret
          exact ⟨by rw [← HR.out]; rfl, rfl⟩
        | false =>
          go_wp2
          go_ret
          exact ⟨by rw [← HR.out]; rfl, rfl⟩
      | fault m x =>
        obtain ⟨g, rfl, hg⟩ := hv
        have HG := Aside0.mk (unw_fault g m x wr hg)
        clear hg
        go_wp2_with (go_at_call 146; refine HG.out.mono ?_; rintro e w' ⟨rfl, rfl⟩)
        go_roundg 0
        case measure => rcases HK.out with ⟨_, m, h⟩ | h; cases h; simp at h; omega
        case rel => exact ⟨rfl, [], .errno m, .inl ⟨rfl, m, rfl⟩, HB.out, rfl⟩
    · obtain ⟨g, ws, err, rfl, hg, hws, hv'⟩ := hv
      obtain ⟨ut, ux, rfl⟩ := EV_iface hv'
      have HG : Aside0 (wr.heap[g]? = some (.cells #[ws, .iface ut ux] 86 (0, 0)) ∧ EV wr (.iface ut ux) xs b') := ⟨hg, hv'⟩
      clear hg hws hv'
      go_wp2_with (go_at_call 148; refine (unw_inside g ws (.iface ut ux) _ HG.out.1).mono ?_; rintro e w' ⟨rfl, rfl⟩)
      go_roundg (gk - 1)
      case measure => rcases HK.out with ⟨h, _⟩ | h <;> simp at h <;> omega
      case rel => exact ⟨rfl, xs, b', by rcases HK.out with ⟨h, h'⟩ | h <;> simp at h; exact .inl ⟨by omega, h'⟩; exact .inr (by omega), HB.out, HG.out.2⟩

theorem is_nilE (k : Int) (w : World) : Calls Tryd.prog 50 #[.nilIface, .iface 33 (.int .i64 k)] w fun e w' => e = .returned (.bool false) ∧ w' = w := by
  have hn := run_eql_iface_nil_left (P := Tryd.prog) w 33 (.int .i64 k) Tryd.underlying29
  go_enter Tryd.func50, Tryd.ntmps50
  go_wp2
  go_ret
  exact ⟨rfl, rfl⟩
/-- errors.Is by what errors.is does. -/
theorem is_of (t : Nat) (x : Value) (k : Int) (r : Bool) (w : World) (h : Calls Tryd.prog 67 #[.iface t x, .iface 33 (.int .i64 k), .bool true] w fun e w' => e = .returned (.bool r) ∧ w' = w) :
    Calls Tryd.prog 50 #[.iface t x, .iface 33 (.int .i64 k)] w fun e w' => e = .returned (.bool r) ∧ w' = w := by
  have h66 := @run_callFunc_extern Tryd.prog 66 _ ReflectliteType.typeOf Tryd.func66 (by kernel_rfl) (by kernel_rfl) (by kernel_rfl) (by kernel_rfl)
  have tT := isTypeOf
  have cT := callComp
  have mR := isMethodComparable
  have HC := Aside0.mk h
  clear h
  go_enter Tryd.func50, Tryd.ntmps50
  go_wp2_with (go_at_call 67; refine HC.out.mono ?_; rintro e w' ⟨rfl, rfl⟩)
  go_ret
  exact ⟨rfl, rfl⟩
theorem is_calls (v : Value) (ins : List (List ByteArray)) (b : Base) (k : Int) (w : World) (he : EV w v ins b) :
    Calls Tryd.prog 50 #[v, .iface 33 (.int .i64 k)] w fun e w' => e = .returned (.bool (b.code == k)) ∧ w' = w := by
  obtain ⟨t, x, rfl⟩ := EV_iface he
  exact is_of t x k _ w (is2_calls _ ins b k w he)
end As
end Go.Proofs.YtelmmcjlhjahcaaDoor
