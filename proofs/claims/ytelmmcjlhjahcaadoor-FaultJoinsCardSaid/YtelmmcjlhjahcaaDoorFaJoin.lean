/-
  fault.Join, in parts.
-/
import Derived.Test.YtelmmcjlhjahcaaDoorFaZero
namespace Go.Proofs.YtelmmcjlhjahcaaDoor
open Go.RowKit Go.Proofs.YtelmmcjlhjahcaaDoorW.PrintWords Go.Proofs.YtelmmcjlhjahcaaDoorW.PrintLast Go.Proofs.YtelmmcjlhjahcaaDoorW.PrintMore
set_option linter.unusedVariables false
set_option linter.unusedSimpArgs false
set_option maxRecDepth 100000

/-- An error's value. -/
def encE : Option (TypeId × Value) → Value
  | none => .nilIface
  | some p => .iface p.1 p.2
theorem encE_one (x : Option (TypeId × Value)) : (encE x).oneCell' = true := by cases x <;> rfl
abbrev kErr : Kd (Option (TypeId × Value)) := Kd.scalar encE encE_one
theorem infoErr : (Tryd.prog.info? 29).map (fun i => (i.zero, i.size, i.bytes)) = some (some .nilIface, 1, 16) := by kernel_rfl

theorem isnil_nil (w : World) : Calls Tryd.prog 44 #[.nilIface] w fun e w' => e = .returned (.bool true) ∧ w' = w := by
  go_enter Tryd.func44, Tryd.ntmps44
  go_wp2
  go_ret
  exact ⟨rfl, rfl⟩
theorem isnil_some (w : World) (t : TypeId) (x : Value) : Calls Tryd.prog 44 #[.iface t x] w fun e w' => e = .returned (.bool false) ∧ w' = w := by
  go_enter Tryd.func44, Tryd.ntmps44
  go_wp2
  go_ret
  exact ⟨rfl, rfl⟩

theorem cloneE_calls (a : Addr) (n c : Nat) (xs : List (Option (TypeId × Value))) (w : World) (hn : xs.length = n) (hc : n ≤ c) (hl : n ≤ 100000) (hr : kErr.C w (some a) n xs) :
    Calls Tryd.prog 43 #[.slice (some a) n c] w fun ev w' => ∃ A m k, ev = .returned (.slice A m k) ∧ kErr.R 29 w' w.heap.size (fun _ => True) (.slice A m k) xs ∧ Below w.heap.size w w' := by
  subst hn
  have HR := Aside0.mk hr
  clear hr
  have hq : (binOp .eql 56 (.slice (some a) xs.length c) (.slice none 0 0)).run Tryd.prog w = .ok (.bool false) w := Lib.run_eql_slice_nil w 56 29 (some a) xs.length c 0 0 Tryd.underlying56
  have R0 : Aside0 (kErr.R 29 (w.alloc (.cells #[] 29)) w.heap.size (fun _ => True) (.slice (some ⟨w.heap.size, 0, none⟩) 0 0) []) := ⟨R_empty kErr _ _ _ _ (Nat.le_refl _) trivial⟩
  have C0 : Aside0 (kErr.C (w.alloc (.cells #[] 29)) (some a) xs.length xs) := ⟨Kd.C_alloc HR.out _⟩
  have B0 : Aside0 (Below w.heap.size w (w.alloc (.cells #[] 29))) := ⟨below_alloc (Below.refl _ _) _⟩
  go_enter Tryd.func43, Tryd.ntmps43
  go_wp2_with (at_builtin; refine Kd.R_append_row encE none (w0 := w) w.heap.size rfl (.tmp 5) (.tmp 6) 56 29 .nilIface 16 rfl Tryd.underlying56 infoErr rfl (by decide) (.slice (some ⟨w.heap.size, 0, none⟩) 0 0) [] xs (some a) xs.length c (fun _ => True) rfl rfl (fun _ _ => trivial) R0.out C0.out B0.out ?aS ?aL ?_)
  case aS => simp
  case aL => simp only [List.length_nil]; omega
  intro v1 w1 ho hb _ _
  obtain ⟨A, m, rfl⟩ := Kd.R_slice ho
  go_wp2
  go_ret
  exact ⟨_, _, _, rfl, ho, hb⟩

/-- The first of them is none. -/
theorem index_first (w : World) (a : Addr) (n c : Nat) (h0 : 0 < n) (hc : w.cell? (a.add 0) = some .nilIface) :
    Calls Tryd.prog 63 #[.slice (some a) n c, .func (.func 44) #[] #[]] w fun ev w' => ev = .returned (.int .i64 0) ∧ w' = w := by
  have h0' : (0 : Int) < (n : Int) := by omega
  have hcz : w.cell? a = some .nilIface := by simpa [Addr.add] using hc
  go_enter Tryd.func63, Tryd.ntmps63
  go_wp2
  refine wp_loop_rounds 1 ?_
  rw [rounds_succ]
  go_wp2_with (go_at_call 44; refine (isnil_nil _).mono ?_; rintro e w' ⟨rfl, rfl⟩)
  go_ret
  exact ⟨rfl, rfl⟩
end Go.Proofs.YtelmmcjlhjahcaaDoor
