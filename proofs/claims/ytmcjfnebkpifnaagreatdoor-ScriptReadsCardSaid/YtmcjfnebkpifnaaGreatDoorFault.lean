/- Printed texts of this seat, cut to what is used. -/
import Derived.Test.YtmcjfnebkpifnaaGreatDoorMem
namespace Go.Proofs.YtmcjfnebkpifnaaGreatDoor
open Go.RowKit Go.Proofs.YtmcjfnebkpifnaaGreatDoorW.PrintWords Go.Proofs.YtmcjfnebkpifnaaGreatDoorW.PrintLast Go.Proofs.YtmcjfnebkpifnaaGreatDoorW.PrintMore
set_option linter.unusedVariables false
set_option linter.unusedSimpArgs false

theorem new_calls (e at_ : Int) (w : World) (he : (e == 0) = false) :
    Calls Tryz.prog 24 #[.int .i64 e, .int .i64 at_] w fun ev w' => ev = .returned (.iface 62 (.pointer (some ⟨w.heap.size, 0, none⟩))) ∧ w' = w.alloc (.cells #[.int .i64 e, .int .i64 at_] 66) := by
  go_enter Tryz.func24, Tryz.ntmps24
  go_wp2
  go_ret
  exact ⟨rfl, rfl⟩


theorem finfoS : (Tryz.prog.info? 9).map (fun i => (i.zero, i.size, i.bytes)) = some (some (.string ByteArray.empty), 1, 16) := by kernel_rfl

theorem clone_calls (a : Addr) (n c : Nat) (xs : List ByteArray) (w : World) (hn : xs.length = n) (hc : n ≤ c) (hl : n ≤ 100000) (hr : Kd.string.C w (some a) n xs) :
    Calls Tryz.prog 43 #[.slice (some a) n c] w fun ev w' => ∃ A m k, ev = .returned (.slice A m k) ∧ Kd.string.R 9 w' w.heap.size (fun _ => True) (.slice A m k) xs ∧ Below w.heap.size w w' := by
  subst hn
  have HR := Aside0.mk hr
  clear hr
  have hq : (binOp .eql 57 (.slice (some a) xs.length c) (.slice none 0 0)).run Tryz.prog w = .ok (.bool false) w := Lib.run_eql_slice_nil w 57 9 (some a) xs.length c 0 0 Tryz.underlying57
  have R0 : Aside0 (Kd.string.R 9 (w.alloc (.cells #[] 9)) w.heap.size (fun _ => True) (.slice (some ⟨w.heap.size, 0, none⟩) 0 0) []) := ⟨Kd.R_of_own (World.ownsRow_made w #[] 0 (Nat.le_refl _) (by decide) rfl) (fun _ _ => trivial)⟩
  have C0 : Aside0 (Kd.string.C (w.alloc (.cells #[] 9)) (some a) xs.length xs) := ⟨Kd.C_alloc HR.out _⟩
  have B0 : Aside0 (Below w.heap.size w (w.alloc (.cells #[] 9))) := ⟨below_alloc (Below.refl _ _) _⟩
  go_enter Tryz.func43, Tryz.ntmps43
  go_wp2_with (at_builtin; refine Kd.R_append_row Value.string ByteArray.empty (w0 := w) w.heap.size rfl (.tmp 5) (.tmp 6) 57 9 (.string ByteArray.empty) 16 rfl Tryz.underlying57 finfoS rfl (by decide) (.slice (some ⟨w.heap.size, 0, none⟩) 0 0) [] xs (some a) xs.length c (fun _ => True) rfl rfl (fun _ _ => trivial) R0.out C0.out B0.out ?aS ?aL ?_)
  case aS => simp
  case aL => simp only [List.length_nil]; omega
  intro v1 w1 ho hb _ _
  obtain ⟨A, m, rfl⟩ := Kd.R_slice ho
  go_wp2
  go_ret
  exact ⟨_, _, _, rfl, ho, hb⟩

/-- A literal of strings, in the block that was just made. -/
theorem lit_strings (W : World) (base : Nat) (e : Nat) (xs : List ByteArray) (hb : base ≤ W.heap.size) (hm : xs.length ≤ 100000) : Kd.string.R e (W.alloc (.cells (encs Value.string xs).toArray e)) base (fun _ => True) (.slice (some ⟨W.heap.size, 0, none⟩) xs.length xs.length) xs :=
  Kd.R_of_own (own_lit_of W base e xs hb (by omega)) (fun _ _ => trivial)
theorem litC (W : World) (e : Nat) (xs : List ByteArray) (hm : xs.length ≤ 100000) : Kd.string.C (W.alloc (.cells (encs Value.string xs).toArray e)) (some ⟨W.heap.size, 0, none⟩) xs.length xs :=
  (Kd.R_reads' (lit_strings W 0 e xs (Nat.zero_le _) hm)).2.2

/-- What an error put in words is in memory. -/
def Inside (w : World) (base g : Nat) (err : Value) (xs : List ByteArray) : Prop := base ≤ g ∧ ∃ v, w.heap[g]? = some (.cells #[v, err] 80 (0, 0)) ∧ Kd.string.R 9 w base (fun _ => True) v xs

theorem in_calls (u : Nat) (p : Value) (a : Addr) (n c : Nat) (xs : List ByteArray) (w : World) (hn : xs.length = n) (h0 : 0 < n) (hc : n ≤ c) (hl : n ≤ 100000) (hr : Kd.string.C w (some a) n xs) :
    Calls Tryz.prog 23 #[.iface u p, .slice (some a) n c] w fun ev w' => ∃ g, ev = .returned (.iface 77 (.pointer (some ⟨g, 0, none⟩))) ∧ Inside w' w.heap.size g (.iface u p) xs ∧ Below w.heap.size w w' := by
  have HC := Aside0.mk (clone_calls a n c xs w hn hc hl hr)
  have h0' : ((n : Int) == 0) = false := by rw [beq_eq_false_iff_ne]; omega
  have h0'' : (n == 0) = false := by rw [beq_eq_false_iff_ne]; omega
  clear hr hn h0
  go_enter Tryz.func23, Tryz.ntmps23
  go_wp2_with (go_at_call 43; refine HC.out.mono ?_; rintro e w1 ⟨A, m, k, rfl, hv, hb⟩)
  go_ret
  refine ⟨_, rfl, ⟨hb.size, _, heap_alloc_new w1 _, Kd.R_alloc hv _⟩, hb.trans (below_alloc (Below.refl _ _) _ |>.mono hb.size)⟩
end Go.Proofs.YtmcjfnebkpifnaaGreatDoor
