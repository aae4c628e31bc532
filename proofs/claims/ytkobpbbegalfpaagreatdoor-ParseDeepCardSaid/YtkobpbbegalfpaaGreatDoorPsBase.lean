/-
  Joined texts: Mem, Fault, PsBase.
-/
import Derived.Test.YtkobpbbegalfpaaGreatDoorProg
import Derived.Test.YtkobpbbegalfpaaGreatDoorWRepsOne
import Derived.Test.YtkobpbbegalfpaaGreatDoorWFoot
import Derived.Test.YtkobpbbegalfpaaGreatDoorWWords
import Derived.WalkSpells
import Derived.WalkLawsBesides
import Derived.StillTailTactics
import Derived.Deep.RegionHeld3
import Derived.Deep.QuietTactic
import Derived.BigQuiet
/- Printed texts of this seat, cut to what is used. -/
namespace Go.Proofs.YtkobpbbegalfpaaGreatDoor
open Go.RowKit Go.Proofs.YtkobpbbegalfpaaGreatDoorW.PrintWords Go.Proofs.YtkobpbbegalfpaaGreatDoorW.PrintLast Go.Proofs.YtkobpbbegalfpaaGreatDoorW.PrintMore

/-- Of what was there only blocks that are ok may have turned. -/
structure Keeps (ok : Nat → Prop) (w w' : World) : Prop where
 os : w'.os = w.os
 tape : w'.tape = w.tape
 output : w'.output = w.output
 size : w.heap.size ≤ w'.heap.size
 block : ∀ k, k < w.heap.size → ¬ ok k → w'.heap[k]? = w.heap[k]?

theorem Keeps.refl (ok : Nat → Prop) (w : World) : Keeps ok w w := ⟨rfl, rfl, rfl, Nat.le_refl _, fun _ _ _ => rfl⟩
theorem Keeps.trans {ok : Nat → Prop} {a b c : World} (h : Keeps ok a b) (k : Keeps ok b c) : Keeps ok a c :=
 ⟨k.os.trans h.os, k.tape.trans h.tape, k.output.trans h.output, Nat.le_trans h.size k.size, fun i hi hn => (k.block i (Nat.lt_of_lt_of_le hi h.size) hn).trans (h.block i hi hn)⟩
theorem Keeps.below {ok : Nat → Prop} {a b c : World} (h : Keeps ok a b) (k : Below b.heap.size b c) : Keeps ok a c :=
 ⟨k.os.trans h.os, k.tape.trans h.tape, k.output.trans h.output, Nat.le_trans h.size k.size, fun i hi hn => (k.block i (Nat.lt_of_lt_of_le hi h.size)).trans (h.block i hi hn)⟩
theorem Keeps.alloc {ok : Nat → Prop} {a b : World} (h : Keeps ok a b) (o : Obj) : Keeps ok a (b.alloc o) := h.below (below_alloc (Below.refl _ _) o)
theorem Keeps.drew {ok : Nat → Prop} {a b : World} (h : Keeps ok a b) : Keeps ok a b.drew := h.below (below_drew (Below.refl _ _))
theorem Keeps.setCell {ok : Nat → Prop} {a b : World} (h : Keeps ok a b) {p : Addr} (hp : ok p.block) (u : Value) : Keeps ok a (b.setCell p u) :=
 h.trans ⟨rfl, rfl, rfl, by simp [World.setCell], fun k _ hn => Below.heap_setCell _ _ _ _ (fun e => hn (e ▸ hp))⟩
theorem Keeps.grown {ok : Nat → Prop} {a b c : World} {row : Option Nat} (h : Keeps ok a b) (hg : b.grownBy c row) (hr : ∀ k, row = some k → ok k) : Keeps ok a c :=
 h.trans ⟨hg.os, hg.tape, hg.output, hg.size, fun k hk hn => hg.block k hk (fun e => hn (hr k e.symm))⟩
theorem Keeps.toBelow {ok : Nat → Prop} {B : Nat} {a b : World} (h : Keeps ok a b) (hB : B ≤ a.heap.size) (hok : ∀ k, ok k → B ≤ k) : Below B a b :=
 ⟨h.os, h.tape, h.output, h.size, fun k hk => h.block k (Nat.lt_of_lt_of_le hk hB) (fun h' => Nat.lt_irrefl _ (Nat.lt_of_lt_of_le hk (hok k h')))⟩
theorem Keeps.ofBelow {B : Nat} {a b : World} (h : Below B a b) : Keeps (fun k => B ≤ k) a b := ⟨h.os, h.tape, h.output, h.size, fun k _ hn => h.block k (Nat.lt_of_not_le hn)⟩
theorem Keeps.mono {ok ok' : Nat → Prop} {a b : World} (h : Keeps ok a b) (hk : ∀ k, ok k → ok' k) : Keeps ok' a b := ⟨h.os, h.tape, h.output, h.size, fun k hk1 hn => h.block k hk1 (fun h' => hn (hk k h'))⟩

theorem sl_of_R {α : Type} {d : Kd α} {e : Nat} {w : World} {base : Nat} {ok : Nat → Prop} {v : Value} {xs : List α} (h : d.R e w base ok v xs) : ∃ A n c, v = .slice A n c := by
 obtain ⟨A, c, rfl⟩ := Kd.R_slice h
 exact ⟨A, _, c, rfl⟩
end Go.Proofs.YtkobpbbegalfpaaGreatDoor

/- Printed texts of this seat, cut to what is used. -/
namespace Go.Proofs.YtkobpbbegalfpaaGreatDoor
open Go.RowKit Go.Proofs.YtkobpbbegalfpaaGreatDoorW.PrintWords Go.Proofs.YtkobpbbegalfpaaGreatDoorW.PrintLast Go.Proofs.YtkobpbbegalfpaaGreatDoorW.PrintMore
set_option linter.unusedVariables false
set_option linter.unusedSimpArgs false

theorem new_calls (e at_ : Int) (w : World) (he : (e == 0) = false) :
  Calls Tryz.prog 26 #[.int .i64 e, .int .i64 at_] w fun ev w' => ev = .returned (.iface 82 (.pointer (some ⟨w.heap.size, 0, none⟩))) ∧ w' = w.alloc (.cells #[.int .i64 e, .int .i64 at_] 84) := by
 go_enter Tryz.func26, Tryz.ntmps26
 go_wp2
 go_ret
 exact ⟨rfl, rfl⟩


theorem finfoS : (Tryz.prog.info? 9).map (fun i => (i.zero, i.size, i.bytes)) = some (some (.string ByteArray.empty), 1, 16) := by kernel_rfl

theorem clone_calls (a : Addr) (n c : Nat) (xs : List ByteArray) (w : World) (hn : xs.length = n) (hc : n ≤ c) (hl : n ≤ 100000) (hr : Kd.string.C w (some a) n xs) :
  Calls Tryz.prog 45 #[.slice (some a) n c] w fun ev w' => ∃ A m k, ev = .returned (.slice A m k) ∧ Kd.string.R 9 w' w.heap.size (fun _ => True) (.slice A m k) xs ∧ Below w.heap.size w w' := by
 subst hn
 have HR := Aside0.mk hr
 clear hr
 have hq : (binOp .eql 69 (.slice (some a) xs.length c) (.slice none 0 0)).run Tryz.prog w = .ok (.bool false) w := Lib.run_eql_slice_nil w 69 9 (some a) xs.length c 0 0 Tryz.underlying69
 have R0 : Aside0 (Kd.string.R 9 (w.alloc (.cells #[] 9)) w.heap.size (fun _ => True) (.slice (some ⟨w.heap.size, 0, none⟩) 0 0) []) := ⟨Kd.R_of_own (World.ownsRow_made w #[] 0 (Nat.le_refl _) (by decide) rfl) (fun _ _ => trivial)⟩
 have C0 : Aside0 (Kd.string.C (w.alloc (.cells #[] 9)) (some a) xs.length xs) := ⟨Kd.C_alloc HR.out _⟩
 have B0 : Aside0 (Below w.heap.size w (w.alloc (.cells #[] 9))) := ⟨below_alloc (Below.refl _ _) _⟩
 go_enter Tryz.func45, Tryz.ntmps45
 go_wp2_with (at_builtin; refine Kd.R_append_row Value.string ByteArray.empty (w0 := w) w.heap.size rfl (.tmp 5) (.tmp 6) 69 9 (.string ByteArray.empty) 16 rfl Tryz.underlying69 finfoS rfl (by decide) (.slice (some ⟨w.heap.size, 0, none⟩) 0 0) [] xs (some a) xs.length c (fun _ => True) rfl rfl (fun _ _ => trivial) R0.out C0.out B0.out ?aS ?aL ?_)
 case aS => simp
 case aL => simp only [List.length_nil]; omega
 intro v1 w1 ho hb _ _
 obtain ⟨A, m, rfl⟩ := Kd.R_slice ho
 go_wp2
 go_ret
 exact ⟨_, _, _, rfl, ho, hb⟩

/-- A literal of strings, in the block that was just made. -/
theorem lit_strings (W : World) (base : Nat) (e : Nat) (xs : List ByteArray) (hb : base ≤ W.heap.size) (hm : xs.length ≤ 100000) : Kd.string.R e (W.alloc (.cells (encs Value.string xs).toArray e)) base (fun _ => True) (.slice (some ⟨W.heap.size, 0, none⟩) xs.length xs.length) xs :=
 Kd.R_of_own (own_lit_of W base e xs hb (by omega)) (fun _ _ => trivial)
theorem litC (W : World) (e : Nat) (xs : List ByteArray) (hm : xs.length ≤ 100000) : Kd.string.C (W.alloc (.cells (encs Value.string xs).toArray e)) (some ⟨W.heap.size, 0, none⟩) xs.length xs :=
 (Kd.R_reads' (lit_strings W 0 e xs (Nat.zero_le _) hm)).2.2

/-- What an error put in words is in memory. -/
def Inside (w : World) (base g : Nat) (err : Value) (xs : List ByteArray) : Prop := base ≤ g ∧ ∃ v, w.heap[g]? = some (.cells #[v, err] 81 (0, 0)) ∧ Kd.string.R 9 w base (fun _ => True) v xs

theorem in_calls (u : Nat) (p : Value) (a : Addr) (n c : Nat) (xs : List ByteArray) (w : World) (hn : xs.length = n) (h0 : 0 < n) (hc : n ≤ c) (hl : n ≤ 100000) (hr : Kd.string.C w (some a) n xs) :
  Calls Tryz.prog 25 #[.iface u p, .slice (some a) n c] w fun ev w' => ∃ g, ev = .returned (.iface 78 (.pointer (some ⟨g, 0, none⟩))) ∧ Inside w' w.heap.size g (.iface u p) xs ∧ Below w.heap.size w w' := by
 have HC := Aside0.mk (clone_calls a n c xs w hn hc hl hr)
 have h0' : ((n : Int) == 0) = false := by rw [beq_eq_false_iff_ne]; omega
 have h0'' : (n == 0) = false := by rw [beq_eq_false_iff_ne]; omega
 clear hr hn h0
 go_enter Tryz.func25, Tryz.ntmps25
 go_wp2_with (go_at_call 45; refine HC.out.mono ?_; rintro e w1 ⟨A, m, k, rfl, hv, hb⟩)
 go_ret
 refine ⟨_, rfl, ⟨hb.size, _, heap_alloc_new w1 _, Kd.R_alloc hv _⟩, hb.trans (below_alloc (Below.refl _ _) _ |>.mono hb.size)⟩
end Go.Proofs.YtkobpbbegalfpaaGreatDoor

/-
 The reader of a body: its state, and its smallest steps.
-/
namespace Go.Proofs.YtkobpbbegalfpaaGreatDoor
open Go.RowKit Go.Proofs.YtkobpbbegalfpaaGreatDoorW.PrintWords Go.Proofs.YtkobpbbegalfpaaGreatDoorW.PrintLast Go.Proofs.YtkobpbbegalfpaaGreatDoorW.PrintMore
set_option linter.unusedVariables false
set_option linter.unusedSimpArgs false
set_option maxRecDepth 100000

/-- The reader in memory. -/
def RdA (w : World) (b : Nat) (s : ByteArray) (i off : Int) : Prop := w.heap[b]? = some (.cells #[.string s, .int .i64 i, .int .i64 off] 56 (0, 0))
theorem RdA.lt {w : World} {b : Nat} {s : ByteArray} {i off : Int} (k : RdA w b s i off) : b < w.heap.size := blk_lt k
theorem RdA.below {w w' : World} {b : Nat} {s : ByteArray} {i off : Int} (k : RdA w b s i off) (hb : Below w.heap.size w w') : RdA w' b s i off := (hb.block b (blk_lt k)).trans k
theorem RdA.cells {w : World} {b : Nat} {s : ByteArray} {i off : Int} (k : RdA w b s i off) : w.cell? ⟨b, 0, none⟩ = some (.string s) ∧ w.cell? ⟨b, 1, none⟩ = some (.int .i64 i) ∧ w.cell? ⟨b, 2, none⟩ = some (.int .i64 off) := by
 unfold RdA at k
 refine ⟨?_, ?_, ?_⟩ <;> simp [World.cell?, k]
theorem RdA.fro {w : World} {b : Nat} {s : ByteArray} {i off : Int} (k : RdA w b s i off) : w.frozen? ⟨b, 0, none⟩ = false ∧ w.frozen? ⟨b, 1, none⟩ = false ∧ w.frozen? ⟨b, 2, none⟩ = false :=
 ⟨blk_frozen k 0, blk_frozen k 1, blk_frozen k 2⟩
theorem RdA.set {w : World} {b : Nat} {s : ByteArray} {i off : Int} (k : RdA w b s i off) (j : Int) : RdA (w.setCell ⟨b, 1, none⟩ (.int .i64 j)) b s j off := blk_set k 1 _
/-- From a world on, the reader's place alone is another; new blocks lie behind. -/
def Step (w : World) (b : Nat) (j : Int) (w' : World) : Prop := Below w.heap.size (w.setCell ⟨b, 1, none⟩ (.int .i64 j)) w'
theorem size_set (w : World) (p : Addr) (v : Value) : (w.setCell p v).heap.size = w.heap.size := by
 unfold World.setCell
 split <;> simp
theorem Step.rd {w w' : World} {b : Nat} {s : ByteArray} {i j off : Int} (h : Step w b j w') (k : RdA w b s i off) : RdA w' b s j off :=
 (h.block b k.lt).trans (k.set j)
theorem Step.size {w w' : World} {b : Nat} {j : Int} (h : Step w b j w') : w.heap.size ≤ w'.heap.size := by
 have := Below.size h
 rwa [size_set] at this
theorem set_same {w : World} {b : Nat} {s : ByteArray} {i off : Int} (k : RdA w b s i off) : Below w.heap.size w (w.setCell ⟨b, 1, none⟩ (.int .i64 i)) where
 os := by unfold World.setCell; split <;> rfl
 tape := by unfold World.setCell; split <;> rfl
 output := by unfold World.setCell; split <;> rfl
 size := by rw [size_set]; exact Nat.le_refl _
 block := fun n _ => by
  by_cases h : n = b
  ·subst h
   rw [show w.heap[n]? = _ from k]
   exact k.set i
  ·exact Below.heap_setCell w ⟨b, 1, none⟩ _ n h
theorem same_set {w : World} {b : Nat} {s : ByteArray} {i off : Int} (k : RdA w b s i off) : Below w.heap.size (w.setCell ⟨b, 1, none⟩ (.int .i64 i)) w where
 os := by unfold World.setCell; split <;> rfl
 tape := by unfold World.setCell; split <;> rfl
 output := by unfold World.setCell; split <;> rfl
 size := by rw [size_set]; exact Nat.le_refl _
 block := fun n hn => ((set_same k).block n hn).symm
theorem Step.of_below {w w' : World} {b : Nat} {s : ByteArray} {i off : Int} (k : RdA w b s i off) (h : Below w.heap.size w w') : Step w b i w' := (same_set k).trans h
theorem Step.trans {w w1 w2 : World} {b : Nat} {s : ByteArray} {i i1 i2 off : Int} (k : RdA w b s i off) (h1 : Step w b i1 w1) (h2 : Step w1 b i2 w2) : Step w b i2 w2 := by
 have k1 := h1.rd k
 have key : Below w.heap.size (w.setCell ⟨b, 1, none⟩ (.int .i64 i2)) (w1.setCell ⟨b, 1, none⟩ (.int .i64 i2)) :=
  {os := by have := h1.os; revert this; unfold World.setCell; repeat' split <;> exact id
   tape := by have := h1.tape; revert this; unfold World.setCell; repeat' split <;> exact id
   output := by have := h1.output; revert this; unfold World.setCell; repeat' split <;> exact id
   size := by rw [size_set, size_set]; exact h1.size
   block := fun n hn => by
    by_cases h : n = b
    ·subst h
     exact (show _ = _ from k1.set i2).trans (show _ = _ from k.set i2).symm
    ·rw [Below.heap_setCell _ ⟨b, 1, none⟩ _ n h, Below.heap_setCell _ ⟨b, 1, none⟩ _ n h]
     exact (h1.block n hn).trans (Below.heap_setCell w ⟨b, 1, none⟩ _ n h) }
 exact key.trans (Below.mono h2 h1.size)
/-- An error on its way out: of a number, at a place. -/
def Thrown (w : World) (no pl : Int) (e : Ending) (w' : World) : Prop :=
 ∃ g, e = .panicked [{ v := .iface 86 (.agg #[.iface 82 (.pointer (some ⟨g, 0, none⟩))]), recovered := false }] ∧ w.heap.size ≤ g ∧ w'.heap[g]? = some (.cells #[.int .i64 no, .int .i64 pl] 84 (0, 0))

theorem fail_calls (w : World) (b : Nat) (s : ByteArray) (i off no pl : Int) (hno : (no == 0) = false) (hpl : IntKind.i64.wrap (off + pl) = off + pl) (k : RdA w b s i off) :
  Calls Tryz.prog 48 #[.pointer (some ⟨b, 0, none⟩), .int .i64 no, .int .i64 pl] w fun e w' => Thrown w no (off + pl) e w' ∧ Below w.heap.size w w' := by
 obtain ⟨c0, c1, c2⟩ := k.cells
 have hw : wrap64 (off + pl) = off + pl := by rw [← i64_w]; exact hpl
 go_enter Tryz.func48, Tryz.ntmps48
 go_wp2_with (go_at_call 26; refine (new_calls no (off + pl) _ hno).mono ?_; rintro e w' ⟨rfl, rfl⟩)
 exact ⟨rfl, ⟨_, rfl, Nat.le_refl _, heap_alloc_new _ _⟩, below_alloc (Below.refl _ _) _⟩
/-- The next byte; 0: the end. -/
def aheadI (s : ByteArray) (i : Nat) : Int := if h : i < s.size then (s[i].toNat : Int) else 0
theorem rahead_calls (w : World) (b : Nat) (s : ByteArray) (i : Nat) (off : Int) (hi : i ≤ s.size) (k : RdA w b s i off) :
  Calls Tryz.prog 68 #[.pointer (some ⟨b, 0, none⟩)] w fun e w' => e = .returned (.int .u8 (aheadI s i)) ∧ Below w.heap.size w w' := by
 obtain ⟨c0, c1, c2⟩ := k.cells
 by_cases h : i < s.size
 ·have h1 : ((i : Int) == (s.size : Int)) = false := beq_eq_false_iff_ne.2 (by omega)
  have h2 : (i : Int) < (s.size : Int) := by omega
  have e : aheadI s i = (s[i].toNat : Int) := dif_pos h
  rw [e]
  go_enter Tryz.func68, Tryz.ntmps68
  go_wp2
  repeat (go_quiet (fail); try go_wp2)
  go_ret
  exact ⟨rfl, by repeat (first | exact Below.refl _ _ | apply pw_below_drewN | apply below_drew1)⟩
 ·have h0 : i = s.size := by omega
  subst h0
  have h1 : ((s.size : Int) == (s.size : Int)) = true := beq_self_eq_true _
  have e : aheadI s s.size = 0 := dif_neg (Nat.lt_irrefl _)
  rw [e]
  go_enter Tryz.func68, Tryz.ntmps68
  go_wp2
  repeat (go_quiet (fail); try go_wp2)
  go_ret
  exact ⟨rfl, by repeat (first | exact Below.refl _ _ | apply pw_below_drewN | apply below_drew1)⟩
end Go.Proofs.YtkobpbbegalfpaaGreatDoor
