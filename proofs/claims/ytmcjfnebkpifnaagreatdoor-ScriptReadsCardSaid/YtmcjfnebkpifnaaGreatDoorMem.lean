/- Printed texts of this seat, cut to what is used. -/
import Derived.Test.YtmcjfnebkpifnaaGreatDoorProg
import Derived.Test.YtmcjfnebkpifnaaGreatDoorWMore
import Derived.Test.YtmcjfnebkpifnaaGreatDoorWGuard
import Derived.Test.YtmcjfnebkpifnaaGreatDoorWApart
import Derived.Test.YtmcjfnebkpifnaaGreatDoorWWords
import Derived.WalkSpells
import Derived.WalkLawsBesides
import Derived.StillTailTactics
namespace Go.Proofs.YtmcjfnebkpifnaaGreatDoor
open Go.RowKit Go.Proofs.YtmcjfnebkpifnaaGreatDoorW.PrintWords Go.Proofs.YtmcjfnebkpifnaaGreatDoorW.PrintLast Go.Proofs.YtmcjfnebkpifnaaGreatDoorW.PrintMore

/-- Of what was there only blocks that are ok may have turned. -/
structure Keeps (ok : Nat → Prop) (w w' : World) : Prop where
  os : w'.os = w.os
  tape : w'.tape = w.tape
  output : w'.output = w.output
  size : w.heap.size ≤ w'.heap.size
  block : ∀ k, k < w.heap.size → ¬ ok k → w'.heap[k]? = w.heap[k]?

theorem Keeps.refl (ok : Nat → Prop) (w : World) : Keeps ok w w := ⟨rfl, rfl, rfl, Nat.le_refl _, fun _ _ _ => rfl⟩
theorem Keeps.trans {ok : Nat → Prop} {a b c : World} (h : Keeps ok a b) (k : Keeps ok b c) : Keeps ok a c :=
  ⟨k.os.trans h.os, k.tape.trans h.tape, k.output.trans h.output, Nat.le_trans h.size k.size, fun i hi hn => (k.block i (Nat.lt_of_lt_of_le hi h.size) hn).trans (h.block i hi hn)⟩
theorem Keeps.below {ok : Nat → Prop} {a b c : World} (h : Keeps ok a b) (k : Below b.heap.size b c) : Keeps ok a c :=
  ⟨k.os.trans h.os, k.tape.trans h.tape, k.output.trans h.output, Nat.le_trans h.size k.size, fun i hi hn => (k.block i (Nat.lt_of_lt_of_le hi h.size)).trans (h.block i hi hn)⟩
theorem Keeps.alloc {ok : Nat → Prop} {a b : World} (h : Keeps ok a b) (o : Obj) : Keeps ok a (b.alloc o) := h.below (below_alloc (Below.refl _ _) o)
theorem Keeps.drew {ok : Nat → Prop} {a b : World} (h : Keeps ok a b) : Keeps ok a b.drew := h.below (below_drew (Below.refl _ _))
theorem Keeps.setCell {ok : Nat → Prop} {a b : World} (h : Keeps ok a b) {p : Addr} (hp : ok p.block) (u : Value) : Keeps ok a (b.setCell p u) :=
  h.trans ⟨rfl, rfl, rfl, by simp [World.setCell], fun k _ hn => Below.heap_setCell _ _ _ _ (fun e => hn (e ▸ hp))⟩
theorem Keeps.grown {ok : Nat → Prop} {a b c : World} {row : Option Nat} (h : Keeps ok a b) (hg : b.grownBy c row) (hr : ∀ k, row = some k → ok k) : Keeps ok a c :=
  h.trans ⟨hg.os, hg.tape, hg.output, hg.size, fun k hk hn => hg.block k hk (fun e => hn (hr k e.symm))⟩
theorem Keeps.toBelow {ok : Nat → Prop} {B : Nat} {a b : World} (h : Keeps ok a b) (hB : B ≤ a.heap.size) (hok : ∀ k, ok k → B ≤ k) : Below B a b :=
  ⟨h.os, h.tape, h.output, h.size, fun k hk => h.block k (Nat.lt_of_lt_of_le hk hB) (fun h' => Nat.lt_irrefl _ (Nat.lt_of_lt_of_le hk (hok k h')))⟩
theorem Keeps.ofBelow {B : Nat} {a b : World} (h : Below B a b) : Keeps (fun k => B ≤ k) a b := ⟨h.os, h.tape, h.output, h.size, fun k _ hn => h.block k (Nat.lt_of_not_le hn)⟩
theorem Keeps.mono {ok ok' : Nat → Prop} {a b : World} (h : Keeps ok a b) (hk : ∀ k, ok k → ok' k) : Keeps ok' a b := ⟨h.os, h.tape, h.output, h.size, fun k hk1 hn => h.block k hk1 (fun h' => hn (hk k h'))⟩

theorem sl_of_R {α : Type} {d : Kd α} {e : Nat} {w : World} {base : Nat} {ok : Nat → Prop} {v : Value} {xs : List α} (h : d.R e w base ok v xs) : ∃ A n c, v = .slice A n c := by
  obtain ⟨A, c, rfl⟩ := Kd.R_slice h
  exact ⟨A, _, c, rfl⟩
end Go.Proofs.YtmcjfnebkpifnaaGreatDoor
