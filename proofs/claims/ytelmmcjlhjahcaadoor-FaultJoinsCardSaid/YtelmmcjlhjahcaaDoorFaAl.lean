/-
  FaultAlone: the walk.
-/
import Derived.Test.YtelmmcjlhjahcaaDoorFaZero
import Derived.Test.YtelmmcjlhjahcaaDoorFaAwake
import Derived.Deep.RegionHeld3
import Derived.Test.YtelmmcjlhjahcaaDoorFaJo
namespace Go.Proofs.YtelmmcjlhjahcaaDoor
open Go.RowKit Go.Proofs.YtelmmcjlhjahcaaDoorW.PrintWords Go.Proofs.YtelmmcjlhjahcaaDoorW.PrintLast Go.Proofs.YtelmmcjlhjahcaaDoorW.PrintMore Go.Proofs.YtelmmcjlhjahcaaDoor.PFaultTells
set_option linter.unusedVariables false
set_option linter.unusedSimpArgs false
set_option maxRecDepth 100000

/-- What an error that was made tells. -/
def Good (w : World) (o : Option (TypeId × Value)) (fl : List ByteArray) (cv av : Int) (ok : Bool) : Prop :=
  match o with
  | none => fl = [] ∧ cv = 0 ∧ av = 0 ∧ ok = false
  | some p => ∃ ins, fl = ins.flatten ∧ As.EV w (.iface p.1 p.2) ins (.fault cv av) ∧ ok = true
theorem Good.below {w w' : World} {o : Option (TypeId × Value)} {fl : List ByteArray} {cv av : Int} {ok : Bool} (h : Good w o fl cv av ok) (hb : Below w.heap.size w w') : Good w' o fl cv av ok := by
  cases o with
  | none => exact h
  | some p => obtain ⟨ins, h1, h2, h3⟩ := h; exact ⟨ins, h1, As.EV_keep hb h2, h3⟩
section
variable {w : World} {o : Option (TypeId × Value)} {fl : List ByteArray} {cv av : Int} {ok : Bool}
theorem Good.at_ (h : Good w o fl cv av ok) (hE : As.ErrT w) : Calls Tryd.prog 15 #[encE o] w fun e w' => e = .returned (.tuple #[.int .i64 av, .bool ok]) ∧ Below w.heap.size w w' := by
  cases o with
  | none => obtain ⟨_, _, rfl, rfl⟩ := h; exact As.at_nil w
  | some p => obtain ⟨ins, h1, h2, rfl⟩ := h; exact As.at_calls _ _ _ w h2 hE
theorem Good.code (h : Good w o fl cv av ok) (hE : As.ErrT w) : Calls Tryd.prog 16 #[encE o] w fun e w' => e = .returned (.int .i64 cv) ∧ Below w.heap.size w w' := by
  cases o with
  | none => obtain ⟨_, rfl, _, _⟩ := h; exact As.code_nil w
  | some p => obtain ⟨ins, h1, h2, rfl⟩ := h; exact As.code_calls _ _ _ w h2 hE
theorem Good.words (h : Good w o fl cv av ok) (hl : fl.length ≤ 1000000) : Calls Tryd.prog 18 #[encE o] w fun e w' => ∃ A1 c1, e = .returned (.slice A1 fl.length c1) ∧ Aside0 (fl.length ≤ c1 ∧ Kd.string.C w' A1 fl.length fl) ∧ Below w.heap.size w w' := by
  cases o with
  | none =>
    obtain ⟨rfl, _, _, _⟩ := h
    exact (words_nil w).mono fun e w' ⟨h1, h2⟩ => ⟨none, 0, h1, ⟨Nat.le_refl _, Kd.C_nil _ _⟩, h2 ▸ Below.refl _ _⟩
  | some p =>
    obtain ⟨ins, rfl, h2, rfl⟩ := h
    exact (words_calls w _ _ _ h2 hl).mono fun ev w'' ⟨A1, n1, c1, h1, h2, h3⟩ => by
      obtain ⟨m1, m2, m3⟩ := Kd.R_reads' h2
      subst m1
      exact ⟨A1, c1, h1, ⟨m2, m3⟩, h3⟩
theorem in_none (w : World) (o : Option (TypeId × Value)) : Calls Tryd.prog 20 #[encE o, .slice none 0 0] w fun e w' => e = .returned (encE o) ∧ w' = w := by
  cases o with
  | none => exact in_nil w none 0 0
  | some p => exact in_zero w p.1 p.2 none 0
theorem encE_C {W : World} {g : Nat} (o : Option (TypeId × Value)) (h : W.heap[g]? = some (.cells #[.nilIface, encE o, .nilIface] 29 (0, 0))) : kErr.C W (some ⟨g, 0, none⟩) 3 [none, o, none] := by
  refine ⟨rfl, by decide, fun _ => ⟨_, rfl, fun j p hj => ?_⟩⟩
  have hj3 : j < 3 := by
    rcases Nat.lt_or_ge j 3 with h | h
    · exact h
    · rw [List.getElem?_eq_none (by simpa using h)] at hj; cases hj
  refine ⟨[encE p], rfl, rfl, fun i u hu => ?_⟩
  obtain rfl : i = 0 := by
    rcases i with _ | i
    · rfl
    · simp at hu
  obtain rfl : u = encE p := by simpa using hu.symm
  rw [add_plain, cell_of_row _ _ _ _ _ _ h]
  match j, hj3, hj with
  | 0, _, hj => obtain rfl : none = p := by simpa using hj
                rfl
  | 1, _, hj => obtain rfl : o = p := by simpa using hj
                rfl
  | 2, _, hj => obtain rfl : none = p := by simpa using hj
                rfl
theorem join_one (w : World) (o : Option (TypeId × Value)) (g : Nat) (h : w.heap[g]? = some (.cells #[.nilIface, encE o, .nilIface] 29 (0, 0))) : Calls Tryd.prog 21 #[.slice (some ⟨g, 0, none⟩) 3 3] w fun e w' => e = .returned (encE o) ∧ Below w.heap.size w w' := by
  refine (join_calls ⟨g, 0, none⟩ 3 3 [none, o, none] w rfl (by decide) (by decide) (by decide) (encE_C o h)).mono ?_
  rintro e w' ⟨v, rfl, hj, hb⟩
  cases o with
  | none => exact ⟨congrArg _ hj, hb⟩
  | some p => exact ⟨congrArg _ hj, hb⟩
end
end Go.Proofs.YtelmmcjlhjahcaaDoor
