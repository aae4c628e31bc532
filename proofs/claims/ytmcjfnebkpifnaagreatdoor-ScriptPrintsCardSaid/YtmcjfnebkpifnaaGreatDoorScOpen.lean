/-
  Joined texts: Open, Open3, ScOpen.
-/
import Derived.Test.YtmcjfnebkpifnaaGreatDoorMem
import Derived.ProofKit
import Derived.OpenShut
import Derived.ShutString
import Derived.Below
import Derived.SizedLaws
import Derived.ChangeOld
import Derived.Deep.Slices
import Derived.Deep.Strs
import Derived.Test.YtmcjfnebkpifnaaGreatDoorScHex
/- Printed texts of this seat, cut to what is used. -/
namespace Go.Proofs.YtmcjfnebkpifnaaGreatDoor
open Go.RowKit Go.Deep Go.ChangeShapes Go.ChangeMaps Go.Proofs.YtmcjfnebkpifnaaGreatDoorW.PrintWords Go.Proofs.YtmcjfnebkpifnaaGreatDoorW.PrintMore
set_option linter.unusedVariables false

section
variable {H : Type} {enc : TypeId × Value → H} {P : Program} {w : World} {base : Nat} {spare : Nat → Bool} {held : Bool}

/-- Whatever reads as a datum of type t reads by the kind d, and is good. -/
def Opens (enc : TypeId × Value → H) (P : Program) (w : World) (base : Nat) (spare : Nat → Bool) (held : Bool) (t : TypeId) {α : Type} (d : Kd α) (good : α → Prop) : Prop :=
  ∀ fuel cs x, DataW.trod enc P w base spare held fuel t cs = some x → ∃ a, d.K w a cs ∧ good a

theorem opens_int {t : TypeId} {k : IntKind} (ht : P.underlying t = some (.int k)) : Opens enc P w base spare held t (Kd.int k) (fun n => (Lit.int k n).wf = true) := by
  intro fuel cs x h
  obtain ⟨n, rfl, _, hw⟩ := DataW.trod_int ht h
  exact ⟨n, rfl, hw⟩
theorem opens_string {t : TypeId} (ht : P.underlying t = some .string) : Opens enc P w base spare held t Kd.string (fun s => s.size ≤ maxLen) := by
  intro fuel cs x h
  obtain ⟨s, rfl, _, hs⟩ := DataW.trod_string ht h
  exact ⟨s, rfl, hs⟩

theorem cells?_at {a : Addr} {n : Nat} {cs : List Value} (h : w.cells? base a n = some cs) : cs.length = n ∧ ∀ (i : Nat) u, cs[i]? = some u → w.cell? (a.add i) = some u := by
  obtain ⟨h1, h2, h3⟩ := World.cells?_some h
  exact ⟨h2, fun i u hu => (h3 i (by rw [← h2]; exact (List.getElem?_eq_some_iff.1 hu).1)).trans hu⟩

theorem opens_slice {t e : TypeId} {α : Type} [Inhabited α] {d : Kd α} {good : α → Prop} (ht : P.underlying t = some (.slice e)) (hc : P.cellsOf e = d.sz) (he : Opens enc P w base spare held e d good) :
    Opens enc P w base spare held t (Kd.slice e d) (fun l => ∀ x ∈ l, good x) := by
  intro fuel cs x h
  rcases open_slice ht h with ⟨rfl, _⟩ | ⟨a, len, cap, m, n, D, Pl, rfl, hb, hl, hm, hmm, _, hel⟩
  · exact ⟨[], ⟨none, 0, rfl, Nat.le_refl _, Kd.C_nil d w⟩, by simp⟩
  · have hlm : len ≤ m := by rw [hmm]; split <;> omega
    have h1 : ∀ i, i < len → ∃ y : α × List Value, w.cells? base (a.add (i * d.sz)) d.sz = some y.2 ∧ d.K w y.1 y.2 ∧ good y.1 := by
      intro i hi
      obtain ⟨cs', hcs, htr⟩ := hel i (by omega)
      obtain ⟨y, hy, hg⟩ := he _ _ _ htr
      rw [hc] at hcs
      exact ⟨(y, cs'), hcs, hy, hg⟩
    have h2 : ∃ f : Nat → α × List Value, ∀ i, i < len → w.cells? base (a.add (i * d.sz)) d.sz = some (f i).2 ∧ d.K w (f i).1 (f i).2 ∧ good (f i).1 := by
      classical
      refine ⟨fun i => if hi : i < len then (h1 i hi).choose else (default, []), fun i hi => ?_⟩
      simp only [hi, dite_true]
      exact (h1 i hi).choose_spec
    obtain ⟨f, hf⟩ := h2
    refine ⟨(List.range len).map fun i => (f i).1, ⟨some a, cap, by simp, by simpa using hl, ?_⟩, ?_⟩
    · refine ⟨rfl, ?_, fun hpos => ⟨a, rfl, fun j p hj => ?_⟩⟩
      · simp [maxLen] at hm ⊢; omega
      · have hjl : j < len := by have := (List.getElem?_eq_some_iff.1 hj).1; simpa using this
        have hp : (f j).1 = p := by rw [List.getElem?_map, List.getElem?_range hjl] at hj; simpa using hj
        obtain ⟨q1, q2, q3⟩ := hf j hjl
        obtain ⟨r1, r2⟩ := cells?_at q1
        refine ⟨(f j).2, r1, hp ▸ q2, fun i u hu => ?_⟩
        rw [← Deep.add_add]
        exact r2 i u hu
    · intro x hx
      obtain ⟨i, hi, rfl⟩ := List.mem_map.1 hx
      exact (hf i (List.mem_range.1 hi)).2.2


theorem opens_iso {t : TypeId} {α β : Type} {d : Kd α} {f : β → α} {g : α → β} {good : α → Prop} (hfg : ∀ x, f (g x) = x) (h : Opens enc P w base spare held t d good) : Opens enc P w base spare held t (Kd.iso d f) (fun y => good (f y)) := by
  intro fuel cs x hx
  obtain ⟨a, ha, hg⟩ := h _ _ _ hx
  exact ⟨g a, by show d.K w (f (g a)) cs; rw [hfg]; exact ha, by show good (f (g a)); rw [hfg]; exact hg⟩
end
end Go.Proofs.YtmcjfnebkpifnaaGreatDoor

/-
  What a struct of three fields reads as.
-/
namespace Go.Proofs.YtmcjfnebkpifnaaGreatDoor
open Go.RowKit Go.Deep Go.ChangeShapes Go.ChangeMaps Go.Proofs.YtmcjfnebkpifnaaGreatDoorW.PrintWords Go.Proofs.YtmcjfnebkpifnaaGreatDoorW.PrintMore
set_option linter.unusedVariables false
section
variable {H : Type} {enc : TypeId × Value → H} {P : Program} {w : World} {base : Nat} {spare : Nat → Bool} {held : Bool}
theorem opens_triple {t : TypeId} {f0 f1 f2 : Field} {α β γ : Type} {a : Kd α} {b : Kd β} {c : Kd γ} {ga : α → Prop} {gb : β → Prop} {gc : γ → Prop} (ht : P.underlying t = some (.struct #[f0, f1, f2])) (o0 : f0.offset = 0) (o1 : f1.offset = a.sz) (o2 : f2.offset = a.sz + b.sz) (ca : P.cellsOf f0.type = a.sz) (cb : P.cellsOf f1.type = b.sz) (cc : P.cellsOf f2.type = c.sz) (ct : P.cellsOf t = a.sz + (b.sz + c.sz))
    (ha : Opens enc P w base spare held f0.type a ga) (hb : Opens enc P w base spare held f1.type b gb) (hc : Opens enc P w base spare held f2.type c gc) : Opens enc P w base spare held t (Kd.pair a (Kd.pair b c)) (fun x => ga x.1 ∧ gb x.2.1 ∧ gc x.2.2) := by
  intro fuel cs x h
  obtain ⟨y0, y1, y2, n, _, hl, h0, h1, h2⟩ := trod_struct3 ht h
  rw [o0, ca, List.drop_zero] at h0
  rw [o1, cb] at h1
  rw [o2, cc] at h2
  obtain ⟨p, hp, gp⟩ := ha _ _ _ h0
  obtain ⟨q, hq, gq⟩ := hb _ _ _ h1
  obtain ⟨r, hr, gr⟩ := hc _ _ _ h2
  refine ⟨(p, q, r), ⟨cs.take a.sz, cs.drop a.sz, by rw [List.take_append_drop], hp, ⟨(cs.drop a.sz).take b.sz, (cs.drop a.sz).drop b.sz, by rw [List.take_append_drop], hq, ?_⟩⟩, gp, gq, gr⟩
  rw [List.drop_drop]
  rw [List.take_of_length_le (l := cs.drop (a.sz + b.sz)) (by rw [List.length_drop, hl, ct]; omega)] at hr
  exact hr
end
end Go.Proofs.YtmcjfnebkpifnaaGreatDoor

/-
  What happenings that came in read as.
-/
namespace Go.Proofs.YtmcjfnebkpifnaaGreatDoor
open Go.RowKit Go.Deep Go.ChangeShapes Go.ChangeMaps Go.WideShapes Go.Proofs.YtmcjfnebkpifnaaGreatDoorW.PrintWords Go.Proofs.YtmcjfnebkpifnaaGreatDoorW.PrintMore Go.Proofs.YtmcjfnebkpifnaaGreatDoor.PScriptReads
set_option linter.unusedVariables false

instance : Inhabited S43 := ⟨z43⟩
theorem opens_hap {H : Type} (enc : TypeId × Value → H) (w : World) (base : Nat) (spare : Nat → Bool) (held : Bool) :
    Opens enc Tryz.prog w base spare held 43 k43 (fun x => (Lit.int .u8 x.f0).wf = true ∧ (Lit.int .i64 x.f1).wf = true ∧ x.f2.size ≤ maxLen) := by
  intro fuel cs x h
  exact opens_iso (f := fun x : S43 => (x.f0, x.f1, x.f2)) (g := fun p => S43.mk p.1 p.2.1 p.2.2) (fun _ => rfl)
    (opens_triple Tryz.underlying43 rfl rfl rfl (by kernel_rfl) (by kernel_rfl) (by kernel_rfl) (by kernel_rfl) (opens_int Tryz.underlying5) (opens_int Tryz.underlying3) (opens_string Tryz.underlying9)) fuel cs x h
theorem opens_haps {H : Type} (enc : TypeId × Value → H) (w : World) (base : Nat) (spare : Nat → Bool) (held : Bool) :
    Opens enc Tryz.prog w base spare held 22 (Kd.slice 43 k43) (fun l => ∀ x ∈ l, (Lit.int .u8 x.f0).wf = true ∧ (Lit.int .i64 x.f1).wf = true ∧ x.f2.size ≤ maxLen) :=
  opens_slice Tryz.underlying22 (by kernel_rfl) (opens_hap enc w base spare held)
end Go.Proofs.YtmcjfnebkpifnaaGreatDoor
