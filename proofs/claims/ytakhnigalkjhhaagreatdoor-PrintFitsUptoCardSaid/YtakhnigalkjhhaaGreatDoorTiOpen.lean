/-
  Joined texts: Open, TiOpen.
-/
import Derived.Test.YtakhnigalkjhhaaGreatDoorTiMem
import Derived.ProofKit
import Derived.OpenShut
import Derived.ShutString
import Derived.Below
import Derived.SizedLaws
import Derived.ChangeOld
import Derived.Deep.Slices
import Derived.Test.YtakhnigalkjhhaaGreatDoorTiGeo
import Derived.Test.YtakhnigalkjhhaaGreatDoorRows
/- Printed texts of this seat, cut to what is used. -/
namespace Go.Proofs.YtakhnigalkjhhaaGreatDoor
open Go.RowKit Go.Deep Go.ChangeShapes Go.ChangeMaps Go.Proofs.YtakhnigalkjhhaaGreatDoorW.PrintWords Go.Proofs.YtakhnigalkjhhaaGreatDoorW.PrintMore
set_option linter.unusedVariables false

section
variable {H : Type} {enc : TypeId × Value → H} {P : Program} {w : World} {base : Nat} {spare : Nat → Bool} {held : Bool}



theorem cells?_at {a : Addr} {n : Nat} {cs : List Value} (h : w.cells? base a n = some cs) : cs.length = n ∧ ∀ (i : Nat) u, cs[i]? = some u → w.cell? (a.add i) = some u := by
  obtain ⟨h1, h2, h3⟩ := World.cells?_some h
  exact ⟨h2, fun i u hu => (h3 i (by rw [← h2]; exact (List.getElem?_eq_some_iff.1 hu).1)).trans hu⟩



end
end Go.Proofs.YtakhnigalkjhhaaGreatDoor

/-
  What a tree that came in reads as, and how many cells it has at most.
-/
namespace Go.Proofs.YtakhnigalkjhhaaGreatDoor
open Go.RowKit Go.Deep Go.ChangeShapes Go.ChangeMaps Go.WideShapes Go.Proofs.YtakhnigalkjhhaaGreatDoorW.PrintWords Go.Proofs.YtakhnigalkjhhaaGreatDoorW.PrintMore Go.Proofs.YtakhnigalkjhhaaGreatDoor.PPrintFits
set_option linter.unusedVariables false
set_option linter.unusedSimpArgs false
set_option maxRecDepth 100000

theorem bulk_one {H : Type} (d : DataW H) : 1 ≤ Rows.uptoBulk d := by
  cases d with
  | lit l => cases l <;> simp [Rows.uptoBulk]
  | nil => simp [Rows.uptoBulk]
  | ptr d => simp [Rows.uptoBulk]
  | slice elems spare => simp [Rows.uptoBulk]
  | agg parts => simp [Rows.uptoBulk]
  | iface t d => simp [Rows.uptoBulk]
  | map entries => simp [Rows.uptoBulk]
  | held h => simp [Rows.uptoBulk]
theorem bulk_mem {H : Type} {d : DataW H} {l : List (DataW H)} (h : d ∈ l) : Rows.uptoBulk d ≤ Rows.uptoBulkAll l := by
  induction l with
  | nil => cases h
  | cons x r ih =>
    simp only [Rows.uptoBulkAll]
    rcases List.mem_cons.1 h with e | e
    · subst e; omega
    · have := ih e; omega

theorem cofI : Tryz.prog.cellsOf 3 = 1 := by kernel_rfl
theorem cofU : Tryz.prog.cellsOf 5 = 1 := by kernel_rfl
theorem cofR : Tryz.prog.cellsOf 28 = 4 := by kernel_rfl
theorem cofS : Tryz.prog.cellsOf 22 = 1 := by kernel_rfl
section
variable {H : Type} {enc : TypeId × Value → H} {w : World} {base : Nat} {spare : Nat → Bool} {held : Bool}

theorem opens_rect {fuel : Nat} {cs : List Value} {x : DataW H × List MemPlace} (h : DataW.trod enc Tryz.prog w base spare held fuel 28 cs = some x) : ∃ r : SR, cs = [.int .i64 r.f0, .int .i64 r.f1, .int .i64 r.f2, .int .i64 r.f3] := by
  obtain ⟨xs, n, _, rfl, hl, hlen, hf⟩ := DataW.trod_struct Tryz.underlying28 h
  have hl4 : cs.length = 4 := hl
  match cs, hl4 with
  | [a, b, c, d], _ =>
    match xs, hlen with
    | [y0, y1, y2, y3], _ =>
      have t0 : DataW.trod enc Tryz.prog w base spare held n 3 [a] = some y0 := by simpa [cofI, cofU, cofR, cofS] using hf 0 _ rfl
      have t1 : DataW.trod enc Tryz.prog w base spare held n 3 [b] = some y1 := by simpa [cofI, cofU, cofR, cofS] using hf 1 _ rfl
      have t2 : DataW.trod enc Tryz.prog w base spare held n 3 [c] = some y2 := by simpa [cofI, cofU, cofR, cofS] using hf 2 _ rfl
      have t3 : DataW.trod enc Tryz.prog w base spare held n 3 [d] = some y3 := by simpa [cofI, cofU, cofR, cofS] using hf 3 _ rfl
      obtain ⟨n0, e0, _⟩ := DataW.trod_int Tryz.underlying3 t0
      obtain ⟨n1, e1, _⟩ := DataW.trod_int Tryz.underlying3 t1
      obtain ⟨n2, e2, _⟩ := DataW.trod_int Tryz.underlying3 t2
      obtain ⟨n3, e3, _⟩ := DataW.trod_int Tryz.underlying3 t3
      injection e0 with e0 _
      injection e1 with e1 _
      injection e2 with e2 _
      injection e3 with e3 _
      exact ⟨⟨n0, n1, n2, n3⟩, by rw [e0, e1, e2, e3]⟩

theorem sum_cells (D : Nat → DataW H) (f : Nat → SC) (len : Nat) (h : ∀ i, i < len → (cells (f i)).length ≤ Rows.uptoBulk (D i)) : (cellsL ((List.range len).map f)).length ≤ Rows.uptoBulkAll ((List.range len).map D) := by
  have : ∀ l : List Nat, (∀ i ∈ l, i < len) → (cellsL (l.map f)).length ≤ Rows.uptoBulkAll (l.map D) := by
    intro l
    induction l with
    | nil => intro _; simp [cellsL_nil, Rows.uptoBulkAll]
    | cons i l ih =>
      intro hl
      have h1 := h i (hl i (by simp))
      have h2 := ih (fun j hj => hl j (by simp [hj]))
      simp only [List.map_cons, cellsL_cons, List.length_append, Rows.uptoBulkAll]
      omega
  exact this _ (fun i hi => List.mem_range.1 hi)

/-- A row of cells, if each element opens. -/
theorem opens_cells_of (N : Nat) (he : ∀ fuel cs x, Rows.uptoBulk (Prod.fst x) ≤ N → DataW.trod enc Tryz.prog w base spare held fuel 30 cs = some x → ∃ c : SC, (k30).K w c cs ∧ (cells c).length ≤ Rows.uptoBulk (Prod.fst x))
    {fuel : Nat} {cs : List Value} {x : DataW H × List MemPlace} (hN : Rows.uptoBulk x.1 ≤ N + 1) (h : DataW.trod enc Tryz.prog w base spare held fuel 22 cs = some x) :
    ∃ (l : List SC) (A : Option Addr) (cap : Nat), cs = [.slice A l.length cap] ∧ l.length ≤ cap ∧ (k30).C w A l.length l ∧ (cellsL l).length + 1 ≤ Rows.uptoBulk x.1 := by
  rcases open_slice Tryz.underlying22 h with ⟨rfl, rfl⟩ | ⟨a, len, cap, m, n, D, Pl, rfl, hb, hl, hm, hmm, rfl, hel⟩
  · exact ⟨[], none, 0, rfl, Nat.le_refl _, Kd.C_nil _ w, by simp [cellsL_nil, Rows.uptoBulk]⟩
  · have hlm : len ≤ m := by rw [hmm]; split <;> omega
    have hc : Tryz.prog.cellsOf 30 = 7 := by kernel_rfl
    have hbk : Rows.uptoBulkAll ((List.range len).map D) + Rows.uptoBulkAll ((List.range (m - len)).map fun j => D (len + j)) + 1 ≤ N + 1 := by simpa only [Rows.uptoBulk] using hN
    have hD : ∀ i, i < len → Rows.uptoBulk (D i) ≤ N := fun i hi => by
      have := bulk_mem (List.mem_map.2 ⟨i, List.mem_range.2 hi, rfl⟩ : D i ∈ (List.range len).map D)
      omega
    have h1 : ∀ i, i < len → ∃ y : SC × List Value, w.cells? base (a.add (i * 7)) 7 = some y.2 ∧ (k30).K w y.1 y.2 ∧ (cells y.1).length ≤ Rows.uptoBulk (D i) := by
      intro i hi
      obtain ⟨cs', hcs, htr⟩ := hel i (by omega)
      obtain ⟨y, hy, hg⟩ := he _ _ _ (hD i hi) htr
      rw [hc] at hcs
      exact ⟨(y, cs'), hcs, hy, hg⟩
    have h2 : ∃ f : Nat → SC × List Value, ∀ i, i < len → w.cells? base (a.add (i * 7)) 7 = some (f i).2 ∧ (k30).K w (f i).1 (f i).2 ∧ (cells (f i).1).length ≤ Rows.uptoBulk (D i) := by
      classical
      refine ⟨fun i => if hi : i < len then (h1 i hi).choose else (z30, []), fun i hi => ?_⟩
      simp only [hi, dite_true]
      exact (h1 i hi).choose_spec
    obtain ⟨f, hf⟩ := h2
    refine ⟨(List.range len).map fun i => (f i).1, some a, cap, by simp, by simpa using hl, ?_, ?_⟩
    · refine ⟨rfl, ?_, fun hpos => ⟨a, rfl, fun j p hj => ?_⟩⟩
      · simp [maxLen] at hm ⊢; omega
      · have hjl : j < len := by have := (List.getElem?_eq_some_iff.1 hj).1; simpa using this
        have hp : (f j).1 = p := by rw [List.getElem?_map, List.getElem?_range hjl] at hj; simpa using hj
        obtain ⟨q1, q2, q3⟩ := hf j hjl
        obtain ⟨r1, r2⟩ := cells?_at q1
        refine ⟨(f j).2, r1, hp ▸ q2, fun i u hu => ?_⟩
        have hsz : (k30).sz = 7 := rfl
        rw [hsz, ← Deep.add_add]
        exact r2 i u hu
    · have := sum_cells D (fun i => (f i).1) len (fun i hi => (hf i hi).2.2)
      simp only [Rows.uptoBulk]
      omega

theorem opens_cell : ∀ (N fuel : Nat) (cs : List Value) (x : DataW H × List MemPlace), Rows.uptoBulk x.1 ≤ N → DataW.trod enc Tryz.prog w base spare held fuel 30 cs = some x → ∃ c : SC, (k30).K w c cs ∧ (cells c).length ≤ Rows.uptoBulk x.1 := by
  intro N
  induction N with
  | zero => intro fuel cs x h _; have := bulk_one x.1; omega
  | succ N ih =>
    intro fuel cs x hN h
    obtain ⟨xs, n, _, rfl, hl, hlen, hf⟩ := DataW.trod_struct Tryz.underlying30 h
    have hl7 : cs.length = 7 := hl
    match cs, hl7 with
    | [a0, a1, a2, a3, a4, a5, a6], _ =>
      match xs, hlen with
      | [y0, y1, y2, y3], _ =>
        have t0 : DataW.trod enc Tryz.prog w base spare held n 5 [a0] = some y0 := by simpa [cofI, cofU, cofR, cofS] using hf 0 _ rfl
        have t1 : DataW.trod enc Tryz.prog w base spare held n 28 [a1, a2, a3, a4] = some y1 := by simpa [cofI, cofU, cofR, cofS] using hf 1 _ rfl
        have t2 : DataW.trod enc Tryz.prog w base spare held n 3 [a5] = some y2 := by simpa [cofI, cofU, cofR, cofS] using hf 2 _ rfl
        have t3 : DataW.trod enc Tryz.prog w base spare held n 22 [a6] = some y3 := by simpa [cofI, cofU, cofR, cofS] using hf 3 _ rfl
        have hb0 := bulk_one y0.1
        have hb1 := bulk_one y1.1
        have hbk : Rows.uptoBulk y0.1 + (Rows.uptoBulk y1.1 + (Rows.uptoBulk y2.1 + (Rows.uptoBulk y3.1 + 0))) + 1 ≤ N + 1 := by simpa only [Rows.uptoBulk, Rows.uptoBulkAll, List.map_cons, List.map_nil] using hN
        obtain ⟨k, e0, _⟩ := DataW.trod_int Tryz.underlying5 t0
        obtain ⟨r, e1⟩ := opens_rect t1
        obtain ⟨i, e2, _⟩ := DataW.trod_int Tryz.underlying3 t2
        obtain ⟨l, A, cap, e3, hcap, hC, hcl⟩ := opens_cells_of N ih (by omega) t3
        injection e0 with e0 _
        injection e2 with e2 _
        injection e3 with e3 _
        injection e1 with p1 e1
        injection e1 with p2 e1
        injection e1 with p3 e1
        injection e1 with p4 _
        refine ⟨⟨k, r, i, l⟩, ?_, ?_⟩
        · rw [e0, p1, p2, p3, p4, e2, e3]
          exact k30_mk w ⟨k, r, i, l⟩ hcap hC
        · have hcs : (cells (⟨k, r, i, l⟩ : SC)).length = 1 + (cellsL l).length := by rw [cells_eq]; simp; omega
          rw [hcs]
          simp only [Rows.uptoBulk, Rows.uptoBulkAll, List.map_cons, List.map_nil]
          omega
theorem opens_cells {N fuel : Nat} {cs : List Value} {x : DataW H × List MemPlace} (hN : Rows.uptoBulk x.1 ≤ N) (h : DataW.trod enc Tryz.prog w base spare held fuel 22 cs = some x) :
    ∃ (l : List SC) (A : Option Addr) (cap : Nat), cs = [.slice A l.length cap] ∧ l.length ≤ cap ∧ (k30).C w A l.length l ∧ (cellsL l).length + 1 ≤ Rows.uptoBulk x.1 :=
  opens_cells_of N (fun fuel cs x hx => opens_cell N fuel cs x hx) (by omega) h
end
end Go.Proofs.YtakhnigalkjhhaaGreatDoor
