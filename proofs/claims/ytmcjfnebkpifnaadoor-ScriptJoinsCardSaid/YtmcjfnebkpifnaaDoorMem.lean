/-
  Memory: what is kept where only some blocks may turn; small readings. (Own words over the print's.)
-/
import Derived.Test.YtmcjfnebkpifnaaDoorProg
import Derived.Test.YtmcjfnebkpifnaaDoorWMore
import Derived.Test.YtmcjfnebkpifnaaDoorWWords
import Derived.Test.YtmcjfnebkpifnaaDoorWApart
import Derived.WalkSpells
import Derived.WalkLawsBesides
import Derived.StillTailTactics
namespace Go.Proofs.YtmcjfnebkpifnaaDoor
open Go.RowKit Go.Proofs.YtmcjfnebkpifnaaDoorW.PrintWords Go.Proofs.YtmcjfnebkpifnaaDoorW.PrintLast Go.Proofs.YtmcjfnebkpifnaaDoorW.PrintMore

/-- Of what was there only blocks that are ok may have turned. -/
structure Keeps (ok : Nat → Prop) (w w' : World) : Prop where
  os : w'.os = w.os
  tape : w'.tape = w.tape
  output : w'.output = w.output
  size : w.heap.size ≤ w'.heap.size
  block : ∀ k, k < w.heap.size → ¬ ok k → w'.heap[k]? = w.heap[k]?

theorem Keeps.refl (ok : Nat → Prop) (w : World) : Keeps ok w w := ⟨rfl, rfl, rfl, Nat.le_refl _, fun _ _ _ => rfl⟩
theorem Keeps.trans {ok : Nat → Prop} {a b c : World} (h : Keeps ok a b) (k : Keeps ok b c) : Keeps ok a c :=
  ⟨k.os.trans h.os, k.tape.trans h.tape, k.output.trans h.output, Nat.le_trans h.size k.size, fun i hi hn => (k.block i (Nat.lt_of_lt_of_le hi h.size) hn).trans (h.block i hi hn)⟩
theorem Keeps.below {ok : Nat → Prop} {a b c : World} (h : Keeps ok a b) (k : Below b.heap.size b c) : Keeps ok a c :=
  ⟨k.os.trans h.os, k.tape.trans h.tape, k.output.trans h.output, Nat.le_trans h.size k.size, fun i hi hn => (k.block i (Nat.lt_of_lt_of_le hi h.size)).trans (h.block i hi hn)⟩
theorem Keeps.alloc {ok : Nat → Prop} {a b : World} (h : Keeps ok a b) (o : Obj) : Keeps ok a (b.alloc o) := h.below (below_alloc (Below.refl _ _) o)
theorem Keeps.drew {ok : Nat → Prop} {a b : World} (h : Keeps ok a b) : Keeps ok a b.drew := h.below (below_drew (Below.refl _ _))
theorem Keeps.setCell {ok : Nat → Prop} {a b : World} (h : Keeps ok a b) {p : Addr} (hp : ok p.block) (u : Value) : Keeps ok a (b.setCell p u) :=
  h.trans ⟨rfl, rfl, rfl, by simp [World.setCell], fun k _ hn => Below.heap_setCell _ _ _ _ (fun e => hn (e ▸ hp))⟩
theorem Keeps.grown {ok : Nat → Prop} {a b c : World} {row : Option Nat} (h : Keeps ok a b) (hg : b.grownBy c row) (hr : ∀ k, row = some k → ok k) : Keeps ok a c :=
  h.trans ⟨hg.os, hg.tape, hg.output, hg.size, fun k hk hn => hg.block k hk (fun e => hn (hr k e.symm))⟩
theorem Keeps.toBelow {ok : Nat → Prop} {B : Nat} {a b : World} (h : Keeps ok a b) (hB : B ≤ a.heap.size) (hok : ∀ k, ok k → B ≤ k) : Below B a b :=
  ⟨h.os, h.tape, h.output, h.size, fun k hk => h.block k (Nat.lt_of_lt_of_le hk hB) (fun h' => Nat.lt_irrefl _ (Nat.lt_of_lt_of_le hk (hok k h')))⟩
theorem Keeps.ofBelow {B : Nat} {a b : World} (h : Below B a b) : Keeps (fun k => B ≤ k) a b := ⟨h.os, h.tape, h.output, h.size, fun k _ hn => h.block k (Nat.lt_of_not_le hn)⟩
theorem Keeps.mono {ok ok' : Nat → Prop} {a b : World} (h : Keeps ok a b) (hk : ∀ k, ok k → ok' k) : Keeps ok' a b := ⟨h.os, h.tape, h.output, h.size, fun k hk1 hn => h.block k hk1 (fun h' => hn (hk k h'))⟩
/-- A row whose blocks are none of those stays. -/
theorem R_keeps {α : Type} {d : Kd α} {e base : Nat} {w w1 : World} {ok ok' : Nat → Prop} {v : Value} {xs : List α} (h : d.R e w base ok' v xs) (k : Keeps ok w w1) (hn : ∀ i, ok' i → ¬ ok i) : d.R e w1 base ok' v xs :=
  Kd.R_step h (fun i hi hlt => k.block i hlt (hn i hi))
theorem below0 (w : World) : Below 0 w w := Below.refl _ _

theorem sl_of_R {α : Type} {d : Kd α} {e : Nat} {w : World} {base : Nat} {ok : Nat → Prop} {v : Value} {xs : List α} (h : d.R e w base ok v xs) : ∃ A n c, v = .slice A n c := by
  obtain ⟨A, c, rfl⟩ := Kd.R_slice h
  exact ⟨A, _, c, rfl⟩
theorem R_apart {α β : Type} {d : Kd α} {d' : Kd β} {e e' base base' : Nat} {ok ok' : Nat → Prop} {w : World} {v v' : Value} {xs : List α} {ys : List β} (h : d.R e w base ok v xs) (hv : d'.R e' w base' ok' v' ys) (ht : ∀ q, q ∈ e :: d.E → q ≠ e') : d.R e w base (fun k => ok k ∧ some k ≠ v'.ownBlock) v xs := by
  refine Kd.R_mono (Kd.R_bound h) (fun k hk => ⟨hk.1, fun he => ?_⟩)
  obtain ⟨_, _, _, q, hq, cells, hc⟩ := hk
  obtain ⟨cells', hc'⟩ := Kd.R_typed hv k he.symm
  rw [hc'] at hc
  injection hc with hc
  injection hc with _ hc
  exact ht q hq hc.symm
theorem R_readsM {α : Type} {d : Kd α} {e base n c : Nat} {ok : Nat → Prop} {w : World} {A : Option Addr} {xs : List α} (h : d.R e w base ok (.slice A n c) xs) :
    n = xs.length ∧ n ≤ c ∧ ReadsRow (d.M w base ok) d.sz w A n xs := by
  obtain ⟨A', c', he, hl, hr⟩ := OwnRow.reads h.2
  injection he with e1 e2 e3
  subst e1 e2 e3
  exact ⟨rfl, hl, hr.imp_ (Below.refl _ _) (fun _ _ hp => d.M_mono (fun _ hk => hk.1) hp)⟩
theorem R_empty {α : Type} (d : Kd α) (e : Nat) (w : World) (base : Nat) (ok : Nat → Prop) (hb : base ≤ w.heap.size) (hok : ok w.heap.size) : d.R e (w.alloc (.cells #[] e)) base ok (.slice (some ⟨w.heap.size, 0, none⟩) 0 0) [] :=
  ⟨fun k hk => by have : w.heap.size = k := by simpa [Value.ownBlock] using hk
                  exact this ▸ hok, [], World.ownsRow_made w #[] 0 hb (by decide) (by simp), Reps.none _ _⟩
/-- Element i of a slice of slices. -/
theorem rows_at {α : Type} {d : Kd α} {e : Nat} {w : World} {A : Option Addr} {n : Nat} {xss : List (List α)} (h : (Kd.slice e d).C w A n xss) (i : Nat) (hi : i < n) :
    ∃ ad A' c', A = some ad ∧ w.cell? (ad.add i) = some (.slice A' (xss.getD i []).length c') ∧ (xss.getD i []).length ≤ c' ∧ d.C w A' (xss.getD i []).length (xss.getD i []) := by
  have hl : i < xss.length := by have := Kd.C_len h; omega
  obtain ⟨ad, e1, hc⟩ := h.2.2 (by omega)
  obtain ⟨c, hs, ⟨A', c', rfl, h1, h2⟩, hcell⟩ := hc i _ (List.getElem?_eq_getElem hl)
  have hg : xss.getD i [] = xss[i] := by rw [List.getD_eq_getElem?_getD, List.getElem?_eq_getElem hl]; rfl
  rw [hg]
  have h3 := hcell 0 _ rfl
  have h4 : (Kd.slice e d).sz = 1 := rfl
  rw [h4, Nat.mul_one, Nat.add_zero] at h3
  exact ⟨ad, A', c', e1, h3, h1, h2⟩
/-- A literal of slices, in the block that was just made. -/
theorem lit_rows {α : Type} {d : Kd α} {e0 : Nat} (W : World) (e : Nat) (vs : List Value) (xss : List (List α)) (hm : xss.length ≤ 100000) (h : ∀ (j : Nat) p, xss[j]? = some p → ∃ A c, vs[j]? = some (.slice A p.length c) ∧ p.length ≤ c ∧ d.C W A p.length p) :
    (Kd.slice e0 d).C (W.alloc (.cells vs.toArray e)) (some ⟨W.heap.size, 0, none⟩) xss.length xss := by
  refine ⟨rfl, by omega, fun _ => ⟨_, rfl, fun j p hj => ?_⟩⟩
  obtain ⟨A, c, hv, hc, hr⟩ := h j p hj
  refine ⟨[.slice A p.length c], rfl, ⟨A, c, rfl, hc, Kd.C_alloc hr _⟩, fun i u hu => ?_⟩
  have hi : i = 0 := by
    have := (List.getElem?_eq_some_iff.1 hu).1
    simpa using this
  subst hi
  have hu' : Value.slice A p.length c = u := by simpa using hu
  subst hu'
  have e1 : (Kd.slice e0 d).sz = 1 := rfl
  rw [e1, Nat.mul_one, Nat.add_zero, add_plain, cell_of_row _ _ _ _ _ _ (heap_alloc_new W _)]
  simpa using hv
theorem lit_row1 {α : Type} {d : Kd α} {e0 : Nat} (W : World) (e : Nat) (A : Option Addr) (n c : Nat) (xs : List α) (hc : n ≤ c) (h : d.C W A n xs) :
    (Kd.slice e0 d).C (W.alloc (.cells #[.slice A n c] e)) (some ⟨W.heap.size, 0, none⟩) 1 [xs] := by
  have hn := Kd.C_len h
  subst hn
  refine lit_rows W e [.slice A xs.length c] [xs] (by simp) (fun j p hj => ?_)
  match j, hj with
  | 0, hj =>
    obtain rfl : xs = p := by simpa using hj
    exact ⟨A, c, rfl, hc, h⟩
end Go.Proofs.YtmcjfnebkpifnaaDoor
