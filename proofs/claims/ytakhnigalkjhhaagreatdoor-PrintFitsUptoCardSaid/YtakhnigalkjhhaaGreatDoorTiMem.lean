/-
  Joined texts: Mem, TiMem.
-/
import Derived.Test.YtakhnigalkjhhaaGreatDoorProg
import Derived.Test.YtakhnigalkjhhaaGreatDoorWMore
import Derived.Test.YtakhnigalkjhhaaGreatDoorWGuard
import Derived.Test.YtakhnigalkjhhaaGreatDoorWApart
import Derived.Test.YtakhnigalkjhhaaGreatDoorWWords
import Derived.WalkSpells
import Derived.WalkLawsBesides
import Derived.StillTailTactics
import Derived.Test.YtakhnigalkjhhaaGreatDoorTiGeo
import Derived.BigCall
import Derived.Lib.Walk
import Derived.WalkKit
import Derived.Deep.LoopGhost
/- Printed texts of this seat, cut to what is used. -/
namespace Go.Proofs.YtakhnigalkjhhaaGreatDoor
open Go.RowKit Go.Proofs.YtakhnigalkjhhaaGreatDoorW.PrintWords Go.Proofs.YtakhnigalkjhhaaGreatDoorW.PrintLast Go.Proofs.YtakhnigalkjhhaaGreatDoorW.PrintMore

/-- Of what was there only blocks that are ok may have turned. -/
structure Keeps (ok : Nat → Prop) (w w' : World) : Prop where
  os : w'.os = w.os
  tape : w'.tape = w.tape
  output : w'.output = w.output
  size : w.heap.size ≤ w'.heap.size
  block : ∀ k, k < w.heap.size → ¬ ok k → w'.heap[k]? = w.heap[k]?

theorem Keeps.refl (ok : Nat → Prop) (w : World) : Keeps ok w w := ⟨rfl, rfl, rfl, Nat.le_refl _, fun _ _ _ => rfl⟩
theorem Keeps.trans {ok : Nat → Prop} {a b c : World} (h : Keeps ok a b) (k : Keeps ok b c) : Keeps ok a c :=
  ⟨k.os.trans h.os, k.tape.trans h.tape, k.output.trans h.output, Nat.le_trans h.size k.size, fun i hi hn => (k.block i (Nat.lt_of_lt_of_le hi h.size) hn).trans (h.block i hi hn)⟩
theorem Keeps.below {ok : Nat → Prop} {a b c : World} (h : Keeps ok a b) (k : Below b.heap.size b c) : Keeps ok a c :=
  ⟨k.os.trans h.os, k.tape.trans h.tape, k.output.trans h.output, Nat.le_trans h.size k.size, fun i hi hn => (k.block i (Nat.lt_of_lt_of_le hi h.size)).trans (h.block i hi hn)⟩
theorem Keeps.alloc {ok : Nat → Prop} {a b : World} (h : Keeps ok a b) (o : Obj) : Keeps ok a (b.alloc o) := h.below (below_alloc (Below.refl _ _) o)
theorem Keeps.drew {ok : Nat → Prop} {a b : World} (h : Keeps ok a b) : Keeps ok a b.drew := h.below (below_drew (Below.refl _ _))
theorem Keeps.setCell {ok : Nat → Prop} {a b : World} (h : Keeps ok a b) {p : Addr} (hp : ok p.block) (u : Value) : Keeps ok a (b.setCell p u) :=
  h.trans ⟨rfl, rfl, rfl, by simp [World.setCell], fun k _ hn => Below.heap_setCell _ _ _ _ (fun e => hn (e ▸ hp))⟩
theorem Keeps.grown {ok : Nat → Prop} {a b c : World} {row : Option Nat} (h : Keeps ok a b) (hg : b.grownBy c row) (hr : ∀ k, row = some k → ok k) : Keeps ok a c :=
  h.trans ⟨hg.os, hg.tape, hg.output, hg.size, fun k hk hn => hg.block k hk (fun e => hn (hr k e.symm))⟩
theorem Keeps.toBelow {ok : Nat → Prop} {B : Nat} {a b : World} (h : Keeps ok a b) (hB : B ≤ a.heap.size) (hok : ∀ k, ok k → B ≤ k) : Below B a b :=
  ⟨h.os, h.tape, h.output, h.size, fun k hk => h.block k (Nat.lt_of_lt_of_le hk hB) (fun h' => Nat.lt_irrefl _ (Nat.lt_of_lt_of_le hk (hok k h')))⟩
theorem Keeps.ofBelow {B : Nat} {a b : World} (h : Below B a b) : Keeps (fun k => B ≤ k) a b := ⟨h.os, h.tape, h.output, h.size, fun k _ hn => h.block k (Nat.lt_of_not_le hn)⟩
theorem Keeps.mono {ok ok' : Nat → Prop} {a b : World} (h : Keeps ok a b) (hk : ∀ k, ok k → ok' k) : Keeps ok' a b := ⟨h.os, h.tape, h.output, h.size, fun k hk1 hn => h.block k hk1 (fun h' => hn (hk k h'))⟩

theorem sl_of_R {α : Type} {d : Kd α} {e : Nat} {w : World} {base : Nat} {ok : Nat → Prop} {v : Value} {xs : List α} (h : d.R e w base ok v xs) : ∃ A n c, v = .slice A n c := by
  obtain ⟨A, c, rfl⟩ := Kd.R_slice h
  exact ⟨A, _, c, rfl⟩
end Go.Proofs.YtakhnigalkjhhaaGreatDoor

/-
  Trees in memory; slices.IndexFunc over cells with a function value that keeps a state.
-/
namespace Go.Proofs.YtakhnigalkjhhaaGreatDoor
open Go.RowKit Go.Proofs.YtakhnigalkjhhaaGreatDoorW.PrintWords Go.Proofs.YtakhnigalkjhhaaGreatDoorW.PrintLast Go.Proofs.YtakhnigalkjhhaaGreatDoorW.PrintMore Go.Proofs.YtakhnigalkjhhaaGreatDoor.PPrintFits
set_option linter.unusedVariables false
set_option linter.unusedSimpArgs false
set_option maxRecDepth 100000

/-- A row of cells that is only read, and lies below B. -/
def Tr (B : Nat) (w : World) (A : Option Addr) (n : Nat) (xs : List SC) : Prop := Kd.F k30 w (fun k => k < B) A n xs
theorem Tr.now {B : Nat} {w : World} {A : Option Addr} {n : Nat} {xs : List SC} (h : Tr B w A n xs) : (k30).C w A n xs := Kd.F_now h
theorem Tr.of {w : World} {A : Option Addr} {n : Nat} {xs : List SC} (h : (k30).C w A n xs) : Tr w.heap.size w A n xs := fun W' hW => k30_heap.C (fun k hk => hW k hk hk) h
theorem Tr.mono {B B' : Nat} {w : World} {A : Option Addr} {n : Nat} {xs : List SC} (h : Tr B w A n xs) (hB : B ≤ B') : Tr B' w A n xs := Kd.F_mono h (fun k hk => Nat.lt_of_lt_of_le hk hB)
theorem Tr.below {B : Nat} {w w' : World} {A : Option Addr} {n : Nat} {xs : List SC} (h : Tr B w A n xs) (hb : Below B w w') : Tr B w' A n xs := Kd.F_step h (fun k hk _ => hb.block k hk)
theorem Tr.len {B : Nat} {w : World} {A : Option Addr} {n : Nat} {xs : List SC} (h : Tr B w A n xs) : xs.length = n := Kd.F_len h
theorem Tr.max {B : Nat} {w : World} {A : Option Addr} {n : Nat} {xs : List SC} (h : Tr B w A n xs) : n ≤ 9223372036854775807 := Kd.F_max h
theorem Tr.get {B : Nat} {w : World} {A : Option Addr} {n : Nat} {xs : List SC} (h : Tr B w A n xs) (k : Nat) (hk : k < n) : ∃ ad A6 c6, A = some ad ∧
    w.cell? (ad.add (k * 7)) = some (.int .u8 (xs.getD k z30).f0) ∧
    w.cell? ⟨(ad.add (k * 7)).block, (ad.add (k * 7)).off + 1, none⟩ = some (.int .i64 (xs.getD k z30).f1.f0) ∧
    w.cell? ⟨(ad.add (k * 7)).block, (ad.add (k * 7)).off + 2, none⟩ = some (.int .i64 (xs.getD k z30).f1.f1) ∧
    w.cell? ⟨(ad.add (k * 7)).block, (ad.add (k * 7)).off + 3, none⟩ = some (.int .i64 (xs.getD k z30).f1.f2) ∧
    w.cell? ⟨(ad.add (k * 7)).block, (ad.add (k * 7)).off + 4, none⟩ = some (.int .i64 (xs.getD k z30).f1.f3) ∧
    w.cell? ⟨(ad.add (k * 7)).block, (ad.add (k * 7)).off + 5, none⟩ = some (.int .i64 (xs.getD k z30).f2) ∧
    w.cell? ⟨(ad.add (k * 7)).block, (ad.add (k * 7)).off + 6, none⟩ = some (.slice A6 (xs.getD k z30).f3.length c6) ∧
    (xs.getD k z30).f3.length ≤ c6 ∧ Tr B w A6 (xs.getD k z30).f3.length (xs.getD k z30).f3 := by
  obtain ⟨ad, c, e, _, hK, hc0, _⟩ := Kd.F_get h z30 (k : Int) (by omega) (by omega)
  rw [Int.toNat_natCast] at hK hc0
  have hc : ∀ j u, c[j]? = some u → w.cell? (ad.add (k * 7 + j)) = some u := hc0
  obtain ⟨A6, c6, rfl, l6, g6⟩ := k30_openF hK
  exact ⟨ad, A6, c6, e, hc 0 _ rfl, by rw [← add_field _ _ 1 (by omega)]; exact hc 1 _ rfl, by rw [← add_field _ _ 2 (by omega)]; exact hc 2 _ rfl, by rw [← add_field _ _ 3 (by omega)]; exact hc 3 _ rfl, by rw [← add_field _ _ 4 (by omega)]; exact hc 4 _ rfl, by rw [← add_field _ _ 5 (by omega)]; exact hc 5 _ rfl, by rw [← add_field _ _ 6 (by omega)]; exact hc 6 _ rfl, l6, g6⟩

/-- The blocks that may turn: those from B to N, and rows of rectangles from B on. -/
def Loose (B N : Nat) (w : World) (k : Nat) : Prop := B ≤ k ∧ (k < N ∨ ∃ cs, w.heap[k]? = some (.cells cs 28 (0, 0)))
/-- Only such blocks may have turned. -/
structure Mid (B N : Nat) (w w' : World) : Prop where mk :: (out : Keeps (Loose B N w) w w')
theorem Mid.refl (B N : Nat) (w : World) : Mid B N w w := ⟨Keeps.refl _ _⟩
theorem Mid.size {B N : Nat} {w w' : World} (h : Mid B N w w') : w.heap.size ≤ w'.heap.size := h.out.size
theorem Mid.trans {B N : Nat} {a b c : World} (h : Mid B N a b) (k : Mid B N b c) : Mid B N a c :=
  ⟨⟨k.out.os.trans h.out.os, k.out.tape.trans h.out.tape, k.out.output.trans h.out.output, Nat.le_trans h.out.size k.out.size, fun i hi hn => by
    have e := h.out.block i hi hn
    refine (k.out.block i (Nat.lt_of_lt_of_le hi h.out.size) (fun hl => hn ⟨hl.1, hl.2.imp id (fun ⟨cs, hc⟩ => ⟨cs, ?_⟩)⟩)).trans e
    rw [← e]; exact hc⟩⟩
theorem Mid.below {B N : Nat} {a b c : World} (h : Mid B N a b) (k : Below b.heap.size b c) : Mid B N a c := ⟨h.out.below k⟩
theorem Mid.ofBelow {B N : Nat} {w w' : World} (h : Below w.heap.size w w') : Mid B N w w' := (Mid.refl B N w).below h
theorem Mid.setCell {B N : Nat} {a b : World} (h : Mid B N a b) {p : Addr} (hp : B ≤ p.block ∧ p.block < N) (u : Value) : Mid B N a (b.setCell p u) := ⟨h.out.setCell ⟨hp.1, .inl hp.2⟩ u⟩
theorem Mid.grown {B N : Nat} {a b c : World} {row : Option Nat} (h : Mid B N a b) (hg : b.grownBy c row) (hr : ∀ k, row = some k → B ≤ k ∧ k < N) : Mid B N a c := ⟨h.out.grown hg (fun k hk => ⟨(hr k hk).1, .inl (hr k hk).2⟩)⟩
theorem Mid.grownR {B N : Nat} {b c : World} {row : Option Nat} (hg : b.grownBy c row) (hr : ∀ k, row = some k → B ≤ k ∧ ∃ cs, b.heap[k]? = some (.cells cs 28 (0, 0))) : Mid B N b c :=
  ⟨(Keeps.refl _ _).grown hg (fun k hk => ⟨(hr k hk).1, .inr (hr k hk).2⟩)⟩
theorem Mid.toB {B N : Nat} {w w' : World} (h : Mid B N w w') (hB : B ≤ w.heap.size) : Below B w w' := h.out.toBelow hB (fun _ hk => hk.1)
theorem Mid.blk {B N : Nat} {w w' : World} (h : Mid B N w w') {p t : Nat} {cs : Array Value} (hc : w.heap[p]? = some (.cells cs t (0, 0))) (hN : N ≤ p) (ht : t ≠ 28) : w'.heap[p]? = some (.cells cs t (0, 0)) :=
  (h.out.block p (blk_lt hc) (fun hk => by
    rcases hk.2 with h1 | ⟨cs', h1⟩
    · omega
    · rw [hc] at h1
      injection h1 with h1
      injection h1 with _ h1
      exact ht h1)).trans hc

/-- A state that is kept whatever is made beside it; it may have used up to u. -/
structure Stable {σ : Type} (Inv : World → σ → Nat → Prop) : Prop where
  below : ∀ w w' st u, Inv w st u → Below w.heap.size w w' → Inv w' st u
  mono : ∀ w st u u', Inv w st u → u ≤ u' → Inv w st u'

/-- What a function value over cells does: it answers with F, keeps the state, uses up to wt, and turns only blocks from B to N. -/
def PredF {σ : Type} (B N M g : Nat) (lb : Array Value) (Inv : World → σ → Nat → Prop) (wt : SC → Nat) (F : σ → SC → Bool × σ) (xs : List SC) : Prop :=
  ∀ x ∈ xs, ∀ (w : World) (st : σ) (u : Nat) (A : Option Addr) (cap : Nat), Inv w st u → u + wt x ≤ M → N ≤ w.heap.size → x.f3.length ≤ cap → Tr B w A x.f3.length x.f3 →
    Calls Tryz.prog g (#[.agg #[.int .u8 x.f0, .int .i64 x.f1.f0, .int .i64 x.f1.f1, .int .i64 x.f1.f2, .int .i64 x.f1.f3, .int .i64 x.f2, .slice A x.f3.length cap]] ++ lb) w
      fun e w' => e = .returned (.bool (F st x).1) ∧ Inv w' (F st x).2 (u + wt x) ∧ Mid B N w w'
theorem PredF.sub {σ : Type} {B N M g : Nat} {lb : Array Value} {Inv : World → σ → Nat → Prop} {wt : SC → Nat} {F : σ → SC → Bool × σ} {xs ys : List SC} (h : PredF B N M g lb Inv wt F xs) (hs : ∀ x ∈ ys, x ∈ xs) : PredF B N M g lb Inv wt F ys := fun x hx => h x (hs x hx)

theorem anyL_drop {σ : Type} (F : σ → SC → Bool × σ) (st : σ) (xs : List SC) (k : Nat) (hk : k < xs.length) :
    anyL F st (xs.drop k) = if (F st (xs.getD k z30)).1 = true then (true, (F st (xs.getD k z30)).2) else anyL F (F st (xs.getD k z30)).2 (xs.drop (k + 1)) := by
  rw [List.drop_eq_getElem_cons hk, List.getD_eq_getElem?_getD, List.getElem?_eq_getElem hk]
  rfl
def wts (wt : SC → Nat) (xs : List SC) : Nat := (xs.map wt).sum
theorem wts_drop (wt : SC → Nat) (xs : List SC) (k : Nat) (hk : k < xs.length) : wts wt (xs.drop k) = wt (xs.getD k z30) + wts wt (xs.drop (k + 1)) := by
  rw [List.drop_eq_getElem_cons hk, List.getD_eq_getElem?_getD, List.getElem?_eq_getElem hk]
  simp only [wts, List.map_cons, List.sum_cons]
  rfl
theorem wts_cells (l : List SC) : wts (fun k => (cells k).length) l = (cellsL l).length := by
  induction l with
  | nil => simp [wts, cellsL_nil]
  | cons c l ih =>
    rw [cellsL_cons, List.length_append, ← ih]
    simp [wts]

set_option maxHeartbeats 4000000 in
theorem ifn_calls {σ : Type} (B N M g : Nat) (lb : Array Value) (eg : ∀ args w, (callFunc g args).run Tryz.prog w = .ok (.enter g args) w) (Inv : World → σ → Nat → Prop) (hI : Stable Inv) (wt : SC → Nat) (F : σ → SC → Bool × σ)
    (A : Option Addr) (n c : Nat) (xs : List SC) (w : World) (st : σ) (u : Nat) (hBN : B ≤ N) (hN : N ≤ w.heap.size) (hP : PredF B N M g lb Inv wt F xs) (hr : Tr B w A n xs) (hi : Inv w st u) (hu : u + wts wt xs ≤ M) :
    Calls Tryz.prog 25 #[.slice A n c, .func (.func g) #[] lb] w fun e w' => ∃ r : Int, e = .returned (.int .i64 r) ∧ decide (0 ≤ r) = (anyL F st xs).1 ∧ Inv w' (anyL F st xs).2 (u + wts wt xs) ∧ Mid B N w w' := by
  have HP := Aside0.mk hP
  have HR := Aside0.mk hr
  have HI := Aside0.mk hi
  have HII := Aside0.mk hI
  have hmax := hr.max
  have hlen := Aside0.mk hr.len
  obtain ⟨T, hT⟩ : ∃ T, T = u + wts wt xs := ⟨_, rfl⟩
  rw [← hT] at hu ⊢
  have HT := Aside0.mk hT
  clear hP hr hi hI hT
  go_enter Tryz.func25, Tryz.ntmps25
  go_wp2
  go_loopw [5, 8] (fun _ i wr => ∃ (k : Nat) (s : σ) (v : Nat), k ≤ n ∧ i = .int .i64 k ∧ Aside0 (Inv wr s v ∧ Mid B N w wr ∧ anyL F s (xs.drop k) = anyL F st xs ∧ v + wts wt (xs.drop k) = T)) (fun _ i _ => n - (intOf i).toNat)
  case atStart => exact ⟨0, st, u, by omega, rfl, ⟨HI.out, Mid.refl _ _ _, rfl, HT.out.symm⟩⟩
  case round =>
    obtain ⟨k, s, v, hk, rfl, HA⟩ := hrel
    have hsz := HA.out.2.1.size
    by_cases hlt : k < n
    · obtain ⟨ad, A6, c6, rfl, g0, g1, g2, g3, g4, g5, g6, hl6, hT6⟩ := (HR.out.below (HA.out.2.1.toB (by omega))).get k hlt
      have hd := anyL_drop F s xs k (by have := hlen.out; omega)
      have hw := wts_drop wt xs k (by have := hlen.out; omega)
      rw [HA.out.2.2.1] at hd
      obtain ⟨x, hx⟩ : ∃ x, x = xs.getD k z30 := ⟨_, rfl⟩
      have hmem : x ∈ xs := by
        rw [hx, List.getD_eq_getElem?_getD, List.getElem?_eq_getElem (by have := hlen.out; omega)]
        exact List.getElem_mem _
      rw [← hx] at g0 g1 g2 g3 g4 g5 g6 hl6 hT6 hd hw
      have hq := HA.out.2.2.2
      rw [hw] at hq
      have HW : Aside0 (v + wt x + wts wt (xs.drop (k + 1)) = T) := ⟨by omega⟩
      clear hx hw
      have HC := Aside0.mk (HP.out x hmem wr s v A6 c6 HA.out.1 (by omega) (by omega) hl6 hT6)
      have HM := Aside0.mk HA.out.2.1
      clear hmem hl6 hT6 HA hq
      cases hp : (F s x).1 with
      | true =>
        rw [hp, if_pos rfl] at hd
        have HD := Aside0.mk hd
        rw [hp] at HC
        clear hd hp
        go_wp2_with fail
        refine HC.out.mono ?_
        rintro e w1 ⟨rfl, h1⟩
        have H1 := Aside0.mk h1
        clear h1
        go_wp2
        go_ret
        exact ⟨_, rfl, by rw [HD.out]; simp, by rw [HD.out]; exact HII.out.mono _ _ _ _ H1.out.1 (by have := HW.out; omega), HM.out.trans H1.out.2⟩
      | false =>
        rw [hp, if_neg (by decide)] at hd
        have HD := Aside0.mk hd
        rw [hp] at HC
        clear hd hp
        go_wp2_with fail
        refine HC.out.mono ?_
        rintro e w1 ⟨rfl, h1⟩
        have H1 := Aside0.mk h1
        clear h1
        go_wp2
        go_roundw
        case rel => exact ⟨k + 1, _, _, by omega, by go_num, ⟨H1.out.1, HM.out.trans H1.out.2, HD.out.symm, HW.out⟩⟩
        case measure => simp [intOf]; omega
    · have hdn : xs.drop k = [] := List.drop_eq_nil_of_le (by have := hlen.out; omega)
      have HD : Aside0 (anyL F st xs = (false, s)) := ⟨by rw [← HA.out.2.2.1, hdn]; rfl⟩
      have HV : Aside0 (v = T) := ⟨by have := HA.out.2.2.2; rw [hdn] at this; simpa [wts] using this⟩
      clear hdn
      go_wp2
      go_ret
      exact ⟨_, rfl, by rw [HD.out]; rfl, by rw [HD.out, ← HV.out]; exact HA.out.1, HA.out.2.1⟩

theorem cfn_calls {σ : Type} (B N M g : Nat) (lb : Array Value) (eg : ∀ args w, (callFunc g args).run Tryz.prog w = .ok (.enter g args) w) (Inv : World → σ → Nat → Prop) (hI : Stable Inv) (wt : SC → Nat) (F : σ → SC → Bool × σ)
    (A : Option Addr) (n c : Nat) (xs : List SC) (w : World) (st : σ) (u : Nat) (hBN : B ≤ N) (hN : N ≤ w.heap.size) (hP : PredF B N M g lb Inv wt F xs) (hr : Tr B w A n xs) (hi : Inv w st u) (hu : u + wts wt xs ≤ M) :
    Calls Tryz.prog 14 #[.slice A n c, .func (.func g) #[] lb] w fun e w' => e = .returned (.bool (anyL F st xs).1) ∧ Inv w' (anyL F st xs).2 (u + wts wt xs) ∧ Mid B N w w' := by
  have HC := Aside0.mk (ifn_calls B N M g lb eg Inv hI wt F A n c xs w st u hBN hN hP hr hi hu)
  clear hP hr hi hI hu
  go_enter Tryz.func14, Tryz.ntmps14
  go_wp2_with fail
  refine HC.out.mono ?_
  rintro e w1 ⟨r, rfl, h1, h2⟩
  have H1 := Aside0.mk h1
  have H2 := Aside0.mk h2
  clear h1 h2
  go_wp2
  go_ret
  exact ⟨by rw [← H1.out]; rfl, H2.out.1, H2.out.2⟩
theorem none_calls {σ : Type} (B N M g : Nat) (lb : Array Value) (eg : ∀ args w, (callFunc g args).run Tryz.prog w = .ok (.enter g args) w) (Inv : World → σ → Nat → Prop) (hI : Stable Inv) (wt : SC → Nat) (F : σ → SC → Bool × σ)
    (A : Option Addr) (n c : Nat) (xs : List SC) (w : World) (st : σ) (u : Nat) (hBN : B ≤ N) (hN : N ≤ w.heap.size) (hP : PredF B N M g lb Inv wt F xs) (hr : Tr B w A n xs) (hi : Inv w st u) (hu : u + wts wt xs ≤ M) :
    Calls Tryz.prog 61 #[.slice A n c, .func (.func g) #[] lb] w fun e w' => e = .returned (.bool (!(anyL F st xs).1)) ∧ Inv w' (anyL F st xs).2 (u + wts wt xs) ∧ Mid B N w w' := by
  have HC := Aside0.mk (cfn_calls B N M g lb eg Inv hI wt F A n c xs w st u hBN hN hP hr hi hu)
  clear hP hr hi hI hu
  go_enter Tryz.func61, Tryz.ntmps61
  go_wp2_with fail
  refine HC.out.mono ?_
  rintro e w1 ⟨rfl, h2⟩
  have H2 := Aside0.mk h2
  clear h2
  go_wp2
  go_ret
  exact ⟨rfl, H2.out.1, H2.out.2⟩
end Go.Proofs.YtakhnigalkjhhaaGreatDoor
