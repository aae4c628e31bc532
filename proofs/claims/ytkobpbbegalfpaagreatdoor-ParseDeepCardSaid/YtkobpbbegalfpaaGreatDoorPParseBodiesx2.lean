/-
  Joined texts: HexReadP, SuCutP, TiMem, TiAll, PParseBodiesx2.
-/
import Derived.Test.YtkobpbbegalfpaaGreatDoorSuPutP
import Derived.Test.YtkobpbbegalfpaaGreatDoorPxPanes
import Derived.Test.YtkobpbbegalfpaaGreatDoorPsCellW
import Derived.Test.YtkobpbbegalfpaaGreatDoorPsBase
import Derived.BigCall
import Derived.Lib.Walk
import Derived.WalkKit
import Derived.Deep.LoopGhost
import Derived.Shelf.Abstract
import Derived.Test.YtkobpbbegalfpaaGreatDoorMac
import Derived.Test.YtkobpbbegalfpaaGreatDoorPParseBodiesx0
/-
 num.ReadHex: what it returns.
-/
namespace Go.Proofs.YtkobpbbegalfpaaGreatDoor
open Go.RowKit Go.Proofs.YtkobpbbegalfpaaGreatDoorW.PrintWords Go.Proofs.YtkobpbbegalfpaaGreatDoorW.PrintLast Go.Proofs.YtkobpbbegalfpaaGreatDoorW.PrintMore
set_option linter.unusedVariables false

/-- Two numbers, in a world that has grown. -/
def OutH (w : World) (r : Int × Int) (e : Ending) (w' : World) : Prop := e = .returned (.tuple #[.int .u16 r.1, .int .i64 r.2]) ∧ Below w.heap.size w w'
set_option maxHeartbeats 1000000 in
theorem rhex_calls (s : ByteArray) (hs : s.size ≤ 140737488355328) (w : World) (hT : NumT w) (hE : NumE w) : Calls Tryz.prog 53 #[.string s] w (OutH w (rhR s)) := by
 rw [rhR_of]
 have HT := Aside0.mk hT
 have HE := Aside0.mk hE
 clear hT hE
 rcases hr : hexRead s with _ | u
 ·have HP := Aside0.mk (puint16_err s (by omega) hr w HE.out)
  clear hr
  go_enter Tryz.func53, Tryz.ntmps53
  go_wp2_with (go_at_call 82; refine HP.out.mono ?_; rintro e w1 ⟨x, N, rfl, hb⟩)
  go_ret2
  exact ⟨rfl, hb⟩
 ·have hr2 := hexRead_range hr
  have HP := Aside0.mk (puint16_ok s (by omega) u hr w)
  have HH := Aside0.mk (fun w1 (hb : Below w.heap.size w w1) => hex_calls u hr2.1 (by omega) w1 (HT.out.below hb))
  have hw : IntKind.u16.wrap u = u := by rw [show IntKind.u16.wrap u = u % 65536 by simp [IntKind.wrap, IntKind.bits, IntKind.signed]]; omega
  obtain ⟨h0, h1⟩ := hr2
  clear hr
  by_cases he : hex4 u = s
  ·have hte : ((hex4 u).toList == s.toList) = true := by rw [he]; simp
   have hte2 : ((hex4 u).toList = s.toList) := by rw [he]
   simp only [if_pos he]
   have HQ := Aside0.mk he
   clear he
   generalize hex4 u = x at *
   go_enter Tryz.func53, Tryz.ntmps53
   go_wp2_with (first | (go_at_call 82; refine HP.out.mono ?_; rintro e w1 ⟨rfl, hb⟩; replace hb := Aside0.mk hb) | (go_at_call 61; refine (HH.out _ hb.out).mono ?_; rintro e w2 ⟨rfl, hb2⟩))
   go_ret2
   exact ⟨rfl, hb.out.trans (hb2.mono hb.out.size)⟩
  ·have hte2 : ¬ (hex4 u).toList = s.toList := fun h => he (bytes_ext h)
   have hte : ((hex4 u).toList == s.toList) = false := by simpa using hte2
   simp only [if_neg he]
   clear he
   generalize hex4 u = x at *
   go_enter Tryz.func53, Tryz.ntmps53
   go_wp2_with (first | (go_at_call 82; refine HP.out.mono ?_; rintro e w1 ⟨rfl, hb⟩; replace hb := Aside0.mk hb) | (go_at_call 61; refine (HH.out _ hb.out).mono ?_; rintro e w2 ⟨rfl, hb2⟩))
   go_ret2
   exact ⟨rfl, hb.out.trans (hb2.mono hb.out.size)⟩
end Go.Proofs.YtkobpbbegalfpaaGreatDoor

/- Printed texts of this seat, cut to what is used. -/
namespace Go.Proofs.YtkobpbbegalfpaaGreatDoor
open Go.RowKit Go.Proofs.YtkobpbbegalfpaaGreatDoorW.PrintWords Go.Proofs.YtkobpbbegalfpaaGreatDoorW.PrintLast Go.Proofs.YtkobpbbegalfpaaGreatDoorW.PrintMore Go.Proofs.YtkobpbbegalfpaaGreatDoor.PParseBodies
set_option linter.unusedVariables false


/-- What Cut answers with. -/
def cutR (s : ByteArray) : ByteArray × Int :=
 if 65535 < s.size then (⟨#[]⟩, 3) else if s.size < 5 then (⟨#[]⟩, 2) else if ¬ bt s 4 = 44 then (⟨#[]⟩, 2)
 else match unhexS (s.extract 0 4) with
  | none => (⟨#[]⟩, 2)
  | some c => if c = sumL 0 (s.extract 5 s.size).data.toList then (s.extract 5 s.size, 0) else (⟨#[]⟩, 4)
def OutC (w : World) (r : ByteArray × Int) (e : Ending) (w' : World) : Prop := e = .returned (.tuple #[.string r.1, .int .i64 r.2]) ∧ Below w.heap.size w w'
theorem bt4 (s : ByteArray) (h : 4 < s.size) : bt s 4 = ((s[4]'h).toNat : Int) := bt_nat s 4 h
set_option maxRecDepth 100000 in
set_option maxHeartbeats 2000000 in
theorem cut_calls (s : ByteArray) (hs : s.size ≤ 1000000) (w : World) (hT : NumT w) (hE : NumE w) : Calls Tryz.prog 29 #[.string s] w (OutC w (cutR s)) := by
 unfold cutR
 have HT := Aside0.mk hT
 have HE := Aside0.mk hE
 clear hT hE
 by_cases h1 : 65535 < s.size
 ·rw [if_pos h1]
  go_enter Tryz.func29, Tryz.ntmps29
  go_wp2
  go_ret2
  exact ⟨rfl, Below.refl _ _⟩
 ·rw [if_neg h1]
  by_cases h2 : s.size < 5
  ·rw [if_pos h2]
   go_enter Tryz.func29, Tryz.ntmps29
   go_wp2
   go_ret2
   exact ⟨rfl, Below.refl _ _⟩
  ·rw [if_neg h2]
   have h4 : 4 < s.size := by omega
   rw [bt4 s h4]
   by_cases h3 : ¬ ((s[4]'h4).toNat : Int) = 44
   ·rw [if_pos h3]
    have q3 : (((s[4]'h4).toNat : Int) == 44) = false := by simpa using h3
    have q4 : (((s[4]'h4).toNat : Int) != 44) = true := by simpa using h3
    go_enter Tryz.func29, Tryz.ntmps29
    go_wp2
    go_ret2
    exact ⟨rfl, Below.refl _ _⟩
   ·rw [if_neg h3]
    have h3' : ((s[4]'h4).toNat : Int) = 44 := by omega
    clear h3
    have HH := Aside0.mk (rhex_calls (s.extract 0 4) (by simp; omega) w HT.out HE.out)
    unfold rhR at HH
    have hxs : (s.extract 5 s.size).size ≤ 1000000 := by simp; omega
    have HO := Aside0.mk (of1_calls (s.extract 5 s.size) (by omega))
    have hn := sumL_range (s.extract 5 s.size).data.toList 0 (by omega) (by omega)
    clear hxs
    rcases hu : unhexS (s.extract 0 4) with _ | c
    ·rw [hu] at HH
     clear hu hn HO
     go_enter Tryz.func29, Tryz.ntmps29
     go_wp2_with (go_at_call 53; refine HH.out.mono ?_; rintro e w1 ⟨rfl, hb⟩)
     go_ret2
     exact ⟨rfl, hb⟩
    ·rw [hu] at HH
     have hc := unhexS_range hu
     clear hu
     generalize sumL 0 (s.extract 5 s.size).data.toList = n at *
     simp only
     by_cases he : c = n
     ·rw [if_pos he]
      subst he
      go_enter Tryz.func29, Tryz.ntmps29
      go_wp2_with (first | (go_at_call 53; refine HH.out.mono ?_; rintro e w1 ⟨rfl, hb⟩; replace hb := Aside0.mk hb) | (go_at_call 54; refine (HO.out _).mono ?_; rintro e w2 ⟨rfl, hb2⟩))
      go_ret2
      exact ⟨rfl, hb.out.trans (hb2.mono hb.out.size)⟩
     ·rw [if_neg he]
      have qe : (c == n) = false := by simpa using he
      go_enter Tryz.func29, Tryz.ntmps29
      go_wp2_with (first | (go_at_call 53; refine HH.out.mono ?_; rintro e w1 ⟨rfl, hb⟩; replace hb := Aside0.mk hb) | (go_at_call 54; refine (HO.out _).mono ?_; rintro e w2 ⟨rfl, hb2⟩))
      go_ret2
      exact ⟨rfl, hb.out.trans (hb2.mono hb.out.size)⟩
end Go.Proofs.YtkobpbbegalfpaaGreatDoor

/-
 Trees in memory; slices.IndexFunc over cells with a function value that keeps a state.
-/
namespace Go.Proofs.YtkobpbbegalfpaaGreatDoor
open Go.RowKit Go.Proofs.YtkobpbbegalfpaaGreatDoorW.PrintWords Go.Proofs.YtkobpbbegalfpaaGreatDoorW.PrintLast Go.Proofs.YtkobpbbegalfpaaGreatDoorW.PrintMore Go.Proofs.YtkobpbbegalfpaaGreatDoor.PParseBodies
set_option linter.unusedVariables false
set_option linter.unusedSimpArgs false
set_option maxRecDepth 100000

/-- A row of cells that is only read, and lies below B. -/
def Tr (B : Nat) (w : World) (A : Option Addr) (n : Nat) (xs : List SC) : Prop := Kd.F k27 w (fun k => k < B) A n xs
theorem Tr.now {B : Nat} {w : World} {A : Option Addr} {n : Nat} {xs : List SC} (h : Tr B w A n xs) : (k27).C w A n xs := Kd.F_now h
theorem Tr.of {w : World} {A : Option Addr} {n : Nat} {xs : List SC} (h : (k27).C w A n xs) : Tr w.heap.size w A n xs := fun W' hW => k27_heap.C (fun k hk => hW k hk hk) h
theorem Tr.mono {B B' : Nat} {w : World} {A : Option Addr} {n : Nat} {xs : List SC} (h : Tr B w A n xs) (hB : B ≤ B') : Tr B' w A n xs := Kd.F_mono h (fun k hk => Nat.lt_of_lt_of_le hk hB)
theorem Tr.below {B : Nat} {w w' : World} {A : Option Addr} {n : Nat} {xs : List SC} (h : Tr B w A n xs) (hb : Below B w w') : Tr B w' A n xs := Kd.F_step h (fun k hk _ => hb.block k hk)
theorem Tr.len {B : Nat} {w : World} {A : Option Addr} {n : Nat} {xs : List SC} (h : Tr B w A n xs) : xs.length = n := Kd.F_len h
theorem Tr.max {B : Nat} {w : World} {A : Option Addr} {n : Nat} {xs : List SC} (h : Tr B w A n xs) : n ≤ 9223372036854775807 := Kd.F_max h
theorem Tr.get {B : Nat} {w : World} {A : Option Addr} {n : Nat} {xs : List SC} (h : Tr B w A n xs) (k : Nat) (hk : k < n) : ∃ ad A6 c6, A = some ad ∧
  w.cell? (ad.add (k * 7)) = some (.int .u8 (xs.getD k z27).f0) ∧
  w.cell? ⟨(ad.add (k * 7)).block, (ad.add (k * 7)).off + 1, none⟩ = some (.int .i64 (xs.getD k z27).f1.f0) ∧
  w.cell? ⟨(ad.add (k * 7)).block, (ad.add (k * 7)).off + 2, none⟩ = some (.int .i64 (xs.getD k z27).f1.f1) ∧
  w.cell? ⟨(ad.add (k * 7)).block, (ad.add (k * 7)).off + 3, none⟩ = some (.int .i64 (xs.getD k z27).f1.f2) ∧
  w.cell? ⟨(ad.add (k * 7)).block, (ad.add (k * 7)).off + 4, none⟩ = some (.int .i64 (xs.getD k z27).f1.f3) ∧
  w.cell? ⟨(ad.add (k * 7)).block, (ad.add (k * 7)).off + 5, none⟩ = some (.int .i64 (xs.getD k z27).f2) ∧
  w.cell? ⟨(ad.add (k * 7)).block, (ad.add (k * 7)).off + 6, none⟩ = some (.slice A6 (xs.getD k z27).f3.length c6) ∧
  (xs.getD k z27).f3.length ≤ c6 ∧ Tr B w A6 (xs.getD k z27).f3.length (xs.getD k z27).f3 := by
 obtain ⟨ad, c, e, _, hK, hc0, _⟩ := Kd.F_get h z27 (k : Int) (by omega) (by omega)
 rw [Int.toNat_natCast] at hK hc0
 have hc : ∀ j u, c[j]? = some u → w.cell? (ad.add (k * 7 + j)) = some u := hc0
 obtain ⟨A6, c6, rfl, l6, g6⟩ := k27_openF hK
 exact ⟨ad, A6, c6, e, hc 0 _ rfl, by rw [← add_field _ _ 1 (by omega)]; exact hc 1 _ rfl, by rw [← add_field _ _ 2 (by omega)]; exact hc 2 _ rfl, by rw [← add_field _ _ 3 (by omega)]; exact hc 3 _ rfl, by rw [← add_field _ _ 4 (by omega)]; exact hc 4 _ rfl, by rw [← add_field _ _ 5 (by omega)]; exact hc 5 _ rfl, by rw [← add_field _ _ 6 (by omega)]; exact hc 6 _ rfl, l6, g6⟩

/-- The blocks that may turn: those from B to N, and rows of rectangles from B on. -/
def Loose (B N : Nat) (w : World) (k : Nat) : Prop := B ≤ k ∧ (k < N ∨ ∃ cs, w.heap[k]? = some (.cells cs 24 (0, 0)))
/-- Only such blocks may have turned. -/
structure Mid (B N : Nat) (w w' : World) : Prop where mk :: (out : Keeps (Loose B N w) w w')
theorem Mid.refl (B N : Nat) (w : World) : Mid B N w w := ⟨Keeps.refl _ _⟩
theorem Mid.size {B N : Nat} {w w' : World} (h : Mid B N w w') : w.heap.size ≤ w'.heap.size := h.out.size
theorem Mid.trans {B N : Nat} {a b c : World} (h : Mid B N a b) (k : Mid B N b c) : Mid B N a c :=
 ⟨⟨k.out.os.trans h.out.os, k.out.tape.trans h.out.tape, k.out.output.trans h.out.output, Nat.le_trans h.out.size k.out.size, fun i hi hn => by
  have e := h.out.block i hi hn
  refine (k.out.block i (Nat.lt_of_lt_of_le hi h.out.size) (fun hl => hn ⟨hl.1, hl.2.imp id (fun ⟨cs, hc⟩ => ⟨cs, ?_⟩)⟩)).trans e
  rw [← e]; exact hc⟩⟩
theorem Mid.below {B N : Nat} {a b c : World} (h : Mid B N a b) (k : Below b.heap.size b c) : Mid B N a c := ⟨h.out.below k⟩
theorem Mid.ofBelow {B N : Nat} {w w' : World} (h : Below w.heap.size w w') : Mid B N w w' := (Mid.refl B N w).below h
theorem Mid.setCell {B N : Nat} {a b : World} (h : Mid B N a b) {p : Addr} (hp : B ≤ p.block ∧ p.block < N) (u : Value) : Mid B N a (b.setCell p u) := ⟨h.out.setCell ⟨hp.1, .inl hp.2⟩ u⟩
theorem Mid.grown {B N : Nat} {a b c : World} {row : Option Nat} (h : Mid B N a b) (hg : b.grownBy c row) (hr : ∀ k, row = some k → B ≤ k ∧ k < N) : Mid B N a c := ⟨h.out.grown hg (fun k hk => ⟨(hr k hk).1, .inl (hr k hk).2⟩)⟩
theorem Mid.grownR {B N : Nat} {b c : World} {row : Option Nat} (hg : b.grownBy c row) (hr : ∀ k, row = some k → B ≤ k ∧ ∃ cs, b.heap[k]? = some (.cells cs 24 (0, 0))) : Mid B N b c :=
 ⟨(Keeps.refl _ _).grown hg (fun k hk => ⟨(hr k hk).1, .inr (hr k hk).2⟩)⟩
theorem Mid.toB {B N : Nat} {w w' : World} (h : Mid B N w w') (hB : B ≤ w.heap.size) : Below B w w' := h.out.toBelow hB (fun _ hk => hk.1)
theorem Mid.blk {B N : Nat} {w w' : World} (h : Mid B N w w') {p t : Nat} {cs : Array Value} (hc : w.heap[p]? = some (.cells cs t (0, 0))) (hN : N ≤ p) (ht : t ≠ 24) : w'.heap[p]? = some (.cells cs t (0, 0)) :=
 (h.out.block p (blk_lt hc) (fun hk => by
  rcases hk.2 with h1 | ⟨cs', h1⟩
  ·omega
  ·rw [hc] at h1
   injection h1 with h1
   injection h1 with _ h1
   exact ht h1)).trans hc

/-- A state that is kept whatever is made beside it; it may have used up to u. -/
structure Stable {σ : Type} (Inv : World → σ → Nat → Prop) : Prop where
 below : ∀ w w' st u, Inv w st u → Below w.heap.size w w' → Inv w' st u
 mono : ∀ w st u u', Inv w st u → u ≤ u' → Inv w st u'

/-- What a function value over cells does: it answers with F, keeps the state, uses up to wt, and turns only blocks from B to N. -/
def PredF {σ : Type} (B N M g : Nat) (lb : Array Value) (Inv : World → σ → Nat → Prop) (wt : SC → Nat) (F : σ → SC → Bool × σ) (xs : List SC) : Prop :=
 ∀ x ∈ xs, ∀ (w : World) (st : σ) (u : Nat) (A : Option Addr) (cap : Nat), Inv w st u → u + wt x ≤ M → N ≤ w.heap.size → x.f3.length ≤ cap → Tr B w A x.f3.length x.f3 →
  Calls Tryz.prog g (#[.agg #[.int .u8 x.f0, .int .i64 x.f1.f0, .int .i64 x.f1.f1, .int .i64 x.f1.f2, .int .i64 x.f1.f3, .int .i64 x.f2, .slice A x.f3.length cap]] ++ lb) w
   fun e w' => e = .returned (.bool (F st x).1) ∧ Inv w' (F st x).2 (u + wt x) ∧ Mid B N w w'
theorem PredF.sub {σ : Type} {B N M g : Nat} {lb : Array Value} {Inv : World → σ → Nat → Prop} {wt : SC → Nat} {F : σ → SC → Bool × σ} {xs ys : List SC} (h : PredF B N M g lb Inv wt F xs) (hs : ∀ x ∈ ys, x ∈ xs) : PredF B N M g lb Inv wt F ys := fun x hx => h x (hs x hx)

theorem anyL_drop {σ : Type} (F : σ → SC → Bool × σ) (st : σ) (xs : List SC) (k : Nat) (hk : k < xs.length) :
  anyL F st (xs.drop k) = if (F st (xs.getD k z27)).1 = true then (true, (F st (xs.getD k z27)).2) else anyL F (F st (xs.getD k z27)).2 (xs.drop (k + 1)) := by
 rw [List.drop_eq_getElem_cons hk, List.getD_eq_getElem?_getD, List.getElem?_eq_getElem hk]
 rfl
def wts (wt : SC → Nat) (xs : List SC) : Nat := (xs.map wt).sum
theorem wts_drop (wt : SC → Nat) (xs : List SC) (k : Nat) (hk : k < xs.length) : wts wt (xs.drop k) = wt (xs.getD k z27) + wts wt (xs.drop (k + 1)) := by
 rw [List.drop_eq_getElem_cons hk, List.getD_eq_getElem?_getD, List.getElem?_eq_getElem hk]
 simp only [wts, List.map_cons, List.sum_cons]
 rfl
theorem wts_cells (l : List SC) : wts (fun k => (cells k).length) l = (cellsL l).length := by
 induction l with
 | nil => simp [wts, cellsL_nil]
 | cons c l ih =>
  rw [cellsL_cons, List.length_append, ← ih]
  simp [wts]

set_option maxHeartbeats 4000000 in
theorem ifn_calls {σ : Type} (B N M g : Nat) (lb : Array Value) (eg : ∀ args w, (callFunc g args).run Tryz.prog w = .ok (.enter g args) w) (Inv : World → σ → Nat → Prop) (hI : Stable Inv) (wt : SC → Nat) (F : σ → SC → Bool × σ)
  (A : Option Addr) (n c : Nat) (xs : List SC) (w : World) (st : σ) (u : Nat) (hBN : B ≤ N) (hN : N ≤ w.heap.size) (hP : PredF B N M g lb Inv wt F xs) (hr : Tr B w A n xs) (hi : Inv w st u) (hu : u + wts wt xs ≤ M) :
  Calls Tryz.prog 100 #[.slice A n c, .func (.func g) #[] lb] w fun e w' => ∃ r : Int, e = .returned (.int .i64 r) ∧ decide (0 ≤ r) = (anyL F st xs).1 ∧ Inv w' (anyL F st xs).2 (u + wts wt xs) ∧ Mid B N w w' := by
 have HP := Aside0.mk hP
 have HR := Aside0.mk hr
 have HI := Aside0.mk hi
 have HII := Aside0.mk hI
 have hmax := hr.max
 have hlen := Aside0.mk hr.len
 obtain ⟨T, hT⟩ : ∃ T, T = u + wts wt xs := ⟨_, rfl⟩
 rw [← hT] at hu ⊢
 have HT := Aside0.mk hT
 clear hP hr hi hI hT
 go_enter Tryz.func100, Tryz.ntmps100
 go_wp2
 go_loopw [5, 8] (fun _ i wr => ∃ (k : Nat) (s : σ) (v : Nat), k ≤ n ∧ i = .int .i64 k ∧ Aside0 (Inv wr s v ∧ Mid B N w wr ∧ anyL F s (xs.drop k) = anyL F st xs ∧ v + wts wt (xs.drop k) = T)) (fun _ i _ => n - (intOf i).toNat)
 case atStart => exact ⟨0, st, u, by omega, rfl, ⟨HI.out, Mid.refl _ _ _, rfl, HT.out.symm⟩⟩
 case round =>
  obtain ⟨k, s, v, hk, rfl, HA⟩ := hrel
  have hsz := HA.out.2.1.size
  by_cases hlt : k < n
  ·obtain ⟨ad, A6, c6, rfl, g0, g1, g2, g3, g4, g5, g6, hl6, hT6⟩ := (HR.out.below (HA.out.2.1.toB (by omega))).get k hlt
   have hd := anyL_drop F s xs k (by have := hlen.out; omega)
   have hw := wts_drop wt xs k (by have := hlen.out; omega)
   rw [HA.out.2.2.1] at hd
   obtain ⟨x, hx⟩ : ∃ x, x = xs.getD k z27 := ⟨_, rfl⟩
   have hmem : x ∈ xs := by
    rw [hx, List.getD_eq_getElem?_getD, List.getElem?_eq_getElem (by have := hlen.out; omega)]
    exact List.getElem_mem _
   rw [← hx] at g0 g1 g2 g3 g4 g5 g6 hl6 hT6 hd hw
   have hq := HA.out.2.2.2
   rw [hw] at hq
   have HW : Aside0 (v + wt x + wts wt (xs.drop (k + 1)) = T) := ⟨by omega⟩
   clear hx hw
   have HC := Aside0.mk (HP.out x hmem wr s v A6 c6 HA.out.1 (by omega) (by omega) hl6 hT6)
   have HM := Aside0.mk HA.out.2.1
   clear hmem hl6 hT6 HA hq
   cases hp : (F s x).1 with
   | true =>
    rw [hp, if_pos rfl] at hd
    have HD := Aside0.mk hd
    rw [hp] at HC
    clear hd hp
    go_wp2_with fail
    refine HC.out.mono ?_
    rintro e w1 ⟨rfl, h1⟩
    have H1 := Aside0.mk h1
    clear h1
    go_wp2
    go_ret
    exact ⟨_, rfl, by rw [HD.out]; simp, by rw [HD.out]; exact HII.out.mono _ _ _ _ H1.out.1 (by have := HW.out; omega), HM.out.trans H1.out.2⟩
   | false =>
    rw [hp, if_neg (by decide)] at hd
    have HD := Aside0.mk hd
    rw [hp] at HC
    clear hd hp
    go_wp2_with fail
    refine HC.out.mono ?_
    rintro e w1 ⟨rfl, h1⟩
    have H1 := Aside0.mk h1
    clear h1
    go_wp2
    go_roundw
    case rel => exact ⟨k + 1, _, _, by omega, by go_num, ⟨H1.out.1, HM.out.trans H1.out.2, HD.out.symm, HW.out⟩⟩
    case measure => simp [intOf]; omega
  ·have hdn : xs.drop k = [] := List.drop_eq_nil_of_le (by have := hlen.out; omega)
   have HD : Aside0 (anyL F st xs = (false, s)) := ⟨by rw [← HA.out.2.2.1, hdn]; rfl⟩
   have HV : Aside0 (v = T) := ⟨by have := HA.out.2.2.2; rw [hdn] at this; simpa [wts] using this⟩
   clear hdn
   go_wp2
   go_ret
   exact ⟨_, rfl, by rw [HD.out]; rfl, by rw [HD.out, ← HV.out]; exact HA.out.1, HA.out.2.1⟩

theorem cfn_calls {σ : Type} (B N M g : Nat) (lb : Array Value) (eg : ∀ args w, (callFunc g args).run Tryz.prog w = .ok (.enter g args) w) (Inv : World → σ → Nat → Prop) (hI : Stable Inv) (wt : SC → Nat) (F : σ → SC → Bool × σ)
  (A : Option Addr) (n c : Nat) (xs : List SC) (w : World) (st : σ) (u : Nat) (hBN : B ≤ N) (hN : N ≤ w.heap.size) (hP : PredF B N M g lb Inv wt F xs) (hr : Tr B w A n xs) (hi : Inv w st u) (hu : u + wts wt xs ≤ M) :
  Calls Tryz.prog 75 #[.slice A n c, .func (.func g) #[] lb] w fun e w' => e = .returned (.bool (anyL F st xs).1) ∧ Inv w' (anyL F st xs).2 (u + wts wt xs) ∧ Mid B N w w' := by
 have HC := Aside0.mk (ifn_calls B N M g lb eg Inv hI wt F A n c xs w st u hBN hN hP hr hi hu)
 clear hP hr hi hI hu
 go_enter Tryz.func75, Tryz.ntmps75
 go_wp2_with fail
 refine HC.out.mono ?_
 rintro e w1 ⟨r, rfl, h1, h2⟩
 have H1 := Aside0.mk h1
 have H2 := Aside0.mk h2
 clear h1 h2
 go_wp2
 go_ret
 exact ⟨by rw [← H1.out]; rfl, H2.out.1, H2.out.2⟩
theorem none_calls {σ : Type} (B N M g : Nat) (lb : Array Value) (eg : ∀ args w, (callFunc g args).run Tryz.prog w = .ok (.enter g args) w) (Inv : World → σ → Nat → Prop) (hI : Stable Inv) (wt : SC → Nat) (F : σ → SC → Bool × σ)
  (A : Option Addr) (n c : Nat) (xs : List SC) (w : World) (st : σ) (u : Nat) (hBN : B ≤ N) (hN : N ≤ w.heap.size) (hP : PredF B N M g lb Inv wt F xs) (hr : Tr B w A n xs) (hi : Inv w st u) (hu : u + wts wt xs ≤ M) :
  Calls Tryz.prog 72 #[.slice A n c, .func (.func g) #[] lb] w fun e w' => e = .returned (.bool (!(anyL F st xs).1)) ∧ Inv w' (anyL F st xs).2 (u + wts wt xs) ∧ Mid B N w w' := by
 have HC := Aside0.mk (cfn_calls B N M g lb eg Inv hI wt F A n c xs w st u hBN hN hP hr hi hu)
 clear hP hr hi hI hu
 go_enter Tryz.func72, Tryz.ntmps72
 go_wp2_with fail
 refine HC.out.mono ?_
 rintro e w1 ⟨rfl, h2⟩
 have H2 := Aside0.mk h2
 clear h2
 go_wp2
 go_ret
 exact ⟨rfl, H2.out.1, H2.out.2⟩
end Go.Proofs.YtkobpbbegalfpaaGreatDoor

/-
 cell.all: it goes through a tree's cells with a function value, as long as it is told to.
-/
namespace Go.Proofs.YtkobpbbegalfpaaGreatDoor
open Go.RowKit Go.Proofs.YtkobpbbegalfpaaGreatDoorW.PrintWords Go.Proofs.YtkobpbbegalfpaaGreatDoorW.PrintLast Go.Proofs.YtkobpbbegalfpaaGreatDoorW.PrintMore Go.Proofs.YtkobpbbegalfpaaGreatDoor.PParseBodies
set_option linter.unusedVariables false
set_option linter.unusedSimpArgs false
set_option maxRecDepth 100000

theorem enters114 : ∀ args w, (callFunc 114 args).run Tryz.prog w = .ok (.enter 114 args) w := enters_of Tryz.func114 (by kernel_rfl) rfl

/-- The state, and a function value in a block of its own. -/
def WithFn {σ : Type} (Inv : World → σ → Nat → Prop) (p : Nat) (fv : Value) (w : World) (st : σ) (u : Nat) : Prop := Inv w st u ∧ w.heap[p]? = some (.cells #[fv] 50 (0, 0))
theorem WithFn.stable {σ : Type} {Inv : World → σ → Nat → Prop} (h : Stable Inv) (p : Nat) (fv : Value) : Stable (WithFn Inv p fv) :=
 ⟨fun w w' st u hi hb => ⟨h.below _ _ _ _ hi.1 hb, (hb.block p (blk_lt hi.2)).trans hi.2⟩, fun w st u u' hi hu => ⟨h.mono _ _ _ _ hi.1 hu, hi.2⟩⟩

theorem boxTr {B : Nat} {w : World} {A : Option Addr} {n : Nat} {xs : List SC} (h : Tr B w A n xs) (o : Obj) (hB : B ≤ w.heap.size) : Tr B (w.alloc o) A n xs := h.below ((Below.refl _ _).alloc hB _)

def AllOk (B N M g : Nat) (lb : Array Value) {σ : Type} (Inv : World → σ → Nat → Prop) (f : σ → SC → Bool × σ) (c : SC) : Prop :=
 ∀ (w : World) (st : σ) (u : Nat) (A : Option Addr) (cap : Nat), Inv w st u → u + (cells c).length ≤ M → N ≤ w.heap.size → c.f3.length ≤ cap → Tr B w A c.f3.length c.f3 →
  Calls Tryz.prog 96 #[.agg #[.int .u8 c.f0, .int .i64 c.f1.f0, .int .i64 c.f1.f1, .int .i64 c.f1.f2, .int .i64 c.f1.f3, .int .i64 c.f2, .slice A c.f3.length cap], .func (.func g) #[] lb] w
   fun e w' => e = .returned (.bool (visitL f st (cells c)).1) ∧ Inv w' (visitL f st (cells c)).2 (u + (cells c).length) ∧ Mid B N w w'

theorem all1_calls {σ : Type} (B N M g p : Nat) (lb : Array Value) (Inv : World → σ → Nat → Prop) (hI : Stable Inv) (f : σ → SC → Bool × σ) (k : SC) (hBN : B ≤ N) (hp : N ≤ p) (hA : AllOk B N M g lb Inv f k)
  (w : World) (st : σ) (u : Nat) (A : Option Addr) (cap : Nat) (hi : WithFn Inv p (.func (.func g) #[] lb) w st u) (hu : u + (cells k).length ≤ M) (hN : N ≤ w.heap.size) (hc : k.f3.length ≤ cap) (hT : Tr B w A k.f3.length k.f3) :
  Calls Tryz.prog 114 #[.agg #[.int .u8 k.f0, .int .i64 k.f1.f0, .int .i64 k.f1.f1, .int .i64 k.f1.f2, .int .i64 k.f1.f3, .int .i64 k.f2, .slice A k.f3.length cap], .pointer (some ⟨p, 0, none⟩)] w
   fun e w' => e = .returned (.bool (notV f st k).1) ∧ WithFn Inv p (.func (.func g) #[] lb) w' (notV f st k).2 (u + (cells k).length) ∧ Mid B N w w' := by
 obtain ⟨h1, hheap⟩ := hi
 have hcell : w.cell? ⟨p, 0, none⟩ = some (.func (.func g) #[] lb) := by rw [blk_cell hheap]; rfl
 have HH := Aside0.mk hheap
 clear hheap
 obtain ⟨w1, hw1⟩ : ∃ w1, w1 = w.alloc (.cells #[.int .u8 k.f0, .int .i64 k.f1.f0, .int .i64 k.f1.f1, .int .i64 k.f1.f2, .int .i64 k.f1.f3, .int .i64 k.f2, .slice A k.f3.length cap] 27) := ⟨_, rfl⟩
 have hb : Below w.heap.size w w1 := by rw [hw1]; exact below_alloc (Below.refl _ _) _
 have hbB : Below B w w1 := by rw [hw1]; exact (Below.refl _ _).alloc (by omega) _
 have HC := Aside0.mk (hA w1 st u A cap (hI.below _ _ _ _ h1 hb) hu (by have := hb.size; omega) hc (hT.below hbB))
 have HK := Aside0.mk hcell
 have HB := Aside0.mk hb
 have HL := Aside0.mk (pw_cell_below hb hcell)
 have HP := Aside0.mk hp
 rw [hw1] at HC
 have hlt := World.block_lt_of_cell? w _ hcell
 have HW := Aside0.mk hw1
 generalize hv : visitL f st (cells k) = r at HC
 have HV := Aside0.mk hv
 clear hw1 h1 hI hA hu hT hb hbB hv hp
 go_enter Tryz.func114, Tryz.ntmps114
 go_wp2_with fail
 with_reducible refine HC.out.mono ?_
 rintro e w2 ⟨rfl, h2⟩
 have H2 := Aside0.mk h2
 clear h2
 go_wp2
 go_ret
 refine ⟨by simp [notV, HV.out], ⟨by simp only [notV, HV.out]; exact H2.out.1, ?_⟩, ?_⟩
 ·have hm := H2.out.2
  rw [← HW.out] at hm
  exact hm.blk ((HB.out.block p (blk_lt HH.out)).trans HH.out) HP.out (by decide)
 ·have hm := H2.out.2
  rw [← HW.out] at hm
  exact (Mid.ofBelow HB.out).trans hm

set_option maxHeartbeats 4000000 in
theorem all_calls {σ : Type} (B N M g : Nat) (lb : Array Value) (eg : ∀ args w, (callFunc g args).run Tryz.prog w = .ok (.enter g args) w) (Inv : World → σ → Nat → Prop) (hI : Stable Inv) (f : σ → SC → Bool × σ) (hBN : B ≤ N)
  (c : SC) (hP : PredF B N M g lb Inv (fun _ => 1) f (cells c)) : AllOk B N M g lb Inv f c := by
 revert hP
 refine cell_ind (P := fun c => PredF B N M g lb Inv (fun _ => 1) f (cells c) → AllOk B N M g lb Inv f c) (fun c ih hP => ?_) c
 have hkids : ∀ k ∈ c.f3, AllOk B N M g lb Inv f k := fun k hk => ih k hk (hP.sub (cells_kid hk))
 clear ih
 intro w st u A cap hi hu hN hc hT
 obtain ⟨w1, hw1⟩ : ∃ w1, w1 = (w.alloc (.cells #[.int .u8 c.f0, .int .i64 c.f1.f0, .int .i64 c.f1.f1, .int .i64 c.f1.f2, .int .i64 c.f1.f3, .int .i64 c.f2, .slice A c.f3.length cap] 27)).alloc (.cells #[.func (.func g) #[] lb] 50) := ⟨_, rfl⟩
 have hb : Below w.heap.size w w1 := by rw [hw1]; exact below_alloc (below_alloc (Below.refl _ _) _) _
 have hsz : w1.heap.size = w.heap.size + 2 := by rw [hw1]; simp
 have hcl : (cells c).length = 1 + (cellsL c.f3).length := by rw [cells_eq]; simp; omega
 have hT1 : Tr B w1 A c.f3.length c.f3 := hT.below (((Mid.ofBelow hb : Mid B N w w1)).toB (by omega))
 have HC := Aside0.mk (hP c (cells_self c) w1 st u A cap (hI.below _ _ _ _ hi hb) (by show u + 1 ≤ M; omega) (by omega) hc hT1)
 have k6 : w1.heap[w.heap.size]? = some (.cells #[.int .u8 c.f0, .int .i64 c.f1.f0, .int .i64 c.f1.f1, .int .i64 c.f1.f2, .int .i64 c.f1.f3, .int .i64 c.f2, .slice A c.f3.length cap] 27 (0, 0)) := by
  rw [hw1, Below.heap_alloc _ _ _ (by simp)]; exact heap_alloc_new w _
 have kf : w1.heap[w.heap.size + 1]? = some (.cells #[.func (.func g) #[] lb] 50 (0, 0)) := by
  rw [hw1]
  have h := heap_alloc_new (w.alloc (.cells #[.int .u8 c.f0, .int .i64 c.f1.f0, .int .i64 c.f1.f1, .int .i64 c.f1.f2, .int .i64 c.f1.f3, .int .i64 c.f2, .slice A c.f3.length cap] 27)) (.cells #[.func (.func g) #[] lb] 50)
  simpa using h
 have hvis := visit_self f st c
 rw [hw1] at HC
 have HW := Aside0.mk hw1
 have HB := Aside0.mk hb
 have K6 := Aside0.mk k6
 have KF := Aside0.mk kf
 have HT := Aside0.mk hT1
 have HK := Aside0.mk hkids
 have HII := Aside0.mk hI
 have HCL := Aside0.mk hcl
 have HSZ := Aside0.mk hsz
 have HU := Aside0.mk hu
 clear hw1 hb k6 kf hT1 hkids hI hT hi hP hcl hsz hu
 generalize hv : visitL f st (cells c) = r at *
 have hr1 : ∀ b, (f st c).1 = b → Aside0 (r = if b = true then visitL f (f st c).2 (cellsL c.f3) else (false, (f st c).2)) := fun b hb => ⟨by rw [hvis, hb]⟩
 clear hv hvis
 cases hp : (f st c).1 with
 | false =>
  rw [hp] at HC
  have HR := hr1 false hp
  clear hr1 hp
  go_enter Tryz.func96, Tryz.ntmps96
  go_wp2_with fail
  refine HC.out.mono ?_
  rintro e w2 ⟨rfl, h2⟩
  have H2 := Aside0.mk h2
  clear h2
  go_wp2
  go_ret
  have e : r = (false, (f st c).2) := HR.out
  refine ⟨by rw [e]; rfl, by rw [e]; exact HII.out.mono _ _ _ _ H2.out.1 (by rw [HCL.out]; omega), ?_⟩
  have hm := H2.out.2
  rw [← HW.out] at hm
  exact (Mid.ofBelow HB.out).trans hm
 | true =>
  rw [hp] at HC
  have HR := hr1 true hp
  clear hr1 hp
  go_enter Tryz.func96, Tryz.ntmps96
  go_wp2_with fail
  refine HC.out.mono ?_
  rintro e w2 ⟨rfl, h2⟩
  have hm := h2.2
  rw [← HW.out] at hm
  have hsz2 : w.heap.size + 2 ≤ w2.heap.size := by have := hm.size; rw [HSZ.out] at this; exact this
  have g6 : w2.cell? ⟨w.heap.size, 6, none⟩ = some (.slice A c.f3.length cap) := by rw [blk_cell (hm.blk K6.out hN (by decide))]; rfl
  have gf := hm.blk KF.out (by omega) (by decide)
  have hT2 : Tr B w2 A c.f3.length c.f3 := HT.out.below (hm.toB (by rw [HSZ.out]; omega))
  have hpred : PredF B N M 114 #[.pointer (some ⟨w.heap.size + 1, 0, none⟩)] (WithFn Inv (w.heap.size + 1) (.func (.func g) #[] lb)) (fun k => (cells k).length) (notV f) c.f3 :=
   fun k hk w st u A cap h1 h2 h3 h4 h5 => all1_calls B N M g _ lb Inv HII.out f k hBN (by omega) (HK.out k hk) w st u A cap h1 h2 h3 h4 h5
  have HN := none_calls B N M 114 #[.pointer (some ⟨w.heap.size + 1, 0, none⟩)] enters114 (WithFn Inv (w.heap.size + 1) (.func (.func g) #[] lb)) (HII.out |> fun h => WithFn.stable h _ _) (fun k => (cells k).length) (notV f) A c.f3.length cap c.f3 w2 (f st c).2 (u + 1) hBN (by omega) hpred hT2 ⟨h2.1, gf⟩ (by rw [wts_cells]; have := HU.out; have := HCL.out; omega)
  rw [any_visit, wts_cells] at HN
  have HN := Aside0.mk HN
  have HM := Aside0.mk hm
  clear h2 hm gf hT2 hpred HC
  go_wp2_with fail
  refine HN.out.mono ?_
  rintro e w3 ⟨rfl, h3⟩
  have H3 := Aside0.mk h3
  clear h3
  go_wp2
  go_ret
  have e : r = visitL f (f st c).2 (cellsL c.f3) := HR.out
  refine ⟨by rw [e]; simp, by rw [e, HCL.out]; have := H3.out.1.1; rwa [Nat.add_assoc] at this, ((Mid.ofBelow HB.out).trans HM.out).trans H3.out.2⟩
end Go.Proofs.YtkobpbbegalfpaaGreatDoor

/- Printed texts of this seat, cut to what is used. -/
namespace Go.Proofs.YtkobpbbegalfpaaGreatDoor.PParseBodies
open Go.RowKit Go.Proofs.YtkobpbbegalfpaaGreatDoorW.PrintWords Go.Proofs.YtkobpbbegalfpaaGreatDoorW.PrintLast Go.Proofs.YtkobpbbegalfpaaGreatDoorW.PrintMore
attribute [local go_sem] max2_int min2_int max_two min_two max_three min_three max_four min_four   -- for this text's walks alone
set_option linter.unusedVariables false
set_option linter.unusedSimpArgs false










end Go.Proofs.YtkobpbbegalfpaaGreatDoor.PParseBodies
