/-
  Joined texts: PsRect, PParseBodiesx0.
-/
import Derived.Test.YtkobpbbegalfpaaGreatDoorPsNum
import Derived.Test.YtkobpbbegalfpaaGreatDoorProg
import Derived.Below
import Derived.Deep.Draws
import Derived.Deep.AppendLies
import Derived.Maps.AppendAt
import Derived.OwnWalk
import Derived.Laws.BytesArg
import Derived.Laws.MakeOwn
import Derived.Laws.OwnMore
import Derived.Deep.OwnRows
import Derived.Tactics
import Derived.Lib.ConvBytes
import Derived.Laws.Slices
import Derived.WalkKit
import Derived.KernelRfl
import Derived.RowKit3
import Derived.Deep.LoopGhost
import Derived.Deep.QuietTactic
import Derived.BigQuiet
import Derived.WideLaws
import Derived.Deep.DeepCutAuto
import Derived.Deep.CutBlock
import Derived.Deep.RegionHeld3
import Derived.Laws.Rows
import Derived.Lib.AppendStr
import Derived.ArgAppend
import Derived.Laws.IdiomCopy
import Derived.OrdersHeld
import Derived.Laws.BitsLemmas
import Derived.RowKit
import Derived.Test.YtkobpbbegalfpaaGreatDoorWWords
import Derived.Test.YtkobpbbegalfpaaGreatDoorWFoot
import Derived.Test.YtkobpbbegalfpaaGreatDoorWRepsOne
import Derived.Test.YtkobpbbegalfpaaGreatDoorWNEv
/-
 The reader takes a rectangle.
-/
namespace Go.Proofs.YtkobpbbegalfpaaGreatDoor
open Go.RowKit Go.Proofs.YtkobpbbegalfpaaGreatDoorW.PrintWords Go.Proofs.YtkobpbbegalfpaaGreatDoorW.PrintLast Go.Proofs.YtkobpbbegalfpaaGreatDoorW.PrintMore
set_option linter.unusedVariables false
set_option linter.unusedSimpArgs false
set_option maxRecDepth 100000

/-- A number at a place: it, and the place behind; or the error's number and its place. -/
def numP (hd : ByteArray → Int × Int × Int) (s : ByteArray) (i : Nat) : Except (Int × Nat) (Int × Nat) :=
 if (hd (s.extract i s.size)).2.2 = 0 then .ok ((hd (s.extract i s.size)).1, i + (hd (s.extract i s.size)).2.1.toNat) else .error ((hd (s.extract i s.size)).2.2, i)
def eatP (s : ByteArray) (i : Nat) (c : Int) : Except (Int × Nat) Nat := if aheadI s i = c then .ok (i + 1) else .error (2, i)
/-- An error on its way out, whatever the reader's place. -/
def Out (w : World) (b : Nat) (off : Int) (q : Int × Nat) (e : Ending) (w' : World) : Prop := Thrown w q.1 (off + q.2) e w' ∧ ∃ j, Step w b j w'
def NumPost (w : World) (b : Nat) (off : Int) (r : Except (Int × Nat) (Int × Nat)) (e : Ending) (w' : World) : Prop := match r with
 | .ok p => e = .returned (.int .i64 p.1) ∧ Step w b (p.2 : Int) w'
 | .error q => Out w b off q e w'
def EatPost (w : World) (b : Nat) (off : Int) (r : Except (Int × Nat) Nat) (e : Ending) (w' : World) : Prop := match r with
 | .ok j => e = .returned (.tuple #[]) ∧ Step w b (j : Int) w'
 | .error q => Out w b off q e w'
/-- What num.Head tells: a number, its digits' number within the text; an error's number. -/
structure HeadB (hd : ByteArray → Int × Int × Int) : Prop where
 len : ∀ a, 0 ≤ (hd a).2.1 ∧ (hd a).2.1 ≤ (a.size : Int)
theorem numP_le {hd : ByteArray → Int × Int × Int} (hb : HeadB hd) {s : ByteArray} {i : Nat} (hi : i ≤ s.size) {p : Int × Nat} (h : numP hd s i = .ok p) : p.2 ≤ s.size := by
 have hl := hb.len (s.extract i s.size)
 rw [ByteArray.size_extract] at hl
 unfold numP at h
 split at h
 ·cases h
  simp only
  omega
 ·cases h
theorem eatP_le {s : ByteArray} {i : Nat} {c : Int} (hc : ¬ c = 0) {j : Nat} (h : eatP s i c = .ok j) : j = i + 1 ∧ ∃ h : i < s.size, (s[i].toNat : Int) = c := by
 unfold eatP at h
 split at h
 ·rename_i ha
  cases h
  refine ⟨rfl, ?_⟩
  unfold aheadI at ha
  split at ha
  ·rename_i hlt; exact ⟨hlt, ha⟩
  ·exact absurd ha.symm hc
 ·cases h
theorem num_calls (hd : ByteArray → Int × Int × Int) (I : World → Prop) (w : World) (b : Nat) (s : ByteArray) (i : Nat) (off : Int) (hs : s.size ≤ 100000) (ho : 0 ≤ off ∧ off ≤ 1000) (hi : i ≤ s.size) (hb : HeadB hd) (hc : HeadC hd b I) (hI : I w) (k : RdA w b s i off) :
  Calls Tryz.prog 71 #[.pointer (some ⟨b, 0, none⟩)] w (NumPost w b off (numP hd s i)) := by
 have hl := hb.len (s.extract i s.size)
 rw [ByteArray.size_extract] at hl
 by_cases hE : (hd (s.extract i s.size)).2.2 = 0
 ·have e : numP hd s i = .ok ((hd (s.extract i s.size)).1, i + (hd (s.extract i s.size)).2.1.toNat) := if_pos hE
  rw [e]
  refine (num_yes hd I w b s i off (hd (s.extract i s.size)).1 (hd (s.extract i s.size)).2.1 (hd (s.extract i s.size)).2.2 hs hi hc hI rfl hE ⟨hl.1, by omega⟩ k).mono fun e w' ⟨p1, p2⟩ => ⟨p1, ?_⟩
  have e2 : ((i + (hd (s.extract i s.size)).2.1.toNat : Nat) : Int) = (i : Int) + (hd (s.extract i s.size)).2.1 := by omega
  show Step w b ((i + (hd (s.extract i s.size)).2.1.toNat : Nat) : Int) w'
  rw [e2]
  exact p2
 ·have e : numP hd s i = .error ((hd (s.extract i s.size)).2.2, i) := if_neg hE
  rw [e]
  exact (num_no hd I w b s i off (hd (s.extract i s.size)).1 (hd (s.extract i s.size)).2.1 (hd (s.extract i s.size)).2.2 hs ho hi hc hI rfl hE k).mono fun e w' ⟨p1, p2⟩ => ⟨p1, _, Step.of_below k p2⟩
theorem eat_calls (w : World) (b : Nat) (s : ByteArray) (i : Nat) (off c : Int) (hs : s.size ≤ 100000) (ho : 0 ≤ off ∧ off ≤ 1000) (hi : i ≤ s.size) (hc : ¬ c = 0) (k : RdA w b s i off) :
  Calls Tryz.prog 70 #[.pointer (some ⟨b, 0, none⟩), .int .u8 c] w (EatPost w b off (eatP s i c)) := by
 by_cases ha : aheadI s i = c
 ·have e : eatP s i c = .ok (i + 1) := if_pos ha
  obtain ⟨_, h1, h2⟩ := eatP_le hc e
  rw [e]
  exact (eat_yes w b s i off c hs h1 h2 k).mono fun e w' ⟨p1, p2⟩ => ⟨p1, p2⟩
 ·have e : eatP s i c = .error (2, i) := if_neg ha
  rw [e]
  exact (eat_no w b s i off c hs ho hi ha k).mono fun e w' ⟨p1, p2⟩ => ⟨p1, _, Step.of_below k p2⟩
/-- The world while a piece is read: the reader's place, and the result's variable. -/
structure PS (w W : World) (b : Nat) (s : ByteArray) (off : Int) (j : Nat) (cs : Array Value) (T : Nat) : Prop where
 st : Step w b (j : Int) W
 rd : RdA W b s j off
 res : W.heap[w.heap.size]? = some (.cells cs T (0, 0))
theorem PS.new {w : World} {b : Nat} {s : ByteArray} {off : Int} {i : Nat} (k : RdA w b s i off) (cs : Array Value) (T : Nat) : PS w (w.alloc (.cells cs T)) b s off i cs T :=
 ⟨Step.of_below k (below_alloc (Below.refl _ _) _), k.below (below_alloc (Below.refl _ _) _), heap_alloc_new w _⟩
theorem PS.step {w W W' : World} {b : Nat} {s : ByteArray} {off i0 : Int} {i j : Nat} {cs : Array Value} {T : Nat} (p : PS w W b s off i cs T) (k : RdA w b s i0 off) (h : Step W b (j : Int) W') : PS w W' b s off j cs T :=
 ⟨Step.trans k p.st h, h.rd p.rd, by
  have hne : w.heap.size ≠ b := Nat.ne_of_gt k.lt
  exact (h.block _ (blk_lt p.res)).trans ((Below.heap_setCell W ⟨b, 1, none⟩ _ _ hne).trans p.res)⟩
/-- Four numbers, with their marks between them. -/
def rectP (hd : ByteArray → Int × Int × Int) (s : ByteArray) (i : Nat) : Except (Int × Nat) ((Int × Int × Int × Int) × Nat) := do
 let w ← numP hd s i
 let a ← eatP s w.2 120
 let h ← numP hd s a
 let b ← eatP s h.2 44
 let x ← numP hd s b
 let c ← eatP s x.2 44
 let y ← numP hd s c
 return ((x.1, y.1, w.1, h.1), y.2)
def RectPost (w : World) (b : Nat) (off : Int) (r : Except (Int × Nat) ((Int × Int × Int × Int) × Nat)) (e : Ending) (w' : World) : Prop := match r with
 | .ok p => e = .returned (.agg #[.int .i64 p.1.1, .int .i64 p.1.2.1, .int .i64 p.1.2.2.1, .int .i64 p.1.2.2.2]) ∧ Step w b (p.2 : Int) w'
 | .error q => Out w b off q e w'
set_option maxHeartbeats 8000000 in
theorem rect_calls (hd : ByteArray → Int × Int × Int) (I : World → Prop) (w : World) (b : Nat) (s : ByteArray) (i : Nat) (off : Int) (hs : s.size ≤ 100000) (ho : 0 ≤ off ∧ off ≤ 1000) (hi : i ≤ s.size) (hb : HeadB hd) (hc : HeadC hd b I) (hI : I w) (k : RdA w b s i off) :
  Calls Tryz.prog 67 #[.pointer (some ⟨b, 0, none⟩)] w (RectPost w b off (rectP hd s i)) := by
 have hmf : ∀ (fn : Fn) (first cap : Array Value) (w : World), (Instr.makeFunc fn first cap).run Tryz.prog w = .ok (.func fn first cap) w := fun _ _ _ _ => rfl
 obtain ⟨W0, hW0⟩ : ∃ W0, W0 = w.alloc (.cells #[.int .i64 0, .int .i64 0, .int .i64 0, .int .i64 0] 24) := ⟨_, rfl⟩
 have HP0 : Aside0 (PS w W0 b s off i #[.int .i64 0, .int .i64 0, .int .i64 0, .int .i64 0] 24) := ⟨by rw [hW0]; exact PS.new k _ _⟩
 have HK := Aside0.mk k
 have HI0 : Aside0 (I W0) := ⟨hc.step hI HP0.out.st⟩
 have HW := Aside0.mk hW0
 have HL0 : Aside0 (i ≤ s.size) := ⟨hi⟩
 clear hW0 k hI hi
 go_enter Tryz.func67, Tryz.ntmps67
 have HN0 := Aside0.mk (num_calls hd I W0 b s (i) off hs ho HL0.out hb hc HI0.out HP0.out.rd)
 go_wp2_with fail
 rw [← HW.out]
 with_reducible refine HN0.out.mono ?_
 rintro e w1 h1
 clear HN0
 cases hn0 : numP hd s i with
 | error q =>
  rw [hn0] at h1
  have hR : rectP hd s i = .error q := by simp [rectP, hn0, bind, Except.bind]
  obtain ⟨⟨g, rfl, hg, hg2⟩, jj, hst⟩ := h1
  rw [hR]
  exact ⟨rfl, ⟨g, rfl, Nat.le_trans HP0.out.st.size hg, hg2⟩, jj, Step.trans HK.out HP0.out.st hst⟩
 | ok p0 =>
  rw [hn0] at h1
  obtain ⟨rfl, hst⟩ := h1
  obtain ⟨W1, hW⟩ : ∃ W, W = w1 := ⟨_, rfl⟩
  have HP1 := Aside0.mk (HP0.out.step HK.out hst)
  have HI1 := Aside0.mk (hc.step HI0.out hst)
  have HL1 : Aside0 (p0.2 ≤ s.size) := ⟨numP_le hb HL0.out hn0⟩
  have E0 := Aside0.mk hn0
  rw [← hW] at HP1 HI1 ⊢
  clear hst hn0 hW
  have HN1 := Aside0.mk (eat_calls W1 b s (p0.2) off 120 hs ho HL1.out (by decide) HP1.out.rd)
  go_wp2_with fail
  with_reducible refine HN1.out.mono ?_
  rintro e w2 h2
  clear HN1
  cases hn1 : eatP s p0.2 120 with
  | error q =>
   rw [hn1] at h2
   have hR : rectP hd s i = .error q := by simp [rectP, E0.out, hn1, bind, Except.bind]
   obtain ⟨⟨g, rfl, hg, hg2⟩, jj, hst⟩ := h2
   rw [hR]
   exact ⟨rfl, ⟨g, rfl, Nat.le_trans HP1.out.st.size hg, hg2⟩, jj, Step.trans HK.out HP1.out.st hst⟩
  | ok a1 =>
   rw [hn1] at h2
   obtain ⟨rfl, hst⟩ := h2
   obtain ⟨W2, hW⟩ : ∃ W, W = w2 := ⟨_, rfl⟩
   have HP2 := Aside0.mk (HP1.out.step HK.out hst)
   have HI2 := Aside0.mk (hc.step HI1.out hst)
   have HL2 : Aside0 (a1 ≤ s.size) := ⟨(by obtain ⟨e1, h1, _⟩ := eatP_le (by decide) hn1; omega)⟩
   have E1 := Aside0.mk hn1
   rw [← hW] at HP2 HI2 ⊢
   clear hst hn1 hW
   have HN2 := Aside0.mk (num_calls hd I W2 b s (a1) off hs ho HL2.out hb hc HI2.out HP2.out.rd)
   go_wp2_with fail
   with_reducible refine HN2.out.mono ?_
   rintro e w3 h3
   clear HN2
   cases hn2 : numP hd s a1 with
   | error q =>
    rw [hn2] at h3
    have hR : rectP hd s i = .error q := by simp [rectP, E0.out, E1.out, hn2, bind, Except.bind]
    obtain ⟨⟨g, rfl, hg, hg2⟩, jj, hst⟩ := h3
    rw [hR]
    exact ⟨rfl, ⟨g, rfl, Nat.le_trans HP2.out.st.size hg, hg2⟩, jj, Step.trans HK.out HP2.out.st hst⟩
   | ok p2 =>
    rw [hn2] at h3
    obtain ⟨rfl, hst⟩ := h3
    obtain ⟨W3, hW⟩ : ∃ W, W = w3 := ⟨_, rfl⟩
    have HP3 := Aside0.mk (HP2.out.step HK.out hst)
    have HI3 := Aside0.mk (hc.step HI2.out hst)
    have HL3 : Aside0 (p2.2 ≤ s.size) := ⟨numP_le hb HL2.out hn2⟩
    have E2 := Aside0.mk hn2
    rw [← hW] at HP3 HI3 ⊢
    clear hst hn2 hW
    have HN3 := Aside0.mk (eat_calls W3 b s (p2.2) off 44 hs ho HL3.out (by decide) HP3.out.rd)
    go_wp2_with fail
    with_reducible refine HN3.out.mono ?_
    rintro e w4 h4
    clear HN3
    cases hn3 : eatP s p2.2 44 with
    | error q =>
     rw [hn3] at h4
     have hR : rectP hd s i = .error q := by simp [rectP, E0.out, E1.out, E2.out, hn3, bind, Except.bind]
     obtain ⟨⟨g, rfl, hg, hg2⟩, jj, hst⟩ := h4
     rw [hR]
     exact ⟨rfl, ⟨g, rfl, Nat.le_trans HP3.out.st.size hg, hg2⟩, jj, Step.trans HK.out HP3.out.st hst⟩
    | ok a3 =>
     rw [hn3] at h4
     obtain ⟨rfl, hst⟩ := h4
     obtain ⟨W4, hW⟩ : ∃ W, W = w4 := ⟨_, rfl⟩
     have HP4 := Aside0.mk (HP3.out.step HK.out hst)
     have HI4 := Aside0.mk (hc.step HI3.out hst)
     have HL4 : Aside0 (a3 ≤ s.size) := ⟨(by obtain ⟨e1, h1, _⟩ := eatP_le (by decide) hn3; omega)⟩
     have E3 := Aside0.mk hn3
     rw [← hW] at HP4 HI4 ⊢
     clear hst hn3 hW
     have HN4 := Aside0.mk (num_calls hd I W4 b s (a3) off hs ho HL4.out hb hc HI4.out HP4.out.rd)
     go_wp2_with fail
     with_reducible refine HN4.out.mono ?_
     rintro e w5 h5
     clear HN4
     cases hn4 : numP hd s a3 with
     | error q =>
      rw [hn4] at h5
      have hR : rectP hd s i = .error q := by simp [rectP, E0.out, E1.out, E2.out, E3.out, hn4, bind, Except.bind]
      obtain ⟨⟨g, rfl, hg, hg2⟩, jj, hst⟩ := h5
      rw [hR]
      exact ⟨rfl, ⟨g, rfl, Nat.le_trans HP4.out.st.size hg, hg2⟩, jj, Step.trans HK.out HP4.out.st hst⟩
     | ok p4 =>
      rw [hn4] at h5
      obtain ⟨rfl, hst⟩ := h5
      obtain ⟨W5, hW⟩ : ∃ W, W = w5 := ⟨_, rfl⟩
      have HP5 := Aside0.mk (HP4.out.step HK.out hst)
      have HI5 := Aside0.mk (hc.step HI4.out hst)
      have HL5 : Aside0 (p4.2 ≤ s.size) := ⟨numP_le hb HL4.out hn4⟩
      have E4 := Aside0.mk hn4
      rw [← hW] at HP5 HI5 ⊢
      clear hst hn4 hW
      have HN5 := Aside0.mk (eat_calls W5 b s (p4.2) off 44 hs ho HL5.out (by decide) HP5.out.rd)
      go_wp2_with fail
      with_reducible refine HN5.out.mono ?_
      rintro e w6 h6
      clear HN5
      cases hn5 : eatP s p4.2 44 with
      | error q =>
       rw [hn5] at h6
       have hR : rectP hd s i = .error q := by simp [rectP, E0.out, E1.out, E2.out, E3.out, E4.out, hn5, bind, Except.bind]
       obtain ⟨⟨g, rfl, hg, hg2⟩, jj, hst⟩ := h6
       rw [hR]
       exact ⟨rfl, ⟨g, rfl, Nat.le_trans HP5.out.st.size hg, hg2⟩, jj, Step.trans HK.out HP5.out.st hst⟩
      | ok a5 =>
       rw [hn5] at h6
       obtain ⟨rfl, hst⟩ := h6
       obtain ⟨W6, hW⟩ : ∃ W, W = w6 := ⟨_, rfl⟩
       have HP6 := Aside0.mk (HP5.out.step HK.out hst)
       have HI6 := Aside0.mk (hc.step HI5.out hst)
       have HL6 : Aside0 (a5 ≤ s.size) := ⟨(by obtain ⟨e1, h1, _⟩ := eatP_le (by decide) hn5; omega)⟩
       have E5 := Aside0.mk hn5
       rw [← hW] at HP6 HI6 ⊢
       clear hst hn5 hW
       have HN6 := Aside0.mk (num_calls hd I W6 b s (a5) off hs ho HL6.out hb hc HI6.out HP6.out.rd)
       go_wp2_with fail
       with_reducible refine HN6.out.mono ?_
       rintro e w7 h7
       clear HN6
       cases hn6 : numP hd s a5 with
       | error q =>
        rw [hn6] at h7
        have hR : rectP hd s i = .error q := by simp [rectP, E0.out, E1.out, E2.out, E3.out, E4.out, E5.out, hn6, bind, Except.bind]
        obtain ⟨⟨g, rfl, hg, hg2⟩, jj, hst⟩ := h7
        rw [hR]
        exact ⟨rfl, ⟨g, rfl, Nat.le_trans HP6.out.st.size hg, hg2⟩, jj, Step.trans HK.out HP6.out.st hst⟩
       | ok p6 =>
        rw [hn6] at h7
        obtain ⟨rfl, hst⟩ := h7
        obtain ⟨W7, hW⟩ : ∃ W, W = w7 := ⟨_, rfl⟩
        have HP7 := Aside0.mk (HP6.out.step HK.out hst)
        have HI7 := Aside0.mk (hc.step HI6.out hst)
        have HL7 : Aside0 (p6.2 ≤ s.size) := ⟨numP_le hb HL6.out hn6⟩
        have E6 := Aside0.mk hn6
        rw [← hW] at HP7 HI7 ⊢
        clear hst hn6 hW
        have hR : rectP hd s i = .ok ((p4.1, p6.1, p0.1, p2.1), p6.2) := by simp [rectP, E0.out, E1.out, E2.out, E3.out, E4.out, E5.out, E6.out, bind, Except.bind, pure, Except.pure]
        have HR := Aside0.mk hR
        have hres := HP7.out.res
        have HB := Aside0.mk hres
        have g0 : W7.cell? ⟨w.heap.size, 0, none⟩ = some (.int .i64 0) := by simp [World.cell?, hres]
        have g1 : W7.cell? ⟨w.heap.size, 1, none⟩ = some (.int .i64 0) := by simp [World.cell?, hres]
        have g2 : W7.cell? ⟨w.heap.size, 2, none⟩ = some (.int .i64 0) := by simp [World.cell?, hres]
        have g3 : W7.cell? ⟨w.heap.size, 3, none⟩ = some (.int .i64 0) := by simp [World.cell?, hres]
        have f0 := blk_frozen hres 0
        have f1 := blk_frozen hres 1
        have f2 := blk_frozen hres 2
        have f3 := blk_frozen hres 3
        clear hR hres
        go_wp2
        refine bodyPost_ret (v := .agg #[.int .i64 p4.1, .int .i64 p6.1, .int .i64 p0.1, .int .i64 p2.1]) (by simp [results, Tryz.results67, go_sem, g0, g1, g2, g3]) rfl ?_
        rw [HR.out]
        exact ⟨rfl, ((((HP7.out.st).setCell (p := ⟨w.heap.size, 0, none⟩) (Nat.le_refl _) _).setCell (p := ⟨w.heap.size, 1, none⟩) (Nat.le_refl _) _).setCell (p := ⟨w.heap.size, 2, none⟩) (Nat.le_refl _) _).setCell (p := ⟨w.heap.size, 3, none⟩) (Nat.le_refl _) _⟩
end Go.Proofs.YtkobpbbegalfpaaGreatDoor

/- Printed texts of this seat, cut to what is used. -/
namespace Go.Proofs.YtkobpbbegalfpaaGreatDoor.PParseBodies
open Go.RowKit Go.Proofs.YtkobpbbegalfpaaGreatDoorW.PrintWords Go.Proofs.YtkobpbbegalfpaaGreatDoorW.PrintLast Go.Proofs.YtkobpbbegalfpaaGreatDoorW.PrintMore
attribute [local go_sem] max2_int min2_int max_two min_two max_three min_three max_four min_four   -- for this text's walks alone
set_option linter.unusedVariables false
set_option linter.unusedSimpArgs false



def errW : Option Int → Value
 | none => .nilIface
 | some c => .iface 180 (.int .i64 c)
theorem errW_none : errW none = .nilIface := rfl
theorem errW_some (c : Int) : errW (some c) = .iface 180 (.int .i64 c) := rfl

theorem info3 : (Tryz.prog.info? 3).map (fun i => (i.zero, i.size, i.bytes)) = some (some (.int .i64 0), 1, 8) := by kernel_rfl
theorem info24 : (Tryz.prog.info? 24).map (fun i => (i.zero, i.size, i.bytes)) = some (some (.agg #[(.int .i64 0), (.int .i64 0), (.int .i64 0), (.int .i64 0)]), 4, 32) := by kernel_rfl
theorem info27 : (Tryz.prog.info? 27).map (fun i => (i.zero, i.size, i.bytes)) = some (some (.agg #[(.int .u8 0), (.int .i64 0), (.int .i64 0), (.int .i64 0), (.int .i64 0), (.int .i64 0), (.slice none 0 0)]), 7, 72) := by kernel_rfl
structure S24 where
 f0 : Int
 f1 : Int
 f2 : Int
 f3 : Int
def z24 : S24 := ⟨(0 : Int), (0 : Int), (0 : Int), (0 : Int)⟩
def k24 : Kd S24 := Kd.iso (Kd.pair (Kd.int .i64) (Kd.pair (Kd.int .i64) (Kd.pair (Kd.int .i64) (Kd.int .i64)))) (fun x : S24 => (x.f0, x.f1, x.f2, x.f3))
theorem k24_heap : Kd.Heap k24 := Kd.heap_iso _ (Kd.heap_pair (Kd.heap_int .i64) (Kd.heap_pair (Kd.heap_int .i64) (Kd.heap_pair (Kd.heap_int .i64) (Kd.heap_int .i64))))
theorem k24_open {w : World} {x : S24} {cs : List Value} (h : k24.K w x cs) : cs = [.int .i64 x.f0, .int .i64 x.f1, .int .i64 x.f2, .int .i64 x.f3] := by
 obtain ⟨_, _, rfl, rfl, ⟨_, _, rfl, rfl, ⟨_, _, rfl, rfl, rfl⟩⟩⟩ := h
 exact rfl
theorem k24_mk (w : World) (x : S24)  : k24.K w x [.int .i64 x.f0, .int .i64 x.f1, .int .i64 x.f2, .int .i64 x.f3] := ⟨[.int .i64 x.f0], [.int .i64 x.f1, .int .i64 x.f2, .int .i64 x.f3], rfl, rfl, ⟨[.int .i64 x.f1], [.int .i64 x.f2, .int .i64 x.f3], rfl, rfl, ⟨[.int .i64 x.f2], [.int .i64 x.f3], rfl, rfl, rfl⟩⟩⟩
theorem k24_mkM (w : World) (base : Nat) (ok : Nat → Prop) (x : S24)  : k24.M w base ok x [.int .i64 x.f0, .int .i64 x.f1, .int .i64 x.f2, .int .i64 x.f3] := ⟨[.int .i64 x.f0], [.int .i64 x.f1, .int .i64 x.f2, .int .i64 x.f3], rfl, rfl, ⟨[.int .i64 x.f1], [.int .i64 x.f2, .int .i64 x.f3], rfl, rfl, ⟨[.int .i64 x.f2], [.int .i64 x.f3], rfl, rfl, rfl⟩⟩⟩
def rd_T24 (xs : List S24) (i : Int) : S24 := xs.getD i.toNat z24
theorem at_T24 {w : World} {A : Option Addr} {n : Nat} {xs : List S24} (h : Kd.C k24 w A n xs) (i : Int) (h0 : 0 ≤ i) (h1 : i < n) : ∃ ad , A = some ad ∧ w.cell? (ad.add (i.toNat * 4)) = some (.int .i64 (rd_T24 xs i).f0) ∧ w.cell? ⟨(ad.add (i.toNat * 4)).block, (ad.add (i.toNat * 4)).off + 1, none⟩ = some (.int .i64 (rd_T24 xs i).f1) ∧ w.cell? ⟨(ad.add (i.toNat * 4)).block, (ad.add (i.toNat * 4)).off + 2, none⟩ = some (.int .i64 (rd_T24 xs i).f2) ∧ w.cell? ⟨(ad.add (i.toNat * 4)).block, (ad.add (i.toNat * 4)).off + 3, none⟩ = some (.int .i64 (rd_T24 xs i).f3) := by
 obtain ⟨ad, c, e, _, hK, hc0⟩ := Kd.C_get h z24 i h0 h1
 have hc : ∀ j u, c[j]? = some u → w.cell? (ad.add (i.toNat * 4 + j)) = some u := hc0
 obtain rfl := k24_open hK
 exact ⟨ad, e, hc 0 _ rfl, by rw [← add_field _ _ 1 (by omega)]; exact hc 1 _ rfl, by rw [← add_field _ _ 2 (by omega)]; exact hc 2 _ rfl, by rw [← add_field _ _ 3 (by omega)]; exact hc 3 _ rfl⟩

structure S27 where
 f0 : Int
 f1 : S24
 f2 : Int
 f3 : (List S27)
def z27 : S27 := ⟨(0 : Int), z24, (0 : Int), ([] : List S27)⟩
def F27 (d : Kd S27) : Kd S27 := Kd.iso (Kd.pair (Kd.int .u8) (Kd.pair k24 (Kd.pair (Kd.int .i64) (Kd.slice 27 d)))) (fun x : S27 => (x.f0, x.f1, x.f2, x.f3))
theorem mono27 : Kd.Mono F27 := Kd.mono_iso _ (Kd.mono_pair (Kd.mono_const _) (Kd.mono_pair (Kd.mono_const _) (Kd.mono_pair (Kd.mono_const _) (Kd.mono_slice 27 Kd.mono_id))))
theorem sub27 : Kd.Sub F27 [27] := Kd.sub_iso _ (Kd.sub_pair (Kd.sub_const _ (by decide)) (Kd.sub_pair (Kd.sub_const _ (by decide)) (Kd.sub_pair (Kd.sub_const _ (by decide)) (Kd.sub_slice 27 (by decide) Kd.sub_id))))
theorem sz27 : ∀ n, (Kd.upto F27 7 [27] n).sz = 7 := Kd.upto_sz (fun _ => rfl)
def k27 : Kd S27 := Kd.fix F27 7 [27] sz27 (Kd.upto_E sub27)
theorem k27_heap : Kd.Heap k27 := Kd.heap_fix (fun _ h_ => Kd.heap_iso _ (Kd.heap_pair (Kd.heap_int .u8) (Kd.heap_pair k24_heap (Kd.heap_pair (Kd.heap_int .i64) (Kd.heap_slice 27 h_)))))
theorem k27_open {w : World} {x : S27} {cs : List Value} (h : k27.K w x cs) : ∃ A6 c6, cs = [.int .u8 x.f0, .int .i64 x.f1.f0, .int .i64 x.f1.f1, .int .i64 x.f1.f2, .int .i64 x.f1.f3, .int .i64 x.f2, .slice A6 x.f3.length c6] ∧ x.f3.length ≤ c6 ∧ k27.C w A6 x.f3.length x.f3 := by
 obtain ⟨n, h⟩ := h
 cases n with
 | zero => exact h.elim
 | succ n =>
  obtain ⟨_, _, rfl, rfl, ⟨_, _, rfl, s1, ⟨_, _, rfl, rfl, ⟨A6, c6, rfl, l6, g6⟩⟩⟩⟩ := h
  obtain rfl := k24_open s1
  exact ⟨A6, c6, rfl, l6, Kd.fix_C g6⟩
theorem k27_mk (w : World) (x : S27) {A6 : Option Addr} {c6 : Nat} (l6 : x.f3.length ≤ c6) (g6 : k27.C w A6 x.f3.length x.f3) : k27.K w x [.int .u8 x.f0, .int .i64 x.f1.f0, .int .i64 x.f1.f1, .int .i64 x.f1.f2, .int .i64 x.f1.f3, .int .i64 x.f2, .slice A6 x.f3.length c6] := by
 obtain ⟨n6, q6⟩ := Kd.fix_C_back mono27 g6
 have r6 := Kd.upto_C_le mono27 sz27 (show n6 ≤ n6 by omega) q6
 exact ⟨n6 + 1, ⟨[.int .u8 x.f0], [.int .i64 x.f1.f0, .int .i64 x.f1.f1, .int .i64 x.f1.f2, .int .i64 x.f1.f3, .int .i64 x.f2, .slice A6 x.f3.length c6], rfl, rfl, ⟨[.int .i64 x.f1.f0, .int .i64 x.f1.f1, .int .i64 x.f1.f2, .int .i64 x.f1.f3], [.int .i64 x.f2, .slice A6 x.f3.length c6], rfl, (k24_mk w x.f1 ), ⟨[.int .i64 x.f2], [.slice A6 x.f3.length c6], rfl, rfl, ⟨A6, c6, rfl, l6, r6⟩⟩⟩⟩⟩
theorem k27_mkM (w : World) (base : Nat) (ok : Nat → Prop) (x : S27) {v6 : Value} (g6 : k27.R 27 w base ok v6 x.f3) : k27.M w base ok x [.int .u8 x.f0, .int .i64 x.f1.f0, .int .i64 x.f1.f1, .int .i64 x.f1.f2, .int .i64 x.f1.f3, .int .i64 x.f2, v6] := by
 obtain ⟨n6, q6⟩ := Kd.fix_R_back mono27 g6
 have r6 := Kd.upto_R_le mono27 sz27 (show n6 ≤ n6 by omega) q6
 exact ⟨n6 + 1, ⟨[.int .u8 x.f0], [.int .i64 x.f1.f0, .int .i64 x.f1.f1, .int .i64 x.f1.f2, .int .i64 x.f1.f3, .int .i64 x.f2, v6], rfl, rfl, ⟨[.int .i64 x.f1.f0, .int .i64 x.f1.f1, .int .i64 x.f1.f2, .int .i64 x.f1.f3], [.int .i64 x.f2, v6], rfl, (k24_mkM w base ok x.f1 ), ⟨[.int .i64 x.f2], [v6], rfl, rfl, ⟨v6, rfl, r6⟩⟩⟩⟩⟩
theorem k27_openF {W : World} {ok : Nat → Prop} {x : S27} {cs : List Value} (h : Kd.FK k27 W ok x cs) : ∃ A6 c6, cs = [.int .u8 x.f0, .int .i64 x.f1.f0, .int .i64 x.f1.f1, .int .i64 x.f1.f2, .int .i64 x.f1.f3, .int .i64 x.f2, .slice A6 x.f3.length c6] ∧ x.f3.length ≤ c6 ∧ Kd.F k27 W ok A6 x.f3.length x.f3 := by
 obtain ⟨A6, c6, rfl, l6, _⟩ := k27_open (Kd.FK_now h)
 exact ⟨A6, c6, rfl, l6, (fun W' hW => by obtain ⟨A6_, c6_, he, l6_, g6_⟩ := k27_open (h W' hW); injection (Option.some.inj (show some (Value.slice A6 x.f3.length c6) = some (Value.slice A6_ x.f3.length c6_) from congrArg (fun l => l[6]?) he)) with ha_ _ _; rw [ha_]; exact g6_)⟩
theorem k27_mkF (W : World) (ok : Nat → Prop) (x : S27) {A6 : Option Addr} {c6 : Nat} (l6 : x.f3.length ≤ c6) (g6 : Kd.F k27 W ok A6 x.f3.length x.f3) : Kd.FK k27 W ok x [.int .u8 x.f0, .int .i64 x.f1.f0, .int .i64 x.f1.f1, .int .i64 x.f1.f2, .int .i64 x.f1.f3, .int .i64 x.f2, .slice A6 x.f3.length c6] := fun W2 hW => k27_mk W2 x l6 (g6 W2 hW)
def rd_T27 (xs : List S27) (i : Int) : S27 := xs.getD i.toNat z27
theorem at_T27 {w : World} {A : Option Addr} {n : Nat} {xs : List S27} (h : Kd.C k27 w A n xs) (i : Int) (h0 : 0 ≤ i) (h1 : i < n) : ∃ ad A6 c6, A = some ad ∧ w.cell? (ad.add (i.toNat * 7)) = some (.int .u8 (rd_T27 xs i).f0) ∧ w.cell? ⟨(ad.add (i.toNat * 7)).block, (ad.add (i.toNat * 7)).off + 1, none⟩ = some (.int .i64 (rd_T27 xs i).f1.f0) ∧ w.cell? ⟨(ad.add (i.toNat * 7)).block, (ad.add (i.toNat * 7)).off + 2, none⟩ = some (.int .i64 (rd_T27 xs i).f1.f1) ∧ w.cell? ⟨(ad.add (i.toNat * 7)).block, (ad.add (i.toNat * 7)).off + 3, none⟩ = some (.int .i64 (rd_T27 xs i).f1.f2) ∧ w.cell? ⟨(ad.add (i.toNat * 7)).block, (ad.add (i.toNat * 7)).off + 4, none⟩ = some (.int .i64 (rd_T27 xs i).f1.f3) ∧ w.cell? ⟨(ad.add (i.toNat * 7)).block, (ad.add (i.toNat * 7)).off + 5, none⟩ = some (.int .i64 (rd_T27 xs i).f2) ∧ w.cell? ⟨(ad.add (i.toNat * 7)).block, (ad.add (i.toNat * 7)).off + 6, none⟩ = some (.slice A6 (rd_T27 xs i).f3.length c6) ∧ (rd_T27 xs i).f3.length ≤ c6 ∧ k27.C w A6 (rd_T27 xs i).f3.length (rd_T27 xs i).f3 := by
 obtain ⟨ad, c, e, _, hK, hc0⟩ := Kd.C_get h z27 i h0 h1
 have hc : ∀ j u, c[j]? = some u → w.cell? (ad.add (i.toNat * 7 + j)) = some u := hc0
 obtain ⟨A6, c6, rfl, l6, g6⟩ := k27_open hK
 exact ⟨ad, A6, c6, e, hc 0 _ rfl, by rw [← add_field _ _ 1 (by omega)]; exact hc 1 _ rfl, by rw [← add_field _ _ 2 (by omega)]; exact hc 2 _ rfl, by rw [← add_field _ _ 3 (by omega)]; exact hc 3 _ rfl, by rw [← add_field _ _ 4 (by omega)]; exact hc 4 _ rfl, by rw [← add_field _ _ 5 (by omega)]; exact hc 5 _ rfl, by rw [← add_field _ _ 6 (by omega)]; exact hc 6 _ rfl, l6, g6⟩

end Go.Proofs.YtkobpbbegalfpaaGreatDoor.PParseBodies
