/-
 tile.lines: the lines of a cell alone.
-/
import Derived.Test.YtkobpbbegalfpaaGreatDoorTiCut
import Derived.Test.YtkobpbbegalfpaaGreatDoorPParseBodiesx2
import Derived.Outline
namespace Go.Proofs.YtkobpbbegalfpaaGreatDoor
open Go.RowKit Go.Proofs.YtkobpbbegalfpaaGreatDoorW.PrintWords Go.Proofs.YtkobpbbegalfpaaGreatDoorW.PrintLast Go.Proofs.YtkobpbbegalfpaaGreatDoorW.PrintMore Go.Proofs.YtkobpbbegalfpaaGreatDoor.PParseBodies
set_option linter.unusedVariables false
set_option linter.unusedSimpArgs false
set_option maxRecDepth 100000

theorem sr_ext {a b : SR} (h0 : a.f0 = b.f0) (h1 : a.f1 = b.f1) (h2 : a.f2 = b.f2) (h3 : a.f3 = b.f3) : a = b := by cases a; cases b; simp_all
theorem lines1_calls (c : SC) (r : SR) (A : Option Addr) (n cap : Nat) (w : World) :
  Calls Tryz.prog 139 #[.agg #[.int .u8 c.f0, .int .i64 c.f1.f0, .int .i64 c.f1.f1, .int .i64 c.f1.f2, .int .i64 c.f1.f3, .int .i64 c.f2, .slice A n cap], .agg #[.int .i64 r.f0, .int .i64 r.f1, .int .i64 r.f2, .int .i64 r.f3]] w
   fun e w' => e = .returned (.bool (decide (c.f1 = r))) ∧ Below w.heap.size w w' := by
 have hb : Below w.heap.size w ((w.alloc (.cells #[.int .u8 c.f0, .int .i64 c.f1.f0, .int .i64 c.f1.f1, .int .i64 c.f1.f2, .int .i64 c.f1.f3, .int .i64 c.f2, .slice A n cap] 27)).alloc (.cells #[.int .i64 r.f0, .int .i64 r.f1, .int .i64 r.f2, .int .i64 r.f3] 24)) := below_alloc (below_alloc (Below.refl _ _) _) _
 by_cases h : c.f1 = r
 ·rw [decide_eq_true h]
  subst h
  have HB := Aside0.mk hb
  clear hb
  go_enter Tryz.func139, Tryz.ntmps139
  go_wp2
  go_ret
  exact ⟨rfl, HB.out⟩
 ·rw [decide_eq_false h]
  have HH := Aside0.mk h
  clear hb h
  go_enter Tryz.func139, Tryz.ntmps139
  go_wp2
  all_goals first
   | (exfalso; exact HH.out (sr_ext ‹_› ‹_› ‹_› ‹_›))
   | (go_ret; exact ⟨rfl, by repeat (first | exact Below.refl _ _ | apply below_alloc)⟩)

theorem take_map_succ (kids : List SC) (rs : List SR) (k : Nat) (h1 : k < kids.length) (h2 : k < rs.length) (h : (kids.take k).map (·.f1) = rs.take k) (he : (kids.getD k z27).f1 = rs.getD k z24) :
  (kids.take (k + 1)).map (·.f1) = rs.take (k + 1) := by
 have he' : kids[k].f1 = rs[k] := by
  rw [List.getD_eq_getElem?_getD, List.getElem?_eq_getElem h1, List.getD_eq_getElem?_getD, List.getElem?_eq_getElem h2] at he
  exact he
 rw [List.take_add_one, List.take_add_one, List.map_append, h, List.getElem?_eq_getElem h1, List.getElem?_eq_getElem h2]
 simp only [Option.toList_some, List.map_cons, List.map_nil, he']
theorem take_map_ne (kids : List SC) (rs : List SR) (k : Nat) (h1 : k < kids.length) (h2 : k < rs.length) (he : ¬ (kids.getD k z27).f1 = rs.getD k z24) : ¬ kids.map (·.f1) = rs := by
 intro h
 apply he
 subst h
 rw [List.getD_eq_getElem?_getD, List.getElem?_eq_getElem h1, List.getD_eq_getElem?_getD, List.getElem?_eq_getElem h2]
 simp
theorem at_R {w : World} {A : Option Addr} {n : Nat} {xs : List SR} (h : (k24).C w A n xs) (k : Nat) (hk : k < n) : ∃ ad, A = some ad ∧
  w.cell? (ad.add (k * 4)) = some (.int .i64 (xs.getD k z24).f0) ∧
  w.cell? ⟨(ad.add (k * 4)).block, (ad.add (k * 4)).off + 1, none⟩ = some (.int .i64 (xs.getD k z24).f1) ∧
  w.cell? ⟨(ad.add (k * 4)).block, (ad.add (k * 4)).off + 2, none⟩ = some (.int .i64 (xs.getD k z24).f2) ∧
  w.cell? ⟨(ad.add (k * 4)).block, (ad.add (k * 4)).off + 3, none⟩ = some (.int .i64 (xs.getD k z24).f3) := by
 obtain ⟨ad, h1, h2, h3, h4, h5⟩ := at_T24 h (k : Int) (by omega) (by omega)
 rw [Int.toNat_natCast] at h2 h3 h4 h5
 have e : rd_T24 xs (k : Int) = xs.getD k z24 := by simp [rd_T24]
 rw [e] at h2 h3 h4 h5
 exact ⟨ad, h1, h2, h3, h4, h5⟩

set_option maxHeartbeats 2000000 in
theorem eqf_calls (kids : List SC) (rs : List SR) (A A2 : Option Addr) (n n2 c c2 : Nat) (w : World) (hr : Tr w.heap.size w A n kids) (hr2 : (k24).C w A2 n2 rs) :
  Calls Tryz.prog 138 #[.slice A n c, .slice A2 n2 c2, .func (.func 139) #[] #[]] w fun e w' => e = .returned (.bool (decide (kids.map (·.f1) = rs))) ∧ Below w.heap.size w w' := by
 have hmax := hr.max
 have hlen := hr.len
 have hlen2 := Kd.C_len hr2
 have hmax2 := Kd.C_max hr2
 by_cases hnn : n = n2
 ·subst hnn
  have HR := Aside0.mk hr
  have HR2 := Aside0.mk hr2
  have HL := Aside0.mk (And.intro hlen hlen2)
  obtain ⟨b, hb⟩ : ∃ b, b = decide (kids.map (·.f1) = rs) := ⟨_, rfl⟩
  rw [← hb]
  have HBB := Aside0.mk hb
  clear hr hr2 hlen hlen2 hb
  go_enter Tryz.func138, Tryz.ntmps138
  go_wp2
  go_loopw [7, 8, 9, 17] (fun _ _ _ i wr => ∃ k : Nat, k ≤ n ∧ i = .int .i64 k ∧ Aside0 (Below w.heap.size w wr ∧ (kids.take k).map (·.f1) = rs.take k)) (fun _ _ _ i _ => n - (intOf i).toNat)
  case atStart => exact ⟨0, by omega, rfl, ⟨Below.refl _ _, by simp⟩⟩
  case round =>
   obtain ⟨k, hk, rfl, HA⟩ := hrel
   by_cases hlt : k < n
   ·obtain ⟨ad, A6, c6, rfl, g0, g1, g2, g3, g4, g5, g6, _, _⟩ := (HR.out.below HA.out.1).get k hlt
    obtain ⟨ad2, rfl, r0, r1, r2, r3⟩ := at_R (Kd.C_below HR2.out HA.out.1) k hlt
    have hin := World.block_lt_of_cell? wr _ r0
    have hin1 := World.block_lt_of_cell? wr _ r1
    have hin2 := World.block_lt_of_cell? wr _ r2
    have hin3 := World.block_lt_of_cell? wr _ r3
    have HSTEP : Aside0 (((kids.getD k z27).f1 = rs.getD k z24 → (kids.take (k + 1)).map (·.f1) = rs.take (k + 1)) ∧ (¬ (kids.getD k z27).f1 = rs.getD k z24 → ¬ kids.map (·.f1) = rs)) :=
     ⟨take_map_succ kids rs k (by rw [HL.out.1]; exact hlt) (by rw [HL.out.2]; exact hlt) HA.out.2, take_map_ne kids rs k (by rw [HL.out.1]; exact hlt) (by rw [HL.out.2]; exact hlt)⟩
    generalize kids.getD k z27 = x at *
    generalize rs.getD k z24 = y at *
    have HC := Aside0.mk (lines1_calls x y A6 x.f3.length c6 ((wr.alloc (.cells #[.int .u8 x.f0, .int .i64 x.f1.f0, .int .i64 x.f1.f1, .int .i64 x.f1.f2, .int .i64 x.f1.f3, .int .i64 x.f2, .slice A6 x.f3.length c6] 27)).alloc (.cells #[.int .i64 y.f0, .int .i64 y.f1, .int .i64 y.f2, .int .i64 y.f3] 24)))
    have hb2 : Below w.heap.size w ((wr.alloc (.cells #[.int .u8 x.f0, .int .i64 x.f1.f0, .int .i64 x.f1.f1, .int .i64 x.f1.f2, .int .i64 x.f1.f3, .int .i64 x.f2, .slice A6 x.f3.length c6] 27)).alloc (.cells #[.int .i64 y.f0, .int .i64 y.f1, .int .i64 y.f2, .int .i64 y.f3] 24)) := below_alloc (below_alloc HA.out.1 _) _
    have HB2 := Aside0.mk hb2
    clear hb2 HA
    by_cases he : x.f1 = y
    ·rw [decide_eq_true he] at HC
     have HE := Aside0.mk (HSTEP.out.1 he)
     clear HSTEP he
     go_wp2_with fail
     refine HC.out.mono ?_
     rintro e w1 ⟨rfl, hb⟩
     have HB1 := Aside0.mk (HB2.out.trans (hb.mono HB2.out.size))
     clear hb
     go_wp2
     go_roundw
     case rel => exact ⟨k + 1, by omega, by go_num, ⟨HB1.out, HE.out⟩⟩
     case measure => simp [intOf]; omega
    ·rw [decide_eq_false he] at HC
     have HE := Aside0.mk (HSTEP.out.2 he)
     clear HSTEP he
     go_wp2_with fail
     refine HC.out.mono ?_
     rintro e w1 ⟨rfl, hb⟩
     have HB1 := Aside0.mk (HB2.out.trans (hb.mono HB2.out.size))
     clear hb
     go_wp2
     go_ret
     exact ⟨by rw [HBB.out, decide_eq_false HE.out]; rfl, HB1.out⟩
   ·have HE : Aside0 (kids.map (·.f1) = rs) := ⟨by
     have := HA.out.2
     rw [List.take_of_length_le (by rw [HL.out.1]; omega), List.take_of_length_le (by rw [HL.out.2]; omega)] at this
     exact this⟩
    go_wp2
    go_ret
    exact ⟨by rw [HBB.out, decide_eq_true HE.out]; rfl, HA.out.1⟩
 ·have hne : ¬ kids.map (·.f1) = rs := by
   intro h
   have := congrArg List.length h
   simp at this
   omega
  rw [decide_eq_false hne]
  have hb : ((n : Int) != (n2 : Int)) = true := by simp; omega
  have hb' : (n != n2) = true := by simp; omega
  clear hr hr2 hne hlen hlen2
  go_enter Tryz.func138, Tryz.ntmps138
  go_wp2
  go_ret
  exact ⟨rfl, Below.refl _ _⟩

/-- What the lines of a cell alone are, where it tiles or not. -/
def OutLines (w : World) (c : SC) (e : Ending) (w' : World) : Prop :=
 ∃ v rows, e = .returned (.tuple #[v, .bool (linesS c).isSome]) ∧ (k24).R 24 w' w.heap.size (fun _ => True) v rows ∧ (∀ l, linesS c = some l → rows = l) ∧ Below w.heap.size w w'

set_option maxHeartbeats 2000000 in
theorem lines_calls (c : SC) (A : Option Addr) (cap : Nat) (w : World) (hn : nodeOk c = true) (hr : rectOk c.f1 = true) (hl : c.f3.length ≤ 100000) (hcap : c.f3.length ≤ cap) (hT : Tr w.heap.size w A c.f3.length c.f3) :
  Calls Tryz.prog 118 #[.agg #[.int .u8 c.f0, .int .i64 c.f1.f0, .int .i64 c.f1.f1, .int .i64 c.f1.f2, .int .i64 c.f1.f3, .int .i64 c.f2, .slice A c.f3.length cap]] w (OutLines w c) := by
 have hb : Below w.heap.size w (w.alloc (.cells #[.int .u8 c.f0, .int .i64 c.f1.f0, .int .i64 c.f1.f1, .int .i64 c.f1.f2, .int .i64 c.f1.f3, .int .i64 c.f2, .slice A c.f3.length cap] 27)) := below_alloc (Below.refl _ _) _
 by_cases hk : c.f0 = 1
 ·have hlin : linesS c = some [] := by simp [linesS, hk]
  have HL := Aside0.mk hlin
  have HB := Aside0.mk hb
  have HK := Aside0.mk hk
  have hkb : (c.f0 == 1) = true := beq_iff_eq.2 hk
  clear hlin hb hn hr hT hk
  go_enter Tryz.func118, Tryz.ntmps118
  go_wp2
  go_ret2
  exact ⟨_, [], by rw [HL.out]; rfl, Kd.R_nil _ _ _ _ _, (fun l h => by rw [HL.out] at h; injection h), HB.out⟩
 ·have hk23 : c.f0 = 2 ∨ c.f0 = 3 := by
   unfold nodeOk at hn
   rw [if_neg hk] at hn
   by_cases h : c.f0 = 2 ∨ c.f0 = 3
   ·exact h
   ·rw [if_neg h] at hn; cases hn
  have h2 : 2 ≤ c.f3.length := by
   unfold nodeOk at hn
   rw [if_neg hk, if_pos hk23, decide_eq_true_eq] at hn
   exact hn.1
  have hlin := linesS_cut c hr hk23 h2
  have hcut := tile_cut_eq c hl hr hk23 h2 (2 * c.f3.length + 5) (by omega)
  have hkb : (c.f0 == 1) = false := beq_eq_false_iff_ne.2 hk
  generalize cutRes c.f1 (c.f0 - 1) true 0 (sizesOf c) [] [] = r at *
  obtain ⟨r1, r2, r3⟩ := r
  simp only at hlin
  obtain ⟨w1, hw1⟩ : ∃ w1, w1 = w.alloc (.cells #[.int .u8 c.f0, .int .i64 c.f1.f0, .int .i64 c.f1.f1, .int .i64 c.f1.f2, .int .i64 c.f1.f3, .int .i64 c.f2, .slice A c.f3.length cap] 27) := ⟨_, rfl⟩
  have hs1 : w1.heap.size = w.heap.size + 1 := by rw [hw1]; simp
  have hb1 : Below w.heap.size w w1 := by rw [hw1]; exact hb
  have hT1 := (hT.below hb1)
  have HC := tile_cut.calls _ c.f0 c.f1.f0 c.f1.f1 c.f1.f2 c.f1.f3 c.f2 A cap c.f3 r1 r2 r3 w1 hT1.now hcap hcut
  have c6 : w1.cell? ⟨w.heap.size, 6, none⟩ = some (.slice A c.f3.length cap) := by rw [hw1]; simp
  rw [hw1] at HC
  have HC := Aside0.mk HC
  have HB := Aside0.mk hb1
  have HT := Aside0.mk hT1
  have HLIN := Aside0.mk hlin
  have HW := Aside0.mk hw1
  have HS := Aside0.mk hs1
  have C6 := Aside0.mk c6
  clear hlin hcut hk hk23 h2 hT hT1 hb hb1 hw1 hs1 c6 hn hr
  cases r3 with
  | false =>
   go_enter Tryz.func118, Tryz.ntmps118
   go_wp2_with fail
   refine HC.out.mono ?_
   rintro e w2 ⟨v0, v1, rfl, hR0, hR1, hb2⟩
   rw [← HW.out] at hb2 hR1
   obtain ⟨A1, n1, c1, rfl⟩ := sl_of_R hR1
   obtain ⟨A0, n0, c0, rfl⟩ := sl_of_R hR0
   have H1 := Aside0.mk (Kd.R_lower (Kd.R_mono hR1 (fun _ _ => trivial)) (show w.heap.size ≤ w1.heap.size by rw [HS.out]; omega))
   have HB2 := Aside0.mk (HB.out.trans (hb2.mono HB.out.size))
   clear hR0 hR1 hb2 HC
   go_wp2
   go_ret2
   have e : linesS c = none := by rw [HLIN.out]; simp
   exact ⟨_, r2, by rw [e]; rfl, H1.out, (fun l h => by rw [e] at h; cases h), HB2.out⟩
  | true =>
   go_enter Tryz.func118, Tryz.ntmps118
   go_wp2_with fail
   refine HC.out.mono ?_
   rintro e w2 ⟨v0, v1, rfl, hR0, hR1, hb2⟩
   rw [← HW.out] at hb2 hR1 hR0
   obtain ⟨A1, n1, c1, rfl⟩ := sl_of_R hR1
   obtain ⟨A0, n0, c0, rfl⟩ := sl_of_R hR0
   have g6 := pw_cell_below hb2 C6.out
   obtain ⟨hn0, _, hC0⟩ := Kd.R_reads' hR0
   rw [← hn0] at hC0
   have hsz2 := hb2.size
   have HE := Aside0.mk (eqf_calls c.f3 r1 A A0 c.f3.length n0 cap c0 w2 ((HT.out.below (hb2.mono (by rw [HS.out]; omega))).mono (by rw [HS.out] at hsz2; omega)) hC0)
   have H1 := Aside0.mk (Kd.R_lower (Kd.R_mono hR1 (fun _ _ => trivial)) (show w.heap.size ≤ w1.heap.size by rw [HS.out]; omega))
   have HB2 := Aside0.mk (HB.out.trans (hb2.mono HB.out.size))
   clear hR0 hR1 hb2 HC hn0 hC0 hsz2
   go_wp2_with fail
   refine HE.out.mono ?_
   rintro e w3 ⟨rfl, hb3⟩
   have HB3 := Aside0.mk (HB2.out.trans (hb3.mono HB2.out.size))
   have H3 := Aside0.mk (Kd.R_below H1.out hb3)
   clear hb3 HE
   by_cases he : c.f3.map (·.f1) = r1
   ·rw [decide_eq_true he]
    have e : linesS c = some r2 := by rw [HLIN.out, if_pos ⟨trivial, he⟩]
    have HEE := Aside0.mk e
    clear he e
    go_wp2
    go_ret2
    exact ⟨_, r2, by rw [HEE.out]; rfl, H3.out, (fun l h => by rw [HEE.out] at h; injection h), HB3.out⟩
   ·rw [decide_eq_false he]
    have e : linesS c = none := by rw [HLIN.out, if_neg (fun h => he h.2)]
    have HEE := Aside0.mk e
    clear he e
    go_wp2
    go_ret2
    exact ⟨_, r2, by rw [HEE.out]; rfl, H3.out, (fun l h => by rw [HEE.out] at h; cases h), HB3.out⟩
end Go.Proofs.YtkobpbbegalfpaaGreatDoor
