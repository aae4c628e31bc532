/-
  Joined texts: TiLines, TiWalk.
-/
import Derived.Test.YtakhnigalkjhhaaGreatDoorTiCut
import Derived.Test.YtakhnigalkjhhaaGreatDoorTiMem
import Derived.Outline
import Derived.Test.YtakhnigalkjhhaaGreatDoorTiMay2
/-
  tile.lines: the lines of a cell alone.
-/
namespace Go.Proofs.YtakhnigalkjhhaaGreatDoor
open Go.RowKit Go.Proofs.YtakhnigalkjhhaaGreatDoorW.PrintWords Go.Proofs.YtakhnigalkjhhaaGreatDoorW.PrintLast Go.Proofs.YtakhnigalkjhhaaGreatDoorW.PrintMore Go.Proofs.YtakhnigalkjhhaaGreatDoor.PPrintFits
set_option linter.unusedVariables false
set_option linter.unusedSimpArgs false
set_option maxRecDepth 100000

theorem sr_ext {a b : SR} (h0 : a.f0 = b.f0) (h1 : a.f1 = b.f1) (h2 : a.f2 = b.f2) (h3 : a.f3 = b.f3) : a = b := by cases a; cases b; simp_all
theorem lines1_calls (c : SC) (r : SR) (A : Option Addr) (n cap : Nat) (w : World) :
    Calls Tryz.prog 83 #[.agg #[.int .u8 c.f0, .int .i64 c.f1.f0, .int .i64 c.f1.f1, .int .i64 c.f1.f2, .int .i64 c.f1.f3, .int .i64 c.f2, .slice A n cap], .agg #[.int .i64 r.f0, .int .i64 r.f1, .int .i64 r.f2, .int .i64 r.f3]] w
      fun e w' => e = .returned (.bool (decide (c.f1 = r))) ∧ Below w.heap.size w w' := by
  have hb : Below w.heap.size w ((w.alloc (.cells #[.int .u8 c.f0, .int .i64 c.f1.f0, .int .i64 c.f1.f1, .int .i64 c.f1.f2, .int .i64 c.f1.f3, .int .i64 c.f2, .slice A n cap] 30)).alloc (.cells #[.int .i64 r.f0, .int .i64 r.f1, .int .i64 r.f2, .int .i64 r.f3] 28)) := below_alloc (below_alloc (Below.refl _ _) _) _
  by_cases h : c.f1 = r
  · rw [decide_eq_true h]
    subst h
    have HB := Aside0.mk hb
    clear hb
    go_enter Tryz.func83, Tryz.ntmps83
    go_wp2
    go_ret
    exact ⟨rfl, HB.out⟩
  · rw [decide_eq_false h]
    have HH := Aside0.mk h
    clear hb h
    go_enter Tryz.func83, Tryz.ntmps83
    go_wp2
    all_goals first
      | (exfalso; exact HH.out (sr_ext ‹_› ‹_› ‹_› ‹_›))
      | (go_ret; exact ⟨rfl, by repeat (first | exact Below.refl _ _ | apply below_alloc)⟩)

theorem take_map_succ (kids : List SC) (rs : List SR) (k : Nat) (h1 : k < kids.length) (h2 : k < rs.length) (h : (kids.take k).map (·.f1) = rs.take k) (he : (kids.getD k z30).f1 = rs.getD k z28) :
    (kids.take (k + 1)).map (·.f1) = rs.take (k + 1) := by
  have he' : kids[k].f1 = rs[k] := by
    rw [List.getD_eq_getElem?_getD, List.getElem?_eq_getElem h1, List.getD_eq_getElem?_getD, List.getElem?_eq_getElem h2] at he
    exact he
  rw [List.take_add_one, List.take_add_one, List.map_append, h, List.getElem?_eq_getElem h1, List.getElem?_eq_getElem h2]
  simp only [Option.toList_some, List.map_cons, List.map_nil, he']
theorem take_map_ne (kids : List SC) (rs : List SR) (k : Nat) (h1 : k < kids.length) (h2 : k < rs.length) (he : ¬ (kids.getD k z30).f1 = rs.getD k z28) : ¬ kids.map (·.f1) = rs := by
  intro h
  apply he
  subst h
  rw [List.getD_eq_getElem?_getD, List.getElem?_eq_getElem h1, List.getD_eq_getElem?_getD, List.getElem?_eq_getElem h2]
  simp
theorem at_R {w : World} {A : Option Addr} {n : Nat} {xs : List SR} (h : (k28).C w A n xs) (k : Nat) (hk : k < n) : ∃ ad, A = some ad ∧
    w.cell? (ad.add (k * 4)) = some (.int .i64 (xs.getD k z28).f0) ∧
    w.cell? ⟨(ad.add (k * 4)).block, (ad.add (k * 4)).off + 1, none⟩ = some (.int .i64 (xs.getD k z28).f1) ∧
    w.cell? ⟨(ad.add (k * 4)).block, (ad.add (k * 4)).off + 2, none⟩ = some (.int .i64 (xs.getD k z28).f2) ∧
    w.cell? ⟨(ad.add (k * 4)).block, (ad.add (k * 4)).off + 3, none⟩ = some (.int .i64 (xs.getD k z28).f3) := by
  obtain ⟨ad, h1, h2, h3, h4, h5⟩ := at_T28 h (k : Int) (by omega) (by omega)
  rw [Int.toNat_natCast] at h2 h3 h4 h5
  have e : rd_T28 xs (k : Int) = xs.getD k z28 := by simp [rd_T28]
  rw [e] at h2 h3 h4 h5
  exact ⟨ad, h1, h2, h3, h4, h5⟩

set_option maxHeartbeats 2000000 in
theorem eqf_calls (kids : List SC) (rs : List SR) (A A2 : Option Addr) (n n2 c c2 : Nat) (w : World) (hr : Tr w.heap.size w A n kids) (hr2 : (k28).C w A2 n2 rs) :
    Calls Tryz.prog 82 #[.slice A n c, .slice A2 n2 c2, .func (.func 83) #[] #[]] w fun e w' => e = .returned (.bool (decide (kids.map (·.f1) = rs))) ∧ Below w.heap.size w w' := by
  have hmax := hr.max
  have hlen := hr.len
  have hlen2 := Kd.C_len hr2
  have hmax2 := Kd.C_max hr2
  by_cases hnn : n = n2
  · subst hnn
    have HR := Aside0.mk hr
    have HR2 := Aside0.mk hr2
    have HL := Aside0.mk (And.intro hlen hlen2)
    obtain ⟨b, hb⟩ : ∃ b, b = decide (kids.map (·.f1) = rs) := ⟨_, rfl⟩
    rw [← hb]
    have HBB := Aside0.mk hb
    clear hr hr2 hlen hlen2 hb
    go_enter Tryz.func82, Tryz.ntmps82
    go_wp2
    go_loopw [7, 8, 9, 17] (fun _ _ _ i wr => ∃ k : Nat, k ≤ n ∧ i = .int .i64 k ∧ Aside0 (Below w.heap.size w wr ∧ (kids.take k).map (·.f1) = rs.take k)) (fun _ _ _ i _ => n - (intOf i).toNat)
    case atStart => exact ⟨0, by omega, rfl, ⟨Below.refl _ _, by simp⟩⟩
    case round =>
      obtain ⟨k, hk, rfl, HA⟩ := hrel
      by_cases hlt : k < n
      · obtain ⟨ad, A6, c6, rfl, g0, g1, g2, g3, g4, g5, g6, _, _⟩ := (HR.out.below HA.out.1).get k hlt
        obtain ⟨ad2, rfl, r0, r1, r2, r3⟩ := at_R (Kd.C_below HR2.out HA.out.1) k hlt
        have hin := World.block_lt_of_cell? wr _ r0
        have hin1 := World.block_lt_of_cell? wr _ r1
        have hin2 := World.block_lt_of_cell? wr _ r2
        have hin3 := World.block_lt_of_cell? wr _ r3
        have HSTEP : Aside0 (((kids.getD k z30).f1 = rs.getD k z28 → (kids.take (k + 1)).map (·.f1) = rs.take (k + 1)) ∧ (¬ (kids.getD k z30).f1 = rs.getD k z28 → ¬ kids.map (·.f1) = rs)) :=
          ⟨take_map_succ kids rs k (by rw [HL.out.1]; exact hlt) (by rw [HL.out.2]; exact hlt) HA.out.2, take_map_ne kids rs k (by rw [HL.out.1]; exact hlt) (by rw [HL.out.2]; exact hlt)⟩
        generalize kids.getD k z30 = x at *
        generalize rs.getD k z28 = y at *
        have HC := Aside0.mk (lines1_calls x y A6 x.f3.length c6 ((wr.alloc (.cells #[.int .u8 x.f0, .int .i64 x.f1.f0, .int .i64 x.f1.f1, .int .i64 x.f1.f2, .int .i64 x.f1.f3, .int .i64 x.f2, .slice A6 x.f3.length c6] 30)).alloc (.cells #[.int .i64 y.f0, .int .i64 y.f1, .int .i64 y.f2, .int .i64 y.f3] 28)))
        have hb2 : Below w.heap.size w ((wr.alloc (.cells #[.int .u8 x.f0, .int .i64 x.f1.f0, .int .i64 x.f1.f1, .int .i64 x.f1.f2, .int .i64 x.f1.f3, .int .i64 x.f2, .slice A6 x.f3.length c6] 30)).alloc (.cells #[.int .i64 y.f0, .int .i64 y.f1, .int .i64 y.f2, .int .i64 y.f3] 28)) := below_alloc (below_alloc HA.out.1 _) _
        have HB2 := Aside0.mk hb2
        clear hb2 HA
        by_cases he : x.f1 = y
        · rw [decide_eq_true he] at HC
          have HE := Aside0.mk (HSTEP.out.1 he)
          clear HSTEP he
          go_wp2_with fail
          refine HC.out.mono ?_
          rintro e w1 ⟨rfl, hb⟩
          have HB1 := Aside0.mk (HB2.out.trans (hb.mono HB2.out.size))
          clear hb
          go_wp2
          go_roundw
          case rel => exact ⟨k + 1, by omega, by go_num, ⟨HB1.out, HE.out⟩⟩
          case measure => simp [intOf]; omega
        · rw [decide_eq_false he] at HC
          have HE := Aside0.mk (HSTEP.out.2 he)
          clear HSTEP he
          go_wp2_with fail
          refine HC.out.mono ?_
          rintro e w1 ⟨rfl, hb⟩
          have HB1 := Aside0.mk (HB2.out.trans (hb.mono HB2.out.size))
          clear hb
          go_wp2
          go_ret
          exact ⟨by rw [HBB.out, decide_eq_false HE.out]; rfl, HB1.out⟩
      · have HE : Aside0 (kids.map (·.f1) = rs) := ⟨by
          have := HA.out.2
          rw [List.take_of_length_le (by rw [HL.out.1]; omega), List.take_of_length_le (by rw [HL.out.2]; omega)] at this
          exact this⟩
        go_wp2
        go_ret
        exact ⟨by rw [HBB.out, decide_eq_true HE.out]; rfl, HA.out.1⟩
  · have hne : ¬ kids.map (·.f1) = rs := by
      intro h
      have := congrArg List.length h
      simp at this
      omega
    rw [decide_eq_false hne]
    have hb : ((n : Int) != (n2 : Int)) = true := by simp; omega
    have hb' : (n != n2) = true := by simp; omega
    clear hr hr2 hne hlen hlen2
    go_enter Tryz.func82, Tryz.ntmps82
    go_wp2
    go_ret
    exact ⟨rfl, Below.refl _ _⟩

/-- What the lines of a cell alone are, where it tiles or not. -/
def OutLines (w : World) (c : SC) (e : Ending) (w' : World) : Prop :=
  ∃ v rows, e = .returned (.tuple #[v, .bool (linesS c).isSome]) ∧ (k28).R 28 w' w.heap.size (fun _ => True) v rows ∧ (∀ l, linesS c = some l → rows = l) ∧ Below w.heap.size w w'

set_option maxHeartbeats 2000000 in
theorem lines_calls (c : SC) (A : Option Addr) (cap : Nat) (w : World) (hn : nodeOk c = true) (hr : rectOk c.f1 = true) (hl : c.f3.length ≤ 100000) (hcap : c.f3.length ≤ cap) (hT : Tr w.heap.size w A c.f3.length c.f3) :
    Calls Tryz.prog 65 #[.agg #[.int .u8 c.f0, .int .i64 c.f1.f0, .int .i64 c.f1.f1, .int .i64 c.f1.f2, .int .i64 c.f1.f3, .int .i64 c.f2, .slice A c.f3.length cap]] w (OutLines w c) := by
  have hb : Below w.heap.size w (w.alloc (.cells #[.int .u8 c.f0, .int .i64 c.f1.f0, .int .i64 c.f1.f1, .int .i64 c.f1.f2, .int .i64 c.f1.f3, .int .i64 c.f2, .slice A c.f3.length cap] 30)) := below_alloc (Below.refl _ _) _
  by_cases hk : c.f0 = 1
  · have hlin : linesS c = some [] := by simp [linesS, hk]
    have HL := Aside0.mk hlin
    have HB := Aside0.mk hb
    have HK := Aside0.mk hk
    have hkb : (c.f0 == 1) = true := beq_iff_eq.2 hk
    clear hlin hb hn hr hT hk
    go_enter Tryz.func65, Tryz.ntmps65
    go_wp2
    go_ret2
    exact ⟨_, [], by rw [HL.out]; rfl, Kd.R_nil _ _ _ _ _, (fun l h => by rw [HL.out] at h; injection h), HB.out⟩
  · have hk23 : c.f0 = 2 ∨ c.f0 = 3 := by
      unfold nodeOk at hn
      rw [if_neg hk] at hn
      by_cases h : c.f0 = 2 ∨ c.f0 = 3
      · exact h
      · rw [if_neg h] at hn; cases hn
    have h2 : 2 ≤ c.f3.length := by
      unfold nodeOk at hn
      rw [if_neg hk, if_pos hk23, decide_eq_true_eq] at hn
      exact hn.1
    have hlin := linesS_cut c hr hk23 h2
    have hcut := tile_cut_eq c hl hr hk23 h2 (2 * c.f3.length + 5) (by omega)
    have hkb : (c.f0 == 1) = false := beq_eq_false_iff_ne.2 hk
    generalize cutRes c.f1 (c.f0 - 1) true 0 (sizesOf c) [] [] = r at *
    obtain ⟨r1, r2, r3⟩ := r
    simp only at hlin
    obtain ⟨w1, hw1⟩ : ∃ w1, w1 = w.alloc (.cells #[.int .u8 c.f0, .int .i64 c.f1.f0, .int .i64 c.f1.f1, .int .i64 c.f1.f2, .int .i64 c.f1.f3, .int .i64 c.f2, .slice A c.f3.length cap] 30) := ⟨_, rfl⟩
    have hs1 : w1.heap.size = w.heap.size + 1 := by rw [hw1]; simp
    have hb1 : Below w.heap.size w w1 := by rw [hw1]; exact hb
    have hT1 := (hT.below hb1)
    have HC := tile_cut.calls _ c.f0 c.f1.f0 c.f1.f1 c.f1.f2 c.f1.f3 c.f2 A cap c.f3 r1 r2 r3 w1 hT1.now hcap hcut
    have c6 : w1.cell? ⟨w.heap.size, 6, none⟩ = some (.slice A c.f3.length cap) := by rw [hw1]; simp
    rw [hw1] at HC
    have HC := Aside0.mk HC
    have HB := Aside0.mk hb1
    have HT := Aside0.mk hT1
    have HLIN := Aside0.mk hlin
    have HW := Aside0.mk hw1
    have HS := Aside0.mk hs1
    have C6 := Aside0.mk c6
    clear hlin hcut hk hk23 h2 hT hT1 hb hb1 hw1 hs1 c6 hn hr
    cases r3 with
    | false =>
      go_enter Tryz.func65, Tryz.ntmps65
      go_wp2_with fail
      refine HC.out.mono ?_
      rintro e w2 ⟨v0, v1, rfl, hR0, hR1, hb2⟩
      rw [← HW.out] at hb2 hR1
      obtain ⟨A1, n1, c1, rfl⟩ := sl_of_R hR1
      obtain ⟨A0, n0, c0, rfl⟩ := sl_of_R hR0
      have H1 := Aside0.mk (Kd.R_lower (Kd.R_mono hR1 (fun _ _ => trivial)) (show w.heap.size ≤ w1.heap.size by rw [HS.out]; omega))
      have HB2 := Aside0.mk (HB.out.trans (hb2.mono HB.out.size))
      clear hR0 hR1 hb2 HC
      go_wp2
      go_ret2
      have e : linesS c = none := by rw [HLIN.out]; simp
      exact ⟨_, r2, by rw [e]; rfl, H1.out, (fun l h => by rw [e] at h; cases h), HB2.out⟩
    | true =>
      go_enter Tryz.func65, Tryz.ntmps65
      go_wp2_with fail
      refine HC.out.mono ?_
      rintro e w2 ⟨v0, v1, rfl, hR0, hR1, hb2⟩
      rw [← HW.out] at hb2 hR1 hR0
      obtain ⟨A1, n1, c1, rfl⟩ := sl_of_R hR1
      obtain ⟨A0, n0, c0, rfl⟩ := sl_of_R hR0
      have g6 := pw_cell_below hb2 C6.out
      obtain ⟨hn0, _, hC0⟩ := Kd.R_reads' hR0
      rw [← hn0] at hC0
      have hsz2 := hb2.size
      have HE := Aside0.mk (eqf_calls c.f3 r1 A A0 c.f3.length n0 cap c0 w2 ((HT.out.below (hb2.mono (by rw [HS.out]; omega))).mono (by rw [HS.out] at hsz2; omega)) hC0)
      have H1 := Aside0.mk (Kd.R_lower (Kd.R_mono hR1 (fun _ _ => trivial)) (show w.heap.size ≤ w1.heap.size by rw [HS.out]; omega))
      have HB2 := Aside0.mk (HB.out.trans (hb2.mono HB.out.size))
      clear hR0 hR1 hb2 HC hn0 hC0 hsz2
      go_wp2_with fail
      refine HE.out.mono ?_
      rintro e w3 ⟨rfl, hb3⟩
      have HB3 := Aside0.mk (HB2.out.trans (hb3.mono HB2.out.size))
      have H3 := Aside0.mk (Kd.R_below H1.out hb3)
      clear hb3 HE
      by_cases he : c.f3.map (·.f1) = r1
      · rw [decide_eq_true he]
        have e : linesS c = some r2 := by rw [HLIN.out, if_pos ⟨trivial, he⟩]
        have HEE := Aside0.mk e
        clear he e
        go_wp2
        go_ret2
        exact ⟨_, r2, by rw [HEE.out]; rfl, H3.out, (fun l h => by rw [HEE.out] at h; injection h), HB3.out⟩
      · rw [decide_eq_false he]
        have e : linesS c = none := by rw [HLIN.out, if_neg (fun h => he h.2)]
        have HEE := Aside0.mk e
        clear he e
        go_wp2
        go_ret2
        exact ⟨_, r2, by rw [HEE.out]; rfl, H3.out, (fun l h => by rw [HEE.out] at h; cases h), HB3.out⟩
end Go.Proofs.YtakhnigalkjhhaaGreatDoor

/-
  tile.walker: it goes through a tree that may be, and keeps its lines.
-/
namespace Go.Proofs.YtakhnigalkjhhaaGreatDoor
open Go.RowKit Go.Proofs.YtakhnigalkjhhaaGreatDoorW.PrintWords Go.Proofs.YtakhnigalkjhhaaGreatDoorW.PrintLast Go.Proofs.YtakhnigalkjhhaaGreatDoorW.PrintMore Go.Proofs.YtakhnigalkjhhaaGreatDoor.PPrintFits
set_option linter.unusedVariables false
set_option linter.unusedSimpArgs false
set_option maxRecDepth 100000

theorem enters66 : ∀ args w, (callFunc 66 args).run Tryz.prog w = .ok (.enter 66 args) w := enters_of Tryz.func66 (by kernel_rfl) rfl
theorem rect_KM {W : World} {B : Nat} {ok : Nat → Prop} (x : SR) (cs : List Value) (h : (k28).K W x cs) : (k28).M W B ok x cs := by
  obtain rfl := k28_open h
  exact k28_mkM W B ok x
theorem linesS_len {c : SC} {l : List SR} (h : linesS c = some l) : l.length ≤ c.f3.length := by
  unfold linesS at h
  by_cases hk : c.f0 = 1
  · rw [if_pos hk] at h; injection h with h; subst h; simp
  · rw [if_neg hk] at h
    by_cases hc : cutGood c.f1 (c.f0 - 1) (sizesOf c) = true ∧ c.f3.map (·.f1) = cutParts c.f1 (c.f0 - 1) true 0 (sizesOf c)
    · rw [if_pos hc] at h; injection h with h; subst h
      rw [cutLines_len, if_pos rfl]
      simp [sizesOf]
    · rw [if_neg hc] at h; cases h

/-- The walker at g: how many cells, the lines. -/
def WalkInv (B N g : Nat) (w : World) (st : Nat × List SR) (u : Nat) : Prop :=
  (st.1 ≤ u ∧ st.2.length ≤ u * 100000 ∧ B ≤ g ∧ g < N) ∧ ∃ v, w.heap[g]? = some (.cells #[.int .i64 (st.1 : Int), v] 83 (0, 0)) ∧ (k28).R 28 w B (fun _ => True) v st.2
theorem WalkInv.stable (B N g : Nat) : Stable (WalkInv B N g) :=
  ⟨fun w w' st u h hb => ⟨h.1, by obtain ⟨v, h1, h2⟩ := h.2; exact ⟨v, (hb.block g (blk_lt h1)).trans h1, Kd.R_below h2 hb⟩⟩,
   fun w st u u' h hu => ⟨⟨by have := h.1.1; omega, Nat.le_trans h.1.2.1 (Nat.mul_le_mul_right 100000 hu), h.1.2.2⟩, h.2⟩⟩
/-- .. and the box of the pointer to it. -/
def WithBox {σ : Type} (Inv : World → σ → Nat → Prop) (p g : Nat) (w : World) (st : σ) (u : Nat) : Prop := Inv w st u ∧ w.heap[p]? = some (.cells #[.pointer (some ⟨g, 0, none⟩)] 81 (0, 0))
theorem WithBox.stable {σ : Type} {Inv : World → σ → Nat → Prop} (h : Stable Inv) (p g : Nat) : Stable (WithBox Inv p g) :=
  ⟨fun w w' st u hi hb => ⟨h.below _ _ _ _ hi.1 hb, (hb.block p (blk_lt hi.2)).trans hi.2⟩, fun w st u u' hi hu => ⟨h.mono _ _ _ _ hi.1 hu, hi.2⟩⟩

/-- A cell that may be, and has not too many kids. -/
def NodeC (c : SC) : Prop := nodeOk c = true ∧ rectOk c.f1 = true ∧ c.f3.length ≤ 100000
def WalkOk (B N M g : Nat) (c : SC) : Prop :=
  ∀ (w : World) (st : Nat × List SR) (u : Nat) (A : Option Addr) (cap : Nat), WalkInv B N g w st u → u + (cells c).length ≤ M → N ≤ w.heap.size → c.f3.length ≤ cap → Tr B w A c.f3.length c.f3 →
    Calls Tryz.prog 51 #[.pointer (some ⟨g, 0, none⟩), .agg #[.int .u8 c.f0, .int .i64 c.f1.f0, .int .i64 c.f1.f1, .int .i64 c.f1.f2, .int .i64 c.f1.f3, .int .i64 c.f2, .slice A c.f3.length cap]] w
      fun e w' => e = .returned (.bool (visitL walkStep st (cells c)).1) ∧ WalkInv B N g w' (visitL walkStep st (cells c)).2 (u + (cells c).length) ∧ Mid B N w w'

theorem walk1_calls (B N M g p : Nat) (k : SC) (hBN : B ≤ N) (hp : N ≤ p) (hA : WalkOk B N M g k)
    (w : World) (st : Nat × List SR) (u : Nat) (A : Option Addr) (cap : Nat) (hi : WithBox (WalkInv B N g) p g w st u) (hu : u + (cells k).length ≤ M) (hN : N ≤ w.heap.size) (hc : k.f3.length ≤ cap) (hT : Tr B w A k.f3.length k.f3) :
    Calls Tryz.prog 66 #[.agg #[.int .u8 k.f0, .int .i64 k.f1.f0, .int .i64 k.f1.f1, .int .i64 k.f1.f2, .int .i64 k.f1.f3, .int .i64 k.f2, .slice A k.f3.length cap], .pointer (some ⟨p, 0, none⟩)] w
      fun e w' => e = .returned (.bool (notV walkStep st k).1) ∧ WithBox (WalkInv B N g) p g w' (notV walkStep st k).2 (u + (cells k).length) ∧ Mid B N w w' := by
  obtain ⟨h1, hheap⟩ := hi
  have hcell : w.cell? ⟨p, 0, none⟩ = some (.pointer (some ⟨g, 0, none⟩)) := by rw [blk_cell hheap]; rfl
  have HH := Aside0.mk hheap
  clear hheap
  obtain ⟨w1, hw1⟩ : ∃ w1, w1 = w.alloc (.cells #[.int .u8 k.f0, .int .i64 k.f1.f0, .int .i64 k.f1.f1, .int .i64 k.f1.f2, .int .i64 k.f1.f3, .int .i64 k.f2, .slice A k.f3.length cap] 30) := ⟨_, rfl⟩
  have hb : Below w.heap.size w w1 := by rw [hw1]; exact below_alloc (Below.refl _ _) _
  have hbB : Below B w w1 := by rw [hw1]; exact (Below.refl _ _).alloc (by omega) _
  have HC := Aside0.mk (hA w1 st u A cap ((WalkInv.stable B N g).below _ _ _ _ h1 hb) hu (by have := hb.size; omega) hc (hT.below hbB))
  have HB := Aside0.mk hb
  have HP := Aside0.mk hp
  rw [hw1] at HC
  have hlt := World.block_lt_of_cell? w _ hcell
  have HW := Aside0.mk hw1
  generalize hv : visitL walkStep st (cells k) = r at HC
  have HV := Aside0.mk hv
  clear hw1 h1 hA hu hT hb hbB hv hp
  go_enter Tryz.func66, Tryz.ntmps66
  go_wp2_with fail
  with_reducible refine HC.out.mono ?_
  rintro e w2 ⟨rfl, h2⟩
  have H2 := Aside0.mk h2
  clear h2
  go_wp2
  go_ret
  have hm := H2.out.2
  rw [← HW.out] at hm
  refine ⟨by simp [notV, HV.out], ⟨by simp only [notV, HV.out]; exact H2.out.1, ?_⟩, ?_⟩
  · exact hm.blk ((HB.out.block p (blk_lt HH.out)).trans HH.out) HP.out (by decide)
  · exact (Mid.ofBelow HB.out).trans hm

set_option maxHeartbeats 8000000 in
theorem walk_calls (B N M g : Nat) (hBN : B ≤ N) (hM : M ≤ 10000) (c : SC) (hG : ∀ x ∈ cells c, NodeC x) : WalkOk B N M g c := by
  revert hG
  refine cell_ind (P := fun c => (∀ x ∈ cells c, NodeC x) → WalkOk B N M g c) (fun c ih hG => ?_) c
  have hkids : ∀ k ∈ c.f3, WalkOk B N M g k := fun k hk => ih k hk (fun x hx => hG x (cells_kid hk x hx))
  obtain ⟨hn, hrk, hl1⟩ := hG c (cells_self c)
  clear ih hG
  intro w st u A cap hi hu hN hc hT
  obtain ⟨n, ls⟩ := st
  have hcl : (cells c).length = 1 + (cellsL c.f3).length := by rw [cells_eq]; simp; omega
  obtain ⟨p, hpdef⟩ : ∃ p, p = w.heap.size := ⟨_, rfl⟩
  obtain ⟨w1, hw1⟩ : ∃ w1, w1 = (w.alloc (.cells #[.pointer (some ⟨g, 0, none⟩)] 81)).alloc (.cells #[.int .u8 c.f0, .int .i64 c.f1.f0, .int .i64 c.f1.f1, .int .i64 c.f1.f2, .int .i64 c.f1.f3, .int .i64 c.f2, .slice A c.f3.length cap] 30) := ⟨_, rfl⟩
  have hb : Below w.heap.size w w1 := by rw [hw1]; exact below_alloc (below_alloc (Below.refl _ _) _) _
  have hsz : w1.heap.size = p + 2 := by rw [hw1, hpdef]; simp
  have hT1 : Tr B w1 A c.f3.length c.f3 := hT.below (((Mid.ofBelow hb : Mid B N w w1)).toB (by omega))
  have hp1 : w1.heap[p]? = some (.cells #[.pointer (some ⟨g, 0, none⟩)] 81 (0, 0)) := by
    rw [hw1, hpdef, Below.heap_alloc _ _ _ (by simp)]; exact heap_alloc_new w _
  have hc1 : w1.heap[p + 1]? = some (.cells #[.int .u8 c.f0, .int .i64 c.f1.f0, .int .i64 c.f1.f1, .int .i64 c.f1.f2, .int .i64 c.f1.f3, .int .i64 c.f2, .slice A c.f3.length cap] 30 (0, 0)) := by
    rw [hw1, hpdef]
    have h := heap_alloc_new (w.alloc (.cells #[.pointer (some ⟨g, 0, none⟩)] 81)) (.cells #[.int .u8 c.f0, .int .i64 c.f1.f0, .int .i64 c.f1.f1, .int .i64 c.f1.f2, .int .i64 c.f1.f3, .int .i64 c.f2, .slice A c.f3.length cap] 30)
    simpa using h
  have HC := lines_calls c A cap w1 hn hrk hl1 hc (hT1.mono (by omega))
  have hi1 := (WalkInv.stable B N g).below _ _ _ _ hi hb
  have hvis := visit_self walkStep (n, ls) c
  rw [hw1] at HC
  have HC := Aside0.mk HC
  have HW := Aside0.mk hw1
  have HB := Aside0.mk hb
  have HP1 := Aside0.mk hp1
  have HC1 := Aside0.mk hc1
  have HT := Aside0.mk hT1
  have HK := Aside0.mk hkids
  have HI := Aside0.mk hi1
  have HCL := Aside0.mk hcl
  have HT0 := Aside0.mk hT
  have HSZ := Aside0.mk hsz
  have HU := Aside0.mk hu
  have HP : Aside0 (N ≤ p) := ⟨by omega⟩
  have HPW := Aside0.mk hpdef
  have HVIS := Aside0.mk hvis
  generalize visitL walkStep (n, ls) (cells c) = r at *
  clear hw1 hb hp1 hc1 hT1 hkids hT hi hi1 hcl hsz hvis hn hrk hpdef
  go_enter Tryz.func51, Tryz.ntmps51
  go_wp2_with fail
  refine HC.out.mono ?_
  rintro e w2 ⟨v, rows, rfl, hR, hrow, hb2⟩
  rw [← HW.out] at hR hb2
  obtain ⟨A1, n1, c1, rfl⟩ := sl_of_R hR
  have hI2 := (WalkInv.stable B N g).below _ _ _ _ HI.out hb2
  have HM2 : Aside0 (Mid B N w w2) := ⟨(Mid.ofBelow HB.out).below hb2⟩
  have HB2 := Aside0.mk hb2
  rw [← HPW.out]
  cases hls : linesS c with
  | none =>
    have e : r = (false, (n, ls)) := by rw [HVIS.out, walkStep_none hls]; rfl
    have E := Aside0.mk e
    have HI2 := Aside0.mk hI2
    clear e hR hrow hI2 hb2 hls HC
    go_wp2
    go_ret
    refine ⟨by rw [E.out]; rfl, by rw [E.out]; exact (WalkInv.stable B N g).mono _ _ _ _ HI2.out (by omega), HM2.out⟩
  | some l =>
    obtain rfl := hrow l hls
    have hll := linesS_len hls
    have e : r = visitL walkStep (n + 1, ls ++ rows) (cellsL c.f3) := by rw [HVIS.out, walkStep_some hls]; simp
    have E := Aside0.mk e
    obtain ⟨⟨i1, i2, i3, i4⟩, vL, bg, RL0⟩ := hI2
    simp only at i1 i2 bg RL0
    obtain ⟨AL, nL, cL, rfl⟩ := sl_of_R RL0
    have cg0 : w2.cell? ⟨g, 0, none⟩ = some (.int .i64 (n : Int)) := by rw [blk_cell bg]; rfl
    have fg0 : w2.frozen? ⟨g, 0, none⟩ = false := blk_frozen bg 0
    have cp0 : w2.cell? ⟨p, 0, none⟩ = some (.pointer (some ⟨g, 0, none⟩)) := by rw [blk_cell ((hb2.block p (by have := HSZ.out; omega)).trans HP1.out)]; rfl
    obtain ⟨hn1, _, hC1⟩ := Kd.R_reads' hR
    subst hn1
    have hn1' : rows.length ≤ 100000 := by omega
    have BG3 : Aside0 ((w2.setCell ⟨g, 0, none⟩ (.int .i64 ((n : Int) + 1))).drew.heap[g]? = some (.cells #[.int .i64 ((n + 1 : Nat) : Int), .slice AL nL cL] 83 (0, 0))) := ⟨blk_set bg 0 (.int .i64 ((n : Int) + 1))⟩
    have hpg : p ≠ g := by have := HP.out; omega
    have hpg1 : p + 1 ≠ g := by have := HP.out; omega
    have BP3 : Aside0 ((w2.setCell ⟨g, 0, none⟩ (.int .i64 ((n : Int) + 1))).drew.heap[p]? = some (.cells #[.pointer (some ⟨g, 0, none⟩)] 81 (0, 0))) := ⟨((Below.heap_setCell w2 ⟨g, 0, none⟩ _ p hpg).trans ((hb2.block p (by have := HSZ.out; omega)).trans HP1.out) :)⟩
    have BC3 : Aside0 ((w2.setCell ⟨g, 0, none⟩ (.int .i64 ((n : Int) + 1))).drew.heap[p + 1]? = some (.cells #[.int .u8 c.f0, .int .i64 c.f1.f0, .int .i64 c.f1.f1, .int .i64 c.f1.f2, .int .i64 c.f1.f3, .int .i64 c.f2, .slice A c.f3.length cap] 30 (0, 0))) := ⟨((Below.heap_setCell w2 ⟨g, 0, none⟩ _ (p + 1) hpg1).trans ((hb2.block (p + 1) (by have := HSZ.out; omega)).trans HC1.out) :)⟩
    have RL : Aside0 ((k28).R 28 (w2.setCell ⟨g, 0, none⟩ (.int .i64 ((n : Int) + 1))).drew B (fun _ => True) (.slice AL nL cL) ls) := ⟨Kd.R_drew (Kd.R_set RL0 bg (by decide) _ _)⟩
    have RR : Aside0 ((k28).C (w2.setCell ⟨g, 0, none⟩ (.int .i64 ((n : Int) + 1))).drew A1 rows.length rows) := ⟨by
      have h := (Kd.R_reads' (Kd.R_drew (Kd.R_set hR bg (by decide) 0 (.int .i64 ((n : Int) + 1))))).2.2
      exact h⟩
    have HXG : Aside0 (some g ≠ (Value.slice AL nL cL).ownBlock) := ⟨Kd.R_ne RL.out BG3.out (by decide)⟩
    have HXP : Aside0 (some p ≠ (Value.slice AL nL cL).ownBlock) := ⟨Kd.R_ne RL.out BP3.out (by decide)⟩
    have HXC : Aside0 (some (p + 1) ≠ (Value.slice AL nL cL).ownBlock) := ⟨Kd.R_ne RL.out BC3.out (by decide)⟩
    have HB3 : Aside0 (Below B (w2.setCell ⟨g, 0, none⟩ (.int .i64 ((n : Int) + 1))).drew (w2.setCell ⟨g, 0, none⟩ (.int .i64 ((n : Int) + 1))).drew) := ⟨Below.refl _ _⟩
    have hs3 : (w2.setCell ⟨g, 0, none⟩ (.int .i64 ((n : Int) + 1))).drew.heap.size = w2.heap.size := by show (w2.setCell _ _).heap.size = _; simp [World.setCell]
    have HS3 : B ≤ (w2.setCell ⟨g, 0, none⟩ (.int .i64 ((n : Int) + 1))).drew.heap.size := by rw [hs3]; have := HM2.out.size; omega
    have HM3 : Aside0 (Mid B N w (w2.setCell ⟨g, 0, none⟩ (.int .i64 ((n : Int) + 1)))) := ⟨HM2.out.setCell ⟨i3, i4⟩ _⟩
    have HQ : Aside0 (B ≤ g ∧ g < N) := ⟨⟨i3, i4⟩⟩
    clear e hR hrow hls HC hb2 bg RL0 hC1 i3 i4 hs3
    go_wp2
    generalize w2.setCell ⟨g, 0, none⟩ (.int .i64 ((n : Int) + 1)) = w3 at *
    have cp : w3.drew.cell? ⟨p, 0, none⟩ = some (.pointer (some ⟨g, 0, none⟩)) := by rw [blk_cell BP3.out]; rfl
    have cg : w3.drew.cell? ⟨g, 1, none⟩ = some (.slice AL nL cL) := by rw [blk_cell BG3.out]; rfl
    refine start_ (n := 10) (S := fun w' => w'.cell? ⟨p, 0, none⟩ = some (.pointer (some ⟨g, 0, none⟩)) ∧ w'.cell? ⟨g, 1, none⟩ = some (.slice AL nL cL)) (ds := [9]) #[false, false, false, false, false, false, false, false, false, false] (by kernel_rfl) rfl rfl ⟨cp, cg⟩ (fun hHeld => ?_)
    refine pure_ (i := 5) (N := some 26) (v := ?_) (a' := ?_) #[false, false, false, false, false, true, false, false, false, false] rfl rfl (by kernel_rfl) (fun _ _ _ h => h) (Or.inl ⟨by rfl, ?_⟩) ?_ ?_
    rotate_left
    · intro w'
      go_simp
      with_reducible rfl
    rotate_left
    · simp only [Act.put, List.setIfInBounds_toArray, List.set_cons_zero, List.set_cons_succ, i64_w, i32_w]
      rfl
    refine take_ (i := 0) (N := some 21) (v := ?_) (a' := ?_) #[true, false, false, false, false, true, false, false, false, false] rfl rfl (by kernel_rfl) (fun _ _ _ h => h) (Or.inl ⟨by rfl, ?_⟩) hHeld ?_ ?_
    rotate_left
    · rintro w' ⟨s0, s1⟩
      go_simp
      with_reducible rfl
    rotate_left
    · simp only [Act.put, List.setIfInBounds_toArray, List.set_cons_zero, List.set_cons_succ, i64_w, i32_w]
      rfl
    refine take_ (i := 1) (N := some 22) (v := ?_) (a' := ?_) #[true, true, false, false, false, true, false, false, false, false] rfl rfl (by kernel_rfl) (fun _ _ _ h => h) (Or.inl ⟨by rfl, ?_⟩) hHeld ?_ ?_
    rotate_left
    · rintro w' ⟨s0, s1⟩
      go_simp
      with_reducible rfl
    rotate_left
    · simp only [Act.put, List.setIfInBounds_toArray, List.set_cons_zero, List.set_cons_succ, i64_w, i32_w]
      rfl
    refine pure_ (i := 2) (N := some 23) (v := ?_) (a' := ?_) #[true, true, true, false, false, true, false, false, false, false] rfl rfl (by kernel_rfl) (fun _ _ _ h => h) (Or.inl ⟨by rfl, ?_⟩) ?_ ?_
    rotate_left
    · intro w'
      go_simp
      with_reducible rfl
    rotate_left
    · simp only [Act.put, List.setIfInBounds_toArray, List.set_cons_zero, List.set_cons_succ, i64_w, i32_w]
      rfl
    refine pure_ (i := 3) (N := some 24) (v := ?_) (a' := ?_) #[true, true, true, true, false, true, false, false, false, false] rfl rfl (by kernel_rfl) (fun _ _ _ h => h) (Or.inl ⟨by rfl, ?_⟩) ?_ ?_
    rotate_left
    · intro w'
      go_simp
      with_reducible rfl
    rotate_left
    · simp only [Act.put, List.setIfInBounds_toArray, List.set_cons_zero, List.set_cons_succ, i64_w, i32_w]
      rfl
    refine take_ (i := 4) (N := some 25) (v := ?_) (a' := ?_) #[true, true, true, true, true, true, false, false, false, false] rfl rfl (by kernel_rfl) (fun _ _ _ h => h) (Or.inl ⟨by rfl, ?_⟩) hHeld ?_ ?_
    rotate_left
    · rintro w' ⟨s0, s1⟩
      go_simp
      with_reducible rfl
    rotate_left
    · simp only [Act.put, List.setIfInBounds_toArray, List.set_cons_zero, List.set_cons_succ, i64_w, i32_w]
      rfl
    refine one_ (i := 6) (N := some 27) #[true, true, true, true, true, true, true, false, false, false] rfl rfl (by kernel_rfl) (by decide) (fun K hK => ?_)
    refine Kd.R_append_rows_step k28 (w0 := w3.drew) B (by rfl) (.tmp 25) (.tmp 26) 41 28 (.agg #[.int .i64 0, .int .i64 0, .int .i64 0, .int .i64 0]) 32 rfl Tryz.underlying41 info28 rfl (by decide) (by decide) (.slice AL nL cL) ls rows A1 rows.length c1 (fun _ => True) (fun _ => False) rfl rfl RL.out RR.out rect_KM (fun _ h => h.elim) (fun _ _ => trivial) HB3.out HS3 (by omega) ?_
    intro v1 w4 ho hb hgr hat
    have BG4 := Aside0.mk (blk_grown BG3.out hgr HXG.out)
    have BP4 := Aside0.mk (blk_grown BP3.out hgr HXP.out)
    have BC4 := Aside0.mk (blk_grown BC3.out hgr HXC.out)
    have D1 : Aside0 (w4.cell? ⟨p, 0, none⟩ = some (.pointer (some ⟨g, 0, none⟩))) := ⟨by rw [blk_cell BP4.out]; rfl⟩
    have D2 : Aside0 (w4.cell? ⟨g, 1, none⟩ = some (.slice AL nL cL)) := ⟨by rw [blk_cell BG4.out]; rfl⟩
    have f1 : w4.frozen? ⟨g, 1, none⟩ = false := blk_frozen BG4.out 1
    obtain ⟨A4, n4, c4, rfl⟩ := sl_of_R ho
    have k1 := blk_set BG4.out 1 (.slice A4 n4 c4)
    have hm4 : Mid B N w3 w4 := (Mid.ofBelow (below_drew (Below.refl _ _))).trans (Mid.grownR hgr (fun k hk => ⟨Kd.R_base RL.out k hk, Kd.R_typed RL.out k hk⟩))
    have hm5 : Mid B N w (w4.setCell ⟨g, 1, none⟩ (.slice A4 n4 c4)) := (HM3.out.trans hm4).setCell HQ.out _
    have hi5 : WalkInv B N g (w4.setCell ⟨g, 1, none⟩ (.slice A4 n4 c4)) (n + 1, ls ++ rows) (u + 1) :=
      ⟨⟨by show n + 1 ≤ u + 1; omega, by show (ls ++ rows).length ≤ _; rw [List.length_append]; omega, HQ.out⟩, _, k1, Kd.R_set ho BG4.out (by decide) _ _⟩
    have hp5 : (w4.setCell ⟨g, 1, none⟩ (.slice A4 n4 c4)).heap[p]? = some (.cells #[.pointer (some ⟨g, 0, none⟩)] 81 (0, 0)) := (Below.heap_setCell w4 ⟨g, 1, none⟩ _ p (by intro h; have := HQ.out; have := HP.out; simp at h; omega)).trans BP4.out
    have hc5 := (Below.heap_setCell w4 ⟨g, 1, none⟩ (.slice A4 n4 c4) (p + 1) (by intro h; have := HQ.out; have := HP.out; simp at h; omega)).trans BC4.out
    have g6 : (w4.setCell ⟨g, 1, none⟩ (.slice A4 n4 c4)).cell? ⟨p + 1, 6, none⟩ = some (.slice A c.f3.length cap) := by rw [blk_cell hc5]; rfl
    have HF := Aside0.mk (And.intro hi5 (And.intro hp5 hm5))
    clear hi5 hp5 hc5 hm5 hm4 k1 ho hb hgr hat
    refine hK.out _ _ ⟨D1.out, D2.out⟩ (fun hHeld => ?_)
    clear hK K
    refine norm_ (a' := ?_) ?_ ?_
    rotate_left
    · show Act.put _ (some 27) _ = _
      simp only [Act.put, List.setIfInBounds_toArray, List.set_cons_zero, List.set_cons_succ, i64_w, i32_w]
      rfl
    refine pure_ (i := 7) (N := some 28) (v := ?_) (a' := ?_) #[true, true, true, true, true, true, true, true, false, false] rfl rfl (by kernel_rfl) (fun _ _ _ h => h) (Or.inl ⟨by rfl, ?_⟩) ?_ ?_
    rotate_left
    · intro w'
      go_simp
      with_reducible rfl
    rotate_left
    · simp only [Act.put, List.setIfInBounds_toArray, List.set_cons_zero, List.set_cons_succ, i64_w, i32_w]
      rfl
    refine pure_ (i := 8) (N := some 29) (v := ?_) (a' := ?_) #[true, true, true, true, true, true, true, true, true, false] rfl rfl (by kernel_rfl) (fun _ _ _ h => h) (Or.inl ⟨by rfl, ?_⟩) ?_ ?_
    rotate_left
    · intro w'
      go_simp
      with_reducible rfl
    rotate_left
    · simp only [Act.put, List.setIfInBounds_toArray, List.set_cons_zero, List.set_cons_succ, i64_w, i32_w]
      rfl
    refine last_ (i := 9) (N := none) #[true, true, true, true, true, true, true, true, true, true] rfl rfl (by kernel_rfl) (by decide) (fun K hK => ?_)
    refine skip_ (w1 := ?_) (by rfl) rfl ?_ ?_
    rotate_left
    · go_simp
      rfl
    refine hK.out _ _ ?_
    clear hK K
    refine done_ (by kernel_rfl) ?_
    have hT5 : Tr B (w4.setCell ⟨g, 1, none⟩ (.slice A4 n4 c4)) A c.f3.length c.f3 := HT0.out.below (HF.out.2.2.toB (by omega))
    have hsz5 := HF.out.2.2.size
    have HN := cfn_calls B N M 66 #[.pointer (some ⟨p, 0, none⟩)] enters66 (WithBox (WalkInv B N g) p g) (WithBox.stable (WalkInv.stable B N g) p g) (fun k => (cells k).length) (notV walkStep) A c.f3.length cap c.f3 (w4.setCell ⟨g, 1, none⟩ (.slice A4 n4 c4)) (n + 1, ls ++ rows) (u + 1) hBN (by omega)
      (fun k hk w st u A cap h1 h2 h3 h4 h5 => walk1_calls B N M g p k hBN HP.out (HK.out k hk) w st u A cap h1 h2 h3 h4 h5) hT5 ⟨HF.out.1, HF.out.2.1⟩ (by rw [wts_cells]; have := HU.out; have := HCL.out; omega)
    rw [any_visit, wts_cells, ← E.out] at HN
    have HN := Aside0.mk HN
    clear hT5 hsz5
    go_wp2_with fail
    refine HN.out.mono ?_
    rintro e w6 ⟨rfl, h6⟩
    have H6 := Aside0.mk h6
    clear h6
    go_wp2
    go_ret
    refine ⟨by simp, by rw [HCL.out]; have := H6.out.1.1; rwa [Nat.add_assoc] at this, HF.out.2.2.trans H6.out.2⟩
end Go.Proofs.YtakhnigalkjhhaaGreatDoor
