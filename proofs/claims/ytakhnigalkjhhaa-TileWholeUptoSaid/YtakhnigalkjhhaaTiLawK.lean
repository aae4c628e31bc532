/-
  TileKids: the walk.
-/
import Derived.Test.YtakhnigalkjhhaaTiAwake
namespace Go.Proofs.Ytakhnigalkjhhaa
open Go.RowKit Go.Proofs.YtakhnigalkjhhaaW.PrintWords Go.Proofs.YtakhnigalkjhhaaW.PrintLast Go.Proofs.YtakhnigalkjhhaaW.PrintMore Go.Proofs.Ytakhnigalkjhhaa.PTileHits
set_option linter.unusedVariables false
set_option linter.unusedSimpArgs false
set_option maxRecDepth 100000

theorem kid_sub (k : SC) : ∀ l : List SC, k ∈ l → (cells k).Sublist (cellsL l) := by
  intro l
  induction l with
  | nil => intro h; cases h
  | cons c l ih =>
    intro h
    rw [cellsL_cons]
    rcases List.mem_cons.1 h with rfl | h
    · exact List.sublist_append_left _ _
    · exact (ih h).trans (List.sublist_append_right _ _)
theorem kid_subC {c k : SC} (hk : k ∈ c.f3) : (cells k).Sublist (cells c) := by
  rw [cells_eq c]
  exact (kid_sub k c.f3 hk).trans (List.sublist_cons_self _ _)
theorem tiles_kid {c k : SC} (h : tilesB c = true) (hk : k ∈ c.f3) : tilesB k = true := by
  obtain ⟨h1, h2⟩ := (tilesB_iff c).1 h
  obtain ⟨m1, m2, m3⟩ := (may_iff c).1 h1
  have hs := kid_subC hk
  refine (tilesB_iff k).2 ⟨(may_iff k).2 ⟨Nat.le_trans hs.length_le m1, fun x hx => m2 x (hs.subset hx), ?_⟩, fun x hx => h2 x (hs.subset hx)⟩
  exact m3.sublist ((hs.filter _).map _)
theorem lnR_len {c : SC} (h : tilesB c = true) : (lnR c).length ≤ (cells c).length := by
  have hg := (geo c (tiles_good h)).len
  have : (lvR c).length ≤ (cells c).length := by
    unfold lvR leavesOf
    rw [List.length_map]
    exact List.length_filter_le _ _
  omega
def kidsN (c : SC) : Nat := if c.f3.length = 0 then 0 else c.f3.length - 1
theorem lines_kids {c : SC} (h : tilesB c = true) : (lnR c).length = kidsN c + (c.f3.flatMap lnR).length := by
  have hgc := tiles_good h c (cells_self c)
  rw [lnR_eq, List.length_append]
  congr 1
  unfold kidsN
  by_cases hk : c.f0 = 1
  · rw [lnOf_leaf hk, leaf_kids hgc.1 hk]; rfl
  · have hI := inner_of hgc hk
    have := hI.two
    rw [if_neg (by omega), hI.lines, cutLines_len, if_pos rfl]
    simp [sizesOf]
theorem flat_take (l : List SC) (k : Nat) (hk : k < l.length) : ((l.take (k + 1)).flatMap lnR).length = ((l.take k).flatMap lnR).length + (lnR (l.getD k z29)).length := by
  rw [takeT l k hk, List.flatMap_append, List.length_append]; simp
theorem flat_take_le (l : List SC) (k : Nat) : ((l.take k).flatMap lnR).length ≤ (l.flatMap lnR).length := by
  conv => rhs; rw [← List.take_append_drop k l]
  rw [List.flatMap_append, List.length_append]; omega

theorem great_at (c : SC) (hl : (cells c).length ≤ 2000000) (w : World) (A : Option Addr) (cap : Nat) (hcap : c.f3.length ≤ cap) (hr : (k29).C w A c.f3.length c.f3) :
    Calls Try.prog 11 #[.agg #[.int .u8 c.f0, .int .i64 c.f1.f0, .int .i64 c.f1.f1, .int .i64 c.f1.f2, .int .i64 c.f1.f3, .int .i64 c.f2, .slice A c.f3.length cap]] w fun e w' => e = .returned (.bool (decide (200 < (cells c).length))) ∧ Below w.heap.size w w' :=
  sashref05_Great.calls 4000001 _ _ _ _ _ _ A cap c.f3 _ w hr hcap (great_f c hl 4000001 (by omega))

set_option maxHeartbeats 8000000 in
theorem tileKids_calls (w : World) (c : SC) (A : Option Addr) (cap : Nat) (hr : (k29).C w A c.f3.length c.f3) (hcap : c.f3.length ≤ cap) (hl : (cells c).length ≤ 2000000) :
    Calls Try.prog 6 #[.agg #[.int .u8 c.f0, .int .i64 c.f1.f0, .int .i64 c.f1.f1, .int .i64 c.f1.f2, .int .i64 c.f1.f3, .int .i64 c.f2, .slice A c.f3.length cap]] w fun e w' => e = .returned (.bool true) ∧ Below w.heap.size w w' := by
  obtain ⟨w1, hw1⟩ : ∃ w1, w1 = w.alloc (.cells #[.int .u8 c.f0, .int .i64 c.f1.f0, .int .i64 c.f1.f1, .int .i64 c.f1.f2, .int .i64 c.f1.f3, .int .i64 c.f2, .slice A c.f3.length cap] 29) := ⟨_, rfl⟩
  have hb1 : Below w.heap.size w w1 := by rw [hw1]; exact below_alloc (Below.refl _ _) _
  have hx1 : BoxAt w1 w.heap.size c A cap := by rw [hw1]; exact BoxAt.new w c A cap
  have hr1 := Kd.C_below hr hb1
  have HG := great_at c hl w1 A cap hcap hr1
  rw [hw1] at HG
  have HG := Aside0.mk HG
  have HW := Aside0.mk hw1
  have HB := Aside0.mk hb1
  have HX := Aside0.mk hx1
  have HR := Aside0.mk hr1
  have hs1 : w.heap.size < w1.heap.size := blk_lt hx1
  clear hw1 hb1 hx1 hr1 hr
  by_cases hbig : 200 < (cells c).length
  · rw [decide_eq_true hbig] at HG
    clear hl hbig
    go_enter Try.func6, Try.ntmps6
    go_wp2_with fail
    refine HG.out.mono ?_
    rintro e w2 ⟨rfl, hb⟩
    rw [← HW.out] at hb
    have HB2 := Aside0.mk (HB.out.trans (hb.mono HB.out.size))
    clear hb HG
    go_wp2_with fail
    refine (awake_calls _).mono ?_
    rintro e w3 ⟨rfl, hb⟩
    have HB3 := Aside0.mk (HB2.out.trans (hb.mono HB2.out.size))
    clear hb
    go_wp2
    go_ret
    exact ⟨rfl, HB3.out⟩
  · rw [decide_eq_false hbig] at HG
    have hl2 : (cells c).length ≤ 200 := by omega
    have HL := Aside0.mk hl2
    clear hl hbig hl2
    go_enter Try.func6, Try.ntmps6
    go_wp2_with fail
    refine HG.out.mono ?_
    rintro e w2 ⟨rfl, hb⟩
    rw [← HW.out] at hb
    have HB2 := Aside0.mk (HB.out.trans (hb.mono HB.out.size))
    have HX2 := Aside0.mk (HX.out.below hb)
    have HR2 := Aside0.mk (Kd.C_below HR.out hb)
    obtain ⟨d0, d1, d2, d3, d4, d5, d6⟩ := HX2.out.cells
    have HT := tiles_calls [c] (w2.alloc (.cells #[.int .u8 c.f0, .int .i64 c.f1.f0, .int .i64 c.f1.f1, .int .i64 c.f1.f2, .int .i64 c.f1.f3, .int .i64 c.f2, .slice A c.f3.length cap] 29)) (some ⟨w2.heap.size, 0, none⟩) 1 1
      (fun z hz => by obtain rfl : z = c := by simpa using hz
                      have := HL.out; omega) (one_row w2 c A cap hcap HR2.out)
    rw [show [c].all tilesB = tilesB c by simp] at HT
    have HT := Aside0.mk HT
    clear hb HG
    cases ht : tilesB c with
    | false =>
      rw [ht] at HT
      clear ht
      go_wp2_with fail
      refine HT.out.mono ?_
      rintro e w3 ⟨rfl, hb⟩
      have HB3 := Aside0.mk ((below_alloc HB2.out _).trans (hb.mono (by have := HB2.out.size; simp; omega)))
      clear hb HT d0 d1 d2 d3 d4 d5 d6
      go_wp2_with fail
      refine (awake_calls _).mono ?_
      rintro e w4 ⟨rfl, hb⟩
      have HB4 := Aside0.mk (HB3.out.trans (hb.mono HB3.out.size))
      clear hb
      go_wp2
      go_ret
      exact ⟨rfl, HB4.out⟩
    | true =>
      rw [ht] at HT
      have HKT : Aside0 (∀ k ∈ c.f3, tilesB k = true) := ⟨fun k hk => tiles_kid ht hk⟩
      have HLK := Aside0.mk (lines_kids ht)
      have HLL := Aside0.mk (lnR_len ht)
      have HLA : Aside0 (linesAns c = lnR c) := ⟨by unfold linesAns; rw [ht, if_pos rfl]⟩
      obtain ⟨N0, hN0⟩ : ∃ N0, N0 = kidsN c := ⟨_, rfl⟩
      have hN1 : N0 = if c.f3.length = 0 then 0 else c.f3.length - 1 := hN0
      have HN0 := Aside0.mk hN0
      have hm := Kd.C_max HR2.out
      have hkl : c.f3.length ≤ 200 := by have := kids_le c (cells_self c); have := HL.out; omega
      clear ht hN0
      go_wp2_with fail
      refine HT.out.mono ?_
      rintro e w3 ⟨rfl, hb⟩
      have hb23 : Below w2.heap.size w2 w3 := (below_alloc (Below.refl _ _) _).trans (hb.mono (by simp))
      have HB3 := Aside0.mk (HB2.out.trans (hb23.mono HB2.out.size))
      have HX3 := Aside0.mk (HX2.out.below hb23)
      have HR3 := Aside0.mk (Kd.C_below HR2.out hb23)
      obtain ⟨e0, e1, e2, e3, e4, e5, e6⟩ := HX3.out.cells
      clear hb hb23 HT d0 d1 d2 d3 d4 d5 d6
      have HLEN : Aside0 ((max 0 ((c.f3.length : Int) - 1)) = (N0 : Int)) := ⟨by rw [hN1]; split <;> omega⟩
      clear hN1
      have HBIG : Aside0 (∀ k, N0 + ((c.f3.take k).flatMap lnR).length ≤ 200) := ⟨fun k => by have := flat_take_le c.f3 k; have := HLK.out; have := HLL.out; have := HL.out; have := HN0.out; omega⟩
      clear e0 e1 e2 e3 e4 e5
      go_wp2
      go_loopw [3, 4] (fun v i wr => ∃ (k : Nat), k ≤ c.f3.length ∧ i = .int .i64 k ∧ v = .int .i64 ((N0 + ((c.f3.take k).flatMap lnR).length : Nat) : Int) ∧ Aside0 (Below w3.heap.size w3 wr)) (fun _ i _ => c.f3.length - (intOf i).toNat)
      case atStart => exact ⟨0, by omega, rfl, by rw [HLEN.out]; simp, ⟨Below.refl _ _⟩⟩
      case round =>
        obtain ⟨k, hk, rfl, rfl, HA⟩ := hrel
        have HXr := Aside0.mk (HX3.out.below HA.out)
        have HRr := Aside0.mk (Kd.C_below HR3.out HA.out)
        obtain ⟨e0, e1, e2, e3, e4, e5, e6⟩ := HXr.out.cells
        have hszr := HA.out.size
        have hsz3 := HB3.out.size
        by_cases hlt : k < c.f3.length
        · obtain ⟨ad, A6, c6, hA, g0, g1, g2, g3, g4, g5, g6, hl6, hT6⟩ := (Tr.of HRr.out).get k hlt
          subst hA
          have hmem := getT_mem c.f3 k hlt
          have hflat := flat_take c.f3 k hlt
          have hbnd := HBIG.out k
          have hbnd2 := HBIG.out (k + 1)
          rw [hflat] at hbnd2
          generalize c.f3.getD k z29 = x at *
          have htx := HKT.out x hmem
          have hlx : (cells x).length ≤ 10000 := by have := (kid_subC hmem).length_le; have := HL.out; omega
          have HLX := tlines_calls x
          have HT1 := tiles_calls [x] (wr.alloc (.cells #[.int .u8 x.f0, .int .i64 x.f1.f0, .int .i64 x.f1.f1, .int .i64 x.f1.f2, .int .i64 x.f1.f3, .int .i64 x.f2, .slice A6 x.f3.length c6] 29)) (some ⟨wr.heap.size, 0, none⟩) 1 1
            (fun z hz => by obtain rfl : z = x := by simpa using hz
                            exact hlx) (one_row wr x A6 c6 hl6 hT6.now)
          rw [show [x].all tilesB = true by simp [htx]] at HT1
          have HT1 := Aside0.mk HT1
          have HTT := Aside0.mk hT6.now
          have HLA2 : Aside0 (linesAns x = lnR x) := ⟨by unfold linesAns; rw [htx, if_pos rfl]⟩
          have HFL := Aside0.mk hflat
          have HLX2 : Aside0 (∀ W, (k29).C W A6 x.f3.length x.f3 → Calls Try.prog 13 #[.agg #[.int .u8 x.f0, .int .i64 x.f1.f0, .int .i64 x.f1.f1, .int .i64 x.f1.f2, .int .i64 x.f1.f3, .int .i64 x.f2, .slice A6 x.f3.length c6]] W
              fun e w' => Below W.heap.size W w' ∧ ∃ A1 n1 c1, e = .returned (.slice A1 n1 c1) ∧ (k27).R 27 w' W.heap.size (fun _ => True) (.slice A1 n1 c1) (linesAns x)) := ⟨fun W h => HLX W A6 c6 hlx hl6 h⟩
          obtain ⟨q, hq⟩ : ∃ q, q = (lnR x).length := ⟨_, rfl⟩
          rw [← hq] at hbnd2 HFL
          have HQ := Aside0.mk hq
          have HTR := Aside0.mk (Tr.of HRr.out)
          clear HLX hT6 hmem htx hlx hflat hq
          generalize ((c.f3.take k).flatMap lnR).length = S0 at *
          go_wp2_with fail
          refine HT1.out.mono ?_
          rintro e w5 ⟨rfl, hb⟩
          have hb5 : Below wr.heap.size wr w5 := (below_alloc (Below.refl _ _) _).trans (hb.mono (by simp))
          have HB5 := Aside0.mk (HA.out.trans (hb5.mono HA.out.size))
          obtain ⟨f0, f1, f2, f3, f4, f5, f6⟩ := (HXr.out.below hb5).cells
          have h0 := pw_cell_below hb5 g0
          have h1 := pw_cell_below hb5 g1
          have h2 := pw_cell_below hb5 g2
          have h3 := pw_cell_below hb5 g3
          have h4 := pw_cell_below hb5 g4
          have h5 := pw_cell_below hb5 g5
          have h6 := pw_cell_below hb5 g6
          have HL5 := Aside0.mk (HLX2.out w5 (Kd.C_below HTT.out hb5))
          clear hb hb5 e0 e1 e2 e3 e4 e5 e6 g0 g1 g2 g3 g4 g5 g6 HT1
          go_wp2_with fail
          refine HL5.out.mono ?_
          rintro e w6 ⟨hb6, A1, n1, c1, rfl, hR⟩
          obtain ⟨hn1, _, _⟩ := Kd.R_reads' hR
          rw [HLA2.out, ← HQ.out] at hn1
          subst hn1
          have HB6 := Aside0.mk (HB5.out.trans (hb6.mono HB5.out.size))
          clear hb6 hR HL5 f0 f1 f2 f3 f4 f5 f6 h0 h1 h2 h3 h4 h5 h6
          go_wp2
          go_roundw
          case rel => exact ⟨k + 1, by omega, by go_num, by rw [HFL.out]; congr 1; push_cast; omega, HB6⟩
          case measure => simp [intOf]; omega
        · have hkn : k = c.f3.length := by omega
          have HE : Aside0 (N0 + ((c.f3.take k).flatMap lnR).length = (lnR c).length) := ⟨by rw [hkn, List.take_length, HLK.out, HN0.out]⟩
          rw [HE.out]
          have HLC := tlines_calls c wr A cap (by have := HL.out; omega) hcap HRr.out
          rw [HLA.out] at HLC
          have HLC := Aside0.mk HLC
          obtain ⟨q, hq⟩ : ∃ q, q = (lnR c).length := ⟨_, rfl⟩
          rw [← hq]
          have HQ := Aside0.mk hq
          have hqb : q ≤ 200 := by have := HLL.out; have := HL.out; omega
          have hkb : decide ((k : Int) < (c.f3.length : Int)) = false := decide_eq_false (by omega)
          clear hq hkn
          go_wp2_with fail
          refine HLC.out.mono ?_
          rintro e w6 ⟨hb6, A1, n1, c1, rfl, hR⟩
          obtain ⟨hn1, _, _⟩ := Kd.R_reads' hR
          rw [← HQ.out] at hn1
          subst hn1
          have HB6 := Aside0.mk (HB3.out.trans (((HA.out).trans (hb6.mono HA.out.size)).mono hsz3))
          clear hb6 hR HLC e0 e1 e2 e3 e4 e5 e6
          go_wp2_with fail
          refine (awake_calls _).mono ?_
          rintro e w7 ⟨rfl, hb⟩
          have HB7 := Aside0.mk (HB6.out.trans (hb.mono HB6.out.size))
          clear hb
          go_wp2
          go_ret
          exact ⟨rfl, HB7.out⟩
end Go.Proofs.Ytakhnigalkjhhaa
