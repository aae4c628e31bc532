/-
  TileWhole: the walk.
-/
import Derived.Test.YtakhnigalkjhhaaTiLawK
import Derived.Test.YtakhnigalkjhhaaTiWhP
namespace Go.Proofs.Ytakhnigalkjhhaa
open Go.RowKit Go.Proofs.YtakhnigalkjhhaaW.PrintWords Go.Proofs.YtakhnigalkjhhaaW.PrintLast Go.Proofs.YtakhnigalkjhhaaW.PrintMore Go.Proofs.Ytakhnigalkjhhaa.PTileHits
set_option linter.unusedVariables false
set_option linter.unusedSimpArgs false
set_option maxRecDepth 100000

theorem one_rect (W : World) (r : SR) :
    (k27).C (W.alloc (.cells #[.int .i64 r.f0, .int .i64 r.f1, .int .i64 r.f2, .int .i64 r.f3] 27)) (some ⟨W.heap.size, 0, none⟩) 1 [r] := by
  refine ⟨rfl, by decide, fun _ => ⟨_, rfl, fun j p hj => ?_⟩⟩
  match j, hj with
  | 0, hj =>
    obtain rfl : r = p := by simpa using hj
    refine ⟨[.int .i64 r.f0, .int .i64 r.f1, .int .i64 r.f2, .int .i64 r.f3], rfl, k27_mk _ r, fun i u hu => ?_⟩
    rw [Nat.zero_mul, Nat.zero_add, add_plain, cell_of_row _ _ _ _ _ _ (heap_alloc_new W _)]
    simpa using hu

/-- What the leaves and the lines of a tree that tiles are. -/
structure Whole (r : SR) (lv ln : List SR) : Prop where
  root : rectOk r = true
  ins : ∀ x ∈ lv ++ ln, insideP r x ∧ rectOk x = true
  apart : (lv ++ ln).Pairwise apartP
  area_ : areaL (lv ++ ln) = area r
  len : ln.length + 1 = lv.length
theorem whole_of {c : SC} (h : tilesB c = true) : Whole c.f1 (lvR c) (lnR c) := by
  have hg := tiles_good h
  have g := geo c hg
  exact ⟨(hg c (cells_self c)).2.1, g.ins, g.apart, by rw [areaL_append]; exact g.area_, g.len⟩

set_option maxHeartbeats 8000000 in
theorem tileWhole_calls (w : World) (c : SC) (A : Option Addr) (cap : Nat) (hr : (k29).C w A c.f3.length c.f3) (hcap : c.f3.length ≤ cap) (hl : (cells c).length ≤ 2000000) :
    Calls Try.prog 4 #[.agg #[.int .u8 c.f0, .int .i64 c.f1.f0, .int .i64 c.f1.f1, .int .i64 c.f1.f2, .int .i64 c.f1.f3, .int .i64 c.f2, .slice A c.f3.length cap]] w fun e w' => e = .returned (.bool true) ∧ Below w.heap.size w w' := by
  obtain ⟨w1, hw1⟩ : ∃ w1, w1 = w.alloc (.cells #[.int .u8 c.f0, .int .i64 c.f1.f0, .int .i64 c.f1.f1, .int .i64 c.f1.f2, .int .i64 c.f1.f3, .int .i64 c.f2, .slice A c.f3.length cap] 29) := ⟨_, rfl⟩
  have hb1 : Below w.heap.size w w1 := by rw [hw1]; exact below_alloc (Below.refl _ _) _
  have hx1 : BoxAt w1 w.heap.size c A cap := by rw [hw1]; exact BoxAt.new w c A cap
  have hr1 := Kd.C_below hr hb1
  have HG := great_at c hl w1 A cap hcap hr1
  rw [hw1] at HG
  have HG := Aside0.mk HG
  have HW := Aside0.mk hw1
  have HB := Aside0.mk hb1
  have HX := Aside0.mk hx1
  have HR := Aside0.mk hr1
  have hs1 : w.heap.size < w1.heap.size := blk_lt hx1
  clear hw1 hb1 hx1 hr1 hr
  by_cases hbig : 200 < (cells c).length
  · rw [decide_eq_true hbig] at HG
    clear hl hbig
    go_enter Try.func4, Try.ntmps4
    go_wp2_with fail
    refine HG.out.mono ?_
    rintro e w2 ⟨rfl, hb⟩
    rw [← HW.out] at hb
    have HB2 := Aside0.mk (HB.out.trans (hb.mono HB.out.size))
    clear hb HG
    go_wp2_with fail
    refine (awake_calls _).mono ?_
    rintro e w3 ⟨rfl, hb⟩
    have HB3 := Aside0.mk (HB2.out.trans (hb.mono HB2.out.size))
    clear hb
    go_wp2
    go_ret
    exact ⟨rfl, HB3.out⟩
  · rw [decide_eq_false hbig] at HG
    have hl2 : (cells c).length ≤ 200 := by omega
    have HL := Aside0.mk hl2
    clear hl hbig hl2
    go_enter Try.func4, Try.ntmps4
    go_wp2_with fail
    refine HG.out.mono ?_
    rintro e w2 ⟨rfl, hb⟩
    rw [← HW.out] at hb
    have HB2 := Aside0.mk (HB.out.trans (hb.mono HB.out.size))
    have HX2 := Aside0.mk (HX.out.below hb)
    have HR2 := Aside0.mk (Kd.C_below HR.out hb)
    obtain ⟨d0, d1, d2, d3, d4, d5, d6⟩ := HX2.out.cells
    have HT := tiles_calls [c] (w2.alloc (.cells #[.int .u8 c.f0, .int .i64 c.f1.f0, .int .i64 c.f1.f1, .int .i64 c.f1.f2, .int .i64 c.f1.f3, .int .i64 c.f2, .slice A c.f3.length cap] 29)) (some ⟨w2.heap.size, 0, none⟩) 1 1
      (fun z hz => by obtain rfl : z = c := by simpa using hz
                      have := HL.out; omega) (one_row w2 c A cap hcap HR2.out)
    rw [show [c].all tilesB = tilesB c by simp] at HT
    have HT := Aside0.mk HT
    clear hb HG
    cases ht : tilesB c with
    | false =>
      rw [ht] at HT
      clear ht
      go_wp2_with fail
      refine HT.out.mono ?_
      rintro e w3 ⟨rfl, hb⟩
      have HB3 := Aside0.mk ((below_alloc HB2.out _).trans (hb.mono (by have := HB2.out.size; simp; omega)))
      clear hb HT d0 d1 d2 d3 d4 d5 d6
      go_wp2_with fail
      refine (awake_calls _).mono ?_
      rintro e w4 ⟨rfl, hb⟩
      have HB4 := Aside0.mk (HB3.out.trans (hb.mono HB3.out.size))
      clear hb
      go_wp2
      go_ret
      exact ⟨rfl, HB4.out⟩
    | true =>
      rw [ht] at HT
      have HWH := Aside0.mk (whole_of ht)
      have HLA : Aside0 (linesAns c = lnR c) := ⟨by unfold linesAns; rw [ht, if_pos rfl]⟩
      have hlvn : (lvR c).length ≤ 200 := by
        have : (lvR c).length ≤ (cells c).length := by
          unfold lvR leavesOf
          rw [List.length_map]
          exact List.length_filter_le _ _
        have := HL.out
        omega
      have HRF := Aside0.mk (Rects_f c (by have := HL.out; omega) 1000 (by have := HL.out; omega))
      have HTL : Aside0 (∀ W, (k29).C W A c.f3.length c.f3 → Calls Try.prog 13 #[.agg #[.int .u8 c.f0, .int .i64 c.f1.f0, .int .i64 c.f1.f1, .int .i64 c.f1.f2, .int .i64 c.f1.f3, .int .i64 c.f2, .slice A c.f3.length cap]] W
          fun e w' => Below W.heap.size W w' ∧ ∃ A1 n1 c1, e = .returned (.slice A1 n1 c1) ∧ (k27).R 27 w' W.heap.size (fun _ => True) (.slice A1 n1 c1) (lnR c)) := ⟨fun W h => by
            have := tlines_calls c W A cap (by have := HL.out; omega) hcap h
            rwa [HLA.out] at this⟩
      obtain ⟨lv, hlv⟩ : ∃ lv, lv = lvR c := ⟨_, rfl⟩
      obtain ⟨ln, hln⟩ : ∃ ln, ln = lnR c := ⟨_, rfl⟩
      rw [← hlv] at HWH hlvn HRF
      rw [← hln] at HWH HTL
      have hlnn : ln.length ≤ 200 := by have := HWH.out.len; omega
      clear ht hlv hln HLA
      go_wp2_with fail
      refine HT.out.mono ?_
      rintro e w3 ⟨rfl, hb⟩
      have hb23 : Below w2.heap.size w2 w3 := (below_alloc (Below.refl _ _) _).trans (hb.mono (by simp))
      have HB3 := Aside0.mk (HB2.out.trans (hb23.mono HB2.out.size))
      have HX3 := Aside0.mk (HX2.out.below hb23)
      have HR3 := Aside0.mk (Kd.C_below HR2.out hb23)
      clear hb hb23 HT d0 d1 d2 d3 d4 d5 d6
      obtain ⟨d0, d1, d2, d3, d4, d5, d6⟩ := HX3.out.cells
      have H3 := Aside0.mk (sashref06_Rects.calls 1000 _ _ _ _ _ _ A cap c.f3 lv w3 HR3.out hcap HRF.out)
      go_wp2_with fail
      refine H3.out.mono ?_
      rintro e w4 ⟨v4, rfl, hR, hb⟩
      obtain ⟨A1, n1, c1, rfl⟩ := sl_of_R hR
      obtain ⟨hn1, _, hC1⟩ := Kd.R_reads' hR
      subst hn1
      have HB4 := Aside0.mk (HB3.out.trans (hb.mono HB3.out.size))
      have HX4 := Aside0.mk (HX3.out.below hb)
      have HR4 := Aside0.mk (Kd.C_below HR3.out hb)
      have HLV := Aside0.mk hC1
      have H4 := Aside0.mk (HTL.out w4 HR4.out)
      clear hb H3 d0 d1 d2 d3 d4 d5 d6 hR hC1 HRF
      obtain ⟨d0, d1, d2, d3, d4, d5, d6⟩ := HX4.out.cells
      go_wp2_with fail
      refine H4.out.mono ?_
      rintro e w5 ⟨hb, A2, n2, c2, rfl, hR⟩
      obtain ⟨hn2, _, hC2⟩ := Kd.R_reads' hR
      subst hn2
      have HB5 := Aside0.mk (HB4.out.trans (hb.mono HB4.out.size))
      have HX5 := Aside0.mk (HX4.out.below hb)
      replace HLV := Aside0.mk (Kd.C_below HLV.out hb)
      have HLN := Aside0.mk hC2
      have hs5 : w.heap.size ≤ w5.heap.size := HB5.out.size
      clear hb H4 d0 d1 d2 d3 d4 d5 d6 hR hC2 HTL HR4
      go_wp2_with ((with_reducible refine gate_dst (N := 20) rfl ?_); refine Aside0.out ?zz)
      refine ⟨?_⟩
      refine Kd.R_lit k27 (w0 := w5) w5.heap.size 27 ?hg (N := 20) ?hd (xs := ([] : List SR)) (inner := []) (ok := fun _ => True) (okp := fun _ => False) ?hr ?hp (fun _ _ => trivial) trivial (Below.refl _ _) (Nat.le_refl _) (by simp) ?_
      case hd => rfl
      case hg => rfl
      case hp => exact Reps.none _ _
      case hr => first | (go_simp; done) | (go_simp; rfl)
      intro v6 w6 ho hb6 hg_ hnew_
      obtain ⟨A3, n3, c3, rfl⟩ := sl_of_R ho
      have RO := Aside0.mk ho
      have HB6 := Aside0.mk hb6
      have hs6 := hb6.size
      have HV6 := Aside0.mk (Kd.C_below HLV.out hb6)
      clear ho hb6 hg_ hnew_
      go_wp2_with (at_builtin; refine Kd.R_append_rows k27 (w0 := w5) w5.heap.size rfl (.tmp 20) (.tmp 21) 31 27 (.agg #[.int .i64 0, .int .i64 0, .int .i64 0, .int .i64 0]) 32 rfl Try.underlying31 info27 rfl (by decide) (by decide) (.slice A3 n3 c3) [] lv A1 lv.length c1 (fun _ => True) (fun _ => False) rfl rfl RO.out HV6.out rect_KM (fun _ h => h.elim) (fun _ _ => trivial) HB6.out hs6 (by simp only [List.length_nil]; omega) ?_)
      intro v7 w7 ho hb7 hg_ hnew_
      obtain ⟨A4, n4, c4, rfl⟩ := sl_of_R ho
      replace ho : (k27).R 27 w7 w5.heap.size (fun _ => True) (.slice A4 n4 c4) lv := ho
      have RO7 := Aside0.mk ho
      have HB7 := Aside0.mk hb7
      have hs7 := hb7.size
      have HN7 := Aside0.mk (Kd.C_below HLN.out hb7)
      clear ho hg_ hnew_ RO HV6 HB6 hb7 hs6
      go_wp2_with (at_builtin; refine Kd.R_append_rows k27 (w0 := w5) w5.heap.size rfl (.tmp 22) (.tmp 23) 31 27 (.agg #[.int .i64 0, .int .i64 0, .int .i64 0, .int .i64 0]) 32 rfl Try.underlying31 info27 rfl (by decide) (by decide) (.slice A4 n4 c4) lv ln A2 ln.length c2 (fun _ => True) (fun _ => False) rfl rfl RO7.out HN7.out rect_KM (fun _ h => h.elim) (fun _ _ => trivial) HB7.out hs7 (by omega) ?_)
      intro v8 w8 ho hb8 hg_ hnew_
      obtain ⟨A5, n5, c5, rfl⟩ := sl_of_R ho
      obtain ⟨hn5, hc5, hC5⟩ := Kd.R_reads' ho
      have HALL := Aside0.mk hC5
      have HB8 := Aside0.mk (HB5.out.trans (hb8.mono hs5))
      have HX8 := Aside0.mk (HX5.out.below hb8)
      obtain ⟨all, hall⟩ : ∃ all, all = lv ++ ln := ⟨_, rfl⟩
      have hal : all.length ≤ 400 := by rw [hall, List.length_append]; omega
      have HW2 : Aside0 ((∀ x ∈ all, insideP c.f1 x ∧ rectOk x = true) ∧ all.Pairwise apartP ∧ areaL all = area c.f1) := ⟨by rw [hall]; exact HWH.out.ins, by rw [hall]; exact HWH.out.apart, by rw [hall]; exact HWH.out.area_⟩
      rw [← hall] at hn5 HALL
      subst hn5
      clear ho hg_ hnew_ RO7 HB7 HN7 hb8 hs7 hall hC5 HLN HLV
      go_wp2
      go_loopw [6] (fun i wr => ∃ (k : Nat), k ≤ all.length ∧ i = .int .i64 k ∧ Aside0 (Below w8.heap.size w8 wr)) (fun i _ => all.length - (intOf i).toNat)
      case atStart => exact ⟨0, by omega, rfl, ⟨Below.refl _ _⟩⟩
      case round =>
        obtain ⟨k, hk, rfl, HA⟩ := hrel
        have HXr := Aside0.mk (HX8.out.below HA.out)
        have HCr := Aside0.mk (Kd.C_below HALL.out HA.out)
        have hszr := HA.out.size
        by_cases hlt : k < all.length
        · obtain ⟨ad, rfl, r0, r1, r2, r3⟩ := at_R HCr.out k hlt
          have hq := HW2.out.1 _ (getR_mem all k hlt)
          generalize all.getD k z27 = r at *
          have HIN : Aside0 (∀ W, Below wr.heap.size wr W → Calls Try.prog 14 #[.agg #[.int .i64 c.f1.f0, .int .i64 c.f1.f1, .int .i64 c.f1.f2, .int .i64 c.f1.f3], .agg #[.int .i64 r.f0, .int .i64 r.f1, .int .i64 r.f2, .int .i64 r.f3]] W fun ev w'' => ev = .returned (.bool true) ∧ Below wr.heap.size wr w'') :=
            ⟨fun W hb => (sashref04_Inside.calls _ _ _ _ _ _ _ _ true W (Inside_f c.f1 r HWH.out.root hq.2 hq.1)).mono fun ev w'' ⟨q1, q2⟩ => ⟨q1, hb.trans (q2.mono hb.size)⟩⟩
          have CL : Aside0 (∀ W, Below wr.heap.size wr W → (W.cell? ⟨w.heap.size, 1, none⟩ = some (.int .i64 c.f1.f0) ∧ W.cell? ⟨w.heap.size, 2, none⟩ = some (.int .i64 c.f1.f1) ∧ W.cell? ⟨w.heap.size, 3, none⟩ = some (.int .i64 c.f1.f2) ∧ W.cell? ⟨w.heap.size, 4, none⟩ = some (.int .i64 c.f1.f3)) ∧
              (W.cell? (ad.add (k * 4)) = some (.int .i64 r.f0) ∧ W.cell? ⟨(ad.add (k * 4)).block, (ad.add (k * 4)).off + 1, none⟩ = some (.int .i64 r.f1) ∧ W.cell? ⟨(ad.add (k * 4)).block, (ad.add (k * 4)).off + 2, none⟩ = some (.int .i64 r.f2) ∧ W.cell? ⟨(ad.add (k * 4)).block, (ad.add (k * 4)).off + 3, none⟩ = some (.int .i64 r.f3))) :=
            ⟨fun W hb => by
              obtain ⟨e0, e1, e2, e3, e4, e5, e6⟩ := (HXr.out.below hb).cells
              exact ⟨⟨e1, e2, e3, e4⟩, pw_cell_below hb r0, pw_cell_below hb r1, pw_cell_below hb r2, pw_cell_below hb r3⟩⟩
          have hbr : Below wr.heap.size wr wr := Below.refl _ _
          have hbrd : Below wr.heap.size wr wr.drew := below_drew hbr
          have hm := Kd.C_max HCr.out
          clear r0 r1 r2 r3 hq HCr HXr
          go_wp2_with fail
          go_region_held3 (fun W => (W.cell? ⟨w.heap.size, 1, none⟩ = some (.int .i64 c.f1.f0) ∧ W.cell? ⟨w.heap.size, 2, none⟩ = some (.int .i64 c.f1.f1) ∧ W.cell? ⟨w.heap.size, 3, none⟩ = some (.int .i64 c.f1.f2) ∧ W.cell? ⟨w.heap.size, 4, none⟩ = some (.int .i64 c.f1.f3)) ∧
              (W.cell? (ad.add (k * 4)) = some (.int .i64 r.f0) ∧ W.cell? ⟨(ad.add (k * 4)).block, (ad.add (k * 4)).off + 1, none⟩ = some (.int .i64 r.f1) ∧ W.cell? ⟨(ad.add (k * 4)).block, (ad.add (k * 4)).off + 2, none⟩ = some (.int .i64 r.f2) ∧ W.cell? ⟨(ad.add (k * 4)).block, (ad.add (k * 4)).off + 3, none⟩ = some (.int .i64 r.f3))) (exact CL.out _ (by assumption))
            (first | (go_at_call 14; with_reducible refine (HIN.out _ (by assumption)).mono ?_; rintro ev wi ⟨rfl, hbi⟩))
          have HBi := Aside0.mk (HA.out.trans (hbi.mono HA.out.size))
          go_wp2
          go_roundw
          case rel => exact ⟨k + 1, by omega, by go_num, HBi⟩
          case measure => simp [intOf]; omega
        · have HBr := Aside0.mk (HB8.out.trans (HA.out.mono HB8.out.size))
          have hm := Kd.C_max HCr.out
          have HAP : Aside0 (∀ W, Below wr.heap.size wr W → Calls Try.prog 15 #[.slice A5 all.length c5] W fun ev w'' => ev = .returned (.bool true) ∧ Below wr.heap.size wr w'') :=
            ⟨fun W hb => (sashref04_Apartments.calls 2000001 A5 c5 all true W (Kd.C_below HCr.out hb) hc5 (Aparts_f all (by omega) (fun x hx => (HW2.out.1 x hx).2) HW2.out.2.1 2000001 (by omega))).mono fun ev w'' ⟨q1, q2⟩ => ⟨q1, hb.trans (q2.mono hb.size)⟩⟩
          have HAR : Aside0 (∀ W, Below wr.heap.size wr W → Calls Try.prog 16 #[.slice A5 all.length c5] (W.alloc (.cells #[.int .i64 c.f1.f0, .int .i64 c.f1.f1, .int .i64 c.f1.f2, .int .i64 c.f1.f3] 27)) fun ev w'' => ev = .returned (.int .i64 (area c.f1)) ∧ Below wr.heap.size wr w'' ∧ Aside0 ((k27).C w'' (some ⟨W.heap.size, 0, none⟩) 1 [c.f1])) :=
            ⟨fun W hb => (sashref04_Area.calls 1001 A5 c5 all (area c.f1) _ (Kd.C_below (Kd.C_below HCr.out hb) (below_alloc (Below.refl _ _) _)) hc5 (by rw [Area_f all (by omega) (fun x hx => (HW2.out.1 x hx).2) 1001 (by omega), HW2.out.2.2])).mono fun ev w'' ⟨q1, q2⟩ => ⟨q1, (below_alloc hb _).trans (q2.mono (by have := hb.size; simp; omega)), ⟨Kd.C_below (one_rect W c.f1) q2⟩⟩⟩
          have HAR0 : Aside0 (∀ W, Below wr.heap.size wr W → Calls Try.prog 16 #[.slice A5 all.length c5] W fun ev w'' => ev = .returned (.int .i64 (area c.f1)) ∧ Below wr.heap.size wr w'') :=
            ⟨fun W hb => (sashref04_Area.calls 1001 A5 c5 all (area c.f1) _ (Kd.C_below HCr.out hb) hc5 (by rw [Area_f all (by omega) (fun x hx => (HW2.out.1 x hx).2) 1001 (by omega), HW2.out.2.2])).mono fun ev w'' ⟨q1, q2⟩ => ⟨q1, hb.trans (q2.mono hb.size)⟩⟩
          have HA1 : Aside0 (∀ W b, Below wr.heap.size wr W → (k27).C W (some b) 1 [c.f1] → Calls Try.prog 16 #[.slice (some b) 1 1] W fun ev w'' => ev = .returned (.int .i64 (area c.f1)) ∧ Below wr.heap.size wr w'') :=
            ⟨fun W b hb hC => (sashref04_Area.calls 1001 (some b) 1 [c.f1] (area c.f1) W hC (Nat.le_refl _) (by
              rw [Area_f [c.f1] (by simp) (fun x hx => by
                obtain rfl : x = c.f1 := by simpa using hx
                exact HWH.out.root) 1001 (by omega), areaL_cons, areaL_nil, Int.add_zero])).mono fun ev w'' ⟨q1, q2⟩ => ⟨q1, hb.trans (q2.mono hb.size)⟩⟩
          have HAW : Aside0 (∀ W, Below wr.heap.size wr W → Calls Try.prog 8 #[] W fun ev w'' => ev = .returned (.bool true) ∧ Below wr.heap.size wr w'') :=
            ⟨fun W hb => (awake_calls W).mono fun ev w'' ⟨q1, q2⟩ => ⟨q1, hb.trans (q2.mono hb.size)⟩⟩
          have CL : Aside0 (∀ W, Below wr.heap.size wr W → (W.cell? ⟨w.heap.size, 1, none⟩ = some (.int .i64 c.f1.f0) ∧ W.cell? ⟨w.heap.size, 2, none⟩ = some (.int .i64 c.f1.f1) ∧ W.cell? ⟨w.heap.size, 3, none⟩ = some (.int .i64 c.f1.f2) ∧ W.cell? ⟨w.heap.size, 4, none⟩ = some (.int .i64 c.f1.f3))) :=
            ⟨fun W hb => by
              obtain ⟨e0, e1, e2, e3, e4, e5, e6⟩ := (HXr.out.below hb).cells
              exact ⟨e1, e2, e3, e4⟩⟩
          have hbr : Below wr.heap.size wr wr := Below.refl _ _
          have hbrd : Below wr.heap.size wr wr.drew := below_drew hbr
          have hkb : decide ((k : Int) < (all.length : Int)) = false := decide_eq_false (by omega)
          obtain ⟨n1, hn1⟩ : ∃ n1, n1 = lv.length := ⟨_, rfl⟩
          obtain ⟨n2, hn2⟩ : ∃ n2, n2 = ln.length := ⟨_, rfl⟩
          have hll := HWH.out.len
          rw [← hn1] at hlvn hll ⊢
          rw [← hn2] at hlnn hll ⊢
          have heq : ((n2 : Int) == (n1 : Int) - 1) = true := beq_iff_eq.2 (by omega)
          have hwr : IntKind.i64.wrap ((n1 : Int) - 1) = (n2 : Int) := by rw [i64_w, w64s (by omega) (by omega)]; omega
          have heq2 : ((n2 : Int) == IntKind.i64.wrap ((n1 : Int) - 1)) = true := by rw [hwr]; exact beq_iff_eq.2 rfl
          have hn1p : 1 ≤ n1 := by omega
          clear hwr
          clear hll hn1 hn2 HCr HXr
          generalize area c.f1 = q at *
          go_wp2_with fail
          go_region_held3 (fun W => (W.cell? ⟨w.heap.size, 1, none⟩ = some (.int .i64 c.f1.f0) ∧ W.cell? ⟨w.heap.size, 2, none⟩ = some (.int .i64 c.f1.f1) ∧ W.cell? ⟨w.heap.size, 3, none⟩ = some (.int .i64 c.f1.f2) ∧ W.cell? ⟨w.heap.size, 4, none⟩ = some (.int .i64 c.f1.f3)))
            (first | exact CL.out _ (by assumption) | exact CL.out _ (below_alloc (by assumption) _))
            (first
              | (go_at_call 15; with_reducible refine (HAP.out _ (by assumption)).mono ?_; rintro ev wa ⟨rfl, hba⟩)
              | (go_at_call 16; with_reducible refine (HAR.out _ (by assumption)).mono ?_; rintro ev wb ⟨rfl, hbb, hCb⟩)
              | (go_at_call 16; with_reducible refine (HAR0.out _ (by assumption)).mono ?_; rintro ev wb ⟨rfl, hbb⟩)
              | (go_at_call 16; with_reducible refine (HA1.out _ _ (below_alloc (by assumption) _) (one_rect _ _)).mono ?_; rintro ev wd ⟨rfl, hbd⟩)
              | (go_at_call 16; with_reducible refine (HA1.out _ _ (by assumption) hCb.out).mono ?_; rintro ev wd ⟨rfl, hbd⟩)
              | (go_at_call 8; with_reducible refine (HAW.out _ (by assumption)).mono ?_; rintro ev we ⟨rfl, hbe⟩))
          all_goals (try go_wp2)
          all_goals (try go_ret)
          all_goals exact ⟨rfl, HBr.out.trans (hbe.mono HBr.out.size)⟩
end Go.Proofs.Ytakhnigalkjhhaa
