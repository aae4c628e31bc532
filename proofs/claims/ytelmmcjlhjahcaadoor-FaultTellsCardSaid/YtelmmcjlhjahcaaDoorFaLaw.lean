/-
  FaultTells: the walk.
-/
import Derived.Test.YtelmmcjlhjahcaaDoorFaZero
import Derived.Deep.RegionHeld3
namespace Go.Proofs.YtelmmcjlhjahcaaDoor
open Go.RowKit Go.Proofs.YtelmmcjlhjahcaaDoorW.PrintWords Go.Proofs.YtelmmcjlhjahcaaDoorW.PrintLast Go.Proofs.YtelmmcjlhjahcaaDoorW.PrintMore Go.Proofs.YtelmmcjlhjahcaaDoor.PFaultTells
set_option linter.unusedVariables false
set_option linter.unusedSimpArgs false
set_option maxRecDepth 100000

theorem one_F {w : World} {g : Nat} (f : S24) {A : Option Addr} {c : Nat} (h : w.heap[g]? = some (.cells #[.int .i64 f.f0, .int .i64 f.f1, .slice A f.f2.length c] 24 (0, 0))) (l2 : f.f2.length ≤ c) (g2 : (Kd.slice 9 Kd.string).C w A f.f2.length f.f2) : k24.C w (some ⟨g, 0, none⟩) 1 [f] := by
  refine ⟨rfl, by decide, fun _ => ⟨_, rfl, fun j p hj => ?_⟩⟩
  match j, hj with
  | 0, hj =>
    obtain rfl : f = p := by simpa using hj
    refine ⟨[.int .i64 f.f0, .int .i64 f.f1, .slice A f.f2.length c], rfl, k24_mk w f l2 g2, fun i u hu => ?_⟩
    rw [Nat.zero_mul, Nat.zero_add, add_plain, cell_of_row _ _ _ _ _ _ h]
    simpa using hu

set_option maxHeartbeats 80000000 in
theorem tells_some (w : World) (e a : Int) (A : Option Addr) (n c : Nat) (xss : List (List ByteArray)) (he : (e == 0) = false) (hr : (Kd.slice 9 Kd.string).C w A n xss) (hc : n ≤ c) (hgr : sashref03_Great.f 100 [⟨e, a, xss⟩] = some false) (h10 : n ≤ 10) (hx : ∀ x ∈ xss, x.length ≤ 10) (hE : As.ErrT w) :
    Calls Tryd.prog 3 #[.agg #[.int .i64 e, .int .i64 a, .slice A n c]] w fun ev w' => ev = .returned (.bool true) ∧ Below w.heap.size w w' := by
  have hlen := Kd.C_len hr
  subst hlen
  have he0 : ¬ e = 0 := beq_eq_false_iff_ne.1 he
  have hne : (e != 0) = true := bne_iff_ne.2 he0
  have hfl := flat10 xss hx
  have hRW := ref_words e a he0 xss h10 hx
  obtain ⟨W1, hW1⟩ : ∃ W1, W1 = w.alloc (.cells #[.int .i64 e, .int .i64 a, .slice A xss.length c] 24) := ⟨_, rfl⟩
  obtain ⟨W2, hW2⟩ : ∃ W2, W2 = W1.alloc (.cells #[.int .i64 e, .int .i64 a, .slice A xss.length c] 24) := ⟨_, rfl⟩
  have hb1 : Below w.heap.size w W1 := by rw [hW1]; exact below_alloc (Below.refl _ _) _
  have hb2 : Below w.heap.size w W2 := by rw [hW2]; exact below_alloc hb1 _
  have hs1 : W1.heap.size = w.heap.size + 1 := by rw [hW1]; simp
  have hbl1 : W1.heap[w.heap.size]? = some (.cells #[.int .i64 e, .int .i64 a, .slice A xss.length c] 24 (0, 0)) := by rw [hW1]; exact heap_alloc_new w _
  have hbl2 : W2.heap[w.heap.size]? = some (.cells #[.int .i64 e, .int .i64 a, .slice A xss.length c] 24 (0, 0)) := by rw [hW2]; exact blk_alloc hbl1 _
  have hGt := sashref03_Great.calls 100 (some ⟨W1.heap.size, 0, none⟩) 1 [⟨e, a, xss⟩] false W2 (one_F ⟨e, a, xss⟩ (by rw [hW2]; exact heap_alloc_new W1 _) hc (Kd.C_below hr hb2)) (Nat.le_refl _) hgr
  rw [hs1] at hGt
  have HR2 : Aside0 ((Kd.slice 9 Kd.string).C W2 A xss.length xss) := ⟨Kd.C_below hr hb2⟩
  have HBL2 := Aside0.mk hbl2
  have HB2 := Aside0.mk hb2
  have HG := Aside0.mk hE
  have HW := Aside0.mk (And.intro hW1 hW2)
  have HGt : Aside0 (Calls Tryd.prog 12 #[.slice (some ⟨w.heap.size + 1, 0, none⟩) 1 1] W2 fun e w' => e = .returned (.bool false) ∧ Drawn0 W2 w') := ⟨hGt⟩
  have HX := Aside0.mk hx
  have HRW := Aside0.mk hRW
  have HFL := Aside0.mk hfl
  clear hGt hbl1 hbl2 hb1 hb2 hW1 hW2 hs1 hr hgr hE hx hRW hfl he0
  obtain ⟨n, hn⟩ : ∃ n, n = xss.length := ⟨_, rfl⟩
  rw [← hn] at HR2 HBL2 HW hc h10 ⊢
  have HN := Aside0.mk hn
  clear hn
  go_enter Tryd.func3, Tryd.ntmps3
  go_wp2_with fail
  rw [← HW.out.1, ← HW.out.2]
  with_reducible refine HGt.out.mono ?_
  rintro ev w3 ⟨rfl, hd⟩
  have hbl3 := (hd.below.block _ (blk_lt HBL2.out)).trans HBL2.out
  have c0 : w3.cell? ⟨w.heap.size, 0, none⟩ = some (.int .i64 e) := (blk_cell hbl3 0).trans rfl
  have c1 : w3.cell? ⟨w.heap.size, 1, none⟩ = some (.int .i64 a) := (blk_cell hbl3 1).trans rfl
  have c2 : w3.cell? ⟨w.heap.size, 2, none⟩ = some (.slice A n c) := (blk_cell hbl3 2).trans rfl
  have HM := Aside0.mk (made_calls w3 e a A n c xss he (Kd.C_below HR2.out hd.below) hc (by omega) (fun x h => Nat.le_trans (HX.out x h) (by decide)))
  have HB3 := Aside0.mk (HB2.out.trans (hd.below.mono HB2.out.size))
  have HBL3 := Aside0.mk hbl3
  have HR3 : Aside0 ((Kd.slice 9 Kd.string).C w3 A n xss) := ⟨Kd.C_below HR2.out hd.below⟩
  clear hbl3 hd HGt HB2 HBL2 HR2 HW
  go_wp2_with fail
  with_reducible refine HM.out.mono ?_
  rintro ev w4 ⟨t, x, rfl, hv, hb⟩
  have HV4 := Aside0.mk hv
  have HB4 := Aside0.mk (HB3.out.trans (hb.mono HB3.out.size))
  have HBL4 := Aside0.mk ((hb.block _ (blk_lt HBL3.out)).trans HBL3.out)
  have HR4 : Aside0 ((Kd.slice 9 Kd.string).C w4 A n xss) := ⟨Kd.C_below HR3.out hb⟩
  have HAT : Aside0 (Calls Tryd.prog 15 #[.iface t x] w4 fun e w' => e = .returned (.tuple #[.int .i64 a, .bool true]) ∧ Below w4.heap.size w4 w') := ⟨As.at_calls _ _ _ w4 hv (HG.out.below HB4.out)⟩
  clear hv hb HM HB3 HBL3 HR3 c0 c1 c2
  go_wp2_with fail
  with_reducible refine HAT.out.mono ?_
  rintro ev w5 ⟨rfl, hb⟩
  have HV5 := Aside0.mk (As.EV_keep hb HV4.out)
  have HB5 := Aside0.mk (HB4.out.trans (hb.mono HB4.out.size))
  have HBL5 := Aside0.mk ((hb.block _ (blk_lt HBL4.out)).trans HBL4.out)
  have HR5 : Aside0 ((Kd.slice 9 Kd.string).C w5 A n xss) := ⟨Kd.C_below HR4.out hb⟩
  have c0 : w5.cell? ⟨w.heap.size, 0, none⟩ = some (.int .i64 e) := (blk_cell HBL5.out 0).trans rfl
  have c1 : w5.cell? ⟨w.heap.size, 1, none⟩ = some (.int .i64 a) := (blk_cell HBL5.out 1).trans rfl
  have c2 : w5.cell? ⟨w.heap.size, 2, none⟩ = some (.slice A n c) := (blk_cell HBL5.out 2).trans rfl
  clear hb HAT HV4 HB4 HBL4 HR4
  obtain ⟨fl, hfl⟩ : ∃ fl, fl = (insOf xss).flatten := ⟨_, rfl⟩
  have hfl2 : fl.length ≤ 100 := by rw [hfl]; have := HFL.out; have := HN.out; omega
  have cells : ∀ w', Below w5.heap.size w5 w' → w'.cell? ⟨w.heap.size, 0, none⟩ = some (.int .i64 e) ∧ w'.cell? ⟨w.heap.size, 1, none⟩ = some (.int .i64 a) ∧ w'.cell? ⟨w.heap.size, 2, none⟩ = some (.slice A n c) := fun w' hb => by
    have h := (hb.block _ (blk_lt HBL5.out)).trans HBL5.out
    exact ⟨(blk_cell h 0).trans rfl, (blk_cell h 1).trans rfl, (blk_cell h 2).trans rfl⟩
  have HCO : Aside0 (∀ w', Below w5.heap.size w5 w' → Calls Tryd.prog 16 #[.iface t x] w' fun ev w'' => ev = .returned (.int .i64 e) ∧ Below w5.heap.size w5 w'' ∧ w''.cell? ⟨w.heap.size, 0, none⟩ = some (.int .i64 e) ∧ w''.cell? ⟨w.heap.size, 1, none⟩ = some (.int .i64 a) ∧ w''.cell? ⟨w.heap.size, 2, none⟩ = some (.slice A n c)) :=
    ⟨fun w' hb => (As.code_calls _ _ _ w' (As.EV_keep hb HV5.out) ((HG.out.below HB5.out).below hb)).mono fun ev w'' ⟨h1, h2⟩ => ⟨h1, hb.trans (h2.mono hb.size), cells _ (hb.trans (h2.mono hb.size))⟩⟩
  have HWO : Aside0 (∀ w', Below w5.heap.size w5 w' → Calls Tryd.prog 18 #[.iface t x] w' fun ev w'' => ∃ A1 c1, ev = .returned (.slice A1 fl.length c1) ∧ Aside0 (fl.length ≤ c1 ∧ Kd.string.C w'' A1 fl.length fl) ∧ Below w5.heap.size w5 w'' ∧ w''.cell? ⟨w.heap.size, 0, none⟩ = some (.int .i64 e) ∧ w''.cell? ⟨w.heap.size, 1, none⟩ = some (.int .i64 a) ∧ w''.cell? ⟨w.heap.size, 2, none⟩ = some (.slice A n c)) :=
    ⟨fun w' hb => (words_calls w' _ _ _ (As.EV_keep hb HV5.out) (by rw [← hfl]; omega)).mono fun ev w'' ⟨A1, n1, c1, h1, h2, h3⟩ => by
      rw [← hfl] at h2
      obtain ⟨m1, m2, m3⟩ := Kd.R_reads' h2
      subst m1
      exact ⟨A1, c1, h1, ⟨m2, m3⟩, hb.trans (h3.mono hb.size), cells _ (hb.trans (h3.mono hb.size))⟩⟩
  have HRO : Aside0 (∀ w', Below w5.heap.size w5 w' → Calls Tryd.prog 19 #[.agg #[.int .i64 e, .int .i64 a, .slice A n c]] w' fun ev w'' => ∃ A2 c2, ev = .returned (.slice A2 fl.length c2) ∧ Aside0 (fl.length ≤ c2 ∧ Kd.string.C w'' A2 fl.length fl) ∧ Below w5.heap.size w5 w'' ∧ Aside0 (Below w'.heap.size w' w'') ∧ w''.cell? ⟨w.heap.size, 0, none⟩ = some (.int .i64 e) ∧ w''.cell? ⟨w.heap.size, 1, none⟩ = some (.int .i64 a) ∧ w''.cell? ⟨w.heap.size, 2, none⟩ = some (.slice A n c)) :=
    ⟨fun w' hb => by
      have h0 := sashref03_Words.calls 100 e a A c xss fl w' (by rw [← HN.out]; exact Kd.C_below HR5.out hb) (by rw [← HN.out]; exact hc) (by rw [hfl]; exact HRW.out)
      rw [← HN.out] at h0
      refine h0.mono fun ev w'' ⟨v, h1, h2, h3⟩ => ?_
      obtain ⟨A1, n1, c1, rfl⟩ := sl_of_R h2
      obtain ⟨m1, m2, m3⟩ := Kd.R_reads' h2
      subst m1
      exact ⟨A1, c1, h1, ⟨m2, m3⟩, hb.trans (h3.mono hb.size), ⟨h3⟩, cells _ (hb.trans (h3.mono hb.size))⟩⟩
  have HSO : Aside0 (∀ w' A1 k1 A2 k2, Below w5.heap.size w5 w' → fl.length ≤ k1 → Kd.string.C w' A1 fl.length fl → fl.length ≤ k2 → Kd.string.C w' A2 fl.length fl → Calls Tryd.prog 17 #[.slice A1 fl.length k1, .slice A2 fl.length k2] w' fun ev w'' => ev = .returned (.bool true) ∧ Below w5.heap.size w5 w'' ∧ w''.cell? ⟨w.heap.size, 0, none⟩ = some (.int .i64 e) ∧ w''.cell? ⟨w.heap.size, 1, none⟩ = some (.int .i64 a) ∧ w''.cell? ⟨w.heap.size, 2, none⟩ = some (.slice A n c)) :=
    ⟨fun w' A1 k1 A2 k2 hb h1 h2 h3 h4 => (sashref03_Same.calls 200 A1 k1 fl A2 k2 fl true w' h2 h1 h4 h3 (same3_self fl (by omega) 200 (by omega))).mono fun ev w'' ⟨q1, q2⟩ => ⟨q1, hb.trans (q2.below.mono hb.size), cells _ (hb.trans (q2.below.mono hb.size))⟩⟩
  have HAW : Aside0 (∀ w', Below w5.heap.size w5 w' → Calls Tryd.prog 13 #[] w' fun ev w'' => ev = .returned (.bool true) ∧ Below w5.heap.size w5 w'' ∧ w''.cell? ⟨w.heap.size, 0, none⟩ = some (.int .i64 e) ∧ w''.cell? ⟨w.heap.size, 1, none⟩ = some (.int .i64 a) ∧ w''.cell? ⟨w.heap.size, 2, none⟩ = some (.slice A n c)) :=
    ⟨fun w' hb => (awake3_calls w' ((HG.out.below HB5.out).below hb)).mono fun ev w'' ⟨q1, q2⟩ => ⟨q1, hb.trans (q2.mono hb.size), cells _ (hb.trans (q2.mono hb.size))⟩⟩
  have hbd : Below w5.heap.size w5 w5.drew := below_drew (Below.refl _ _)
  have c0d : w5.drew.cell? ⟨w.heap.size, 0, none⟩ = some (.int .i64 e) := c0
  have c1d : w5.drew.cell? ⟨w.heap.size, 1, none⟩ = some (.int .i64 a) := c1
  have c2d : w5.drew.cell? ⟨w.heap.size, 2, none⟩ = some (.slice A n c) := c2
  clear cells hfl hfl2 HV5 HBL5 HR5 HRW
  go_wp2_with fail
  go_region_held3 (fun w' => w'.cell? ⟨w.heap.size, 0, none⟩ = some (.int .i64 e) ∧ w'.cell? ⟨w.heap.size, 1, none⟩ = some (.int .i64 a) ∧ w'.cell? ⟨w.heap.size, 2, none⟩ = some (.slice A n c)) (first | exact ⟨c0d, c1d, c2d⟩ | exact ⟨d0, d1, d2⟩ | exact ⟨f0, f1, f2⟩ | exact ⟨g0, g1, g2⟩ | exact ⟨h0, h1, h2⟩ | exact ⟨i0, i1, i2⟩) (first
    | (go_at_call 16; with_reducible refine (HCO.out _ (by assumption)).mono ?_; rintro ev wa ⟨rfl, hba, d0, d1, d2⟩)
    | (go_at_call 18; with_reducible refine (HWO.out _ (by assumption)).mono ?_; rintro ev wb ⟨A1, k1, rfl, hC1, hbb, f0, f1, f2⟩)
    | (go_at_call 19; with_reducible refine (HRO.out _ (by assumption)).mono ?_; rintro ev wc ⟨A2, k2, rfl, hC2, hbc, hbcc, g0, g1, g2⟩)
    | (go_at_call 17; with_reducible refine (HSO.out _ _ _ _ _ (by assumption) hC1.out.1 (Kd.C_below hC1.out.2 hbcc.out) hC2.out.1 hC2.out.2).mono ?_; rintro ev wd ⟨rfl, hbD, h0, h1, h2⟩)
    | (go_at_call 13; with_reducible refine (HAW.out _ (by assumption)).mono ?_; rintro ev we ⟨rfl, hbE, i0, i1, i2⟩))
  go_wp2
  go_ret
  exact ⟨rfl, HB5.out.trans (hbE.mono HB5.out.size)⟩

set_option maxHeartbeats 80000000 in
theorem tells_zero (w : World) (a : Int) (A : Option Addr) (n c : Nat) (xss : List (List ByteArray)) (hr : (Kd.slice 9 Kd.string).C w A n xss) (hc : n ≤ c) (hgr : sashref03_Great.f 100 [⟨0, a, xss⟩] = some false) (h10 : n ≤ 10) (hx : ∀ x ∈ xss, x.length ≤ 10) (hE : As.ErrT w) :
    Calls Tryd.prog 3 #[.agg #[.int .i64 0, .int .i64 a, .slice A n c]] w fun ev w' => ev = .returned (.bool true) ∧ Below w.heap.size w w' := by
  have hlen := Kd.C_len hr
  subst hlen
  have hfl := flat10 xss hx
  have hRW := ref_words0 a xss h10
  obtain ⟨W1, hW1⟩ : ∃ W1, W1 = w.alloc (.cells #[.int .i64 0, .int .i64 a, .slice A xss.length c] 24) := ⟨_, rfl⟩
  obtain ⟨W2, hW2⟩ : ∃ W2, W2 = W1.alloc (.cells #[.int .i64 0, .int .i64 a, .slice A xss.length c] 24) := ⟨_, rfl⟩
  have hb1 : Below w.heap.size w W1 := by rw [hW1]; exact below_alloc (Below.refl _ _) _
  have hb2 : Below w.heap.size w W2 := by rw [hW2]; exact below_alloc hb1 _
  have hs1 : W1.heap.size = w.heap.size + 1 := by rw [hW1]; simp
  have hbl1 : W1.heap[w.heap.size]? = some (.cells #[.int .i64 0, .int .i64 a, .slice A xss.length c] 24 (0, 0)) := by rw [hW1]; exact heap_alloc_new w _
  have hbl2 : W2.heap[w.heap.size]? = some (.cells #[.int .i64 0, .int .i64 a, .slice A xss.length c] 24 (0, 0)) := by rw [hW2]; exact blk_alloc hbl1 _
  have hGt := sashref03_Great.calls 100 (some ⟨W1.heap.size, 0, none⟩) 1 [⟨0, a, xss⟩] false W2 (one_F ⟨0, a, xss⟩ (by rw [hW2]; exact heap_alloc_new W1 _) hc (Kd.C_below hr hb2)) (Nat.le_refl _) hgr
  rw [hs1] at hGt
  have HR2 : Aside0 ((Kd.slice 9 Kd.string).C W2 A xss.length xss) := ⟨Kd.C_below hr hb2⟩
  have HBL2 := Aside0.mk hbl2
  have HB2 := Aside0.mk hb2
  have HG := Aside0.mk hE
  have HW := Aside0.mk (And.intro hW1 hW2)
  have HGt : Aside0 (Calls Tryd.prog 12 #[.slice (some ⟨w.heap.size + 1, 0, none⟩) 1 1] W2 fun e w' => e = .returned (.bool false) ∧ Drawn0 W2 w') := ⟨hGt⟩
  have HX := Aside0.mk hx
  have HRW := Aside0.mk hRW
  have HFL := Aside0.mk hfl
  clear hGt hbl1 hbl2 hb1 hb2 hW1 hW2 hs1 hr hgr hE hx hRW hfl
  obtain ⟨n, hn⟩ : ∃ n, n = xss.length := ⟨_, rfl⟩
  rw [← hn] at HR2 HBL2 HW hc h10 ⊢
  have HN := Aside0.mk hn
  clear hn
  go_enter Tryd.func3, Tryd.ntmps3
  go_wp2_with fail
  rw [← HW.out.1, ← HW.out.2]
  with_reducible refine HGt.out.mono ?_
  rintro ev w3 ⟨rfl, hd⟩
  have hbl3 := (hd.below.block _ (blk_lt HBL2.out)).trans HBL2.out
  have c0 : w3.cell? ⟨w.heap.size, 0, none⟩ = some (.int .i64 0) := (blk_cell hbl3 0).trans rfl
  have c1 : w3.cell? ⟨w.heap.size, 1, none⟩ = some (.int .i64 a) := (blk_cell hbl3 1).trans rfl
  have c2 : w3.cell? ⟨w.heap.size, 2, none⟩ = some (.slice A n c) := (blk_cell hbl3 2).trans rfl
  have HM := Aside0.mk (made_zero w3 a A n c xss (Kd.C_below HR2.out hd.below) h10)
  have HB3 := Aside0.mk (HB2.out.trans (hd.below.mono HB2.out.size))
  have HBL3 := Aside0.mk hbl3
  have HR3 : Aside0 ((Kd.slice 9 Kd.string).C w3 A n xss) := ⟨Kd.C_below HR2.out hd.below⟩
  clear hbl3 hd HGt HB2 HBL2 HR2 HW
  go_wp2_with fail
  with_reducible refine HM.out.mono ?_
  rintro ev w4 ⟨rfl, hb⟩
  have HB4 := Aside0.mk (HB3.out.trans (hb.mono HB3.out.size))
  have HBL4 := Aside0.mk ((hb.block _ (blk_lt HBL3.out)).trans HBL3.out)
  have HR4 : Aside0 ((Kd.slice 9 Kd.string).C w4 A n xss) := ⟨Kd.C_below HR3.out hb⟩
  have HAT : Aside0 (Calls Tryd.prog 15 #[.nilIface] w4 fun e w' => e = .returned (.tuple #[.int .i64 0, .bool false]) ∧ Below w4.heap.size w4 w') := ⟨As.at_nil w4⟩
  clear hb HM HB3 HBL3 HR3 c0 c1 c2
  go_wp2_with fail
  with_reducible refine HAT.out.mono ?_
  rintro ev w5 ⟨rfl, hb⟩
  have HB5 := Aside0.mk (HB4.out.trans (hb.mono HB4.out.size))
  have HBL5 := Aside0.mk ((hb.block _ (blk_lt HBL4.out)).trans HBL4.out)
  have HR5 : Aside0 ((Kd.slice 9 Kd.string).C w5 A n xss) := ⟨Kd.C_below HR4.out hb⟩
  have c0 : w5.cell? ⟨w.heap.size, 0, none⟩ = some (.int .i64 0) := (blk_cell HBL5.out 0).trans rfl
  have c1 : w5.cell? ⟨w.heap.size, 1, none⟩ = some (.int .i64 a) := (blk_cell HBL5.out 1).trans rfl
  have c2 : w5.cell? ⟨w.heap.size, 2, none⟩ = some (.slice A n c) := (blk_cell HBL5.out 2).trans rfl
  clear hb HAT HB4 HBL4 HR4
  have cells : ∀ w', Below w5.heap.size w5 w' → w'.cell? ⟨w.heap.size, 0, none⟩ = some (.int .i64 0) ∧ w'.cell? ⟨w.heap.size, 1, none⟩ = some (.int .i64 a) ∧ w'.cell? ⟨w.heap.size, 2, none⟩ = some (.slice A n c) := fun w' hb => by
    have h := (hb.block _ (blk_lt HBL5.out)).trans HBL5.out
    exact ⟨(blk_cell h 0).trans rfl, (blk_cell h 1).trans rfl, (blk_cell h 2).trans rfl⟩
  have HCO : Aside0 (∀ w', Below w5.heap.size w5 w' → Calls Tryd.prog 16 #[.nilIface] w' fun ev w'' => ev = .returned (.int .i64 0) ∧ Below w5.heap.size w5 w'' ∧ w''.cell? ⟨w.heap.size, 0, none⟩ = some (.int .i64 0) ∧ w''.cell? ⟨w.heap.size, 1, none⟩ = some (.int .i64 a) ∧ w''.cell? ⟨w.heap.size, 2, none⟩ = some (.slice A n c)) :=
    ⟨fun w' hb => (As.code_nil w').mono fun ev w'' ⟨h1, h2⟩ => ⟨h1, hb.trans (h2.mono hb.size), cells _ (hb.trans (h2.mono hb.size))⟩⟩
  have HWO : Aside0 (∀ w', Below w5.heap.size w5 w' → Calls Tryd.prog 18 #[.nilIface] w' fun ev w'' => ev = .returned (.slice none 0 0) ∧ Below w5.heap.size w5 w'' ∧ w''.cell? ⟨w.heap.size, 0, none⟩ = some (.int .i64 0) ∧ w''.cell? ⟨w.heap.size, 1, none⟩ = some (.int .i64 a) ∧ w''.cell? ⟨w.heap.size, 2, none⟩ = some (.slice A n c)) :=
    ⟨fun w' hb => (words_nil w').mono fun ev w'' ⟨h1, h2⟩ => by subst h2; exact ⟨h1, hb, cells _ hb⟩⟩
  have HRO : Aside0 (∀ w', Below w5.heap.size w5 w' → Calls Tryd.prog 19 #[.agg #[.int .i64 0, .int .i64 a, .slice A n c]] w' fun ev w'' => ∃ A2 c2, ev = .returned (.slice A2 0 c2) ∧ Aside0 (Kd.string.C w'' A2 0 []) ∧ Below w5.heap.size w5 w'' ∧ w''.cell? ⟨w.heap.size, 0, none⟩ = some (.int .i64 0) ∧ w''.cell? ⟨w.heap.size, 1, none⟩ = some (.int .i64 a) ∧ w''.cell? ⟨w.heap.size, 2, none⟩ = some (.slice A n c)) :=
    ⟨fun w' hb => by
      have h0 := sashref03_Words.calls 100 0 a A c xss [] w' (by rw [← HN.out]; exact Kd.C_below HR5.out hb) (by rw [← HN.out]; exact hc) HRW.out
      rw [← HN.out] at h0
      refine h0.mono fun ev w'' ⟨v, h1, h2, h3⟩ => ?_
      obtain ⟨A1, n1, c1, rfl⟩ := sl_of_R h2
      obtain ⟨m1, m2, m3⟩ := Kd.R_reads' h2
      have m0 : n1 = 0 := m1
      subst m0
      exact ⟨A1, c1, h1, ⟨m3⟩, hb.trans (h3.mono hb.size), cells _ (hb.trans (h3.mono hb.size))⟩⟩
  have HSO : Aside0 (∀ w' A2 k2, Below w5.heap.size w5 w' → Kd.string.C w' A2 0 [] → Calls Tryd.prog 17 #[.slice none 0 0, .slice A2 0 k2] w' fun ev w'' => ev = .returned (.bool true) ∧ Below w5.heap.size w5 w'' ∧ w''.cell? ⟨w.heap.size, 0, none⟩ = some (.int .i64 0) ∧ w''.cell? ⟨w.heap.size, 1, none⟩ = some (.int .i64 a) ∧ w''.cell? ⟨w.heap.size, 2, none⟩ = some (.slice A n c)) :=
    ⟨fun w' A2 k2 hb h4 => Calls.mono (sashref03_Same.calls 200 none 0 [] A2 k2 [] true w' (Kd.C_nil _ _) (Nat.le_refl _) h4 (Nat.zero_le _) (same3_self [] (by decide) 200 (by decide))) fun ev w'' ⟨q1, q2⟩ => ⟨q1, hb.trans (q2.below.mono hb.size), cells _ (hb.trans (q2.below.mono hb.size))⟩⟩
  have HAW : Aside0 (∀ w', Below w5.heap.size w5 w' → Calls Tryd.prog 13 #[] w' fun ev w'' => ev = .returned (.bool true) ∧ Below w5.heap.size w5 w'' ∧ w''.cell? ⟨w.heap.size, 0, none⟩ = some (.int .i64 0) ∧ w''.cell? ⟨w.heap.size, 1, none⟩ = some (.int .i64 a) ∧ w''.cell? ⟨w.heap.size, 2, none⟩ = some (.slice A n c)) :=
    ⟨fun w' hb => (awake3_calls w' ((HG.out.below HB5.out).below hb)).mono fun ev w'' ⟨q1, q2⟩ => ⟨q1, hb.trans (q2.mono hb.size), cells _ (hb.trans (q2.mono hb.size))⟩⟩
  have hbd : Below w5.heap.size w5 w5.drew := below_drew (Below.refl _ _)
  have c0d : w5.drew.cell? ⟨w.heap.size, 0, none⟩ = some (.int .i64 0) := c0
  have c1d : w5.drew.cell? ⟨w.heap.size, 1, none⟩ = some (.int .i64 a) := c1
  have c2d : w5.drew.cell? ⟨w.heap.size, 2, none⟩ = some (.slice A n c) := c2
  clear cells HBL5 HR5 HRW
  go_wp2_with fail
  go_region_held3 (fun w' => w'.cell? ⟨w.heap.size, 0, none⟩ = some (.int .i64 0) ∧ w'.cell? ⟨w.heap.size, 1, none⟩ = some (.int .i64 a) ∧ w'.cell? ⟨w.heap.size, 2, none⟩ = some (.slice A n c)) (first | exact ⟨c0d, c1d, c2d⟩ | exact ⟨d0, d1, d2⟩ | exact ⟨f0, f1, f2⟩ | exact ⟨g0, g1, g2⟩ | exact ⟨h0, h1, h2⟩ | exact ⟨i0, i1, i2⟩) (first
    | (go_at_call 16; with_reducible refine (HCO.out _ (by assumption)).mono ?_; rintro ev wa ⟨rfl, hba, d0, d1, d2⟩)
    | (go_at_call 18; with_reducible refine (HWO.out _ (by assumption)).mono ?_; rintro ev wb ⟨rfl, hbb, f0, f1, f2⟩)
    | (go_at_call 19; with_reducible refine (HRO.out _ (by assumption)).mono ?_; rintro ev wc ⟨A2, k2, rfl, hC2, hbc, g0, g1, g2⟩)
    | (go_at_call 17; with_reducible refine (HSO.out _ _ _ (by assumption) hC2.out).mono ?_; rintro ev wd ⟨rfl, hbD, h0, h1, h2⟩)
    | (go_at_call 13; with_reducible refine (HAW.out _ (by assumption)).mono ?_; rintro ev we ⟨rfl, hbE, i0, i1, i2⟩))
  go_wp2
  go_ret
  exact ⟨rfl, HB5.out.trans (hbE.mono HB5.out.size)⟩

theorem tells_many (w : World) (e a : Int) (A : Option Addr) (n c : Nat) (xss : List (List ByteArray)) (hr : (Kd.slice 9 Kd.string).C w A n xss) (hc : n ≤ c) (hgr : sashref03_Great.f 100 [⟨e, a, xss⟩] = some true) (hE : As.ErrT w) :
    Calls Tryd.prog 3 #[.agg #[.int .i64 e, .int .i64 a, .slice A n c]] w fun ev w' => ev = .returned (.bool true) ∧ Below w.heap.size w w' := by
  have hlen := Kd.C_len hr
  subst hlen
  obtain ⟨W1, hW1⟩ : ∃ W1, W1 = w.alloc (.cells #[.int .i64 e, .int .i64 a, .slice A xss.length c] 24) := ⟨_, rfl⟩
  obtain ⟨W2, hW2⟩ : ∃ W2, W2 = W1.alloc (.cells #[.int .i64 e, .int .i64 a, .slice A xss.length c] 24) := ⟨_, rfl⟩
  have hb1 : Below w.heap.size w W1 := by rw [hW1]; exact below_alloc (Below.refl _ _) _
  have hb2 : Below w.heap.size w W2 := by rw [hW2]; exact below_alloc hb1 _
  have hs1 : W1.heap.size = w.heap.size + 1 := by rw [hW1]; simp
  have hGt := sashref03_Great.calls 100 (some ⟨W1.heap.size, 0, none⟩) 1 [⟨e, a, xss⟩] true W2 (one_F ⟨e, a, xss⟩ (by rw [hW2]; exact heap_alloc_new W1 _) hc (Kd.C_below hr hb2)) (Nat.le_refl _) hgr
  rw [hs1] at hGt
  have HG := Aside0.mk hE
  have HB2 := Aside0.mk hb2
  have HW := Aside0.mk (And.intro hW1 hW2)
  have HGt : Aside0 (Calls Tryd.prog 12 #[.slice (some ⟨w.heap.size + 1, 0, none⟩) 1 1] W2 fun e w' => e = .returned (.bool true) ∧ Drawn0 W2 w') := ⟨hGt⟩
  clear hGt hb1 hb2 hW1 hW2 hs1 hr hgr hE
  generalize xss.length = n at *
  go_enter Tryd.func3, Tryd.ntmps3
  go_wp2_with fail
  rw [← HW.out.1, ← HW.out.2]
  with_reducible refine HGt.out.mono ?_
  rintro ev w3 ⟨rfl, hd⟩
  have HB3 := Aside0.mk (HB2.out.trans (hd.below.mono HB2.out.size))
  have HAW := Aside0.mk (awake3_calls w3 (HG.out.below HB3.out))
  clear hd HGt HB2 HW
  go_wp2_with fail
  with_reducible refine HAW.out.mono ?_
  rintro ev w4 ⟨rfl, hb⟩
  replace HB3 := Aside0.mk (HB3.out.trans (hb.mono HB3.out.size))
  clear hb HAW
  go_wp2
  go_ret
  exact ⟨rfl, HB3.out⟩

theorem tells_calls (w : World) (e a : Int) (A : Option Addr) (n c : Nat) (xss : List (List ByteArray)) (hr : (Kd.slice 9 Kd.string).C w A n xss) (hc : n ≤ c) (hE : As.ErrT w) :
    Calls Tryd.prog 3 #[.agg #[.int .i64 e, .int .i64 a, .slice A n c]] w fun ev w' => ev = .returned (.bool true) ∧ Below w.heap.size w w' := by
  obtain ⟨r, hr1, hr2⟩ := great_one ⟨e, a, xss⟩
  cases r with
  | true => exact tells_many w e a A n c xss hr hc hr1 hE
  | false =>
    obtain ⟨h1, h2⟩ := hr2 rfl
    have h10 : n ≤ 10 := by rw [← Kd.C_len hr]; exact h1
    by_cases he : e = 0
    · subst he; exact tells_zero w a A n c xss hr hc hr1 h10 h2 hE
    · exact tells_some w e a A n c xss (beq_eq_false_iff_ne.2 he) hr hc hr1 h10 h2 hE
end Go.Proofs.YtelmmcjlhjahcaaDoor
