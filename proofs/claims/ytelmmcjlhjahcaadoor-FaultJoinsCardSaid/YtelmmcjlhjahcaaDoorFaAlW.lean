/-
  FaultAlone: the walk.
-/
import Derived.Test.YtelmmcjlhjahcaaDoorFaAl
namespace Go.Proofs.YtelmmcjlhjahcaaDoor
open Go.RowKit Go.Proofs.YtelmmcjlhjahcaaDoorW.PrintWords Go.Proofs.YtelmmcjlhjahcaaDoorW.PrintLast Go.Proofs.YtelmmcjlhjahcaaDoorW.PrintMore Go.Proofs.YtelmmcjlhjahcaaDoor.PFaultTells
set_option linter.unusedVariables false
set_option linter.unusedSimpArgs false
set_option maxRecDepth 100000

theorem one_F1 {w : World} {g : Nat} (f : S24) {A : Option Addr} {c : Nat} (h : w.heap[g]? = some (.cells #[.int .i64 f.f0, .int .i64 f.f1, .slice A f.f2.length c] 24 (0, 0))) (l2 : f.f2.length ≤ c) (g2 : (Kd.slice 9 Kd.string).C w A f.f2.length f.f2) : k24.C w (some ⟨g, 0, none⟩) 1 [f] := by
  refine ⟨rfl, by decide, fun _ => ⟨_, rfl, fun j p hj => ?_⟩⟩
  match j, hj with
  | 0, hj =>
    obtain rfl : f = p := by simpa using hj
    refine ⟨[.int .i64 f.f0, .int .i64 f.f1, .slice A f.f2.length c], rfl, k24_mk w f l2 g2, fun i u hu => ?_⟩
    rw [Nat.zero_mul, Nat.zero_add, add_plain, cell_of_row _ _ _ _ _ _ h]
    simpa using hu

theorem made_good (w : World) (e a : Int) (A : Option Addr) (n c : Nat) (xss : List (List ByteArray)) (hr : (Kd.slice 9 Kd.string).C w A n xss) (hc : n ≤ c) (hn : n ≤ 10) (hx : ∀ x ∈ xss, x.length ≤ 10) :
    Calls Tryd.prog 14 #[.agg #[.int .i64 e, .int .i64 a, .slice A n c]] w fun ev w' => ∃ ve o fl cv av ok, ev = .returned ve ∧ ve = encE o ∧ Good w' o fl cv av ok ∧ fl.length ≤ 100 ∧ Below w.heap.size w w' := by
  by_cases he : e = 0
  · subst he
    refine (made_zero w a A n c xss hr hn).mono ?_
    rintro ev w' ⟨rfl, hb⟩
    exact ⟨_, none, [], 0, 0, false, rfl, rfl, ⟨rfl, rfl, rfl, rfl⟩, by simp, hb⟩
  · refine (made_calls w e a A n c xss (beq_eq_false_iff_ne.2 he) hr hc (by omega) (fun x h => Nat.le_trans (hx x h) (by decide))).mono ?_
    rintro ev w' ⟨t, x, rfl, hv, hb⟩
    have hl := flat10 xss hx
    have := Kd.C_len hr
    exact ⟨_, some (t, x), _, e, a, true, rfl, rfl, ⟨_, rfl, hv, rfl⟩, by omega, hb⟩

set_option maxHeartbeats 80000000 in
theorem alone_some (w : World) (e a at_ : Int) (A : Option Addr) (n c : Nat) (xss : List (List ByteArray)) (hr : (Kd.slice 9 Kd.string).C w A n xss) (hc : n ≤ c) (hgr : sashref03_Great.f 100 [⟨e, a, xss⟩] = some false) (h10 : n ≤ 10) (hx : ∀ x ∈ xss, x.length ≤ 10) (hE : As.ErrT w) :
    Calls Tryd.prog 4 #[.agg #[.int .i64 e, .int .i64 a, .slice A n c], .int .i64 at_] w fun ev w' => ev = .returned (.bool true) ∧ Below w.heap.size w w' := by
  have hlen := Kd.C_len hr
  subst hlen
  obtain ⟨W1, hW1⟩ : ∃ W1, W1 = w.alloc (.cells #[.int .i64 e, .int .i64 a, .slice A xss.length c] 24) := ⟨_, rfl⟩
  obtain ⟨W2, hW2⟩ : ∃ W2, W2 = W1.alloc (.cells #[.int .i64 e, .int .i64 a, .slice A xss.length c] 24) := ⟨_, rfl⟩
  have hb1 : Below w.heap.size w W1 := by rw [hW1]; exact below_alloc (Below.refl _ _) _
  have hb2 : Below w.heap.size w W2 := by rw [hW2]; exact below_alloc hb1 _
  have hs1 : W1.heap.size = w.heap.size + 1 := by rw [hW1]; simp
  have hbl1 : W1.heap[w.heap.size]? = some (.cells #[.int .i64 e, .int .i64 a, .slice A xss.length c] 24 (0, 0)) := by rw [hW1]; exact heap_alloc_new w _
  have hbl2 : W2.heap[w.heap.size]? = some (.cells #[.int .i64 e, .int .i64 a, .slice A xss.length c] 24 (0, 0)) := by rw [hW2]; exact blk_alloc hbl1 _
  have hGt := sashref03_Great.calls 100 (some ⟨W1.heap.size, 0, none⟩) 1 [⟨e, a, xss⟩] false W2 (one_F1 ⟨e, a, xss⟩ (by rw [hW2]; exact heap_alloc_new W1 _) hc (Kd.C_below hr hb2)) (Nat.le_refl _) hgr
  rw [hs1] at hGt
  have HR2 : Aside0 ((Kd.slice 9 Kd.string).C W2 A xss.length xss) := ⟨Kd.C_below hr hb2⟩
  have HBL2 := Aside0.mk hbl2
  have HB2 := Aside0.mk hb2
  have HG := Aside0.mk hE
  have HW := Aside0.mk (And.intro hW1 hW2)
  have HGt : Aside0 (Calls Tryd.prog 12 #[.slice (some ⟨w.heap.size + 1, 0, none⟩) 1 1] W2 fun e w' => e = .returned (.bool false) ∧ Drawn0 W2 w') := ⟨hGt⟩
  have HX := Aside0.mk hx
  clear hGt hbl1 hbl2 hb1 hb2 hW1 hW2 hs1 hr hgr hE hx
  obtain ⟨n, hn⟩ : ∃ n, n = xss.length := ⟨_, rfl⟩
  rw [← hn] at HR2 HBL2 HW hc h10 ⊢
  clear hn
  go_enter Tryd.func4, Tryd.ntmps4
  go_wp2_with fail
  rw [← HW.out.1, ← HW.out.2]
  with_reducible refine HGt.out.mono ?_
  rintro ev w3 ⟨rfl, hd⟩
  have HM := Aside0.mk (made_good w3 e a A n c xss (Kd.C_below HR2.out hd.below) hc h10 HX.out)
  have HB3 := Aside0.mk (HB2.out.trans (hd.below.mono HB2.out.size))
  have hbl3 := (hd.below.block _ (blk_lt HBL2.out)).trans HBL2.out
  have c0 : w3.cell? ⟨w.heap.size, 0, none⟩ = some (.int .i64 e) := (blk_cell hbl3 0).trans rfl
  have c1 : w3.cell? ⟨w.heap.size, 1, none⟩ = some (.int .i64 a) := (blk_cell hbl3 1).trans rfl
  have c2 : w3.cell? ⟨w.heap.size, 2, none⟩ = some (.slice A n c) := (blk_cell hbl3 2).trans rfl
  clear hd HGt HB2 HR2 HW HBL2 hbl3
  go_wp2_with fail
  with_reducible refine HM.out.mono ?_
  rintro ev w4 ⟨ve, o, fl, cv, av, ok, rfl, hve, hv, hfl, hb⟩
  have HV4 := Aside0.mk hv
  have HB4 := Aside0.mk (HB3.out.trans (hb.mono HB3.out.size))
  have HI := Aside0.mk (in_none w4 o)
  clear hv hb HM HB3 c0 c1 c2
  rw [← hve] at HI
  have hb4 : Below w.heap.size w w4 := HB4.out
  have HJ : Aside0 (∀ W4, W4 = w4.alloc (.cells #[.nilIface, ve, .nilIface] 29) → Calls Tryd.prog 21 #[.slice (some ⟨w4.heap.size, 0, none⟩) 3 3] W4 fun e w' => e = .returned ve ∧ Below w4.heap.size w4 w') :=
    ⟨fun W4 hW => by rw [hve]; exact (join_one W4 o w4.heap.size (by rw [hW, hve]; exact heap_alloc_new w4 _)).mono fun _ _ ⟨q1, q2⟩ => ⟨q1, by
      have hb5 : Below w4.heap.size w4 W4 := by rw [hW]; exact below_alloc (Below.refl _ _) _
      exact hb5.trans (q2.mono hb5.size)⟩⟩
  have HAT : Aside0 (∀ w', Below w4.heap.size w4 w' → Calls Tryd.prog 15 #[ve] w' fun e w'' => e = .returned (.tuple #[.int .i64 av, .bool ok]) ∧ Below w4.heap.size w4 w'') :=
    ⟨fun w' h => by rw [hve]; exact ((HV4.out.below h).at_ ((HG.out.below hb4).below h)).mono fun _ _ ⟨q1, q2⟩ => ⟨q1, h.trans (q2.mono h.size)⟩⟩
  have HCO : Aside0 (∀ w', Below w4.heap.size w4 w' → Calls Tryd.prog 16 #[ve] w' fun e w'' => e = .returned (.int .i64 cv) ∧ Below w4.heap.size w4 w'') :=
    ⟨fun w' h => by rw [hve]; exact ((HV4.out.below h).code ((HG.out.below hb4).below h)).mono fun _ _ ⟨q1, q2⟩ => ⟨q1, h.trans (q2.mono h.size)⟩⟩
  have HWO : Aside0 (∀ w', Below w4.heap.size w4 w' → Calls Tryd.prog 18 #[ve] w' fun e w'' => ∃ A1 c1, e = .returned (.slice A1 fl.length c1) ∧ Aside0 (fl.length ≤ c1 ∧ Kd.string.C w'' A1 fl.length fl) ∧ Aside0 (Below w'.heap.size w' w'') ∧ Below w4.heap.size w4 w'') :=
    ⟨fun w' h => by rw [hve]; exact ((HV4.out.below h).words (by omega)).mono fun _ _ ⟨A1, c1, q1, q2, q3⟩ => ⟨A1, c1, q1, q2, ⟨q3⟩, h.trans (q3.mono h.size)⟩⟩
  have HNE : Aside0 (∀ w', Below w4.heap.size w4 w' → Calls Tryd.prog 22 #[.int .i64 0, .int .i64 at_] w' fun e w'' => e = .returned .nilIface ∧ Below w4.heap.size w4 w'') :=
    ⟨fun w' h => (new_ok at_ w').mono fun _ _ ⟨q1, q2⟩ => ⟨q1, q2 ▸ h⟩⟩
  have HSO : Aside0 (∀ w' A1 k1 A2 k2, Below w4.heap.size w4 w' → fl.length ≤ k1 → Kd.string.C w' A1 fl.length fl → fl.length ≤ k2 → Kd.string.C w' A2 fl.length fl → Calls Tryd.prog 17 #[.slice A1 fl.length k1, .slice A2 fl.length k2] w' fun ev w'' => ev = .returned (.bool true) ∧ Below w4.heap.size w4 w'') :=
    ⟨fun w' A1 k1 A2 k2 hb h1 h2 h3 h4 => (sashref03_Same.calls 200 A1 k1 fl A2 k2 fl true w' h2 h1 h4 h3 (same3_self fl (by omega) 200 (by omega))).mono fun ev w'' ⟨q1, q2⟩ => ⟨q1, hb.trans (q2.below.mono hb.size)⟩⟩
  have HAW : Aside0 (∀ w', Below w4.heap.size w4 w' → Calls Tryd.prog 13 #[] w' fun ev w'' => ev = .returned (.bool true) ∧ Below w4.heap.size w4 w'') :=
    ⟨fun w' hb => (awake3_calls w' ((HG.out.below hb4).below hb)).mono fun ev w'' ⟨q1, q2⟩ => ⟨q1, hb.trans (q2.mono hb.size)⟩⟩
  have hve2 : ve = .nilIface ∨ ∃ t x, ve = .iface t x := by
    rw [hve]
    cases o with
    | none => exact .inl rfl
    | some p => exact .inr ⟨_, _, rfl⟩
  clear hve HV4 hb4 hfl
  generalize fl.length = m at *
  rcases hve2 with rfl | ⟨t, x, rfl⟩
  all_goals
    go_wp2_with fail
    with_reducible refine HI.out.mono ?_
    rintro ev w5 ⟨rfl, hw5⟩
    rw [hw5]
    clear hw5 HI
    go_wp2_with fail
    with_reducible refine (HJ.out _ rfl).mono ?_
    rintro ev w6 ⟨rfl, hb6⟩
    go_wp2_with fail
    with_reducible refine (HAT.out _ hb6).mono ?_
    rintro ev w7 ⟨rfl, hb7⟩
    clear hb6
    go_wp2_with fail
    with_reducible refine (HAT.out _ hb7).mono ?_
    rintro ev w8 ⟨rfl, hb8⟩
    clear hb7
    go_wp2_with fail
    with_reducible refine (HAT.out _ hb8).mono ?_
    rintro ev w9 ⟨rfl, hb9⟩
    clear hb8
    have tav : (av != av) = false := by simp
    have tok : (ok != ok) = false := by simp
    have tcv : (cv == cv) = true := by simp
    have hbd := below_drew hb9
    go_wp2_with (first
      | (go_at_call 22; with_reducible refine (HNE.out _ (by assumption)).mono ?_; rintro ev wn ⟨rfl, hbn⟩)
      | (go_at_call 16; with_reducible refine (HCO.out _ (by assumption)).mono ?_; rintro ev wa ⟨rfl, hba⟩)
      | (go_at_call 18; have _ := hC1; with_reducible refine (HWO.out _ (by assumption)).mono ?_; rintro ev wc ⟨A2, k2, rfl, hC2, hbcc, hbc⟩)
      | (go_at_call 18; with_reducible refine (HWO.out _ (by assumption)).mono ?_; rintro ev wb ⟨A1, k1, rfl, hC1, hbbb, hbb⟩)
      | (go_at_call 17; with_reducible refine (HSO.out _ _ _ _ _ (by assumption) hC1.out.1 (Kd.C_below hC1.out.2 hbcc.out) hC2.out.1 hC2.out.2).mono ?_; rintro ev wd ⟨rfl, hbD⟩; clear hC1 hC2)
      | (go_at_call 13; with_reducible refine (HAW.out _ (by assumption)).mono ?_; rintro ev we ⟨rfl, hbE⟩))
    go_ret
    exact ⟨rfl, HB4.out.trans (hbE.mono HB4.out.size)⟩

theorem alone_many (w : World) (e a at_ : Int) (A : Option Addr) (n c : Nat) (xss : List (List ByteArray)) (hr : (Kd.slice 9 Kd.string).C w A n xss) (hc : n ≤ c) (hgr : sashref03_Great.f 100 [⟨e, a, xss⟩] = some true) (hE : As.ErrT w) :
    Calls Tryd.prog 4 #[.agg #[.int .i64 e, .int .i64 a, .slice A n c], .int .i64 at_] w fun ev w' => ev = .returned (.bool true) ∧ Below w.heap.size w w' := by
  have hlen := Kd.C_len hr
  subst hlen
  obtain ⟨W1, hW1⟩ : ∃ W1, W1 = w.alloc (.cells #[.int .i64 e, .int .i64 a, .slice A xss.length c] 24) := ⟨_, rfl⟩
  obtain ⟨W2, hW2⟩ : ∃ W2, W2 = W1.alloc (.cells #[.int .i64 e, .int .i64 a, .slice A xss.length c] 24) := ⟨_, rfl⟩
  have hb1 : Below w.heap.size w W1 := by rw [hW1]; exact below_alloc (Below.refl _ _) _
  have hb2 : Below w.heap.size w W2 := by rw [hW2]; exact below_alloc hb1 _
  have hs1 : W1.heap.size = w.heap.size + 1 := by rw [hW1]; simp
  have hGt := sashref03_Great.calls 100 (some ⟨W1.heap.size, 0, none⟩) 1 [⟨e, a, xss⟩] true W2 (one_F1 ⟨e, a, xss⟩ (by rw [hW2]; exact heap_alloc_new W1 _) hc (Kd.C_below hr hb2)) (Nat.le_refl _) hgr
  rw [hs1] at hGt
  have HG := Aside0.mk hE
  have HB2 := Aside0.mk hb2
  have HW := Aside0.mk (And.intro hW1 hW2)
  have HGt : Aside0 (Calls Tryd.prog 12 #[.slice (some ⟨w.heap.size + 1, 0, none⟩) 1 1] W2 fun e w' => e = .returned (.bool true) ∧ Drawn0 W2 w') := ⟨hGt⟩
  clear hGt hb1 hb2 hW1 hW2 hs1 hr hgr hE
  generalize xss.length = n at *
  go_enter Tryd.func4, Tryd.ntmps4
  go_wp2_with fail
  rw [← HW.out.1, ← HW.out.2]
  with_reducible refine HGt.out.mono ?_
  rintro ev w3 ⟨rfl, hd⟩
  have HB3 := Aside0.mk (HB2.out.trans (hd.below.mono HB2.out.size))
  have HAW := Aside0.mk (awake3_calls w3 (HG.out.below HB3.out))
  clear hd HGt HB2 HW
  go_wp2_with fail
  with_reducible refine HAW.out.mono ?_
  rintro ev w4 ⟨rfl, hb⟩
  replace HB3 := Aside0.mk (HB3.out.trans (hb.mono HB3.out.size))
  clear hb HAW
  go_wp2
  go_ret
  exact ⟨rfl, HB3.out⟩

theorem alone_calls (w : World) (e a at_ : Int) (A : Option Addr) (n c : Nat) (xss : List (List ByteArray)) (hr : (Kd.slice 9 Kd.string).C w A n xss) (hc : n ≤ c) (hE : As.ErrT w) :
    Calls Tryd.prog 4 #[.agg #[.int .i64 e, .int .i64 a, .slice A n c], .int .i64 at_] w fun ev w' => ev = .returned (.bool true) ∧ Below w.heap.size w w' := by
  obtain ⟨r, hr1, hr2⟩ := great_one ⟨e, a, xss⟩
  cases r with
  | true => exact alone_many w e a at_ A n c xss hr hc hr1 hE
  | false =>
    obtain ⟨h1, h2⟩ := hr2 rfl
    have h10 : n ≤ 10 := by rw [← Kd.C_len hr]; exact h1
    exact alone_some w e a at_ A n c xss hr hc hr1 h10 h2 hE
end Go.Proofs.YtelmmcjlhjahcaaDoor
