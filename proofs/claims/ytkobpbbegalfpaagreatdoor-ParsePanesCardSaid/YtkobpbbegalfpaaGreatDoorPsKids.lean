/-
 The reader takes kids: the walk, over the cells' contract.
-/
import Derived.Test.YtkobpbbegalfpaaGreatDoorPsCellK
namespace Go.Proofs.YtkobpbbegalfpaaGreatDoor
open Go.RowKit Go.Proofs.YtkobpbbegalfpaaGreatDoorW.PrintWords Go.Proofs.YtkobpbbegalfpaaGreatDoorW.PrintLast Go.Proofs.YtkobpbbegalfpaaGreatDoorW.PrintMore Go.Proofs.YtkobpbbegalfpaaGreatDoor.PParseBodies
set_option linter.unusedVariables false
set_option linter.unusedSimpArgs false
set_option maxRecDepth 100000

set_option maxHeartbeats 4000000 in
theorem kids_deep (w : World) (b : Nat) (s : ByteArray) (i : Nat) (off c : Int) (deep : Nat) (hs : s.size ≤ 100000) (ho : 0 ≤ off ∧ off ≤ 1000) (hi : i ≤ s.size) (hd : 1000 ≤ deep) (hd2 : deep ≤ 100000) (k : RdA w b s i off) :
  Calls Tryz.prog 69 #[.pointer (some ⟨b, 0, none⟩), .int .u8 c, .int .i64 deep] w (KidsPost w b off (.error (3, i))) := by
 obtain ⟨c0, c1, c2⟩ := k.cells
 have hw : IntKind.i64.wrap (off + (i : Int)) = off + (i : Int) := by rw [i64_w]; unfold wrap64; omega
 have HF := Aside0.mk (fail_calls w b s i off 3 i (by decide) hw k)
 have HK := Aside0.mk k
 have d1 : ((deep : Int) ≥ 1000) = True := eq_true (by omega)
 have d2 : decide ((1000 : Int) ≤ (deep : Int)) = true := decide_eq_true (by omega)
 clear hw k hd
 go_enter Tryz.func69, Tryz.ntmps69
 go_wp2_with fail
 with_reducible refine HF.out.mono ?_
 rintro e w2 ⟨⟨g, rfl, hg, hg2⟩, hb2⟩
 exact ⟨rfl, ⟨g, rfl, hg, hg2⟩, _, Step.of_below HK.out hb2⟩
theorem infoC : (Tryz.prog.info? 27).map (fun i => (i.zero, i.size, i.bytes)) = some (some (.agg #[.int .u8 0, .int .i64 0, .int .i64 0, .int .i64 0, .int .i64 0, .int .i64 0, .slice none 0 0]), 7, 72) := by kernel_rfl
theorem R_one {W : World} {base : Nat} (hbase : base ≤ W.heap.size) (c : SC) {A : Option Addr} {cp : Nat} (h : Kd.R k27 27 W base (fun _ => True) (.slice A c.f3.length cp) c.f3) :
  Kd.R k27 27 (W.alloc (.cells #[.int .u8 c.f0, .int .i64 c.f1.f0, .int .i64 c.f1.f1, .int .i64 c.f1.f2, .int .i64 c.f1.f3, .int .i64 c.f2, .slice A c.f3.length cp] 27)) base (fun _ => True) (.slice (some ⟨W.heap.size, 0, none⟩) 1 1) [c] := by
 have hrep : Reps ((k27).M W base (fun _ => True)) (k27).sz [c] [.int .u8 c.f0, .int .i64 c.f1.f0, .int .i64 c.f1.f1, .int .i64 c.f1.f2, .int .i64 c.f1.f3, .int .i64 c.f2, .slice A c.f3.length cp] :=
  Reps.snoc (Reps.none _ _) (k27_mkM _ _ _ c h) rfl
 refine ⟨fun k hk => trivial, [.int .u8 c.f0, .int .i64 c.f1.f0, .int .i64 c.f1.f1, .int .i64 c.f1.f2, .int .i64 c.f1.f3, .int .i64 c.f2, .slice A c.f3.length cp], ?_, ?_⟩
 ·have h2 := World.ownsRow_lit (base := base) (e := 27) (size := (k27).sz) W #[.int .u8 c.f0, .int .i64 c.f1.f0, .int .i64 c.f1.f1, .int .i64 c.f1.f2, .int .i64 c.f1.f3, .int .i64 c.f2, .slice A c.f3.length cp] 1 hbase (by decide) rfl
  simpa using h2
 ·refine hrep.imp_ (fun p c hp => (k27).M_mono (fun k hk => ⟨trivial, fun he => ?_⟩) (Kd.M_below ((k27).M_bound hp) (below_alloc (Below.refl _ _) _)))
  have h3 : W.heap.size = k := by simpa [Value.ownBlock] using he.symm
  have := hk.2.2.1
  omega
/-- Whatever a cell read by so few steps comes to. -/
def CellsC (hd : ByteArray → Int × Int × Int) (I : World → Prop) (b : Nat) (s : ByteArray) (off : Int) (K : Nat) : Prop :=
 ∀ (m : Nat) (W : World) (j deep : Nat) (r : Except (Int × Nat) (SC × Nat)), m < K → cellP hd s m j deep = some r → j ≤ s.size → deep ≤ 1000 → I W → RdA W b s j off →
  Calls Tryz.prog 47 #[.pointer (some ⟨b, 0, none⟩), .int .i64 deep] W (CellPost W b off r) ∧ (∀ p, r = .ok p → j < p.2 ∧ p.2 ≤ s.size)
set_option maxHeartbeats 16000000 in
theorem kids_walk (hd : ByteArray → Int × Int × Int) (I : World → Prop) (K : Nat) (w : World) (b : Nat) (s : ByteArray) (i : Nat) (off c : Int) (deep : Nat) (hs : s.size ≤ 100000) (ho : 0 ≤ off ∧ off ≤ 1000) (hi : i < s.size) (hc0 : ¬ c = 0) (hdp : deep < 1000) (hc : HeadC hd b I) (hI : I w) (HC : CellsC hd I b s off K) (k : RdA w b s i off)
  (R : Except (Int × Nat) (List SC × Nat)) (hR : kidsP hd s K c deep i = some R) :
  Calls Tryz.prog 69 #[.pointer (some ⟨b, 0, none⟩), .int .u8 c, .int .i64 deep] w (KidsPost w b off R) := by
 obtain ⟨c0, c1, c2⟩ := k.cells
 obtain ⟨f0, f1, f2⟩ := k.fro
 cases K with
 | zero => rw [kidsP] at hR; cases hR
 | succ K =>
  rw [kidsP, if_neg (by omega)] at hR
  have d1 : ((deep : Int) ≥ 1000) = False := eq_false (by omega)
  have d2 : decide ((1000 : Int) ≤ (deep : Int)) = false := decide_eq_false (by omega)
  have HDW : Aside0 (wrap64 ((deep : Int) + 1) = ((deep + 1 : Nat) : Int)) := ⟨by unfold wrap64; omega⟩
  have HIW : Aside0 (wrap64 ((i : Int) + 1) = ((i + 1 : Nat) : Int)) := ⟨by unfold wrap64; omega⟩
  obtain ⟨W0, hW0⟩ : ∃ W0, W0 = w.setCell ⟨b, 1, none⟩ (.int .i64 ((i + 1 : Nat) : Int)) := ⟨_, rfl⟩
  have HS0 : Aside0 (Step w b ((i + 1 : Nat) : Int) W0) := ⟨by rw [hW0]; exact Below.refl _ _⟩
  have HI0 : Aside0 (I W0) := ⟨hc.step hI HS0.out⟩
  have HR0 : Aside0 (RdA W0 b s ((i + 1 : Nat) : Int) off) := ⟨HS0.out.rd k⟩
  have HK := Aside0.mk k
  have HCC := Aside0.mk HC
  have HIW0 := Aside0.mk hI
  cases hcl : cellP hd s K (i + 1) (deep + 1) with
  | none => rw [hcl] at hR; cases hR
  | some rc =>
   rw [hcl] at hR
   have HC1 := Aside0.mk (HC K W0 (i + 1) (deep + 1) rc (by omega) hcl (by omega) (by omega) HI0.out HR0.out)
   have HW := Aside0.mk hW0
   have e1 : (i : Int) + 1 = ((i + 1 : Nat) : Int) := by omega
   have e2 : (deep : Int) + 1 = ((deep + 1 : Nat) : Int) := by omega
   rw [← e1] at hW0
   have HW2 := Aside0.mk hW0
   have HRR := Aside0.mk hR
   have HE2 := Aside0.mk e2
   clear hW0 k HC hI e1 hR hcl e2
   go_enter Tryz.func69, Tryz.ntmps69
   go_wp2_with fail
   rw [HE2.out, ← HW2.out]
   with_reducible refine HC1.out.1.mono ?_
   rintro e w1 h1
   cases rc with
   | error q =>
    have hRR : R = .error q := (Option.some.inj HRR.out).symm
    obtain ⟨⟨g, rfl, hg, hg2⟩, jj, hst⟩ := h1
    rw [hRR]
    exact ⟨rfl, ⟨g, rfl, Nat.le_trans HS0.out.size hg, hg2⟩, jj, Step.trans HK.out HS0.out hst⟩
   | ok p =>
    have HLP : Aside0 (loopP hd s K c deep [p.1] p.2 = some R) := ⟨HRR.out⟩
    obtain ⟨v, rfl, hRv, hst⟩ := h1
    have HST := Aside0.mk (Step.trans HK.out HS0.out hst)
    have HI1 : Aside0 (I w1) := ⟨hc.step HI0.out hst⟩
    have HRV := Aside0.mk (Kd.R_lower hRv HS0.out.size)
    have HPL := Aside0.mk (HC1.out.2 p rfl)
    obtain ⟨A0, cp0, rfl⟩ := Kd.R_slice hRv
    obtain ⟨W', hW'⟩ : ∃ W', W' = w.setCell ⟨b, 1, none⟩ (.int .i64 (p.2 : Int)) := ⟨_, rfl⟩
    have HBW : Aside0 (Below w.heap.size W' w1) := ⟨by rw [hW']; exact HST.out⟩
    have HWW := Aside0.mk hW'
    clear hst hRv HRR HC1 HW HW2 HR0 HI0 hW'
    go_wp2
    obtain ⟨w2, hw2⟩ : ∃ w2, w2 = w1.alloc (.cells #[.int .u8 p.1.f0, .int .i64 p.1.f1.f0, .int .i64 p.1.f1.f1, .int .i64 p.1.f1.f2, .int .i64 p.1.f1.f3, .int .i64 p.1.f2, .slice A0 p.1.f3.length cp0] 27) := ⟨_, rfl⟩
    have hb2' : Step w b (p.2 : Int) w2 := by rw [hw2]; exact Below.alloc HST.out HST.out.size _
    have HO : Aside0 (Kd.R k27 27 w2 w.heap.size (fun _ => True) (.slice (some ⟨w1.heap.size, 0, none⟩) 1 1) [p.1]) := ⟨by rw [hw2]; exact R_one HST.out.size p.1 HRV.out⟩
    have HS2 := Aside0.mk hb2'
    have HI2 : Aside0 (I w2) := ⟨hc.step HIW0.out hb2'⟩
    rw [← hw2]
    clear hw2 hb2' c0 c1 c2 f0 f1 f2
    go_loopg [7] K (fun kq v wr => ∃ (j : Nat) (out : List SC) (A : Option Addr) (n cp : Nat), v = .slice A n cp ∧ Aside0 (loopP hd s kq c deep out j = some R ∧ kq ≤ K ∧ out.length ≤ j ∧ j ≤ s.size) ∧ Aside0 (Kd.R k27 27 wr w.heap.size (fun _ => True) v out) ∧ Aside0 (Step w b (j : Int) wr ∧ RdA wr b s j off ∧ I wr))
    case atStart => exact ⟨p.2, [p.1], _, _, _, rfl, ⟨HLP.out, Nat.le_refl _, by rw [List.length_singleton]; have := HPL.out; omega, HPL.out.2⟩, HO, ⟨HS2.out, HS2.out.rd HK.out, HI2.out⟩⟩
    case round =>
     obtain ⟨j, out, A, n, cp, rfl, HLQ, HRO, HSI⟩ := hrel
     cases gk with
     | zero => exact absurd HLQ.out.1 (by rw [loopP]; simp)
     | succ kq =>
      have hL := HLQ.out.1
      rw [loopP] at hL
      obtain rfl : n = out.length := (Kd.R_reads' HRO.out).1
      obtain ⟨c0, c1, c2⟩ := HSI.out.2.1.cells
      by_cases h2 : out.length < 2
      ·rw [if_pos (.inl h2)] at hL
       have g1 : ((out.length : Int) < 2) = True := eq_true (by omega)
       have g2 : decide ((out.length : Int) < 2) = true := decide_eq_true (by omega)
       obtain ⟨WC, hWC⟩ : ∃ WC, WC = wr := ⟨_, rfl⟩
       have HSC : Aside0 (Step w b (j : Int) WC ∧ RdA WC b s j off ∧ I WC ∧ Kd.R k27 27 WC w.heap.size (fun _ => True) (.slice A out.length cp) out) := ⟨by subst hWC; exact ⟨HSI.out.1, HSI.out.2.1, HSI.out.2.2, HRO.out⟩⟩
       subst hWC
       clear h2
       have HN := Aside0.mk (eat_calls WC b s j off 44 hs ho HLQ.out.2.2.2 (by decide) HSC.out.2.1)
       go_wp2_with fail
       with_reducible refine HN.out.mono ?_
       rintro e w4 h4
       clear HN
       cases heat : eatP s j 44 with
       | error q =>
        rw [heat] at h4 hL
        have hRR : R = .error q := (Option.some.inj hL).symm
        obtain ⟨⟨g, rfl, hg, hg2⟩, jj, hst⟩ := h4
        rw [hRR]
        exact ⟨rfl, ⟨g, rfl, Nat.le_trans HSC.out.1.size hg, hg2⟩, jj, Step.trans HK.out HSC.out.1 hst⟩
       | ok a =>
        rw [heat] at h4 hL
        simp only at hL
        obtain ⟨rfl, hst⟩ := h4
        obtain ⟨ha1, ha2, _⟩ := eatP_le (by decide) heat
        have HST4 := Aside0.mk (Step.trans HK.out HSC.out.1 hst)
        have HRD4 := Aside0.mk (hst.rd HSC.out.2.1)
        have HI4 : Aside0 (I w4) := ⟨hc.step HSC.out.2.2.1 hst⟩
        have HRO4 := Aside0.mk (R_stepS (w0 := w) HSC.out.2.2.2 HK.out.lt hst)
        clear hst heat
        cases hcl : cellP hd s kq a (deep + 1) with
        | none => rw [hcl] at hL; cases hL
        | some rc =>
         rw [hcl] at hL
         have HC1 := Aside0.mk (HCC.out kq w4 a (deep + 1) rc (by have := HLQ.out.2.1; omega) hcl (by omega) (by omega) HI4.out HRD4.out)
         have HLL := Aside0.mk hL
         clear hcl hL
         go_wp2_with fail
         rw [HE2.out]
         with_reducible refine HC1.out.1.mono ?_
         rintro e w5 h5
         cases rc with
         | error q =>
          have hRR : R = .error q := (Option.some.inj HLL.out).symm
          obtain ⟨⟨g, rfl, hg, hg2⟩, jj, hst⟩ := h5
          rw [hRR]
          exact ⟨rfl, ⟨g, rfl, Nat.le_trans HST4.out.size hg, hg2⟩, jj, Step.trans HK.out HST4.out hst⟩
         | ok p5 =>
          have HLP5 : Aside0 (loopP hd s kq c deep (out ++ [p5.1]) p5.2 = some R) := ⟨HLL.out⟩
          obtain ⟨ve, rfl, hRv, hst⟩ := h5
          have HST5 := Aside0.mk (Step.trans HK.out HST4.out hst)
          have HI5 : Aside0 (I w5) := ⟨hc.step HI4.out hst⟩
          have HRO5 := Aside0.mk (R_stepS (w0 := w) HRO4.out HK.out.lt hst)
          have HPL5 := Aside0.mk (HC1.out.2 p5 rfl)
          obtain ⟨A5, cp5, rfl⟩ := Kd.R_slice hRv
          have hFM : (k27).M w5 w.heap.size (fun k => True ∧ some k ≠ (Value.slice A out.length cp).ownBlock) p5.1 [.int .u8 p5.1.f0, .int .i64 p5.1.f1.f0, .int .i64 p5.1.f1.f1, .int .i64 p5.1.f1.f2, .int .i64 p5.1.f1.f3, .int .i64 p5.1.f2, .slice A5 p5.1.f3.length cp5] :=
           k27_mkM _ _ _ p5.1 (Kd.R_lower (Kd.R_new' hRv (Kd.R_lt HRO4.out)) HST4.out.size)
          have hln : (out.length + 1) * 72 ≤ 140737488355328 := by have := HLQ.out.2.2; omega
          obtain ⟨W6, hW6⟩ : ∃ W6, W6 = w.setCell ⟨b, 1, none⟩ (.int .i64 (p5.2 : Int)) := ⟨_, rfl⟩
          have HBW6 : Aside0 (Below w.heap.size W6 w5) := ⟨by rw [hW6]; exact HST5.out⟩
          have HWW6 := Aside0.mk hW6
          have hsz5 : w.heap.size ≤ w5.heap.size := HST5.out.size
          clear hst hRv HLL HC1 HRD4 hW6
          go_wp2_with (at_builtin; refine Kd.R_append k27 (w0 := W6) w.heap.size rfl (.tmp 39) (.tmp 44) 25 27 (.agg #[.int .u8 0, .int .i64 0, .int .i64 0, .int .i64 0, .int .i64 0, .int .i64 0, .slice none 0 0]) 72 rfl Tryz.underlying25 infoC rfl (by decide) (by decide) (.slice A out.length cp) out p5.1 [.int .u8 p5.1.f0, .int .i64 p5.1.f1.f0, .int .i64 p5.1.f1.f1, .int .i64 p5.1.f1.f2, .int .i64 p5.1.f1.f3, .int .i64 p5.1.f2, .slice A5 p5.1.f3.length cp5] (fun _ => True) (fun k => True ∧ some k ≠ (Value.slice A out.length cp).ownBlock) rfl rfl hFM (fun _ hk => hk) (fun _ _ => trivial) HRO5.out HBW6.out hsz5 hln ?_)
          intro v1 w6 hov hb6 _ _
          have hb6' : Step w b (p5.2 : Int) w6 := by rw [HWW6.out] at hb6; exact hb6
          obtain ⟨A6, n6, cp6, rfl⟩ := sl_of_R hov
          have HR6 := Aside0.mk hov
          have HS6 := Aside0.mk hb6'
          have HI6 : Aside0 (I w6) := ⟨hc.step HIW0.out hb6'⟩
          clear hov hb6 hb6' hFM
          go_wp2
          go_roundg kq
          case measure => omega
          case rel => exact ⟨p5.2, out ++ [p5.1], _, _, _, rfl, ⟨HLP5.out, by have := HLQ.out.2.1; omega, by rw [List.length_append, List.length_singleton]; have := HPL5.out; have := HLQ.out.2.2; omega, HPL5.out.2⟩, HR6, ⟨HS6.out, HS6.out.rd HK.out, HI6.out⟩⟩
      ·have g1 : ((out.length : Int) < 2) = False := eq_false (by omega)
       have g2 : decide ((out.length : Int) < 2) = false := decide_eq_false (by omega)
       have HAH := Aside0.mk (rahead_calls wr b s j off HLQ.out.2.2.2 HSI.out.2.1)
       by_cases ha : aheadI s j = c
       ·rw [if_neg (by rintro (h | h); exact h2 h; exact h ha)] at hL
        have hRR : R = .ok (out, j + 1) := (Option.some.inj hL).symm
        have HJL := Aside0.mk (aheadI_lt hc0 ha)
        have HRR := Aside0.mk hRR
        rw [ha] at HAH
        have n1 : (c == c) = true := beq_self_eq_true _
        have n2 : (c != c) = false := by rw [bne, n1]; rfl
        have hwj : wrap64 ((j : Int) + 1) = (j : Int) + 1 := by unfold wrap64; have := HJL.out; omega
        have HWJ := Aside0.mk hwj
        clear hL hRR ha h2 hwj
        go_wp2_with fail
        with_reducible refine HAH.out.mono ?_
        rintro e w4 ⟨rfl, hb4⟩
        have HST4 := Aside0.mk (Step.trans HK.out HSI.out.1 (Step.of_below HSI.out.2.1 hb4))
        have HRD4 := Aside0.mk (HSI.out.2.1.below hb4)
        have HRO4 := Aside0.mk (Kd.R_below HRO.out hb4)
        obtain ⟨d0, d1', d2'⟩ := HRD4.out.cells
        obtain ⟨e0, e1, e2⟩ := HRD4.out.fro
        have hwj := HWJ.out
        clear hb4 HAH
        go_wp2
        go_ret
        rw [HRR.out]
        exact ⟨_, rfl, R_setS HRO4.out (p := ⟨b, 1, none⟩) HK.out.lt _, Step.trans HK.out HST4.out (by show Below _ _ _; rw [show ((j + 1 : Nat) : Int) = (j : Int) + 1 by omega]; exact Below.refl _ _)⟩
       ·rw [if_pos (.inr ha)] at hL
        obtain ⟨x, hx⟩ : ∃ x, x = aheadI s j := ⟨_, rfl⟩
        rw [← hx] at HAH ha
        have n1 : (x == c) = false := beq_eq_false_iff_ne.2 ha
        have n2 : (x != c) = true := by rw [bne, n1]; rfl
        clear hx ha h2
        go_wp2_with fail
        with_reducible refine HAH.out.mono ?_
        rintro e WC ⟨rfl, hb4⟩
        have HSC : Aside0 (Step w b (j : Int) WC ∧ RdA WC b s j off ∧ I WC ∧ Kd.R k27 27 WC w.heap.size (fun _ => True) (.slice A out.length cp) out) := ⟨Step.trans HK.out HSI.out.1 (Step.of_below HSI.out.2.1 hb4), HSI.out.2.1.below hb4, hc.bel _ _ HSI.out.2.2 hb4, Kd.R_below HRO.out hb4⟩
        clear hb4 HAH
        have HN := Aside0.mk (eat_calls WC b s j off 44 hs ho HLQ.out.2.2.2 (by decide) HSC.out.2.1)
        go_wp2_with fail
        with_reducible refine HN.out.mono ?_
        rintro e w4 h4
        clear HN
        cases heat : eatP s j 44 with
        | error q =>
         rw [heat] at h4 hL
         have hRR : R = .error q := (Option.some.inj hL).symm
         obtain ⟨⟨g, rfl, hg, hg2⟩, jj, hst⟩ := h4
         rw [hRR]
         exact ⟨rfl, ⟨g, rfl, Nat.le_trans HSC.out.1.size hg, hg2⟩, jj, Step.trans HK.out HSC.out.1 hst⟩
        | ok a =>
         rw [heat] at h4 hL
         simp only at hL
         obtain ⟨rfl, hst⟩ := h4
         obtain ⟨ha1, ha2, _⟩ := eatP_le (by decide) heat
         have HST4 := Aside0.mk (Step.trans HK.out HSC.out.1 hst)
         have HRD4 := Aside0.mk (hst.rd HSC.out.2.1)
         have HI4 : Aside0 (I w4) := ⟨hc.step HSC.out.2.2.1 hst⟩
         have HRO4 := Aside0.mk (R_stepS (w0 := w) HSC.out.2.2.2 HK.out.lt hst)
         clear hst heat
         cases hcl : cellP hd s kq a (deep + 1) with
         | none => rw [hcl] at hL; cases hL
         | some rc =>
          rw [hcl] at hL
          have HC1 := Aside0.mk (HCC.out kq w4 a (deep + 1) rc (by have := HLQ.out.2.1; omega) hcl (by omega) (by omega) HI4.out HRD4.out)
          have HLL := Aside0.mk hL
          clear hcl hL
          go_wp2_with fail
          rw [HE2.out]
          with_reducible refine HC1.out.1.mono ?_
          rintro e w5 h5
          cases rc with
          | error q =>
           have hRR : R = .error q := (Option.some.inj HLL.out).symm
           obtain ⟨⟨g, rfl, hg, hg2⟩, jj, hst⟩ := h5
           rw [hRR]
           exact ⟨rfl, ⟨g, rfl, Nat.le_trans HST4.out.size hg, hg2⟩, jj, Step.trans HK.out HST4.out hst⟩
          | ok p5 =>
           have HLP5 : Aside0 (loopP hd s kq c deep (out ++ [p5.1]) p5.2 = some R) := ⟨HLL.out⟩
           obtain ⟨ve, rfl, hRv, hst⟩ := h5
           have HST5 := Aside0.mk (Step.trans HK.out HST4.out hst)
           have HI5 : Aside0 (I w5) := ⟨hc.step HI4.out hst⟩
           have HRO5 := Aside0.mk (R_stepS (w0 := w) HRO4.out HK.out.lt hst)
           have HPL5 := Aside0.mk (HC1.out.2 p5 rfl)
           obtain ⟨A5, cp5, rfl⟩ := Kd.R_slice hRv
           have hFM : (k27).M w5 w.heap.size (fun k => True ∧ some k ≠ (Value.slice A out.length cp).ownBlock) p5.1 [.int .u8 p5.1.f0, .int .i64 p5.1.f1.f0, .int .i64 p5.1.f1.f1, .int .i64 p5.1.f1.f2, .int .i64 p5.1.f1.f3, .int .i64 p5.1.f2, .slice A5 p5.1.f3.length cp5] :=
            k27_mkM _ _ _ p5.1 (Kd.R_lower (Kd.R_new' hRv (Kd.R_lt HRO4.out)) HST4.out.size)
           have hln : (out.length + 1) * 72 ≤ 140737488355328 := by have := HLQ.out.2.2; omega
           obtain ⟨W6, hW6⟩ : ∃ W6, W6 = w.setCell ⟨b, 1, none⟩ (.int .i64 (p5.2 : Int)) := ⟨_, rfl⟩
           have HBW6 : Aside0 (Below w.heap.size W6 w5) := ⟨by rw [hW6]; exact HST5.out⟩
           have HWW6 := Aside0.mk hW6
           have hsz5 : w.heap.size ≤ w5.heap.size := HST5.out.size
           clear hst hRv HLL HC1 HRD4 hW6
           go_wp2_with (at_builtin; refine Kd.R_append k27 (w0 := W6) w.heap.size rfl (.tmp 39) (.tmp 44) 25 27 (.agg #[.int .u8 0, .int .i64 0, .int .i64 0, .int .i64 0, .int .i64 0, .int .i64 0, .slice none 0 0]) 72 rfl Tryz.underlying25 infoC rfl (by decide) (by decide) (.slice A out.length cp) out p5.1 [.int .u8 p5.1.f0, .int .i64 p5.1.f1.f0, .int .i64 p5.1.f1.f1, .int .i64 p5.1.f1.f2, .int .i64 p5.1.f1.f3, .int .i64 p5.1.f2, .slice A5 p5.1.f3.length cp5] (fun _ => True) (fun k => True ∧ some k ≠ (Value.slice A out.length cp).ownBlock) rfl rfl hFM (fun _ hk => hk) (fun _ _ => trivial) HRO5.out HBW6.out hsz5 hln ?_)
           intro v1 w6 hov hb6 _ _
           have hb6' : Step w b (p5.2 : Int) w6 := by rw [HWW6.out] at hb6; exact hb6
           obtain ⟨A6, n6, cp6, rfl⟩ := sl_of_R hov
           have HR6 := Aside0.mk hov
           have HS6 := Aside0.mk hb6'
           have HI6 : Aside0 (I w6) := ⟨hc.step HIW0.out hb6'⟩
           clear hov hb6 hb6' hFM
           go_wp2
           go_roundg kq
           case measure => omega
           case rel => exact ⟨p5.2, out ++ [p5.1], _, _, _, rfl, ⟨HLP5.out, by have := HLQ.out.2.1; omega, by rw [List.length_append, List.length_singleton]; have := HPL5.out; have := HLQ.out.2.2; omega, HPL5.out.2⟩, HR6, ⟨HS6.out, HS6.out.rd HK.out, HI6.out⟩⟩
end Go.Proofs.YtkobpbbegalfpaaGreatDoor
