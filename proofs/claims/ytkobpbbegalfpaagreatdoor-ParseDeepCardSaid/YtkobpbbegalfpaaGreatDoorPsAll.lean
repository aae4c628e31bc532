/-
  Joined texts: PsKids, PsAll.
-/
import Derived.Test.YtkobpbbegalfpaaGreatDoorPsCellK
/-
 The reader takes kids: the walk, over the cells' contract.
-/
namespace Go.Proofs.YtkobpbbegalfpaaGreatDoor
open Go.RowKit Go.Proofs.YtkobpbbegalfpaaGreatDoorW.PrintWords Go.Proofs.YtkobpbbegalfpaaGreatDoorW.PrintLast Go.Proofs.YtkobpbbegalfpaaGreatDoorW.PrintMore Go.Proofs.YtkobpbbegalfpaaGreatDoor.PParseBodies
set_option linter.unusedVariables false
set_option linter.unusedSimpArgs false
set_option maxRecDepth 100000

set_option maxHeartbeats 4000000 in
theorem kids_deep (w : World) (b : Nat) (s : ByteArray) (i : Nat) (off c : Int) (deep : Nat) (hs : s.size ≤ 100000) (ho : 0 ≤ off ∧ off ≤ 1000) (hi : i ≤ s.size) (hd : 1000 ≤ deep) (hd2 : deep ≤ 100000) (k : RdA w b s i off) :
  Calls Tryz.prog 69 #[.pointer (some ⟨b, 0, none⟩), .int .u8 c, .int .i64 deep] w (KidsPost w b off (.error (3, i))) := by
 obtain ⟨c0, c1, c2⟩ := k.cells
 have hw : IntKind.i64.wrap (off + (i : Int)) = off + (i : Int) := by rw [i64_w]; unfold wrap64; omega
 have HF := Aside0.mk (fail_calls w b s i off 3 i (by decide) hw k)
 have HK := Aside0.mk k
 have d1 : ((deep : Int) ≥ 1000) = True := eq_true (by omega)
 have d2 : decide ((1000 : Int) ≤ (deep : Int)) = true := decide_eq_true (by omega)
 clear hw k hd
 go_enter Tryz.func69, Tryz.ntmps69
 go_wp2_with fail
 with_reducible refine HF.out.mono ?_
 rintro e w2 ⟨⟨g, rfl, hg, hg2⟩, hb2⟩
 exact ⟨rfl, ⟨g, rfl, hg, hg2⟩, _, Step.of_below HK.out hb2⟩
theorem infoC : (Tryz.prog.info? 27).map (fun i => (i.zero, i.size, i.bytes)) = some (some (.agg #[.int .u8 0, .int .i64 0, .int .i64 0, .int .i64 0, .int .i64 0, .int .i64 0, .slice none 0 0]), 7, 72) := by kernel_rfl
theorem R_one {W : World} {base : Nat} (hbase : base ≤ W.heap.size) (c : SC) {A : Option Addr} {cp : Nat} (h : Kd.R k27 27 W base (fun _ => True) (.slice A c.f3.length cp) c.f3) :
  Kd.R k27 27 (W.alloc (.cells #[.int .u8 c.f0, .int .i64 c.f1.f0, .int .i64 c.f1.f1, .int .i64 c.f1.f2, .int .i64 c.f1.f3, .int .i64 c.f2, .slice A c.f3.length cp] 27)) base (fun _ => True) (.slice (some ⟨W.heap.size, 0, none⟩) 1 1) [c] := by
 have hrep : Reps ((k27).M W base (fun _ => True)) (k27).sz [c] [.int .u8 c.f0, .int .i64 c.f1.f0, .int .i64 c.f1.f1, .int .i64 c.f1.f2, .int .i64 c.f1.f3, .int .i64 c.f2, .slice A c.f3.length cp] :=
  Reps.snoc (Reps.none _ _) (k27_mkM _ _ _ c h) rfl
 refine ⟨fun k hk => trivial, [.int .u8 c.f0, .int .i64 c.f1.f0, .int .i64 c.f1.f1, .int .i64 c.f1.f2, .int .i64 c.f1.f3, .int .i64 c.f2, .slice A c.f3.length cp], ?_, ?_⟩
 ·have h2 := World.ownsRow_lit (base := base) (e := 27) (size := (k27).sz) W #[.int .u8 c.f0, .int .i64 c.f1.f0, .int .i64 c.f1.f1, .int .i64 c.f1.f2, .int .i64 c.f1.f3, .int .i64 c.f2, .slice A c.f3.length cp] 1 hbase (by decide) rfl
  simpa using h2
 ·refine hrep.imp_ (fun p c hp => (k27).M_mono (fun k hk => ⟨trivial, fun he => ?_⟩) (Kd.M_below ((k27).M_bound hp) (below_alloc (Below.refl _ _) _)))
  have h3 : W.heap.size = k := by simpa [Value.ownBlock] using he.symm
  have := hk.2.2.1
  omega
/-- Whatever a cell read by so few steps comes to. -/
def CellsC (hd : ByteArray → Int × Int × Int) (I : World → Prop) (b : Nat) (s : ByteArray) (off : Int) (K : Nat) : Prop :=
 ∀ (m : Nat) (W : World) (j deep : Nat) (r : Except (Int × Nat) (SC × Nat)), m < K → cellP hd s m j deep = some r → j ≤ s.size → deep ≤ 1000 → I W → RdA W b s j off →
  Calls Tryz.prog 47 #[.pointer (some ⟨b, 0, none⟩), .int .i64 deep] W (CellPost W b off r) ∧ (∀ p, r = .ok p → j < p.2 ∧ p.2 ≤ s.size)
set_option maxHeartbeats 16000000 in
theorem kids_walk (hd : ByteArray → Int × Int × Int) (I : World → Prop) (K : Nat) (w : World) (b : Nat) (s : ByteArray) (i : Nat) (off c : Int) (deep : Nat) (hs : s.size ≤ 100000) (ho : 0 ≤ off ∧ off ≤ 1000) (hi : i < s.size) (hc0 : ¬ c = 0) (hdp : deep < 1000) (hc : HeadC hd b I) (hI : I w) (HC : CellsC hd I b s off K) (k : RdA w b s i off)
  (R : Except (Int × Nat) (List SC × Nat)) (hR : kidsP hd s K c deep i = some R) :
  Calls Tryz.prog 69 #[.pointer (some ⟨b, 0, none⟩), .int .u8 c, .int .i64 deep] w (KidsPost w b off R) := by
 obtain ⟨c0, c1, c2⟩ := k.cells
 obtain ⟨f0, f1, f2⟩ := k.fro
 cases K with
 | zero => rw [kidsP] at hR; cases hR
 | succ K =>
  rw [kidsP, if_neg (by omega)] at hR
  have d1 : ((deep : Int) ≥ 1000) = False := eq_false (by omega)
  have d2 : decide ((1000 : Int) ≤ (deep : Int)) = false := decide_eq_false (by omega)
  have HDW : Aside0 (wrap64 ((deep : Int) + 1) = ((deep + 1 : Nat) : Int)) := ⟨by unfold wrap64; omega⟩
  have HIW : Aside0 (wrap64 ((i : Int) + 1) = ((i + 1 : Nat) : Int)) := ⟨by unfold wrap64; omega⟩
  obtain ⟨W0, hW0⟩ : ∃ W0, W0 = w.setCell ⟨b, 1, none⟩ (.int .i64 ((i + 1 : Nat) : Int)) := ⟨_, rfl⟩
  have HS0 : Aside0 (Step w b ((i + 1 : Nat) : Int) W0) := ⟨by rw [hW0]; exact Below.refl _ _⟩
  have HI0 : Aside0 (I W0) := ⟨hc.step hI HS0.out⟩
  have HR0 : Aside0 (RdA W0 b s ((i + 1 : Nat) : Int) off) := ⟨HS0.out.rd k⟩
  have HK := Aside0.mk k
  have HCC := Aside0.mk HC
  have HIW0 := Aside0.mk hI
  cases hcl : cellP hd s K (i + 1) (deep + 1) with
  | none => rw [hcl] at hR; cases hR
  | some rc =>
   rw [hcl] at hR
   have HC1 := Aside0.mk (HC K W0 (i + 1) (deep + 1) rc (by omega) hcl (by omega) (by omega) HI0.out HR0.out)
   have HW := Aside0.mk hW0
   have e1 : (i : Int) + 1 = ((i + 1 : Nat) : Int) := by omega
   have e2 : (deep : Int) + 1 = ((deep + 1 : Nat) : Int) := by omega
   rw [← e1] at hW0
   have HW2 := Aside0.mk hW0
   have HRR := Aside0.mk hR
   have HE2 := Aside0.mk e2
   clear hW0 k HC hI e1 hR hcl e2
   go_enter Tryz.func69, Tryz.ntmps69
   go_wp2_with fail
   rw [HE2.out, ← HW2.out]
   with_reducible refine HC1.out.1.mono ?_
   rintro e w1 h1
   cases rc with
   | error q =>
    have hRR : R = .error q := (Option.some.inj HRR.out).symm
    obtain ⟨⟨g, rfl, hg, hg2⟩, jj, hst⟩ := h1
    rw [hRR]
    exact ⟨rfl, ⟨g, rfl, Nat.le_trans HS0.out.size hg, hg2⟩, jj, Step.trans HK.out HS0.out hst⟩
   | ok p =>
    have HLP : Aside0 (loopP hd s K c deep [p.1] p.2 = some R) := ⟨HRR.out⟩
    obtain ⟨v, rfl, hRv, hst⟩ := h1
    have HST := Aside0.mk (Step.trans HK.out HS0.out hst)
    have HI1 : Aside0 (I w1) := ⟨hc.step HI0.out hst⟩
    have HRV := Aside0.mk (Kd.R_lower hRv HS0.out.size)
    have HPL := Aside0.mk (HC1.out.2 p rfl)
    obtain ⟨A0, cp0, rfl⟩ := Kd.R_slice hRv
    obtain ⟨W', hW'⟩ : ∃ W', W' = w.setCell ⟨b, 1, none⟩ (.int .i64 (p.2 : Int)) := ⟨_, rfl⟩
    have HBW : Aside0 (Below w.heap.size W' w1) := ⟨by rw [hW']; exact HST.out⟩
    have HWW := Aside0.mk hW'
    clear hst hRv HRR HC1 HW HW2 HR0 HI0 hW'
    go_wp2
    obtain ⟨w2, hw2⟩ : ∃ w2, w2 = w1.alloc (.cells #[.int .u8 p.1.f0, .int .i64 p.1.f1.f0, .int .i64 p.1.f1.f1, .int .i64 p.1.f1.f2, .int .i64 p.1.f1.f3, .int .i64 p.1.f2, .slice A0 p.1.f3.length cp0] 27) := ⟨_, rfl⟩
    have hb2' : Step w b (p.2 : Int) w2 := by rw [hw2]; exact Below.alloc HST.out HST.out.size _
    have HO : Aside0 (Kd.R k27 27 w2 w.heap.size (fun _ => True) (.slice (some ⟨w1.heap.size, 0, none⟩) 1 1) [p.1]) := ⟨by rw [hw2]; exact R_one HST.out.size p.1 HRV.out⟩
    have HS2 := Aside0.mk hb2'
    have HI2 : Aside0 (I w2) := ⟨hc.step HIW0.out hb2'⟩
    rw [← hw2]
    clear hw2 hb2' c0 c1 c2 f0 f1 f2
    go_loopg [7] K (fun kq v wr => ∃ (j : Nat) (out : List SC) (A : Option Addr) (n cp : Nat), v = .slice A n cp ∧ Aside0 (loopP hd s kq c deep out j = some R ∧ kq ≤ K ∧ out.length ≤ j ∧ j ≤ s.size) ∧ Aside0 (Kd.R k27 27 wr w.heap.size (fun _ => True) v out) ∧ Aside0 (Step w b (j : Int) wr ∧ RdA wr b s j off ∧ I wr))
    case atStart => exact ⟨p.2, [p.1], _, _, _, rfl, ⟨HLP.out, Nat.le_refl _, by rw [List.length_singleton]; have := HPL.out; omega, HPL.out.2⟩, HO, ⟨HS2.out, HS2.out.rd HK.out, HI2.out⟩⟩
    case round =>
     obtain ⟨j, out, A, n, cp, rfl, HLQ, HRO, HSI⟩ := hrel
     cases gk with
     | zero => exact absurd HLQ.out.1 (by rw [loopP]; simp)
     | succ kq =>
      have hL := HLQ.out.1
      rw [loopP] at hL
      obtain rfl : n = out.length := (Kd.R_reads' HRO.out).1
      obtain ⟨c0, c1, c2⟩ := HSI.out.2.1.cells
      by_cases h2 : out.length < 2
      ·rw [if_pos (.inl h2)] at hL
       have g1 : ((out.length : Int) < 2) = True := eq_true (by omega)
       have g2 : decide ((out.length : Int) < 2) = true := decide_eq_true (by omega)
       obtain ⟨WC, hWC⟩ : ∃ WC, WC = wr := ⟨_, rfl⟩
       have HSC : Aside0 (Step w b (j : Int) WC ∧ RdA WC b s j off ∧ I WC ∧ Kd.R k27 27 WC w.heap.size (fun _ => True) (.slice A out.length cp) out) := ⟨by subst hWC; exact ⟨HSI.out.1, HSI.out.2.1, HSI.out.2.2, HRO.out⟩⟩
       subst hWC
       clear h2
       have HN := Aside0.mk (eat_calls WC b s j off 44 hs ho HLQ.out.2.2.2 (by decide) HSC.out.2.1)
       go_wp2_with fail
       with_reducible refine HN.out.mono ?_
       rintro e w4 h4
       clear HN
       cases heat : eatP s j 44 with
       | error q =>
        rw [heat] at h4 hL
        have hRR : R = .error q := (Option.some.inj hL).symm
        obtain ⟨⟨g, rfl, hg, hg2⟩, jj, hst⟩ := h4
        rw [hRR]
        exact ⟨rfl, ⟨g, rfl, Nat.le_trans HSC.out.1.size hg, hg2⟩, jj, Step.trans HK.out HSC.out.1 hst⟩
       | ok a =>
        rw [heat] at h4 hL
        simp only at hL
        obtain ⟨rfl, hst⟩ := h4
        obtain ⟨ha1, ha2, _⟩ := eatP_le (by decide) heat
        have HST4 := Aside0.mk (Step.trans HK.out HSC.out.1 hst)
        have HRD4 := Aside0.mk (hst.rd HSC.out.2.1)
        have HI4 : Aside0 (I w4) := ⟨hc.step HSC.out.2.2.1 hst⟩
        have HRO4 := Aside0.mk (R_stepS (w0 := w) HSC.out.2.2.2 HK.out.lt hst)
        clear hst heat
        cases hcl : cellP hd s kq a (deep + 1) with
        | none => rw [hcl] at hL; cases hL
        | some rc =>
         rw [hcl] at hL
         have HC1 := Aside0.mk (HCC.out kq w4 a (deep + 1) rc (by have := HLQ.out.2.1; omega) hcl (by omega) (by omega) HI4.out HRD4.out)
         have HLL := Aside0.mk hL
         clear hcl hL
         go_wp2_with fail
         rw [HE2.out]
         with_reducible refine HC1.out.1.mono ?_
         rintro e w5 h5
         cases rc with
         | error q =>
          have hRR : R = .error q := (Option.some.inj HLL.out).symm
          obtain ⟨⟨g, rfl, hg, hg2⟩, jj, hst⟩ := h5
          rw [hRR]
          exact ⟨rfl, ⟨g, rfl, Nat.le_trans HST4.out.size hg, hg2⟩, jj, Step.trans HK.out HST4.out hst⟩
         | ok p5 =>
          have HLP5 : Aside0 (loopP hd s kq c deep (out ++ [p5.1]) p5.2 = some R) := ⟨HLL.out⟩
          obtain ⟨ve, rfl, hRv, hst⟩ := h5
          have HST5 := Aside0.mk (Step.trans HK.out HST4.out hst)
          have HI5 : Aside0 (I w5) := ⟨hc.step HI4.out hst⟩
          have HRO5 := Aside0.mk (R_stepS (w0 := w) HRO4.out HK.out.lt hst)
          have HPL5 := Aside0.mk (HC1.out.2 p5 rfl)
          obtain ⟨A5, cp5, rfl⟩ := Kd.R_slice hRv
          have hFM : (k27).M w5 w.heap.size (fun k => True ∧ some k ≠ (Value.slice A out.length cp).ownBlock) p5.1 [.int .u8 p5.1.f0, .int .i64 p5.1.f1.f0, .int .i64 p5.1.f1.f1, .int .i64 p5.1.f1.f2, .int .i64 p5.1.f1.f3, .int .i64 p5.1.f2, .slice A5 p5.1.f3.length cp5] :=
           k27_mkM _ _ _ p5.1 (Kd.R_lower (Kd.R_new' hRv (Kd.R_lt HRO4.out)) HST4.out.size)
          have hln : (out.length + 1) * 72 ≤ 140737488355328 := by have := HLQ.out.2.2; omega
          obtain ⟨W6, hW6⟩ : ∃ W6, W6 = w.setCell ⟨b, 1, none⟩ (.int .i64 (p5.2 : Int)) := ⟨_, rfl⟩
          have HBW6 : Aside0 (Below w.heap.size W6 w5) := ⟨by rw [hW6]; exact HST5.out⟩
          have HWW6 := Aside0.mk hW6
          have hsz5 : w.heap.size ≤ w5.heap.size := HST5.out.size
          clear hst hRv HLL HC1 HRD4 hW6
          go_wp2_with (at_builtin; refine Kd.R_append k27 (w0 := W6) w.heap.size rfl (.tmp 39) (.tmp 44) 25 27 (.agg #[.int .u8 0, .int .i64 0, .int .i64 0, .int .i64 0, .int .i64 0, .int .i64 0, .slice none 0 0]) 72 rfl Tryz.underlying25 infoC rfl (by decide) (by decide) (.slice A out.length cp) out p5.1 [.int .u8 p5.1.f0, .int .i64 p5.1.f1.f0, .int .i64 p5.1.f1.f1, .int .i64 p5.1.f1.f2, .int .i64 p5.1.f1.f3, .int .i64 p5.1.f2, .slice A5 p5.1.f3.length cp5] (fun _ => True) (fun k => True ∧ some k ≠ (Value.slice A out.length cp).ownBlock) rfl rfl hFM (fun _ hk => hk) (fun _ _ => trivial) HRO5.out HBW6.out hsz5 hln ?_)
          intro v1 w6 hov hb6 _ _
          have hb6' : Step w b (p5.2 : Int) w6 := by rw [HWW6.out] at hb6; exact hb6
          obtain ⟨A6, n6, cp6, rfl⟩ := sl_of_R hov
          have HR6 := Aside0.mk hov
          have HS6 := Aside0.mk hb6'
          have HI6 : Aside0 (I w6) := ⟨hc.step HIW0.out hb6'⟩
          clear hov hb6 hb6' hFM
          go_wp2
          go_roundg kq
          case measure => omega
          case rel => exact ⟨p5.2, out ++ [p5.1], _, _, _, rfl, ⟨HLP5.out, by have := HLQ.out.2.1; omega, by rw [List.length_append, List.length_singleton]; have := HPL5.out; have := HLQ.out.2.2; omega, HPL5.out.2⟩, HR6, ⟨HS6.out, HS6.out.rd HK.out, HI6.out⟩⟩
      ·have g1 : ((out.length : Int) < 2) = False := eq_false (by omega)
       have g2 : decide ((out.length : Int) < 2) = false := decide_eq_false (by omega)
       have HAH := Aside0.mk (rahead_calls wr b s j off HLQ.out.2.2.2 HSI.out.2.1)
       by_cases ha : aheadI s j = c
       ·rw [if_neg (by rintro (h | h); exact h2 h; exact h ha)] at hL
        have hRR : R = .ok (out, j + 1) := (Option.some.inj hL).symm
        have HJL := Aside0.mk (aheadI_lt hc0 ha)
        have HRR := Aside0.mk hRR
        rw [ha] at HAH
        have n1 : (c == c) = true := beq_self_eq_true _
        have n2 : (c != c) = false := by rw [bne, n1]; rfl
        have hwj : wrap64 ((j : Int) + 1) = (j : Int) + 1 := by unfold wrap64; have := HJL.out; omega
        have HWJ := Aside0.mk hwj
        clear hL hRR ha h2 hwj
        go_wp2_with fail
        with_reducible refine HAH.out.mono ?_
        rintro e w4 ⟨rfl, hb4⟩
        have HST4 := Aside0.mk (Step.trans HK.out HSI.out.1 (Step.of_below HSI.out.2.1 hb4))
        have HRD4 := Aside0.mk (HSI.out.2.1.below hb4)
        have HRO4 := Aside0.mk (Kd.R_below HRO.out hb4)
        obtain ⟨d0, d1', d2'⟩ := HRD4.out.cells
        obtain ⟨e0, e1, e2⟩ := HRD4.out.fro
        have hwj := HWJ.out
        clear hb4 HAH
        go_wp2
        go_ret
        rw [HRR.out]
        exact ⟨_, rfl, R_setS HRO4.out (p := ⟨b, 1, none⟩) HK.out.lt _, Step.trans HK.out HST4.out (by show Below _ _ _; rw [show ((j + 1 : Nat) : Int) = (j : Int) + 1 by omega]; exact Below.refl _ _)⟩
       ·rw [if_pos (.inr ha)] at hL
        obtain ⟨x, hx⟩ : ∃ x, x = aheadI s j := ⟨_, rfl⟩
        rw [← hx] at HAH ha
        have n1 : (x == c) = false := beq_eq_false_iff_ne.2 ha
        have n2 : (x != c) = true := by rw [bne, n1]; rfl
        clear hx ha h2
        go_wp2_with fail
        with_reducible refine HAH.out.mono ?_
        rintro e WC ⟨rfl, hb4⟩
        have HSC : Aside0 (Step w b (j : Int) WC ∧ RdA WC b s j off ∧ I WC ∧ Kd.R k27 27 WC w.heap.size (fun _ => True) (.slice A out.length cp) out) := ⟨Step.trans HK.out HSI.out.1 (Step.of_below HSI.out.2.1 hb4), HSI.out.2.1.below hb4, hc.bel _ _ HSI.out.2.2 hb4, Kd.R_below HRO.out hb4⟩
        clear hb4 HAH
        have HN := Aside0.mk (eat_calls WC b s j off 44 hs ho HLQ.out.2.2.2 (by decide) HSC.out.2.1)
        go_wp2_with fail
        with_reducible refine HN.out.mono ?_
        rintro e w4 h4
        clear HN
        cases heat : eatP s j 44 with
        | error q =>
         rw [heat] at h4 hL
         have hRR : R = .error q := (Option.some.inj hL).symm
         obtain ⟨⟨g, rfl, hg, hg2⟩, jj, hst⟩ := h4
         rw [hRR]
         exact ⟨rfl, ⟨g, rfl, Nat.le_trans HSC.out.1.size hg, hg2⟩, jj, Step.trans HK.out HSC.out.1 hst⟩
        | ok a =>
         rw [heat] at h4 hL
         simp only at hL
         obtain ⟨rfl, hst⟩ := h4
         obtain ⟨ha1, ha2, _⟩ := eatP_le (by decide) heat
         have HST4 := Aside0.mk (Step.trans HK.out HSC.out.1 hst)
         have HRD4 := Aside0.mk (hst.rd HSC.out.2.1)
         have HI4 : Aside0 (I w4) := ⟨hc.step HSC.out.2.2.1 hst⟩
         have HRO4 := Aside0.mk (R_stepS (w0 := w) HSC.out.2.2.2 HK.out.lt hst)
         clear hst heat
         cases hcl : cellP hd s kq a (deep + 1) with
         | none => rw [hcl] at hL; cases hL
         | some rc =>
          rw [hcl] at hL
          have HC1 := Aside0.mk (HCC.out kq w4 a (deep + 1) rc (by have := HLQ.out.2.1; omega) hcl (by omega) (by omega) HI4.out HRD4.out)
          have HLL := Aside0.mk hL
          clear hcl hL
          go_wp2_with fail
          rw [HE2.out]
          with_reducible refine HC1.out.1.mono ?_
          rintro e w5 h5
          cases rc with
          | error q =>
           have hRR : R = .error q := (Option.some.inj HLL.out).symm
           obtain ⟨⟨g, rfl, hg, hg2⟩, jj, hst⟩ := h5
           rw [hRR]
           exact ⟨rfl, ⟨g, rfl, Nat.le_trans HST4.out.size hg, hg2⟩, jj, Step.trans HK.out HST4.out hst⟩
          | ok p5 =>
           have HLP5 : Aside0 (loopP hd s kq c deep (out ++ [p5.1]) p5.2 = some R) := ⟨HLL.out⟩
           obtain ⟨ve, rfl, hRv, hst⟩ := h5
           have HST5 := Aside0.mk (Step.trans HK.out HST4.out hst)
           have HI5 : Aside0 (I w5) := ⟨hc.step HI4.out hst⟩
           have HRO5 := Aside0.mk (R_stepS (w0 := w) HRO4.out HK.out.lt hst)
           have HPL5 := Aside0.mk (HC1.out.2 p5 rfl)
           obtain ⟨A5, cp5, rfl⟩ := Kd.R_slice hRv
           have hFM : (k27).M w5 w.heap.size (fun k => True ∧ some k ≠ (Value.slice A out.length cp).ownBlock) p5.1 [.int .u8 p5.1.f0, .int .i64 p5.1.f1.f0, .int .i64 p5.1.f1.f1, .int .i64 p5.1.f1.f2, .int .i64 p5.1.f1.f3, .int .i64 p5.1.f2, .slice A5 p5.1.f3.length cp5] :=
            k27_mkM _ _ _ p5.1 (Kd.R_lower (Kd.R_new' hRv (Kd.R_lt HRO4.out)) HST4.out.size)
           have hln : (out.length + 1) * 72 ≤ 140737488355328 := by have := HLQ.out.2.2; omega
           obtain ⟨W6, hW6⟩ : ∃ W6, W6 = w.setCell ⟨b, 1, none⟩ (.int .i64 (p5.2 : Int)) := ⟨_, rfl⟩
           have HBW6 : Aside0 (Below w.heap.size W6 w5) := ⟨by rw [hW6]; exact HST5.out⟩
           have HWW6 := Aside0.mk hW6
           have hsz5 : w.heap.size ≤ w5.heap.size := HST5.out.size
           clear hst hRv HLL HC1 HRD4 hW6
           go_wp2_with (at_builtin; refine Kd.R_append k27 (w0 := W6) w.heap.size rfl (.tmp 39) (.tmp 44) 25 27 (.agg #[.int .u8 0, .int .i64 0, .int .i64 0, .int .i64 0, .int .i64 0, .int .i64 0, .slice none 0 0]) 72 rfl Tryz.underlying25 infoC rfl (by decide) (by decide) (.slice A out.length cp) out p5.1 [.int .u8 p5.1.f0, .int .i64 p5.1.f1.f0, .int .i64 p5.1.f1.f1, .int .i64 p5.1.f1.f2, .int .i64 p5.1.f1.f3, .int .i64 p5.1.f2, .slice A5 p5.1.f3.length cp5] (fun _ => True) (fun k => True ∧ some k ≠ (Value.slice A out.length cp).ownBlock) rfl rfl hFM (fun _ hk => hk) (fun _ _ => trivial) HRO5.out HBW6.out hsz5 hln ?_)
           intro v1 w6 hov hb6 _ _
           have hb6' : Step w b (p5.2 : Int) w6 := by rw [HWW6.out] at hb6; exact hb6
           obtain ⟨A6, n6, cp6, rfl⟩ := sl_of_R hov
           have HR6 := Aside0.mk hov
           have HS6 := Aside0.mk hb6'
           have HI6 : Aside0 (I w6) := ⟨hc.step HIW0.out hb6'⟩
           clear hov hb6 hb6' hFM
           go_wp2
           go_roundg kq
           case measure => omega
           case rel => exact ⟨p5.2, out ++ [p5.1], _, _, _, rfl, ⟨HLP5.out, by have := HLQ.out.2.1; omega, by rw [List.length_append, List.length_singleton]; have := HPL5.out; have := HLQ.out.2.2; omega, HPL5.out.2⟩, HR6, ⟨HS6.out, HS6.out.rd HK.out, HI6.out⟩⟩
end Go.Proofs.YtkobpbbegalfpaaGreatDoor

/-
 The reader takes a cell: what comes of it, at every text.
-/
namespace Go.Proofs.YtkobpbbegalfpaaGreatDoor
open Go.RowKit Go.Proofs.YtkobpbbegalfpaaGreatDoorW.PrintWords Go.Proofs.YtkobpbbegalfpaaGreatDoorW.PrintLast Go.Proofs.YtkobpbbegalfpaaGreatDoorW.PrintMore Go.Proofs.YtkobpbbegalfpaaGreatDoor.PParseBodies
set_option linter.unusedVariables false
set_option linter.unusedSimpArgs false
set_option maxRecDepth 100000

theorem numP_ge {hd : ByteArray → Int × Int × Int} {s : ByteArray} {i : Nat} {p : Int × Nat} (h : numP hd s i = .ok p) : i ≤ p.2 := by
 unfold numP at h
 split at h
 ·cases h; exact Nat.le_add_right _ _
 ·cases h
theorem rectP_gt {hd : ByteArray → Int × Int × Int} {s : ByteArray} {i : Nat} {r : (Int × Int × Int × Int) × Nat} (h : rectP hd s i = .ok r) : i < r.2 := by
 unfold rectP at h
 cases h0 : numP hd s i with
 | error q => rw [h0] at h; cases h
 | ok p0 =>
  rw [h0] at h
  have l0 := numP_ge h0
  cases h1 : eatP s p0.2 120 with
  | error q => simp only [bind, Except.bind, h1] at h; cases h
  | ok a1 =>
   simp only [bind, Except.bind, h1] at h
   obtain ⟨e1, _⟩ := eatP_le (by decide) h1
   cases h2 : numP hd s a1 with
   | error q => rw [h2] at h; cases h
   | ok p2 =>
    simp only [h2] at h
    have l2 := numP_ge h2
    cases h3 : eatP s p2.2 44 with
    | error q => rw [h3] at h; cases h
    | ok a3 =>
     simp only [h3] at h
     obtain ⟨e3, _⟩ := eatP_le (by decide) h3
     cases h4 : numP hd s a3 with
     | error q => rw [h4] at h; cases h
     | ok p4 =>
      simp only [h4] at h
      have l4 := numP_ge h4
      cases h5 : eatP s p4.2 44 with
      | error q => rw [h5] at h; cases h
      | ok a5 =>
       simp only [h5] at h
       obtain ⟨e5, _⟩ := eatP_le (by decide) h5
       cases h6 : numP hd s a5 with
       | error q => rw [h6] at h; cases h
       | ok p6 =>
        simp only [h6] at h
        have l6 := numP_ge h6
        cases h
        show i < p6.2
        omega
theorem places (hd : ByteArray → Int × Int × Int) (hb : HeadB hd) (s : ByteArray) : ∀ k,
  (∀ i deep p, i ≤ s.size → cellP hd s k i deep = some (.ok p) → i < p.2 ∧ p.2 ≤ s.size) ∧
  (∀ c deep i p, i < s.size → ¬ c = 0 → kidsP hd s k c deep i = some (.ok p) → i < p.2 ∧ p.2 ≤ s.size) ∧
  (∀ c deep out j p, j ≤ s.size → ¬ c = 0 → loopP hd s k c deep out j = some (.ok p) → j < p.2 ∧ p.2 ≤ s.size) := by
 intro k
 induction k with
 | zero => exact ⟨fun i deep p _ h => (by rw [cellP] at h; cases h), fun c deep i p _ _ h => (by rw [kidsP] at h; cases h), fun c deep out j p _ _ h => (by rw [loopP] at h; cases h)⟩
 | succ k ih =>
  obtain ⟨ih1, ih2, ih3⟩ := ih
  refine ⟨?_, ?_, ?_⟩
  ·intro i deep p hi h
   rw [cellP] at h
   cases hr : rectP hd s i with
   | error q => rw [hr] at h; cases h
   | ok r =>
    rw [hr] at h
    simp only at h
    have g1 := rectP_gt hr
    have g2 := rectP_le hb hi hr
    by_cases h1 : aheadI s r.2 = 123
    ·rw [if_pos h1] at h
     have hl := aheadI_lt (by decide) h1
     cases hk : kidsP hd s k 125 deep r.2 with
     | none => rw [hk] at h; cases h
     | some x =>
      rw [hk] at h
      cases x with
      | error q => cases h
      | ok q =>
       have := ih2 125 deep r.2 q hl (by decide) hk
       cases h
       exact ⟨by show i < q.2; omega, this.2⟩
    ·rw [if_neg h1] at h
     by_cases h2 : aheadI s r.2 = 91
     ·rw [if_pos h2] at h
      have hl := aheadI_lt (by decide) h2
      cases hk : kidsP hd s k 93 deep r.2 with
      | none => rw [hk] at h; cases h
      | some x =>
       rw [hk] at h
       cases x with
       | error q => cases h
       | ok q =>
        have := ih2 93 deep r.2 q hl (by decide) hk
        cases h
        exact ⟨by show i < q.2; omega, this.2⟩
     ·rw [if_neg h2] at h
      cases he : eatP s r.2 44 with
      | error q => rw [he] at h; cases h
      | ok a =>
       rw [he] at h
       simp only at h
       obtain ⟨e1, e2, _⟩ := eatP_le (by decide) he
       cases hn : numP hd s a with
       | error q => rw [hn] at h; cases h
       | ok n =>
        rw [hn] at h
        have n1 := numP_ge hn
        have n2 := numP_le hb (by omega) hn
        cases h
        exact ⟨by show i < n.2; omega, n2⟩
  ·intro c deep i p hi hc h
   rw [kidsP] at h
   by_cases hdp : 1000 ≤ deep
   ·rw [if_pos hdp] at h; cases h
   ·rw [if_neg hdp] at h
    cases hk : cellP hd s k (i + 1) (deep + 1) with
    | none => rw [hk] at h; cases h
    | some x =>
     rw [hk] at h
     cases x with
     | error q => cases h
     | ok q =>
      have h1 := ih1 (i + 1) (deep + 1) q (by omega) hk
      have h2 := ih3 c deep [q.1] q.2 p h1.2 hc h
      exact ⟨by omega, h2.2⟩
  ·intro c deep out j p hj hc h
   rw [loopP] at h
   by_cases hcn : out.length < 2 ∨ ¬ aheadI s j = c
   ·rw [if_pos hcn] at h
    cases he : eatP s j 44 with
    | error q => rw [he] at h; cases h
    | ok a =>
     rw [he] at h
     simp only at h
     obtain ⟨e1, e2, _⟩ := eatP_le (by decide) he
     cases hk : cellP hd s k a (deep + 1) with
     | none => rw [hk] at h; cases h
     | some x =>
      rw [hk] at h
      cases x with
      | error q => cases h
      | ok q =>
       have h1 := ih1 a (deep + 1) q (by omega) hk
       have h2 := ih3 c deep (out ++ [q.1]) q.2 p h1.2 hc h
       exact ⟨by omega, h2.2⟩
   ·rw [if_neg hcn] at h
    have ha : aheadI s j = c := Classical.byContradiction fun h => hcn (.inr h)
    have hl := aheadI_lt hc ha
    cases h
    exact ⟨by show j < j + 1; omega, by show j + 1 ≤ s.size; omega⟩
theorem CellsC.mono {hd : ByteArray → Int × Int × Int} {I : World → Prop} {b : Nat} {s : ByteArray} {off : Int} {K K' : Nat} (h : CellsC hd I b s off K) (hk : K' ≤ K) : CellsC hd I b s off K' :=
 fun m W j deep r hm => h m W j deep r (by omega)
theorem kids_calls (hd : ByteArray → Int × Int × Int) (I : World → Prop) (K : Nat) (w : World) (b : Nat) (s : ByteArray) (i : Nat) (off c : Int) (deep : Nat) (hs : s.size ≤ 100000) (ho : 0 ≤ off ∧ off ≤ 1000) (hi : i < s.size) (hc0 : ¬ c = 0) (hdp : deep ≤ 1000) (hc : HeadC hd b I) (hI : I w) (HC : CellsC hd I b s off K) (k : RdA w b s i off)
  (R : Except (Int × Nat) (List SC × Nat)) (hR : kidsP hd s K c deep i = some R) :
  Calls Tryz.prog 69 #[.pointer (some ⟨b, 0, none⟩), .int .u8 c, .int .i64 deep] w (KidsPost w b off R) := by
 by_cases hd1 : deep < 1000
 ·exact kids_walk hd I K w b s i off c deep hs ho hi hc0 hd1 hc hI HC k R hR
 ·cases K with
  | zero => rw [kidsP] at hR; cases hR
  | succ K =>
   rw [kidsP, if_pos (by omega)] at hR
   cases hR
   exact kids_deep w b s i off c deep hs ho (by omega) (by omega) (by omega) k
theorem cells_all (hd : ByteArray → Int × Int × Int) (I : World → Prop) (b : Nat) (s : ByteArray) (off : Int) (hs : s.size ≤ 100000) (ho : 0 ≤ off ∧ off ≤ 1000) (hb : HeadB hd) (hc : HeadC hd b I) : ∀ K, CellsC hd I b s off K := by
 intro K
 induction K with
 | zero => exact fun m W j deep r hm => absurd hm (by omega)
 | succ K ih =>
  intro m W j deep r hm hr hj hdp hI k
  refine ⟨?_, fun p hp => (places hd hb s m).1 j deep p hj (by rw [hr, hp])⟩
  cases m with
  | zero => rw [cellP] at hr; cases hr
  | succ m =>
   have ihm : CellsC hd I b s off m := ih.mono (by omega)
   rw [cellP] at hr
   cases hrect : rectP hd s j with
   | error q =>
    rw [hrect] at hr
    cases hr
    exact cell_norect hd I W b s j off deep hs ho hj hb hc hI k q hrect
   | ok rr =>
    rw [hrect] at hr
    simp only at hr
    by_cases h1 : aheadI s rr.2 = 123
    ·rw [if_pos h1] at hr
     have hl := aheadI_lt (by decide) h1
     cases hk : kidsP hd s m 125 deep rr.2 with
     | none => rw [hk] at hr; cases hr
     | some Rk =>
      rw [hk] at hr
      refine cell_row hd I W b s j off deep hs ho hj hb hc hI k rr hrect h1 Rk (fun W' hI' k' => kids_calls hd I m W' b s rr.2 off 125 deep hs ho hl (by decide) hdp hc hI' ihm k' Rk hk) r ?_
      cases Rk <;> (simp only [Option.some.injEq] at hr; exact hr.symm)
    ·rw [if_neg h1] at hr
     by_cases h2 : aheadI s rr.2 = 91
     ·rw [if_pos h2] at hr
      have hl := aheadI_lt (by decide) h2
      cases hk : kidsP hd s m 93 deep rr.2 with
      | none => rw [hk] at hr; cases hr
      | some Rk =>
       rw [hk] at hr
       refine cell_col hd I W b s j off deep hs ho hj hb hc hI k rr hrect h2 Rk (fun W' hI' k' => kids_calls hd I m W' b s rr.2 off 93 deep hs ho hl (by decide) hdp hc hI' ihm k' Rk hk) r ?_
       cases Rk <;> (simp only [Option.some.injEq] at hr; exact hr.symm)
     ·rw [if_neg h2] at hr
      refine cell_leaf hd I W b s j off deep hs ho hj hb hc hI k rr hrect h1 h2 r ?_
      cases he : eatP s rr.2 44 with
      | error q => rw [he] at hr; simp only [Option.some.injEq] at hr; exact hr.symm
      | ok a =>
       rw [he] at hr
       simp only at hr ⊢
       cases hn : numP hd s a with
       | error q => rw [hn] at hr; simp only [Option.some.injEq] at hr; exact hr.symm
       | ok n => rw [hn] at hr; simp only [Option.some.injEq] at hr; exact hr.symm
/-- The reader's cell, at every place and depth. -/
theorem cell_calls (hd : ByteArray → Int × Int × Int) (I : World → Prop) (w : World) (b : Nat) (s : ByteArray) (i deep m : Nat) (off : Int) (hs : s.size ≤ 100000) (ho : 0 ≤ off ∧ off ≤ 1000) (hi : i ≤ s.size) (hdp : deep ≤ 1000) (hb : HeadB hd) (hc : HeadC hd b I) (hI : I w) (k : RdA w b s i off)
  (r : Except (Int × Nat) (SC × Nat)) (hr : cellP hd s m i deep = some r) :
  Calls Tryz.prog 47 #[.pointer (some ⟨b, 0, none⟩), .int .i64 deep] w (CellPost w b off r) :=
 (cells_all hd I b s off hs ho hb hc (m + 1) m w i deep r (by omega) hr hi hdp hI k).1
end Go.Proofs.YtkobpbbegalfpaaGreatDoor
