/-
  A decoder that is fed parts, whatever else must be kept.
-/
import Derived.Test.YtmcjfnebkpifnaaDoorFrNil
namespace Go.Proofs.YtmcjfnebkpifnaaDoor
open Go.RowKit Go.Proofs.YtmcjfnebkpifnaaDoorW.PrintWords Go.Proofs.YtmcjfnebkpifnaaDoorW.PrintLast Go.Proofs.YtmcjfnebkpifnaaDoorW.PrintMore Go.Proofs.YtmcjfnebkpifnaaDoor.PFrameFeeds
set_option linter.unusedVariables false
set_option linter.unusedSimpArgs false
set_option maxRecDepth 100000

set_option maxHeartbeats 8000000 in
theorem feedG_calls (w : World) (ok0 : Nat → Prop) (g : Nat) (s : DS) (A : Option Addr) (n c : Nat) (xss : List (List Int)) (hD : Dec w ok0 g s) (hfr : ∀ k, w.heap.size ≤ k → ok0 k) (hov : s.over = false)
    (hf0 : 0 ≤ s.fed) (hf : s.fed ≤ 500000) (hsl : s.bytes.length ≤ 40000) (hr : (Kd.slice 5 (Kd.int .u8)).C w A n xss) (hc : n ≤ c) (hn : n ≤ 100000) (hl : xss.flatten.length ≤ 40000) (hby : Bytes xss.flatten) :
    Calls Tryd.prog 12 #[.pointer (some ⟨g, 0, none⟩), .slice A n c] w fun e w' => ∃ v ev, e = .returned (.tuple #[v, ev]) ∧ Dec w' ok0 g (s.feedL xss.flatten).1 ∧ Keeps ok0 w w' ∧ FeedRes w w' ok0 (s.feedL xss.flatten).2.1 (s.feedL xss.flatten).2.2 v ev := by
  have HO := Aside0.mk (over_calls w _ g s hD)
  have HFRE := Aside0.mk hfr
  clear hfr
  rw [hov] at HO
  have HC := Aside0.mk (concat_calls w A n c xss hr hc hn (by omega))
  obtain ⟨all, hall⟩ : ∃ all, all = xss.flatten := ⟨_, rfl⟩
  rw [← hall] at HC hl hby ⊢
  obtain ⟨r, hr0⟩ : ∃ r, r = s.feedL all := ⟨_, rfl⟩
  rw [← hr0]
  obtain ⟨tot, htot⟩ : ∃ tot, tot = all.length := ⟨_, rfl⟩
  rw [← htot] at HC
  have HR0 := Aside0.mk hr0
  have HOV := Aside0.mk hov
  have HTOT := Aside0.mk htot
  have htl : tot ≤ 40000 := by omega
  clear hr0 hov htot hall hr
  go_enter Tryd.func12, Tryd.ntmps12
  go_wp2_with fail
  refine HO.out.mono ?_
  rintro e w' ⟨rfl, rfl⟩
  clear HO
  go_wp2_with fail
  refine HC.out.mono ?_
  rintro e w1 ⟨AP, cP, rfl, hRP, hBP⟩
  clear HC
  have hP1 : ∀ k, (Value.slice AP tot cP).ownBlock = some k → w.heap.size ≤ k ∧ k < w1.heap.size := fun k hk => ⟨Kd.R_base hRP k hk, Kd.R_lt hRP k hk⟩
  have HRP : Aside0 ((Kd.int .u8).R 5 w1 w.heap.size (fun k => some k = (Value.slice AP tot cP).ownBlock) (.slice AP tot cP) all) := ⟨Kd.R_of_own (Kd.own_of_R hRP) (fun k hk => hk.symm)⟩
  have HD1 : Aside0 (Dec w1 (fun k => ok0 k ∧ some k ≠ (Value.slice AP tot cP).ownBlock) g s) := ⟨(hD.bound.below hBP).mono (fun k hk => ⟨hk.1, fun e => by have := (hP1 k e.symm).1; omega⟩)⟩
  have HP1 := Aside0.mk hP1
  have HB1 := Aside0.mk hBP
  have hsz1 := hBP.size
  clear hRP hBP hP1 hD
  obtain ⟨okP, hokP⟩ : ∃ okP, okP = (fun k => ok0 k ∧ some k ≠ (Value.slice AP tot cP).ownBlock) := ⟨_, rfl⟩
  rw [← hokP] at HD1
  have HOKP := Aside0.mk hokP
  have HQ : Aside0 (∀ i, okP i → ok0 i) := ⟨fun i hi => by rw [hokP] at hi; exact hi.1⟩
  clear hokP
  go_wp2
  go_loopw [6, 19] (fun v i wr => ∃ (k : Nat) (st : DS) (done : List S63), k ≤ tot ∧ i = .int .i64 k ∧ (∃ A' n' c', v = .slice A' n' c') ∧ Aside0 ((k63).R 63 wr 0 okP v done) ∧ Aside0 (Dec wr okP g st) ∧ Keeps okP w1 wr ∧ Aside0 (ahead done (st.feedL (all.drop k)) = r) ∧ Aside0 (st.over = false) ∧ Aside0 (st.fed = s.fed + k) ∧ st.bytes.length ≤ s.bytes.length + k ∧ Aside0 (done.length ≤ k)) (fun _ i _ => tot - (intOf i).toNat)
  case atStart => exact ⟨0, s, [], by omega, rfl, ⟨_, _, _, rfl⟩, ⟨Kd.R_nil _ _ _ _ _⟩, HD1, Keeps.refl _ _, ⟨by rw [HR0.out, ahead_nil]; rfl⟩, HOV, ⟨by simp⟩, by simp, ⟨by simp⟩⟩
  case round =>
    obtain ⟨k, st, done, hk, rfl, ⟨A', n', c', rfl⟩, HV, HD, hKe, HE, HSO, HSF, hsb, HDL⟩ := hrel
    have hKsz := hKe.size
    have HKe := Aside0.mk hKe
    clear hKe
    by_cases hlt : k < tot
    · have hRPr := R_keeps HRP.out HKe.out (fun i hi h => by rw [HOKP.out] at h; exact h.2 hi)
      obtain ⟨hQQ, hcP, hCP⟩ := Kd.R_reads' hRPr
      obtain ⟨ad, hadd, hcell⟩ := Kd.at_int hCP (k : Int) (by omega) (by have := HTOT.out; omega)
      subst hadd
      obtain ⟨b, hbdef⟩ : ∃ b, b = all.getD k 0 := ⟨_, rfl⟩
      have hb01 := hby.getD k
      rw [← hbdef] at hb01
      have hb0 := hb01.1
      have hb1 := hb01.2
      have e4 : rd all (k : Int) = b := by rw [hbdef]; rfl
      rw [e4, Int.toNat_natCast] at hcell
      have HDR : Aside0 (all.drop k = b :: all.drop (k + 1)) := ⟨by
        have hkl : k < all.length := by have := HTOT.out; omega
        rw [List.drop_eq_getElem_cons hkl, hbdef, List.getD_eq_getElem?_getD, List.getElem?_eq_getElem hkl]; rfl⟩
      have HD1' := Aside0.mk (HD.out.away HV.out)
      have HFR : Aside0 (∀ i, wr.heap.size ≤ i → okP i ∧ some i ≠ (Value.slice A' n' c').ownBlock) := ⟨fun i hi => ⟨by
        rw [HOKP.out]
        exact ⟨HFRE.out i (by omega), fun e => by have := (HP1.out i e.symm).2; omega⟩, fun e => by have := Kd.R_lt HV.out i e.symm; omega⟩⟩
      clear hRPr hCP hcP hbdef hb01 e4 hQQ
      go_wp2_with fail
      by_cases hw0 : frWrong (st.bytes ++ [b]) = 0
      · by_cases hi0 : frIs (st.bytes ++ [b])
        · have HE2 := Aside0.mk (feedL_whole st b (all.drop (k + 1)) hw0 hi0)
          refine (feed1_whole wr _ g st b HD1'.out hb0 hb1 (by have := HSF.out; omega) (by have := HSF.out; omega) (by omega) HFR.out hw0 hi0).mono ?_
          rintro e w2 ⟨⟨x, hx1, rfl, hx2⟩, hD2, hK2⟩
          have HK2 := Aside0.mk hK2
          have RV2 : Aside0 ((k63).R 63 w2 0 okP (.slice A' n' c') done) := ⟨Kd.R_mono (R_keeps (frame_own HV.out) hK2 (fun i hi h => h.2 hi)) (fun i hi => HV.out.1 i hi.symm)⟩
          have HFR2 : Aside0 (∀ i, w2.heap.size ≤ i → okP i) := ⟨fun i hi => (HFR.out i (Nat.le_trans hK2.size hi)).1⟩
          clear hK2
          have HONE := Aside0.mk (frame_one (w := w2) ⟨(st.bytes ++ [b]).getD 0 0, strOfNums ((st.bytes ++ [b]).drop 5)⟩ hx2)
          clear hx1 hx2 hw0 hi0
          generalize (⟨(st.bytes ++ [b]).getD 0 0, strOfNums ((st.bytes ++ [b]).drop 5)⟩ : S63) = fr at *
          go_wp2_with (at_builtin; refine Kd.R_append_rows k63 (w0 := w2) 0 rfl (.tmp 29) (.tmp 30) 30 63 (.agg #[.int .u8 0, .string ByteArray.empty]) 24 rfl Tryd.underlying30 infoF rfl (by decide) (by decide) (.slice A' n' c') done [fr] (some ⟨x, 0, none⟩) 1 1 okP (fun _ => False) rfl rfl RV2.out HONE.out (fun _ _ h => frame_KM _ _ h) (fun _ h => h.elim) HFR2.out (below0 _) (Nat.zero_le _) ?aL ?_)
          case aL => have := HDL.out; omega
          intro v1 w3 ho _ hgr _
          obtain ⟨A4, n4, c4, rfl⟩ := sl_of_R ho
          have RO := Aside0.mk ho
          have HK3 : Aside0 (Keeps okP w1 w3) := ⟨(HKe.out.trans (HK2.out.mono (fun _ h => h.1))).grown hgr HV.out.1⟩
          have HD3 := Aside0.mk (hD2.grown hgr)
          clear ho hgr hD2 HK2 RV2 HFR2
          go_wp2
          go_roundw
          case rel => exact ⟨k + 1, _, _, by omega, by go_num, ⟨_, _, _, rfl⟩, RO, HD3, HK3.out, ⟨by rw [← HE.out, HDR.out, HE2.out, ahead_ahead]⟩, HSO, ⟨by show st.fed + 1 = _; rw [HSF.out]; push_cast; omega⟩, by simp, ⟨by have := HDL.out; simp; omega⟩⟩
          case measure => simp [intOf]; omega
        · have HE2 := Aside0.mk (feedL_wait st b (all.drop (k + 1)) hw0 hi0)
          refine (feed1_wait wr _ g st b HD1'.out hb0 hb1 (by have := HSF.out; omega) (by have := HSF.out; omega) (by omega) HFR.out hw0 hi0).mono ?_
          rintro e w2 ⟨rfl, hD2, hK2⟩
          have HK2 := Aside0.mk hK2
          have RV2 : Aside0 ((k63).R 63 w2 0 okP (.slice A' n' c') done) := ⟨Kd.R_mono (R_keeps (frame_own HV.out) hK2 (fun i hi h => h.2 hi)) (fun i hi => HV.out.1 i hi.symm)⟩
          have HFR2 : Aside0 (∀ i, w2.heap.size ≤ i → okP i) := ⟨fun i hi => (HFR.out i (Nat.le_trans hK2.size hi)).1⟩
          clear hK2
          clear hw0 hi0
          go_wp2_with (at_builtin; refine Kd.R_append_rows k63 (w0 := w2) 0 rfl (.tmp 29) (.tmp 30) 30 63 (.agg #[.int .u8 0, .string ByteArray.empty]) 24 rfl Tryd.underlying30 infoF rfl (by decide) (by decide) (.slice A' n' c') done [] none 0 0 okP (fun _ => False) rfl rfl RV2.out (frame_none w2) (fun _ _ h => frame_KM _ _ h) (fun _ h => h.elim) HFR2.out (below0 _) (Nat.zero_le _) ?aL ?_)
          case aL => have := HDL.out; omega
          intro v1 w3 ho _ hgr _
          obtain ⟨A4, n4, c4, rfl⟩ := sl_of_R ho
          have RO := Aside0.mk ho
          have HK3 : Aside0 (Keeps okP w1 w3) := ⟨(HKe.out.trans (HK2.out.mono (fun _ h => h.1))).grown hgr HV.out.1⟩
          have HD3 := Aside0.mk (hD2.grown hgr)
          clear ho hgr hD2 HK2 RV2 HFR2
          go_wp2
          go_roundw
          case rel => exact ⟨k + 1, _, _, by omega, by go_num, ⟨_, _, _, rfl⟩, RO, HD3, HK3.out, ⟨by rw [← HE.out, HDR.out, HE2.out]⟩, HSO, ⟨by show st.fed + 1 = _; rw [HSF.out]; push_cast; omega⟩, by simp; omega, ⟨by have := HDL.out; simp; omega⟩⟩
          case measure => simp [intOf]; omega
      · have HE2 := Aside0.mk (feedL_wrong st b (all.drop (k + 1)) hw0)
        refine (feed1_wrong wr _ g st b HD1'.out hb0 hb1 (by have := HSF.out; omega) (by have := HSF.out; omega) (by omega) HFR.out hw0).mono ?_
        rintro e w2 ⟨⟨ev, rfl, hev⟩, hD2, hK2⟩
        have HK2 := Aside0.mk hK2
        have RV2 : Aside0 ((k63).R 63 w2 0 okP (.slice A' n' c') done) := ⟨Kd.R_mono (R_keeps (frame_own HV.out) hK2 (fun i hi h => h.2 hi)) (fun i hi => HV.out.1 i hi.symm)⟩
        have HFR2 : Aside0 (∀ i, w2.heap.size ≤ i → okP i) := ⟨fun i hi => (HFR.out i (Nat.le_trans hK2.size hi)).1⟩
        have hsz2 := hK2.size
        clear hK2 hw0
        obtain ⟨eg, ef, rfl, hev2⟩ := hev
        have HEV2 : Aside0 (FrErr w2 wr.heap.size (.iface 93 (.pointer (some ⟨eg, 0, none⟩))) (frWrong (st.bytes ++ [b])) st.fed) := ⟨⟨eg, ef, rfl, hev2⟩⟩
        clear hev2
        go_wp2_with (at_builtin; refine Kd.R_append_rows k63 (w0 := w2) 0 rfl (.tmp 29) (.tmp 30) 30 63 (.agg #[.int .u8 0, .string ByteArray.empty]) 24 rfl Tryd.underlying30 infoF rfl (by decide) (by decide) (.slice A' n' c') done [] none 0 0 okP (fun _ => False) rfl rfl RV2.out (frame_none w2) (fun _ _ h => frame_KM _ _ h) (fun _ h => h.elim) HFR2.out (below0 _) (Nat.zero_le _) ?aL ?_)
        case aL => have := HDL.out; omega
        intro v1 w3 ho _ hgr _
        obtain ⟨A4, n4, c4, rfl⟩ := sl_of_R ho
        have RO := Aside0.mk ho
        have HK3 : Aside0 (Keeps okP w1 w3) := ⟨(HKe.out.trans (HK2.out.mono (fun _ h => h.1))).grown hgr HV.out.1⟩
        have HD3 := Aside0.mk (hD2.grown hgr)
        have HEV3 : Aside0 (FrErr w3 wr.heap.size (.iface 93 (.pointer (some ⟨eg, 0, none⟩))) (frWrong (st.bytes ++ [b])) st.fed) := ⟨by
          obtain ⟨g', f', h1, ⟨h2, v', h3, h4⟩, h5, h6⟩ := HEV2.out
          have hlt' : ∀ i, wr.heap.size ≤ i → some i ≠ (Value.slice A' n' c').ownBlock := fun i hi => (HFR.out i hi).2
          exact ⟨g', f', h1, ⟨h2, v', blk_grown h3 hgr (hlt' _ h2), Kd.R_mono (Kd.R_grown (Kd.R_bound h4) hgr (fun i hi => hlt' _ hi.2.1)) (fun _ _ => trivial)⟩, h5, blk_grown h6 hgr (hlt' _ h5)⟩⟩
        clear ho hgr hD2 HK2 RV2 HFR2 HEV2
        go_wp2
        go_ret2
        refine ⟨_, _, rfl, ?_, ?_, ?_, ?_, ?_⟩
        · rw [← HE.out, HDR.out, HE2.out]
          exact HD3.out.mono HQ.out
        · exact ((Keeps.refl ok0 _).below HB1.out).trans (HK3.out.mono HQ.out)
        · rw [← HE.out, HDR.out, HE2.out]
          have e : ∀ x y, (ahead done (x, [], y)).2.1 = done := fun _ _ => by simp [ahead]
          rw [e]
          exact Kd.R_mono RO.out HQ.out
        · intro h
          rw [← HE.out, HDR.out, HE2.out] at h
          cases h
        · intro p hp
          rw [← HE.out, HDR.out, HE2.out] at hp
          injection hp with hp
          subst hp
          exact HEV3.out.lower (by omega)
    · have HDR : Aside0 (all.drop k = []) := ⟨List.drop_eq_nil_of_le (by have := HTOT.out; omega)⟩
      go_wp2
      go_ret2
      refine ⟨_, _, rfl, ?_, ?_, ?_, ?_, ?_⟩
      · rw [← HE.out, HDR.out, feedL_nil]
        exact HD.out.mono HQ.out
      · exact ((Keeps.refl ok0 _).below HB1.out).trans (HKe.out.mono HQ.out)
      · rw [← HE.out, HDR.out, feedL_nil]
        have e : (ahead done (st, [], none)).2.1 = done := by simp [ahead]
        rw [e]
        exact Kd.R_mono HV.out HQ.out
      · intro _; rfl
      · intro p hp
        rw [← HE.out, HDR.out, feedL_nil] at hp
        cases hp

end Go.Proofs.YtmcjfnebkpifnaaDoor
