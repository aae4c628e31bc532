/-
  FrameCuts: the walk.
-/
import Derived.Test.YtmcjfnebkpifnaaDoorFrCutsP
namespace Go.Proofs.YtmcjfnebkpifnaaDoor
open Go.RowKit Go.Proofs.YtmcjfnebkpifnaaDoorW.PrintWords Go.Proofs.YtmcjfnebkpifnaaDoorW.PrintLast Go.Proofs.YtmcjfnebkpifnaaDoorW.PrintMore Go.Proofs.YtmcjfnebkpifnaaDoor.PFrameFeeds
set_option linter.unusedVariables false
set_option linter.unusedSimpArgs false
set_option maxRecDepth 100000

set_option maxHeartbeats 8000000 in
theorem cuts_few (w : World) (A : Option Addr) (n c : Nat) (xss : List (List Int)) (hr : (Kd.slice 5 (Kd.int .u8)).C w A n xss) (hc : n ≤ c) (hgr : sashlaw23_great.f 100 xss = some false) (h30 : n ≤ 30) (hl : xss.flatten.length ≤ 15000) (hby : Bytes xss.flatten) (hE : As.ErrT w) :
    Calls Tryd.prog 4 #[.slice A n c] w fun e w' => e = .returned (.bool true) ∧ Below w.heap.size w w' := by
  have hlen := Kd.C_len hr
  subst hlen
  have HGt := Aside0.mk (sashlaw23_great.calls 100 A c xss false w hr hc hgr)
  obtain ⟨n, hn⟩ : ∃ n, n = xss.length := ⟨_, rfl⟩
  rw [← hn] at HGt hr hc h30 ⊢
  have HR := Aside0.mk hr
  have HG := Aside0.mk hE
  have HBY := Aside0.mk hby
  have HN := Aside0.mk hn
  have HL := Aside0.mk hl
  clear hr hE hby hgr hn hl
  go_enter Tryd.func4, Tryd.ntmps4
  go_wp2_with fail
  with_reducible refine HGt.out.mono ?_
  rintro e w1 ⟨rfl, hd⟩
  have HB1 := Aside0.mk hd.below
  have hs1 := hd.below.size
  have HW0 : Aside0 ((Kd.int .u8).R 5 (w1.alloc (.cells #[] 5)) w1.heap.size (fun _ => True) (.slice (some ⟨w1.heap.size, 0, none⟩) 0 0) [] ∧ Below w1.heap.size w1 (w1.alloc (.cells #[] 5))) := ⟨R_empty (Kd.int .u8) _ _ _ _ (Nat.le_refl _) trivial, below_alloc (Below.refl _ _) _⟩
  clear hd HGt
  go_wp2
  go_loopw [3, 4] (fun v i wr => ∃ k : Nat, k ≤ n ∧ i = .int .i64 k ∧ (∃ A' n' c', v = .slice A' n' c') ∧ Aside0 ((Kd.int .u8).R 5 wr w1.heap.size (fun _ => True) v (xss.take k).flatten ∧ Below w1.heap.size w1 wr)) (fun _ i _ => n - (intOf i).toNat)
  case atStart => exact ⟨0, by omega, rfl, ⟨_, _, _, rfl⟩, ⟨by simpa using HW0.out.1, HW0.out.2⟩⟩
  case round =>
    obtain ⟨k, hk, rfl, ⟨A', n', c', rfl⟩, HR2⟩ := hrel
    have hsz := HR2.out.2.size
    by_cases hlt : k < n
    · obtain ⟨ad, A3, c3, rfl, hcell, hc3, hr3⟩ := rows_at (Kd.C_below (Kd.C_below HR.out HB1.out) HR2.out.2) k hlt
      have HTT := Aside0.mk (take_flat xss k (by have := HN.out; omega))
      have hle2 := take_flat_le xss (k + 1)
      have hsum : (xss.take k).flatten.length + (xss.getD k []).length ≤ 1000000 := by
        rw [HTT.out, List.length_append] at hle2; have := HL.out; omega
      obtain ⟨ys, hys⟩ : ∃ ys, ys = xss.getD k [] := ⟨_, rfl⟩
      rw [← hys] at hcell hc3 hr3 HTT hsum
      have HR3 := Aside0.mk hr3
      clear hr3 hle2 hys
      go_wp2_with (at_builtin; refine Kd.R_append_row (Value.int .u8) 0 (w0 := w1) w1.heap.size rfl (.tmp 32) (.tmp 36) 27 5 (.int .u8 0) 1 rfl Tryd.underlying27 infoB rfl (by decide) (.slice A' n' c') (xss.take k).flatten ys A3 ys.length c3 (fun _ => True) rfl rfl (fun _ _ => trivial) HR2.out.1 HR3.out HR2.out.2 hsz ?aL ?_)
      case aL => omega
      intro v1 w2 ho hb2 _ _
      obtain ⟨A4, n4, c4, rfl⟩ := sl_of_R ho
      rw [← HTT.out] at ho
      have RO := Aside0.mk (And.intro ho hb2)
      clear ho hb2
      go_wp2
      go_roundw
      case rel => exact ⟨k + 1, by omega, by go_num, ⟨_, _, _, rfl⟩, RO⟩
      case measure => simp [intOf]; omega
    · have hkn : k = n := by omega
      subst hkn
      have HK : (xss.take k).flatten = xss.flatten := by rw [HN.out, List.take_length]
      obtain ⟨all, hall⟩ : ∃ all, all = xss.flatten := ⟨_, rfl⟩
      rw [HK, ← hall] at HR2
      have HX : Aside0 ((Kd.slice 5 (Kd.int .u8)).C wr A k xss) := ⟨Kd.C_below (Kd.C_below HR.out HB1.out) HR2.out.2⟩
      have hl2 : all.length ≤ 15000 := by rw [hall]; exact HL.out
      have hby2 : Bytes all := by rw [hall]; exact HBY.out
      have HALL := Aside0.mk hall
      have HB2 := Aside0.mk (HB1.out.trans (HR2.out.2.mono hs1))
      obtain ⟨hn', hc', hC'⟩ := Kd.R_reads' HR2.out.1
      subst hn'
      obtain ⟨r, hr⟩ : ∃ r, r = DS.init.feedL all := ⟨_, rfl⟩
      have HRD := read_calls wr A' all.length c' all hC' hc' (by omega) hby2
      rw [← hr] at HRD
      replace HRD := Aside0.mk HRD
      have HRR := Aside0.mk hr
      have HCA := Aside0.mk (And.intro hC' hc')
      have HBYA := Aside0.mk hby2
      obtain ⟨tot, htot⟩ : ∃ tot, tot = all.length := ⟨_, rfl⟩
      rw [← htot] at HRD HCA hl2 ⊢
      have HTOT := Aside0.mk htot
      clear htot hr hall hby2 hC' hc' HK HR2 hlt HW0 HBY HL HR HB1
      go_wp2_with fail
      with_reducible refine HRD.out.mono ?_
      rintro e w3 ⟨v1, ev1, rfl, hb3, hres1⟩
      obtain ⟨A1, n1, c1, rfl⟩ := sl_of_R hres1.1
      have HB3 := Aside0.mk (HB2.out.trans (hb3.mono HB2.out.size))
      have HRES1 := Aside0.mk hres1
      have HX3 : Aside0 ((Kd.slice 5 (Kd.int .u8)).C w3 A k xss) := ⟨Kd.C_below HX.out hb3⟩
      have HCA3 : Aside0 ((Kd.int .u8).C w3 A' tot all) := ⟨Kd.C_below HCA.out.1 hb3⟩
      clear hb3 hres1 HRD HX HB2
      go_wp2_with fail
      refine (newd_calls w3).mono ?_
      rintro e w4 ⟨rfl, hw4⟩
      have HD4 : Dec w4 (fun k => w3.heap.size ≤ k) w3.heap.size DS.init := by rw [hw4]; exact newd_dec w3 w3.heap.size (Nat.le_refl _)
      have hb4 : Below w3.heap.size w3 w4 := by rw [hw4]; exact below_alloc (Below.refl _ _) _
      have hF := feed_calls w4 w3.heap.size w3.heap.size DS.init A k c xss HD4 hb4.size rfl (by decide) (by decide) (by decide) (Kd.C_below HX3.out hb4) hc (by omega) (by rw [← HALL.out, ← HTOT.out]; omega) (by rw [← HALL.out]; exact HBYA.out)
      rw [← HALL.out, ← HRR.out] at hF
      have HF := Aside0.mk hF
      have HB4 := Aside0.mk hb4
      clear HD4 hw4 hF hb4
      go_wp2_with fail
      with_reducible refine HF.out.mono ?_
      rintro e w5 ⟨v2, ev2, rfl, hD5, hb5, hres2⟩
      obtain ⟨A2, n2, c2, rfl⟩ := sl_of_R hres2.1
      have hb35 := HB4.out.trans hb5
      have HB35 := Aside0.mk hb35
      have HB5 := Aside0.mk (HB3.out.trans (hb35.mono HB3.out.size))
      have HD5 := Aside0.mk hD5
      have HRES2 := Aside0.mk hres2
      have HCA5 : Aside0 ((Kd.int .u8).C w5 A' tot all) := ⟨Kd.C_below HCA3.out hb35⟩
      clear hD5 hb5 hres2 hb35 HF HB4 HX3 HCA3
      go_wp2_with fail
      refine (newd_calls w5).mono ?_
      rintro e w6 ⟨rfl, hw6⟩
      have HD6 : Dec w6 (fun k => w5.heap.size ≤ k) w5.heap.size DS.init := by rw [hw6]; exact newd_dec w5 w5.heap.size (Nat.le_refl _)
      have hb6 : Below w5.heap.size w5 w6 := by rw [hw6]; exact below_alloc (Below.refl _ _) _
      have HB7 : Aside0 (Below w5.heap.size w5 (w6.alloc (.cells #[] 63))) := ⟨below_alloc hb6 _⟩
      have HD7 : Aside0 (Dec (w6.alloc (.cells #[] 63)) (fun k => w5.heap.size ≤ k) w5.heap.size DS.init) := ⟨HD6.below (below_alloc (Below.refl _ _) _)⟩
      have HO7 : Aside0 ((k63).R 63 (w6.alloc (.cells #[] 63)) 0 (fun k => w5.heap.size ≤ k) (.slice (some ⟨w6.heap.size, 0, none⟩) 0 0) []) := ⟨R_empty k63 _ _ _ _ (Nat.zero_le _) hb6.size⟩
      clear HD6 hw6 hb6
      obtain ⟨okA, hokA⟩ : ∃ okA : Nat → Prop, okA = (fun k => w5.heap.size ≤ k) := ⟨_, rfl⟩
      rw [← hokA] at HD7 HO7
      have HOK := Aside0.mk hokA
      clear hokA
      go_wp2
      generalize w6.alloc (.cells #[] 63) = w7 at *
      go_loopw [12, 13, 14, 15] (fun v no at_ i wq => ∃ (k : Nat) (st : DS) (done : List S63) (q1 q2 : Int), k ≤ tot ∧ i = .int .i64 k ∧ no = .int .i64 q1 ∧ at_ = .int .i64 q2 ∧ (∃ A' n' c', v = .slice A' n' c') ∧ Aside0 ((k63).R 63 wq 0 okA v done ∧ Dec wq okA w5.heap.size st ∧ Keeps okA w7 wq ∧ done.length ≤ k) ∧ Aside0 (q1 = 0 → q2 = 0 ∧ ahead done (st.feedL (all.drop k)) = r ∧ st.over = false ∧ st.fed = k ∧ st.bytes.length ≤ k) ∧ Aside0 (q1 ≠ 0 → r = (st, done, some (q1, q2)))) (fun _ _ _ i _ => tot - (intOf i).toNat)
      case atStart => exact ⟨0, DS.init, [], 0, 0, by omega, rfl, rfl, rfl, ⟨_, _, _, rfl⟩, ⟨HO7.out, HD7.out, Keeps.refl _ _, by simp⟩, ⟨fun _ => ⟨rfl, by rw [List.drop_zero, ← HRR.out, ahead_nil], rfl, rfl, by simp [DS.init]⟩⟩, ⟨fun h => absurd rfl h⟩⟩
      case round =>
        obtain ⟨j, st, done, q1, q2, hj, rfl, rfl, rfl, ⟨A4, n4, c4, rfl⟩, HM, HZ, HNZ⟩ := hrel
        have hbw : Below w5.heap.size w5 wr := HB7.out.trans (HM.out.2.2.1.toBelow HB7.out.size (fun k hk => by rw [HOK.out] at hk; exact hk))
        have hszw := hbw.size
        have HBW := Aside0.mk hbw
        clear hbw
        by_cases hlt : j < tot
        · by_cases hz : q1 = 0
          · subst hz
            obtain ⟨hq2, hE, hov, hfd, hbl⟩ := HZ.out rfl
            subst hq2
            obtain ⟨b, hb⟩ : ∃ b, b = all.getD j 0 := ⟨_, rfl⟩
            obtain ⟨X, hsl, hCX⟩ := byte_cut wr A' tot c' j all (Kd.C_below HCA5.out HBW.out) HCA.out.2 hlt
            rw [← hb] at hCX
            have hdr : all.drop j = b :: all.drop (j + 1) := by
              have hjl : j < all.length := by have := HTOT.out; omega
              rw [List.drop_eq_getElem_cons hjl, hb, List.getD_eq_getElem?_getD, List.getElem?_eq_getElem hjl]; rfl
            have hb1 : Bytes [b] := by
              have := HBYA.out.getD j
              intro x hx
              obtain rfl : x = b := by simpa using hx
              rw [hb]; exact this
            rw [hdr] at hE
            have hl2' : ((wr.alloc (.cells #[] 5))).heap.size = wr.heap.size + 1 := by simp
            have hC2 : (Kd.slice 5 (Kd.int .u8)).C ((wr.alloc (.cells #[] 5)).alloc (.cells #[.slice (some ⟨wr.heap.size, 0, none⟩) 0 0, .slice X 1 (c' - j)] 27)) (some ⟨(wr.alloc (.cells #[] 5)).heap.size, 0, none⟩) 2 [[], [b]] :=
              lit_rows (wr.alloc (.cells #[] 5)) 27 [.slice (some ⟨wr.heap.size, 0, none⟩) 0 0, .slice X 1 (c' - j)] [[], [b]] (by simp) (fun i p hp => by
                match i, hp with
                | 0, hp =>
                  obtain rfl : [] = p := by simpa using hp
                  exact ⟨_, 0, rfl, Nat.le_refl _, ⟨rfl, by decide, fun h => absurd h (by decide)⟩⟩
                | 1, hp =>
                  obtain rfl : [b] = p := by simpa using hp
                  exact ⟨X, c' - j, rfl, by have := HCA.out.2; simp; omega, Kd.C_alloc hCX _⟩)
            rw [hl2'] at hC2
            have hbe2 : Below wr.heap.size wr ((wr.alloc (.cells #[] 5)).alloc (.cells #[.slice (some ⟨wr.heap.size, 0, none⟩) 0 0, .slice X 1 (c' - j)] 27)) := below_alloc (below_alloc (Below.refl _ _) _) _
            have hown : ∀ i, wr.heap.size ≤ i → some i ≠ (Value.slice A4 n4 c4).ownBlock := fun i hi e => by have := Kd.R_lt HM.out.1 i e.symm; omega
            have hF := feedG_calls _ (fun i => okA i ∧ some i ≠ (Value.slice A4 n4 c4).ownBlock) w5.heap.size st _ 2 2 [[], [b]] ((HM.out.2.1.away HM.out.1).below hbe2) (fun i hi => ⟨by rw [HOK.out]; have := hbe2.size; omega, hown i (by have := hbe2.size; omega)⟩) hov (by omega) (by omega) (by omega) hC2 (Nat.le_refl _) (by decide) (by simp) (by simpa using hb1)
            have efl : ([[], [b]] : List (List Int)).flatten = [b] := by simp
            rw [efl] at hF
            have hlen1 := feedL_len [b] st
            obtain ⟨qq, hqq⟩ : ∃ qq, qq = st.feedL [b] := ⟨_, rfl⟩
            rw [← hqq] at hF hlen1
            have hRD2 := Kd.R_below HM.out.1 hbe2
            have HF := Aside0.mk hF
            have HSL := Aside0.mk hsl
            have HQQ := Aside0.mk hqq
            have HEE := Aside0.mk (And.intro hE (And.intro hov (And.intro hfd hbl)))
            have HBE2 := Aside0.mk hbe2
            have HRD2 := Aside0.mk hRD2
            have HOWN := Aside0.mk hown
            clear hF hqq hE hov hfd hbl hbe2 hRD2 hown hC2 hl2' hb1 hdr hCX hb efl HZ HNZ
            go_wp2_with fail
            with_reducible refine HF.out.mono ?_
            rintro e w8 ⟨v5, ev5, rfl, hD8, hK8, hres8⟩
            clear hsl
            obtain ⟨A5, n5, c5, rfl⟩ := sl_of_R hres8.1
            obtain ⟨hn5, hc5, hC5⟩ := Kd.R_reads' hres8.1
            have RV8 : Aside0 ((k63).R 63 w8 0 okA (.slice A4 n4 c4) done) := ⟨Kd.R_mono (R_keeps (frame_own HRD2.out) hK8 (fun i hi h => h.2 hi)) (fun i hi => HRD2.out.1 i hi.symm)⟩
            have HC5 : Aside0 ((k63).C w8 A5 n5 qq.2.1) := ⟨by rw [hn5]; exact hC5⟩
            have HFR8 : Aside0 (∀ i, w8.heap.size ≤ i → okA i) := ⟨fun i hi => by rw [HOK.out]; have := hK8.size; have := HBE2.out.size; omega⟩
            have hn5' : n5 ≤ 1 := by rw [hn5]; simpa using hlen1
            have HD8 := Aside0.mk hD8
            have HK8 := Aside0.mk hK8
            have HRES8 := Aside0.mk hres8
            have hdl := HM.out.2.2.2
            clear hD8 hK8 hres8 hn5 hc5 hC5 HF HRD2 hlen1
            go_wp2_with (at_builtin; refine Kd.R_append_rows k63 (w0 := w8) 0 rfl (.tmp 75) (.tmp 76) 30 63 (.agg #[.int .u8 0, .string ByteArray.empty]) 24 rfl Tryd.underlying30 infoF rfl (by decide) (by decide) (.slice A4 n4 c4) done qq.2.1 A5 n5 c5 okA (fun _ => False) rfl rfl RV8.out HC5.out (fun _ _ h => frame_KM _ _ h) (fun _ h => h.elim) HFR8.out (below0 _) (Nat.zero_le _) ?aL ?_)
            case aL => omega
            intro v9 w9 ho _ hgr _
            obtain ⟨A6, n6, c6, rfl⟩ := sl_of_R ho
            have RO := Aside0.mk ho
            have HK9 : Aside0 (Keeps okA w7 w9) := ⟨((HM.out.2.2.1.below HBE2.out).trans (HK8.out.mono (fun _ h => h.1))).grown hgr HM.out.1.1⟩
            have HD9 := Aside0.mk (HD8.out.grown hgr)
            have HEV9 : Aside0 (EvOK w9 ev5 qq.2.2) := ⟨EvOK.grown HRES8.out hgr (fun i hi => HOWN.out i (Nat.le_trans HBE2.out.size hi))⟩
            have hbw9 : Below w5.heap.size w5 w9 := HB7.out.trans (HK9.out.toBelow HB7.out.size (fun k hk => by rw [HOK.out] at hk; exact hk))
            have HG9 : Aside0 (As.ErrT w9) := ⟨(HG.out.below HB5.out).below hbw9⟩
            have HCO := Aside0.mk (codeE_calls w9 ev5 _ HEV9.out HG9.out)
            clear ho hgr HD8 HK8 HRES8 RV8 HC5 HFR8 hbw9
            go_wp2_with fail
            with_reducible refine HCO.out.mono ?_
            rintro e w10 ⟨rfl, hb10⟩
            have HAT := Aside0.mk (atE_calls w10 ev5 _ (HEV9.out.below hb10) (HG9.out.below hb10))
            have HB10 := Aside0.mk hb10
            clear hb10 HCO HEV9 HG9
            go_wp2_with fail
            with_reducible refine HAT.out.mono ?_
            rintro e w11 ⟨bq, rfl, hb11⟩
            have HB11 : Aside0 (Below w9.heap.size w9 w11) := ⟨HB10.out.trans (hb11.mono HB10.out.size)⟩
            clear hb11 HAT HB10
            go_wp2
            go_roundw
            case rel =>
              refine ⟨j + 1, qq.1, done ++ qq.2.1, eC qq.2.2, eA qq.2.2, by omega, by go_num, rfl, rfl, ⟨_, _, _, rfl⟩, ⟨Kd.R_below RO.out HB11.out, HD9.out.below HB11.out, HK9.out.below HB11.out, ?_⟩, ⟨fun h0 => ?_⟩, ⟨fun h0 => ?_⟩⟩
              · have := feedL_len [b] st
                rw [← HQQ.out] at this
                simp at this ⊢
                omega
              · cases her : qq.2.2 with
                | none =>
                  obtain ⟨f1, f2, f3, f4, _⟩ := feed_none st b (all.drop (j + 1)) (by rw [← HQQ.out]; exact her)
                  rw [← HQQ.out] at f1 f2 f3 f4
                  refine ⟨rfl, ?_, by rw [f2]; exact HEE.out.2.1, by rw [f3, HEE.out.2.2.1]; push_cast; rfl, by have := HEE.out.2.2.2; omega⟩
                  rw [← HEE.out.1, f1, ahead_ahead]
                | some p =>
                  obtain ⟨_, _, f3⟩ := feed_some st b (all.drop (j + 1)) p (by rw [← HQQ.out]; exact her)
                  rw [her] at h0
                  exact absurd h0 f3
              · cases her : qq.2.2 with
                | none => rw [her] at h0; exact absurd rfl h0
                | some p =>
                  obtain ⟨f1, f2, f3⟩ := feed_some st b (all.drop (j + 1)) p (by rw [← HQQ.out]; exact her)
                  rw [← HQQ.out] at f1 f2
                  rw [← HEE.out.1, f1]
                  unfold ahead
                  rw [her]
                  rfl
            case measure => simp [intOf]; omega
          · have hqb : (q1 == 0) = false := beq_eq_false_iff_ne.2 hz
            have hT : r.1 = st ∧ r.2.1 = done ∧ eC r.2.2 = q1 ∧ eA r.2.2 = q2 := by
              rw [HNZ.out hz]; exact ⟨rfl, rfl, rfl, rfl⟩
            clear hz
            obtain ⟨hT1, hT2, hT3, hT4⟩ := hT
            have HDS := Aside0.mk HM.out.2.1
            have HRO := Aside0.mk HM.out.1
            rw [← hT1] at HDS
            rw [← hT2] at HRO
            have hb3w := HB35.out.trans (HBW.out.mono HB35.out.size)
            have HG2 : Aside0 (As.ErrT wr) := ⟨(HG.out.below HB5.out).below HBW.out⟩
            have HE1 : Aside0 (EvOK wr ev1 r.2.2) := ⟨(EvOK.of HRES1.out).below hb3w⟩
            have HE2 : Aside0 (EvOK wr ev2 r.2.2) := ⟨(EvOK.of HRES2.out).below HBW.out⟩
            obtain ⟨m1, d1, x1⟩ := Kd.R_reads' (Kd.R_below HRES1.out.1 hb3w)
            obtain ⟨m2, d2, x2⟩ := Kd.R_reads' (Kd.R_below HRES2.out.1 HBW.out)
            obtain ⟨m3, d3, x3⟩ := Kd.R_reads' HRO.out
            have hlf : r.2.1.length ≤ 15000 := by rw [HRR.out]; have := feedL_len all DS.init; have := HTOT.out; omega
            obtain ⟨fr, hfr⟩ : ∃ fr, fr = r.2.1 := ⟨_, rfl⟩
            rw [← hfr] at m1 x1 m2 x2 m3 x3 hlf
            subst m1
            subst m2
            subst m3
            have HAT1 : Aside0 (∀ w', Below wr.heap.size wr w' → Calls Tryd.prog 14 #[ev1] w' fun e w'' => ∃ b, e = .returned (.tuple #[.int .i64 q2, .bool b]) ∧ Below w'.heap.size w' w'') := ⟨fun w' hb => by have h := atE_calls w' ev1 _ (HE1.out.below hb) (HG2.out.below hb); rw [hT4] at h; exact h⟩
            have HAT2 : Aside0 (∀ w', Below wr.heap.size wr w' → Calls Tryd.prog 14 #[ev2] w' fun e w'' => ∃ b, e = .returned (.tuple #[.int .i64 q2, .bool b]) ∧ Below w'.heap.size w' w'') := ⟨fun w' hb => by have h := atE_calls w' ev2 _ (HE2.out.below hb) (HG2.out.below hb); rw [hT4] at h; exact h⟩
            have HCO1 : Aside0 (∀ w', Below wr.heap.size wr w' → Calls Tryd.prog 16 #[ev1] w' fun e w'' => e = .returned (.int .i64 q1) ∧ Below w'.heap.size w' w'') := ⟨fun w' hb => by have h := codeE_calls w' ev1 _ (HE1.out.below hb) (HG2.out.below hb); rw [hT3] at h; exact h⟩
            have HCO2 : Aside0 (∀ w', Below wr.heap.size wr w' → Calls Tryd.prog 16 #[ev2] w' fun e w'' => e = .returned (.int .i64 q1) ∧ Below w'.heap.size w' w'') := ⟨fun w' hb => by have h := codeE_calls w' ev2 _ (HE2.out.below hb) (HG2.out.below hb); rw [hT3] at h; exact h⟩
            have HS1 : Aside0 (∀ w', Below wr.heap.size wr w' → Calls Tryd.prog 15 #[.slice A1 fr.length c1, .slice A2 fr.length c2] w' fun e w'' => e = .returned (.bool true) ∧ Drawn0 w' w'') := ⟨fun w' hb => sashref23_Same.calls 20000 A1 c1 fr A2 c2 fr true w' (Kd.C_below x1 hb) d1 (Kd.C_below x2 hb) d2 (same_self fr (by omega) 20000 (by omega))⟩
            have HS2 : Aside0 (∀ w', Below wr.heap.size wr w' → Calls Tryd.prog 15 #[.slice A1 fr.length c1, .slice A4 fr.length c4] w' fun e w'' => e = .returned (.bool true) ∧ Drawn0 w' w'') := ⟨fun w' hb => sashref23_Same.calls 20000 A1 c1 fr A4 c4 fr true w' (Kd.C_below x1 hb) d1 (Kd.C_below x3 hb) d3 (same_self fr (by omega) 20000 (by omega))⟩
            have HWD : Aside0 (∀ w', Below wr.heap.size wr w' → Calls Tryd.prog 18 #[.pointer (some ⟨w3.heap.size, 0, none⟩)] w' fun e w'' => e = .returned (.int .i64 r.1.waits) ∧ w' = w'') := ⟨fun w' hb => waits_calls w' _ _ _ ((HD5.out.below HBW.out).below hb)⟩
            have HWS : Aside0 (∀ w', Below wr.heap.size wr w' → Calls Tryd.prog 18 #[.pointer (some ⟨w5.heap.size, 0, none⟩)] w' fun e w'' => e = .returned (.int .i64 r.1.waits) ∧ w' = w'') := ⟨fun w' hb => waits_calls w' _ _ _ (HDS.out.below hb)⟩
            have HOD : Aside0 (∀ w', Below wr.heap.size wr w' → Calls Tryd.prog 17 #[.pointer (some ⟨w3.heap.size, 0, none⟩)] w' fun e w'' => e = .returned (.bool r.1.over) ∧ w' = w'') := ⟨fun w' hb => over_calls w' _ _ _ ((HD5.out.below HBW.out).below hb)⟩
            have HOS : Aside0 (∀ w', Below wr.heap.size wr w' → Calls Tryd.prog 17 #[.pointer (some ⟨w5.heap.size, 0, none⟩)] w' fun e w'' => e = .returned (.bool r.1.over) ∧ w' = w'') := ⟨fun w' hb => over_calls w' _ _ _ (HDS.out.below hb)⟩
            have HFIN : Aside0 (Below w.heap.size w wr) := ⟨HB5.out.trans (HBW.out.mono HB5.out.size)⟩
            have HB : Aside0 (Below wr.heap.size wr wr) := ⟨Below.refl _ _⟩
            clear x1 x2 x3 d1 d2 d3 hb3w hT1 hT2 hT3 hT4 hlf hfr HM HDS HRO HE1 HE2 HG2 HZ HNZ HRES1 HRES2 HD5 HBW HB5 HB35 HB7
            generalize r.1.waits = rw_ at *
            generalize r.1.over = ro_ at *
            go_wp2_with fail
            with_reducible refine (HAT1.out _ HB.out).mono ?_
            rintro e wx0 ⟨b1, rfl, hb⟩
            replace HB := Aside0.mk (HB.out.trans (hb.mono HB.out.size))
            clear hb
            go_wp2_with fail
            with_reducible refine (HAT2.out _ HB.out).mono ?_
            rintro e wx1 ⟨b2, rfl, hb⟩
            replace HB := Aside0.mk (HB.out.trans (hb.mono HB.out.size))
            clear hb
            go_wp2_with fail
            with_reducible refine (HS1.out _ HB.out).mono ?_
            rintro e wx2 ⟨rfl, hd⟩
            replace HB := Aside0.mk (HB.out.trans (hd.below.mono HB.out.size))
            clear hd
            go_wp2_with fail
            with_reducible refine (HS2.out _ HB.out).mono ?_
            rintro e wx3 ⟨rfl, hd⟩
            replace HB := Aside0.mk (HB.out.trans (hd.below.mono HB.out.size))
            clear hd
            go_wp2_with fail
            with_reducible refine (HCO1.out _ HB.out).mono ?_
            rintro e wx4 ⟨rfl, hb⟩
            replace HB := Aside0.mk (HB.out.trans (hb.mono HB.out.size))
            clear hb
            go_wp2_with fail
            with_reducible refine (HCO2.out _ HB.out).mono ?_
            rintro e wx5 ⟨rfl, hb⟩
            replace HB := Aside0.mk (HB.out.trans (hb.mono HB.out.size))
            clear hb
            go_wp2_with fail
            with_reducible refine (HCO1.out _ HB.out).mono ?_
            rintro e wx6 ⟨rfl, hb⟩
            replace HB := Aside0.mk (HB.out.trans (hb.mono HB.out.size))
            clear hb
            go_wp2_with fail
            with_reducible refine (HWD.out _ HB.out).mono ?_
            rintro e wx7 ⟨rfl, rfl⟩
            go_wp2_with fail
            with_reducible refine (HWS.out _ HB.out).mono ?_
            rintro e wx8 ⟨rfl, rfl⟩
            go_wp2_with fail
            with_reducible refine (HOD.out _ HB.out).mono ?_
            rintro e wx9 ⟨rfl, rfl⟩
            go_wp2_with fail
            with_reducible refine (HOS.out _ HB.out).mono ?_
            rintro e wx10 ⟨rfl, rfl⟩
            go_wp2_with fail
            refine (awake_calls _).mono ?_
            rintro e wz ⟨rfl, hb⟩
            replace HB := Aside0.mk (HB.out.trans (hb.mono HB.out.size))
            clear hb
            go_wp2
            go_ret
            exact ⟨rfl, HFIN.out.trans (HB.out.mono HFIN.out.size)⟩
        · have hT : r.1 = st ∧ r.2.1 = done ∧ eC r.2.2 = q1 ∧ eA r.2.2 = q2 := by
            by_cases hz : q1 = 0
            · obtain ⟨z1, z2, _⟩ := HZ.out hz
              rw [List.drop_eq_nil_of_le (by have := HTOT.out; omega), feedL_nil] at z2
              rw [← z2]
              exact ⟨rfl, by simp [ahead], by rw [hz]; rfl, by rw [z1]; rfl⟩
            · rw [HNZ.out hz]; exact ⟨rfl, rfl, rfl, rfl⟩
          obtain ⟨hT1, hT2, hT3, hT4⟩ := hT
          have HDS := Aside0.mk HM.out.2.1
          have HRO := Aside0.mk HM.out.1
          rw [← hT1] at HDS
          rw [← hT2] at HRO
          have hb3w := HB35.out.trans (HBW.out.mono HB35.out.size)
          have HG2 : Aside0 (As.ErrT wr) := ⟨(HG.out.below HB5.out).below HBW.out⟩
          have HE1 : Aside0 (EvOK wr ev1 r.2.2) := ⟨(EvOK.of HRES1.out).below hb3w⟩
          have HE2 : Aside0 (EvOK wr ev2 r.2.2) := ⟨(EvOK.of HRES2.out).below HBW.out⟩
          obtain ⟨m1, d1, x1⟩ := Kd.R_reads' (Kd.R_below HRES1.out.1 hb3w)
          obtain ⟨m2, d2, x2⟩ := Kd.R_reads' (Kd.R_below HRES2.out.1 HBW.out)
          obtain ⟨m3, d3, x3⟩ := Kd.R_reads' HRO.out
          have hlf : r.2.1.length ≤ 15000 := by rw [HRR.out]; have := feedL_len all DS.init; have := HTOT.out; omega
          obtain ⟨fr, hfr⟩ : ∃ fr, fr = r.2.1 := ⟨_, rfl⟩
          rw [← hfr] at m1 x1 m2 x2 m3 x3 hlf
          subst m1
          subst m2
          subst m3
          have HAT1 : Aside0 (∀ w', Below wr.heap.size wr w' → Calls Tryd.prog 14 #[ev1] w' fun e w'' => ∃ b, e = .returned (.tuple #[.int .i64 q2, .bool b]) ∧ Below w'.heap.size w' w'') := ⟨fun w' hb => by have h := atE_calls w' ev1 _ (HE1.out.below hb) (HG2.out.below hb); rw [hT4] at h; exact h⟩
          have HAT2 : Aside0 (∀ w', Below wr.heap.size wr w' → Calls Tryd.prog 14 #[ev2] w' fun e w'' => ∃ b, e = .returned (.tuple #[.int .i64 q2, .bool b]) ∧ Below w'.heap.size w' w'') := ⟨fun w' hb => by have h := atE_calls w' ev2 _ (HE2.out.below hb) (HG2.out.below hb); rw [hT4] at h; exact h⟩
          have HCO1 : Aside0 (∀ w', Below wr.heap.size wr w' → Calls Tryd.prog 16 #[ev1] w' fun e w'' => e = .returned (.int .i64 q1) ∧ Below w'.heap.size w' w'') := ⟨fun w' hb => by have h := codeE_calls w' ev1 _ (HE1.out.below hb) (HG2.out.below hb); rw [hT3] at h; exact h⟩
          have HCO2 : Aside0 (∀ w', Below wr.heap.size wr w' → Calls Tryd.prog 16 #[ev2] w' fun e w'' => e = .returned (.int .i64 q1) ∧ Below w'.heap.size w' w'') := ⟨fun w' hb => by have h := codeE_calls w' ev2 _ (HE2.out.below hb) (HG2.out.below hb); rw [hT3] at h; exact h⟩
          have HS1 : Aside0 (∀ w', Below wr.heap.size wr w' → Calls Tryd.prog 15 #[.slice A1 fr.length c1, .slice A2 fr.length c2] w' fun e w'' => e = .returned (.bool true) ∧ Drawn0 w' w'') := ⟨fun w' hb => sashref23_Same.calls 20000 A1 c1 fr A2 c2 fr true w' (Kd.C_below x1 hb) d1 (Kd.C_below x2 hb) d2 (same_self fr (by omega) 20000 (by omega))⟩
          have HS2 : Aside0 (∀ w', Below wr.heap.size wr w' → Calls Tryd.prog 15 #[.slice A1 fr.length c1, .slice A4 fr.length c4] w' fun e w'' => e = .returned (.bool true) ∧ Drawn0 w' w'') := ⟨fun w' hb => sashref23_Same.calls 20000 A1 c1 fr A4 c4 fr true w' (Kd.C_below x1 hb) d1 (Kd.C_below x3 hb) d3 (same_self fr (by omega) 20000 (by omega))⟩
          have HWD : Aside0 (∀ w', Below wr.heap.size wr w' → Calls Tryd.prog 18 #[.pointer (some ⟨w3.heap.size, 0, none⟩)] w' fun e w'' => e = .returned (.int .i64 r.1.waits) ∧ w' = w'') := ⟨fun w' hb => waits_calls w' _ _ _ ((HD5.out.below HBW.out).below hb)⟩
          have HWS : Aside0 (∀ w', Below wr.heap.size wr w' → Calls Tryd.prog 18 #[.pointer (some ⟨w5.heap.size, 0, none⟩)] w' fun e w'' => e = .returned (.int .i64 r.1.waits) ∧ w' = w'') := ⟨fun w' hb => waits_calls w' _ _ _ (HDS.out.below hb)⟩
          have HOD : Aside0 (∀ w', Below wr.heap.size wr w' → Calls Tryd.prog 17 #[.pointer (some ⟨w3.heap.size, 0, none⟩)] w' fun e w'' => e = .returned (.bool r.1.over) ∧ w' = w'') := ⟨fun w' hb => over_calls w' _ _ _ ((HD5.out.below HBW.out).below hb)⟩
          have HOS : Aside0 (∀ w', Below wr.heap.size wr w' → Calls Tryd.prog 17 #[.pointer (some ⟨w5.heap.size, 0, none⟩)] w' fun e w'' => e = .returned (.bool r.1.over) ∧ w' = w'') := ⟨fun w' hb => over_calls w' _ _ _ (HDS.out.below hb)⟩
          have HFIN : Aside0 (Below w.heap.size w wr) := ⟨HB5.out.trans (HBW.out.mono HB5.out.size)⟩
          have HB : Aside0 (Below wr.heap.size wr wr) := ⟨Below.refl _ _⟩
          clear x1 x2 x3 d1 d2 d3 hb3w hT1 hT2 hT3 hT4 hlf hfr HM HDS HRO HE1 HE2 HG2 HZ HNZ HRES1 HRES2 HD5 HBW HB5 HB35 HB7
          generalize r.1.waits = rw_ at *
          generalize r.1.over = ro_ at *
          go_wp2_with fail
          with_reducible refine (HAT1.out _ HB.out).mono ?_
          rintro e wx0 ⟨b1, rfl, hb⟩
          replace HB := Aside0.mk (HB.out.trans (hb.mono HB.out.size))
          clear hb
          go_wp2_with fail
          with_reducible refine (HAT2.out _ HB.out).mono ?_
          rintro e wx1 ⟨b2, rfl, hb⟩
          replace HB := Aside0.mk (HB.out.trans (hb.mono HB.out.size))
          clear hb
          go_wp2_with fail
          with_reducible refine (HS1.out _ HB.out).mono ?_
          rintro e wx2 ⟨rfl, hd⟩
          replace HB := Aside0.mk (HB.out.trans (hd.below.mono HB.out.size))
          clear hd
          go_wp2_with fail
          with_reducible refine (HS2.out _ HB.out).mono ?_
          rintro e wx3 ⟨rfl, hd⟩
          replace HB := Aside0.mk (HB.out.trans (hd.below.mono HB.out.size))
          clear hd
          go_wp2_with fail
          with_reducible refine (HCO1.out _ HB.out).mono ?_
          rintro e wx4 ⟨rfl, hb⟩
          replace HB := Aside0.mk (HB.out.trans (hb.mono HB.out.size))
          clear hb
          go_wp2_with fail
          with_reducible refine (HCO2.out _ HB.out).mono ?_
          rintro e wx5 ⟨rfl, hb⟩
          replace HB := Aside0.mk (HB.out.trans (hb.mono HB.out.size))
          clear hb
          go_wp2_with fail
          with_reducible refine (HCO1.out _ HB.out).mono ?_
          rintro e wx6 ⟨rfl, hb⟩
          replace HB := Aside0.mk (HB.out.trans (hb.mono HB.out.size))
          clear hb
          go_wp2_with fail
          with_reducible refine (HWD.out _ HB.out).mono ?_
          rintro e wx7 ⟨rfl, rfl⟩
          go_wp2_with fail
          with_reducible refine (HWS.out _ HB.out).mono ?_
          rintro e wx8 ⟨rfl, rfl⟩
          go_wp2_with fail
          with_reducible refine (HOD.out _ HB.out).mono ?_
          rintro e wx9 ⟨rfl, rfl⟩
          go_wp2_with fail
          with_reducible refine (HOS.out _ HB.out).mono ?_
          rintro e wx10 ⟨rfl, rfl⟩
          go_wp2_with fail
          refine (awake_calls _).mono ?_
          rintro e wz ⟨rfl, hb⟩
          replace HB := Aside0.mk (HB.out.trans (hb.mono HB.out.size))
          clear hb
          go_wp2
          go_ret
          exact ⟨rfl, HFIN.out.trans (HB.out.mono HFIN.out.size)⟩

theorem cuts_many (w : World) (A : Option Addr) (n c : Nat) (xss : List (List Int)) (hr : (Kd.slice 5 (Kd.int .u8)).C w A n xss) (hc : n ≤ c) (hgr : sashlaw23_great.f 100 xss = some true) :
    Calls Tryd.prog 4 #[.slice A n c] w fun e w' => e = .returned (.bool true) ∧ Below w.heap.size w w' := by
  have hlen := Kd.C_len hr
  subst hlen
  have HGt := Aside0.mk (sashlaw23_great.calls 100 A c xss true w hr hc hgr)
  generalize xss.length = n at *
  clear hr hgr hc
  go_enter Tryd.func4, Tryd.ntmps4
  go_wp2_with fail
  with_reducible refine HGt.out.mono ?_
  rintro e w1 ⟨rfl, hd⟩
  have HB := Aside0.mk hd.below
  clear hd HGt
  go_wp2_with fail
  refine (awake_calls _).mono ?_
  rintro e wz ⟨rfl, hb⟩
  replace HB := Aside0.mk (HB.out.trans (hb.mono HB.out.size))
  clear hb
  go_wp2
  go_ret
  exact ⟨rfl, HB.out⟩
theorem cuts_calls (w : World) (A : Option Addr) (n c : Nat) (xss : List (List Int)) (hr : (Kd.slice 5 (Kd.int .u8)).C w A n xss) (hc : n ≤ c) (hby : ∀ x ∈ xss, ∀ b ∈ x, 0 ≤ b ∧ b ≤ 255) (hE : As.ErrT w) :
    Calls Tryd.prog 4 #[.slice A n c] w fun e w' => e = .returned (.bool true) ∧ Below w.heap.size w w' := by
  obtain ⟨r, hr1, hr2⟩ := great_ok xss
  cases r with
  | true => exact cuts_many w A n c xss hr hc hr1
  | false =>
    obtain ⟨h1, h2⟩ := hr2 rfl
    have h3 := flat_le xss h2
    refine cuts_few w A n c xss hr hc hr1 (by rw [← Kd.C_len hr]; exact h1) (by omega) (fun b hb => ?_) hE
    obtain ⟨x, hx, hb⟩ := List.mem_flatten.1 hb
    exact hby x hx b hb
end Go.Proofs.YtmcjfnebkpifnaaDoor
