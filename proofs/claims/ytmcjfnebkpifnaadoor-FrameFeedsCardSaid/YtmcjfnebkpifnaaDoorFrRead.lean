/-
  A decoder that is fed parts; what a new decoder makes of bytes.
-/
import Derived.Test.YtmcjfnebkpifnaaDoorFrConcat
namespace Go.Proofs.YtmcjfnebkpifnaaDoor
open Go.RowKit Go.Proofs.YtmcjfnebkpifnaaDoorW.PrintWords Go.Proofs.YtmcjfnebkpifnaaDoorW.PrintLast Go.Proofs.YtmcjfnebkpifnaaDoorW.PrintMore Go.Proofs.YtmcjfnebkpifnaaDoor.PFrameFeeds
set_option linter.unusedVariables false
set_option maxRecDepth 100000
set_option linter.unusedSimpArgs false

theorem over_calls (w : World) (ok : Nat → Prop) (g : Nat) (s : DS) (h : Dec w ok g s) :
    Calls Tryd.prog 17 #[.pointer (some ⟨g, 0, none⟩)] w fun e w' => e = .returned (.bool s.over) ∧ w = w' := by
  obtain ⟨A, c, blk, _, _⟩ := h.reads
  have c2 : w.cell? ⟨g, 2, none⟩ = some (.bool s.over) := by rw [blk_cell blk]; rfl
  clear blk h
  go_enter Tryd.func17, Tryd.ntmps17
  go_wp2
  go_ret
  exact ⟨rfl, rfl⟩

/-- How many bytes wait. -/
def DS.waits (s : DS) : Int := if s.over then 0 else (s.bytes.length : Int)
theorem waits_calls (w : World) (ok : Nat → Prop) (g : Nat) (s : DS) (h : Dec w ok g s) :
    Calls Tryd.prog 18 #[.pointer (some ⟨g, 0, none⟩)] w fun e w' => e = .returned (.int .i64 s.waits) ∧ w = w' := by
  have HO := Aside0.mk (over_calls w ok g s h)
  obtain ⟨A, c, blk, _, _⟩ := h.reads
  have c0 : w.cell? ⟨g, 0, none⟩ = some (.slice A s.bytes.length c) := by rw [blk_cell blk]; rfl
  clear blk h
  obtain ⟨n, hn⟩ : ∃ n, n = s.bytes.length := ⟨_, rfl⟩
  rw [← hn] at c0
  cases ho : s.over with
  | true =>
    have hw : s.waits = 0 := by simp [DS.waits, ho]
    rw [ho] at HO
    rw [hw]
    clear ho hw hn
    go_enter Tryd.func18, Tryd.ntmps18
    go_wp2_with (go_at_call 17; refine HO.out.mono ?_; rintro e w' ⟨rfl, rfl⟩)
    go_ret
    exact ⟨rfl, rfl⟩
  | false =>
    have hw : s.waits = (n : Int) := by simp [DS.waits, ho, hn]
    rw [ho] at HO
    rw [hw]
    clear ho hw hn
    go_enter Tryd.func18, Tryd.ntmps18
    go_wp2_with (go_at_call 17; refine HO.out.mono ?_; rintro e w' ⟨rfl, rfl⟩)
    go_ret
    exact ⟨rfl, rfl⟩

instance (bs : List Int) : Decidable (frIs bs) := inferInstanceAs (Decidable (_ ∧ _))

/-- What a decoder makes of bytes: its state, the frames, the error's number and its place. -/
def DS.feedL : DS → List Int → DS × List S63 × Option (Int × Int)
  | s, [] => (s, [], none)
  | s, b :: t =>
    if frWrong (s.bytes ++ [b]) = 0 then
      if frIs (s.bytes ++ [b]) then
        (DS.feedL { bytes := [], fed := s.fed + 1, over := s.over } t).map id fun r => (⟨(s.bytes ++ [b]).getD 0 0, strOfNums ((s.bytes ++ [b]).drop 5)⟩ :: r.1, r.2)
      else DS.feedL { bytes := s.bytes ++ [b], fed := s.fed + 1, over := s.over } t
    else ({ bytes := s.bytes ++ [b], fed := s.fed + 1, over := true }, [], some (frWrong (s.bytes ++ [b]), s.fed))
/-- Frames ahead. -/
def ahead (done : List S63) (r : DS × List S63 × Option (Int × Int)) : DS × List S63 × Option (Int × Int) := (r.1, done ++ r.2.1, r.2.2)
theorem feedL_whole (s : DS) (b : Int) (t : List Int) (h0 : frWrong (s.bytes ++ [b]) = 0) (h1 : frIs (s.bytes ++ [b])) :
    s.feedL (b :: t) = ahead [⟨(s.bytes ++ [b]).getD 0 0, strOfNums ((s.bytes ++ [b]).drop 5)⟩] (DS.feedL { bytes := [], fed := s.fed + 1, over := s.over } t) := by
  rw [DS.feedL, if_pos h0, if_pos h1]; rfl
theorem feedL_wait (s : DS) (b : Int) (t : List Int) (h0 : frWrong (s.bytes ++ [b]) = 0) (h1 : ¬ frIs (s.bytes ++ [b])) :
    s.feedL (b :: t) = DS.feedL { bytes := s.bytes ++ [b], fed := s.fed + 1, over := s.over } t := by
  rw [DS.feedL, if_pos h0, if_neg h1]
theorem feedL_wrong (s : DS) (b : Int) (t : List Int) (h0 : ¬ frWrong (s.bytes ++ [b]) = 0) :
    s.feedL (b :: t) = ({ bytes := s.bytes ++ [b], fed := s.fed + 1, over := true }, [], some (frWrong (s.bytes ++ [b]), s.fed)) := by
  rw [DS.feedL, if_neg h0]
theorem feedL_nil (s : DS) : s.feedL [] = (s, [], none) := by rw [DS.feedL]
theorem ahead_nil (r : DS × List S63 × Option (Int × Int)) : ahead [] r = r := rfl
theorem ahead_ahead (a b : List S63) (r : DS × List S63 × Option (Int × Int)) : ahead a (ahead b r) = ahead (a ++ b) r := by
  unfold ahead; simp [List.append_assoc]

theorem infoF : (Tryd.prog.info? 63).map (fun i => (i.zero, i.size, i.bytes)) = some (some (.agg #[.int .u8 0, .string ByteArray.empty]), 2, 24) := by kernel_rfl

/-- What Feed answers with, beside the state. -/
def FeedRes (w w' : World) (ok : Nat → Prop) (fs : List S63) (er : Option (Int × Int)) (v ev : Value) : Prop :=
  (k63).R 63 w' 0 ok v fs ∧ (er = none → ev = .nilIface) ∧ (∀ p, er = some p → FrErr w' w.heap.size ev p.1 p.2)

theorem frame_one {w : World} {x : Nat} (f : S63) (h : w.heap[x]? = some (.cells #[.int .u8 f.f0, .string f.f1] 63 (0, 0))) : ReadsRow ((k63).K w) (k63).sz w (some ⟨x, 0, none⟩) 1 [f] := by
  refine ⟨rfl, by decide, fun _ => ⟨_, rfl, fun j p hj => ?_⟩⟩
  match j, hj with
  | 0, hj =>
    obtain rfl : f = p := by simpa using hj
    refine ⟨[.int .u8 f.f0, .string f.f1], rfl, k63_mk w f, fun i u hu => ?_⟩
    rw [Nat.zero_mul, Nat.zero_add, add_plain, cell_of_row _ _ _ _ _ _ h]
    simpa using hu
theorem frame_none (w : World) : ReadsRow ((k63).K w) (k63).sz w none 0 [] := ⟨rfl, by decide, fun h => absurd h (by decide)⟩
theorem frame_KM {w : World} {ok : Nat → Prop} (x : S63) (cs : List Value) (h : (k63).K w x cs) : (k63).M w 0 ok x cs := by
  obtain rfl := k63_open h
  exact k63_mkM w 0 ok x

/-- A row of frames: its blocks are its own one alone. -/
theorem frame_own {w : World} {ok : Nat → Prop} {v : Value} {fs : List S63} (h : (k63).R 63 w 0 ok v fs) : (k63).R 63 w 0 (fun k => some k = v.ownBlock) v fs :=
  ⟨fun k hk => hk.symm, h.2.imp_ (fun x cs hp => by obtain rfl := k63_openM hp; exact k63_mkM w 0 _ x)⟩

theorem Dec.away {w : World} {ok : Nat → Prop} {g : Nat} {s : DS} {v : Value} {fs : List S63} {ok' : Nat → Prop} (h : Dec w ok g s) (hv : (k63).R 63 w 0 ok' v fs) : Dec w (fun k => ok k ∧ some k ≠ v.ownBlock) g s := by
  obtain ⟨h1, h2, vB, blk, r⟩ := h
  exact ⟨⟨h1, Kd.R_ne hv blk (by decide)⟩, h2, vB, blk, R_apart r hv (by decide)⟩
theorem Dec.mono {w : World} {ok ok' : Nat → Prop} {g : Nat} {s : DS} (h : Dec w ok g s) (hk : ∀ k, ok k → ok' k) : Dec w ok' g s := by
  obtain ⟨h1, h2, vB, blk, r⟩ := h
  exact ⟨hk _ h1, h2, vB, blk, Kd.R_mono r hk⟩
/-- Another row was written. -/
theorem Dec.grown {w w' : World} {ok : Nat → Prop} {g : Nat} {s : DS} {row : Option Nat} (h : Dec w (fun k => ok k ∧ some k ≠ row) g s) (hg : w.grownBy w' row) : Dec w' ok g s := by
  obtain ⟨h1, h2, vB, blk, r⟩ := h
  exact ⟨h1.1, h2, vB, blk_grown blk hg h1.2, Kd.R_mono (Kd.R_grown r hg (fun k hk => hk.2)) (fun _ hk => hk.1)⟩
theorem Dec.bound {w : World} {ok : Nat → Prop} {g : Nat} {s : DS} (h : Dec w ok g s) : Dec w (fun k => ok k ∧ k < w.heap.size) g s := by
  obtain ⟨h1, h2, vB, blk, r⟩ := h
  exact ⟨⟨h1, blk_lt blk⟩, h2, vB, blk, Kd.R_mono (Kd.R_bound r) (fun _ hk => ⟨hk.1, hk.2.2.1⟩)⟩
theorem FrErr.below {w w' : World} {base : Nat} {v : Value} {e at_ : Int} (h : FrErr w base v e at_) (hb : Below w.heap.size w w') : FrErr w' base v e at_ := by
  obtain ⟨g, f, h1, ⟨h2, v', h3, h4⟩, h5, h6⟩ := h
  exact ⟨g, f, h1, ⟨h2, v', (hb.block g (blk_lt h3)).trans h3, Kd.R_below h4 hb⟩, h5, (hb.block f (blk_lt h6)).trans h6⟩
theorem FrErr.lower {w : World} {base base' : Nat} {v : Value} {e at_ : Int} (h : FrErr w base v e at_) (hb : base' ≤ base) : FrErr w base' v e at_ := by
  obtain ⟨g, f, h1, ⟨h2, v', h3, h4⟩, h5, h6⟩ := h
  exact ⟨g, f, h1, ⟨Nat.le_trans hb h2, v', h3, Kd.R_lower h4 hb⟩, Nat.le_trans hb h5, h6⟩

set_option maxHeartbeats 8000000 in
theorem feed_calls (w : World) (base g : Nat) (s : DS) (A : Option Addr) (n c : Nat) (xss : List (List Int)) (hD : Dec w (fun k => base ≤ k) g s) (hbase : base ≤ w.heap.size) (hov : s.over = false)
    (hf0 : 0 ≤ s.fed) (hf : s.fed ≤ 500000) (hsl : s.bytes.length ≤ 40000) (hr : (Kd.slice 5 (Kd.int .u8)).C w A n xss) (hc : n ≤ c) (hn : n ≤ 100000) (hl : xss.flatten.length ≤ 40000) (hby : Bytes xss.flatten) :
    Calls Tryd.prog 12 #[.pointer (some ⟨g, 0, none⟩), .slice A n c] w fun e w' => ∃ v ev, e = .returned (.tuple #[v, ev]) ∧ Dec w' (fun k => base ≤ k) g (s.feedL xss.flatten).1 ∧ Below base w w' ∧ FeedRes w w' (fun k => base ≤ k) (s.feedL xss.flatten).2.1 (s.feedL xss.flatten).2.2 v ev := by
  have HO := Aside0.mk (over_calls w _ g s hD)
  rw [hov] at HO
  have HC := Aside0.mk (concat_calls w A n c xss hr hc hn (by omega))
  obtain ⟨all, hall⟩ : ∃ all, all = xss.flatten := ⟨_, rfl⟩
  rw [← hall] at HC hl hby ⊢
  obtain ⟨r, hr0⟩ : ∃ r, r = s.feedL all := ⟨_, rfl⟩
  rw [← hr0]
  obtain ⟨tot, htot⟩ : ∃ tot, tot = all.length := ⟨_, rfl⟩
  rw [← htot] at HC
  have HR0 := Aside0.mk hr0
  have HOV := Aside0.mk hov
  have HTOT := Aside0.mk htot
  have htl : tot ≤ 40000 := by omega
  clear hr0 hov htot hall hr
  go_enter Tryd.func12, Tryd.ntmps12
  go_wp2_with fail
  refine HO.out.mono ?_
  rintro e w' ⟨rfl, rfl⟩
  clear HO
  go_wp2_with fail
  refine HC.out.mono ?_
  rintro e w1 ⟨AP, cP, rfl, hRP, hBP⟩
  clear HC
  have hP1 : ∀ k, (Value.slice AP tot cP).ownBlock = some k → w.heap.size ≤ k ∧ k < w1.heap.size := fun k hk => ⟨Kd.R_base hRP k hk, Kd.R_lt hRP k hk⟩
  have HRP : Aside0 ((Kd.int .u8).R 5 w1 w.heap.size (fun k => some k = (Value.slice AP tot cP).ownBlock) (.slice AP tot cP) all) := ⟨Kd.R_of_own (Kd.own_of_R hRP) (fun k hk => hk.symm)⟩
  have HD1 : Aside0 (Dec w1 (fun k => base ≤ k ∧ some k ≠ (Value.slice AP tot cP).ownBlock) g s) := ⟨(hD.bound.below hBP).mono (fun k hk => ⟨hk.1, fun e => by have := (hP1 k e.symm).1; omega⟩)⟩
  have HP1 := Aside0.mk hP1
  have HB1 := Aside0.mk hBP
  have hsz1 := hBP.size
  clear hRP hBP hP1 hD
  obtain ⟨okP, hokP⟩ : ∃ okP, okP = (fun k => base ≤ k ∧ some k ≠ (Value.slice AP tot cP).ownBlock) := ⟨_, rfl⟩
  rw [← hokP] at HD1
  have HOKP := Aside0.mk hokP
  have HQ : Aside0 (∀ i, okP i → base ≤ i) := ⟨fun i hi => by rw [hokP] at hi; exact hi.1⟩
  clear hokP
  go_wp2
  go_loopw [6, 19] (fun v i wr => ∃ (k : Nat) (st : DS) (done : List S63), k ≤ tot ∧ i = .int .i64 k ∧ (∃ A' n' c', v = .slice A' n' c') ∧ Aside0 ((k63).R 63 wr 0 okP v done) ∧ Aside0 (Dec wr okP g st) ∧ Keeps okP w1 wr ∧ Aside0 (ahead done (st.feedL (all.drop k)) = r) ∧ Aside0 (st.over = false) ∧ Aside0 (st.fed = s.fed + k) ∧ st.bytes.length ≤ s.bytes.length + k ∧ Aside0 (done.length ≤ k)) (fun _ i _ => tot - (intOf i).toNat)
  case atStart => exact ⟨0, s, [], by omega, rfl, ⟨_, _, _, rfl⟩, ⟨Kd.R_nil _ _ _ _ _⟩, HD1, Keeps.refl _ _, ⟨by rw [HR0.out, ahead_nil]; rfl⟩, HOV, ⟨by simp⟩, by simp, ⟨by simp⟩⟩
  case round =>
    obtain ⟨k, st, done, hk, rfl, ⟨A', n', c', rfl⟩, HV, HD, hKe, HE, HSO, HSF, hsb, HDL⟩ := hrel
    have hKsz := hKe.size
    have HKe := Aside0.mk hKe
    clear hKe
    by_cases hlt : k < tot
    · have hRPr := R_keeps HRP.out HKe.out (fun i hi h => by rw [HOKP.out] at h; exact h.2 hi)
      obtain ⟨hQQ, hcP, hCP⟩ := Kd.R_reads' hRPr
      obtain ⟨ad, hadd, hcell⟩ := Kd.at_int hCP (k : Int) (by omega) (by have := HTOT.out; omega)
      subst hadd
      obtain ⟨b, hbdef⟩ : ∃ b, b = all.getD k 0 := ⟨_, rfl⟩
      have hb01 := hby.getD k
      rw [← hbdef] at hb01
      have hb0 := hb01.1
      have hb1 := hb01.2
      have e4 : rd all (k : Int) = b := by rw [hbdef]; rfl
      rw [e4, Int.toNat_natCast] at hcell
      have HDR : Aside0 (all.drop k = b :: all.drop (k + 1)) := ⟨by
        have hkl : k < all.length := by have := HTOT.out; omega
        rw [List.drop_eq_getElem_cons hkl, hbdef, List.getD_eq_getElem?_getD, List.getElem?_eq_getElem hkl]; rfl⟩
      have HD1' := Aside0.mk (HD.out.away HV.out)
      have HFR : Aside0 (∀ i, wr.heap.size ≤ i → okP i ∧ some i ≠ (Value.slice A' n' c').ownBlock) := ⟨fun i hi => ⟨by
        rw [HOKP.out]
        exact ⟨by omega, fun e => by have := (HP1.out i e.symm).2; omega⟩, fun e => by have := Kd.R_lt HV.out i e.symm; omega⟩⟩
      clear hRPr hCP hcP hbdef hb01 e4 hQQ
      go_wp2_with fail
      by_cases hw0 : frWrong (st.bytes ++ [b]) = 0
      · by_cases hi0 : frIs (st.bytes ++ [b])
        · have HE2 := Aside0.mk (feedL_whole st b (all.drop (k + 1)) hw0 hi0)
          refine (feed1_whole wr _ g st b HD1'.out hb0 hb1 (by have := HSF.out; omega) (by have := HSF.out; omega) (by omega) HFR.out hw0 hi0).mono ?_
          rintro e w2 ⟨⟨x, hx1, rfl, hx2⟩, hD2, hK2⟩
          have HK2 := Aside0.mk hK2
          have RV2 : Aside0 ((k63).R 63 w2 0 okP (.slice A' n' c') done) := ⟨Kd.R_mono (R_keeps (frame_own HV.out) hK2 (fun i hi h => h.2 hi)) (fun i hi => HV.out.1 i hi.symm)⟩
          have HFR2 : Aside0 (∀ i, w2.heap.size ≤ i → okP i) := ⟨fun i hi => (HFR.out i (Nat.le_trans hK2.size hi)).1⟩
          clear hK2
          have HONE := Aside0.mk (frame_one (w := w2) ⟨(st.bytes ++ [b]).getD 0 0, strOfNums ((st.bytes ++ [b]).drop 5)⟩ hx2)
          clear hx1 hx2 hw0 hi0
          generalize (⟨(st.bytes ++ [b]).getD 0 0, strOfNums ((st.bytes ++ [b]).drop 5)⟩ : S63) = fr at *
          go_wp2_with (at_builtin; refine Kd.R_append_rows k63 (w0 := w2) 0 rfl (.tmp 29) (.tmp 30) 30 63 (.agg #[.int .u8 0, .string ByteArray.empty]) 24 rfl Tryd.underlying30 infoF rfl (by decide) (by decide) (.slice A' n' c') done [fr] (some ⟨x, 0, none⟩) 1 1 okP (fun _ => False) rfl rfl RV2.out HONE.out (fun _ _ h => frame_KM _ _ h) (fun _ h => h.elim) HFR2.out (below0 _) (Nat.zero_le _) ?aL ?_)
          case aL => have := HDL.out; omega
          intro v1 w3 ho _ hgr _
          obtain ⟨A4, n4, c4, rfl⟩ := sl_of_R ho
          have RO := Aside0.mk ho
          have HK3 : Aside0 (Keeps okP w1 w3) := ⟨(HKe.out.trans (HK2.out.mono (fun _ h => h.1))).grown hgr HV.out.1⟩
          have HD3 := Aside0.mk (hD2.grown hgr)
          clear ho hgr hD2 HK2 RV2 HFR2
          go_wp2
          go_roundw
          case rel => exact ⟨k + 1, _, _, by omega, by go_num, ⟨_, _, _, rfl⟩, RO, HD3, HK3.out, ⟨by rw [← HE.out, HDR.out, HE2.out, ahead_ahead]⟩, HSO, ⟨by show st.fed + 1 = _; rw [HSF.out]; push_cast; omega⟩, by simp, ⟨by have := HDL.out; simp; omega⟩⟩
          case measure => simp [intOf]; omega
        · have HE2 := Aside0.mk (feedL_wait st b (all.drop (k + 1)) hw0 hi0)
          refine (feed1_wait wr _ g st b HD1'.out hb0 hb1 (by have := HSF.out; omega) (by have := HSF.out; omega) (by omega) HFR.out hw0 hi0).mono ?_
          rintro e w2 ⟨rfl, hD2, hK2⟩
          have HK2 := Aside0.mk hK2
          have RV2 : Aside0 ((k63).R 63 w2 0 okP (.slice A' n' c') done) := ⟨Kd.R_mono (R_keeps (frame_own HV.out) hK2 (fun i hi h => h.2 hi)) (fun i hi => HV.out.1 i hi.symm)⟩
          have HFR2 : Aside0 (∀ i, w2.heap.size ≤ i → okP i) := ⟨fun i hi => (HFR.out i (Nat.le_trans hK2.size hi)).1⟩
          clear hK2
          clear hw0 hi0
          go_wp2_with (at_builtin; refine Kd.R_append_rows k63 (w0 := w2) 0 rfl (.tmp 29) (.tmp 30) 30 63 (.agg #[.int .u8 0, .string ByteArray.empty]) 24 rfl Tryd.underlying30 infoF rfl (by decide) (by decide) (.slice A' n' c') done [] none 0 0 okP (fun _ => False) rfl rfl RV2.out (frame_none w2) (fun _ _ h => frame_KM _ _ h) (fun _ h => h.elim) HFR2.out (below0 _) (Nat.zero_le _) ?aL ?_)
          case aL => have := HDL.out; omega
          intro v1 w3 ho _ hgr _
          obtain ⟨A4, n4, c4, rfl⟩ := sl_of_R ho
          have RO := Aside0.mk ho
          have HK3 : Aside0 (Keeps okP w1 w3) := ⟨(HKe.out.trans (HK2.out.mono (fun _ h => h.1))).grown hgr HV.out.1⟩
          have HD3 := Aside0.mk (hD2.grown hgr)
          clear ho hgr hD2 HK2 RV2 HFR2
          go_wp2
          go_roundw
          case rel => exact ⟨k + 1, _, _, by omega, by go_num, ⟨_, _, _, rfl⟩, RO, HD3, HK3.out, ⟨by rw [← HE.out, HDR.out, HE2.out]⟩, HSO, ⟨by show st.fed + 1 = _; rw [HSF.out]; push_cast; omega⟩, by simp; omega, ⟨by have := HDL.out; simp; omega⟩⟩
          case measure => simp [intOf]; omega
      · have HE2 := Aside0.mk (feedL_wrong st b (all.drop (k + 1)) hw0)
        refine (feed1_wrong wr _ g st b HD1'.out hb0 hb1 (by have := HSF.out; omega) (by have := HSF.out; omega) (by omega) HFR.out hw0).mono ?_
        rintro e w2 ⟨⟨ev, rfl, hev⟩, hD2, hK2⟩
        have HK2 := Aside0.mk hK2
        have RV2 : Aside0 ((k63).R 63 w2 0 okP (.slice A' n' c') done) := ⟨Kd.R_mono (R_keeps (frame_own HV.out) hK2 (fun i hi h => h.2 hi)) (fun i hi => HV.out.1 i hi.symm)⟩
        have HFR2 : Aside0 (∀ i, w2.heap.size ≤ i → okP i) := ⟨fun i hi => (HFR.out i (Nat.le_trans hK2.size hi)).1⟩
        have hsz2 := hK2.size
        clear hK2 hw0
        obtain ⟨eg, ef, rfl, hev2⟩ := hev
        have HEV2 : Aside0 (FrErr w2 wr.heap.size (.iface 93 (.pointer (some ⟨eg, 0, none⟩))) (frWrong (st.bytes ++ [b])) st.fed) := ⟨⟨eg, ef, rfl, hev2⟩⟩
        clear hev2
        go_wp2_with (at_builtin; refine Kd.R_append_rows k63 (w0 := w2) 0 rfl (.tmp 29) (.tmp 30) 30 63 (.agg #[.int .u8 0, .string ByteArray.empty]) 24 rfl Tryd.underlying30 infoF rfl (by decide) (by decide) (.slice A' n' c') done [] none 0 0 okP (fun _ => False) rfl rfl RV2.out (frame_none w2) (fun _ _ h => frame_KM _ _ h) (fun _ h => h.elim) HFR2.out (below0 _) (Nat.zero_le _) ?aL ?_)
        case aL => have := HDL.out; omega
        intro v1 w3 ho _ hgr _
        obtain ⟨A4, n4, c4, rfl⟩ := sl_of_R ho
        have RO := Aside0.mk ho
        have HK3 : Aside0 (Keeps okP w1 w3) := ⟨(HKe.out.trans (HK2.out.mono (fun _ h => h.1))).grown hgr HV.out.1⟩
        have HD3 := Aside0.mk (hD2.grown hgr)
        have HEV3 : Aside0 (FrErr w3 wr.heap.size (.iface 93 (.pointer (some ⟨eg, 0, none⟩))) (frWrong (st.bytes ++ [b])) st.fed) := ⟨by
          obtain ⟨g', f', h1, ⟨h2, v', h3, h4⟩, h5, h6⟩ := HEV2.out
          have hlt' : ∀ i, wr.heap.size ≤ i → some i ≠ (Value.slice A' n' c').ownBlock := fun i hi => (HFR.out i hi).2
          exact ⟨g', f', h1, ⟨h2, v', blk_grown h3 hgr (hlt' _ h2), Kd.R_mono (Kd.R_grown (Kd.R_bound h4) hgr (fun i hi => hlt' _ hi.2.1)) (fun _ _ => trivial)⟩, h5, blk_grown h6 hgr (hlt' _ h5)⟩⟩
        clear ho hgr hD2 HK2 RV2 HFR2 HEV2
        go_wp2
        go_ret2
        refine ⟨_, _, rfl, ?_, ?_, ?_, ?_, ?_⟩
        · rw [← HE.out, HDR.out, HE2.out]
          exact HD3.out.mono HQ.out
        · exact (HB1.out.mono hbase).trans (HK3.out.toBelow (by omega) HQ.out)
        · rw [← HE.out, HDR.out, HE2.out]
          have e : ∀ x y, (ahead done (x, [], y)).2.1 = done := fun _ _ => by simp [ahead]
          rw [e]
          exact Kd.R_mono RO.out HQ.out
        · intro h
          rw [← HE.out, HDR.out, HE2.out] at h
          cases h
        · intro p hp
          rw [← HE.out, HDR.out, HE2.out] at hp
          injection hp with hp
          subst hp
          exact HEV3.out.lower (by omega)
    · have HDR : Aside0 (all.drop k = []) := ⟨List.drop_eq_nil_of_le (by have := HTOT.out; omega)⟩
      go_wp2
      go_ret2
      refine ⟨_, _, rfl, ?_, ?_, ?_, ?_, ?_⟩
      · rw [← HE.out, HDR.out, feedL_nil]
        exact HD.out.mono HQ.out
      · exact (HB1.out.mono hbase).trans (HKe.out.toBelow (by omega) HQ.out)
      · rw [← HE.out, HDR.out, feedL_nil]
        have e : (ahead done (st, [], none)).2.1 = done := by simp [ahead]
        rw [e]
        exact Kd.R_mono HV.out HQ.out
      · intro _; rfl
      · intro p hp
        rw [← HE.out, HDR.out, feedL_nil] at hp
        cases hp

def DS.init : DS := { bytes := [], fed := 0, over := false }
theorem newd_calls (w : World) : Calls Tryd.prog 11 #[] w fun e w' => e = .returned (.pointer (some ⟨w.heap.size, 0, none⟩)) ∧ w' = w.alloc (.cells #[.slice none 0 0, .int .i64 0, .bool false] 67) := by
  go_enter Tryd.func11, Tryd.ntmps11
  go_wp2
  go_ret
  exact ⟨rfl, rfl⟩
theorem newd_dec (w : World) (base : Nat) (hb : base ≤ w.heap.size) : Dec (w.alloc (.cells #[.slice none 0 0, .int .i64 0, .bool false] 67)) (fun k => base ≤ k) w.heap.size DS.init :=
  ⟨hb, (fun x hx => by cases hx), _, heap_alloc_new w _, Kd.R_nil _ _ _ _ _⟩

set_option maxHeartbeats 4000000 in
theorem read_calls (w : World) (A : Option Addr) (n c : Nat) (bs : List Int) (hr : (Kd.int .u8).C w A n bs) (hc : n ≤ c) (hn : n ≤ 40000) (hby : Bytes bs) :
    Calls Tryd.prog 19 #[.slice A n c] w fun e w' => ∃ v ev, e = .returned (.tuple #[v, .int .i64 (DS.init.feedL bs).1.waits, ev]) ∧ Below w.heap.size w w' ∧ FeedRes w w' (fun k => w.heap.size ≤ k) (DS.init.feedL bs).2.1 (DS.init.feedL bs).2.2 v ev := by
  have hlen := Kd.C_len hr
  have hD0 := newd_dec w w.heap.size (Nat.le_refl _)
  have hD1 : Dec ((w.alloc (.cells #[.slice none 0 0, .int .i64 0, .bool false] 67)).alloc (.cells #[.slice A n c] 27)) (fun k => w.heap.size ≤ k) w.heap.size DS.init := hD0.below (below_alloc (Below.refl _ _) _)
  have hC1 := lit_row1 (e0 := 5) (w.alloc (.cells #[.slice none 0 0, .int .i64 0, .bool false] 67)) 27 A n c bs hc (Kd.C_alloc hr _)
  have hB1 : Below w.heap.size w ((w.alloc (.cells #[.slice none 0 0, .int .i64 0, .bool false] 67)).alloc (.cells #[.slice A n c] 27)) := ((Below.refl _ _).alloc (Nat.le_refl _) _).alloc (by simp) _
  have hF := feed_calls _ w.heap.size w.heap.size DS.init _ 1 1 [bs] hD1 (by simp; omega) rfl (by decide) (by decide) (by decide) hC1 (Nat.le_refl _) (by decide) (by simp; omega) (by simpa using hby)
  have e1 : ([bs] : List (List Int)).flatten = bs := by simp
  rw [e1] at hF
  have hS : (w.alloc (.cells #[.slice none 0 0, .int .i64 0, .bool false] 67)).heap.size = w.heap.size + 1 := by simp
  rw [hS] at hF
  generalize DS.init.feedL bs = r at *
  have HF := Aside0.mk hF
  have HB1 := Aside0.mk hB1
  clear hD0 hD1 hC1 hB1 hF hr hlen e1 hS
  go_enter Tryd.func19, Tryd.ntmps19
  go_wp2_with fail
  refine (newd_calls w).mono ?_
  rintro e w1 ⟨rfl, rfl⟩
  go_wp2_with fail
  refine HF.out.mono ?_
  rintro e w2 ⟨v, ev, rfl, hD2, hB2, hR2⟩
  have HW := Aside0.mk (waits_calls w2 _ _ _ hD2)
  have HB2 : Aside0 (Below w.heap.size w w2) := ⟨HB1.out.trans hB2⟩
  obtain ⟨A2, n2, c2, rfl⟩ := sl_of_R hR2.1
  have HR2 := Aside0.mk hR2
  clear hD2 hB2 hR2 HF
  go_wp2_with fail
  refine HW.out.mono ?_
  rintro e w3 ⟨rfl, rfl⟩
  clear HW
  go_wp2
  go_ret3
  refine ⟨_, _, rfl, HB2.out, HR2.out.1, HR2.out.2.1, fun p hp => (HR2.out.2.2 p hp).lower (by simp; omega)⟩
end Go.Proofs.YtmcjfnebkpifnaaDoor
