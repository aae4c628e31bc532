/-
  FaultJoins: the walk.
-/
import Derived.Test.YtelmmcjlhjahcaaDoorFjTop
namespace Go.Proofs.YtelmmcjlhjahcaaDoor
open Go.RowKit Go.Proofs.YtelmmcjlhjahcaaDoorW.PrintWords Go.Proofs.YtelmmcjlhjahcaaDoorW.PrintLast Go.Proofs.YtelmmcjlhjahcaaDoorW.PrintMore Go.Proofs.YtelmmcjlhjahcaaDoor.PFaultTells
set_option linter.unusedVariables false
set_option linter.unusedSimpArgs false
set_option maxRecDepth 100000

theorem one_err {W : World} {g : Nat} (o : Option (TypeId × Value)) (ve : Value) (hv : ve = encE o) {t : TypeId} (h : W.heap[g]? = some (.cells #[ve] t (0, 0))) : kErr.C W (some ⟨g, 0, none⟩) 1 [o] := by
  subst hv
  refine ⟨rfl, by decide, fun _ => ⟨_, rfl, fun j p hj => ?_⟩⟩
  match j, hj with
  | 0, hj =>
    obtain rfl : o = p := by simpa using hj
    refine ⟨[encE o], rfl, rfl, fun i u hu => ?_⟩
    rw [Nat.zero_mul, Nat.zero_add, add_plain, cell_of_row _ _ _ _ _ _ h]
    simpa using hu
theorem take_snocF (fs : List S24) (k : Nat) (hk : k < fs.length) : fs.take (k + 1) = fs.take k ++ [fs.getD k zF] := by
  rw [List.take_add_one, List.getD_eq_getElem?_getD, List.getElem?_eq_getElem hk]; rfl

theorem cell_keep {w w' : World} {a : Addr} {v : Value} (hb : Below w.heap.size w w') (h : w.cell? a = some v) : w'.cell? a = some v := by
  have hlt : a.block < w.heap.size := As.World.lt_of_cell h
  unfold World.cell? at *
  rw [hb.block a.block hlt]; exact h

set_option maxHeartbeats 80000000 in
theorem joins_some (w : World) (L : Option Addr) (l cl : Nat) (fs : List S24) (B : Option Addr) (m d : Nat) (ws : List ByteArray) (asked : Int) (hr : (k24).C w L l fs) (hcl : l ≤ cl) (hz : Kd.string.C w B m ws) (hd : m ≤ d) (hm : m ≤ 10) (hl : l ≤ 19) (hgr : sashref03_Great.f 1000 fs = some false) (hs : ∀ f ∈ fs, SmallF f) (hE : As.ErrT w) :
    Calls Tryd.prog 8 #[.slice L l cl, .slice B m d, .int .i64 asked] w fun ev w' => ev = .returned (.bool true) ∧ Below w.heap.size w w' := by
  have HL := Aside0.mk (Kd.C_len hr)
  have hGt := sashref03_Great.calls 1000 L cl fs false w (by rw [HL.out]; exact hr) (by rw [HL.out]; exact hcl) hgr
  rw [HL.out] at hGt
  have HGt := Aside0.mk hGt
  have HR := Aside0.mk hr
  have HZ := Aside0.mk hz
  have HG := Aside0.mk hE
  have HS := Aside0.mk hs
  have t19 : ¬ (19 : Int) < (l : Int) := by omega
  have t10 : ¬ (10 : Int) < (m : Int) := by omega
  clear hGt hr hz hE hs hgr
  go_enter Tryd.func8, Tryd.ntmps8
  go_wp2_with fail
  with_reducible refine HGt.out.mono ?_
  rintro ev w3 ⟨rfl, hdr⟩
  have HB3 := Aside0.mk hdr.below
  have HR3 : Aside0 ((k24).C w3 L l fs) := ⟨Kd.C_below HR.out hdr.below⟩
  have HZ3 : Aside0 (Kd.string.C w3 B m ws) := ⟨Kd.C_below HZ.out hdr.below⟩
  have R0 : Aside0 (kErr.R 29 (w3.alloc (.cells #[] 29)) w3.heap.size (fun _ => True) (.slice (some ⟨w3.heap.size, 0, none⟩) 0 0) []) := ⟨R_empty kErr _ _ _ _ (Nat.le_refl _) trivial⟩
  have B0 : Aside0 (Below w3.heap.size w3 (w3.alloc (.cells #[] 29))) := ⟨below_alloc (Below.refl _ _) _⟩
  clear hdr HGt HR HZ
  go_wp2
  go_loopw [7, 8] (fun v i wr => ∃ (k : Nat) (xs : List (Option (TypeId × Value))), k ≤ l ∧ i = .int .i64 k ∧ (∃ a' n' c', v = .slice (some a') n' c') ∧ Aside0 (kErr.R 29 wr w3.heap.size (fun _ => True) v xs ∧ AllE wr xs (fs.take k) ∧ Below w3.heap.size w3 wr)) (fun _ i _ => l - (intOf i).toNat)
  case atStart => exact ⟨0, [], by omega, rfl, ⟨_, _, _, rfl⟩, ⟨R0.out, trivial, B0.out⟩⟩
  case round =>
    obtain ⟨k, xs, hk, rfl, ⟨a', n', c', rfl⟩, HM⟩ := hrel
    by_cases hlt : k < l
    · have hkl : k < fs.length := by have := HL.out; omega
      obtain ⟨ad, A2, c2, rfl, e0, e1, e2, hc2, hC2⟩ := at_T24 (Kd.C_below HR3.out HM.out.2.2) (k : Int) (by omega) (by omega)
      rw [rdF] at e0 e1 e2 hc2 hC2
      have HT := Aside0.mk (take_snocF fs k hkl)
      have hsm := HS.out (fs.getD k zF) (by rw [List.getD_eq_getElem?_getD, List.getElem?_eq_getElem hkl]; exact List.getElem_mem hkl)
      have hlen : (fs.take k).length ≤ 19 := by rw [List.length_take]; omega
      obtain ⟨f, hf⟩ : ∃ f, f = fs.getD k zF := ⟨_, rfl⟩
      rw [← hf] at e0 e1 e2 hc2 hC2 HT hsm
      obtain ⟨f0, f1, f2⟩ := f
      simp only at e0 e1 e2 hc2 hC2
      simp only [Int.toNat_natCast] at e0 e1 e2
      have HMA := Aside0.mk (made_one wr f0 f1 A2 f2.length c2 f2 hC2 hc2 hsm)
      obtain ⟨gs, hgs⟩ : ∃ gs, gs = fs.take k := ⟨_, rfl⟩
      rw [← hgs] at HM HT hlen
      clear hf hgs hsm hkl hC2 hc2
      generalize f2.length = nf at *
      go_wp2_with fail
      with_reducible refine HMA.out.mono ?_
      rintro ev w4 ⟨o, rfl, ho, hb4⟩
      have hve : encE o = .nilIface ∨ ∃ t x, encE o = .iface t x := by
        cases o with
        | none => exact .inl rfl
        | some p => exact .inr ⟨_, _, rfl⟩
      obtain ⟨ve, hv⟩ : ∃ ve, ve = encE o := ⟨_, rfl⟩
      have HC := Aside0.mk (one_err o ve hv (t := 29) (heap_alloc_new w4 (.cells #[ve] 29)))
      have hba : Below wr.heap.size wr (w4.alloc (.cells #[ve] 29)) := below_alloc hb4 _
      have HM2 := Aside0.mk (And.intro (Kd.R_below HM.out.1 hba) (HM.out.2.2.trans (hba.mono HM.out.2.2.size)))
      have hxl : xs.length ≤ 19 := by have := HM.out.2.1.len; omega
      have HAL := Aside0.mk (AllE.snoc ho (HM.out.2.1.below hb4))
      rw [← HT.out] at HAL
      have hb4s : Below w4.heap.size w4 (w4.alloc (.cells #[ve] 29)) := below_alloc (Below.refl _ _) _
      have HAL2 := Aside0.mk (HAL.out.below hb4s)
      rw [← hv] at hve ⊢
      clear hba hb4 hb4s HM HAL HMA e0 e1 e2 ho hv
      rcases hve with rfl | ⟨t, x, rfl⟩
      all_goals
        go_wp2_with (at_builtin; refine Kd.R_append_row encE none (w0 := w3) w3.heap.size rfl (.tmp 34) (.tmp 40) 56 29 .nilIface 16 rfl Tryd.underlying56 infoErr rfl (by decide) (.slice (some a') n' c') xs [o] (some ⟨w4.heap.size, 0, none⟩) 1 1 (fun _ => True) rfl rfl (fun _ _ => trivial) HM2.out.1 HC.out HM2.out.2 ?aS ?aL ?_)
        case aS => exact HM2.out.2.size
        case aL => first | omega | (simp; omega)
        intro v1 w5 ho hb5 hgr hat
        have hal5 := HAL2.out.row (rowOnly (Kd.own_of_R HM2.out.1) hgr)
        obtain ⟨A4, n4, c4, rfl⟩ := sl_of_R ho
        obtain ⟨a4, rfl⟩ : ∃ a4, A4 = some a4 := by
          rcases A4 with _ | a4
          · rcases hat with h | ⟨b, h, _⟩ <;> simp [Value.ownBlock] at h
          · exact ⟨_, rfl⟩
        have RO := Aside0.mk (And.intro ho (And.intro hal5 hb5))
        clear ho hal5 hb5 hgr hat
        go_wp2
        go_roundw
        case rel => exact ⟨k + 1, xs ++ [o], by omega, by go_num, ⟨_, _, _, rfl⟩, RO⟩
        case measure => simp [intOf]; omega
    · have hkl : k = l := by omega
      have HK : fs.take k = fs := by rw [hkl, ← HL.out, List.take_length]
      rw [HK] at HM
      have hal := HM.out.2.1
      have hxl : xs.length = l := by rw [hal.len]; exact HL.out
      obtain ⟨hn', hc', hC'⟩ := Kd.R_reads' HM.out.1
      rw [hxl] at hn' hC'
      subst hn'
      have HB5 := Aside0.mk (HB3.out.trans (HM.out.2.2.mono HB3.out.size))
      have HR5 : Aside0 ((k24).C wr L n' fs) := ⟨Kd.C_below HR3.out HM.out.2.2⟩
      have HZ5 : Aside0 (Kd.string.C wr B m ws) := ⟨Kd.C_below HZ3.out HM.out.2.2⟩
      have HAL := Aside0.mk hal
      have HX := Aside0.mk (And.intro hxl hC')
      have HJ := Aside0.mk (join_all a' n' c' xs wr hxl hc' (by omega) hC')
      clear hkl HK HM hal hxl hc' hC' HX HR3 HZ3 HB3 R0 B0
      go_wp2_with fail
      with_reducible refine HJ.out.mono ?_
      rintro ev w6 ⟨v, rfl, hj, hb6⟩
      have HB6 := Aside0.mk (HB5.out.trans (hb6.mono HB5.out.size))
      have HR6 : Aside0 ((k24).C w6 L n' fs) := ⟨Kd.C_below HR5.out hb6⟩
      have HZ6 : Aside0 (Kd.string.C w6 B m ws) := ⟨Kd.C_below HZ5.out hb6⟩
      have hal6 := HAL.out.below hb6
      have HAW : Aside0 (∀ w', Below w6.heap.size w6 w' → Calls Tryd.prog 13 #[] w' fun ev w'' => ev = .returned (.bool true) ∧ Below w6.heap.size w6 w'') :=
        ⟨fun w' hb => (awake3_calls w' ((HG.out.below HB6.out).below hb)).mono fun ev w'' ⟨q1, q2⟩ => ⟨q1, hb.trans (q2.mono hb.size)⟩⟩
      have hf20 : fs.length ≤ 20 := by have := HL.out; omega
      obtain ⟨rf, hrf, hcase⟩ := first_all fs hf20
      have hbr : Below w6.heap.size w6 w6 := Below.refl _ _
      have HFI : Aside0 (∀ w', Below w6.heap.size w6 w' → Calls Tryd.prog 28 #[.slice L n' cl] w' fun ev w'' => ev = .returned (.int .i64 rf) ∧ Below w6.heap.size w6 w'') :=
        ⟨fun w' hb => by
          have h0 := sashref03_First.calls 100 L cl fs rf w' (by rw [HL.out]; exact Kd.C_below HR6.out hb) (by rw [HL.out]; exact hcl) hrf
          rw [HL.out] at h0
          exact h0.mono fun ev w'' ⟨q1, q2⟩ => ⟨q1, hb.trans (q2.below.mono hb.size)⟩⟩
      have HRF := Aside0.mk hrf
      clear hb6 HB5 HR5 HZ5 HAL HJ hrf
      rcases hcase with ⟨rfl, hnz⟩ | ⟨q, rfl, hq, rest, hnz⟩
      · -- none of them is an error
        have hk0 : keptE xs = [] := by
          have h1 := hal6.kept.1
          have h2 : esOf fs = [] := by unfold esOf; rw [hnz]; rfl
          rw [h2] at h1
          exact List.length_eq_zero_iff.1 h1
        rw [hk0] at hj
        have hv : v = .nilIface := hj
        subst hv
        have HIN : Aside0 (∀ w' A1 n1 c1, Below w6.heap.size w6 w' → Calls Tryd.prog 20 #[.nilIface, .slice A1 n1 c1] w' fun ev w'' => ev = .returned .nilIface ∧ Below w6.heap.size w6 w'') :=
          ⟨fun w' A1 n1 c1 hb => (in_nil w' A1 n1 c1).mono fun ev w'' ⟨h1, h2⟩ => ⟨h1, h2 ▸ hb⟩⟩
        have HAT : Aside0 (∀ w', Below w6.heap.size w6 w' → Calls Tryd.prog 15 #[.nilIface] w' fun ev w'' => ev = .returned (.tuple #[.int .i64 0, .bool false]) ∧ Below w6.heap.size w6 w'') :=
          ⟨fun w' hb => (As.at_nil w').mono fun ev w'' ⟨h1, h2⟩ => ⟨h1, hb.trans (h2.mono hb.size)⟩⟩
        have HCO : Aside0 (∀ w', Below w6.heap.size w6 w' → Calls Tryd.prog 16 #[.nilIface] w' fun ev w'' => ev = .returned (.int .i64 0) ∧ Below w6.heap.size w6 w'') :=
          ⟨fun w' hb => (As.code_nil w').mono fun ev w'' ⟨h1, h2⟩ => ⟨h1, hb.trans (h2.mono hb.size)⟩⟩
        have HWO : Aside0 (∀ w', Below w6.heap.size w6 w' → Calls Tryd.prog 18 #[.nilIface] w' fun ev w'' => ev = .returned (.slice none 0 0) ∧ Below w6.heap.size w6 w'') :=
          ⟨fun w' hb => (words_nil w').mono fun ev w'' ⟨h1, h2⟩ => ⟨h1, h2 ▸ hb⟩⟩
        clear hj hk0 hal6 hnz
        go_wp2_with (first
          | (go_at_call 20; with_reducible refine (HIN.out _ _ _ _ (by assumption)).mono ?_; rintro ev wa ⟨rfl, hba⟩)
          | (go_at_call 28; with_reducible refine (HFI.out _ (by assumption)).mono ?_; rintro ev wb ⟨rfl, hbb⟩)
          | (go_at_call 15; with_reducible refine (HAT.out _ (by assumption)).mono ?_; rintro ev wc ⟨rfl, hbc⟩)
          | (go_at_call 16; with_reducible refine (HCO.out _ (by assumption)).mono ?_; rintro ev we ⟨rfl, hbe⟩)
          | (go_at_call 18; with_reducible refine (HWO.out _ (by assumption)).mono ?_; rintro ev wf ⟨rfl, hbf⟩)
          | (go_at_call 13; with_reducible refine (HAW.out _ (by assumption)).mono ?_; rintro ev wg ⟨rfl, hbg⟩))
        go_ret
        exact ⟨rfl, HB6.out.trans (hbg.mono HB6.out.size)⟩
      · have hsm := HS.out (fs.getD q zF) (by rw [List.getD_eq_getElem?_getD, List.getElem?_eq_getElem hq]; exact List.getElem_mem hq)
        obtain ⟨f, hf⟩ : ∃ f, f = fs.getD q zF := ⟨_, rfl⟩
        rw [← hf] at hnz hsm
        have HIN := Aside0.mk (in_joined w6 wr.heap.size v xs fs f rest B m d ws hj hal6 hnz hsm hf20 hd hm HZ6.out (HG.out.below HB6.out))
        have HNZ := Aside0.mk hnz
        have HF := Aside0.mk hf
        have HSM := Aside0.mk hsm
        clear hnz hf hsm hj hal6
        go_wp2_with fail
        with_reducible refine HIN.out.mono ?_
        rintro ev w7 ⟨t, x, rfl, hF, hb7⟩
        have HB7 := Aside0.mk (HB6.out.trans (hb7.mono HB6.out.size))
        have HR7 : Aside0 ((k24).C w7 L n' fs) := ⟨Kd.C_below HR6.out hb7⟩
        have HZ7 : Aside0 (Kd.string.C w7 B m ws) := ⟨Kd.C_below HZ6.out hb7⟩
        have HAW7 : Aside0 (∀ w', Below w7.heap.size w7 w' → Calls Tryd.prog 13 #[] w' fun ev w'' => ev = .returned (.bool true) ∧ Below w7.heap.size w7 w'') :=
          ⟨fun w' hb => (awake3_calls w' ((HG.out.below HB7.out).below hb)).mono fun ev w'' ⟨q1, q2⟩ => ⟨q1, hb.trans (q2.mono hb.size)⟩⟩
        have HFin := Aside0.mk hF
        obtain ⟨ad, A2, c2, rfl, e0, e1, e2, hc2, hC2⟩ := at_T24 HR7.out (q : Int) (by omega) (by have := HL.out; omega)
        rw [rdF, ← HF.out] at e0 e1 e2 hc2 hC2
        simp only [Int.toNat_natCast] at e0 e1 e2
        have CEL : Aside0 (∀ W, Below w7.heap.size w7 W → W.cell? (ad.add (q * 3)) = some (.int .i64 f.f0) ∧ W.cell? ⟨(ad.add (q * 3)).block, (ad.add (q * 3)).off + 1, none⟩ = some (.int .i64 f.f1) ∧ W.cell? ⟨(ad.add (q * 3)).block, (ad.add (q * 3)).off + 2, none⟩ = some (.slice A2 f.f2.length c2)) :=
          ⟨fun W hb => ⟨cell_keep hb e0, cell_keep hb e1, cell_keep hb e2⟩⟩
        have HC7 := Aside0.mk (And.intro hc2 hC2)
        clear e0 e1 e2 hc2 hC2
        have HFI7 : Aside0 (Calls Tryd.prog 28 #[.slice (some ad) n' cl] w7 fun ev w'' => ev = .returned (.int .i64 q) ∧ Below w7.heap.size w7 w'') := ⟨by
          have h0 := sashref03_First.calls 100 (some ad) cl fs q w7 (by rw [HL.out]; exact HR7.out) (by rw [HL.out]; exact hcl) HRF.out
          rw [HL.out] at h0
          exact h0.mono fun ev w'' ⟨q1, q2⟩ => ⟨q1, q2.below⟩⟩
        have tq : ¬ ((q : Int) < 0) := by omega
        have tq2 : (q : Int) < (n' : Int) := by have := HL.out; omega
        clear hF hb7 HIN HAW HFI hbr HR6 HZ6 HB6
        go_wp2_with fail
        with_reducible refine HFI7.out.mono ?_
        rintro ev w8 ⟨rfl, hb8⟩
        have HAT := Aside0.mk (HFin.out.at_ w8 hb8)
        go_wp2_with fail
        with_reducible refine HAT.out.mono ?_
        rintro ev w9 ⟨rfl, hb9⟩
        have hb79 := hb8.trans (hb9.mono hb8.size)
        have R9 : Aside0 (Kd.string.R 9 (w9.alloc (.cells #[] 9)) w9.heap.size (fun _ => True) (.slice (some ⟨w9.heap.size, 0, none⟩) 0 0) []) := ⟨R_empty Kd.string _ _ _ _ (Nat.le_refl _) trivial⟩
        have B9 : Aside0 (Below w9.heap.size w9 (w9.alloc (.cells #[] 9))) := ⟨below_alloc (Below.refl _ _) _⟩
        have HZ9 : Aside0 (Kd.string.C (w9.alloc (.cells #[] 9)) B m ws) := ⟨Kd.C_alloc (Kd.C_below HZ7.out hb79) _⟩
        have HB79 := Aside0.mk hb79
        clear hb8 hb9 hb79 HAT
        go_wp2_with (at_builtin; refine Kd.R_append_row Value.string ByteArray.empty (w0 := w9) w9.heap.size rfl (.tmp 79) (.tmp 80) 36 9 (.string ByteArray.empty) 16 rfl Tryd.underlying36 finfoS rfl (by decide) (.slice (some ⟨w9.heap.size, 0, none⟩) 0 0) [] ws B m d (fun _ => True) rfl rfl (fun _ _ => trivial) R9.out HZ9.out B9.out ?aS ?aL ?_)
        case aS => exact B9.out.size
        case aL => first | omega | (simp; omega)
        intro v1 w10 ho hb10 hgr hat
        obtain ⟨A4, n4, c4, rfl⟩ := sl_of_R ho
        have HW10 := Aside0.mk ho
        have HB910 := Aside0.mk hb10
        have HB10 := Aside0.mk (HB79.out.trans (hb10.mono HB79.out.size))
        have HMY : Aside0 (Calls Tryd.prog 29 #[.slice (some ad) n' cl] w10 fun ev w'' => ev = .returned (.int .i64 ((rest.length + 1 : Nat) : Int)) ∧ Below w10.heap.size w10 w'') := ⟨by
          have h0 := sashref03_Many.calls 100 (some ad) cl fs _ w10 (by rw [HL.out]; exact Kd.C_below HR7.out HB10.out) (by rw [HL.out]; exact hcl) (many_all fs hf20)
          rw [HL.out, HNZ.out] at h0
          exact h0.mono fun ev w'' ⟨q1, q2⟩ => ⟨q1, q2.below⟩⟩
        clear ho hb10 hgr hat R9 B9 HZ9
        go_wp2_with fail
        with_reducible refine HMY.out.mono ?_
        rintro ev w11 ⟨rfl, hb11⟩
        have HB11 := Aside0.mk (HB10.out.trans (hb11.mono HB10.out.size))
        have HW11 : Aside0 (Kd.string.R 9 w11 w9.heap.size (fun _ => True) (.slice A4 n4 c4) ([] ++ ws)) := ⟨Kd.R_below HW10.out hb11⟩
        have HB911 := Aside0.mk (HB910.out.trans (hb11.mono HB910.out.size))
        clear hb11 HMY HB10 HW10 HB910
        rcases rest with _ | ⟨fr, rest⟩
        · simp only [List.length_nil, Nat.zero_add]
          obtain ⟨f0, f1, f2⟩ := f
          obtain ⟨e0, e1, e2⟩ := CEL.out w11 HB11.out
          simp only at e0 e1 e2
          have he0 : ¬ f0 = 0 := by
            have h1 : (⟨f0, f1, f2⟩ : S24) ∈ nzF fs := by rw [HNZ.out]; exact List.mem_cons_self
            have h2 := (List.mem_filter.1 h1).2
            exact bne_iff_ne.1 h2
          have HRW : Aside0 (Calls Tryd.prog 19 #[.agg #[.int .i64 f0, .int .i64 f1, .slice A2 f2.length c2]] w11 fun ev w' => ∃ A5 n5 c5, ev = .returned (.slice A5 n5 c5) ∧ Kd.string.C w' A5 n5 (insOf f2).flatten ∧ n5 ≤ c5 ∧ Below w11.heap.size w11 w') :=
            ⟨(sashref03_Words.calls 100 f0 f1 A2 c2 f2 (insOf f2).flatten w11 (Kd.C_below HC7.out.2 HB11.out) HC7.out.1 (ref_words f0 f1 he0 f2 HSM.out.1 HSM.out.2)).mono fun ev w'' ⟨v, h1, h2, h3⟩ => by
              obtain ⟨A5, n5, c5, rfl⟩ := sl_of_R h2
              obtain ⟨m1, m2, m3⟩ := Kd.R_reads' h2
              subst m1
              exact ⟨A5, _, c5, h1, m3, m2, h3⟩⟩
          generalize f2.length = nf at *
          go_wp2_with fail
          with_reducible refine HRW.out.mono ?_
          rintro ev w12 ⟨A5, n5, c5, rfl, hC5, hc5, hb12⟩
          have hC4 := Kd.R_below HW11.out hb12
          have HB712 := Aside0.mk (HB11.out.trans (hb12.mono HB11.out.size))
          have HB912 := Aside0.mk (HB911.out.trans (hb12.mono HB911.out.size))
          have HC5 := Aside0.mk hC5
          have HLEN : Aside0 ((ws ++ (insOf f2).flatten).length ≤ 110 ∧ n5 = (insOf f2).flatten.length ∧ ws.length = m) := ⟨by
            have h1 := flat10 f2 HSM.out.2
            have h2 := HSM.out.1
            have h3 := Kd.C_len HZ7.out
            have h4 := Kd.C_len hC5
            simp only [List.length_append]
            simp only at h2
            omega⟩
          clear hC5 hb12 e0 e1 e2 HRW
          have HC4 := Aside0.mk hC4
          clear hC4
          go_wp2_with (at_builtin; refine Kd.R_append_row Value.string ByteArray.empty (w0 := w9) w9.heap.size rfl (.tmp 85) (.tmp 90) 36 9 (.string ByteArray.empty) 16 rfl Tryd.underlying36 finfoS rfl (by decide) (.slice A4 n4 c4) ([] ++ ws) (insOf f2).flatten A5 n5 c5 (fun _ => True) rfl rfl (fun _ _ => trivial) HC4.out HC5.out HB912.out ?aS ?aL ?_)
          case aS => exact HB912.out.size
          case aL => have := HLEN.out; simp only [List.length_append, List.nil_append] at this ⊢; omega
          intro v1 w13 ho hb13 hgr hat
          obtain ⟨A8, n8, c8, rfl⟩ := sl_of_R ho
          obtain ⟨hn0, hc8, hC0⟩ := Kd.R_reads' ho
          obtain ⟨fl, hfl⟩ : ∃ fl, fl = ws ++ behind ⟨f0, f1, f2⟩ [] := ⟨_, rfl⟩
          have hfl2 : ws ++ (insOf f2).flatten = fl := by rw [hfl]; rfl
          have hn8 : n8 = (ws ++ (insOf f2).flatten).length := hn0
          have hC8 : Kd.string.C w13 A8 (ws ++ (insOf f2).flatten).length (ws ++ (insOf f2).flatten) := hC0
          clear hn0 hC0
          rw [hfl2] at hn8 hC8
          rw [← hfl] at HFin
          have HN8 := Aside0.mk hn8.symm
          have HC8 : Aside0 (Kd.string.C w13 A8 n8 fl ∧ n8 ≤ c8) := ⟨by rw [hn8]; exact hC8, by omega⟩
          have HFL : Aside0 (fl.length < 300 ∧ fl.length ≤ 100000) := ⟨by rw [← hfl2]; have := HLEN.out.1; omega⟩
          have HB13 : Aside0 (Below w7.heap.size w7 w13) := ⟨HB79.out.trans (hb13.mono HB79.out.size)⟩
          clear ho hb13 hgr hat hn8 hc8 hC8 hfl hfl2 HLEN HC4 HC5 HB712 HB912 HW11 HB11 HB911 HB79
          have HCO : Aside0 (∀ W, Below w13.heap.size w13 W → Calls Tryd.prog 16 #[.iface t x] W fun ev w'' => ev = .returned (.int .i64 f0) ∧ Below w13.heap.size w13 w'') :=
            ⟨fun W hb => (HFin.out.code W (HB13.out.trans (hb.mono HB13.out.size))).mono fun ev w'' ⟨q1, q2⟩ => ⟨q1, hb.trans (q2.mono hb.size)⟩⟩
          have HWO : Aside0 (∀ W, Below w13.heap.size w13 W → Calls Tryd.prog 18 #[.iface t x] W fun ev w'' => ∃ A1 k1, ev = .returned (.slice A1 n8 k1) ∧ Aside0 (n8 ≤ k1 ∧ Kd.string.C w'' A1 n8 fl) ∧ Below w13.heap.size w13 w'') :=
            ⟨fun W hb => (HFin.out.words W (HB13.out.trans (hb.mono HB13.out.size))).mono fun ev w'' ⟨A1, k1, q1, q2, q3⟩ => by
              rw [HN8.out] at q1 q2
              exact ⟨A1, k1, q1, q2, hb.trans (q3.mono hb.size)⟩⟩
          have HSO : Aside0 (∀ W A1 k1, Below w13.heap.size w13 W → n8 ≤ k1 → Kd.string.C W A1 n8 fl → Calls Tryd.prog 17 #[.slice A1 n8 k1, .slice A8 n8 c8] W fun ev w'' => ev = .returned (.bool true) ∧ Below w13.heap.size w13 w'') :=
            ⟨fun W A1 k1 hb h1 h2 => by
              have h0 := sashref03_Same.calls 300 A1 k1 fl A8 c8 fl true W (by rw [HN8.out]; exact h2) (by rw [HN8.out]; exact h1) (by rw [HN8.out]; exact Kd.C_below HC8.out.1 hb) (by rw [HN8.out]; exact HC8.out.2) (same3_self fl HFL.out.2 300 HFL.out.1)
              rw [HN8.out] at h0
              exact h0.mono fun ev w'' ⟨q1, q2⟩ => ⟨q1, hb.trans (q2.below.mono hb.size)⟩⟩
          have HIS : Aside0 (∀ W, Below w13.heap.size w13 W → Calls Tryd.prog 27 #[.iface t x, .slice (some ⟨W.heap.size, 0, none⟩) 1 1] (W.alloc (.cells #[.int .i64 asked] 33)) fun ev w'' => ev = .returned (.bool (As.hits (esOf fs) asked)) ∧ Below w13.heap.size w13 w'') :=
            ⟨fun W hb => by
              have hba : Below W.heap.size W (W.alloc (.cells #[.int .i64 asked] 33)) := below_alloc (Below.refl _ _) _
              have hb2 := hb.trans (hba.mono hb.size)
              refine (fis_calls (some (t, x)) _ _ 1 1 [asked] _ (by decide) (one_int (heap_alloc_new W _)) (HFin.out.tells.below (HB13.out.trans (hb2.mono HB13.out.size)))).mono fun ev w'' ⟨q1, q2⟩ => ⟨?_, hb2.trans (q2.mono hb2.size)⟩
              rw [q1]; simp⟩
          have HIS0 : Aside0 (∀ W, Below w13.heap.size w13 W → Calls Tryd.prog 27 #[.iface t x, .slice none 0 0] W fun ev w'' => ev = .returned (.bool false) ∧ Below w13.heap.size w13 w'') :=
            ⟨fun W hb => (fis_calls (some (t, x)) _ none 0 0 [] W (by decide) ⟨rfl, by decide, fun h => absurd h (by decide)⟩ (HFin.out.tells.below (HB13.out.trans (hb.mono HB13.out.size)))).mono fun ev w'' ⟨q1, q2⟩ => ⟨q1, hb.trans (q2.mono hb.size)⟩⟩
          have HHA : Aside0 (∀ W, Below w13.heap.size w13 W → Calls Tryd.prog 30 #[.slice (some ad) n' cl, .int .i64 asked] W fun ev w'' => ev = .returned (.bool (As.hits (esOf fs) asked)) ∧ Below w13.heap.size w13 w'') :=
            ⟨fun W hb => by
              have h0 := sashref03_Has.calls 100 (some ad) cl fs asked _ W (by rw [HL.out]; exact Kd.C_below HR7.out (HB13.out.trans (hb.mono HB13.out.size))) (by rw [HL.out]; exact hcl) (has_all fs hf20 asked)
              rw [HL.out, ← hits_es] at h0
              exact h0.mono fun ev w'' ⟨q1, q2⟩ => ⟨q1, hb.trans (q2.below.mono hb.size)⟩⟩
          have HAW : Aside0 (∀ W, Below w13.heap.size w13 W → Calls Tryd.prog 13 #[] W fun ev w'' => ev = .returned (.bool true) ∧ Below w13.heap.size w13 w'') :=
            ⟨fun W hb => (awake3_calls W ((HG.out.below HB7.out).below (HB13.out.trans (hb.mono HB13.out.size)))).mono fun ev w'' ⟨q1, q2⟩ => ⟨q1, hb.trans (q2.mono hb.size)⟩⟩
          have CL13 : Aside0 (∀ W, Below w13.heap.size w13 W → W.cell? (ad.add (q * 3)) = some (.int .i64 f0) ∧ W.cell? ⟨(ad.add (q * 3)).block, (ad.add (q * 3)).off + 1, none⟩ = some (.int .i64 f1)) :=
            ⟨fun W hb => ⟨(CEL.out W (HB13.out.trans (hb.mono HB13.out.size))).1, (CEL.out W (HB13.out.trans (hb.mono HB13.out.size))).2.1⟩⟩
          have HBW := Aside0.mk (HB7.out.trans (HB13.out.mono HB7.out.size))
          generalize As.hits (esOf fs) asked = hit at HIS HHA
          have hb13 : Below w13.heap.size w13 w13 := Below.refl _ _
          have hb13d : Below w13.heap.size w13 w13.drew := below_drew hb13
          obtain ⟨e0, e1⟩ := CL13.out w13 hb13
          obtain ⟨e0d, e1d⟩ := CL13.out w13.drew hb13d
          clear HC8 HFin CEL HR7 HZ7 HC7 HNZ HF HSM HB13 HFL HN8 HAW7
          go_wp2_with fail
          go_region_held3 (fun w' => w'.cell? (ad.add (q * 3)) = some (.int .i64 f0) ∧ w'.cell? ⟨(ad.add (q * 3)).block, (ad.add (q * 3)).off + 1, none⟩ = some (.int .i64 f1)) (first | exact ⟨e0d, e1d⟩ | exact ⟨d0, d1⟩ | exact ⟨p0, p1⟩ | exact ⟨h0, h1⟩) (first
            | (go_at_call 16; with_reducible refine (HCO.out _ (by assumption)).mono ?_; rintro ev wa ⟨rfl, hba⟩; obtain ⟨d0, d1⟩ := CL13.out _ hba)
            | (go_at_call 18; with_reducible refine (HWO.out _ (by assumption)).mono ?_; rintro ev wb ⟨A1, k1, rfl, hC1, hbb⟩; obtain ⟨p0, p1⟩ := CL13.out _ hbb)
            | (go_at_call 17; with_reducible refine (HSO.out _ _ _ (by assumption) hC1.out.1 hC1.out.2).mono ?_; rintro ev wd ⟨rfl, hbD⟩; obtain ⟨h0, h1⟩ := CL13.out _ hbD))
          go_wp2_with (first
            | (go_at_call 27; with_reducible refine (HIS0.out _ (by assumption)).mono ?_; rintro ev wz ⟨rfl, hbz⟩)
            | (go_at_call 27; with_reducible refine (HIS.out _ (by assumption)).mono ?_; rintro ev wz ⟨rfl, hbz⟩)
            | (go_at_call 30; with_reducible refine (HHA.out _ (by assumption)).mono ?_; rintro ev wy ⟨rfl, hby⟩)
            | (go_at_call 13; with_reducible refine (HAW.out _ (by assumption)).mono ?_; rintro ev wx ⟨rfl, hbx⟩))
          go_ret
          exact ⟨rfl, HBW.out.trans (hbx.mono HBW.out.size)⟩
        · have tm : (((fr :: rest).length + 1 : Nat) : Int) ≠ 1 := by simp only [List.length_cons]; omega
          have tm1 : ((((fr :: rest).length + 1 : Nat) : Int) == 1) = false := beq_eq_false_iff_ne.2 tm
          obtain ⟨rl, hrl⟩ : ∃ rl, rl = (fr :: rest).length + 1 := ⟨_, rfl⟩
          rw [← hrl] at tm tm1 ⊢
          clear hrl
          obtain ⟨f0, f1, f2⟩ := f
          obtain ⟨hn0, hc4, hC0⟩ := Kd.R_reads' HW11.out
          have hn4 : n4 = ws.length := hn0
          have hC4 : Kd.string.C w11 A4 ws.length ws := hC0
          obtain ⟨fl, hfl⟩ : ∃ fl, fl = ws ++ behind ⟨f0, f1, f2⟩ (fr :: rest) := ⟨_, rfl⟩
          have hfl2 : ws = fl := by rw [hfl]; exact (List.append_nil ws).symm
          have hwl : ws.length = m := Kd.C_len HZ7.out
          rw [← hfl] at HFin
          have HFL : Aside0 (fl.length < 300 ∧ fl.length ≤ 100000) := ⟨by rw [← hfl2]; omega⟩
          have HC4 : Aside0 (Kd.string.C w11 A4 n4 fl ∧ n4 ≤ c4) := ⟨by rw [hn4, ← hfl2]; exact hC4, by omega⟩
          have HN4 : Aside0 (fl.length = n4) := ⟨by rw [hn4, hfl2]⟩
          have HB13 := Aside0.mk HB11.out
          clear hn0 hC0 hn4 hC4 hc4 hfl hfl2 hwl HW11 HB11 HB911 HB79
          have HCO : Aside0 (∀ W, Below w11.heap.size w11 W → Calls Tryd.prog 16 #[.iface t x] W fun ev w'' => ev = .returned (.int .i64 f0) ∧ Below w11.heap.size w11 w'') :=
            ⟨fun W hb => (HFin.out.code W (HB13.out.trans (hb.mono HB13.out.size))).mono fun ev w'' ⟨q1, q2⟩ => ⟨q1, hb.trans (q2.mono hb.size)⟩⟩
          have HWO : Aside0 (∀ W, Below w11.heap.size w11 W → Calls Tryd.prog 18 #[.iface t x] W fun ev w'' => ∃ A1 k1, ev = .returned (.slice A1 n4 k1) ∧ Aside0 (n4 ≤ k1 ∧ Kd.string.C w'' A1 n4 fl) ∧ Below w11.heap.size w11 w'') :=
            ⟨fun W hb => (HFin.out.words W (HB13.out.trans (hb.mono HB13.out.size))).mono fun ev w'' ⟨A1, k1, q1, q2, q3⟩ => by
              rw [HN4.out] at q1 q2
              exact ⟨A1, k1, q1, q2, hb.trans (q3.mono hb.size)⟩⟩
          have HSO : Aside0 (∀ W A1 k1, Below w11.heap.size w11 W → n4 ≤ k1 → Kd.string.C W A1 n4 fl → Calls Tryd.prog 17 #[.slice A1 n4 k1, .slice A4 n4 c4] W fun ev w'' => ev = .returned (.bool true) ∧ Below w11.heap.size w11 w'') :=
            ⟨fun W A1 k1 hb h1 h2 => by
              have h0 := sashref03_Same.calls 300 A1 k1 fl A4 c4 fl true W (by rw [HN4.out]; exact h2) (by rw [HN4.out]; exact h1) (by rw [HN4.out]; exact Kd.C_below HC4.out.1 hb) (by rw [HN4.out]; exact HC4.out.2) (same3_self fl HFL.out.2 300 HFL.out.1)
              rw [HN4.out] at h0
              exact h0.mono fun ev w'' ⟨q1, q2⟩ => ⟨q1, hb.trans (q2.below.mono hb.size)⟩⟩
          have HIS : Aside0 (∀ W, Below w11.heap.size w11 W → Calls Tryd.prog 27 #[.iface t x, .slice (some ⟨W.heap.size, 0, none⟩) 1 1] (W.alloc (.cells #[.int .i64 asked] 33)) fun ev w'' => ev = .returned (.bool (As.hits (esOf fs) asked)) ∧ Below w11.heap.size w11 w'') :=
            ⟨fun W hb => by
              have hba : Below W.heap.size W (W.alloc (.cells #[.int .i64 asked] 33)) := below_alloc (Below.refl _ _) _
              have hb2 := hb.trans (hba.mono hb.size)
              refine (fis_calls (some (t, x)) _ _ 1 1 [asked] _ (by decide) (one_int (heap_alloc_new W _)) (HFin.out.tells.below (HB13.out.trans (hb2.mono HB13.out.size)))).mono fun ev w'' ⟨q1, q2⟩ => ⟨?_, hb2.trans (q2.mono hb2.size)⟩
              rw [q1]; simp⟩
          have HIS0 : Aside0 (∀ W, Below w11.heap.size w11 W → Calls Tryd.prog 27 #[.iface t x, .slice none 0 0] W fun ev w'' => ev = .returned (.bool false) ∧ Below w11.heap.size w11 w'') :=
            ⟨fun W hb => (fis_calls (some (t, x)) _ none 0 0 [] W (by decide) ⟨rfl, by decide, fun h => absurd h (by decide)⟩ (HFin.out.tells.below (HB13.out.trans (hb.mono HB13.out.size)))).mono fun ev w'' ⟨q1, q2⟩ => ⟨q1, hb.trans (q2.mono hb.size)⟩⟩
          have HHA : Aside0 (∀ W, Below w11.heap.size w11 W → Calls Tryd.prog 30 #[.slice (some ad) n' cl, .int .i64 asked] W fun ev w'' => ev = .returned (.bool (As.hits (esOf fs) asked)) ∧ Below w11.heap.size w11 w'') :=
            ⟨fun W hb => by
              have h0 := sashref03_Has.calls 100 (some ad) cl fs asked _ W (by rw [HL.out]; exact Kd.C_below HR7.out (HB13.out.trans (hb.mono HB13.out.size))) (by rw [HL.out]; exact hcl) (has_all fs hf20 asked)
              rw [HL.out, ← hits_es] at h0
              exact h0.mono fun ev w'' ⟨q1, q2⟩ => ⟨q1, hb.trans (q2.below.mono hb.size)⟩⟩
          have HAW : Aside0 (∀ W, Below w11.heap.size w11 W → Calls Tryd.prog 13 #[] W fun ev w'' => ev = .returned (.bool true) ∧ Below w11.heap.size w11 w'') :=
            ⟨fun W hb => (awake3_calls W ((HG.out.below HB7.out).below (HB13.out.trans (hb.mono HB13.out.size)))).mono fun ev w'' ⟨q1, q2⟩ => ⟨q1, hb.trans (q2.mono hb.size)⟩⟩
          have CL13 : Aside0 (∀ W, Below w11.heap.size w11 W → W.cell? (ad.add (q * 3)) = some (.int .i64 f0) ∧ W.cell? ⟨(ad.add (q * 3)).block, (ad.add (q * 3)).off + 1, none⟩ = some (.int .i64 f1)) :=
            ⟨fun W hb => ⟨(CEL.out W (HB13.out.trans (hb.mono HB13.out.size))).1, (CEL.out W (HB13.out.trans (hb.mono HB13.out.size))).2.1⟩⟩
          have HBW := Aside0.mk (HB7.out.trans (HB13.out.mono HB7.out.size))
          generalize As.hits (esOf fs) asked = hit at HIS HHA
          have hb13 : Below w11.heap.size w11 w11 := Below.refl _ _
          have hb13d : Below w11.heap.size w11 w11.drew := below_drew hb13
          obtain ⟨e0, e1⟩ := CL13.out w11 hb13
          obtain ⟨e0d, e1d⟩ := CL13.out w11.drew hb13d
          clear HC4 HFin CEL HR7 HZ7 HC7 HNZ HF HSM HB13 HFL HN4 HAW7
          go_wp2_with fail
          go_region_held3 (fun w' => w'.cell? (ad.add (q * 3)) = some (.int .i64 f0) ∧ w'.cell? ⟨(ad.add (q * 3)).block, (ad.add (q * 3)).off + 1, none⟩ = some (.int .i64 f1)) (first | exact ⟨e0d, e1d⟩ | exact ⟨d0, d1⟩ | exact ⟨p0, p1⟩ | exact ⟨h0, h1⟩) (first
            | (go_at_call 16; with_reducible refine (HCO.out _ (by assumption)).mono ?_; rintro ev wa ⟨rfl, hba⟩; obtain ⟨d0, d1⟩ := CL13.out _ hba)
            | (go_at_call 18; with_reducible refine (HWO.out _ (by assumption)).mono ?_; rintro ev wb ⟨A1, k1, rfl, hC1, hbb⟩; obtain ⟨p0, p1⟩ := CL13.out _ hbb)
            | (go_at_call 17; with_reducible refine (HSO.out _ _ _ (by assumption) hC1.out.1 hC1.out.2).mono ?_; rintro ev wd ⟨rfl, hbD⟩; obtain ⟨h0, h1⟩ := CL13.out _ hbD))
          go_wp2_with (first
            | (go_at_call 27; with_reducible refine (HIS0.out _ (by assumption)).mono ?_; rintro ev wz ⟨rfl, hbz⟩)
            | (go_at_call 27; with_reducible refine (HIS.out _ (by assumption)).mono ?_; rintro ev wz ⟨rfl, hbz⟩)
            | (go_at_call 30; with_reducible refine (HHA.out _ (by assumption)).mono ?_; rintro ev wy ⟨rfl, hby⟩)
            | (go_at_call 13; with_reducible refine (HAW.out _ (by assumption)).mono ?_; rintro ev wx ⟨rfl, hbx⟩))
          go_ret
          exact ⟨rfl, HBW.out.trans (hbx.mono HBW.out.size)⟩
end Go.Proofs.YtelmmcjlhjahcaaDoor
