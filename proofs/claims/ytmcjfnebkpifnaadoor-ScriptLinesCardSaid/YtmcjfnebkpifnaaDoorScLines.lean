/-
  ScriptLines: what the statement returns.
-/
import Derived.Test.YtmcjfnebkpifnaaDoorScGreat
import Derived.Test.YtmcjfnebkpifnaaDoorScRefLine
import Derived.Test.YtmcjfnebkpifnaaDoorScBytes
namespace Go.Proofs.YtmcjfnebkpifnaaDoor
open Go.RowKit Go.Proofs.YtmcjfnebkpifnaaDoorW.PrintWords Go.Proofs.YtmcjfnebkpifnaaDoorW.PrintLast Go.Proofs.YtmcjfnebkpifnaaDoorW.PrintMore Go.Proofs.YtmcjfnebkpifnaaDoor.PScriptLines
set_option linter.unusedVariables false
set_option linter.unusedSimpArgs false
set_option maxRecDepth 100000

theorem may_n {h : SH} (hm : mayB h = true) : 0 ≤ h.f1 ∧ h.f1 ≤ 2147483647 := by
  obtain ⟨k, n, s⟩ := h
  rcases may_kind hm with h | h | h | h | h | h
  all_goals (cases h; unfold mayB script_may.f at hm; simp at hm)
  all_goals (first | omega | skip)
  all_goals (repeat' split at hm) <;> simp_all <;> omega
theorem rline_calls (w : World) (h : SH) (hm : mayB h = true) (hs : h.f2.size ≤ 500) :
    Calls Tryd.prog 27 #[.agg #[.int .u8 h.f0, .int .i64 h.f1, .string h.f2]] w fun e w' => e = .returned (.string (bsOf (lineB h))) ∧ Below w.heap.size w w' := by
  have hk := may_kind hm
  have hn := may_n hm
  obtain ⟨k, n, s⟩ := h
  rcases hk with h | h | h | h | h | h
  · cases h; exact rline1_calls w n s hs hn.1 hn.2
  · cases h; exact rline2_calls w n s hs hn.1 hn.2
  · cases h
    by_cases he : s.data.toList = []
    · exact rline3e_calls w n s hs hn.1 hn.2 he
    · exact rline3n_calls w n s hs hn.1 hn.2 he
  · cases h; exact rline4_calls w n s hs hn.1 hn.2
  · cases h; exact rline5_calls w n s hs hn.1 hn.2
  · cases h; exact rline6_calls w n s hs hn.1 hn.2

set_option maxHeartbeats 8000000 in
theorem lines_calls (A : Option Addr) (c : Nat) (l : List SH) (w : World) (hr : Kd.C k56 w A l.length l) (hc : l.length ≤ c) (hT : NumT w) :
    Calls Tryd.prog 8 #[.slice A l.length c] w fun e w' => e = .returned (.bool true) ∧ Below w.heap.size w w' := by
  obtain ⟨r, hG, hS⟩ := great_calls A c l w hr hc
  obtain ⟨n, hN⟩ : ∃ n, n = l.length := ⟨_, rfl⟩
  have HG := Aside0.mk hG
  have HT := Aside0.mk hT
  have HAW := Aside0.mk (fun (W : World) (k : NumT W) => awake_calls W k)
  have HR := Aside0.mk hr
  have HN := Aside0.mk hN
  have hcc := hc
  rw [← hN] at HG HR hcc ⊢
  cases r with
  | true =>
    clear hS hT hr hN hG hc
    go_enter Tryd.func8, Tryd.ntmps8
    go_wp2_with fail
    with_reducible refine HG.out.mono ?_
    rintro e w1 ⟨rfl, hb⟩
    have HB := Aside0.mk hb
    clear hb
    go_wp2_with fail
    with_reducible refine (HAW.out _ (HT.out.below HB.out)).mono ?_
    rintro e w2 ⟨rfl, hb⟩
    have HB2 := Aside0.mk (HB.out.trans (hb.mono HB.out.size))
    clear hb
    go_wp2
    go_ret
    exact ⟨rfl, HB2.out⟩
  | false =>
    have HS := Aside0.mk (hS rfl)
    have hn40 : n ≤ 40 := by rw [hN]; exact HS.out.1
    have HMP : Aside0 (∀ W : World, Kd.C k56 W A n l → Calls Tryd.prog 28 #[.slice A n c] W fun e w' => e = .returned (.bool (l.all mayB)) ∧ Below W.heap.size W w') := ⟨fun W h => by
      have := mayp_calls A c l W (by omega) (by rw [← hN]; exact h)
      rwa [← hN] at this⟩
    have HRA : Aside0 (∀ W : World, Kd.C k56 W A n l → Calls Tryd.prog 29 #[.slice A n c] W fun e w' => e = .returned (.bool (l.all mayB)) ∧ Below W.heap.size W w') := ⟨fun W h => by
      have := All_ref A c l W (by rw [← hN]; exact h) hc (by omega)
      rwa [← hN] at this⟩
    generalize l.all mayB = al at *
    clear hS hT hr hN hG hc
    go_enter Tryd.func8, Tryd.ntmps8
    go_wp2_with fail
    with_reducible refine HG.out.mono ?_
    rintro e w1 ⟨rfl, hb⟩
    have HB := Aside0.mk hb
    clear hb HG
    go_wp2
    go_loopw [3, 4, 5, 6, 7, 8, 9] (fun i _ _ _ _ _ _ wr => ∃ j : Nat, j ≤ n ∧ i = .int .i64 j ∧ Aside0 (Below w.heap.size w wr)) (fun i _ _ _ _ _ _ _ => n - (intOf i).toNat)
    case atStart => exact ⟨0, by omega, rfl, HB⟩
    case round =>
      obtain ⟨j, hj, rfl, HR0⟩ := hrel
      have HRr := Aside0.mk (Kd.C_below HR.out HR0.out)
      by_cases hlt : j < n
      · have hjl : j < l.length := by have := HN.out; omega
        obtain ⟨ad, rfl, g0, g1, g2⟩ := at_T56 HRr.out (j : Int) (by omega) (by omega)
        have hjj : ((j : Int)).toNat = j := by omega
        have hx : rd_T56 l (j : Int) = l.getD j z56 := by unfold rd_T56; rw [hjj]
        rw [hx, hjj] at g0 g1 g2
        have hmem : l.getD j z56 ∈ l := by
          rw [List.getD_eq_getElem?_getD, List.getElem?_eq_getElem hjl]
          exact List.getElem_mem _
        have hsx := HS.out.2 _ hmem
        have HL := Aside0.mk (fun (W : World) (k : NumT W) => linep_calls W (l.getD j z56) hsx k)
        have HSB := Aside0.mk (fun (W : World) => sbytes_calls W (l.getD j z56) hsx)
        have HRB := Aside0.mk (fun (W : World) => rbytes_calls W (l.getD j z56) hsx)
        have HMY := Aside0.mk (fun (W : World) => May_ref (l.getD j z56) W)
        have HRL := Aside0.mk (fun (W : World) (hm : mayB (l.getD j z56) = true) => rline_calls W (l.getD j z56) hm hsx)
        clear hx hjj hmem hsx
        generalize l.getD j z56 = x at *
        generalize (bytesP x).1 = L at *
        generalize (bytesP x).2 = ok at *
        obtain ⟨sl, hsl⟩ : ∃ s, s = bsOf (if mayB x = true then lineB x else []) := ⟨_, rfl⟩
        obtain ⟨el, hel⟩ : ∃ s : Int, s = (if mayB x = true then 0 else 1) := ⟨_, rfl⟩
        rw [← hsl, ← hel] at HL
        have HSL := Aside0.mk hsl
        have HEL := Aside0.mk hel
        clear hsl hel
        have CL : Aside0 (∀ W, Below wr.heap.size wr W → W.cell? (ad.add (j * 3)) = some (.int .u8 x.f0) ∧ W.cell? ⟨(ad.add (j * 3)).block, (ad.add (j * 3)).off + 1, none⟩ = some (.int .i64 x.f1) ∧ W.cell? ⟨(ad.add (j * 3)).block, (ad.add (j * 3)).off + 2, none⟩ = some (.string x.f2)) :=
          ⟨fun W hb => ⟨pw_cell_below hb g0, pw_cell_below hb g1, pw_cell_below hb g2⟩⟩
        go_wp2_with fail
        with_reducible refine (HL.out _ (HT.out.below HR0.out)).mono ?_
        rintro e w2 ⟨rfl, hb⟩
        have HB2 := Aside0.mk hb
        clear hb g0 g1 g2
        obtain ⟨g0, g1, g2⟩ := CL.out _ HB2.out
        go_wp2_with fail
        with_reducible refine (HSB.out _).mono ?_
        rintro e w3 ⟨A3, c3, rfl, hC3, hb⟩
        have HB3 := Aside0.mk (HB2.out.trans (hb.mono HB2.out.size))
        have HC3 := Aside0.mk hC3
        clear hb g0 g1 g2 hC3
        obtain ⟨g0, g1, g2⟩ := CL.out _ HB3.out
        go_wp2_with fail
        with_reducible refine (HRB.out _).mono ?_
        rintro e w4 ⟨A4, c4, rfl, hC4, hb⟩
        have HB4 := Aside0.mk (HB3.out.trans (hb.mono HB3.out.size))
        have cv1 : (convert 27 9 (.slice A3 L.length c3)).run Tryd.prog w4 = .ok (.string (strOfNums L)) w4 := Kd.C_string Tryd.underlying27 Tryd.underlying5 Tryd.underlying9 (Kd.C_below HC3.out hb)
        have cv2 : (convert 27 9 (.slice A4 L.length c4)).run Tryd.prog w4 = .ok (.string (strOfNums L)) w4 := Kd.C_string Tryd.underlying27 Tryd.underlying5 Tryd.underlying9 hC4
        clear hb g0 g1 g2 hC4 HC3
        generalize strOfNums L = str at *
        obtain ⟨g0, g1, g2⟩ := CL.out _ HB4.out
        cases hm : mayB x with
        | true =>
          rw [hm] at HMY
          have HRL1 := Aside0.mk (fun (W : World) => HRL.out W hm)
          obtain rfl : el = 0 := by have h := HEL.out; rw [hm] at h; exact h
          have e1 : sl = bsOf (lineB x) := by have h := HSL.out; rw [hm] at h; exact h
          subst e1
          clear HSL HEL HRL HL HSB HRB hm
          generalize bsOf (lineB x) = ln at *
          go_wp2_with fail
          with_reducible refine (HMY.out _).mono ?_
          rintro e w5 ⟨rfl, hb⟩
          have HB5 := Aside0.mk (HB4.out.trans (hb.mono HB4.out.size))
          clear hb g0 g1 g2
          obtain ⟨g0, g1, g2⟩ := CL.out _ HB5.out
          go_wp2_with fail
          with_reducible refine (HRL1.out _).mono ?_
          rintro e w6 ⟨rfl, hb⟩
          have HB6 := Aside0.mk (HB5.out.trans (hb.mono HB5.out.size))
          clear hb g0 g1 g2
          obtain ⟨g0, g1, g2⟩ := CL.out _ HB6.out
          go_wp2_with fail
          with_reducible refine (HMY.out _).mono ?_
          rintro e w7 ⟨rfl, hb⟩
          have HB7 : Aside0 (Below w.heap.size w w7) := ⟨HR0.out.trans ((HB6.out.trans (hb.mono HB6.out.size)).mono HR0.out.size)⟩
          clear hb g0 g1 g2
          go_wp2
          go_roundw
          case rel => exact ⟨j + 1, by omega, by go_num, HB7⟩
          case measure => simp [intOf]; omega
        | false =>
          rw [hm] at HMY
          obtain rfl : el = 1 := by have h := HEL.out; rw [hm] at h; exact h
          have e1 : sl = bsOf [] := by have h := HSL.out; rw [hm] at h; exact h
          have e2 : (sl.toList == ([] : List UInt8)) = true := by rw [e1, ByteArray.toList_eq]; rfl
          clear HSL HEL HRL HL HSB HRB hm e1
          go_wp2_with fail
          with_reducible refine (HMY.out _).mono ?_
          rintro e w5 ⟨rfl, hb⟩
          have HB5 := Aside0.mk (HB4.out.trans (hb.mono HB4.out.size))
          clear hb g0 g1 g2
          obtain ⟨g0, g1, g2⟩ := CL.out _ HB5.out
          go_wp2_with fail
          with_reducible refine (HMY.out _).mono ?_
          rintro e w7 ⟨rfl, hb⟩
          have HB7 : Aside0 (Below w.heap.size w w7) := ⟨HR0.out.trans ((HB5.out.trans (hb.mono HB5.out.size)).mono HR0.out.size)⟩
          clear hb g0 g1 g2
          go_wp2
          go_roundw
          case rel => exact ⟨j + 1, by omega, by go_num, HB7⟩
          case measure => simp [intOf]; omega
      · go_wp2_with fail
        with_reducible refine (HMP.out _ HRr.out).mono ?_
        rintro e w2 ⟨rfl, hb⟩
        have HB2 := Aside0.mk (HR0.out.trans (hb.mono HR0.out.size))
        have HR2 := Aside0.mk (Kd.C_below HRr.out hb)
        clear hb
        go_wp2_with fail
        with_reducible refine (HRA.out _ HR2.out).mono ?_
        rintro e w3 ⟨rfl, hb⟩
        have HB3 := Aside0.mk (HB2.out.trans (hb.mono HB2.out.size))
        clear hb
        go_wp2_with fail
        with_reducible refine (HAW.out _ (HT.out.below HB3.out)).mono ?_
        rintro e w4 ⟨rfl, hb⟩
        have HB4 := Aside0.mk (HB3.out.trans (hb.mono HB3.out.size))
        clear hb
        go_wp2
        go_ret
        exact ⟨rfl, HB4.out⟩
end Go.Proofs.YtmcjfnebkpifnaaDoor
