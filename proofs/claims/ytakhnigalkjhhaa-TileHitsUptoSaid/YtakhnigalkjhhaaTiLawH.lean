/-
  TileHits: the walk.
-/
import Derived.Test.YtakhnigalkjhhaaTiLawK
import Derived.Test.YtakhnigalkjhhaaTiLawA
namespace Go.Proofs.Ytakhnigalkjhhaa
open Go.RowKit Go.Proofs.YtakhnigalkjhhaaW.PrintWords Go.Proofs.YtakhnigalkjhhaaW.PrintLast Go.Proofs.YtakhnigalkjhhaaW.PrintMore Go.Proofs.Ytakhnigalkjhhaa.PTileHits
set_option linter.unusedVariables false
set_option linter.unusedSimpArgs false
set_option maxRecDepth 100000

theorem hits_law (c : SC) (x y : Int) (ht : tilesB c = true) (hh : hasB c.f1 x y = true) : (hitAns c x y).2 = !(linesAns c).any (fun r => hasB r x y) := by
  unfold hitAns linesAns
  rw [ht, if_pos rfl, if_pos rfl]
  exact hit_line x y c (tiles_good ht) hh
theorem any_takeR (x y : Int) (l : List SR) (k : Nat) (hk : k < l.length) : (l.take (k + 1)).any (fun r => hasB r x y) = ((l.take k).any (fun r => hasB r x y) || hasB (l.getD k z27) x y) := by
  rw [List.take_add_one, List.getElem?_eq_getElem hk, List.any_append, List.getD_eq_getElem?_getD, List.getElem?_eq_getElem hk]
  simp

set_option maxHeartbeats 8000000 in
theorem tileHits_calls (w : World) (c : SC) (x y : Int) (A : Option Addr) (cap : Nat) (hr : (k29).C w A c.f3.length c.f3) (hcap : c.f3.length ≤ cap) (hl : (cells c).length ≤ 2000000) :
    Calls Try.prog 5 #[.agg #[.int .u8 c.f0, .int .i64 c.f1.f0, .int .i64 c.f1.f1, .int .i64 c.f1.f2, .int .i64 c.f1.f3, .int .i64 c.f2, .slice A c.f3.length cap], .int .i64 x, .int .i64 y] w fun e w' => e = .returned (.bool true) ∧ Below w.heap.size w w' := by
  obtain ⟨w1, hw1⟩ : ∃ w1, w1 = w.alloc (.cells #[.int .u8 c.f0, .int .i64 c.f1.f0, .int .i64 c.f1.f1, .int .i64 c.f1.f2, .int .i64 c.f1.f3, .int .i64 c.f2, .slice A c.f3.length cap] 29) := ⟨_, rfl⟩
  have hb1 : Below w.heap.size w w1 := by rw [hw1]; exact below_alloc (Below.refl _ _) _
  have hx1 : BoxAt w1 w.heap.size c A cap := by rw [hw1]; exact BoxAt.new w c A cap
  have hr1 := Kd.C_below hr hb1
  have HG := great_at c hl w1 A cap hcap hr1
  rw [hw1] at HG
  have HG := Aside0.mk HG
  have HW := Aside0.mk hw1
  have HB := Aside0.mk hb1
  have HX := Aside0.mk hx1
  have HR := Aside0.mk hr1
  clear hw1 hb1 hx1 hr1 hr
  by_cases hbig : 200 < (cells c).length
  · rw [decide_eq_true hbig] at HG
    clear hl hbig
    go_enter Try.func5, Try.ntmps5
    go_wp2_with fail
    refine HG.out.mono ?_
    rintro e w2 ⟨rfl, hb⟩
    rw [← HW.out] at hb
    have HB2 := Aside0.mk (HB.out.trans (hb.mono HB.out.size))
    clear hb HG
    go_wp2_with fail
    refine (awake_calls _).mono ?_
    rintro e w3 ⟨rfl, hb⟩
    have HB3 := Aside0.mk (HB2.out.trans (hb.mono HB2.out.size))
    clear hb
    go_wp2
    go_ret
    exact ⟨rfl, HB3.out⟩
  · rw [decide_eq_false hbig] at HG
    have hl2 : (cells c).length ≤ 200 := by omega
    have HL := Aside0.mk hl2
    have HLAW : Aside0 (∀ t h, tilesB c = t → hasB c.f1 x y = h → t = true → h = true → (hitAns c x y).2 = !(linesAns c).any (fun r => hasB r x y)) := ⟨fun t h h1 h2 h3 h4 => hits_law c x y (h1.trans h3) (h2.trans h4)⟩
    have HHF := Aside0.mk (Hit_f c x y (by omega) 100001 (by omega))
    have HH := thit_calls c x y
    have HTB := rtiles_at c (by omega)
    have HLI := tlines_calls c
    have HHAS : Aside0 (∀ w, Calls Try.prog 19 #[.agg #[.int .i64 c.f1.f0, .int .i64 c.f1.f1, .int .i64 c.f1.f2, .int .i64 c.f1.f3], .int .i64 x, .int .i64 y] w fun e w' => e = .returned (.bool (hasB c.f1 x y)) ∧ Below w.heap.size w w') := ⟨fun w => sashref04_Has.calls _ _ _ _ _ _ _ w (RHas_eq c.f1 x y)⟩
    replace HH : Aside0 (∀ W, (k29).C W A c.f3.length c.f3 → Calls Try.prog _ _ W _) := ⟨fun W h => HH W A cap (by omega) hcap h⟩
    replace HTB : Aside0 (∀ W, (k29).C W A c.f3.length c.f3 → Calls Try.prog _ _ W _) := ⟨fun W h => HTB W A cap hcap h⟩
    replace HLI : Aside0 (∀ W, (k29).C W A c.f3.length c.f3 → Calls Try.prog _ _ W _) := ⟨fun W h => HLI W A cap (by omega) hcap h⟩
    generalize hitAns c x y = ans at *
    obtain ⟨id, ok⟩ := ans
    generalize linesAns c = ls at *
    generalize tilesB c = tb at *
    generalize hasB c.f1 x y = hb0 at *
    have HLAW2 : Aside0 (tb = true → hb0 = true → ok = !ls.any (fun r => hasB r x y)) := ⟨fun h1 h2 => HLAW.out tb hb0 rfl rfl h1 h2⟩
    clear hl hbig hl2 HLAW
    go_enter Try.func5, Try.ntmps5
    go_wp2_with fail
    refine HG.out.mono ?_
    rintro e w2 ⟨rfl, hb⟩
    rw [← HW.out] at hb
    have HB2 := Aside0.mk (HB.out.trans (hb.mono HB.out.size))
    have HX2 := Aside0.mk (HX.out.below hb)
    have HR2 := Aside0.mk (Kd.C_below HR.out hb)
    obtain ⟨d0, d1, d2, d3, d4, d5, d6⟩ := HX2.out.cells
    have H2 := Aside0.mk (HH.out w2 HR2.out)
    clear hb HG
    go_wp2_with fail
    refine H2.out.mono ?_
    rintro e w3 ⟨rfl, hb⟩
    have HB3 := Aside0.mk (HB2.out.trans (hb.mono HB2.out.size))
    have HX3 := Aside0.mk (HX2.out.below hb)
    have HR3 := Aside0.mk (Kd.C_below HR2.out hb)
    have H3 := Aside0.mk (sashref06_Hit.calls 100001 _ _ _ _ _ _ A cap c.f3 x y _ _ w3 HR3.out hcap HHF.out)
    clear hb H2 d0 d1 d2 d3 d4 d5 d6
    obtain ⟨d0, d1, d2, d3, d4, d5, d6⟩ := HX3.out.cells
    go_wp2_with fail
    refine H3.out.mono ?_
    rintro e w4 ⟨rfl, hb⟩
    have HB4 := Aside0.mk (HB3.out.trans (hb.mono HB3.out.size))
    have HX4 := Aside0.mk (HX3.out.below hb)
    have HR4 := Aside0.mk (Kd.C_below HR3.out hb)
    have H4 := Aside0.mk (HLI.out w4 HR4.out)
    clear hb H3 d0 d1 d2 d3 d4 d5 d6
    obtain ⟨d0, d1, d2, d3, d4, d5, d6⟩ := HX4.out.cells
    go_wp2_with fail
    refine H4.out.mono ?_
    rintro e w5 ⟨hb, A1, n1, c1, rfl, hR⟩
    have HB5 := Aside0.mk (HB4.out.trans (hb.mono HB4.out.size))
    have HX5 := Aside0.mk (HX4.out.below hb)
    have HR5 := Aside0.mk (Kd.C_below HR4.out hb)
    obtain ⟨hn1, _, hCL⟩ := Kd.R_reads' hR
    subst hn1
    have HCL := Aside0.mk hCL
    have hmaxl := Kd.C_max hCL
    clear hb H4 d0 d1 d2 d3 d4 d5 d6 hR hCL
    go_wp2
    go_loopw [11, 13] (fun v i wr => ∃ (k : Nat) (b : Bool), k ≤ ls.length ∧ i = .int .i64 k ∧ v = .bool b ∧ Aside0 (b = (ls.take k).any (fun r => hasB r x y) ∧ Below w5.heap.size w5 wr)) (fun _ i _ => ls.length - (intOf i).toNat)
    case atStart => exact ⟨0, false, by omega, rfl, rfl, ⟨by simp, Below.refl _ _⟩⟩
    case round =>
      obtain ⟨k, b, hk, rfl, rfl, HA⟩ := hrel
      by_cases hlt : k < ls.length
      · have HANY := Aside0.mk (any_takeR x y ls k hlt)
        obtain ⟨ad, rfl, r0, r1, r2, r3⟩ := at_R (Kd.C_below HCL.out HA.out.2) k hlt
        generalize ls.getD k z27 = r at *
        cases b with
        | true =>
          go_wp2
          go_roundw
          case rel => exact ⟨k + 1, true, by omega, by go_num, rfl, ⟨by rw [HANY.out, ← HA.out.1]; rfl, HA.out.2⟩⟩
          case measure => simp [intOf]; omega
        | false =>
          have HC := Aside0.mk (sashref04_Has.calls _ _ _ _ x y _ wr (RHas_eq r x y))
          have HA1 := Aside0.mk HA.out.1
          have HA2 := Aside0.mk HA.out.2
          clear HA
          generalize hasB r x y = q at *
          go_wp2_with fail
          refine HC.out.mono ?_
          rintro e w6 ⟨rfl, hb⟩
          have HB6 := Aside0.mk (HA2.out.trans (hb.mono HA2.out.size))
          clear hb HC
          go_wp2
          go_roundw
          case rel => exact ⟨k + 1, q, by omega, by go_num, rfl, ⟨by rw [HANY.out, ← HA1.out]; rfl, HB6.out⟩⟩
          case measure => simp [intOf]; omega
      · have HE : Aside0 (b = ls.any (fun r => hasB r x y)) := ⟨by have := HA.out.1; rwa [List.take_of_length_le (by omega)] at this⟩
        have hszr := HA.out.2.size
        have HB6 := Aside0.mk (HB5.out.trans (HA.out.2.mono HB5.out.size))
        have HXr := Aside0.mk (HX5.out.below HA.out.2)
        have HRr := Aside0.mk (Kd.C_below HR5.out HA.out.2)
        obtain ⟨d0, d1, d2, d3, d4, d5, d6⟩ := HXr.out.cells
        have HT := Aside0.mk (HTB.out wr HRr.out)
        have hkb : decide ((k : Int) < (ls.length : Int)) = false := decide_eq_false (by omega)
        clear HA
        go_wp2_with fail
        refine HT.out.mono ?_
        rintro e w7 ⟨rfl, hb⟩
        have HB7 := Aside0.mk (HB6.out.trans (hb.mono HB6.out.size))
        have HX7 := Aside0.mk (HXr.out.below hb)
        clear hb HT d0 d1 d2 d3 d4 d5 d6
        obtain ⟨d0, d1, d2, d3, d4, d5, d6⟩ := HX7.out.cells
        cases tb with
        | false =>
          go_wp2_with fail
          refine (awake_calls _).mono ?_
          rintro e w8 ⟨rfl, hb⟩
          have HB8 := Aside0.mk (HB7.out.trans (hb.mono HB7.out.size))
          clear hb
          go_wp2
          go_ret
          exact ⟨rfl, HB8.out⟩
        | true =>
          go_wp2_with fail
          refine (HHAS.out _).mono ?_
          rintro e w8 ⟨rfl, hb⟩
          have HB8 := Aside0.mk (HB7.out.trans (hb.mono HB7.out.size))
          clear hb
          cases hb0 with
          | false =>
            go_wp2_with fail
            refine (awake_calls _).mono ?_
            rintro e w9 ⟨rfl, hb⟩
            have HB9 := Aside0.mk (HB8.out.trans (hb.mono HB8.out.size))
            clear hb
            go_wp2
            go_ret
            exact ⟨rfl, HB9.out⟩
          | true =>
            have hok := HLAW2.out (by trivial) (by trivial)
            rw [← HE.out] at hok
            subst hok
            have hne : ((!b) != b) = true := by cases b <;> rfl
            clear HLAW2
            go_wp2_with fail
            refine (awake_calls _).mono ?_
            rintro e w9 ⟨rfl, hb⟩
            have HB9 := Aside0.mk (HB8.out.trans (hb.mono HB8.out.size))
            clear hb
            go_wp2
            go_ret
            exact ⟨rfl, HB9.out⟩
end Go.Proofs.Ytakhnigalkjhhaa
