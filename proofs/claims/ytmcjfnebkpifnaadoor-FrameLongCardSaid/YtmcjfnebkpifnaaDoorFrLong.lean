/-
  FrameLong: the walk.
-/
import Derived.Test.YtmcjfnebkpifnaaDoorFrNil
namespace Go.Proofs.YtmcjfnebkpifnaaDoor
open Go.RowKit Go.Proofs.YtmcjfnebkpifnaaDoorW.PrintWords Go.Proofs.YtmcjfnebkpifnaaDoorW.PrintLast Go.Proofs.YtmcjfnebkpifnaaDoorW.PrintMore Go.Proofs.YtmcjfnebkpifnaaDoor.PFrameFeeds
set_option linter.unusedVariables false
set_option linter.unusedSimpArgs false
set_option maxRecDepth 100000

theorem long_over (a b c d m : Int) (h : 65535 < ((a * 256 + b) * 256 + c) * 256 + d) :
    DS.init.feedL [1, a, b, c, d, m, m] = ({ bytes := [1, a, b, c, d], fed := 5, over := true }, [], some (3, 4)) := by
  simp [DS.feedL, DS.init, frWrong, frIs, frNum, frPart, h]
theorem long_waits (a b c d m : Int) (h : ¬ 65535 < ((a * 256 + b) * 256 + c) * 256 + d) (h2 : 2 < ((a * 256 + b) * 256 + c) * 256 + d) :
    DS.init.feedL [1, a, b, c, d, m, m] = ({ bytes := [1, a, b, c, d, m, m], fed := 7, over := false }, [], none) := by
  have e5 : ¬ (5 + (((a * 256 + b) * 256 + c) * 256 + d) ≤ 5) := by omega
  have e6 : ¬ (5 + (((a * 256 + b) * 256 + c) * 256 + d) ≤ 6) := by omega
  have e7 : ¬ (5 + (((a * 256 + b) * 256 + c) * 256 + d) ≤ 7) := by omega
  simp [DS.feedL, DS.init, frWrong, frIs, frNum, frPart, h, e5, e6, e7]

theorem long_parts (n : Int) (hn : 0 ≤ n ∧ n ≤ 4294967295) : ((n / 16777216 * 256 + n / 65536 % 256) * 256 + n / 256 % 256) * 256 + n % 256 = n := by omega
theorem long_bytes (n m : Int) (hn : 0 ≤ n ∧ n ≤ 4294967295) (hm : 0 ≤ m ∧ m ≤ 255) : Bytes [1, n / 16777216, n / 65536 % 256, n / 256 % 256, n % 256, m, m] := by
  intro x hx
  simp at hx
  rcases hx with rfl | rfl | rfl | rfl | rfl | rfl | rfl <;> omega

set_option maxHeartbeats 4000000 in
theorem long_calls (w : World) (n m : Int) (hn : 0 ≤ n ∧ n ≤ 4294967295) (hm : 0 ≤ m ∧ m ≤ 255) (hg : As.ErrT w) :
    Calls Tryd.prog 5 #[.int .u32 n, .int .u8 m] w fun e w' => e = .returned (.bool true) ∧ Below w.heap.size w w' := by
  have hp := Aside0.mk (long_parts n hn)
  have hb := Aside0.mk (long_bytes n m hn hm)
  have hG := Aside0.mk hg
  clear hg
  have R0 : Aside0 ((Kd.int .u8).R 5 ((w.alloc (.cells #[.int .u8 1, .int .u8 (n / 16777216), .int .u8 (n / 65536 % 256), .int .u8 (n / 256 % 256), .int .u8 (n % 256)] 5)).alloc (.cells #[.int .u8 m, .int .u8 m] 5)) w.heap.size (fun _ => True) (.slice (some ⟨w.heap.size, 0, none⟩) 5 5) [1, n / 16777216, n / 65536 % 256, n / 256 % 256, n % 256]) :=
    ⟨Kd.R_alloc (Kd.R_of_own (own_lit_of (enc := Value.int .u8) w w.heap.size 5 [1, n / 16777216, n / 65536 % 256, n / 256 % 256, n % 256] (Nat.le_refl _) (by simp)) (fun _ _ => trivial)) _⟩
  have e1 : (w.alloc (.cells #[.int .u8 1, .int .u8 (n / 16777216), .int .u8 (n / 65536 % 256), .int .u8 (n / 256 % 256), .int .u8 (n % 256)] 5)).heap.size = w.heap.size + 1 := by simp
  have C0 : Aside0 ((Kd.int .u8).C ((w.alloc (.cells #[.int .u8 1, .int .u8 (n / 16777216), .int .u8 (n / 65536 % 256), .int .u8 (n / 256 % 256), .int .u8 (n % 256)] 5)).alloc (.cells #[.int .u8 m, .int .u8 m] 5)) (some ⟨w.heap.size + 1, 0, none⟩) 2 [m, m]) :=
    ⟨e1 ▸ litNums (w.alloc (.cells #[.int .u8 1, .int .u8 (n / 16777216), .int .u8 (n / 65536 % 256), .int .u8 (n / 256 % 256), .int .u8 (n % 256)] 5)) 5 [m, m] (by simp)⟩
  have B0 : Aside0 (Below w.heap.size w ((w.alloc (.cells #[.int .u8 1, .int .u8 (n / 16777216), .int .u8 (n / 65536 % 256), .int .u8 (n / 256 % 256), .int .u8 (n % 256)] 5)).alloc (.cells #[.int .u8 m, .int .u8 m] 5))) := ⟨below_alloc (below_alloc (Below.refl _ _) _) _⟩
  clear e1
  rcases Int.lt_or_le 65535 n with h1 | h1
  · have t1 : decide (n > 65535) = true := by simpa using h1
    have hF := Aside0.mk (long_over (n / 16777216) (n / 65536 % 256) (n / 256 % 256) (n % 256) m (by rw [hp.out]; exact h1))
    clear h1 hp
    go_enter Tryd.func5, Tryd.ntmps5
    go_wp2_with (at_builtin; refine Kd.R_append_row (Value.int .u8) 0 (w0 := w) w.heap.size rfl (.tmp 24) (.tmp 27) 27 5 (.int .u8 0) 1 rfl Tryd.underlying27 infoB rfl (by decide) (.slice (some ⟨w.heap.size, 0, none⟩) 5 5) [1, n / 16777216, n / 65536 % 256, n / 256 % 256, n % 256] [m, m] (some ⟨w.heap.size + 1, 0, none⟩) 2 2 (fun _ => True) rfl rfl (fun _ _ => trivial) R0.out C0.out B0.out ?aS (by simp) ?_)
    case aS => simp; omega
    intro v1 w1 ho hbl _ _
    obtain ⟨A1, n1, c1, rfl⟩ := sl_of_R ho
    obtain ⟨hn1, hc1, hC1⟩ := Kd.R_reads' ho
    have hn7 : n1 = 7 := hn1
    subst hn7
    have HR := read_calls w1 A1 7 c1 [1, n / 16777216, n / 65536 % 256, n / 256 % 256, n % 256, m, m] hC1 hc1 (by decide) hb.out
    rw [hF.out] at HR
    have HB1 := Aside0.mk hbl
    replace HR := Aside0.mk HR
    clear hn1 hc1 hC1 ho hbl hF R0 C0 B0
    have e0 : (DS.mk [1, n / 16777216, n / 65536 % 256, n / 256 % 256, n % 256] 5 true).waits = 0 := rfl
    rw [e0] at HR
    clear e0
    go_wp2_with fail
    with_reducible refine HR.out.mono ?_
    rintro e w2 ⟨v, ev, rfl, hb2, hf1, _, hf2⟩
    have hfe := hf2 _ rfl
    obtain ⟨A, n2, c, rfl⟩ := sl_of_R hf1
    have hz : n2 = 0 := (Kd.R_reads' hf1).1
    subst hz
    obtain ⟨xs, hev⟩ := hfe.ev
    obtain ⟨ut, ux, rfl⟩ := As.EV_iface hev
    have HB := Aside0.mk (HB1.out.trans (hb2.mono HB1.out.size))
    have HG2 := Aside0.mk (hG.out.below HB.out)
    have HA := Aside0.mk (As.at_calls _ xs _ w2 hev HG2.out)
    have HV := Aside0.mk hev
    clear hev hfe hf1 hf2 hb2 HR HB1
    go_wp2_with fail
    with_reducible refine HA.out.mono ?_
    rintro e w3 ⟨rfl, hb3⟩
    have HC := Aside0.mk (As.code_calls _ xs _ w3 (As.EV_keep hb3 HV.out) (HG2.out.below hb3))
    replace HB := Aside0.mk (HB.out.trans (hb3.mono HB.out.size))
    clear hb3 HA HV HG2
    go_wp2_with fail
    with_reducible refine HC.out.mono ?_
    rintro e w4 ⟨rfl, hb4⟩
    replace HB := Aside0.mk (HB.out.trans (hb4.mono HB.out.size))
    clear hb4 HC
    go_wp2_with fail
    refine (awake_calls _).mono ?_
    rintro e w5 ⟨rfl, hb5⟩
    replace HB := Aside0.mk (HB.out.trans (hb5.mono HB.out.size))
    clear hb5
    go_wp2
    go_ret
    exact ⟨rfl, HB.out⟩
  · have t1 : decide (n > 65535) = false := by simpa using h1
    rcases Int.lt_or_le 2 n with h2 | h2
    · have t2 : decide (n ≤ 2) = false := by simpa using h2
      have hF := Aside0.mk (long_waits (n / 16777216) (n / 65536 % 256) (n / 256 % 256) (n % 256) m (by rw [hp.out]; omega) (by rw [hp.out]; exact h2))
      clear h1 h2 hp
      go_enter Tryd.func5, Tryd.ntmps5
      go_wp2_with (at_builtin; refine Kd.R_append_row (Value.int .u8) 0 (w0 := w) w.heap.size rfl (.tmp 24) (.tmp 27) 27 5 (.int .u8 0) 1 rfl Tryd.underlying27 infoB rfl (by decide) (.slice (some ⟨w.heap.size, 0, none⟩) 5 5) [1, n / 16777216, n / 65536 % 256, n / 256 % 256, n % 256] [m, m] (some ⟨w.heap.size + 1, 0, none⟩) 2 2 (fun _ => True) rfl rfl (fun _ _ => trivial) R0.out C0.out B0.out ?aS (by simp) ?_)
      case aS => simp; omega
      intro v1 w1 ho hbl _ _
      obtain ⟨A1, n1, c1, rfl⟩ := sl_of_R ho
      obtain ⟨hn1, hc1, hC1⟩ := Kd.R_reads' ho
      have hn7 : n1 = 7 := hn1
      subst hn7
      have HR := read_calls w1 A1 7 c1 [1, n / 16777216, n / 65536 % 256, n / 256 % 256, n % 256, m, m] hC1 hc1 (by decide) hb.out
      rw [hF.out] at HR
      have HB1 := Aside0.mk hbl
      replace HR := Aside0.mk HR
      clear hn1 hc1 hC1 ho hbl hF R0 C0 B0
      have e0 : (DS.mk [1, n / 16777216, n / 65536 % 256, n / 256 % 256, n % 256, m, m] 7 false).waits = 7 := rfl
      rw [e0] at HR
      clear e0
      go_wp2_with fail
      with_reducible refine HR.out.mono ?_
      rintro e w2 ⟨v, ev, rfl, hb2, hf1, hf2, _⟩
      obtain rfl := hf2 rfl
      obtain ⟨A, n2, c, rfl⟩ := sl_of_R hf1
      have hz : n2 = 0 := (Kd.R_reads' hf1).1
      subst hz
      have HB := Aside0.mk (HB1.out.trans (hb2.mono HB1.out.size))
      clear hf1 hf2 hb2 HR HB1
      go_wp2_with fail
      refine (awake_calls _).mono ?_
      rintro e w5 ⟨rfl, hb5⟩
      replace HB := Aside0.mk (HB.out.trans (hb5.mono HB.out.size))
      clear hb5
      go_wp2
      go_ret
      exact ⟨rfl, HB.out⟩
    · have t2 : decide (n ≤ 2) = true := by simpa using h2
      clear h1 h2 hp
      obtain ⟨R, hR⟩ : ∃ R, R = DS.init.feedL [1, n / 16777216, n / 65536 % 256, n / 256 % 256, n % 256, m, m] := ⟨_, rfl⟩
      go_enter Tryd.func5, Tryd.ntmps5
      go_wp2_with (at_builtin; refine Kd.R_append_row (Value.int .u8) 0 (w0 := w) w.heap.size rfl (.tmp 24) (.tmp 27) 27 5 (.int .u8 0) 1 rfl Tryd.underlying27 infoB rfl (by decide) (.slice (some ⟨w.heap.size, 0, none⟩) 5 5) [1, n / 16777216, n / 65536 % 256, n / 256 % 256, n % 256] [m, m] (some ⟨w.heap.size + 1, 0, none⟩) 2 2 (fun _ => True) rfl rfl (fun _ _ => trivial) R0.out C0.out B0.out ?aS (by simp) ?_)
      case aS => simp; omega
      intro v1 w1 ho hbl _ _
      obtain ⟨A1, n1, c1, rfl⟩ := sl_of_R ho
      obtain ⟨hn1, hc1, hC1⟩ := Kd.R_reads' ho
      have hn7 : n1 = 7 := hn1
      subst hn7
      have HR := read_calls w1 A1 7 c1 [1, n / 16777216, n / 65536 % 256, n / 256 % 256, n % 256, m, m] hC1 hc1 (by decide) hb.out
      rw [← hR] at HR
      have HB1 := Aside0.mk hbl
      replace HR := Aside0.mk HR
      clear hn1 hc1 hC1 ho hbl R0 C0 B0 hR
      go_wp2_with fail
      with_reducible refine HR.out.mono ?_
      rintro e w2 ⟨v, ev, rfl, hb2, _⟩
      have HB := Aside0.mk (HB1.out.trans (hb2.mono HB1.out.size))
      clear hb2 HR HB1
      go_wp2_with fail
      refine (awake_calls _).mono ?_
      rintro e w5 ⟨rfl, hb5⟩
      replace HB := Aside0.mk (HB.out.trans (hb5.mono HB.out.size))
      clear hb5
      go_wp2
      go_ret
      exact ⟨rfl, HB.out⟩
end Go.Proofs.YtmcjfnebkpifnaaDoor
