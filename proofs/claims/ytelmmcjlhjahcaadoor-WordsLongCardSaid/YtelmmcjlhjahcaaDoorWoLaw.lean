/-
  WordsCut: the walk.
-/
import Derived.Test.YtelmmcjlhjahcaaDoorWoPure
import Derived.Test.YtelmmcjlhjahcaaDoorWoAwake
import Derived.Test.YtelmmcjlhjahcaaDoorLaid
namespace Go.Proofs.YtelmmcjlhjahcaaDoor
open Go.RowKit Go.Proofs.YtelmmcjlhjahcaaDoorW.PrintWords Go.Proofs.YtelmmcjlhjahcaaDoorW.PrintLast Go.Proofs.YtelmmcjlhjahcaaDoorW.PrintMore Go.Proofs.YtelmmcjlhjahcaaDoor.PWordsCut
set_option linter.unusedVariables false
set_option linter.unusedSimpArgs false

/-- What a cutting's error is for errors.As. -/
theorem CutErr.ev {w : World} {base : Nat} {v : Value} {e a : Int} (h : CutErr w base v e a) : ∃ xs, As.EV w v xs (.fault e a) := by
  obtain ⟨g, f, rfl, ⟨h2, v', h3, h4⟩, h5, h6⟩ := h
  exact ⟨[_], g, v', _, rfl, h3, Kd.R_lower h4 (Nat.zero_le _), f, rfl, h6⟩

theorem law_many (w : World) (s : ByteArray) (hn : 500 < s.size) :
    Calls Tryd.prog 6 #[.string s] w fun e w' => e = .returned (.bool true) ∧ Below w.heap.size w w' := by
  have h500 : decide ((s.size : Int) > 500) = true := by simp; omega
  clear hn
  go_enter Tryd.func6, Tryd.ntmps6
  go_wp2_with (go_at_call 24; refine (awake_calls _).mono ?_; rintro e w' ⟨rfl, hb⟩)
  go_ret
  exact ⟨rfl, hb⟩

set_option maxHeartbeats 4000000 in
theorem law_few (w : World) (s : ByteArray) (hn : s.size ≤ 500) (hg : As.ErrT w) :
    Calls Tryd.prog 6 #[.string s] w fun e w' => e = .returned (.bool true) ∧ Below w.heap.size w w' := by
  have h500 : decide ((s.size : Int) > 500) = false := by simp; omega
  obtain ⟨r, hr⟩ : ∃ r, r = cutL 0 s.data.toList (-1) CS.init := ⟨_, rfl⟩
  have HC := cut_calls s w (by omega)
  have HP := ref_cut s (by omega) 2000 (by omega)
  rw [← hr] at HC HP
  rcases Int.lt_or_le r.1 0 with h0 | h0
  · have hfin : cutFin r = (r.2.commandW.cmds, 0, 0) := by unfold cutFin; rw [if_neg (by omega)]
    rw [hfin] at HP
    have HR : Aside0 (∀ w1, Calls Tryd.prog 25 #[.string s] w1 fun e w' => ∃ v0_ : Value, e = .returned (.tuple #[v0_, .int .i64 0, .int .i64 0]) ∧ Kd.S (Kd.slice 9 Kd.string) 36 w' w1.heap.size (fun _ => True) v0_ r.2.commandW.cmds ∧ Below w1.heap.size w1 w') := ⟨fun w1 => sashref20_Cut.calls 2000 s _ 0 0 w1 HP⟩
    replace HC := Aside0.mk HC
    have HZ := Aside0.mk h0
    have HN := Aside0.mk hn
    clear hn hg h0 HP hfin hr
    go_enter Tryd.func6, Tryd.ntmps6
    go_wp2_with fail
    with_reducible refine HC.out.mono ?_
    rintro e w1 ⟨hb1, _, h2⟩
    obtain ⟨A, n, c, rfl, hR1, hlen⟩ := h2 HZ.out
    have HB := Aside0.mk hb1
    have H1 := Aside0.mk hR1
    have HL := Aside0.mk hlen
    clear hb1 h2 hR1 HC HZ hlen
    go_wp2_with fail
    with_reducible refine (HR.out w1).mono ?_
    rintro e w2 ⟨v, rfl, hS, hb2⟩
    have hR2 := Kd.S_R hS
    obtain ⟨A2, n2, c2, rfl⟩ := sl_of_R hR2
    have H1' := Kd.R_below H1.out hb2
    obtain ⟨hn1, hc1, hC1⟩ := Kd.R_reads' H1'
    obtain ⟨hn2, hc2, hC2⟩ := Kd.R_reads' hR2
    obtain ⟨k, hk⟩ := sameAll_self _ w2 A _ hC1
    replace HB := Aside0.mk (HB.out.trans (hb2.mono HB.out.size))
    have HS : ∀ w3, Below w2.heap.size w2 w3 → Calls Tryd.prog 26 #[.slice A r.2.commandW.cmds.length c, .slice A2 r.2.commandW.cmds.length c2] w3 fun e w' => e = .returned (.bool true) ∧ Drawn0 w3 w' := fun w3 hb =>
      sashref20_SameAll.calls k A c _ A2 c2 _ true w3 (Kd.C_below hC1 hb) (by omega) (Kd.C_below hC2 hb) (by omega) hk
    subst hn1
    subst hn2
    replace HS := Aside0.mk HS
    clear hS hb2 hR2 H1' H1 hC1 hC2 hc1 hc2 hk HR
    go_wp2_with fail
    with_reducible refine (As.at_nil _).mono ?_
    rintro e w3 ⟨rfl, hb3⟩
    replace HS := Aside0.mk (HS.out w3 hb3)
    replace HB := Aside0.mk (HB.out.trans (hb3.mono HB.out.size))
    clear hb3
    go_wp2_with fail
    with_reducible refine HS.out.mono ?_
    rintro e w4 ⟨rfl, hd⟩
    replace HB := Aside0.mk (HB.out.trans (hd.below.mono HB.out.size))
    clear hd HS
    go_wp2_with fail
    with_reducible refine (As.code_nil _).mono ?_
    rintro e w5 ⟨rfl, hb5⟩
    replace HB := Aside0.mk (HB.out.trans (hb5.mono HB.out.size))
    clear hb5
    go_wp2_with fail
    refine (awake_calls _).mono ?_
    rintro e w6 ⟨rfl, hb6⟩
    replace HB := Aside0.mk (HB.out.trans (hb6.mono HB.out.size))
    clear hb6
    go_wp2
    go_ret
    exact ⟨rfl, HB.out⟩
  · have hfin : cutFin r = ([], 2, r.1) := by unfold cutFin; rw [if_pos h0]
    rw [hfin] at HP
    have HR : Aside0 (∀ w1, Calls Tryd.prog 25 #[.string s] w1 fun e w' => ∃ v0_ : Value, e = .returned (.tuple #[v0_, .int .i64 2, .int .i64 r.1]) ∧ Kd.S (Kd.slice 9 Kd.string) 36 w' w1.heap.size (fun _ => True) v0_ [] ∧ Below w1.heap.size w1 w') := ⟨fun w1 => sashref20_Cut.calls 2000 s _ 2 r.1 w1 HP⟩
    obtain ⟨x, hx⟩ : ∃ x, x = r.1 := ⟨_, rfl⟩
    rw [← hx] at HR HC h0
    replace HC := Aside0.mk HC
    have HZ := Aside0.mk h0
    have HG := Aside0.mk hg
    clear hn hg h0 HP hfin hr hx
    go_enter Tryd.func6, Tryd.ntmps6
    go_wp2_with fail
    with_reducible refine HC.out.mono ?_
    rintro e w1 ⟨hb1, h2, _⟩
    obtain ⟨v, rfl, hE⟩ := h2 HZ.out
    obtain ⟨xs, hev⟩ := hE.ev
    obtain ⟨ut, ux, rfl⟩ := As.EV_iface hev
    have HB := Aside0.mk hb1
    replace HG := Aside0.mk (HG.out.below hb1)
    have HV := Aside0.mk hev
    clear hb1 h2 hE hev HC HZ
    go_wp2_with fail
    with_reducible refine (HR.out w1).mono ?_
    rintro e w2 ⟨v, rfl, hS, hb2⟩
    have hR2 := Kd.S_R hS
    obtain ⟨A2, n2, c2, rfl⟩ := sl_of_R hR2
    obtain ⟨hn2, hc2, hC2⟩ := Kd.R_reads' hR2
    have hz : n2 = 0 := hn2
    subst hz
    replace HB := Aside0.mk (HB.out.trans (hb2.mono HB.out.size))
    replace HG := Aside0.mk (HG.out.below hb2)
    replace HV := Aside0.mk (As.EV_keep hb2 HV.out)
    have HC2 := Aside0.mk hC2
    have HA : Aside0 (Calls Tryd.prog 15 #[.iface ut ux] w2 fun e w' => e = .returned (.tuple #[.int .i64 x, .bool true]) ∧ Below w2.heap.size w2 w') := Aside0.mk (As.at_calls _ xs _ w2 HV.out HG.out)
    clear hS hb2 hR2 hn2 hC2 hc2 HR
    go_wp2_with fail
    with_reducible refine HA.out.mono ?_
    rintro e w3 ⟨rfl, hb3⟩
    have HS : Aside0 (Calls Tryd.prog 26 #[.slice none 0 0, .slice A2 0 c2] w3 fun e w' => e = .returned (.bool true) ∧ Drawn0 w3 w') := Aside0.mk (sashref20_SameAll.calls 10 none 0 [] A2 c2 [] true w3 (Kd.C_nil _ _) (Nat.le_refl _) (Kd.C_below HC2.out hb3) (Nat.zero_le _) (by rfl))
    replace HB := Aside0.mk (HB.out.trans (hb3.mono HB.out.size))
    replace HG := Aside0.mk (HG.out.below hb3)
    replace HV := Aside0.mk (As.EV_keep hb3 HV.out)
    clear hb3 HA HC2
    go_wp2_with fail
    with_reducible refine HS.out.mono ?_
    rintro e w4 ⟨rfl, hd⟩
    have HC : Aside0 (Calls Tryd.prog 16 #[.iface ut ux] w4 fun e w' => e = .returned (.int .i64 2) ∧ Below w4.heap.size w4 w') := Aside0.mk (As.code_calls _ xs _ w4 (As.EV_keep hd.below HV.out) (HG.out.below hd.below))
    replace HB := Aside0.mk (HB.out.trans (hd.below.mono HB.out.size))
    clear hd HS HV HG
    go_wp2_with fail
    with_reducible refine HC.out.mono ?_
    rintro e w5 ⟨rfl, hb5⟩
    replace HB := Aside0.mk (HB.out.trans (hb5.mono HB.out.size))
    clear hb5 HC
    go_wp2_with fail
    refine (awake_calls _).mono ?_
    rintro e w6 ⟨rfl, hb6⟩
    replace HB := Aside0.mk (HB.out.trans (hb6.mono HB.out.size))
    clear hb6
    go_wp2
    go_ret
    exact ⟨rfl, HB.out⟩
theorem law_calls (w : World) (s : ByteArray) (hg : As.ErrT w) :
    Calls Tryd.prog 6 #[.string s] w fun e w' => e = .returned (.bool true) ∧ Below w.heap.size w w' := by
  by_cases h : s.size ≤ 500
  · exact law_few w s h hg
  · exact law_many w s (by omega)
end Go.Proofs.YtelmmcjlhjahcaaDoor
