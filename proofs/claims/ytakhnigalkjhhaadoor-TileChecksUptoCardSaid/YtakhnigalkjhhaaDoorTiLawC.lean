/-
  TileChecks: the walk.
-/
import Derived.Test.YtakhnigalkjhhaaDoorTiAwake
import Derived.Test.YtakhnigalkjhhaaDoorAsTop
namespace Go.Proofs.YtakhnigalkjhhaaDoor
open Go.RowKit Go.Proofs.YtakhnigalkjhhaaDoorW.PrintWords Go.Proofs.YtakhnigalkjhhaaDoorW.PrintLast Go.Proofs.YtakhnigalkjhhaaDoorW.PrintMore Go.Proofs.YtakhnigalkjhhaaDoor.PTileChecks
set_option linter.unusedVariables false
set_option linter.unusedSimpArgs false
set_option maxRecDepth 100000

theorem ChkErr.ev {w : World} {base : Nat} {v : Value} {e a : Int} (h : ChkErr w base v e a) : ∃ xs, As.EV w v xs (.fault e a) := by
  obtain ⟨g, f, rfl, ⟨h2, v', h3, h4⟩, h5, h6⟩ := h
  exact ⟨[_], g, v', _, rfl, h3, Kd.R_lower h4 (Nat.zero_le _), f, rfl, h6⟩
theorem Same_l0R (l : List SR) (hl : l.length ≤ 100000) : ∀ (d k i : Nat), l.length - i = d → i ≤ l.length → d < k → sashref04_Same.l0 k l l (l.length : Int) (i : Int) = some true := by
  intro d
  induction d with
  | zero =>
    intro k i hd hi hk
    obtain ⟨k, rfl⟩ : ∃ m, k = m + 1 := ⟨k - 1, by omega⟩
    simp only [sashref04_Same.l0]
    rw [if_neg (by omega)]
  | succ d ih =>
    intro k i hd hi hk
    obtain ⟨k, rfl⟩ : ∃ m, k = m + 1 := ⟨k - 1, by omega⟩
    have hlt : i < l.length := by omega
    simp only [sashref04_Same.l0]
    rw [if_pos (by omega), if_pos (by omega), if_pos (by omega), if_pos (by omega), if_neg (by simp), wi i (by omega)]
    exact ih k (i + 1) (by omega) (by omega) (by omega)
theorem Same_fR (l : List SR) (hl : l.length ≤ 100000) (k : Nat) (hk : l.length < k) : sashref04_Same.f k l l = some true := by
  unfold sashref04_Same.f
  rw [if_pos rfl]
  exact Same_l0R l hl l.length k 0 (by omega) (by omega) hk
theorem great_atC (c : SC) (hl : (cells c).length ≤ 2000000) (w : World) (A : Option Addr) (cap : Nat) (hcap : c.f3.length ≤ cap) (hr : (k26).C w A c.f3.length c.f3) :
    Calls Tryd.prog 7 #[.agg #[.int .u8 c.f0, .int .i64 c.f1.f0, .int .i64 c.f1.f1, .int .i64 c.f1.f2, .int .i64 c.f1.f3, .int .i64 c.f2, .slice A c.f3.length cap]] w fun e w' => e = .returned (.bool (decide (200 < (cells c).length))) ∧ Below w.heap.size w w' :=
  sashref05_Great.calls 4000001 _ _ _ _ _ _ A cap c.f3 _ w hr hcap (great_f c hl 4000001 (by omega))
theorem chk_num (c : SC) : chkNo c = 0 ∨ chkNo c = 1 ∨ chkNo c = 5 := by
  unfold chkNo
  split
  · split
    · exact Or.inl rfl
    · exact Or.inr (Or.inr rfl)
  · exact Or.inr (Or.inl rfl)
theorem chk_at0 (c : SC) (h : chkNo c = 0) : chkAt c = 0 := by
  unfold chkNo at h
  unfold chkAt
  split at h
  · rename_i h1
    rw [if_pos h1]
    split at h
    · rename_i h2; rw [if_pos h2]
    · exact absurd h (by decide)
  · exact absurd h (by decide)
theorem linesAns_len (c : SC) : (linesAns c).length ≤ (cells c).length := by
  unfold linesAns
  split
  · rename_i h
    have hg := (geo c (tiles_good h)).len
    have : (lvR c).length ≤ (cells c).length := by
      unfold lvR leavesOf
      rw [List.length_map]
      exact List.length_filter_le _ _
    omega
  · exact Nat.zero_le _

theorem chk_cases (c : SC) (w : World) (e : Ending) (w' : World) (h : OutCheck w c e w') (hE : As.ErrT w) :
    ∃ ev, e = .returned ev ∧ ((ev = .nilIface ∧ chkNo c = 0) ∨ (∃ t x, ev = .iface t x ∧ chkNo c = 1) ∨ (∃ t x, ev = .iface t x ∧ chkNo c = 5)) ∧
      (∀ W, Below w'.heap.size w' W → Calls Tryd.prog 11 #[ev] W fun e2 W2 => e2 = .returned (.tuple #[.int .i64 (chkAt c), .bool (!(chkNo c == 0))]) ∧ Below W.heap.size W W2) ∧
      (∀ W, Below w'.heap.size w' W → Calls Tryd.prog 12 #[ev] W fun e2 W2 => e2 = .returned (.int .i64 (chkNo c)) ∧ Below W.heap.size W W2) := by
  obtain ⟨hb, v, rfl, h0, h1⟩ := h
  have hE' := hE.below hb
  by_cases hz : chkNo c = 0
  · rw [h0 hz]
    refine ⟨_, rfl, Or.inl ⟨rfl, hz⟩, fun W hW => ?_, fun W hW => ?_⟩
    · rw [hz, chk_at0 c hz]; exact As.at_nil W
    · rw [hz]; exact As.code_nil W
  · obtain ⟨xs, hev⟩ := (h1 hz).ev
    obtain ⟨t, x, rfl⟩ := As.EV_iface hev
    have hb : (!(chkNo c == 0)) = true := by simp [hz]
    refine ⟨_, rfl, ?_, fun W hW => ?_, fun W hW => ?_⟩
    · rcases chk_num c with h | h | h
      · exact absurd h hz
      · exact Or.inr (Or.inl ⟨t, x, rfl, h⟩)
      · exact Or.inr (Or.inr ⟨t, x, rfl, h⟩)
    · rw [hb]; exact As.at_calls _ xs _ W (As.EV_keep hW hev) (hE'.below hW)
    · exact As.code_calls _ xs _ W (As.EV_keep hW hev) (hE'.below hW)

set_option maxHeartbeats 8000000 in
theorem tileChecks_calls (w : World) (c : SC) (A : Option Addr) (cap : Nat) (hr : (k26).C w A c.f3.length c.f3) (hcap : c.f3.length ≤ cap) (hl : (cells c).length ≤ 2000000) (hE : As.ErrT w) :
    Calls Tryd.prog 3 #[.agg #[.int .u8 c.f0, .int .i64 c.f1.f0, .int .i64 c.f1.f1, .int .i64 c.f1.f2, .int .i64 c.f1.f3, .int .i64 c.f2, .slice A c.f3.length cap]] w fun e w' => e = .returned (.bool true) ∧ Below w.heap.size w w' := by
  obtain ⟨w1, hw1⟩ : ∃ w1, w1 = w.alloc (.cells #[.int .u8 c.f0, .int .i64 c.f1.f0, .int .i64 c.f1.f1, .int .i64 c.f1.f2, .int .i64 c.f1.f3, .int .i64 c.f2, .slice A c.f3.length cap] 26) := ⟨_, rfl⟩
  have hb1 : Below w.heap.size w w1 := by rw [hw1]; exact below_alloc (Below.refl _ _) _
  have hx1 : BoxAt w1 w.heap.size c A cap := by rw [hw1]; exact BoxAt.new w c A cap
  have hr1 := Kd.C_below hr hb1
  have HG := great_atC c hl w1 A cap hcap hr1
  rw [hw1] at HG
  have HG := Aside0.mk HG
  have HW := Aside0.mk hw1
  have HB := Aside0.mk hb1
  have HX := Aside0.mk hx1
  have HR := Aside0.mk hr1
  have HE := Aside0.mk hE
  have hs1 : w.heap.size < w1.heap.size := blk_lt hx1
  clear hw1 hb1 hx1 hr1 hr hE
  by_cases hbig : 200 < (cells c).length
  · rw [decide_eq_true hbig] at HG
    clear hl hbig
    go_enter Tryd.func3, Tryd.ntmps3
    go_wp2_with fail
    refine HG.out.mono ?_
    rintro e w2 ⟨rfl, hb⟩
    rw [← HW.out] at hb
    have HB2 := Aside0.mk (HB.out.trans (hb.mono HB.out.size))
    clear hb HG
    go_wp2_with fail
    refine (awake_calls _).mono ?_
    rintro e w3 ⟨rfl, hb⟩
    have HB3 := Aside0.mk (HB2.out.trans (hb.mono HB2.out.size))
    clear hb
    go_wp2
    go_ret
    exact ⟨rfl, HB3.out⟩
  · rw [decide_eq_false hbig] at HG
    have hl2 : (cells c).length ≤ 200 := by omega
    have HL := Aside0.mk hl2
    have HCF := Aside0.mk (Check_f c (by omega) 100001 (by omega))
    have HTB := Aside0.mk (tilesB_no c)
    have hll := linesAns_len c
    clear hl hbig
    go_enter Tryd.func3, Tryd.ntmps3
    go_wp2_with fail
    refine HG.out.mono ?_
    rintro e w2 ⟨rfl, hb⟩
    rw [← HW.out] at hb
    have HB2 := Aside0.mk (HB.out.trans (hb.mono HB.out.size))
    have HX2 := Aside0.mk (HX.out.below hb)
    have HR2 := Aside0.mk (Kd.C_below HR.out hb)
    obtain ⟨d0, d1, d2, d3, d4, d5, d6⟩ := HX2.out.cells
    have HCK := Aside0.mk (check_calls c w2 A cap (by omega) hcap HR2.out)
    clear hb HG
    go_wp2_with fail
    refine HCK.out.mono ?_
    rintro e w3 hout
    have hb := hout.1
    obtain ⟨ev, rfl, hev, hAT, hCO⟩ := chk_cases c w2 e w3 hout (HE.out.below HB2.out)
    have HB3 := Aside0.mk (HB2.out.trans (hb.mono HB2.out.size))
    have HX3 := Aside0.mk (HX2.out.below hb)
    have HR3 := Aside0.mk (Kd.C_below HR2.out hb)
    have HEV := Aside0.mk hev
    have HAT := Aside0.mk hAT
    have HCO := Aside0.mk hCO
    have HRC := Aside0.mk (sashref06_Check.calls 100001 _ _ _ _ _ _ A cap c.f3 (linesAns c) (chkNo c) (chkAt c) w3 HR3.out hcap HCF.out)
    have HLI : Aside0 (∀ W, (k26).C W A c.f3.length c.f3 → Calls Tryd.prog 14 #[.agg #[.int .u8 c.f0, .int .i64 c.f1.f0, .int .i64 c.f1.f1, .int .i64 c.f1.f2, .int .i64 c.f1.f3, .int .i64 c.f2, .slice A c.f3.length cap]] W
        fun e w' => Below W.heap.size W w' ∧ ∃ A1 n1 c1, e = .returned (.slice A1 n1 c1) ∧ (k23).R 23 w' W.heap.size (fun _ => True) (.slice A1 n1 c1) (linesAns c)) := ⟨fun W h => tlines_calls c W A cap (by have := HL.out; omega) hcap h⟩
    have HTI : Aside0 (∀ W, (k26).C W A c.f3.length c.f3 → Calls Tryd.prog 15 #[.slice (some ⟨W.heap.size, 0, none⟩) 1 1] (W.alloc (.cells #[.int .u8 c.f0, .int .i64 c.f1.f0, .int .i64 c.f1.f1, .int .i64 c.f1.f2, .int .i64 c.f1.f3, .int .i64 c.f2, .slice A c.f3.length cap] 26)) fun e w' => e = .returned (.bool (decide (chkNo c = 0))) ∧ Below W.heap.size W w') := ⟨fun W h => by
      have h1 := tiles_calls [c] (W.alloc (.cells #[.int .u8 c.f0, .int .i64 c.f1.f0, .int .i64 c.f1.f1, .int .i64 c.f1.f2, .int .i64 c.f1.f3, .int .i64 c.f2, .slice A c.f3.length cap] 26)) (some ⟨W.heap.size, 0, none⟩) 1 1
        (fun z hz => by obtain rfl : z = c := by simpa using hz
                        have := HL.out; omega) (one_row W c A cap hcap h)
      rw [show [c].all tilesB = tilesB c by simp, HTB.out] at h1
      exact h1.mono fun e w' ⟨q1, q2⟩ => ⟨q1, (below_alloc (Below.refl _ _) _).trans (q2.mono (by simp))⟩⟩
    have HSA := Aside0.mk (Same_fR (linesAns c) (by omega) 1000 (by omega))
    obtain ⟨ls, hls⟩ : ∃ ls, ls = linesAns c := ⟨_, rfl⟩
    obtain ⟨no, hno⟩ : ∃ no, no = chkNo c := ⟨_, rfl⟩
    obtain ⟨pl, hpl⟩ : ∃ pl, pl = chkAt c := ⟨_, rfl⟩
    rw [← hls] at HRC HLI HSA hll
    rw [← hno] at HRC HEV HAT HCO HTI
    rw [← hpl] at HRC HAT
    clear hb hout hev hAT hCO HCK d0 d1 d2 d3 d4 d5 d6 HCF HTB hls hno hpl
    obtain ⟨d0, d1, d2, d3, d4, d5, d6⟩ := HX3.out.cells
    go_wp2_with fail
    refine HRC.out.mono ?_
    rintro e w4 ⟨v4, rfl, hR, hb⟩
    obtain ⟨A4, n4, c4, rfl⟩ := sl_of_R hR
    obtain ⟨hn4, hc4, hC4⟩ := Kd.R_reads' hR
    subst hn4
    have HB4 := Aside0.mk (HB3.out.trans (hb.mono HB3.out.size))
    have HX4 := Aside0.mk (HX3.out.below hb)
    have HR4 := Aside0.mk (Kd.C_below HR3.out hb)
    have HC4 := Aside0.mk hC4
    have HAT4 := Aside0.mk (HAT.out w4 hb)
    have H34 := Aside0.mk hb
    clear hb hR hC4 HRC HAT d0 d1 d2 d3 d4 d5 d6
    go_wp2_with fail
    with_reducible refine HAT4.out.mono ?_
    rintro e w5 ⟨rfl, hb⟩
    have H45 := Aside0.mk hb
    have HB5 := Aside0.mk (HB4.out.trans (hb.mono HB4.out.size))
    have HX5 := Aside0.mk (HX4.out.below hb)
    have HR5 := Aside0.mk (Kd.C_below HR4.out hb)
    have HC5 := Aside0.mk (Kd.C_below HC4.out hb)
    have HCO5 := Aside0.mk (HCO.out w5 (H34.out.trans (hb.mono H34.out.size)))
    clear hb HAT4 HCO
    rcases HEV.out with ⟨rfl, rfl⟩ | ⟨t, x, rfl, rfl⟩ | ⟨t, x, rfl, rfl⟩
    all_goals
      clear HEV
      go_wp2_with fail
      with_reducible refine HCO5.out.mono ?_
      rintro e w6 ⟨rfl, hb⟩
      have HB6 := Aside0.mk (HB5.out.trans (hb.mono HB5.out.size))
      have HX6 := Aside0.mk (HX5.out.below hb)
      have HR6 := Aside0.mk (Kd.C_below HR5.out hb)
      have HC6 := Aside0.mk (Kd.C_below HC5.out hb)
      have HL6 := Aside0.mk (HLI.out w6 HR6.out)
      clear hb HCO5 HLI
      obtain ⟨d0, d1, d2, d3, d4, d5, d6⟩ := HX6.out.cells
      go_wp2_with fail
      with_reducible refine HL6.out.mono ?_
      rintro e w7 ⟨hb, A7, n7, c7, rfl, hR⟩
      obtain ⟨hn7, hc7, hC7⟩ := Kd.R_reads' hR
      subst hn7
      have HB7 := Aside0.mk (HB6.out.trans (hb.mono HB6.out.size))
      have HX7 := Aside0.mk (HX6.out.below hb)
      have HR7 := Aside0.mk (Kd.C_below HR6.out hb)
      have HS7 := Aside0.mk (sashref04_Same.calls 1000 A7 c7 ls A4 c4 ls true w7 hC7 hc7 (Kd.C_below HC6.out hb) hc4 HSA.out)
      clear hb HL6 hR hC7 d0 d1 d2 d3 d4 d5 d6
      go_wp2_with fail
      with_reducible refine HS7.out.mono ?_
      rintro e w8 ⟨rfl, hd⟩
      have HB8 := Aside0.mk (HB7.out.trans (hd.below.mono HB7.out.size))
      have HX8 := Aside0.mk (HX7.out.below hd.below)
      have HT8 := Aside0.mk (HTI.out w8 (Kd.C_below HR7.out hd.below))
      clear hd HS7 HTI
      obtain ⟨d0, d1, d2, d3, d4, d5, d6⟩ := HX8.out.cells
      go_wp2_with fail
      refine HT8.out.mono ?_
      rintro e w9 ⟨rfl, hb⟩
      have HB9 := Aside0.mk (HB8.out.trans (hb.mono HB8.out.size))
      clear hb HT8 d0 d1 d2 d3 d4 d5 d6
      go_wp2_with fail
      refine (awake_calls _).mono ?_
      rintro e w10 ⟨rfl, hb⟩
      have HB10 := Aside0.mk (HB9.out.trans (hb.mono HB9.out.size))
      clear hb
      go_wp2
      go_ret
      exact ⟨rfl, HB10.out⟩
end Go.Proofs.YtakhnigalkjhhaaDoor
