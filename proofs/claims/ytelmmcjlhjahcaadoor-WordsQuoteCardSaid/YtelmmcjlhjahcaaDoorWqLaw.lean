/-
  WordsQuote: the walk.
-/
import Derived.Test.YtelmmcjlhjahcaaDoorWqWalk
import Derived.Test.YtelmmcjlhjahcaaDoorWqRef
import Derived.Test.YtelmmcjlhjahcaaDoorWoSame
import Derived.Test.YtelmmcjlhjahcaaDoorWoAwake
namespace Go.Proofs.YtelmmcjlhjahcaaDoor
open Go.RowKit Go.Proofs.YtelmmcjlhjahcaaDoorW.PrintWords Go.Proofs.YtelmmcjlhjahcaaDoorW.PrintLast Go.Proofs.YtelmmcjlhjahcaaDoorW.PrintMore Go.Proofs.YtelmmcjlhjahcaaDoor.PWordsQuote
set_option linter.unusedVariables false
set_option linter.unusedSimpArgs false

theorem great_l0 (l : List ByteArray) (hl : l.length ≤ 1000) : ∀ (d n : Nat), l.length - n = d → n ≤ l.length → ∀ k, d + 1 ≤ k → ∃ b, sashref20_Great.l0 k l (l.length : Int) (n : Int) = some b := by
  intro d
  induction d with
  | zero =>
    intro n hd hn k hk
    obtain ⟨k, rfl⟩ : ∃ k', k = k' + 1 := ⟨k - 1, by omega⟩
    unfold sashref20_Great.l0
    rw [if_neg (by omega)]
    exact ⟨_, rfl⟩
  | succ d ih =>
    intro n hd hn k hk
    obtain ⟨k, rfl⟩ : ∃ k', k = k' + 1 := ⟨k - 1, by omega⟩
    unfold sashref20_Great.l0
    rw [if_pos (by omega), if_pos (by omega), if_pos (by omega)]
    by_cases h : ((rdOf ByteArray.empty l (n : Int)).size : Int) > 100
    · rw [if_pos h]; exact ⟨_, rfl⟩
    · rw [if_neg h, wrap_nat n (by omega)]
      exact ih (n + 1) (by omega) (by omega) k (by omega)
theorem greatQ_f (l : List ByteArray) (k : Nat) (hk : 60 ≤ k) : ∃ b, sashref20_Great.f k l = some b := by
  unfold sashref20_Great.f
  by_cases h : (l.length : Int) > 50
  · rw [if_pos h]; exact ⟨_, rfl⟩
  · rw [if_neg h]; exact great_l0 l (by omega) l.length 0 (by omega) (by omega) k (by omega)

/-- A list too long, or a word. -/
theorem quoteLaw_long (w : World) (A : Option Addr) (n c : Nat) (l : List ByteArray) (hn : 20 < n) :
    Calls Tryd.prog 10 #[.slice A n c] w fun e w' => e = .returned (.bool true) ∧ Below w.heap.size w w' := by
  have h20 : decide ((20 : Int) < (n : Int)) = true := decide_eq_true (by omega)
  clear hn
  go_enter Tryd.func10, Tryd.ntmps10
  go_wp2_with (go_at_call 24; refine (awake_calls _).mono ?_; rintro e w' ⟨rfl, hb⟩)
  go_ret
  exact ⟨rfl, hb⟩

theorem quoteLaw_great (w : World) (A : Option Addr) (n c : Nat) (l : List ByteArray) (hr : Kd.string.C w A n l) (hc : n ≤ c) (hn : n ≤ 20) (hg : sashref20_Great.f 60 l = some true) :
    Calls Tryd.prog 10 #[.slice A n c] w fun e w' => e = .returned (.bool true) ∧ Below w.heap.size w w' := by
  have h20 : decide ((20 : Int) < (n : Int)) = false := decide_eq_false (by omega)
  have hlen := Kd.C_len hr
  obtain rfl : n = l.length := hlen.symm
  have HG : Aside0 (Calls Tryd.prog 31 #[.slice A l.length c] w fun e w' => e = .returned (.bool true) ∧ Drawn0 w w') := ⟨sashref20_Great.calls 60 A c l true w hr hc hg⟩
  clear hn hr hc hg hlen
  go_enter Tryd.func10, Tryd.ntmps10
  go_wp2_with fail
  refine HG.out.mono ?_
  rintro e w1 ⟨rfl, hd⟩
  have HB := Aside0.mk hd.below
  clear hd HG
  go_wp2_with (go_at_call 24; refine (awake_calls _).mono ?_; rintro e w' ⟨rfl, hb⟩)
  go_ret
  exact ⟨rfl, HB.out.trans (hb.mono HB.out.size)⟩

set_option maxHeartbeats 4000000 in
theorem quoteLaw_few (w : World) (A : Option Addr) (n c : Nat) (l : List ByteArray) (hr : Kd.string.C w A n l) (hc : n ≤ c) (hn : n ≤ 20) (hg : sashref20_Great.f 60 l = some false) :
    Calls Tryd.prog 10 #[.slice A n c] w fun e w' => e = .returned (.bool true) ∧ Below w.heap.size w w' := by
  have h20 : decide ((20 : Int) < (n : Int)) = false := decide_eq_false (by omega)
  have hlen := Kd.C_len hr
  obtain rfl : n = l.length := hlen.symm
  have HG : Aside0 (Calls Tryd.prog 31 #[.slice A l.length c] w fun e w' => e = .returned (.bool false) ∧ Drawn0 w w') := ⟨sashref20_Great.calls 60 A c l false w hr hc hg⟩
  have HR := Aside0.mk hr
  have HC := Aside0.mk hc
  clear hr hc hg hlen
  go_enter Tryd.func10, Tryd.ntmps10
  go_wp2_with fail
  refine HG.out.mono ?_
  rintro e w1 ⟨rfl, hd⟩
  have HB := Aside0.mk hd.below
  replace HR := Aside0.mk (Kd.C_below HR.out HB.out)
  clear hd HG
  go_wp2
  go_loopw [3] (fun i wr => ∃ k : Nat, k ≤ l.length ∧ i = .int .i64 k ∧ (∀ j, j < k → (l.getD j ByteArray.empty).size ≤ 60) ∧ wr = w1) (fun i _ => l.length - (intOf i).toNat)
  case atStart => exact ⟨0, by omega, rfl, fun j hj => by omega, by first | trivial | rfl⟩
  case round =>
    obtain ⟨k, hk, rfl, hall, rfl⟩ := hrel
    have HA := Aside0.mk hall
    clear hall
    by_cases hlt : k < l.length
    · obtain ⟨ad, rfl, hcell⟩ := str_cellQ HR.out k hlt
      obtain ⟨z, hz⟩ : ∃ z, z = l.getD k ByteArray.empty := ⟨_, rfl⟩
      rw [← hz] at hcell
      have HZ := Aside0.mk hz
      clear hz
      by_cases hbig : 60 < z.size
      · have hb1 : decide ((60 : Int) < (z.size : Int)) = true := decide_eq_true (by omega)
        clear hbig
        go_wp2_with (go_at_call 24; refine (awake_calls _).mono ?_; rintro e w' ⟨rfl, hb⟩)
        go_ret
        exact ⟨rfl, HB.out.trans (hb.mono HB.out.size)⟩
      · have hb1 : decide ((60 : Int) < (z.size : Int)) = false := decide_eq_false (by omega)
        have HS : Aside0 (z.size ≤ 60) := ⟨by omega⟩
        clear hbig
        go_wp2
        go_roundw
        case rel =>
          refine ⟨k + 1, by omega, by go_num, fun j hj => ?_, by first | trivial | rfl⟩
          by_cases hjk : j = k
          · rw [hjk, ← HZ.out]; exact HS.out
          · exact HA.out j (by omega)
        case measure => simp [intOf]; omega
    · have hi : ∀ x ∈ l, x.size ≤ 60 := by
        intro x hx
        obtain ⟨j, hj, rfl⟩ := List.mem_iff_getElem.1 hx
        have := HA.out j (by omega)
        rwa [List.getD_eq_getElem?_getD, List.getElem?_eq_getElem hj] at this
      have hsz := lineL_len0 60 20 l hn hi
      have hsz2 : (lineS l).size ≤ 4096 := by
        have e : (lineS l).size = (lineL (l.map (·.data.toList))).length := by simp [lineS, ByteArray.size]
        omega
      have HQ := Aside0.mk (quote_calls wr A l.length c l HR.out hn hi)
      have HCut := Aside0.mk (fun w2 => cut_calls (lineS l) w2 hsz2)
      have hcut := line_cut l
      have hcutS : Aside0 ((cutL 0 (lineS l).data.toList (-1) CS.init).1 = -1 ∧ (cutL 0 (lineS l).data.toList (-1) CS.init).2.commandW.cmds = if l = [] then [] else [l]) := ⟨by
        have e : (lineS l).data.toList = lineL (l.map (·.data.toList)) := by simp [lineS]
        rw [e]; exact hcut⟩
      have HLn := Aside0.mk (fun w2 (h : Kd.string.C w2 A l.length l) => sashref20_Line.calls 200 A c l (lineB l) w2 h HC.out (line_f l 60 (by omega) (by omega) hi 200 (by omega)))
      have hlt2 : decide ((k : Int) < (l.length : Int)) = false := decide_eq_false (by omega)
      clear hi hsz hsz2 hcut HA
      by_cases h0 : l = []
      · have HK : Aside0 ((cutL 0 (lineS l).data.toList (-1) CS.init).2.commandW.cmds = []) := ⟨by rw [hcutS.out.2, if_pos h0]⟩
        have HI := Aside0.mk hcutS.out.1
        have hlen0 : l.length = 0 := by rw [h0]; rfl
        have hpos : ((l.length : Int) == 0) = true := beq_iff_eq.2 (by omega)
        have hee : Aside0 (lineB l = lineS l) := ⟨by unfold lineB lineS; with_reducible rfl⟩
        have HKZ : Aside0 (([] : List (List ByteArray)).length = 0) := ⟨rfl⟩
        clear hcutS h0 hlen0
        generalize lineS l = ls at *
        go_wp2_with fail
        with_reducible refine HQ.out.mono ?_
        rintro e w2 ⟨rfl, hb2⟩
        replace HB := Aside0.mk (HB.out.trans (hb2.mono HB.out.size))
        replace HR := Aside0.mk (Kd.C_below HR.out hb2)
        clear hb2 HQ
        go_wp2_with fail
        with_reducible refine (HCut.out _).mono ?_
        rintro e w3 ⟨hb3, _, h2⟩
        obtain ⟨A2, n2, c2, rfl, hR3, hlen3⟩ := h2 (by rw [HI.out]; decide)
        rw [HK.out] at hR3
        replace HB := Aside0.mk (HB.out.trans (hb3.mono HB.out.size))
        replace HR := Aside0.mk (Kd.C_below HR.out hb3)
        have HN2 := Aside0.mk (Kd.R_reads' hR3)
        clear h2 hR3 hlen3 HCut hb3
        go_wp2_with fail
        with_reducible refine (HLn.out _ HR.out).mono ?_
        rintro e w4 ⟨rfl, hd4⟩
        replace HB := Aside0.mk (HB.out.trans (hd4.below.mono HB.out.size))
        replace HR := Aside0.mk (Kd.C_below HR.out hd4.below)
        obtain ⟨hn2, hc2, hC2⟩ := HN2.out
        have HC2 := Aside0.mk (Kd.C_below hC2 hd4.below)
        clear hd4 HLn hc2 hC2 HN2
        rw [hee.out]
        clear hee
        have hn2' : n2 = 0 := hn2
        subst hn2'
        clear hn2 HC2
        generalize l.length = ln at *
        go_wp2_with (go_at_call 24; refine (awake_calls _).mono ?_; rintro e w' ⟨rfl, hb⟩)
        go_ret
        exact ⟨rfl, HB.out.trans (hb.mono HB.out.size)⟩
      · have HK : Aside0 ((cutL 0 (lineS l).data.toList (-1) CS.init).2.commandW.cmds = [l]) := ⟨by rw [hcutS.out.2, if_neg h0]⟩
        have HI := Aside0.mk hcutS.out.1
        have hpos : ((l.length : Int) == 0) = false := beq_eq_false_iff_ne.2 (by
          intro e
          exact h0 (List.eq_nil_of_length_eq_zero (by omega)))
        have hee : Aside0 (lineB l = lineS l) := ⟨by unfold lineB lineS; with_reducible rfl⟩
        clear hcutS h0
        generalize lineS l = ls at *
        go_wp2_with fail
        with_reducible refine HQ.out.mono ?_
        rintro e w2 ⟨rfl, hb2⟩
        replace HB := Aside0.mk (HB.out.trans (hb2.mono HB.out.size))
        replace HR := Aside0.mk (Kd.C_below HR.out hb2)
        clear hb2 HQ
        go_wp2_with fail
        with_reducible refine (HCut.out _).mono ?_
        rintro e w3 ⟨hb3, _, h2⟩
        obtain ⟨A2, n2, c2, rfl, hR3, hlen3⟩ := h2 (by rw [HI.out]; decide)
        rw [HK.out] at hR3
        replace HB := Aside0.mk (HB.out.trans (hb3.mono HB.out.size))
        replace HR := Aside0.mk (Kd.C_below HR.out hb3)
        have HN2 := Aside0.mk (Kd.R_reads' hR3)
        clear h2 hR3 hlen3 HCut hb3
        go_wp2_with fail
        with_reducible refine (HLn.out _ HR.out).mono ?_
        rintro e w4 ⟨rfl, hd4⟩
        replace HB := Aside0.mk (HB.out.trans (hd4.below.mono HB.out.size))
        replace HR := Aside0.mk (Kd.C_below HR.out hd4.below)
        obtain ⟨hn2, hc2, hC2⟩ := HN2.out
        have HC2 := Aside0.mk (Kd.C_below hC2 hd4.below)
        clear hd4 HLn hc2 hC2 HN2
        rw [hee.out]
        clear hee
        have hn2' : n2 = 1 := hn2
        subst hn2'
        obtain ⟨ad2, A3, c3, rfl, hcell2, hc3, hC3⟩ := rows_at HC2.out 0 (by omega)
        have hcell2' : w4.cell? ad2 = some (.slice A3 l.length c3) := by
          have : ad2.add 0 = ad2 := by cases ad2; simp [Addr.add]
          rw [this] at hcell2
          exact hcell2
        have hC3' : Kd.string.C w4 A3 l.length l := hC3
        have HS : Aside0 (Calls Tryd.prog 34 #[.slice A3 l.length c3, .slice A l.length c] w4 fun e w' => e = .returned (.bool true) ∧ Drawn0 w4 w') := ⟨sashref20_Same.calls 100 A3 c3 l A c l true w4 hC3' hc3 HR.out HC.out (same_self l (by omega) 100 (by omega))⟩
        clear hcell2 hC3 hC3' hc3 HC2 hn2
        go_wp2_with fail
        with_reducible refine HS.out.mono ?_
        rintro e w5 ⟨rfl, hd5⟩
        replace HB := Aside0.mk (HB.out.trans (hd5.below.mono HB.out.size))
        clear hd5 HS
        go_wp2_with (go_at_call 24; refine (awake_calls _).mono ?_; rintro e w' ⟨rfl, hb⟩)
        go_ret
        exact ⟨rfl, HB.out.trans (hb.mono HB.out.size)⟩

theorem quoteLaw_calls (w : World) (A : Option Addr) (n c : Nat) (l : List ByteArray) (hr : Kd.string.C w A n l) (hc : n ≤ c) :
    Calls Tryd.prog 10 #[.slice A n c] w fun e w' => e = .returned (.bool true) ∧ Below w.heap.size w w' := by
  by_cases hn : n ≤ 20
  · obtain ⟨b, hb⟩ := greatQ_f l 60 (by omega)
    cases b with
    | true => exact quoteLaw_great w A n c l hr hc hn hb
    | false => exact quoteLaw_few w A n c l hr hc hn hb
  · exact quoteLaw_long w A n c l (by omega)
end Go.Proofs.YtelmmcjlhjahcaaDoor
