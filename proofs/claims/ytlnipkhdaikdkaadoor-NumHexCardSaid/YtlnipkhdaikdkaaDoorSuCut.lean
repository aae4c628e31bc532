/-
  sum.Cut and the document's: what they return.
-/
import Derived.Test.YtlnipkhdaikdkaaDoorRHexPure
import Derived.Test.YtlnipkhdaikdkaaDoorHexRead
namespace Go.Proofs.YtlnipkhdaikdkaaDoor
open Go.RowKit Go.Proofs.YtlnipkhdaikdkaaDoorW.PrintWords Go.Proofs.YtlnipkhdaikdkaaDoorW.PrintLast Go.Proofs.YtlnipkhdaikdkaaDoorW.PrintMore
set_option linter.unusedVariables false

theorem refRH_calls (s : ByteArray) (w : World) : Calls Tryd.prog 29 #[.string s] w fun e w' => e = .returned (.tuple #[.int .u16 (unhexP s).1, .bool (unhexP s).2]) ∧ Drawn0 w w' :=
  PSumCuts.sashref01_ReadHex.calls 73 s _ _ w (refRH_pure s)

/-- What Cut answers with. -/
def cutR (s : ByteArray) : ByteArray × Int :=
  if 65535 < s.size then (⟨#[]⟩, 3) else if s.size < 5 then (⟨#[]⟩, 2) else if ¬ bt s 4 = 44 then (⟨#[]⟩, 2)
  else match unhexS (s.extract 0 4) with
    | none => (⟨#[]⟩, 2)
    | some c => if c = sumL 0 (s.extract 5 s.size).data.toList then (s.extract 5 s.size, 0) else (⟨#[]⟩, 4)
def OutC (w : World) (r : ByteArray × Int) (e : Ending) (w' : World) : Prop := e = .returned (.tuple #[.string r.1, .int .i64 r.2]) ∧ Below w.heap.size w w'
theorem bt4 (s : ByteArray) (h : 4 < s.size) : bt s 4 = ((s[4]'h).toNat : Int) := bt_nat s 4 h
set_option maxRecDepth 100000 in
set_option maxHeartbeats 2000000 in
theorem cut_calls (s : ByteArray) (hs : s.size ≤ 1000000) (w : World) (hT : NumT w) (hE : NumE w) : Calls Tryd.prog 26 #[.string s] w (OutC w (cutR s)) := by
  unfold cutR
  have HT := Aside0.mk hT
  have HE := Aside0.mk hE
  clear hT hE
  by_cases h1 : 65535 < s.size
  · rw [if_pos h1]
    go_enter Tryd.func26, Tryd.ntmps26
    go_wp2
    go_ret2
    exact ⟨rfl, Below.refl _ _⟩
  · rw [if_neg h1]
    by_cases h2 : s.size < 5
    · rw [if_pos h2]
      go_enter Tryd.func26, Tryd.ntmps26
      go_wp2
      go_ret2
      exact ⟨rfl, Below.refl _ _⟩
    · rw [if_neg h2]
      have h4 : 4 < s.size := by omega
      rw [bt4 s h4]
      by_cases h3 : ¬ ((s[4]'h4).toNat : Int) = 44
      · rw [if_pos h3]
        have q3 : (((s[4]'h4).toNat : Int) == 44) = false := by simpa using h3
        have q4 : (((s[4]'h4).toNat : Int) != 44) = true := by simpa using h3
        go_enter Tryd.func26, Tryd.ntmps26
        go_wp2
        go_ret2
        exact ⟨rfl, Below.refl _ _⟩
      · rw [if_neg h3]
        have h3' : ((s[4]'h4).toNat : Int) = 44 := by omega
        clear h3
        have HH := Aside0.mk (rhex_calls (s.extract 0 4) (by simp; omega) w HT.out HE.out)
        unfold rhR at HH
        have hxs : (s.extract 5 s.size).size ≤ 1000000 := by simp; omega
        have HO := Aside0.mk (of1_calls (s.extract 5 s.size) (by omega))
        have hn := sumL_range (s.extract 5 s.size).data.toList 0 (by omega) (by omega)
        clear hxs
        rcases hu : unhexS (s.extract 0 4) with _ | c
        · rw [hu] at HH
          clear hu hn HO
          go_enter Tryd.func26, Tryd.ntmps26
          go_wp2_with (go_at_call 28; refine HH.out.mono ?_; rintro e w1 ⟨rfl, hb⟩)
          go_ret2
          exact ⟨rfl, hb⟩
        · rw [hu] at HH
          have hc := unhexS_range hu
          clear hu
          generalize sumL 0 (s.extract 5 s.size).data.toList = n at *
          simp only
          by_cases he : c = n
          · rw [if_pos he]
            subst he
            go_enter Tryd.func26, Tryd.ntmps26
            go_wp2_with (first | (go_at_call 28; refine HH.out.mono ?_; rintro e w1 ⟨rfl, hb⟩; replace hb := Aside0.mk hb) | (go_at_call 16; refine (HO.out _).mono ?_; rintro e w2 ⟨rfl, hb2⟩))
            go_ret2
            exact ⟨rfl, hb.out.trans (hb2.mono hb.out.size)⟩
          · rw [if_neg he]
            have qe : (c == n) = false := by simpa using he
            go_enter Tryd.func26, Tryd.ntmps26
            go_wp2_with (first | (go_at_call 28; refine HH.out.mono ?_; rintro e w1 ⟨rfl, hb⟩; replace hb := Aside0.mk hb) | (go_at_call 16; refine (HO.out _).mono ?_; rintro e w2 ⟨rfl, hb2⟩))
            go_ret2
            exact ⟨rfl, hb.out.trans (hb2.mono hb.out.size)⟩
set_option maxRecDepth 100000 in
set_option maxHeartbeats 2000000 in
theorem refCut_calls (s : ByteArray) (hs : s.size ≤ 1000000) (w : World) : Calls Tryd.prog 27 #[.string s] w (OutC w (cutR s)) := by
  unfold cutR
  by_cases h1 : 65535 < s.size
  · rw [if_pos h1]
    go_enter Tryd.func27, Tryd.ntmps27
    go_wp2
    go_ret2
    exact ⟨rfl, Below.refl _ _⟩
  · rw [if_neg h1]
    by_cases h2 : s.size < 5
    · rw [if_pos h2]
      go_enter Tryd.func27, Tryd.ntmps27
      go_wp2
      go_ret2
      exact ⟨rfl, Below.refl _ _⟩
    · rw [if_neg h2]
      have h4 : 4 < s.size := by omega
      rw [bt4 s h4]
      have hx := ext_one s 4 h4
      have hz : (s.extract 4 5).size = 1 := by simp; omega
      by_cases h3 : ¬ ((s[4]'h4).toNat : Int) = 44
      · rw [if_pos h3]
        have q2 : ¬ (s.extract 4 5).toList = ([44] : List UInt8) := by
          rw [hx]; intro h; injection h with h _; rw [h] at h3; exact h3 rfl
        have q3 : ((s.extract 4 5).toList == ([44] : List UInt8)) = false := by simpa using q2
        clear hx h3
        go_enter Tryd.func27, Tryd.ntmps27
        go_wp2
        go_ret2
        exact ⟨rfl, Below.refl _ _⟩
      · rw [if_neg h3]
        have h3' : (s[4]'h4).toNat = 44 := by omega
        have q2 : (s.extract 4 5).toList = ([44] : List UInt8) := by
          rw [hx]; congr 1; exact UInt8.toNat_inj.1 h3'
        have q3 : ((s.extract 4 5).toList == ([44] : List UInt8)) = true := by simpa using q2
        clear h3 hx h3'
        have HH := Aside0.mk (refRH_calls (s.extract 0 4))
        unfold unhexP at HH
        have hxs : (s.extract 5 s.size).size ≤ 1000000 := by simp; omega
        have HO := Aside0.mk (refFrom_calls 0 (by omega) (by omega) (s.extract 5 s.size) (by omega))
        clear hxs
        rcases hu : unhexS (s.extract 0 4) with _ | c
        · rw [hu] at HH
          clear hu HO
          go_enter Tryd.func27, Tryd.ntmps27
          go_wp2_with (go_at_call 29; refine (HH.out _).mono ?_; rintro e w1 ⟨rfl, hb⟩)
          go_ret2
          exact ⟨rfl, hb.below⟩
        · rw [hu] at HH
          clear hu
          generalize sumL 0 (s.extract 5 s.size).data.toList = n at *
          simp only
          by_cases he : c = n
          · rw [if_pos he]
            subst he
            go_enter Tryd.func27, Tryd.ntmps27
            go_wp2_with (first | (go_at_call 29; refine (HH.out _).mono ?_; rintro e w1 ⟨rfl, hb⟩; replace hb := Aside0.mk hb) | (go_at_call 15; refine (HO.out _).mono ?_; rintro e w2 ⟨rfl, hb2⟩))
            go_ret2
            exact ⟨rfl, hb.out.below.trans (hb2.below.mono hb.out.below.size)⟩
          · rw [if_neg he]
            have qe : (n == c) = false := by simpa using fun h => he h.symm
            have qe2 : ¬ n = c := fun h => he h.symm
            go_enter Tryd.func27, Tryd.ntmps27
            go_wp2_with (first | (go_at_call 29; refine (HH.out _).mono ?_; rintro e w1 ⟨rfl, hb⟩; replace hb := Aside0.mk hb) | (go_at_call 15; refine (HO.out _).mono ?_; rintro e w2 ⟨rfl, hb2⟩))
            go_ret2
            exact ⟨rfl, hb.out.below.trans (hb2.below.mono hb.out.below.size)⟩
end Go.Proofs.YtlnipkhdaikdkaaDoor
