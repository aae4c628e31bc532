/-
  WordsNum: the walk.
-/
import Derived.Test.YtelmmcjlhjahcaaDoorNumRead1
import Derived.Test.YtelmmcjlhjahcaaDoorWoAwake
namespace Go.Proofs.YtelmmcjlhjahcaaDoor
open Go.RowKit Go.Proofs.YtelmmcjlhjahcaaDoorW.PrintWords Go.Proofs.YtelmmcjlhjahcaaDoorW.PrintLast Go.Proofs.YtelmmcjlhjahcaaDoorW.PrintMore
set_option linter.unusedVariables false

/-- What Num answers with. -/
def numR (s : ByteArray) (c : Int) : Int × Int := if s.size = 0 then (0, 2) else if ¬ bt s 0 = c then (0, 2) else readR (s.extract 1 s.size)
def OutI (w : World) (r : Int × Int) (e : Ending) (w' : World) : Prop := e = .returned (.tuple #[.int .i64 r.1, .int .i64 r.2]) ∧ Below w.heap.size w w'
theorem bt0 (s : ByteArray) (h : 0 < s.size) : bt s 0 = ((s[0]'h).toNat : Int) := bt_nat s 0 h
set_option maxRecDepth 100000 in
theorem wnum_calls (s : ByteArray) (hs : s.size ≤ 1000000) (c : Int) (w : World) (hE : NumE w) : Calls Tryd.prog 38 #[.string s, .int .u8 c] w (OutI w (numR s c)) := by
  unfold numR
  by_cases h0 : s.size = 0
  · rw [if_pos h0]
    have e : s = ⟨#[]⟩ := by
      apply ByteArray.ext
      exact Array.eq_empty_of_size_eq_zero h0
    subst e
    clear hE
    go_enter Tryd.func38, Tryd.ntmps38
    go_wp2
    go_ret2
    exact ⟨rfl, Below.refl _ _⟩
  · rw [if_neg h0]
    have hp : 0 < s.size := by omega
    have hz0 : ((s.size : Int) == 0) = false := by rw [beq_eq_false_iff_ne]; omega
    rw [bt0 s hp]
    have HR := Aside0.mk (read_calls (s.extract 1 s.size) (by simp; omega) w hE)
    generalize readR (s.extract 1 s.size) = r at *
    by_cases h1 : ((s[0]'hp).toNat : Int) = c
    · rw [if_neg (by omega)]
      subst h1
      clear hE h0
      go_enter Tryd.func38, Tryd.ntmps38
      go_wp2_with (go_at_call 57; refine HR.out.mono ?_; rintro e w1 ⟨rfl, hb⟩)
      go_ret2
      exact ⟨rfl, hb⟩
    · rw [if_pos h1]
      have q1 : (((s[0]'hp).toNat : Int) == c) = false := by simpa using h1
      have q2 : (((s[0]'hp).toNat : Int) != c) = true := by simpa using h1
      clear hE h0 HR
      go_enter Tryd.func38, Tryd.ntmps38
      go_wp2
      go_ret2
      exact ⟨rfl, Below.refl _ _⟩
set_option maxRecDepth 100000 in
theorem refNum_calls (s : ByteArray) (hs : s.size ≤ 1000000) (c : Int) (w : World) : Calls Tryd.prog 39 #[.string s, .int .u8 c] w (OutI w (numR s c)) := by
  unfold numR
  by_cases h0 : s.size = 0
  · rw [if_pos h0]
    have e : s = ⟨#[]⟩ := by
      apply ByteArray.ext
      exact Array.eq_empty_of_size_eq_zero h0
    subst e
    go_enter Tryd.func39, Tryd.ntmps39
    go_wp2
    go_ret2
    exact ⟨rfl, Below.refl _ _⟩
  · rw [if_neg h0]
    have hp : 0 < s.size := by omega
    have hz0 : ((s.size : Int) == 0) = false := by rw [beq_eq_false_iff_ne]; omega
    rw [bt0 s hp]
    have HR := Aside0.mk (refRead_calls (s.extract 1 s.size) (by simp; omega) w)
    generalize readR (s.extract 1 s.size) = r at *
    by_cases h1 : ((s[0]'hp).toNat : Int) = c
    · rw [if_neg (by omega)]
      subst h1
      clear h0
      go_enter Tryd.func39, Tryd.ntmps39
      go_wp2_with (go_at_call 58; refine HR.out.mono ?_; rintro e w1 ⟨rfl, hb⟩)
      go_ret2
      exact ⟨rfl, hb.below⟩
    · rw [if_pos h1]
      have q1 : (((s[0]'hp).toNat : Int) == c) = false := by simpa using h1
      have q2 : (((s[0]'hp).toNat : Int) != c) = true := by simpa using h1
      clear h0 HR
      go_enter Tryd.func39, Tryd.ntmps39
      go_wp2
      go_ret2
      exact ⟨rfl, Below.refl _ _⟩

theorem wordsNum_calls (s : ByteArray) (c : Int) (w : World) (hE : NumE w) :
    Calls Tryd.prog 11 #[.string s, .int .u8 c] w fun e w' => e = .returned (.bool true) ∧ Below w.heap.size w w' := by
  by_cases h : s.size ≤ 100
  · have h100 : decide ((s.size : Int) > 100) = false := by simp; omega
    have HN := Aside0.mk (wnum_calls s (by omega) c w hE)
    have HR := Aside0.mk (refNum_calls s (by omega) c)
    generalize numR s c = r at *
    obtain ⟨a, b⟩ := r
    clear hE h
    go_enter Tryd.func11, Tryd.ntmps11
    go_wp2_with fail
    with_reducible refine HN.out.mono ?_
    rintro e w1 ⟨rfl, hb⟩
    have HB := Aside0.mk hb
    clear hb
    go_wp2_with fail
    with_reducible refine (HR.out _).mono ?_
    rintro e w2 ⟨rfl, hb⟩
    replace HB := Aside0.mk (HB.out.trans (hb.mono HB.out.size))
    clear hb
    go_wp2_with fail
    refine (awake_calls _).mono ?_
    rintro e w3 ⟨rfl, hb⟩
    replace HB := Aside0.mk (HB.out.trans (hb.mono HB.out.size))
    clear hb
    go_wp2
    go_ret
    exact ⟨rfl, HB.out⟩
  · have h100 : decide ((s.size : Int) > 100) = true := by simp; omega
    clear hE h
    go_enter Tryd.func11, Tryd.ntmps11
    go_wp2_with (go_at_call 24; refine (awake_calls _).mono ?_; rintro e w' ⟨rfl, hb⟩)
    go_ret
    exact ⟨rfl, hb⟩
end Go.Proofs.YtelmmcjlhjahcaaDoor
