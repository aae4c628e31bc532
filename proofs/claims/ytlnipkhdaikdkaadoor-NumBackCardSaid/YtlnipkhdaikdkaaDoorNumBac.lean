/-
  NumBack: the walk.
-/
import Derived.Test.YtlnipkhdaikdkaaDoorNumRef
namespace Go.Proofs.YtlnipkhdaikdkaaDoor
open Go.RowKit Go.Proofs.YtlnipkhdaikdkaaDoorW.PrintWords Go.Proofs.YtlnipkhdaikdkaaDoorW.PrintLast Go.Proofs.YtlnipkhdaikdkaaDoorW.PrintMore
set_option linter.unusedVariables false

theorem numBack_many (n : Int) (s : ByteArray) (hs : 200 < s.size) (w : World) (hT : NumT w) (hE : NumE w) :
    Calls Tryd.prog 8 #[.int .i64 n, .string s] w fun e w' => e = .returned (.bool true) ∧ Below w.heap.size w w' := by
  have h1000 : decide ((s.size : Int) > 200) = true := by simp; omega
  have HA := Aside0.mk (awakeN_calls w hT hE)
  clear hT hE hs
  go_enter Tryd.func8, Tryd.ntmps8
  go_wp2_with (go_at_call 19; refine HA.out.mono ?_; rintro e w' ⟨rfl, hb⟩)
  go_ret
  exact ⟨rfl, hb⟩
theorem dig1_calls (n : Int) (w : World) (hT : NumT w) : Calls Tryd.prog 20 #[.slice (some ⟨w.heap.size, 0, none⟩) 1 1] (w.alloc (.cells #[.int .i64 n] 3)) fun e w' => e = .returned (.string (digS n)) ∧ Below w.heap.size w w' := by
  have h := digits_all (w.alloc (.cells #[.int .i64 n] 3)) (some ⟨w.heap.size, 0, none⟩) 1 1 [n] (litI w 3 [n] (by simp)) (by omega) (hT.below (below_alloc (Below.refl _ _) _))
  have e : joinS ([n].map digS) = digS n := by
    apply data_ext'
    show (Lib.join [(digS n).data.toList] [44]).toArray.toList = _
    rw [Lib.join_one]
  rw [e] at h
  exact h.mono fun e w' ⟨h1, h2⟩ => ⟨h1, (below_alloc (Below.refl _ _) _).trans (h2.mono (by simp))⟩
set_option maxRecDepth 100000 in
set_option maxHeartbeats 4000000 in
theorem numBack_few (n : Int) (s : ByteArray) (hs : s.size ≤ 200) (w : World) (hT : NumT w) (hE : NumE w) :
    Calls Tryd.prog 8 #[.int .i64 n, .string s] w fun e w' => e = .returned (.bool true) ∧ Below w.heap.size w w' := by
  have h1000 : decide ((s.size : Int) > 200) = false := by simp; omega
  have HT := Aside0.mk hT
  have HE := Aside0.mk hE
  have HD := Aside0.mk (dig1_calls n w hT)
  have HR1 := read_calls (digS n) (by have := digS_size n; omega)
  have HR2 := Aside0.mk (read_calls s (by omega))
  by_cases hn : n < 0 ∨ 2147483647 < n
  · rw [read_none n hn] at HR1
    replace HR1 := Aside0.mk HR1
    generalize digS n = x at *
    clear hT hE hs HR2
    rcases hn with hn | hn
    · go_enter Tryd.func8, Tryd.ntmps8
      go_wp2_with fail
      with_reducible refine (HD.out).mono ?_
      rintro e w1 ⟨rfl, hb⟩
      have HB := Aside0.mk hb
      clear hb
      go_wp2_with fail
      with_reducible refine (HR1.out _ (HE.out.below HB.out)).mono ?_
      rintro e w2 ⟨rfl, hb⟩
      replace HB := Aside0.mk (HB.out.trans (hb.mono HB.out.size))
      clear hb
      go_wp2_with fail
      with_reducible refine (awakeN_calls _ (HT.out.below HB.out) (HE.out.below HB.out)).mono ?_
      rintro e w3 ⟨rfl, hb⟩
      replace HB := Aside0.mk (HB.out.trans (hb.mono HB.out.size))
      clear hb
      go_wp2
      go_ret
      exact ⟨rfl, HB.out⟩
    · have hn0 : ¬ n < 0 := by omega
      go_enter Tryd.func8, Tryd.ntmps8
      go_wp2_with fail
      with_reducible refine (HD.out).mono ?_
      rintro e w1 ⟨rfl, hb⟩
      have HB := Aside0.mk hb
      clear hb
      go_wp2_with fail
      with_reducible refine (HR1.out _ (HE.out.below HB.out)).mono ?_
      rintro e w2 ⟨rfl, hb⟩
      replace HB := Aside0.mk (HB.out.trans (hb.mono HB.out.size))
      clear hb
      go_wp2_with fail
      with_reducible refine (awakeN_calls _ (HT.out.below HB.out) (HE.out.below HB.out)).mono ?_
      rintro e w3 ⟨rfl, hb⟩
      replace HB := Aside0.mk (HB.out.trans (hb.mono HB.out.size))
      clear hb
      go_wp2
      go_ret
      exact ⟨rfl, HB.out⟩
  · have hn0 : 0 ≤ n := by omega
    have hn1 : n ≤ 2147483647 := by omega
    have hrd : readR (digS n) = (n, 0) := by
      obtain ⟨m, rfl⟩ := Int.eq_ofNat_of_zero_le hn0
      exact read_dig m (by omega)
    rw [hrd] at HR1
    replace HR1 := Aside0.mk HR1
    have hrr := readR_range s
    have hbk := read_back s
    have HD2 := Aside0.mk (fun y w (hT : NumT w) => dig1_calls y w hT)
    generalize digS n = x at *
    generalize readR s = r at *
    obtain ⟨y, f⟩ := r
    clear hT hE hs hn hrd
    by_cases hf : f = 0
    · subst hf
      have hy : digS y = s := hbk rfl
      have HD3 : Aside0 (∀ w, NumT w → Calls Tryd.prog 20 #[.slice (some ⟨w.heap.size, 0, none⟩) 1 1] (w.alloc (.cells #[.int .i64 y] 3)) fun e w' => e = .returned (.string s) ∧ Below w.heap.size w w') := ⟨fun w h => by have := HD2.out y w h; rw [hy] at this; exact this⟩
      clear hbk hy HD2 hrr
      go_enter Tryd.func8, Tryd.ntmps8
      go_wp2_with fail
      with_reducible refine (HD.out).mono ?_
      rintro e w1 ⟨rfl, hb⟩
      have HB := Aside0.mk hb
      clear hb
      go_wp2_with fail
      with_reducible refine (HR1.out _ (HE.out.below HB.out)).mono ?_
      rintro e w2 ⟨rfl, hb⟩
      replace HB := Aside0.mk (HB.out.trans (hb.mono HB.out.size))
      clear hb
      go_wp2_with fail
      with_reducible refine (HR2.out _ (HE.out.below HB.out)).mono ?_
      rintro e w3 ⟨rfl, hb⟩
      replace HB := Aside0.mk (HB.out.trans (hb.mono HB.out.size))
      clear hb
      go_wp2_with fail
      with_reducible refine (HD3.out _ (HT.out.below HB.out)).mono ?_
      rintro e w4 ⟨rfl, hb⟩
      replace HB := Aside0.mk (HB.out.trans (hb.mono HB.out.size))
      clear hb
      go_wp2_with fail
      with_reducible refine (awakeN_calls _ (HT.out.below HB.out) (HE.out.below HB.out)).mono ?_
      rintro e w5 ⟨rfl, hb⟩
      replace HB := Aside0.mk (HB.out.trans (hb.mono HB.out.size))
      clear hb
      go_wp2
      go_ret
      exact ⟨rfl, HB.out⟩
    · have hf2 : (f == 0) = false := by simpa using hf
      have hf3 : (f != 0) = true := by simpa using hf
      clear hbk HD2 hrr
      go_enter Tryd.func8, Tryd.ntmps8
      go_wp2_with fail
      with_reducible refine (HD.out).mono ?_
      rintro e w1 ⟨rfl, hb⟩
      have HB := Aside0.mk hb
      clear hb
      go_wp2_with fail
      with_reducible refine (HR1.out _ (HE.out.below HB.out)).mono ?_
      rintro e w2 ⟨rfl, hb⟩
      replace HB := Aside0.mk (HB.out.trans (hb.mono HB.out.size))
      clear hb
      go_wp2_with fail
      with_reducible refine (HR2.out _ (HE.out.below HB.out)).mono ?_
      rintro e w3 ⟨rfl, hb⟩
      replace HB := Aside0.mk (HB.out.trans (hb.mono HB.out.size))
      clear hb
      go_wp2_with fail
      with_reducible refine (awakeN_calls _ (HT.out.below HB.out) (HE.out.below HB.out)).mono ?_
      rintro e w5 ⟨rfl, hb⟩
      replace HB := Aside0.mk (HB.out.trans (hb.mono HB.out.size))
      clear hb
      go_wp2
      go_ret
      exact ⟨rfl, HB.out⟩
theorem numBack_calls (n : Int) (s : ByteArray) (w : World) (hT : NumT w) (hE : NumE w) :
    Calls Tryd.prog 8 #[.int .i64 n, .string s] w fun e w' => e = .returned (.bool true) ∧ Below w.heap.size w w' := by
  by_cases h : s.size ≤ 200
  · exact numBack_few n s h w hT hE
  · exact numBack_many n s (by omega) w hT hE
end Go.Proofs.YtlnipkhdaikdkaaDoor
