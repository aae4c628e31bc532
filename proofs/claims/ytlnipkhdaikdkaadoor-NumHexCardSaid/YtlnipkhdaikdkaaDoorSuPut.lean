/-
  sum.Put and the document's: what they return; the statements' example.
-/
import Derived.Test.YtlnipkhdaikdkaaDoorSuPure
import Derived.Test.YtlnipkhdaikdkaaDoorNuDigits
namespace Go.Proofs.YtlnipkhdaikdkaaDoor
open Go.RowKit Go.Proofs.YtlnipkhdaikdkaaDoorW.PrintWords Go.Proofs.YtlnipkhdaikdkaaDoorW.PrintLast Go.Proofs.YtlnipkhdaikdkaaDoorW.PrintMore Go.Proofs.YtlnipkhdaikdkaaDoor.PSumIs
set_option linter.unusedVariables false

/-- The sum of texts. -/
theorem of_calls (w : World) (A : Option Addr) (c : Nat) (l : List ByteArray) (h : Kd.string.C w A l.length l) (hc : l.length ≤ c) (hs : ∀ x ∈ l, x.size ≤ 9223372036854775806) :
    Calls Tryd.prog 16 #[.slice A l.length c] w fun e w' => e = .returned (.int .u16 (sumL 0 (allB l))) ∧ Drawn0 w w' := by
  obtain ⟨k, hk⟩ := of_pure l (by have := Kd.C_max h; omega) hs
  exact sum_Of.calls k A c l _ w h hc hk
theorem from_calls (c0 : Int) (h0 : 0 ≤ c0) (h1 : c0 < 65536) (w : World) (A : Option Addr) (c : Nat) (l : List ByteArray) (h : Kd.string.C w A l.length l) (hc : l.length ≤ c) (hs : ∀ x ∈ l, x.size ≤ 9223372036854775806) :
    Calls Tryd.prog 14 #[.int .u16 c0, .slice A l.length c] w fun e w' => e = .returned (.int .u16 (sumL c0 (allB l))) ∧ Drawn0 w w' := by
  obtain ⟨k, hk⟩ := from_pure c0 h0 h1 l (by have := Kd.C_max h; omega) hs
  exact sum_From.calls k c0 A c l _ w h hc hk
theorem allB_one (s : ByteArray) : allB [s] = s.data.toList := by simp [allB]
theorem of1_calls (s : ByteArray) (hs : s.size ≤ 9223372036854775806) (w : World) :
    Calls Tryd.prog 16 #[.slice (some ⟨w.heap.size, 0, none⟩) 1 1] (w.alloc (.cells #[.string s] 9)) fun e w' => e = .returned (.int .u16 (sumL 0 s.data.toList)) ∧ Below w.heap.size w w' := by
  have h := of_calls (w.alloc (.cells #[.string s] 9)) (some ⟨w.heap.size, 0, none⟩) 1 [s] (litC w 9 [s] (by simp)) (Nat.le_refl _) (fun x hx => by rw [List.mem_singleton.1 hx]; exact hs)
  rw [allB_one] at h
  exact h.mono fun e w' ⟨h1, h2⟩ => ⟨h1, (below_alloc (Below.refl _ _) _).trans (h2.below.mono (by simp))⟩
theorem from1_calls (c0 : Int) (h0 : 0 ≤ c0) (h1 : c0 < 65536) (s : ByteArray) (hs : s.size ≤ 9223372036854775806) (w : World) :
    Calls Tryd.prog 14 #[.int .u16 c0, .slice (some ⟨w.heap.size, 0, none⟩) 1 1] (w.alloc (.cells #[.string s] 9)) fun e w' => e = .returned (.int .u16 (sumL c0 s.data.toList)) ∧ Below w.heap.size w w' := by
  have h := from_calls c0 h0 h1 (w.alloc (.cells #[.string s] 9)) (some ⟨w.heap.size, 0, none⟩) 1 [s] (litC w 9 [s] (by simp)) (Nat.le_refl _) (fun x hx => by rw [List.mem_singleton.1 hx]; exact hs)
  rw [allB_one] at h
  exact h.mono fun e w' ⟨h1, h2⟩ => ⟨h1, (below_alloc (Below.refl _ _) _).trans (h2.below.mono (by simp))⟩

/-- A text with its sum ahead. -/
def putS (s : ByteArray) : ByteArray := (hex4 (sumL 0 s.data.toList) ++ (⟨#[44]⟩ : ByteArray)) ++ s
theorem hex4_size (n : Int) : (hex4 n).size = 4 := rfl
theorem put_calls (s : ByteArray) (hs : s.size ≤ 1000000) (w : World) (hT : NumT w) : Calls Tryd.prog 17 #[.string s] w fun e w' => e = .returned (.string (putS s)) ∧ Below w.heap.size w w' := by
  have HO := Aside0.mk (of1_calls s (by omega) w)
  have hr := sumL_range s.data.toList 0 (by omega) (by omega)
  have HT := Aside0.mk hT
  unfold putS
  generalize sumL 0 s.data.toList = n at *
  have HH := Aside0.mk (fun w' (hb : Below w.heap.size w w') => hex_calls n hr.1 hr.2 w' (HT.out.below hb))
  have hz := hex4_size n
  have hz2 : (hex4 n ++ (⟨#[44]⟩ : ByteArray)).size = 5 := by rw [ByteArray.size_append, hz]; rfl
  clear hT hr
  generalize hex4 n = x at *
  have hz1 : x.size + 1 ≤ 9223372036854775807 := by omega
  have hz3 : (x ++ (⟨#[44]⟩ : ByteArray)).size + s.size ≤ 9223372036854775807 := by omega
  clear hz2 hz
  go_enter Tryd.func17, Tryd.ntmps17
  go_wp2_with (first | (go_at_call 16; refine HO.out.mono ?_; rintro e w1 ⟨rfl, hb⟩; replace hb := Aside0.mk hb) | (go_at_call 30; refine (HH.out _ hb.out).mono ?_; rintro e w2 ⟨rfl, hb2⟩))
  go_ret
  exact ⟨rfl, hb.out.trans (hb2.mono hb.out.size)⟩

theorem refDigit_pure (x : Int) (h0 : 0 ≤ x) (h1 : x < 16) : sashref01_Digit.f x = some (⟨#[dgt x]⟩ : ByteArray) := by
  obtain ⟨m, rfl⟩ := Int.eq_ofNat_of_zero_le h0
  have hm : m < 16 := by omega
  match m, hm with
  | 0, _ => show sashref01_Digit.f 0 = some (⟨#[dgt 0]⟩ : ByteArray); kernel_rfl
  | 1, _ => show sashref01_Digit.f 1 = some (⟨#[dgt 1]⟩ : ByteArray); kernel_rfl
  | 2, _ => show sashref01_Digit.f 2 = some (⟨#[dgt 2]⟩ : ByteArray); kernel_rfl
  | 3, _ => show sashref01_Digit.f 3 = some (⟨#[dgt 3]⟩ : ByteArray); kernel_rfl
  | 4, _ => show sashref01_Digit.f 4 = some (⟨#[dgt 4]⟩ : ByteArray); kernel_rfl
  | 5, _ => show sashref01_Digit.f 5 = some (⟨#[dgt 5]⟩ : ByteArray); kernel_rfl
  | 6, _ => show sashref01_Digit.f 6 = some (⟨#[dgt 6]⟩ : ByteArray); kernel_rfl
  | 7, _ => show sashref01_Digit.f 7 = some (⟨#[dgt 7]⟩ : ByteArray); kernel_rfl
  | 8, _ => show sashref01_Digit.f 8 = some (⟨#[dgt 8]⟩ : ByteArray); kernel_rfl
  | 9, _ => show sashref01_Digit.f 9 = some (⟨#[dgt 9]⟩ : ByteArray); kernel_rfl
  | 10, _ => show sashref01_Digit.f 10 = some (⟨#[dgt 10]⟩ : ByteArray); kernel_rfl
  | 11, _ => show sashref01_Digit.f 11 = some (⟨#[dgt 11]⟩ : ByteArray); kernel_rfl
  | 12, _ => show sashref01_Digit.f 12 = some (⟨#[dgt 12]⟩ : ByteArray); kernel_rfl
  | 13, _ => show sashref01_Digit.f 13 = some (⟨#[dgt 13]⟩ : ByteArray); kernel_rfl
  | 14, _ => show sashref01_Digit.f 14 = some (⟨#[dgt 14]⟩ : ByteArray); kernel_rfl
  | 15, _ => show sashref01_Digit.f 15 = some (⟨#[dgt 15]⟩ : ByteArray); kernel_rfl
theorem refDigit_calls (x : Int) (h0 : 0 ≤ x) (h1 : x < 16) (w : World) : Calls Tryd.prog 38 #[.int .i64 x] w fun e w' => e = .returned (.string ⟨#[dgt x]⟩) ∧ Drawn0 w w' :=
  sashref01_Digit.calls x _ w (refDigit_pure x h0 h1)
theorem refHex_calls (n : Int) (h0 : 0 ≤ n) (h1 : n < 65536) (w : World) : Calls Tryd.prog 31 #[.int .u16 n] w fun e w' => e = .returned (.string (hex4 n)) ∧ Below w.heap.size w w' := by
  unfold hex4
  go_enter Tryd.func31, Tryd.ntmps31
  go_wp2_with (go_at_call 38; refine (refDigit_calls _ (by omega) (by omega) _).mono ?_; rintro e w' ⟨rfl, ⟨nd, rfl⟩⟩)
  go_ret
  exact ⟨rfl, by repeat (first | exact Below.refl _ _ | apply below_drewN)⟩
theorem refFrom_calls (c : Int) (h0 : 0 ≤ c) (h1 : c < 65536) (s : ByteArray) (hs : s.size ≤ 9223372036854775806) (w : World) : Calls Tryd.prog 15 #[.int .u16 c, .string s] w fun e w' => e = .returned (.int .u16 (sumL c s.data.toList)) ∧ Drawn0 w w' := by
  obtain ⟨k, hk⟩ := refFrom_pure c h0 h1 s hs
  exact sashref02_From.calls k c s _ w hk
theorem refPut_calls (s : ByteArray) (hs : s.size ≤ 1000000) (w : World) : Calls Tryd.prog 18 #[.string s] w fun e w' => e = .returned (.string (putS s)) ∧ Below w.heap.size w w' := by
  have HO := Aside0.mk (refFrom_calls 0 (by omega) (by omega) s (by omega))
  have hr := sumL_range s.data.toList 0 (by omega) (by omega)
  unfold putS
  generalize sumL 0 s.data.toList = n at *
  have HH := Aside0.mk (fun w' => refHex_calls n hr.1 hr.2 w')
  have hz := hex4_size n
  have hz2 : (hex4 n ++ (⟨#[44]⟩ : ByteArray)).size = 5 := by rw [ByteArray.size_append, hz]; rfl
  clear hr
  generalize hex4 n = x at *
  have hz1 : x.size + 1 ≤ 9223372036854775807 := by omega
  have hz3 : (x ++ (⟨#[44]⟩ : ByteArray)).size + s.size ≤ 9223372036854775807 := by omega
  clear hz2 hz
  go_enter Tryd.func18, Tryd.ntmps18
  go_wp2_with (first | (go_at_call 15; refine (HO.out _).mono ?_; rintro e w1 ⟨rfl, hb⟩; replace hb := Aside0.mk hb) | (go_at_call 31; refine (HH.out _).mono ?_; rintro e w2 ⟨rfl, hb2⟩))
  go_ret
  exact ⟨rfl, hb.out.below.trans (hb2.mono hb.out.below.size)⟩

theorem awake_sum : putS ⟨#[56, 48, 120, 50, 52, 44, 48, 44, 48, 44, 49]⟩ = (⟨#[98, 50, 53, 101, 44, 56, 48, 120, 50, 52, 44, 48, 44, 48, 44, 49]⟩ : ByteArray) := by kernel_rfl
theorem awake_calls (w : World) (hT : NumT w) : Calls Tryd.prog 13 #[] w fun e w' => e = .returned (.bool true) ∧ Below w.heap.size w w' := by
  have HP := Aside0.mk (put_calls ⟨#[56, 48, 120, 50, 52, 44, 48, 44, 48, 44, 49]⟩ (by decide) w hT)
  rw [awake_sum] at HP
  clear hT
  go_enter Tryd.func13, Tryd.ntmps13
  go_wp2_with (go_at_call 17; refine HP.out.mono ?_; rintro e w1 ⟨rfl, hb⟩)
  go_ret
  exact ⟨rfl, hb⟩
end Go.Proofs.YtlnipkhdaikdkaaDoor
