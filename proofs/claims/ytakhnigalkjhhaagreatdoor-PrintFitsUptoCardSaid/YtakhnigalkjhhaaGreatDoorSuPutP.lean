/- Printed texts of this seat, cut to what is used. -/
import Derived.Test.YtakhnigalkjhhaaGreatDoorSuPureP
import Derived.Test.YtakhnigalkjhhaaGreatDoorNumPureP
namespace Go.Proofs.YtakhnigalkjhhaaGreatDoor
open Go.RowKit Go.Proofs.YtakhnigalkjhhaaGreatDoorW.PrintWords Go.Proofs.YtakhnigalkjhhaaGreatDoorW.PrintLast Go.Proofs.YtakhnigalkjhhaaGreatDoorW.PrintMore Go.Proofs.YtakhnigalkjhhaaGreatDoor.PPrintFits
set_option linter.unusedVariables false

/-- The sum of texts. -/
theorem of_calls (w : World) (A : Option Addr) (c : Nat) (l : List ByteArray) (h : Kd.string.C w A l.length l) (hc : l.length ≤ c) (hs : ∀ x ∈ l, x.size ≤ 9223372036854775806) :
    Calls Tryz.prog 30 #[.slice A l.length c] w fun e w' => e = .returned (.int .u16 (sumL 0 (allB l))) ∧ Drawn0 w w' := by
  obtain ⟨k, hk⟩ := of_pure l (by have := Kd.C_max h; omega) hs
  exact sum_Of.calls k A c l _ w h hc hk
theorem allB_one (s : ByteArray) : allB [s] = s.data.toList := by simp [allB]
theorem of1_calls (s : ByteArray) (hs : s.size ≤ 9223372036854775806) (w : World) :
    Calls Tryz.prog 30 #[.slice (some ⟨w.heap.size, 0, none⟩) 1 1] (w.alloc (.cells #[.string s] 9)) fun e w' => e = .returned (.int .u16 (sumL 0 s.data.toList)) ∧ Below w.heap.size w w' := by
  have h := of_calls (w.alloc (.cells #[.string s] 9)) (some ⟨w.heap.size, 0, none⟩) 1 [s] (nlitC w 9 [s] (by simp)) (Nat.le_refl _) (fun x hx => by rw [List.mem_singleton.1 hx]; exact hs)
  rw [allB_one] at h
  exact h.mono fun e w' ⟨h1, h2⟩ => ⟨h1, (below_alloc (Below.refl _ _) _).trans (h2.below.mono (by simp))⟩

/-- A text with its sum ahead. -/
def putS (s : ByteArray) : ByteArray := (hex4 (sumL 0 s.data.toList) ++ (⟨#[44]⟩ : ByteArray)) ++ s
theorem hex4_size (n : Int) : (hex4 n).size = 4 := rfl
theorem put_calls (s : ByteArray) (hs : s.size ≤ 1000000) (w : World) (hT : NumT w) : Calls Tryz.prog 18 #[.string s] w fun e w' => e = .returned (.string (putS s)) ∧ Below w.heap.size w w' := by
  have HO := Aside0.mk (of1_calls s (by omega) w)
  have hr := sumL_range s.data.toList 0 (by omega) (by omega)
  have HT := Aside0.mk hT
  unfold putS
  generalize sumL 0 s.data.toList = n at *
  have HH := Aside0.mk (fun w' (hb : Below w.heap.size w w') => hex_calls n hr.1 hr.2 w' (HT.out.below hb))
  have hz := hex4_size n
  have hz2 : (hex4 n ++ (⟨#[44]⟩ : ByteArray)).size = 5 := by rw [ByteArray.size_append, hz]; rfl
  clear hT hr
  generalize hex4 n = x at *
  have hz1 : x.size + 1 ≤ 9223372036854775807 := by omega
  have hz3 : (x ++ (⟨#[44]⟩ : ByteArray)).size + s.size ≤ 9223372036854775807 := by omega
  clear hz2 hz
  go_enter Tryz.func18, Tryz.ntmps18
  go_wp2_with (first | (go_at_call 30; refine HO.out.mono ?_; rintro e w1 ⟨rfl, hb⟩; replace hb := Aside0.mk hb) | (go_at_call 29; refine (HH.out _ hb.out).mono ?_; rintro e w2 ⟨rfl, hb2⟩))
  go_ret
  exact ⟨rfl, hb.out.trans (hb2.mono hb.out.size)⟩

theorem refDigit_pure (x : Int) (h0 : 0 ≤ x) (h1 : x < 16) : sashref01_Digit.f x = some (⟨#[dgt x]⟩ : ByteArray) := by
  obtain ⟨m, rfl⟩ := Int.eq_ofNat_of_zero_le h0
  have hm : m < 16 := by omega
  match m, hm with
  | 0, _ => show sashref01_Digit.f 0 = some (⟨#[dgt 0]⟩ : ByteArray); kernel_rfl
  | 1, _ => show sashref01_Digit.f 1 = some (⟨#[dgt 1]⟩ : ByteArray); kernel_rfl
  | 2, _ => show sashref01_Digit.f 2 = some (⟨#[dgt 2]⟩ : ByteArray); kernel_rfl
  | 3, _ => show sashref01_Digit.f 3 = some (⟨#[dgt 3]⟩ : ByteArray); kernel_rfl
  | 4, _ => show sashref01_Digit.f 4 = some (⟨#[dgt 4]⟩ : ByteArray); kernel_rfl
  | 5, _ => show sashref01_Digit.f 5 = some (⟨#[dgt 5]⟩ : ByteArray); kernel_rfl
  | 6, _ => show sashref01_Digit.f 6 = some (⟨#[dgt 6]⟩ : ByteArray); kernel_rfl
  | 7, _ => show sashref01_Digit.f 7 = some (⟨#[dgt 7]⟩ : ByteArray); kernel_rfl
  | 8, _ => show sashref01_Digit.f 8 = some (⟨#[dgt 8]⟩ : ByteArray); kernel_rfl
  | 9, _ => show sashref01_Digit.f 9 = some (⟨#[dgt 9]⟩ : ByteArray); kernel_rfl
  | 10, _ => show sashref01_Digit.f 10 = some (⟨#[dgt 10]⟩ : ByteArray); kernel_rfl
  | 11, _ => show sashref01_Digit.f 11 = some (⟨#[dgt 11]⟩ : ByteArray); kernel_rfl
  | 12, _ => show sashref01_Digit.f 12 = some (⟨#[dgt 12]⟩ : ByteArray); kernel_rfl
  | 13, _ => show sashref01_Digit.f 13 = some (⟨#[dgt 13]⟩ : ByteArray); kernel_rfl
  | 14, _ => show sashref01_Digit.f 14 = some (⟨#[dgt 14]⟩ : ByteArray); kernel_rfl
  | 15, _ => show sashref01_Digit.f 15 = some (⟨#[dgt 15]⟩ : ByteArray); kernel_rfl

end Go.Proofs.YtakhnigalkjhhaaGreatDoor
