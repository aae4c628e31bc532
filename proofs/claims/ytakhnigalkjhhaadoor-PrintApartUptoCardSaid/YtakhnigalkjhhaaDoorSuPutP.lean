/- Printed texts of this seat, cut to what is used. -/
import Derived.Test.YtakhnigalkjhhaaDoorSuPureP
import Derived.Test.YtakhnigalkjhhaaDoorNumPureP
namespace Go.Proofs.YtakhnigalkjhhaaDoor
open Go.RowKit Go.Proofs.YtakhnigalkjhhaaDoorW.PrintWords Go.Proofs.YtakhnigalkjhhaaDoorW.PrintLast Go.Proofs.YtakhnigalkjhhaaDoorW.PrintMore Go.Proofs.YtakhnigalkjhhaaDoor.PTileChecks
set_option linter.unusedVariables false

/-- The sum of texts. -/
theorem of_calls (w : World) (A : Option Addr) (c : Nat) (l : List ByteArray) (h : Kd.string.C w A l.length l) (hc : l.length ≤ c) (hs : ∀ x ∈ l, x.size ≤ 9223372036854775806) :
    Calls Tryd.prog 63 #[.slice A l.length c] w fun e w' => e = .returned (.int .u16 (sumL 0 (allB l))) ∧ Drawn0 w w' := by
  obtain ⟨k, hk⟩ := of_pure l (by have := Kd.C_max h; omega) hs
  exact sum_Of.calls k A c l _ w h hc hk
theorem allB_one (s : ByteArray) : allB [s] = s.data.toList := by simp [allB]
theorem of1_calls (s : ByteArray) (hs : s.size ≤ 9223372036854775806) (w : World) :
    Calls Tryd.prog 63 #[.slice (some ⟨w.heap.size, 0, none⟩) 1 1] (w.alloc (.cells #[.string s] 9)) fun e w' => e = .returned (.int .u16 (sumL 0 s.data.toList)) ∧ Below w.heap.size w w' := by
  have h := of_calls (w.alloc (.cells #[.string s] 9)) (some ⟨w.heap.size, 0, none⟩) 1 [s] (nlitC w 9 [s] (by simp)) (Nat.le_refl _) (fun x hx => by rw [List.mem_singleton.1 hx]; exact hs)
  rw [allB_one] at h
  exact h.mono fun e w' ⟨h1, h2⟩ => ⟨h1, (below_alloc (Below.refl _ _) _).trans (h2.below.mono (by simp))⟩

/-- A text with its sum ahead. -/
def putS (s : ByteArray) : ByteArray := (hex4 (sumL 0 s.data.toList) ++ (⟨#[44]⟩ : ByteArray)) ++ s
theorem hex4_size (n : Int) : (hex4 n).size = 4 := rfl
theorem put_calls (s : ByteArray) (hs : s.size ≤ 1000000) (w : World) (hT : NumT w) : Calls Tryd.prog 37 #[.string s] w fun e w' => e = .returned (.string (putS s)) ∧ Below w.heap.size w w' := by
  have HO := Aside0.mk (of1_calls s (by omega) w)
  have hr := sumL_range s.data.toList 0 (by omega) (by omega)
  have HT := Aside0.mk hT
  unfold putS
  generalize sumL 0 s.data.toList = n at *
  have HH := Aside0.mk (fun w' (hb : Below w.heap.size w w') => hex_calls n hr.1 hr.2 w' (HT.out.below hb))
  have hz := hex4_size n
  have hz2 : (hex4 n ++ (⟨#[44]⟩ : ByteArray)).size = 5 := by rw [ByteArray.size_append, hz]; rfl
  clear hT hr
  generalize hex4 n = x at *
  have hz1 : x.size + 1 ≤ 9223372036854775807 := by omega
  have hz3 : (x ++ (⟨#[44]⟩ : ByteArray)).size + s.size ≤ 9223372036854775807 := by omega
  clear hz2 hz
  go_enter Tryd.func37, Tryd.ntmps37
  go_wp2_with (first | (go_at_call 63; refine HO.out.mono ?_; rintro e w1 ⟨rfl, hb⟩; replace hb := Aside0.mk hb) | (go_at_call 62; refine (HH.out _ hb.out).mono ?_; rintro e w2 ⟨rfl, hb2⟩))
  go_ret
  exact ⟨rfl, hb.out.trans (hb2.mono hb.out.size)⟩


end Go.Proofs.YtakhnigalkjhhaaDoor
