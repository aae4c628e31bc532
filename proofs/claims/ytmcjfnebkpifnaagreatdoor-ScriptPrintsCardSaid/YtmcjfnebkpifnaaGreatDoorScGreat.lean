/-
  Joined texts: ScAll, ScGreat.
-/
import Derived.Test.YtmcjfnebkpifnaaGreatDoorScRef
import Derived.Test.YtmcjfnebkpifnaaGreatDoorScPrPrint
import Derived.Test.YtmcjfnebkpifnaaGreatDoorScTop
/- Printed texts of this seat, cut to what is used. -/
namespace Go.Proofs.YtmcjfnebkpifnaaGreatDoor
open Go.RowKit Go.Proofs.YtmcjfnebkpifnaaGreatDoorW.PrintWords Go.Proofs.YtmcjfnebkpifnaaGreatDoorW.PrintLast Go.Proofs.YtmcjfnebkpifnaaGreatDoorW.PrintMore Go.Proofs.YtmcjfnebkpifnaaGreatDoor.PScriptReads
set_option linter.unusedVariables false
set_option linter.unusedSimpArgs false

theorem All_loop (l : List SH) (hl : l.length ≤ 2000) : ∀ (d j : Nat), j + d = l.length → sashref25_All.l0 (d + 2) l (l.length : Int) (j : Int) = some ((l.drop j).all mayB)
  | 0, j, h => by
    unfold sashref25_All.l0
    rw [if_neg (by omega), List.drop_eq_nil_of_le (by omega), decide_eq_true (by omega)]
    rfl
  | d + 1, j, h => by
    have ih := All_loop l hl d (j + 1) (by omega)
    have hj : j < l.length := by omega
    have hx : (rd_T43 l (j : Int)) = l[j] := by
      unfold rd_T43
      rw [List.getD_eq_getElem?_getD, show ((j : Int)).toNat = j by omega, List.getElem?_eq_getElem hj]
      rfl
    have hw : wrap64 ((j : Int) + 1) = ((j + 1 : Nat) : Int) := by
      unfold wrap64; omega
    unfold sashref25_All.l0
    rw [if_pos (by omega), if_pos (by omega), if_pos (by omega), hx, May_f, may_f l[j], Option.bind_some, hw, ih, List.drop_eq_getElem_cons hj, List.all_cons]
    cases mayB l[j] <;> rfl
end Go.Proofs.YtmcjfnebkpifnaaGreatDoor

/-
  sashref25.Great: what it returns.
-/
namespace Go.Proofs.YtmcjfnebkpifnaaGreatDoor
open Go.RowKit Go.Proofs.YtmcjfnebkpifnaaGreatDoorW.PrintWords Go.Proofs.YtmcjfnebkpifnaaGreatDoorW.PrintLast Go.Proofs.YtmcjfnebkpifnaaGreatDoorW.PrintMore Go.Proofs.YtmcjfnebkpifnaaGreatDoor.PScriptReads
set_option linter.unusedVariables false
set_option linter.unusedSimpArgs false
set_option maxRecDepth 100000

theorem great_loop (l : List SH) (h40 : l.length ≤ 40) : ∀ (d j : Nat), j + d = l.length → ∃ r, sashref25_Great.l0 (d + 1) l (l.length : Int) (j : Int) = some r ∧ (r = false → ∀ x ∈ l.drop j, x.f2.size ≤ 500)
  | 0, j, h => by
    refine ⟨false, ?_, fun _ => by rw [List.drop_eq_nil_of_le (by omega)]; intro x hx; cases hx⟩
    unfold sashref25_Great.l0
    rw [if_neg (by omega)]
  | d + 1, j, h => by
    obtain ⟨r, h1, h2⟩ := great_loop l h40 d (j + 1) (by omega)
    have hj : j < l.length := by omega
    have hx : (rd_T43 l (j : Int)) = l[j] := by
      unfold rd_T43
      rw [List.getD_eq_getElem?_getD, show ((j : Int)).toNat = j by omega, List.getElem?_eq_getElem hj]
      rfl
    have hw : wrap64 ((j : Int) + 1) = ((j + 1 : Nat) : Int) := by
      unfold wrap64; omega
    unfold sashref25_Great.l0
    rw [if_pos (by omega), if_pos (by omega), if_pos (by omega), hx]
    by_cases hs : ((l[j].f2).size : Int) > 500
    · exact ⟨true, by rw [if_pos hs], fun h => by cases h⟩
    · refine ⟨r, by rw [if_neg hs, hw, h1], fun hr x hx => ?_⟩
      rw [List.drop_eq_getElem_cons hj] at hx
      rcases List.mem_cons.1 hx with e | e
      · subst e; omega
      · exact h2 hr x e
theorem great_f (l : List SH) : ∃ r, sashref25_Great.f (l.length + 1) l = some r ∧ (r = false → l.length ≤ 40 ∧ ∀ x ∈ l, x.f2.size ≤ 500) := by
  unfold sashref25_Great.f
  by_cases h : (l.length : Int) > 40
  · exact ⟨true, by rw [if_pos h], fun h => by cases h⟩
  · obtain ⟨r, h1, h2⟩ := great_loop l (by omega) l.length 0 (by omega)
    exact ⟨r, by rw [if_neg h]; exact h1, fun hr => ⟨by omega, h2 hr⟩⟩
theorem great_calls (A : Option Addr) (c : Nat) (l : List SH) (w : World) (hr : Kd.C k43 w A l.length l) (hc : l.length ≤ c) :
    ∃ r, (Calls Tryz.prog 6 #[.slice A l.length c] w fun e w' => e = .returned (.bool r) ∧ Below w.heap.size w w') ∧ (r = false → l.length ≤ 40 ∧ ∀ x ∈ l, x.f2.size ≤ 500) := by
  obtain ⟨r, h1, h2⟩ := great_f l
  exact ⟨r, (sashref25_Great.calls (l.length + 1) A c l r w hr hc h1).mono fun e w' ⟨q1, q2⟩ => ⟨q1, q2.below⟩, h2⟩

end Go.Proofs.YtmcjfnebkpifnaaGreatDoor
