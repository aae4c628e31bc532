/-
  A happening's line: what it is. Pure.
-/
import Derived.Test.YtmcjfnebkpifnaaDoorPScriptJoinsx3
import Derived.Test.YtmcjfnebkpifnaaDoorNuDigitsP
import Derived.Test.YtmcjfnebkpifnaaDoorWqPureS
namespace Go.Proofs.YtmcjfnebkpifnaaDoor
open Go.RowKit Go.Proofs.YtmcjfnebkpifnaaDoorW.PrintWords Go.Proofs.YtmcjfnebkpifnaaDoorW.PrintLast Go.Proofs.YtmcjfnebkpifnaaDoorW.PrintMore Go.Proofs.YtmcjfnebkpifnaaDoor.PScriptJoins
set_option linter.unusedVariables false
set_option linter.unusedSimpArgs false

abbrev SH := S56
theorem bs_ext {a b : ByteArray} (h : a.data.toList = b.data.toList) : a = b := by
  apply ByteArray.ext
  exact Array.ext' h
def bsOf (l : List UInt8) : ByteArray := ⟨l.toArray⟩
theorem bs_list (l : List UInt8) : (bsOf l).data.toList = l := rfl
theorem bs_size (l : List UInt8) : (bsOf l).size = l.length := by simp [bsOf, ByteArray.size]
theorem bs_app (a b : List UInt8) : bsOf a ++ bsOf b = bsOf (a ++ b) := by
  apply bs_ext
  rw [ByteArray.data_append, Array.toList_append, bs_list, bs_list, bs_list]
theorem bs_of (s : ByteArray) : bsOf s.data.toList = s := bs_ext rfl
def digL (n : Int) : List UInt8 := (digS n).data.toList
theorem bs_dig (n : Int) : digS n = bsOf (digL n) := (bs_of _).symm
theorem digL_len (n : Int) : (digL n).length ≤ 21 := by
  have := digS_size n
  unfold digL
  simpa using this
/-- Two digits of base 16. -/
def hex2 (b : UInt8) : List UInt8 := (hex4 (b.toNat : Int)).data.toList.drop 2
theorem hex2_len (b : UInt8) : (hex2 b).length = 2 := rfl
def hexL (l : List UInt8) : List UInt8 := if l = [] then [110, 111, 110, 101] else l.flatMap hex2
theorem hexF_len (l : List UInt8) : (l.flatMap hex2).length = 2 * l.length := by
  induction l with
  | nil => rfl
  | cons b l ih => rw [List.flatMap_cons, List.length_append, ih, hex2_len, List.length_cons]; omega
theorem hexF_take (l : List UInt8) (j : Nat) (hj : j < l.length) : (l.take (j + 1)).flatMap hex2 = (l.take j).flatMap hex2 ++ hex2 l[j] := by
  rw [List.take_succ_eq_append_getElem hj, List.flatMap_append]; simp
def kindL : List (List UInt8) := [[97, 116, 116, 97, 99, 104], [100, 101, 116, 97, 99, 104], [100, 97, 116, 97], [108, 105, 110, 101], [105, 110, 112, 117, 116], [101, 120, 105, 116]]
def kindW (k : Int) : List UInt8 := kindL.getD (k - 1).toNat []
def lineB (h : SH) : List UInt8 :=
  kindW h.f0 ++ (if h.f0 = 1 then [] else [32] ++ digL h.f1) ++
    (if h.f0 = 3 then [32] ++ hexL h.f2.data.toList else if h.f0 = 4 ∨ h.f0 = 5 then [32] ++ quotedL h.f2.data.toList else [])
theorem kindW_len (k : Int) : (kindW k).length ≤ 6 := by
  unfold kindW
  rw [List.getD_eq_getElem?_getD]
  cases h : kindL[(k - 1).toNat]? with
  | none => simp
  | some x =>
    have hm := List.mem_of_getElem? h
    exact (show ∀ x ∈ kindL, x.length ≤ 6 by decide) x hm
theorem hexL_len (l : List UInt8) : (hexL l).length ≤ 2 * l.length + 4 := by
  unfold hexL
  split
  · simp
  · rw [hexF_len]; omega
theorem lineB_len (h : SH) : (lineB h).length ≤ 2 * h.f2.size + 33 := by
  have h1 := kindW_len h.f0
  have h2 := digL_len h.f1
  have h3 := hexL_len h.f2.data.toList
  have h4 := quotedL_len h.f2.data.toList
  have e : h.f2.data.toList.length = h.f2.size := by simp
  unfold lineB
  simp only [List.length_append]
  have a : (if h.f0 = 1 then ([] : List UInt8) else [32] ++ digL h.f1).length ≤ 22 := by split <;> simp <;> omega
  have b : (if h.f0 = 3 then [32] ++ hexL h.f2.data.toList else if h.f0 = 4 ∨ h.f0 = 5 then [32] ++ quotedL h.f2.data.toList else []).length ≤ 2 * h.f2.size + 5 := by
    split
    · simp only [List.length_append, List.length_singleton]; omega
    · split
      · simp only [List.length_append, List.length_singleton]; omega
      · simp
  omega
def mayB (h : SH) : Bool := (script_may.f h.f0 h.f1 h.f2).getD false
theorem may_f (h : SH) : script_may.f h.f0 h.f1 h.f2 = some (mayB h) := by
  have : ∃ r, script_may.f h.f0 h.f1 h.f2 = some r := by
    unfold script_may.f
    repeat' first | exact ⟨_, rfl⟩ | split
  obtain ⟨r, hr⟩ := this
  unfold mayB
  rw [hr]; rfl
theorem may_kind {h : SH} (hm : mayB h = true) : h.f0 = 1 ∨ h.f0 = 2 ∨ h.f0 = 3 ∨ h.f0 = 4 ∨ h.f0 = 5 ∨ h.f0 = 6 := by
  by_cases a : h.f0 = 1 ∨ h.f0 = 2 ∨ h.f0 = 3 ∨ h.f0 = 4 ∨ h.f0 = 5 ∨ h.f0 = 6
  · exact a
  · exfalso
    unfold mayB script_may.f at hm
    rw [if_neg (by omega), if_neg (by omega), if_neg (by omega), if_neg (by omega), if_neg (by omega), if_neg (by omega)] at hm
    cases hm
/-- The lines of happenings, each with its end. -/
def textL (l : List SH) : List UInt8 := l.flatMap (fun h => lineB h ++ [10])
theorem textL_app (a b : List SH) : textL (a ++ b) = textL a ++ textL b := by unfold textL; rw [List.flatMap_append]
theorem textL_take (l : List SH) (j : Nat) (hj : j < l.length) : textL (l.take (j + 1)) = textL (l.take j) ++ (lineB (l.getD j z56) ++ [10]) := by
  rw [List.take_succ_eq_append_getElem hj, textL_app, List.getD_eq_getElem?_getD, List.getElem?_eq_getElem hj]
  simp [textL]
theorem textL_len (l : List SH) (h : ∀ x ∈ l, x.f2.size ≤ 500) : (textL l).length ≤ 1034 * l.length := by
  induction l with
  | nil => simp [textL]
  | cons x l ih =>
    have h1 := lineB_len x
    have h2 := h x List.mem_cons_self
    have h3 := ih (fun y hy => h y (List.mem_cons_of_mem _ hy))
    have e : textL (x :: l) = (lineB x ++ [10]) ++ textL l := by unfold textL; rw [List.flatMap_cons]
    rw [e]
    have e2 : ((lineB x ++ [10]) ++ textL l).length = (lineB x).length + 1 + (textL l).length := by simp; omega
    rw [e2, List.length_cons]
    omega
end Go.Proofs.YtmcjfnebkpifnaaDoor
