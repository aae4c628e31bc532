/- Printed texts of this seat, cut to what is used. -/
import Derived.Test.YtmcjfnebkpifnaaDoorPScriptLinesx3
import Derived.Test.YtmcjfnebkpifnaaDoorNuDigitsP
import Derived.Test.YtmcjfnebkpifnaaDoorWqPureS
namespace Go.Proofs.YtmcjfnebkpifnaaDoor
open Go.RowKit Go.Proofs.YtmcjfnebkpifnaaDoorW.PrintWords Go.Proofs.YtmcjfnebkpifnaaDoorW.PrintLast Go.Proofs.YtmcjfnebkpifnaaDoorW.PrintMore Go.Proofs.YtmcjfnebkpifnaaDoor.PScriptLines
set_option linter.unusedVariables false
set_option linter.unusedSimpArgs false

abbrev SH := S56
theorem bs_ext {a b : ByteArray} (h : a.data.toList = b.data.toList) : a = b := by
  apply ByteArray.ext
  exact Array.ext' h
def bsOf (l : List UInt8) : ByteArray := ⟨l.toArray⟩
theorem bs_list (l : List UInt8) : (bsOf l).data.toList = l := rfl
theorem bs_size (l : List UInt8) : (bsOf l).size = l.length := by simp [bsOf, ByteArray.size]
theorem bs_app (a b : List UInt8) : bsOf a ++ bsOf b = bsOf (a ++ b) := by
  apply bs_ext
  rw [ByteArray.data_append, Array.toList_append, bs_list, bs_list, bs_list]
theorem bs_of (s : ByteArray) : bsOf s.data.toList = s := bs_ext rfl
def digL (n : Int) : List UInt8 := (digS n).data.toList
theorem bs_dig (n : Int) : digS n = bsOf (digL n) := (bs_of _).symm
theorem digL_len (n : Int) : (digL n).length ≤ 21 := by
  have := digS_size n
  unfold digL
  simpa using this
/-- Two digits of base 16. -/
def hex2 (b : UInt8) : List UInt8 := (hex4 (b.toNat : Int)).data.toList.drop 2
theorem hex2_len (b : UInt8) : (hex2 b).length = 2 := rfl
def hexL (l : List UInt8) : List UInt8 := if l = [] then [110, 111, 110, 101] else l.flatMap hex2
theorem hexF_len (l : List UInt8) : (l.flatMap hex2).length = 2 * l.length := by
  induction l with
  | nil => rfl
  | cons b l ih => rw [List.flatMap_cons, List.length_append, ih, hex2_len, List.length_cons]; omega
theorem hexF_take (l : List UInt8) (j : Nat) (hj : j < l.length) : (l.take (j + 1)).flatMap hex2 = (l.take j).flatMap hex2 ++ hex2 l[j] := by
  rw [List.take_succ_eq_append_getElem hj, List.flatMap_append]; simp
def kindL : List (List UInt8) := [[97, 116, 116, 97, 99, 104], [100, 101, 116, 97, 99, 104], [100, 97, 116, 97], [108, 105, 110, 101], [105, 110, 112, 117, 116], [101, 120, 105, 116]]
def kindW (k : Int) : List UInt8 := kindL.getD (k - 1).toNat []
def lineB (h : SH) : List UInt8 :=
  kindW h.f0 ++ (if h.f0 = 1 then [] else [32] ++ digL h.f1) ++
    (if h.f0 = 3 then [32] ++ hexL h.f2.data.toList else if h.f0 = 4 ∨ h.f0 = 5 then [32] ++ quotedL h.f2.data.toList else [])
theorem hexL_len (l : List UInt8) : (hexL l).length ≤ 2 * l.length + 4 := by
  unfold hexL
  split
  · simp
  · rw [hexF_len]; omega
def mayB (h : SH) : Bool := (script_may.f h.f0 h.f1 h.f2).getD false
theorem may_f (h : SH) : script_may.f h.f0 h.f1 h.f2 = some (mayB h) := by
  have : ∃ r, script_may.f h.f0 h.f1 h.f2 = some r := by
    unfold script_may.f
    repeat' first | exact ⟨_, rfl⟩ | split
  obtain ⟨r, hr⟩ := this
  unfold mayB
  rw [hr]; rfl
theorem may_kind {h : SH} (hm : mayB h = true) : h.f0 = 1 ∨ h.f0 = 2 ∨ h.f0 = 3 ∨ h.f0 = 4 ∨ h.f0 = 5 ∨ h.f0 = 6 := by
  by_cases a : h.f0 = 1 ∨ h.f0 = 2 ∨ h.f0 = 3 ∨ h.f0 = 4 ∨ h.f0 = 5 ∨ h.f0 = 6
  · exact a
  · exfalso
    unfold mayB script_may.f at hm
    rw [if_neg (by omega), if_neg (by omega), if_neg (by omega), if_neg (by omega), if_neg (by omega), if_neg (by omega)] at hm
    cases hm
end Go.Proofs.YtmcjfnebkpifnaaDoor
