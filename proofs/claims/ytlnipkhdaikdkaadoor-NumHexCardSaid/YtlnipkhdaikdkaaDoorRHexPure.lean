/-
  The document's reading of four digits: pure.
-/
import Derived.Test.YtlnipkhdaikdkaaDoorHexPure
import Derived.Test.YtlnipkhdaikdkaaDoorSuPut
import Derived.Test.YtlnipkhdaikdkaaDoorPSumCutsx3
namespace Go.Proofs.YtlnipkhdaikdkaaDoor
open Go.RowKit Go.Proofs.YtlnipkhdaikdkaaDoorW.PrintWords Go.Proofs.YtlnipkhdaikdkaaDoorW.PrintLast Go.Proofs.YtlnipkhdaikdkaaDoorW.PrintMore
set_option linter.unusedVariables false

theorem refDigit2_pure (x : Int) (h0 : 0 ≤ x) (h1 : x < 16) : PSumCuts.sashref01_Digit.f x = some (⟨#[dgt x]⟩ : ByteArray) := by
  have e : PSumCuts.sashref01_Digit.f x = PSumIs.sashref01_Digit.f x := rfl
  rw [e]; exact refDigit_pure x h0 h1
theorem dgt_iff (c : UInt8) (j : Int) (h0 : 0 ≤ j) (h1 : j < 16) : dgt j = c ↔ lowV (c.toNat : Int) = j := by
  constructor
  · rintro rfl; exact low_dgt j h0 h1
  · rintro rfl; exact dgt_low c h0
theorem ext_one (s : ByteArray) (i : Nat) (h : i < s.size) : (s.extract i (i + 1)).toList = [s[i]] := by
  rw [ByteArray.toList_eq, ByteArray.data_extract, Array.toList_extract]
  have hl : i < s.data.toList.length := by simpa using h
  simp only [List.extract, Nat.add_sub_cancel_left]
  rw [List.drop_eq_getElem_cons hl]
  rfl
theorem sing_list (b : UInt8) : (⟨#[b]⟩ : ByteArray).toList = [b] := by rw [ByteArray.toList_eq]
theorem wr64 (x : Int) (h0 : -1000000 ≤ x) (h1 : x ≤ 10000000) : wrap64 x = x := by unfold wrap64; omega

/-- The greatest digit met so far. -/
def metV (v j : Int) : Int := if 0 ≤ v ∧ v < j then v else -1
theorem metV16 (v : Int) (h : -1 ≤ v ∧ v < 16) : metV v 16 = v := by unfold metV; split <;> omega
theorem rh_l1 (s : ByteArray) (x : Int) (i : Nat) (hi : i < s.size) (hi4 : i < 100) (d : Nat) : ∀ (k : Nat) (j : Int), 16 - j = d → 0 ≤ j → j ≤ 16 → d < k →
    PSumCuts.sashref01_ReadHex.l1 k s x (i : Int) (metV (lowV (s[i].toNat : Int)) j) j = (if lowV (s[i].toNat : Int) < 0 then some (0, false) else PSumCuts.sashref01_ReadHex.l0 (k - d - 1) s (wrap64 ((wrap64 (16 * x)) + lowV (s[i].toNat : Int))) ((i + 1 : Nat) : Int)) := by
  induction d with
  | zero =>
    intro k j hd h0 h1 hk
    obtain ⟨k, rfl⟩ : ∃ m, k = m + 1 := ⟨k - 1, by omega⟩
    have hj : j = 16 := by omega
    subst hj
    have hm : metV (lowV (s[i].toNat : Int)) 16 = lowV (s[i].toNat : Int) := metV16 _ (lowV_range (s[i].toNat : Int))
    rw [hm]
    clear hm
    generalize lowV (s[i].toNat : Int) = v
    simp only [PSumCuts.sashref01_ReadHex.l1]
    rw [if_neg (by decide), wr1 i (by omega), show k + 1 - 0 - 1 = k from by omega]
  | succ d ih =>
    intro k j hd h0 h1 hk
    obtain ⟨k, rfl⟩ : ∃ m, k = m + 1 := ⟨k - 1, by omega⟩
    have hr := lowV_range (s[i].toNat : Int)
    have hT : ((i : Int)).toNat = i := Int.toNat_natCast i
    have hT1 : ((i + 1 : Nat) : Int).toNat = i + 1 := Int.toNat_natCast (i + 1)
    have hdg := dgt_iff s[i] j h0 (by omega)
    simp only [PSumCuts.sashref01_ReadHex.l1]
    rw [if_pos (by omega), refDigit2_pure j h0 (by omega), Option.bind_some]
    rw [wr1 i (by omega), if_pos (by omega), if_pos (by omega), if_pos (by omega), hT, hT1, ext_one s i hi, sing_list, wr64 (j + 1) (by omega) (by omega)]
    have e := ih k (j + 1) (by omega) (by omega) (by omega) (by omega)
    rw [show k + 1 - (d + 1) - 1 = k - d - 1 from by omega]
    by_cases hv : lowV (s[i].toNat : Int) = j
    · have hm : metV (lowV (s[i].toNat : Int)) (j + 1) = j := by unfold metV; rw [if_pos (by omega), hv]
      rw [if_pos (by rw [hdg.2 hv]), ← e, hm]
    · have hm : metV (lowV (s[i].toNat : Int)) (j + 1) = metV (lowV (s[i].toNat : Int)) j := by
        unfold metV
        by_cases h : 0 ≤ lowV (s[i].toNat : Int) ∧ lowV (s[i].toNat : Int) < j
        · rw [if_pos h, if_pos (by omega)]
        · rw [if_neg h, if_neg (by omega)]
      rw [if_neg (by intro h; injection h with h _; exact hv (hdg.1 h)), ← e, hm]
theorem rh_l0 (s : ByteArray) (x : Int) (h0 : 0 ≤ x) (h1 : x ≤ 65535) (i : Nat) (hi : i < s.size) (hi4 : i < 4) (k : Nat) :
    PSumCuts.sashref01_ReadHex.l0 (k + 18) s x (i : Int) = (if lowV (s[i].toNat : Int) < 0 then some (0, false) else PSumCuts.sashref01_ReadHex.l0 k s (16 * x + lowV (s[i].toNat : Int)) ((i + 1 : Nat) : Int)) := by
  have hr := lowV_range (s[i].toNat : Int)
  have e : PSumCuts.sashref01_ReadHex.l0 (k + 18) s x (i : Int) = PSumCuts.sashref01_ReadHex.l1 (k + 17) s x (i : Int) (-1) 0 := by
    rw [show k + 18 = (k + 17) + 1 from rfl]
    simp only [PSumCuts.sashref01_ReadHex.l0]
    rw [if_pos (by omega)]
  have h := rh_l1 s x i hi (by omega) 16 (k + 17) 0 (by omega) (by omega) (by omega) (by omega)
  have hm : metV (lowV (s[i].toNat : Int)) 0 = -1 := by unfold metV; rw [if_neg (by omega)]
  rw [hm] at h
  rw [e, h, show k + 17 - 16 - 1 = k from by omega, wr64 (16 * x) (by omega) (by omega), wr64 (16 * x + lowV (s[i].toNat : Int)) (by omega) (by omega)]
theorem rh_end (s : ByteArray) (x : Int) (h0 : 0 ≤ x) (h1 : x ≤ 65535) (k : Nat) : PSumCuts.sashref01_ReadHex.l0 (k + 1) s x ((3 + 1 : Nat) : Int) = some (x, true) := by
  simp only [PSumCuts.sashref01_ReadHex.l0]
  rw [if_neg (by decide), wrap_u16]
  congr 2
  omega
theorem rh_end1 (s : ByteArray) (x : Int) (h0 : 0 ≤ x) (h1 : x ≤ 65535) : PSumCuts.sashref01_ReadHex.l0 1 s x ((3 + 1 : Nat) : Int) = some (x, true) := rh_end s x h0 h1 0
def unhexP (s : ByteArray) : Int × Bool := match unhexS s with
  | some u => (u, true)
  | none => (0, false)
theorem list4 (s : ByteArray) (h : s.size = 4) : s.data.toList = [s[0], s[1], s[2], s[3]] := by
  have hl : s.data.toList.length = 4 := by simpa using h
  apply List.ext_getElem
  · rw [hl]; rfl
  · intro i h1 h2
    have hi : i < 4 := by omega
    match i, hi with
    | 0, _ => rfl
    | 1, _ => rfl
    | 2, _ => rfl
    | 3, _ => rfl
theorem refRH_pure (s : ByteArray) : PSumCuts.sashref01_ReadHex.f 73 s = some (unhexP s) := by
  unfold PSumCuts.sashref01_ReadHex.f
  by_cases h4 : s.size = 4
  · rw [if_pos (by omega)]
    have r0 := lowV_range (s[0].toNat : Int); have r1 := lowV_range (s[1].toNat : Int); have r2 := lowV_range (s[2].toNat : Int); have r3 := lowV_range (s[3].toNat : Int)
    have hu : unhexP s = match unhexL [s[0], s[1], s[2], s[3]] with
      | some u => (u, true)
      | none => (0, false) := by unfold unhexP unhexS; rw [list4 s h4]
    rw [hu]
    simp only [unhexL]
    have e0 := rh_l0 s 0 (by omega) (by omega) 0 (by omega) (by omega) 55
    rw [show ((0 : Nat) : Int) = 0 from rfl] at e0
    rw [show (73 : Nat) = 55 + 18 from rfl, e0]
    by_cases h0 : lowV (s[0].toNat : Int) < 0
    · rw [if_pos h0, if_neg (by omega)]
    · rw [if_neg h0, show (55 : Nat) = 37 + 18 from rfl, rh_l0 s _ (by omega) (by omega) 1 (by omega) (by omega) 37]
      by_cases h1 : lowV (s[1].toNat : Int) < 0
      · rw [if_pos h1, if_neg (by omega)]
      · rw [if_neg h1, show (37 : Nat) = 19 + 18 from rfl, rh_l0 s _ (by omega) (by omega) 2 (by omega) (by omega) 19]
        by_cases h2 : lowV (s[2].toNat : Int) < 0
        · rw [if_pos h2, if_neg (by omega)]
        · rw [if_neg h2, show (19 : Nat) = 1 + 18 from rfl, rh_l0 s _ (by omega) (by omega) 3 (by omega) (by omega) 1]
          by_cases h3 : lowV (s[3].toNat : Int) < 0
          · rw [if_pos h3, if_neg (by omega)]
          · rw [if_neg h3, if_pos (by omega)]
            rw [rh_end1 s _ (by omega) (by omega)]
            simp only [Int.mul_zero, Int.zero_add]
  · rw [if_neg (by omega)]
    have hu : unhexS s = none := by
      rcases h : unhexS s with _ | u
      · rfl
      · obtain ⟨a, b, c, d, hl, _, _⟩ := unhexL_some h
        have := congrArg List.length hl
        have e : s.data.toList.length = s.size := by simp
        simp at this
        omega
    unfold unhexP
    rw [hu]
end Go.Proofs.YtlnipkhdaikdkaaDoor
