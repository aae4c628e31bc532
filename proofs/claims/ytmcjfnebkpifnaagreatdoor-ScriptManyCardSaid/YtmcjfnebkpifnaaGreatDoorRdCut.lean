/- Printed texts of this seat, cut to what is used. -/
import Derived.Test.YtmcjfnebkpifnaaGreatDoorRdAll
import Derived.Test.YtmcjfnebkpifnaaGreatDoorScRef
import Derived.Test.YtmcjfnebkpifnaaGreatDoorPScriptReadsx9
namespace Go.Proofs.YtmcjfnebkpifnaaGreatDoor
open Go.RowKit Go.Proofs.YtmcjfnebkpifnaaGreatDoorW.PrintWords Go.Proofs.YtmcjfnebkpifnaaGreatDoorW.PrintLast Go.Proofs.YtmcjfnebkpifnaaGreatDoorW.PrintMore Go.Proofs.YtmcjfnebkpifnaaGreatDoor.PScriptReads
set_option linter.unusedVariables false
set_option linter.unusedSimpArgs false

theorem ext_list (s : ByteArray) (a b : Nat) : s.extract a b = bsOf ((s.data.toList.drop a).take (b - a)) := by
  apply bs_ext
  rw [bs_list, ByteArray.data_extract, Array.toList_extract, List.extract_eq_take_drop]
theorem take_step (L : List UInt8) (a i : Nat) (h : a ≤ i) (hi : i < L.length) : (L.drop a).take (i + 1 - a) = (L.drop a).take (i - a) ++ [L[i]] := by
  rw [show i + 1 - a = (i - a) + 1 by omega, List.take_succ_eq_append_getElem (by rw [List.length_drop]; omega)]
  congr 2
  rw [List.getElem_drop]
  congr 1
  omega
theorem take_self (L : List UInt8) (a : Nat) : (L.drop a).take (a - a) = [] := by simp
theorem byte_is (c : UInt8) (m : Nat) (hm : m < 256) : ((c.toNat : Int) = (m : Int)) ↔ c = UInt8.ofNat m := by
  constructor
  · intro h
    apply UInt8.toNat_inj.1
    rw [show (UInt8.ofNat m).toNat = m % 256 by simp]
    omega
  · rintro rfl
    rw [show (UInt8.ofNat m).toNat = m % 256 by simp]
    omega
def cutR (q : Bool) (cur l : List UInt8) (out : List ByteArray) : List ByteArray × ByteArray := (out ++ (cutL q false cur l).1.map bsOf, bsOf (cutL q false cur l).2)
theorem wrap1 (n : Nat) (h : n < 4611686018427387904) : wrap64 ((n : Int) + 1) = ((n + 1 : Nat) : Int) := by unfold wrap64; omega
theorem wrap2 (n : Nat) (h : n < 4611686018427387904) : wrap64 (wrap64 ((n : Int) + 1) + 1) = ((n + 2 : Nat) : Int) := by rw [wrap1 n h]; unfold wrap64; omega
theorem cut_end (s : ByteArray) (hs : s.size ≤ 1000000) (k : Nat) (out : List ByteArray) (a : Nat) (q : Bool) (i : Nat) (ha : a ≤ s.size) (hi : s.size ≤ i) :
    script_cut.l0 (k + 1) s out (a : Int) q (i : Int) = some (out, bsOf ((s.data.toList.drop a).take (s.size - a))) := by
  have hm : mn (a : Int) (s.size : Int) = (a : Int) := by unfold mn; split <;> omega
  rw [script_cut.l0, if_neg (by omega), hm, if_pos (by omega), if_pos (by omega), ext_list]
  rfl
theorem cut_l0 (s : ByteArray) (hs : s.size ≤ 1000000) : ∀ (d i : Nat), s.size - i = d → i ≤ s.size → ∀ (k : Nat), 2 * d + 2 ≤ k → ∀ (out : List ByteArray) (a : Nat) (q : Bool), a ≤ i → out.length ≤ i →
    script_cut.l0 k s out (a : Int) q (i : Int) = some (cutR q ((s.data.toList.drop a).take (i - a)) (s.data.toList.drop i) out) := by
  intro d
  have hL : s.data.toList.length = s.size := by simp
  induction d using Nat.strongRecOn with
  | ind d ih =>
  intro i hd hi k hk out a q ha ho
  by_cases h : i < s.size
  · obtain ⟨k, rfl⟩ : ∃ k', k = k' + 2 := ⟨k - 2, by omega⟩
    have hb := bt_nat s i h
    have he := drop_at s i h
    have hts := take_step s.data.toList a i ha (by omega)
    have hg : s.data.toList[i]'(by omega) = s[i] := rfl
    rw [hg] at hts
    have w1 := Aside0.mk (wrap1 i (by omega))
    have w2 := Aside0.mk (wrap2 i (by omega))
    have ih1 : ∀ (k' : Nat), 2 * (d - 1) + 2 ≤ k' → ∀ (out : List ByteArray) (a : Nat) (q : Bool), a ≤ i + 1 → out.length ≤ i + 1 →
      script_cut.l0 k' s out (a : Int) q ((i + 1 : Nat) : Int) = some (cutR q ((s.data.toList.drop a).take (i + 1 - a)) (s.data.toList.drop (i + 1)) out) := ih (d - 1) (by omega) (i + 1) (by omega) (by omega)
    have e0 : ∀ (b : Bool), script_cut.l0 (k + 2) s out (a : Int) q (i : Int) = (if s[i] = 92 then script_cut.j1 (k + 1) s out (a : Int) q (i : Int) q else script_cut.j1 (k + 1) s out (a : Int) q (i : Int) false) := by
      intro _
      rw [script_cut.l0, if_pos (by omega), if_pos (by omega), hb]
      by_cases c : s[i] = 92
      · rw [if_pos c, if_pos (by rw [c]; rfl)]
      · rw [if_neg c, if_neg (fun hc => c ((byte_is s[i] 92 (by decide)).1 hc))]
    have ej : script_cut.j1 (k + 1) s out (a : Int) q (i : Int) false = (if s[i] = 34 then script_cut.l0 k s out (a : Int) (!q) ((i + 1 : Nat) : Int) else if s[i] = 10 then (if q = true then script_cut.l0 k s out (a : Int) q ((i + 1 : Nat) : Int) else script_cut.l0 k s (out ++ [bsOf ((s.data.toList.drop a).take (i - a))]) ((i + 1 : Nat) : Int) q ((i + 1 : Nat) : Int)) else script_cut.l0 k s out (a : Int) q ((i + 1 : Nat) : Int)) := by
      rw [script_cut.j1, if_neg (by decide), if_pos (by omega), if_pos (by omega), hb, w1.out]
      by_cases c : s[i] = 34
      · rw [if_pos c, if_pos (by rw [c]; rfl)]
      · rw [if_neg c, if_neg (fun hc => c ((byte_is s[i] 34 (by decide)).1 hc))]
        by_cases c2 : s[i] = 10
        · rw [if_pos c2, if_pos (by rw [c2]; rfl)]
          by_cases c3 : q = true
          · rw [if_pos c3, if_pos c3]
          · rw [if_neg c3, if_neg c3, if_pos (by omega), if_pos (by omega), if_pos (by omega), if_pos (by omega), ext_list]
            rfl
        · rw [if_neg c2, if_neg (fun hc => c2 ((byte_is s[i] 10 (by decide)).1 hc))]
    rw [e0 true, he]
    unfold cutR
    rw [cutL]
    by_cases c92 : s[i] = 92 ∧ q = true
    · obtain ⟨c, rfl⟩ := c92
      rw [if_pos c, if_pos ⟨c, rfl⟩, script_cut.j1, if_pos rfl, w2.out]
      by_cases h2 : i + 1 < s.size
      · have he2 := drop_at s (i + 1) h2
        have hts2 := take_step s.data.toList a (i + 1) (by omega) (by omega)
        have hg2 : s.data.toList[i + 1]'(by omega) = s[i + 1] := rfl
        rw [hg2, hts] at hts2
        rw [ih (d - 2) (by omega) (i + 2) (by omega) (by omega) k (by omega) out a true (by omega) (by omega), he2, cutL]
        unfold cutR
        rw [show i + 2 - a = i + 1 + 1 - a by omega, hts2]
      · have hi1 : i + 1 = s.size := by omega
        obtain ⟨k, rfl⟩ : ∃ k', k = k' + 1 := ⟨k - 1, by omega⟩
        rw [cut_end s hs k out a true (i + 2) (by omega) (by omega), List.drop_eq_nil_of_le (show s.data.toList.length ≤ i + 1 by omega), ← hi1, hts]
        simp [cutL]
    · rw [if_neg c92]
      have e1 : (if s[i] = 92 then script_cut.j1 (k + 1) s out (a : Int) q (i : Int) q else script_cut.j1 (k + 1) s out (a : Int) q (i : Int) false) = script_cut.j1 (k + 1) s out (a : Int) q (i : Int) false := by
        by_cases c : s[i] = 92
        · have hq : q = false := by cases q with
            | false => rfl
            | true => exact absurd ⟨c, rfl⟩ c92
          rw [if_pos c, hq]
        · rw [if_neg c]
      rw [e1, ej]
      by_cases c34 : s[i] = 34
      · rw [if_pos c34, if_pos c34, ih1 k (by omega) out a (!q) (by omega) (by omega), hts]
        rfl
      · rw [if_neg c34, if_neg c34]
        by_cases c10 : s[i] = 10 ∧ q = false
        · obtain ⟨c, rfl⟩ := c10
          rw [if_pos c, if_neg (by decide), if_pos ⟨c, rfl⟩, ih1 k (by omega) _ (i + 1) false (by omega) (by rw [List.length_append, List.length_singleton]; omega), take_self]
          unfold cutR
          simp
        · rw [if_neg c10]
          have e2 : (if s[i] = 10 then (if q = true then script_cut.l0 k s out (a : Int) q ((i + 1 : Nat) : Int) else script_cut.l0 k s (out ++ [bsOf ((s.data.toList.drop a).take (i - a))]) ((i + 1 : Nat) : Int) q ((i + 1 : Nat) : Int)) else script_cut.l0 k s out (a : Int) q ((i + 1 : Nat) : Int)) = script_cut.l0 k s out (a : Int) q ((i + 1 : Nat) : Int) := by
            by_cases c : s[i] = 10
            · have hq : q = true := by cases q with
                | true => rfl
                | false => exact absurd ⟨c, rfl⟩ c10
              rw [if_pos c, if_pos hq]
            · rw [if_neg c]
          rw [e2, ih1 k (by omega) out a q (by omega) (by omega), hts]
          rfl
  · have hi1 : i = s.size := by omega
    obtain ⟨k, rfl⟩ : ∃ k', k = k' + 1 := ⟨k - 1, by omega⟩
    rw [cut_end s hs k out a q i (by omega) (by omega), List.drop_eq_nil_of_le (show s.data.toList.length ≤ i by omega), hi1]
    simp [cutR, cutL]
theorem cut_f (s : ByteArray) (hs : s.size ≤ 1000000) : script_cut.f (2 * s.size + 2) s = some ((cutL false false [] s.data.toList).1.map bsOf, bsOf (cutL false false [] s.data.toList).2) := by
  have h := cut_l0 s hs s.size 0 (by omega) (by omega) _ (Nat.le_refl _) [] 0 false (by omega) (by simp)
  unfold script_cut.f
  have e : script_cut.l0 (2 * s.size + 2) s [] 0 false 0 = _ := h
  rw [e]
  simp [cutR]

end Go.Proofs.YtmcjfnebkpifnaaGreatDoor
