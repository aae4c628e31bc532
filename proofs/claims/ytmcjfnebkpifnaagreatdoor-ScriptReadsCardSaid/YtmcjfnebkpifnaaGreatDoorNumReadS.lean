/-
  The document's Head: what it returns.
-/
import Derived.Test.YtmcjfnebkpifnaaGreatDoorNumPureS
import Derived.Test.YtmcjfnebkpifnaaGreatDoorRdCut
import Derived.Test.YtmcjfnebkpifnaaGreatDoorPScriptReadsx9
import Derived.Test.YtmcjfnebkpifnaaGreatDoorPScriptReadsx6
namespace Go.Proofs.YtmcjfnebkpifnaaGreatDoor
open Go.RowKit Go.Proofs.YtmcjfnebkpifnaaGreatDoorW.PrintWords Go.Proofs.YtmcjfnebkpifnaaGreatDoorW.PrintLast Go.Proofs.YtmcjfnebkpifnaaGreatDoorW.PrintMore Go.Proofs.YtmcjfnebkpifnaaGreatDoor.PScriptReads
open Go.Lib (parseUintM)
set_option linter.unusedVariables false

theorem sdrop (s : ByteArray) (pos : Nat) (h : pos < s.size) : s.data.toList.drop pos = s[pos] :: s.data.toList.drop (pos + 1) := by
  have hl : pos < s.data.toList.length := by simpa using h
  rw [List.drop_eq_getElem_cons hl]
  rfl
theorem slen (s : ByteArray) : s.data.toList.length = s.size := by simp
theorem wr1 (i : Nat) (h : i < 9223372036854775807) : wrap64 ((i : Int) + 1) = ((i + 1 : Nat) : Int) := by unfold wrap64; omega

theorem w64b (x : Int) (h0 : 0 ≤ x) (h1 : x ≤ 99999999999) : wrap64 x = x := by unfold wrap64; omega
/-- The outcome behind digits: the number, and whether it is too great. -/
def outG (x : Nat) : Bool → List UInt8 → Nat × Bool
  | true, _ => (2147483647, true)
  | false, l => match parseUintM 2147483647 x l with
    | .ok u => (u, false)
    | _ => (2147483647, true)
def finP (n x : Nat) : Bool → Int × Int × Int
  | true => (0, 0, 3)
  | false => ((x : Int), (n : Int), 0)
def finR (s : ByteArray) (n : Nat) (r : Nat × Bool) : Int × Int × Int := if n = 0 ∨ (1 < n ∧ bt s 0 = 48) then (0, 0, 2) else finP n r.1 r.2
theorem finP_out (n : Nat) (l : List UInt8) : finP n (outG 0 false l).1 (outG 0 false l).2 = match parseUintM 2147483647 0 l with
    | .ok u => ((u : Int), (n : Int), 0)
    | _ => (0, 0, 3) := by
  simp only [outG]
  rcases parseUintM 2147483647 0 l with u | _ | _ <;> rfl
theorem rdHead_end (s : ByteArray) (n : Nat) (x : Nat) (g : Bool) (k : Nat) (hn : n ≤ s.size) :
    sashref01_Head.j1 (k + 2) s (n : Int) (x : Int) g false = some (finR s n (x, g)) := by
  simp only [sashref01_Head.j1]
  rw [if_neg (by decide)]
  unfold finR
  by_cases h0 : n = 0
  · rw [if_pos (by omega), if_pos (.inl h0)]
    rfl
  · rw [if_neg (by omega)]
    by_cases h1 : 1 < n
    · rw [if_pos (by omega), if_pos (by omega)]
      by_cases h48 : bt s 0 = 48
      · rw [if_pos (.inr ⟨h1, h48⟩)]
        simp only [sashref01_Head.j2]
        rw [if_pos (by simp [h48])]
      · rw [if_neg (by omega)]
        simp only [sashref01_Head.j2]
        rw [if_neg (by simp [h48])]
        cases g <;> rfl
    · rw [if_neg (by omega), if_neg (by omega)]
      simp only [sashref01_Head.j2]
      rw [if_neg (by decide)]
      cases g <;> rfl
theorem outG_step (x : Nat) (g : Bool) (c : UInt8) (hc : 48 ≤ c.toNat ∧ c.toNat ≤ 57) (l : List UInt8) (hx : x ≤ 2147483647) (hg : g = true → x = 2147483647) :
    outG x g (c :: l) = if 2147483647 < x * 10 + (c.toNat - 48) then outG 2147483647 true l else outG (x * 10 + (c.toNat - 48)) g l := by
  cases g with
  | true => split <;> rfl
  | false =>
    have e : parseUintM 2147483647 x (c :: l) = if 2147483647 < x * 10 + (c.toNat - 48) then Lib.NumEnd.range else parseUintM 2147483647 (x * 10 + (c.toNat - 48)) l := by
      show (if 48 ≤ c.toNat ∧ c.toNat ≤ 57 then if 1844674407370955162 ≤ x then Lib.NumEnd.range else if 2147483647 < x * 10 + (c.toNat - 48) then Lib.NumEnd.range else parseUintM 2147483647 (x * 10 + (c.toNat - 48)) l else Lib.NumEnd.syntax) = _
      rw [if_pos hc, if_neg (by omega)]
    simp only [outG]
    rw [e]
    by_cases hov : 2147483647 < x * 10 + (c.toNat - 48)
    · rw [if_pos hov, if_pos hov]
    · rw [if_neg hov, if_neg hov]
theorem rdHead_l0 (s : ByteArray) (hs : s.size ≤ 1000000) (d : Nat) : ∀ (i k x : Nat) (g : Bool), s.size - i = d → i ≤ s.size → 2 * d + 2 < k → x ≤ 2147483647 → (g = true → x = 2147483647) →
    sashref01_Head.l0 k s (i : Int) (x : Int) g = some (finR s (i + ((s.data.toList.drop i).takeWhile isD).length) (outG x g ((s.data.toList.drop i).takeWhile isD))) := by
  induction d with
  | zero =>
    intro i k x g hd hi hk hx hg
    obtain ⟨k, rfl⟩ : ∃ m, k = m + 3 := ⟨k - 3, by omega⟩
    have e : sashref01_Head.l0 (k + 3) s (i : Int) (x : Int) g = sashref01_Head.j1 (k + 2) s (i : Int) (x : Int) g false := by
      rw [show k + 3 = (k + 2) + 1 from rfl, sashref01_Head.l0, if_neg (by omega)]
    rw [e, rdHead_end s i x g k hi, List.drop_eq_nil_of_le (by rw [slen]; omega)]
    have hg0 : outG x g [] = (x, g) := by
      cases g with
      | true => rw [hg rfl]; rfl
      | false => rfl
    rw [List.takeWhile_nil, hg0]
    rfl
  | succ d ih =>
    intro i k x g hd hi hk hx hg
    obtain ⟨k, rfl⟩ : ∃ m, k = m + 3 := ⟨k - 3, by omega⟩
    have hlt : i < s.size := by omega
    have hb : s[i].toNat < 256 := s[i].toNat_lt
    rw [sdrop s i hlt, List.takeWhile_cons]
    by_cases hD : isD s[i] = true
    · have hc := isD_of _ hD
      rw [if_pos hD]
      have e : sashref01_Head.l0 (k + 3) s (i : Int) (x : Int) g = sashref01_Head.j1 (k + 2) s (i : Int) (x : Int) g true := by
        rw [show k + 3 = (k + 2) + 1 from rfl, sashref01_Head.l0, if_pos (by omega), if_pos (by omega), bt_nat s i hlt, if_pos (by omega), decide_eq_true (by omega)]
      have hv : wrap64 ((wrap64 (10 * (x : Int))) + (((s[i].toNat : Int) - 48) % 256)) = ((x * 10 + (s[i].toNat - 48) : Nat) : Int) := by
        have e1 : ((s[i].toNat : Int) - 48) % 256 = (s[i].toNat : Int) - 48 := by omega
        rw [e1, w64b (10 * (x : Int)) (by omega) (by omega), w64b _ (by omega) (by omega)]
        omega
      have e2 : sashref01_Head.j1 (k + 2) s (i : Int) (x : Int) g true = if 2147483647 < x * 10 + (s[i].toNat - 48) then sashref01_Head.l0 (k + 1) s ((i + 1 : Nat) : Int) ((2147483647 : Nat) : Int) true else sashref01_Head.l0 (k + 1) s ((i + 1 : Nat) : Int) ((x * 10 + (s[i].toNat - 48) : Nat) : Int) g := by
        rw [show k + 2 = (k + 1) + 1 from rfl, sashref01_Head.j1, if_pos rfl, if_pos (by omega), if_pos (by omega), bt_nat s i hlt, hv, wr1 i (by omega)]
        by_cases hov : 2147483647 < x * 10 + (s[i].toNat - 48)
        · rw [if_pos hov, if_pos (by omega)]
          rfl
        · rw [if_neg hov, if_neg (by omega)]
      rw [e, e2, outG_step x g s[i] hc _ hx hg, List.length_cons]
      rw [show i + (((s.data.toList.drop (i + 1)).takeWhile isD).length + 1) = i + 1 + ((s.data.toList.drop (i + 1)).takeWhile isD).length from by omega]
      by_cases hov : 2147483647 < x * 10 + (s[i].toNat - 48)
      · rw [if_pos hov, if_pos hov]
        exact ih (i + 1) (k + 1) 2147483647 true (by omega) (by omega) (by omega) (by omega) (fun _ => rfl)
      · rw [if_neg hov, if_neg hov]
        exact ih (i + 1) (k + 1) _ g (by omega) (by omega) (by omega) (by omega) (fun h => by have := hg h; omega)
    · rw [if_neg hD]
      have e : sashref01_Head.l0 (k + 3) s (i : Int) (x : Int) g = sashref01_Head.j1 (k + 2) s (i : Int) (x : Int) g false := by
        rw [show k + 3 = (k + 2) + 1 from rfl, sashref01_Head.l0, if_pos (by omega), if_pos (by omega), bt_nat s i hlt]
        by_cases h48 : 48 ≤ s[i].toNat
        · rw [if_pos (by omega)]
          have h57 : ¬ s[i].toNat ≤ 57 := fun h => hD (by unfold isD; simp [h48, h])
          rw [decide_eq_false (by omega)]
        · rw [if_neg (by omega)]
      rw [e, rdHead_end s i x g k hi]
      have hg0 : outG x g [] = (x, g) := by
        cases g with
        | true => rw [hg rfl]; rfl
        | false => rfl
      rw [hg0]
      rfl
theorem rdHead_pure (s : ByteArray) (hs : s.size ≤ 1000000) (k : Nat) (hk : 2 * s.size + 2 < k) : sashref01_Head.f k s = some (headR s) := by
  unfold sashref01_Head.f
  have h := rdHead_l0 s hs s.size 0 k 0 false (by omega) (by omega) hk (by omega) (fun h => by cases h)
  rw [List.drop_zero, Nat.zero_add] at h
  have h' : sashref01_Head.l0 k s 0 0 false = _ := h
  rw [h']
  congr 1
  show finR s (headL s).length (outG 0 false (headL s)) = headR s
  unfold finR headR
  by_cases h0 : (headL s).length = 0
  · rw [if_pos (.inl h0), if_pos h0]
  · have hle := headL_le s
    have hf := headL_first s (by omega) (by omega)
    have hb : bt s 0 = 48 ↔ (headL s).getD 0 0 = 48 := by
      rw [← hf]
      have e : bt s 0 = ((s[0]'(by omega)).toNat : Int) := bt_nat s 0 (by omega)
      rw [e]
      exact ⟨fun h => (byte48 _).2 (by omega), fun h => by rw [(byte48 _).1 h]; rfl⟩
    rw [if_neg h0]
    by_cases h2 : 1 < (headL s).length ∧ (headL s).getD 0 0 = 48
    · rw [if_pos (.inr ⟨h2.1, hb.2 h2.2⟩), if_pos h2]
    · rw [if_neg h2, if_neg (by rintro (h | h); exact h0 h; exact h2 ⟨h.1, hb.1 h.2⟩)]
      exact finP_out _ _
theorem refHead_calls (s : ByteArray) (hs : s.size ≤ 1000000) (w : World) : Calls Tryz.prog 53 #[.string s] w fun e w' => e = .returned (.tuple #[.int .i64 (headR s).1, .int .i64 (headR s).2.1, .int .i64 (headR s).2.2]) ∧ Drawn0 w w' :=
  sashref01_Head.calls (2 * s.size + 3) s _ _ _ w (rdHead_pure s hs _ (by omega))
end Go.Proofs.YtmcjfnebkpifnaaGreatDoor
