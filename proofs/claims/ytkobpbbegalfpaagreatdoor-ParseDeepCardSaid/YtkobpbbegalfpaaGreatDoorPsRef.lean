/-
  Joined texts: PParseBodiesx12, PxDepth, SuPureP, NumReadP, PsRef.
-/
import Derived.Test.YtkobpbbegalfpaaGreatDoorMac
import Derived.Test.YtkobpbbegalfpaaGreatDoorPParseBodiesx0
import Derived.Test.YtkobpbbegalfpaaGreatDoorPParseBodiesx6
import Derived.Test.YtkobpbbegalfpaaGreatDoorPParseBodiesx10
import Derived.Test.YtkobpbbegalfpaaGreatDoorPParseBodiesx11
import Derived.Test.YtkobpbbegalfpaaGreatDoorPParseBodiesx4
import Derived.Test.YtkobpbbegalfpaaGreatDoorNuErrP
import Derived.Test.YtkobpbbegalfpaaGreatDoorNumPureT
import Derived.Test.YtkobpbbegalfpaaGreatDoorShelf
/- Printed texts of this seat, cut to what is used. -/
namespace Go.Proofs.YtkobpbbegalfpaaGreatDoor.PParseBodies
open Go.RowKit Go.Proofs.YtkobpbbegalfpaaGreatDoorW.PrintWords Go.Proofs.YtkobpbbegalfpaaGreatDoorW.PrintLast Go.Proofs.YtkobpbbegalfpaaGreatDoorW.PrintMore
attribute [local go_sem] max2_int min2_int max_two min_two max_three min_three max_four min_four   -- for this text's walks alone
set_option linter.unusedVariables false
set_option linter.unusedSimpArgs false



def sashref01_Digit.f (a0 : Int) : Option (ByteArray) := if 0 ≤ a0 then (if a0 ≤ (wrap64 (a0 + 1)) then (if (wrap64 (a0 + 1)) ≤ 16 then (some ((⟨#[48, 49, 50, 51, 52, 53, 54, 55, 56, 57, 97, 98, 99, 100, 101, 102]⟩ : ByteArray).extract (a0 : Int).toNat ((wrap64 (a0 + 1)) : Int).toNat)) else (none)) else (none)) else (none)
set_option maxHeartbeats 8000000 in
set_option maxRecDepth 100000 in
theorem sashref01_Digit.calls (a0 : Int) (r : ByteArray) (w : World) (h : sashref01_Digit.f a0 = some r) :
  Calls Tryz.prog 55 #[.int .i64 a0] w fun e w' => e = .returned (.string r) ∧ Drawn0 w w' := by
 have H : (if 0 ≤ a0 then (if a0 ≤ (wrap64 (a0 + 1)) then (if (wrap64 (a0 + 1)) ≤ 16 then (some ((⟨#[48, 49, 50, 51, 52, 53, 54, 55, 56, 57, 97, 98, 99, 100, 101, 102]⟩ : ByteArray).extract (a0 : Int).toNat ((wrap64 (a0 + 1)) : Int).toNat)) else (none)) else (none)) else (none)) = some r := h
 clear h
 by_cases c2 : 0 ≤ a0
 ·rw [if_pos c2] at H
  have c2b0 := eq_true c2
  have c2b1 : decide (0 ≤ a0) = true := decide_eq_true c2
  clear c2
  by_cases c3 : a0 ≤ (wrap64 (a0 + 1))
  ·rw [if_pos c3] at H
   have c3b0 := eq_true c3
   have c3b1 : decide (a0 ≤ (wrap64 (a0 + 1))) = true := decide_eq_true c3
   by_cases c4 : (wrap64 (a0 + 1)) ≤ 16
   ·rw [if_pos c4] at H
    have c4b0 := eq_true c4
    have c4b1 : decide ((wrap64 (a0 + 1)) ≤ 16) = true := decide_eq_true c4
    obtain rfl := Option.some.inj H
    go_enter Tryz.func55, Tryz.ntmps55
    go_wp2
    go_ret
    exact ⟨mq39, mq52⟩
   ·rw [if_neg c4] at H
    exact absurd H (by simp)
  ·rw [if_neg c3] at H
   exact absurd H (by simp)
 ·rw [if_neg c2] at H
  exact absurd H (by simp)






end Go.Proofs.YtkobpbbegalfpaaGreatDoor.PParseBodies

/- Printed texts of this seat, cut to what is used. -/
namespace Go.Proofs.YtkobpbbegalfpaaGreatDoor.PParseBodies
open Go.RowKit Go.Proofs.YtkobpbbegalfpaaGreatDoorW.PrintWords Go.Proofs.YtkobpbbegalfpaaGreatDoorW.PrintLast Go.Proofs.YtkobpbbegalfpaaGreatDoorW.PrintMore
attribute [local go_sem] max2_int min2_int max_two min_two max_three min_three max_four min_four   -- for this text's walks alone
set_option linter.unusedVariables false
set_option linter.unusedSimpArgs false


end Go.Proofs.YtkobpbbegalfpaaGreatDoor.PParseBodies

/- Printed texts of this seat, cut to what is used. -/
namespace Go.Proofs.YtkobpbbegalfpaaGreatDoor
open Go.RowKit Go.Proofs.YtkobpbbegalfpaaGreatDoorW.PrintWords Go.Proofs.YtkobpbbegalfpaaGreatDoorW.PrintLast Go.Proofs.YtkobpbbegalfpaaGreatDoorW.PrintMore Go.Proofs.YtkobpbbegalfpaaGreatDoor.PParseBodies
set_option linter.unusedVariables false

def stepN (n b : Int) : Int := (n / 2 + n % 2 * 32768 + b) % 65536
/-- The sum of bytes, beginning with another one. -/
def sumL : Int → List UInt8 → Int
 | n, [] => n
 | n, b :: r => sumL (stepN n (b.toNat : Int)) r
theorem stepN_range (n b : Int) : 0 ≤ stepN n b ∧ stepN n b < 65536 := by unfold stepN; omega
theorem sumL_range : ∀ (l : List UInt8) (n : Int), 0 ≤ n → n < 65536 → 0 ≤ sumL n l ∧ sumL n l < 65536
 | [], n, h0, h1 => ⟨h0, h1⟩
 | b :: r, n, _, _ => sumL_range r _ (stepN_range _ _).1 (stepN_range _ _).2
theorem sumL_append : ∀ (a b : List UInt8) (n : Int), sumL n (a ++ b) = sumL (sumL n a) b
 | [], _, _ => rfl
 | x :: r, b, n => sumL_append r b _
theorem wrap_u16 (n : Int) : IntKind.u16.wrap n = n % 65536 := by simp [IntKind.wrap, IntKind.bits, IntKind.signed]

theorem rot_eq (n : Int) (h0 : 0 ≤ n) (h1 : n < 65536) : bits_RotateLeft16.f n (-1) = some (n / 2 + n % 2 * 32768) := by
 have e : Go.bits .and .u64 (IntKind.u64.wrap (-1)) 15 = 15 := by kernel_rfl
 have e2 : IntKind.u64.wrap (16 - 15) = 1 := by kernel_rfl
 unfold bits_RotateLeft16.f
 rw [e, e2, if_pos (by decide), if_pos (by decide)]
 have es : shl .u16 n 15 = n % 2 * 32768 := by
  unfold shl
  rw [wrap_u16, show min ((15 : Int)).toNat IntKind.u16.bits = 15 from rfl]
  omega
 have er : shr .u16 n 1 = n / 2 := by
  unfold shr
  rw [show min ((1 : Int)).toNat IntKind.u16.bits = 1 from rfl]
  omega
 rw [es, er, bits_join .u16 16 (by decide) (fun n h0 h1 => by rw [wrap_u16]; omega) 15 (n % 2 * 32768) (n / 2) (by omega) (by omega) (by omega) (by omega) (by omega) (by omega)]
 congr 1
 omega

theorem bt_nat (s : ByteArray) (i : Nat) (h : i < s.size) : bt s (i : Int) = (s[i].toNat : Int) := by
 unfold bt
 rw [dif_pos (by simpa using h)]
 rfl
theorem sdrop (s : ByteArray) (pos : Nat) (h : pos < s.size) : s.data.toList.drop pos = s[pos] :: s.data.toList.drop (pos + 1) := by
 have hl : pos < s.data.toList.length := by simpa using h
 rw [List.drop_eq_getElem_cons hl]
 rfl
theorem slen (s : ByteArray) : s.data.toList.length = s.size := by simp
theorem wr1 (i : Nat) (h : i < 9223372036854775807) : wrap64 ((i : Int) + 1) = ((i + 1 : Nat) : Int) := by unfold wrap64; omega

theorem from_l1 (s : ByteArray) (l : List ByteArray) (ln j : Int) (hs : s.size ≤ 9223372036854775806) (d : Nat) : ∀ (i k : Nat) (n : Int), s.size - i = d → i ≤ s.size → d < k → 0 ≤ n → n < 65536 →
  sum_From.l1 k n s l ln j (s.size : Int) (i : Int) = sum_From.l0 (k - d - 1) (sumL n (s.data.toList.drop i)) l ln (wrap64 (j + 1)) := by
 induction d with
 | zero =>
  intro i k n hd hi hk h0 h1
  obtain ⟨k, rfl⟩ : ∃ m, k = m + 1 := ⟨k - 1, by omega⟩
  simp only [sum_From.l1]
  rw [if_neg (by omega), List.drop_eq_nil_of_le (by rw [slen]; omega)]
  rfl
 | succ d ih =>
  intro i k n hd hi hk h0 h1
  obtain ⟨k, rfl⟩ : ∃ m, k = m + 1 := ⟨k - 1, by omega⟩
  have hlt : i < s.size := by omega
  have hb : s[i].toNat < 256 := s[i].toNat_lt
  have eS : IntKind.u16.wrap (n / 2 + n % 2 * 32768 + IntKind.u16.wrap (s[i].toNat : Int)) = stepN n (s[i].toNat : Int) := by
   rw [wrap_u16, wrap_u16]; unfold stepN; omega
  simp only [sum_From.l1]
  rw [if_pos (by omega), rot_eq n h0 h1]
  simp only [Option.bind_some]
  rw [if_pos (by omega), if_pos (by omega), bt_nat s i hlt, eS, wr1 i (by omega), sdrop s i hlt]
  have hr := stepN_range n (s[i].toNat : Int)
  rw [ih (i + 1) k _ (by omega) (by omega) (by omega) hr.1 hr.2]
  rw [show k + 1 - (d + 1) - 1 = k - d - 1 from by omega]
  rfl

/-- All bytes. -/
def allB (l : List ByteArray) : List UInt8 := (l.map (·.data.toList)).flatten
theorem from_l0 (l : List ByteArray) (hl : l.length ≤ 9223372036854775807) (hs : ∀ x ∈ l, x.size ≤ 9223372036854775806) (d : Nat) : ∀ (j k : Nat) (n : Int), l.length - j = d → j ≤ l.length → (allB (l.drop j)).length + 2 * d < k → 0 ≤ n → n < 65536 →
  sum_From.l0 k n l (l.length : Int) (j : Int) = some (sumL n (allB (l.drop j))) := by
 induction d with
 | zero =>
  intro j k n hd hj hk h0 h1
  obtain ⟨k, rfl⟩ : ∃ m, k = m + 1 := ⟨k - 1, by omega⟩
  simp only [sum_From.l0]
  rw [if_neg (by omega), List.drop_eq_nil_of_le (by omega)]
  rfl
 | succ d ih =>
  intro j k n hd hj hk h0 h1
  obtain ⟨k, rfl⟩ : ∃ m, k = m + 1 := ⟨k - 1, by omega⟩
  have hlt : j < l.length := by omega
  have hc : l.drop j = l[j] :: l.drop (j + 1) := List.drop_eq_getElem_cons hlt
  have hrd : rdOf ByteArray.empty l (j : Int) = l[j] := by
   unfold rdOf
   rw [Int.toNat_natCast, List.getD_eq_getElem?_getD, List.getElem?_eq_getElem hlt]
   rfl
  have hB : allB (l.drop j) = l[j].data.toList ++ allB (l.drop (j + 1)) := by rw [hc]; rfl
  have hbl : (allB (l.drop j)).length = l[j].size + (allB (l.drop (j + 1))).length := by rw [hB, List.length_append, slen]
  simp only [sum_From.l0]
  rw [if_pos (by omega), if_pos (by omega), if_pos (by omega), hrd]
  have h := from_l1 l[j] l (l.length : Int) (j : Int) (hs _ (List.getElem_mem hlt)) l[j].size 0 k n (by omega) (by omega) (by omega) h0 h1
  rw [show ((0 : Nat) : Int) = 0 from rfl] at h
  rw [h, wr1 j (by omega)]
  have hr := sumL_range (l[j].data.toList.drop 0) n h0 h1
  rw [ih (j + 1) _ _ (by omega) (by omega) (by omega) hr.1 hr.2, hB, sumL_append, List.drop_zero]

theorem from_pure (c : Int) (h0 : 0 ≤ c) (h1 : c < 65536) (l : List ByteArray) (hl : l.length ≤ 9223372036854775807) (hs : ∀ x ∈ l, x.size ≤ 9223372036854775806) : ∃ k, sum_From.f k c l = some (sumL c (allB l)) := by
 refine ⟨(allB l).length + 2 * l.length + 1, ?_⟩
 unfold sum_From.f
 have h := from_l0 l hl hs l.length 0 ((allB l).length + 2 * l.length + 1) c (by omega) (by omega) (by rw [List.drop_zero]; omega) h0 h1
 rw [List.drop_zero] at h
 exact h
theorem of_pure (l : List ByteArray) (hl : l.length ≤ 9223372036854775807) (hs : ∀ x ∈ l, x.size ≤ 9223372036854775806) : ∃ k, sum_Of.f k l = some (sumL 0 (allB l)) := by
 obtain ⟨k, hk⟩ := from_pure 0 (by omega) (by omega) l hl hs
 exact ⟨k, by unfold sum_Of.f; rw [hk]; rfl⟩

end Go.Proofs.YtkobpbbegalfpaaGreatDoor

/- Printed texts of this seat, cut to what is used. -/
namespace Go.Proofs.YtkobpbbegalfpaaGreatDoor
open Go.RowKit Go.Proofs.YtkobpbbegalfpaaGreatDoorW.PrintWords Go.Proofs.YtkobpbbegalfpaaGreatDoorW.PrintLast Go.Proofs.YtkobpbbegalfpaaGreatDoorW.PrintMore Go.Proofs.YtkobpbbegalfpaaGreatDoor.PParseBodies
open Go.Lib (parseUintM)
set_option linter.unusedVariables false

theorem w64b (x : Int) (h0 : 0 ≤ x) (h1 : x ≤ 99999999999) : wrap64 x = x := by unfold wrap64; omega
/-- The outcome behind digits: the number, and whether it is too great. -/
def outG (x : Nat) : Bool → List UInt8 → Nat × Bool
 | true, _ => (2147483647, true)
 | false, l => match parseUintM 2147483647 x l with
  | .ok u => (u, false)
  | _ => (2147483647, true)
def finP (n x : Nat) : Bool → Int × Int × Int
 | true => (0, 0, 3)
 | false => ((x : Int), (n : Int), 0)
def finR (s : ByteArray) (n : Nat) (r : Nat × Bool) : Int × Int × Int := if n = 0 ∨ (1 < n ∧ bt s 0 = 48) then (0, 0, 2) else finP n r.1 r.2
theorem finP_out (n : Nat) (l : List UInt8) : finP n (outG 0 false l).1 (outG 0 false l).2 = match parseUintM 2147483647 0 l with
  | .ok u => ((u : Int), (n : Int), 0)
  | _ => (0, 0, 3) := by
 simp only [outG]
 rcases parseUintM 2147483647 0 l with u | _ | _ <;> rfl
theorem rdHead_end (s : ByteArray) (n : Nat) (x : Nat) (g : Bool) (k : Nat) (hn : n ≤ s.size) :
  sashref01_Head.j1 (k + 2) s (n : Int) (x : Int) g false = some (finR s n (x, g)) := by
 simp only [sashref01_Head.j1]
 rw [if_neg (by decide)]
 unfold finR
 by_cases h0 : n = 0
 ·rw [if_pos (by omega), if_pos (.inl h0)]
  rfl
 ·rw [if_neg (by omega)]
  by_cases h1 : 1 < n
  ·rw [if_pos (by omega), if_pos (by omega)]
   by_cases h48 : bt s 0 = 48
   ·rw [if_pos (.inr ⟨h1, h48⟩)]
    simp only [sashref01_Head.j2]
    rw [if_pos (by simp [h48])]
   ·rw [if_neg (by omega)]
    simp only [sashref01_Head.j2]
    rw [if_neg (by simp [h48])]
    cases g <;> rfl
  ·rw [if_neg (by omega), if_neg (by omega)]
   simp only [sashref01_Head.j2]
   rw [if_neg (by decide)]
   cases g <;> rfl
theorem outG_step (x : Nat) (g : Bool) (c : UInt8) (hc : 48 ≤ c.toNat ∧ c.toNat ≤ 57) (l : List UInt8) (hx : x ≤ 2147483647) (hg : g = true → x = 2147483647) :
  outG x g (c :: l) = if 2147483647 < x * 10 + (c.toNat - 48) then outG 2147483647 true l else outG (x * 10 + (c.toNat - 48)) g l := by
 cases g with
 | true => split <;> rfl
 | false =>
  have e : parseUintM 2147483647 x (c :: l) = if 2147483647 < x * 10 + (c.toNat - 48) then Lib.NumEnd.range else parseUintM 2147483647 (x * 10 + (c.toNat - 48)) l := by
   show (if 48 ≤ c.toNat ∧ c.toNat ≤ 57 then if 1844674407370955162 ≤ x then Lib.NumEnd.range else if 2147483647 < x * 10 + (c.toNat - 48) then Lib.NumEnd.range else parseUintM 2147483647 (x * 10 + (c.toNat - 48)) l else Lib.NumEnd.syntax) = _
   rw [if_pos hc, if_neg (by omega)]
  simp only [outG]
  rw [e]
  by_cases hov : 2147483647 < x * 10 + (c.toNat - 48)
  ·rw [if_pos hov, if_pos hov]
  ·rw [if_neg hov, if_neg hov]
theorem rdHead_l0 (s : ByteArray) (hs : s.size ≤ 1000000) (d : Nat) : ∀ (i k x : Nat) (g : Bool), s.size - i = d → i ≤ s.size → 2 * d + 2 < k → x ≤ 2147483647 → (g = true → x = 2147483647) →
  sashref01_Head.l0 k s (i : Int) (x : Int) g = some (finR s (i + ((s.data.toList.drop i).takeWhile isD).length) (outG x g ((s.data.toList.drop i).takeWhile isD))) := by
 induction d with
 | zero =>
  intro i k x g hd hi hk hx hg
  obtain ⟨k, rfl⟩ : ∃ m, k = m + 3 := ⟨k - 3, by omega⟩
  have e : sashref01_Head.l0 (k + 3) s (i : Int) (x : Int) g = sashref01_Head.j1 (k + 2) s (i : Int) (x : Int) g false := by
   rw [show k + 3 = (k + 2) + 1 from rfl, sashref01_Head.l0, if_neg (by omega)]
  rw [e, rdHead_end s i x g k hi, List.drop_eq_nil_of_le (by rw [slen]; omega)]
  have hg0 : outG x g [] = (x, g) := by
   cases g with
   | true => rw [hg rfl]; rfl
   | false => rfl
  rw [List.takeWhile_nil, hg0]
  rfl
 | succ d ih =>
  intro i k x g hd hi hk hx hg
  obtain ⟨k, rfl⟩ : ∃ m, k = m + 3 := ⟨k - 3, by omega⟩
  have hlt : i < s.size := by omega
  have hb : s[i].toNat < 256 := s[i].toNat_lt
  rw [sdrop s i hlt, List.takeWhile_cons]
  by_cases hD : isD s[i] = true
  ·have hc := isD_of _ hD
   rw [if_pos hD]
   have e : sashref01_Head.l0 (k + 3) s (i : Int) (x : Int) g = sashref01_Head.j1 (k + 2) s (i : Int) (x : Int) g true := by
    rw [show k + 3 = (k + 2) + 1 from rfl, sashref01_Head.l0, if_pos (by omega), if_pos (by omega), bt_nat s i hlt, if_pos (by omega), decide_eq_true (by omega)]
   have hv : wrap64 ((wrap64 (10 * (x : Int))) + (((s[i].toNat : Int) - 48) % 256)) = ((x * 10 + (s[i].toNat - 48) : Nat) : Int) := by
    have e1 : ((s[i].toNat : Int) - 48) % 256 = (s[i].toNat : Int) - 48 := by omega
    rw [e1, w64b (10 * (x : Int)) (by omega) (by omega), w64b _ (by omega) (by omega)]
    omega
   have e2 : sashref01_Head.j1 (k + 2) s (i : Int) (x : Int) g true = if 2147483647 < x * 10 + (s[i].toNat - 48) then sashref01_Head.l0 (k + 1) s ((i + 1 : Nat) : Int) ((2147483647 : Nat) : Int) true else sashref01_Head.l0 (k + 1) s ((i + 1 : Nat) : Int) ((x * 10 + (s[i].toNat - 48) : Nat) : Int) g := by
    rw [show k + 2 = (k + 1) + 1 from rfl, sashref01_Head.j1, if_pos rfl, if_pos (by omega), if_pos (by omega), bt_nat s i hlt, hv, wr1 i (by omega)]
    by_cases hov : 2147483647 < x * 10 + (s[i].toNat - 48)
    ·rw [if_pos hov, if_pos (by omega)]
     rfl
    ·rw [if_neg hov, if_neg (by omega)]
   rw [e, e2, outG_step x g s[i] hc _ hx hg, List.length_cons]
   rw [show i + (((s.data.toList.drop (i + 1)).takeWhile isD).length + 1) = i + 1 + ((s.data.toList.drop (i + 1)).takeWhile isD).length from by omega]
   by_cases hov : 2147483647 < x * 10 + (s[i].toNat - 48)
   ·rw [if_pos hov, if_pos hov]
    exact ih (i + 1) (k + 1) 2147483647 true (by omega) (by omega) (by omega) (by omega) (fun _ => rfl)
   ·rw [if_neg hov, if_neg hov]
    exact ih (i + 1) (k + 1) _ g (by omega) (by omega) (by omega) (by omega) (fun h => by have := hg h; omega)
  ·rw [if_neg hD]
   have e : sashref01_Head.l0 (k + 3) s (i : Int) (x : Int) g = sashref01_Head.j1 (k + 2) s (i : Int) (x : Int) g false := by
    rw [show k + 3 = (k + 2) + 1 from rfl, sashref01_Head.l0, if_pos (by omega), if_pos (by omega), bt_nat s i hlt]
    by_cases h48 : 48 ≤ s[i].toNat
    ·rw [if_pos (by omega)]
     have h57 : ¬ s[i].toNat ≤ 57 := fun h => hD (by unfold isD; simp [h48, h])
     rw [decide_eq_false (by omega)]
    ·rw [if_neg (by omega)]
   rw [e, rdHead_end s i x g k hi]
   have hg0 : outG x g [] = (x, g) := by
    cases g with
    | true => rw [hg rfl]; rfl
    | false => rfl
   rw [hg0]
   rfl
theorem rdHead_pure (s : ByteArray) (hs : s.size ≤ 1000000) (k : Nat) (hk : 2 * s.size + 2 < k) : sashref01_Head.f k s = some (headR s) := by
 unfold sashref01_Head.f
 have h := rdHead_l0 s hs s.size 0 k 0 false (by omega) (by omega) hk (by omega) (fun h => by cases h)
 rw [List.drop_zero, Nat.zero_add] at h
 have h' : sashref01_Head.l0 k s 0 0 false = _ := h
 rw [h']
 congr 1
 show finR s (headL s).length (outG 0 false (headL s)) = headR s
 unfold finR headR
 by_cases h0 : (headL s).length = 0
 ·rw [if_pos (.inl h0), if_pos h0]
 ·have hle := headL_le s
  have hf := headL_first s (by omega) (by omega)
  have hb : bt s 0 = 48 ↔ (headL s).getD 0 0 = 48 := by
   rw [← hf]
   have e : bt s 0 = ((s[0]'(by omega)).toNat : Int) := bt_nat s 0 (by omega)
   rw [e]
   exact ⟨fun h => (byte48 _).2 (by omega), fun h => by rw [(byte48 _).1 h]; rfl⟩
  rw [if_neg h0]
  by_cases h2 : 1 < (headL s).length ∧ (headL s).getD 0 0 = 48
  ·rw [if_pos (.inr ⟨h2.1, hb.2 h2.2⟩), if_pos h2]
  ·rw [if_neg h2, if_neg (by rintro (h | h); exact h0 h; exact h2 ⟨h.1, hb.1 h.2⟩)]
   exact finP_out _ _
end Go.Proofs.YtkobpbbegalfpaaGreatDoor

/-
 The document's parser and the code's reader: one answer. Pure.
-/
namespace Go.Proofs.YtkobpbbegalfpaaGreatDoor
open Go.RowKit Go.Proofs.YtkobpbbegalfpaaGreatDoorW.PrintWords Go.Proofs.YtkobpbbegalfpaaGreatDoorW.PrintLast Go.Proofs.YtkobpbbegalfpaaGreatDoorW.PrintMore Go.Proofs.YtkobpbbegalfpaaGreatDoor.PParseBodies
set_option linter.unusedVariables false
set_option linter.unusedSimpArgs false

theorem headB_R : HeadB headR := ⟨headB_headR⟩
abbrev RT := Int × Int × Int × Int × Int × Int × (List SC) × Int × Int × Int
def badT (q : Int × Nat) : RT := (0, 0, 0, 0, 0, 0, [], 0, q.1, (q.2 : Int))
def okT (c : SC) (j : Nat) : RT := (c.f0, c.f1.f0, c.f1.f1, c.f1.f2, c.f1.f3, c.f2, c.f3, (j : Int), 0, 0)
def cellT : Except (Int × Nat) (SC × Nat) → RT
 | .error q => badT q
 | .ok p => okT p.1 p.2
def onR {α : Type} (r : Except (Int × Nat) α) (K : α → Option RT) : Option RT := match r with
 | .error q => some (badT q)
 | .ok p => K p
theorem is_f (s : ByteArray) (i : Nat) (c : Int) (hc : ¬ c = 0) : sashref11_is.f s (i : Int) c = some (decide (aheadI s i = c)) := by
 unfold sashref11_is.f aheadI
 by_cases h : i < s.size
 ·rw [if_pos (by omega), if_pos (by omega), dif_pos h, bt_nat s i h]
  congr 1
 ·rw [if_neg (by omega), dif_neg h]
  congr 1
  symm
  exact decide_eq_false (fun h => hc h.symm)
theorem bad_f (e : Int) (i : Nat) : sashref11_bad.f e (i : Int) = some (badT (e, i)) := rfl
theorem wadd (i : Nat) (n : Int) (hi : i ≤ 1000000) (h0 : 0 ≤ n) (h1 : n ≤ 1000000) : wrap64 ((i : Int) + n) = ((i + n.toNat : Nat) : Int) := by unfold wrap64; omega
theorem winc (i : Nat) (hi : i ≤ 1000000) : wrap64 ((i : Int) + 1) = ((i + 1 : Nat) : Int) := by unfold wrap64; omega
theorem j2_eq (k : Nat) (s : ByteArray) (hs : s.size ≤ 100000) (i : Nat) (hi : i ≤ s.size) (hk : 2 * s.size + 2 < k) (deep x8 a b c d e f : Int) (h8 : 0 ≤ x8 ∧ x8 < 4) :
  sashref11_cell.j2 (k + 1) s (i : Int) deep x8 a b c d e f = onR (numP headR s i) fun p =>
   sashref11_cell.l0 k s (p.2 : Int) deep (x8 + 1) a (if x8 = 2 then p.1 else b) (if x8 = 3 then p.1 else c) (if x8 = 0 then p.1 else d) (if x8 = 1 then p.1 else e) f := by
 have hz : (s.extract i s.size).size ≤ s.size := by rw [ByteArray.size_extract]; omega
 have hH := rdHead_pure (s.extract i s.size) (by omega) k (by omega)
 have hB := headB_headR (s.extract i s.size)
 have ht : (((i : Int)).toNat) = i := rfl
 simp only [sashref11_cell.j2]
 rw [if_pos (by omega), if_pos (by omega), ht, hH]
 simp only [Option.bind_some]
 have hw8 : wrap64 (x8 + 1) = x8 + 1 := by unfold wrap64; omega
 unfold numP onR
 by_cases he : (headR (s.extract i s.size)).2.2 = 0
 ·rw [if_pos he, if_pos he, hw8, wadd i _ (by omega) hB.1 (by omega)]
  simp only
  by_cases c0 : x8 = 0
  ·subst c0; simp
  ·rw [if_neg c0]
   by_cases c1 : x8 = 1
   ·subst c1; simp
   ·rw [if_neg c1]
    by_cases c2 : x8 = 2
    ·subst c2; simp
    ·rw [if_neg c2]
     have c3 : x8 = 3 := by omega
     subst c3; simp
 ·rw [if_neg he, if_neg he, bad_f]
  rfl
theorem l0_0 (k : Nat) (s : ByteArray) (hs : s.size ≤ 100000) (i : Nat) (hi : i ≤ s.size) (hk : 2 * s.size + 2 < k) (deep a b c d e f : Int) :
  sashref11_cell.l0 (k + 3) s (i : Int) deep 0 a b c d e f = onR (numP headR s i) fun p => sashref11_cell.l0 k s (p.2 : Int) deep 1 a b c p.1 e f := by
 rw [sashref11_cell.l0, if_pos (by decide), if_neg (by decide), if_neg (by decide), sashref11_cell.j1, if_neg (by decide), if_neg (by decide), j2_eq k s hs i hi hk _ _ _ _ _ _ _ _ (by decide)]
 rfl
theorem sep_eq (k : Nat) (s : ByteArray) (hs : s.size ≤ 100000) (i : Nat) (hi : i ≤ s.size) (hk : 2 * s.size + 2 < k) (x8 ch deep a b c d e f : Int) (h8 : 1 ≤ x8 ∧ x8 < 4) (hch : ¬ ch = 0) :
  sashref11_cell.j1 (k + 2) s (i : Int) deep x8 (!decide (aheadI s i = ch)) a b c d e f = onR (eatP s i ch) fun q => onR (numP headR s q) fun p =>
   sashref11_cell.l0 k s (p.2 : Int) deep (x8 + 1) a (if x8 = 2 then p.1 else b) (if x8 = 3 then p.1 else c) (if x8 = 0 then p.1 else d) (if x8 = 1 then p.1 else e) f := by
 rw [sashref11_cell.j1]
 unfold eatP
 by_cases h : aheadI s i = ch
 ·have hl := aheadI_lt hch h
  rw [if_pos h, if_neg (by simp [h]), if_pos (by omega), winc i (by omega), j2_eq k s hs (i + 1) (by omega) hk _ _ _ _ _ _ _ _ (by omega)]
  rfl
 ·rw [if_neg h, if_pos (by simp [h]), bad_f]
  rfl
theorem l0_1 (k : Nat) (s : ByteArray) (hs : s.size ≤ 100000) (i : Nat) (hi : i ≤ s.size) (hk : 2 * s.size + 2 < k) (deep a b c d e f : Int) :
  sashref11_cell.l0 (k + 3) s (i : Int) deep 1 a b c d e f = onR (eatP s i 120) fun q => onR (numP headR s q) fun p => sashref11_cell.l0 k s (p.2 : Int) deep 2 a b c d p.1 f := by
 have h := sep_eq k s hs i hi hk 1 120 deep a b c d e f (by decide) (by decide)
 rw [sashref11_cell.l0, if_pos (by decide), if_pos (by decide), is_f s i 120 (by decide), Option.bind_some]
 have e : (if decide (aheadI s i = 120) = true then (if (1 : Int) > 1 then ((sashref11_is.f s (i : Int) 44).bind fun t290 => (sashref11_cell.j1 (k + 2) s (i : Int) deep 1 (!t290) a b c d e f)) else (sashref11_cell.j1 (k + 2) s (i : Int) deep 1 false a b c d e f)) else (sashref11_cell.j1 (k + 2) s (i : Int) deep 1 true a b c d e f)) = sashref11_cell.j1 (k + 2) s (i : Int) deep 1 (!decide (aheadI s i = 120)) a b c d e f := by
  by_cases h : aheadI s i = 120
  ·rw [if_pos (by simp [h]), if_neg (by decide), decide_eq_true h]; rfl
  ·rw [if_neg (by simp [h]), decide_eq_false h]; rfl
 rw [e, h]
 rfl
theorem l0_2 (k : Nat) (s : ByteArray) (hs : s.size ≤ 100000) (i : Nat) (hi : i ≤ s.size) (hk : 2 * s.size + 2 < k) (deep a b c d e f : Int) :
  sashref11_cell.l0 (k + 3) s (i : Int) deep 2 a b c d e f = onR (eatP s i 44) fun q => onR (numP headR s q) fun p => sashref11_cell.l0 k s (p.2 : Int) deep 3 a p.1 c d e f := by
 have h := sep_eq k s hs i hi hk 2 44 deep a b c d e f (by decide) (by decide)
 rw [sashref11_cell.l0, if_pos (by decide), if_neg (by decide), if_pos (by decide), is_f s i 44 (by decide), Option.bind_some, h]
 rfl
theorem l0_3 (k : Nat) (s : ByteArray) (hs : s.size ≤ 100000) (i : Nat) (hi : i ≤ s.size) (hk : 2 * s.size + 2 < k) (deep a b c d e f : Int) :
  sashref11_cell.l0 (k + 3) s (i : Int) deep 3 a b c d e f = onR (eatP s i 44) fun q => onR (numP headR s q) fun p => sashref11_cell.l0 k s (p.2 : Int) deep 4 a b p.1 d e f := by
 have h := sep_eq k s hs i hi hk 3 44 deep a b c d e f (by decide) (by decide)
 rw [sashref11_cell.l0, if_pos (by decide), if_neg (by decide), if_pos (by decide), is_f s i 44 (by decide), Option.bind_some, h]
 rfl
theorem rect_eq (k : Nat) (s : ByteArray) (hs : s.size ≤ 100000) (i : Nat) (hi : i ≤ s.size) (hk : 2 * s.size + 2 < k) (deep : Int) :
  sashref11_cell.l0 (k + 12) s (i : Int) deep 0 0 0 0 0 0 0 = onR (rectP headR s i) fun r => sashref11_cell.l0 k s (r.2 : Int) deep 4 0 r.1.1 r.1.2.1 r.1.2.2.1 r.1.2.2.2 0 := by
 rw [l0_0 (k + 9) s hs i hi (by omega)]
 unfold rectP
 cases h0 : numP headR s i with
 | error q => rfl
 | ok p0 =>
  have g0 := numP_le headB_R hi h0
  show sashref11_cell.l0 (k + 9) s (p0.2 : Int) deep 1 0 0 0 p0.1 0 0 = _
  rw [l0_1 (k + 6) s hs p0.2 g0 (by omega)]
  cases h1 : eatP s p0.2 120 with
  | error q => simp only [bind, Except.bind, h1]; rfl
  | ok a1 =>
   obtain ⟨e1, l1, _⟩ := eatP_le (by decide) h1
   simp only [bind, Except.bind, h1, onR]
   cases h2 : numP headR s a1 with
   | error q => rfl
   | ok p2 =>
    have g2 := numP_le headB_R (by omega) h2
    simp only
    rw [l0_2 (k + 3) s hs p2.2 g2 (by omega)]
    cases h3 : eatP s p2.2 44 with
    | error q => rfl
    | ok a3 =>
     obtain ⟨e3, l3, _⟩ := eatP_le (by decide) h3
     simp only [onR]
     cases h4 : numP headR s a3 with
     | error q => rfl
     | ok p4 =>
      have g4 := numP_le headB_R (by omega) h4
      simp only
      rw [l0_3 k s hs p4.2 g4 (by omega)]
      cases h5 : eatP s p4.2 44 with
      | error q => rfl
      | ok a5 =>
       simp only [onR]
       cases h6 : numP headR s a5 with
       | error q => rfl
       | ok p6 => rfl
end Go.Proofs.YtkobpbbegalfpaaGreatDoor
