/-
  Joined texts: PParseBodiesx12, PxDepth, SuPureP, NumReadP.
-/
import Derived.Test.YtkobpbbegalfpaaGreatDoorMac
import Derived.Test.YtkobpbbegalfpaaGreatDoorPParseBodiesx0
import Derived.Test.YtkobpbbegalfpaaGreatDoorPParseBodiesx6
import Derived.Test.YtkobpbbegalfpaaGreatDoorPParseBodiesx10
import Derived.Test.YtkobpbbegalfpaaGreatDoorPParseBodiesx11
import Derived.Test.YtkobpbbegalfpaaGreatDoorPParseBodiesx4
import Derived.Test.YtkobpbbegalfpaaGreatDoorNuUint
import Derived.Test.YtkobpbbegalfpaaGreatDoorNumPureT
/- Printed texts of this seat, cut to what is used. -/
namespace Go.Proofs.YtkobpbbegalfpaaGreatDoor.PParseBodies
open Go.RowKit Go.Proofs.YtkobpbbegalfpaaGreatDoorW.PrintWords Go.Proofs.YtkobpbbegalfpaaGreatDoorW.PrintLast Go.Proofs.YtkobpbbegalfpaaGreatDoorW.PrintMore
attribute [local go_sem] max2_int min2_int max_two min_two max_three min_three max_four min_four   -- for this text's walks alone
set_option linter.unusedVariables false
set_option linter.unusedSimpArgs false



def sashref01_Digit.f (a0 : Int) : Option (ByteArray) := if 0 ≤ a0 then (if a0 ≤ (wrap64 (a0 + 1)) then (if (wrap64 (a0 + 1)) ≤ 16 then (some ((⟨#[48, 49, 50, 51, 52, 53, 54, 55, 56, 57, 97, 98, 99, 100, 101, 102]⟩ : ByteArray).extract (a0 : Int).toNat ((wrap64 (a0 + 1)) : Int).toNat)) else (none)) else (none)) else (none)
set_option maxHeartbeats 8000000 in
set_option maxRecDepth 100000 in
theorem sashref01_Digit.calls (a0 : Int) (r : ByteArray) (w : World) (h : sashref01_Digit.f a0 = some r) :
  Calls Tryz.prog 55 #[.int .i64 a0] w fun e w' => e = .returned (.string r) ∧ Drawn0 w w' := by
 have H : (if 0 ≤ a0 then (if a0 ≤ (wrap64 (a0 + 1)) then (if (wrap64 (a0 + 1)) ≤ 16 then (some ((⟨#[48, 49, 50, 51, 52, 53, 54, 55, 56, 57, 97, 98, 99, 100, 101, 102]⟩ : ByteArray).extract (a0 : Int).toNat ((wrap64 (a0 + 1)) : Int).toNat)) else (none)) else (none)) else (none)) = some r := h
 clear h
 by_cases c2 : 0 ≤ a0
 ·rw [if_pos c2] at H
  have c2b0 := eq_true c2
  have c2b1 : decide (0 ≤ a0) = true := decide_eq_true c2
  clear c2
  by_cases c3 : a0 ≤ (wrap64 (a0 + 1))
  ·rw [if_pos c3] at H
   have c3b0 := eq_true c3
   have c3b1 : decide (a0 ≤ (wrap64 (a0 + 1))) = true := decide_eq_true c3
   by_cases c4 : (wrap64 (a0 + 1)) ≤ 16
   ·rw [if_pos c4] at H
    have c4b0 := eq_true c4
    have c4b1 : decide ((wrap64 (a0 + 1)) ≤ 16) = true := decide_eq_true c4
    obtain rfl := Option.some.inj H
    go_enter Tryz.func55, Tryz.ntmps55
    go_wp2
    go_ret
    exact ⟨mq39, mq52⟩
   ·rw [if_neg c4] at H
    exact absurd H (by simp)
  ·rw [if_neg c3] at H
   exact absurd H (by simp)
 ·rw [if_neg c2] at H
  exact absurd H (by simp)


def sashref02_From.l0 : Nat → ByteArray → Int → Int → Option (Int)
 | 0, _, _, _ => none
 | k + 1, x1, x5, x6 => if x6 < (x1.size : Int) then (if 0 ≤ x6 then (sashref02_From.l0 k x1 (Int.tmod (wrap64 ((wrap64 ((wrap64 (Int.tdiv x5 2)) + (wrap64 ((Int.tmod x5 2) * 32768)))) + (wrap64 (bt x1 x6)))) 65536) (wrap64 (x6 + 1))) else (none)) else (some (IntKind.u16.wrap (x5)))
def sashref02_From.f (k : Nat) (a0 : Int) (a1 : ByteArray) : Option (Int) := sashref02_From.l0 k a1 (wrap64 (a0)) 0
set_option maxHeartbeats 8000000 in
set_option maxRecDepth 100000 in
theorem sashref02_From.calls (k : Nat) (a0 : Int) (a1 : ByteArray) (r : Int) (w : World) (h : sashref02_From.f k a0 a1 = some r) :
  Calls Tryz.prog 31 #[.int .u16 a0, .string a1] w fun e w' => e = .returned (.int .u16 r) ∧ Drawn0 w w' := by
 have H : (sashref02_From.l0 k a1 (wrap64 (a0)) 0) = some r := h
 clear h
 have H' := Aside0.mk H
 clear H
 go_enter Tryz.func31, Tryz.ntmps31
 go_wp2
 go_loopg [5, 6] k (fun kq v5 v6 w' => ∃ (x5_1 : Int) (x6_1 : Int), v5 = .int .i64 x5_1 ∧ v6 = .int .i64 x6_1 ∧ Aside0 (sashref02_From.l0 kq a1 x5_1 x6_1 = some r) ∧ Aside0 (kq ≤ k) ∧ Drawn0 w w')
 case atStart => exact ⟨(wrap64 (a0)), (0), mq39, mq39, H', ⟨Nat.le_refl _⟩, mq52⟩
 case round =>
  clear H'
  obtain ⟨x5_1, x6_1, rfl, rfl, HA, HK1, ⟨m1, rfl⟩⟩ := hrel
  cases gk with
  | zero => exact absurd HA.out (by simp [sashref02_From.l0])
  | succ k1 =>
   have H := HA.out
   clear HA
   simp only [sashref02_From.l0] at H
   by_cases c3 : x6_1 < (a1.size : Int)
   ·rw [if_pos c3] at H
    have c3b0 : decide (x6_1 < (a1.size : Int)) = true := decide_eq_true c3
    clear c3
    by_cases c4 : 0 ≤ x6_1
    ·rw [if_pos c4] at H
     have c4b0 : decide (0 ≤ x6_1) = true := decide_eq_true c4
     clear c4
     have H' := Aside0.mk H
     clear H
     have p5 : 0 ≤ (x6_1 : Int) := of_decide_eq_true mq34
     have q5 : x6_1 < (a1.size : Int) := of_decide_eq_true mq34
     have hx5 := bt_at a1 x6_1
     replace p5 := eq_true p5
     replace q5 := eq_true q5
     go_wp2
     go_roundg k1
     case measure => have := HK1.out; omega
     case rel => exact ⟨(Int.tmod (wrap64 ((wrap64 ((wrap64 (Int.tdiv x5_1 2)) + (wrap64 ((Int.tmod x5_1 2) * 32768)))) + (wrap64 (bt a1 x6_1)))) 65536), (wrap64 (x6_1 + 1)), mq39, mq39, H', ⟨mq47 HK1⟩, mq52⟩
    ·rw [if_neg c4] at H
     exact absurd H (by simp)
   ·rw [if_neg c3] at H
    have c3b0 : decide (x6_1 < (a1.size : Int)) = false := decide_eq_false c3
    clear c3
    obtain rfl := Option.some.inj H
    go_wp2
    go_ret
    exact ⟨mq39, mq52⟩




end Go.Proofs.YtkobpbbegalfpaaGreatDoor.PParseBodies

/- Printed texts of this seat, cut to what is used. -/
namespace Go.Proofs.YtkobpbbegalfpaaGreatDoor.PParseBodies
open Go.RowKit Go.Proofs.YtkobpbbegalfpaaGreatDoorW.PrintWords Go.Proofs.YtkobpbbegalfpaaGreatDoorW.PrintLast Go.Proofs.YtkobpbbegalfpaaGreatDoorW.PrintMore
attribute [local go_sem] max2_int min2_int max_two min_two max_three min_three max_four min_four   -- for this text's walks alone
set_option linter.unusedVariables false
set_option linter.unusedSimpArgs false


end Go.Proofs.YtkobpbbegalfpaaGreatDoor.PParseBodies

/- Printed texts of this seat, cut to what is used. -/
namespace Go.Proofs.YtkobpbbegalfpaaGreatDoor
open Go.RowKit Go.Proofs.YtkobpbbegalfpaaGreatDoorW.PrintWords Go.Proofs.YtkobpbbegalfpaaGreatDoorW.PrintLast Go.Proofs.YtkobpbbegalfpaaGreatDoorW.PrintMore Go.Proofs.YtkobpbbegalfpaaGreatDoor.PParseBodies
set_option linter.unusedVariables false

def stepN (n b : Int) : Int := (n / 2 + n % 2 * 32768 + b) % 65536
/-- The sum of bytes, beginning with another one. -/
def sumL : Int → List UInt8 → Int
 | n, [] => n
 | n, b :: r => sumL (stepN n (b.toNat : Int)) r
theorem stepN_range (n b : Int) : 0 ≤ stepN n b ∧ stepN n b < 65536 := by unfold stepN; omega
theorem sumL_range : ∀ (l : List UInt8) (n : Int), 0 ≤ n → n < 65536 → 0 ≤ sumL n l ∧ sumL n l < 65536
 | [], n, h0, h1 => ⟨h0, h1⟩
 | b :: r, n, _, _ => sumL_range r _ (stepN_range _ _).1 (stepN_range _ _).2
theorem sumL_append : ∀ (a b : List UInt8) (n : Int), sumL n (a ++ b) = sumL (sumL n a) b
 | [], _, _ => rfl
 | x :: r, b, n => sumL_append r b _
theorem wrap_u16 (n : Int) : IntKind.u16.wrap n = n % 65536 := by simp [IntKind.wrap, IntKind.bits, IntKind.signed]

theorem rot_eq (n : Int) (h0 : 0 ≤ n) (h1 : n < 65536) : bits_RotateLeft16.f n (-1) = some (n / 2 + n % 2 * 32768) := by
 have e : Go.bits .and .u64 (IntKind.u64.wrap (-1)) 15 = 15 := by kernel_rfl
 have e2 : IntKind.u64.wrap (16 - 15) = 1 := by kernel_rfl
 unfold bits_RotateLeft16.f
 rw [e, e2, if_pos (by decide), if_pos (by decide)]
 have es : shl .u16 n 15 = n % 2 * 32768 := by
  unfold shl
  rw [wrap_u16, show min ((15 : Int)).toNat IntKind.u16.bits = 15 from rfl]
  omega
 have er : shr .u16 n 1 = n / 2 := by
  unfold shr
  rw [show min ((1 : Int)).toNat IntKind.u16.bits = 1 from rfl]
  omega
 rw [es, er, bits_join .u16 16 (by decide) (fun n h0 h1 => by rw [wrap_u16]; omega) 15 (n % 2 * 32768) (n / 2) (by omega) (by omega) (by omega) (by omega) (by omega) (by omega)]
 congr 1
 omega

theorem bt_nat (s : ByteArray) (i : Nat) (h : i < s.size) : bt s (i : Int) = (s[i].toNat : Int) := by
 unfold bt
 rw [dif_pos (by simpa using h)]
 rfl
theorem sdrop (s : ByteArray) (pos : Nat) (h : pos < s.size) : s.data.toList.drop pos = s[pos] :: s.data.toList.drop (pos + 1) := by
 have hl : pos < s.data.toList.length := by simpa using h
 rw [List.drop_eq_getElem_cons hl]
 rfl
theorem slen (s : ByteArray) : s.data.toList.length = s.size := by simp
theorem wr1 (i : Nat) (h : i < 9223372036854775807) : wrap64 ((i : Int) + 1) = ((i + 1 : Nat) : Int) := by unfold wrap64; omega

theorem from_l1 (s : ByteArray) (l : List ByteArray) (ln j : Int) (hs : s.size ≤ 9223372036854775806) (d : Nat) : ∀ (i k : Nat) (n : Int), s.size - i = d → i ≤ s.size → d < k → 0 ≤ n → n < 65536 →
  sum_From.l1 k n s l ln j (s.size : Int) (i : Int) = sum_From.l0 (k - d - 1) (sumL n (s.data.toList.drop i)) l ln (wrap64 (j + 1)) := by
 induction d with
 | zero =>
  intro i k n hd hi hk h0 h1
  obtain ⟨k, rfl⟩ : ∃ m, k = m + 1 := ⟨k - 1, by omega⟩
  simp only [sum_From.l1]
  rw [if_neg (by omega), List.drop_eq_nil_of_le (by rw [slen]; omega)]
  rfl
 | succ d ih =>
  intro i k n hd hi hk h0 h1
  obtain ⟨k, rfl⟩ : ∃ m, k = m + 1 := ⟨k - 1, by omega⟩
  have hlt : i < s.size := by omega
  have hb : s[i].toNat < 256 := s[i].toNat_lt
  have eS : IntKind.u16.wrap (n / 2 + n % 2 * 32768 + IntKind.u16.wrap (s[i].toNat : Int)) = stepN n (s[i].toNat : Int) := by
   rw [wrap_u16, wrap_u16]; unfold stepN; omega
  simp only [sum_From.l1]
  rw [if_pos (by omega), rot_eq n h0 h1]
  simp only [Option.bind_some]
  rw [if_pos (by omega), if_pos (by omega), bt_nat s i hlt, eS, wr1 i (by omega), sdrop s i hlt]
  have hr := stepN_range n (s[i].toNat : Int)
  rw [ih (i + 1) k _ (by omega) (by omega) (by omega) hr.1 hr.2]
  rw [show k + 1 - (d + 1) - 1 = k - d - 1 from by omega]
  rfl

/-- All bytes. -/
def allB (l : List ByteArray) : List UInt8 := (l.map (·.data.toList)).flatten
theorem from_l0 (l : List ByteArray) (hl : l.length ≤ 9223372036854775807) (hs : ∀ x ∈ l, x.size ≤ 9223372036854775806) (d : Nat) : ∀ (j k : Nat) (n : Int), l.length - j = d → j ≤ l.length → (allB (l.drop j)).length + 2 * d < k → 0 ≤ n → n < 65536 →
  sum_From.l0 k n l (l.length : Int) (j : Int) = some (sumL n (allB (l.drop j))) := by
 induction d with
 | zero =>
  intro j k n hd hj hk h0 h1
  obtain ⟨k, rfl⟩ : ∃ m, k = m + 1 := ⟨k - 1, by omega⟩
  simp only [sum_From.l0]
  rw [if_neg (by omega), List.drop_eq_nil_of_le (by omega)]
  rfl
 | succ d ih =>
  intro j k n hd hj hk h0 h1
  obtain ⟨k, rfl⟩ : ∃ m, k = m + 1 := ⟨k - 1, by omega⟩
  have hlt : j < l.length := by omega
  have hc : l.drop j = l[j] :: l.drop (j + 1) := List.drop_eq_getElem_cons hlt
  have hrd : rdOf ByteArray.empty l (j : Int) = l[j] := by
   unfold rdOf
   rw [Int.toNat_natCast, List.getD_eq_getElem?_getD, List.getElem?_eq_getElem hlt]
   rfl
  have hB : allB (l.drop j) = l[j].data.toList ++ allB (l.drop (j + 1)) := by rw [hc]; rfl
  have hbl : (allB (l.drop j)).length = l[j].size + (allB (l.drop (j + 1))).length := by rw [hB, List.length_append, slen]
  simp only [sum_From.l0]
  rw [if_pos (by omega), if_pos (by omega), if_pos (by omega), hrd]
  have h := from_l1 l[j] l (l.length : Int) (j : Int) (hs _ (List.getElem_mem hlt)) l[j].size 0 k n (by omega) (by omega) (by omega) h0 h1
  rw [show ((0 : Nat) : Int) = 0 from rfl] at h
  rw [h, wr1 j (by omega)]
  have hr := sumL_range (l[j].data.toList.drop 0) n h0 h1
  rw [ih (j + 1) _ _ (by omega) (by omega) (by omega) hr.1 hr.2, hB, sumL_append, List.drop_zero]

theorem from_pure (c : Int) (h0 : 0 ≤ c) (h1 : c < 65536) (l : List ByteArray) (hl : l.length ≤ 9223372036854775807) (hs : ∀ x ∈ l, x.size ≤ 9223372036854775806) : ∃ k, sum_From.f k c l = some (sumL c (allB l)) := by
 refine ⟨(allB l).length + 2 * l.length + 1, ?_⟩
 unfold sum_From.f
 have h := from_l0 l hl hs l.length 0 ((allB l).length + 2 * l.length + 1) c (by omega) (by omega) (by rw [List.drop_zero]; omega) h0 h1
 rw [List.drop_zero] at h
 exact h
theorem of_pure (l : List ByteArray) (hl : l.length ≤ 9223372036854775807) (hs : ∀ x ∈ l, x.size ≤ 9223372036854775806) : ∃ k, sum_Of.f k l = some (sumL 0 (allB l)) := by
 obtain ⟨k, hk⟩ := from_pure 0 (by omega) (by omega) l hl hs
 exact ⟨k, by unfold sum_Of.f; rw [hk]; rfl⟩

theorem w64u (x : Int) (h0 : 0 ≤ x) (h1 : x ≤ 1000000) : wrap64 x = x := by unfold wrap64; omega
theorem refStep (n b : Int) (h0 : 0 ≤ n) (h1 : n < 65536) (hb0 : 0 ≤ b) (hb1 : b < 256) :
  Int.tmod (wrap64 ((wrap64 ((wrap64 (Int.tdiv n 2)) + (wrap64 ((Int.tmod n 2) * 32768)))) + (wrap64 b))) 65536 = stepN n b := by
 rw [Int.tdiv_eq_ediv_of_nonneg h0, Int.tmod_eq_emod_of_nonneg h0, w64u (n / 2) (by omega) (by omega), w64u (n % 2 * 32768) (by omega) (by omega), w64u b hb0 (by omega),
  w64u (n / 2 + n % 2 * 32768) (by omega) (by omega), w64u (n / 2 + n % 2 * 32768 + b) (by omega) (by omega), Int.tmod_eq_emod_of_nonneg (by omega)]
 rfl
theorem refFrom_l0 (s : ByteArray) (hs : s.size ≤ 9223372036854775806) (d : Nat) : ∀ (i k : Nat) (n : Int), s.size - i = d → i ≤ s.size → d < k → 0 ≤ n → n < 65536 →
  sashref02_From.l0 k s n (i : Int) = some (sumL n (s.data.toList.drop i)) := by
 induction d with
 | zero =>
  intro i k n hd hi hk h0 h1
  obtain ⟨k, rfl⟩ : ∃ m, k = m + 1 := ⟨k - 1, by omega⟩
  simp only [sashref02_From.l0]
  rw [if_neg (by omega), List.drop_eq_nil_of_le (by rw [slen]; omega), wrap_u16]
  show some (n % 65536) = some n
  congr 1; omega
 | succ d ih =>
  intro i k n hd hi hk h0 h1
  obtain ⟨k, rfl⟩ : ∃ m, k = m + 1 := ⟨k - 1, by omega⟩
  have hlt : i < s.size := by omega
  have hb : s[i].toNat < 256 := s[i].toNat_lt
  simp only [sashref02_From.l0]
  rw [if_pos (by omega), if_pos (by omega), bt_nat s i hlt, refStep n (s[i].toNat : Int) h0 h1 (by omega) (by omega), wr1 i (by omega), sdrop s i hlt]
  have hr := stepN_range n (s[i].toNat : Int)
  exact ih (i + 1) k _ (by omega) (by omega) (by omega) hr.1 hr.2
end Go.Proofs.YtkobpbbegalfpaaGreatDoor

/- Printed texts of this seat, cut to what is used. -/
namespace Go.Proofs.YtkobpbbegalfpaaGreatDoor
open Go.RowKit Go.Proofs.YtkobpbbegalfpaaGreatDoorW.PrintWords Go.Proofs.YtkobpbbegalfpaaGreatDoorW.PrintLast Go.Proofs.YtkobpbbegalfpaaGreatDoorW.PrintMore Go.Proofs.YtkobpbbegalfpaaGreatDoor.PParseBodies
open Go.Lib (parseUintM)
set_option linter.unusedVariables false

theorem w64b (x : Int) (h0 : 0 ≤ x) (h1 : x ≤ 99999999999) : wrap64 x = x := by unfold wrap64; omega
/-- The outcome behind digits: the number, and whether it is too great. -/
def outG (x : Nat) : Bool → List UInt8 → Nat × Bool
 | true, _ => (2147483647, true)
 | false, l => match parseUintM 2147483647 x l with
  | .ok u => (u, false)
  | _ => (2147483647, true)
def finP (n x : Nat) : Bool → Int × Int × Int
 | true => (0, 0, 3)
 | false => ((x : Int), (n : Int), 0)
def finR (s : ByteArray) (n : Nat) (r : Nat × Bool) : Int × Int × Int := if n = 0 ∨ (1 < n ∧ bt s 0 = 48) then (0, 0, 2) else finP n r.1 r.2
theorem finP_out (n : Nat) (l : List UInt8) : finP n (outG 0 false l).1 (outG 0 false l).2 = match parseUintM 2147483647 0 l with
  | .ok u => ((u : Int), (n : Int), 0)
  | _ => (0, 0, 3) := by
 simp only [outG]
 rcases parseUintM 2147483647 0 l with u | _ | _ <;> rfl
theorem rdHead_end (s : ByteArray) (n : Nat) (x : Nat) (g : Bool) (k : Nat) (hn : n ≤ s.size) :
  sashref01_Head.j1 (k + 2) s (n : Int) (x : Int) g false = some (finR s n (x, g)) := by
 simp only [sashref01_Head.j1]
 rw [if_neg (by decide)]
 unfold finR
 by_cases h0 : n = 0
 ·rw [if_pos (by omega), if_pos (.inl h0)]
  rfl
 ·rw [if_neg (by omega)]
  by_cases h1 : 1 < n
  ·rw [if_pos (by omega), if_pos (by omega)]
   by_cases h48 : bt s 0 = 48
   ·rw [if_pos (.inr ⟨h1, h48⟩)]
    simp only [sashref01_Head.j2]
    rw [if_pos (by simp [h48])]
   ·rw [if_neg (by omega)]
    simp only [sashref01_Head.j2]
    rw [if_neg (by simp [h48])]
    cases g <;> rfl
  ·rw [if_neg (by omega), if_neg (by omega)]
   simp only [sashref01_Head.j2]
   rw [if_neg (by decide)]
   cases g <;> rfl
theorem outG_step (x : Nat) (g : Bool) (c : UInt8) (hc : 48 ≤ c.toNat ∧ c.toNat ≤ 57) (l : List UInt8) (hx : x ≤ 2147483647) (hg : g = true → x = 2147483647) :
  outG x g (c :: l) = if 2147483647 < x * 10 + (c.toNat - 48) then outG 2147483647 true l else outG (x * 10 + (c.toNat - 48)) g l := by
 cases g with
 | true => split <;> rfl
 | false =>
  have e : parseUintM 2147483647 x (c :: l) = if 2147483647 < x * 10 + (c.toNat - 48) then Lib.NumEnd.range else parseUintM 2147483647 (x * 10 + (c.toNat - 48)) l := by
   show (if 48 ≤ c.toNat ∧ c.toNat ≤ 57 then if 1844674407370955162 ≤ x then Lib.NumEnd.range else if 2147483647 < x * 10 + (c.toNat - 48) then Lib.NumEnd.range else parseUintM 2147483647 (x * 10 + (c.toNat - 48)) l else Lib.NumEnd.syntax) = _
   rw [if_pos hc, if_neg (by omega)]
  simp only [outG]
  rw [e]
  by_cases hov : 2147483647 < x * 10 + (c.toNat - 48)
  ·rw [if_pos hov, if_pos hov]
  ·rw [if_neg hov, if_neg hov]
theorem rdHead_l0 (s : ByteArray) (hs : s.size ≤ 1000000) (d : Nat) : ∀ (i k x : Nat) (g : Bool), s.size - i = d → i ≤ s.size → 2 * d + 2 < k → x ≤ 2147483647 → (g = true → x = 2147483647) →
  sashref01_Head.l0 k s (i : Int) (x : Int) g = some (finR s (i + ((s.data.toList.drop i).takeWhile isD).length) (outG x g ((s.data.toList.drop i).takeWhile isD))) := by
 induction d with
 | zero =>
  intro i k x g hd hi hk hx hg
  obtain ⟨k, rfl⟩ : ∃ m, k = m + 3 := ⟨k - 3, by omega⟩
  have e : sashref01_Head.l0 (k + 3) s (i : Int) (x : Int) g = sashref01_Head.j1 (k + 2) s (i : Int) (x : Int) g false := by
   rw [show k + 3 = (k + 2) + 1 from rfl, sashref01_Head.l0, if_neg (by omega)]
  rw [e, rdHead_end s i x g k hi, List.drop_eq_nil_of_le (by rw [slen]; omega)]
  have hg0 : outG x g [] = (x, g) := by
   cases g with
   | true => rw [hg rfl]; rfl
   | false => rfl
  rw [List.takeWhile_nil, hg0]
  rfl
 | succ d ih =>
  intro i k x g hd hi hk hx hg
  obtain ⟨k, rfl⟩ : ∃ m, k = m + 3 := ⟨k - 3, by omega⟩
  have hlt : i < s.size := by omega
  have hb : s[i].toNat < 256 := s[i].toNat_lt
  rw [sdrop s i hlt, List.takeWhile_cons]
  by_cases hD : isD s[i] = true
  ·have hc := isD_of _ hD
   rw [if_pos hD]
   have e : sashref01_Head.l0 (k + 3) s (i : Int) (x : Int) g = sashref01_Head.j1 (k + 2) s (i : Int) (x : Int) g true := by
    rw [show k + 3 = (k + 2) + 1 from rfl, sashref01_Head.l0, if_pos (by omega), if_pos (by omega), bt_nat s i hlt, if_pos (by omega), decide_eq_true (by omega)]
   have hv : wrap64 ((wrap64 (10 * (x : Int))) + (((s[i].toNat : Int) - 48) % 256)) = ((x * 10 + (s[i].toNat - 48) : Nat) : Int) := by
    have e1 : ((s[i].toNat : Int) - 48) % 256 = (s[i].toNat : Int) - 48 := by omega
    rw [e1, w64b (10 * (x : Int)) (by omega) (by omega), w64b _ (by omega) (by omega)]
    omega
   have e2 : sashref01_Head.j1 (k + 2) s (i : Int) (x : Int) g true = if 2147483647 < x * 10 + (s[i].toNat - 48) then sashref01_Head.l0 (k + 1) s ((i + 1 : Nat) : Int) ((2147483647 : Nat) : Int) true else sashref01_Head.l0 (k + 1) s ((i + 1 : Nat) : Int) ((x * 10 + (s[i].toNat - 48) : Nat) : Int) g := by
    rw [show k + 2 = (k + 1) + 1 from rfl, sashref01_Head.j1, if_pos rfl, if_pos (by omega), if_pos (by omega), bt_nat s i hlt, hv, wr1 i (by omega)]
    by_cases hov : 2147483647 < x * 10 + (s[i].toNat - 48)
    ·rw [if_pos hov, if_pos (by omega)]
     rfl
    ·rw [if_neg hov, if_neg (by omega)]
   rw [e, e2, outG_step x g s[i] hc _ hx hg, List.length_cons]
   rw [show i + (((s.data.toList.drop (i + 1)).takeWhile isD).length + 1) = i + 1 + ((s.data.toList.drop (i + 1)).takeWhile isD).length from by omega]
   by_cases hov : 2147483647 < x * 10 + (s[i].toNat - 48)
   ·rw [if_pos hov, if_pos hov]
    exact ih (i + 1) (k + 1) 2147483647 true (by omega) (by omega) (by omega) (by omega) (fun _ => rfl)
   ·rw [if_neg hov, if_neg hov]
    exact ih (i + 1) (k + 1) _ g (by omega) (by omega) (by omega) (by omega) (fun h => by have := hg h; omega)
  ·rw [if_neg hD]
   have e : sashref01_Head.l0 (k + 3) s (i : Int) (x : Int) g = sashref01_Head.j1 (k + 2) s (i : Int) (x : Int) g false := by
    rw [show k + 3 = (k + 2) + 1 from rfl, sashref01_Head.l0, if_pos (by omega), if_pos (by omega), bt_nat s i hlt]
    by_cases h48 : 48 ≤ s[i].toNat
    ·rw [if_pos (by omega)]
     have h57 : ¬ s[i].toNat ≤ 57 := fun h => hD (by unfold isD; simp [h48, h])
     rw [decide_eq_false (by omega)]
    ·rw [if_neg (by omega)]
   rw [e, rdHead_end s i x g k hi]
   have hg0 : outG x g [] = (x, g) := by
    cases g with
    | true => rw [hg rfl]; rfl
    | false => rfl
   rw [hg0]
   rfl
theorem rdHead_pure (s : ByteArray) (hs : s.size ≤ 1000000) (k : Nat) (hk : 2 * s.size + 2 < k) : sashref01_Head.f k s = some (headR s) := by
 unfold sashref01_Head.f
 have h := rdHead_l0 s hs s.size 0 k 0 false (by omega) (by omega) hk (by omega) (fun h => by cases h)
 rw [List.drop_zero, Nat.zero_add] at h
 have h' : sashref01_Head.l0 k s 0 0 false = _ := h
 rw [h']
 congr 1
 show finR s (headL s).length (outG 0 false (headL s)) = headR s
 unfold finR headR
 by_cases h0 : (headL s).length = 0
 ·rw [if_pos (.inl h0), if_pos h0]
 ·have hle := headL_le s
  have hf := headL_first s (by omega) (by omega)
  have hb : bt s 0 = 48 ↔ (headL s).getD 0 0 = 48 := by
   rw [← hf]
   have e : bt s 0 = ((s[0]'(by omega)).toNat : Int) := bt_nat s 0 (by omega)
   rw [e]
   exact ⟨fun h => (byte48 _).2 (by omega), fun h => by rw [(byte48 _).1 h]; rfl⟩
  rw [if_neg h0]
  by_cases h2 : 1 < (headL s).length ∧ (headL s).getD 0 0 = 48
  ·rw [if_pos (.inr ⟨h2.1, hb.2 h2.2⟩), if_pos h2]
  ·rw [if_neg h2, if_neg (by rintro (h | h); exact h0 h; exact h2 ⟨h.1, hb.1 h.2⟩)]
   exact finP_out _ _
end Go.Proofs.YtkobpbbegalfpaaGreatDoor
