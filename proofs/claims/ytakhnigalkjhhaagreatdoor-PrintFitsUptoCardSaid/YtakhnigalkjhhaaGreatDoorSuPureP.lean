/-
  The sum of bytes: pure. The code's and the document's are one.
-/
import Derived.Test.YtakhnigalkjhhaaGreatDoorPPrintFitsx9
import Derived.Test.YtakhnigalkjhhaaGreatDoorNumPureP
namespace Go.Proofs.YtakhnigalkjhhaaGreatDoor
open Go.RowKit Go.Proofs.YtakhnigalkjhhaaGreatDoorW.PrintWords Go.Proofs.YtakhnigalkjhhaaGreatDoorW.PrintLast Go.Proofs.YtakhnigalkjhhaaGreatDoorW.PrintMore Go.Proofs.YtakhnigalkjhhaaGreatDoor.PPrintFits
set_option linter.unusedVariables false

def stepN (n b : Int) : Int := (n / 2 + n % 2 * 32768 + b) % 65536
/-- The sum of bytes, beginning with another one. -/
def sumL : Int → List UInt8 → Int
  | n, [] => n
  | n, b :: r => sumL (stepN n (b.toNat : Int)) r
theorem stepN_range (n b : Int) : 0 ≤ stepN n b ∧ stepN n b < 65536 := by unfold stepN; omega
theorem sumL_range : ∀ (l : List UInt8) (n : Int), 0 ≤ n → n < 65536 → 0 ≤ sumL n l ∧ sumL n l < 65536
  | [], n, h0, h1 => ⟨h0, h1⟩
  | b :: r, n, _, _ => sumL_range r _ (stepN_range _ _).1 (stepN_range _ _).2
theorem sumL_append : ∀ (a b : List UInt8) (n : Int), sumL n (a ++ b) = sumL (sumL n a) b
  | [], _, _ => rfl
  | x :: r, b, n => sumL_append r b _
theorem wrap_u16 (n : Int) : IntKind.u16.wrap n = n % 65536 := by simp [IntKind.wrap, IntKind.bits, IntKind.signed]

theorem rot_eq (n : Int) (h0 : 0 ≤ n) (h1 : n < 65536) : bits_RotateLeft16.f n (-1) = some (n / 2 + n % 2 * 32768) := by
  have e : Go.bits .and .u64 (IntKind.u64.wrap (-1)) 15 = 15 := by kernel_rfl
  have e2 : IntKind.u64.wrap (16 - 15) = 1 := by kernel_rfl
  unfold bits_RotateLeft16.f
  rw [e, e2, if_pos (by decide), if_pos (by decide)]
  have es : shl .u16 n 15 = n % 2 * 32768 := by
    unfold shl
    rw [wrap_u16, show min ((15 : Int)).toNat IntKind.u16.bits = 15 from rfl]
    omega
  have er : shr .u16 n 1 = n / 2 := by
    unfold shr
    rw [show min ((1 : Int)).toNat IntKind.u16.bits = 1 from rfl]
    omega
  rw [es, er, bits_join .u16 16 (by decide) (fun n h0 h1 => by rw [wrap_u16]; omega) 15 (n % 2 * 32768) (n / 2) (by omega) (by omega) (by omega) (by omega) (by omega) (by omega)]
  congr 1
  omega

theorem bt_nat (s : ByteArray) (i : Nat) (h : i < s.size) : bt s (i : Int) = (s[i].toNat : Int) := by
  unfold bt
  rw [dif_pos (by simpa using h)]
  rfl
theorem sdrop (s : ByteArray) (pos : Nat) (h : pos < s.size) : s.data.toList.drop pos = s[pos] :: s.data.toList.drop (pos + 1) := by
  have hl : pos < s.data.toList.length := by simpa using h
  rw [List.drop_eq_getElem_cons hl]
  rfl
theorem slen (s : ByteArray) : s.data.toList.length = s.size := by simp
theorem wr1 (i : Nat) (h : i < 9223372036854775807) : wrap64 ((i : Int) + 1) = ((i + 1 : Nat) : Int) := by unfold wrap64; omega

theorem from_l1 (s : ByteArray) (l : List ByteArray) (ln j : Int) (hs : s.size ≤ 9223372036854775806) (d : Nat) : ∀ (i k : Nat) (n : Int), s.size - i = d → i ≤ s.size → d < k → 0 ≤ n → n < 65536 →
    sum_From.l1 k n s l ln j (s.size : Int) (i : Int) = sum_From.l0 (k - d - 1) (sumL n (s.data.toList.drop i)) l ln (wrap64 (j + 1)) := by
  induction d with
  | zero =>
    intro i k n hd hi hk h0 h1
    obtain ⟨k, rfl⟩ : ∃ m, k = m + 1 := ⟨k - 1, by omega⟩
    simp only [sum_From.l1]
    rw [if_neg (by omega), List.drop_eq_nil_of_le (by rw [slen]; omega)]
    rfl
  | succ d ih =>
    intro i k n hd hi hk h0 h1
    obtain ⟨k, rfl⟩ : ∃ m, k = m + 1 := ⟨k - 1, by omega⟩
    have hlt : i < s.size := by omega
    have hb : s[i].toNat < 256 := s[i].toNat_lt
    have eS : IntKind.u16.wrap (n / 2 + n % 2 * 32768 + IntKind.u16.wrap (s[i].toNat : Int)) = stepN n (s[i].toNat : Int) := by
      rw [wrap_u16, wrap_u16]; unfold stepN; omega
    simp only [sum_From.l1]
    rw [if_pos (by omega), rot_eq n h0 h1]
    simp only [Option.bind_some]
    rw [if_pos (by omega), if_pos (by omega), bt_nat s i hlt, eS, wr1 i (by omega), sdrop s i hlt]
    have hr := stepN_range n (s[i].toNat : Int)
    rw [ih (i + 1) k _ (by omega) (by omega) (by omega) hr.1 hr.2]
    rw [show k + 1 - (d + 1) - 1 = k - d - 1 from by omega]
    rfl

/-- All bytes. -/
def allB (l : List ByteArray) : List UInt8 := (l.map (·.data.toList)).flatten
theorem from_l0 (l : List ByteArray) (hl : l.length ≤ 9223372036854775807) (hs : ∀ x ∈ l, x.size ≤ 9223372036854775806) (d : Nat) : ∀ (j k : Nat) (n : Int), l.length - j = d → j ≤ l.length → (allB (l.drop j)).length + 2 * d < k → 0 ≤ n → n < 65536 →
    sum_From.l0 k n l (l.length : Int) (j : Int) = some (sumL n (allB (l.drop j))) := by
  induction d with
  | zero =>
    intro j k n hd hj hk h0 h1
    obtain ⟨k, rfl⟩ : ∃ m, k = m + 1 := ⟨k - 1, by omega⟩
    simp only [sum_From.l0]
    rw [if_neg (by omega), List.drop_eq_nil_of_le (by omega)]
    rfl
  | succ d ih =>
    intro j k n hd hj hk h0 h1
    obtain ⟨k, rfl⟩ : ∃ m, k = m + 1 := ⟨k - 1, by omega⟩
    have hlt : j < l.length := by omega
    have hc : l.drop j = l[j] :: l.drop (j + 1) := List.drop_eq_getElem_cons hlt
    have hrd : rdOf ByteArray.empty l (j : Int) = l[j] := by
      unfold rdOf
      rw [Int.toNat_natCast, List.getD_eq_getElem?_getD, List.getElem?_eq_getElem hlt]
      rfl
    have hB : allB (l.drop j) = l[j].data.toList ++ allB (l.drop (j + 1)) := by rw [hc]; rfl
    have hbl : (allB (l.drop j)).length = l[j].size + (allB (l.drop (j + 1))).length := by rw [hB, List.length_append, slen]
    simp only [sum_From.l0]
    rw [if_pos (by omega), if_pos (by omega), if_pos (by omega), hrd]
    have h := from_l1 l[j] l (l.length : Int) (j : Int) (hs _ (List.getElem_mem hlt)) l[j].size 0 k n (by omega) (by omega) (by omega) h0 h1
    rw [show ((0 : Nat) : Int) = 0 from rfl] at h
    rw [h, wr1 j (by omega)]
    have hr := sumL_range (l[j].data.toList.drop 0) n h0 h1
    rw [ih (j + 1) _ _ (by omega) (by omega) (by omega) hr.1 hr.2, hB, sumL_append, List.drop_zero]

theorem from_pure (c : Int) (h0 : 0 ≤ c) (h1 : c < 65536) (l : List ByteArray) (hl : l.length ≤ 9223372036854775807) (hs : ∀ x ∈ l, x.size ≤ 9223372036854775806) : ∃ k, sum_From.f k c l = some (sumL c (allB l)) := by
  refine ⟨(allB l).length + 2 * l.length + 1, ?_⟩
  unfold sum_From.f
  have h := from_l0 l hl hs l.length 0 ((allB l).length + 2 * l.length + 1) c (by omega) (by omega) (by rw [List.drop_zero]; omega) h0 h1
  rw [List.drop_zero] at h
  exact h
theorem of_pure (l : List ByteArray) (hl : l.length ≤ 9223372036854775807) (hs : ∀ x ∈ l, x.size ≤ 9223372036854775806) : ∃ k, sum_Of.f k l = some (sumL 0 (allB l)) := by
  obtain ⟨k, hk⟩ := from_pure 0 (by omega) (by omega) l hl hs
  exact ⟨k, by unfold sum_Of.f; rw [hk]; rfl⟩

theorem w64u (x : Int) (h0 : 0 ≤ x) (h1 : x ≤ 1000000) : wrap64 x = x := by unfold wrap64; omega
theorem refStep (n b : Int) (h0 : 0 ≤ n) (h1 : n < 65536) (hb0 : 0 ≤ b) (hb1 : b < 256) :
    Int.tmod (wrap64 ((wrap64 ((wrap64 (Int.tdiv n 2)) + (wrap64 ((Int.tmod n 2) * 32768)))) + (wrap64 b))) 65536 = stepN n b := by
  rw [Int.tdiv_eq_ediv_of_nonneg h0, Int.tmod_eq_emod_of_nonneg h0, w64u (n / 2) (by omega) (by omega), w64u (n % 2 * 32768) (by omega) (by omega), w64u b hb0 (by omega),
    w64u (n / 2 + n % 2 * 32768) (by omega) (by omega), w64u (n / 2 + n % 2 * 32768 + b) (by omega) (by omega), Int.tmod_eq_emod_of_nonneg (by omega)]
  rfl
theorem refFrom_l0 (s : ByteArray) (hs : s.size ≤ 9223372036854775806) (d : Nat) : ∀ (i k : Nat) (n : Int), s.size - i = d → i ≤ s.size → d < k → 0 ≤ n → n < 65536 →
    sashref02_From.l0 k s n (i : Int) = some (sumL n (s.data.toList.drop i)) := by
  induction d with
  | zero =>
    intro i k n hd hi hk h0 h1
    obtain ⟨k, rfl⟩ : ∃ m, k = m + 1 := ⟨k - 1, by omega⟩
    simp only [sashref02_From.l0]
    rw [if_neg (by omega), List.drop_eq_nil_of_le (by rw [slen]; omega), wrap_u16]
    show some (n % 65536) = some n
    congr 1; omega
  | succ d ih =>
    intro i k n hd hi hk h0 h1
    obtain ⟨k, rfl⟩ : ∃ m, k = m + 1 := ⟨k - 1, by omega⟩
    have hlt : i < s.size := by omega
    have hb : s[i].toNat < 256 := s[i].toNat_lt
    simp only [sashref02_From.l0]
    rw [if_pos (by omega), if_pos (by omega), bt_nat s i hlt, refStep n (s[i].toNat : Int) h0 h1 (by omega) (by omega), wr1 i (by omega), sdrop s i hlt]
    have hr := stepN_range n (s[i].toNat : Int)
    exact ih (i + 1) k _ (by omega) (by omega) (by omega) hr.1 hr.2
theorem refFrom_pure (c : Int) (h0 : 0 ≤ c) (h1 : c < 65536) (s : ByteArray) (hs : s.size ≤ 9223372036854775806) : ∃ k, sashref02_From.f k c s = some (sumL c s.data.toList) := by
  refine ⟨s.size + 1, ?_⟩
  unfold sashref02_From.f
  rw [w64u c h0 (by omega)]
  have h := refFrom_l0 s hs s.size 0 (s.size + 1) c (by omega) (by omega) (by omega) h0 h1
  rw [List.drop_zero] at h
  exact h
end Go.Proofs.YtakhnigalkjhhaaGreatDoor
