/- Printed texts of this seat, cut to what is used. -/
import Derived.Test.YtakhnigalkjhhaaGreatDoorPPrintFitsx9
import Derived.Test.YtakhnigalkjhhaaGreatDoorSuPutP
import Derived.Test.YtakhnigalkjhhaaGreatDoorNumPureP
import Derived.Test.YtakhnigalkjhhaaGreatDoorPrInj
import Derived.Test.YtakhnigalkjhhaaGreatDoorTiRef2
namespace Go.Proofs.YtakhnigalkjhhaaGreatDoor
open Go.RowKit Go.Proofs.YtakhnigalkjhhaaGreatDoorW.PrintWords Go.Proofs.YtakhnigalkjhhaaGreatDoorW.PrintLast Go.Proofs.YtakhnigalkjhhaaGreatDoorW.PrintMore Go.Proofs.YtakhnigalkjhhaaGreatDoor.PPrintFits
open Go.Lib (decDigits)
set_option linter.unusedVariables false
set_option linter.unusedSimpArgs false
set_option maxRecDepth 100000

theorem data_ext' {a b : ByteArray} (h : a.data.toList = b.data.toList) : a = b := by
  apply ByteArray.ext
  exact Array.ext' h
theorem app_nil (a : ByteArray) : a ++ (⟨#[]⟩ : ByteArray) = a := by
  apply data_ext'
  rw [ByteArray.data_append, Array.toList_append]
  simp
theorem ten_digit (m : Nat) (h : m < 10) : sashref01_Digit.f (m : Int) = some (⟨#[UInt8.ofNat (48 + m)]⟩ : ByteArray) := by
  match m, h with
  | 0, _ => show sashref01_Digit.f 0 = some (⟨#[UInt8.ofNat (48 + 0)]⟩ : ByteArray); kernel_rfl
  | 1, _ => show sashref01_Digit.f 1 = some (⟨#[UInt8.ofNat (48 + 1)]⟩ : ByteArray); kernel_rfl
  | 2, _ => show sashref01_Digit.f 2 = some (⟨#[UInt8.ofNat (48 + 2)]⟩ : ByteArray); kernel_rfl
  | 3, _ => show sashref01_Digit.f 3 = some (⟨#[UInt8.ofNat (48 + 3)]⟩ : ByteArray); kernel_rfl
  | 4, _ => show sashref01_Digit.f 4 = some (⟨#[UInt8.ofNat (48 + 4)]⟩ : ByteArray); kernel_rfl
  | 5, _ => show sashref01_Digit.f 5 = some (⟨#[UInt8.ofNat (48 + 5)]⟩ : ByteArray); kernel_rfl
  | 6, _ => show sashref01_Digit.f 6 = some (⟨#[UInt8.ofNat (48 + 6)]⟩ : ByteArray); kernel_rfl
  | 7, _ => show sashref01_Digit.f 7 = some (⟨#[UInt8.ofNat (48 + 7)]⟩ : ByteArray); kernel_rfl
  | 8, _ => show sashref01_Digit.f 8 = some (⟨#[UInt8.ofNat (48 + 8)]⟩ : ByteArray); kernel_rfl
  | 9, _ => show sashref01_Digit.f 9 = some (⟨#[UInt8.ofNat (48 + 9)]⟩ : ByteArray); kernel_rfl

theorem nw64 (x : Int) (h0 : 0 ≤ x) (h1 : x ≤ 4294967296) : wrap64 x = x := by unfold wrap64; omega
theorem tdiv10 (n : Nat) (h : n ≤ 2147483647) : wrap64 (Int.tdiv (n : Int) 10) = ((n / 10 : Nat) : Int) := by
  rw [Int.tdiv_eq_ediv_of_nonneg (by omega), nw64 _ (by omega) (by omega)]
  rfl
theorem tmod10 (n : Nat) : Int.tmod (n : Int) 10 = ((n % 10 : Nat) : Int) := by
  rw [Int.tmod_eq_emod_of_nonneg (by omega)]
  rfl
theorem refDig_l0 (k : Nat) : ∀ (n : Nat) (suf : ByteArray), n < 10 ^ (k + 1) → n ≤ 2147483647 → suf.size + k ≤ 1000 →
    sashref01_Digits.l0 (k + 1) (n : Int) ((⟨#[UInt8.ofNat (48 + n % 10)]⟩ : ByteArray) ++ suf) = some ((⟨(decDigits n).toArray⟩ : ByteArray) ++ suf) := by
  induction k with
  | zero =>
    intro n suf hn hm hs
    have h9 : n < 10 := by simpa using hn
    simp only [sashref01_Digits.l0]
    rw [if_neg (by omega), dec_one n h9, Nat.mod_eq_of_lt h9]
  | succ k ih =>
    intro n suf hn hm hs
    by_cases h9 : n < 10
    · simp only [sashref01_Digits.l0]
      rw [if_neg (by omega), dec_one n h9, Nat.mod_eq_of_lt h9]
    · have e : sashref01_Digits.l0 (k + 1 + 1) (n : Int) ((⟨#[UInt8.ofNat (48 + n % 10)]⟩ : ByteArray) ++ suf) = sashref01_Digits.l0 (k + 1) ((n / 10 : Nat) : Int) ((⟨#[UInt8.ofNat (48 + n / 10 % 10)]⟩ : ByteArray) ++ ((⟨#[UInt8.ofNat (48 + n % 10)]⟩ : ByteArray) ++ suf)) := by
        rw [sashref01_Digits.l0]
        rw [if_pos (by omega), tdiv10 n hm, tmod10, ten_digit _ (by omega), Option.bind_some]
        rw [if_pos (by rw [ByteArray.size_append]; show 1 + (1 + suf.size) ≤ _; omega)]
      have hp : n / 10 < 10 ^ (k + 1) := by
        rw [Nat.pow_succ] at hn; omega
      rw [e, ih (n / 10) _ hp (by omega) (by rw [ByteArray.size_append]; show 1 + suf.size + k ≤ _; omega), dec_step n h9, ← ByteArray.append_assoc]
      congr 2
theorem refDigits_pure (n : Int) (h0 : -9223372036854775808 ≤ n) (h1 : n ≤ 9223372036854775807) : sashref01_Digits.f 12 n = some (digS n) := by
  unfold sashref01_Digits.f digS
  by_cases h : n < 0
  · rw [if_pos h, if_pos (.inl h)]
    rfl
  · rw [if_neg h]
    by_cases h2 : 2147483647 < n
    · rw [if_pos (.inr h2), decide_eq_true h2]
      rfl
    · rw [if_neg (by omega), decide_eq_false h2]
      obtain ⟨m, rfl⟩ := Int.eq_ofNat_of_zero_le (by omega : 0 ≤ n)
      have e : sashref01_Digits.j0 12 (m : Int) false = sashref01_Digits.l0 11 (m : Int) (⟨#[UInt8.ofNat (48 + m % 10)]⟩ : ByteArray) := by
        rw [sashref01_Digits.j0]
        rw [if_neg (by decide), tmod10, ten_digit _ (by omega), Option.bind_some]
      have h := refDig_l0 10 m (⟨#[]⟩ : ByteArray) (by omega) (by omega) (by decide)
      rw [app_nil, app_nil] at h
      rw [e, h, Lib.itoa_nonneg]

/-- An answer stays under more fuel. -/
theorem fuel_le {α : Type} {f : Nat → Option α} (hm : ∀ k, LeO (f k) (f (k + 1))) {k : Nat} {r : α} (h : f k = some r) : ∀ j, k ≤ j → f j = some r := by
  intro j hj
  obtain ⟨d, rfl⟩ := Nat.exists_eq_add_of_le hj
  clear hj
  induction d with
  | zero => exact h
  | succ d ih => exact hm (k + d) r ih
def bsOf (l : List UInt8) : ByteArray := ⟨l.toArray⟩
theorem bs_list (l : List UInt8) : (bsOf l).data.toList = l := rfl
theorem bs_size (l : List UInt8) : (bsOf l).size = l.length := by simp [bsOf, ByteArray.size]
theorem bs_app (a b : List UInt8) : bsOf a ++ bsOf b = bsOf (a ++ b) := by
  apply data_ext'
  rw [ByteArray.data_append, Array.toList_append, bs_list, bs_list, bs_list]
theorem bs_dig (n : Int) : digS n = bsOf (digL n) := data_ext' rfl
theorem bs_lit (x : UInt8) : (⟨#[x]⟩ : ByteArray) = bsOf [x] := rfl
def IR (n : Int) : Prop := -9223372036854775808 ≤ n ∧ n ≤ 9223372036854775807
theorem Digits_f (n : Int) (h : IR n) (k : Nat) (hk : 12 ≤ k) : sashref01_Digits.f k n = some (bsOf (digL n)) := by
  rw [← bs_dig]
  exact fuel_le (f := fun k => sashref01_Digits.f k n) (fun k => sashref01_Digits.mono _ _) (refDigits_pure n h.1 h.2) k hk
def RIR (r : SR) : Prop := IR r.f0 ∧ IR r.f1 ∧ IR r.f2 ∧ IR r.f3
theorem Head_f (r : SR) (h : RIR r) (k : Nat) (hk : 12 ≤ k) : sashref10_Head.f k r.f0 r.f1 r.f2 r.f3 = some (bsOf (headB r)) := by
  have h0 := digL_len r.f0; have h1 := digL_len r.f1; have h2 := digL_len r.f2; have h3 := digL_len r.f3
  unfold sashref10_Head.f
  simp only [Digits_f _ h.1 k hk, Digits_f _ h.2.1 k hk, Digits_f _ h.2.2.1 k hk, Digits_f _ h.2.2.2 k hk, Option.bind_some, bs_lit, bs_app, bs_size, List.length_append, List.length_singleton]
  rw [if_pos (by omega), if_pos (by omega), if_pos (by omega), if_pos (by omega), if_pos (by omega), if_pos (by omega)]
  rfl
def CIR (c : SC) : Prop := ∀ x ∈ cells c, RIR x.f1 ∧ IR x.f2
theorem CIR.kid {c k : SC} (h : CIR c) (hk : k ∈ c.f3) : CIR k := fun x hx => h x (cells_kid hk x hx)
theorem Body_f (c : SC) : CIR c → (cells c).length ≤ 100000 → ∀ k, 2 * (cells c).length + 20 < k → sashref10_Body.f k c.f0 c.f1.f0 c.f1.f1 c.f1.f2 c.f1.f3 c.f2 c.f3 = some (bsOf (bodyL c)) := by
  refine cell_ind (P := fun c => CIR c → (cells c).length ≤ 100000 → ∀ k, 2 * (cells c).length + 20 < k → sashref10_Body.f k c.f0 c.f1.f0 c.f1.f1 c.f1.f2 c.f1.f3 c.f2 c.f3 = some (bsOf (bodyL c))) (fun c ih hR hs k hk => ?_) c
  have hcl : (cells c).length = 1 + (cellsL c.f3).length := by rw [cells_eq]; simp; omega
  have hge := cellsL_ge c.f3
  have hbl := body_len c
  obtain ⟨k, rfl⟩ : ∃ m, k = m + 1 := ⟨k - 1, by omega⟩
  have hself := hR c (cells_self c)
  rw [bodyL_eq] at hbl ⊢
  have hhl := headB_len c.f1
  have hdl := digL_len c.f2
  have loop : ∀ (d k i : Nat), c.f3.length - i = d → i ≤ c.f3.length → 2 * (cellsL (c.f3.drop i)).length + 21 < k → (headB c.f1 ++ ([opn c.f0] ++ kidsL true c.f3 ++ [cls c.f0])).length ≤ 100000000 →
      sashref10_Body.l0 k (bsOf (headB c.f1)) (bsOf (kidsL true (c.f3.take i))) (c.f3.length : Int) (i : Int) c.f0 c.f1.f0 c.f1.f1 c.f1.f2 c.f1.f3 c.f2 c.f3 = some (bsOf (headB c.f1 ++ ([opn c.f0] ++ kidsL true c.f3 ++ [cls c.f0]))) := by
    intro d
    induction d with
    | zero =>
      intro k i hd hi hk hz
      obtain ⟨k, rfl⟩ : ∃ m, k = m + 1 := ⟨k - 1, by omega⟩
      rw [List.take_of_length_le (by omega)]
      simp only [List.length_append, List.length_singleton] at hz
      simp only [sashref10_Body.l0, bs_lit, bs_app, bs_size, List.length_append, List.length_singleton]
      rw [if_neg (by omega)]
      by_cases h2 : c.f0 = 2
      · rw [if_pos h2, if_pos (by omega), if_pos (by omega), if_pos (by omega)]
        simp [opn, cls, h2]
      · rw [if_neg h2, if_pos (by omega), if_pos (by omega), if_pos (by omega)]
        simp [opn, cls, h2]
    | succ d ihd =>
      intro k i hd hi hk hz
      obtain ⟨k, rfl⟩ : ∃ m, k = m + 1 := ⟨k - 1, by omega⟩
      have hlt : i < c.f3.length := by omega
      have q1 := cellsL_drop c.f3 i hlt
      have q2 := cells_pos (c.f3.getD i z30)
      have q4 := kid_le _ c.f3 (getT_mem c.f3 i hlt)
      have hb := ih _ (getT_mem c.f3 i hlt) (hR.kid (getT_mem c.f3 i hlt)) (by omega) k (by omega)
      have hrec := ihd k (i + 1) (by omega) (by omega) (by omega) hz
      have hsp := congrArg List.length (kidsL_split c.f3 i hlt)
      rw [kidsL_take c.f3 i hlt] at hrec
      simp only [List.length_append, List.length_singleton] at hz hsp
      simp only [sashref10_Body.l0, bs_lit, bs_app, bs_size, List.length_append, List.length_singleton]
      rw [if_pos (by omega)]
      by_cases h0 : i = 0
      · have hsk : sepK i = [] := by unfold sepK; rw [if_pos h0]
        rw [hsk, List.append_nil] at hrec
        rw [if_neg (by omega), if_pos (by omega), if_pos (by omega), rd_T_getD, hb]
        simp only [Option.bind_some, bs_app, bs_size]
        rw [if_pos (by omega), wi i (by omega)]
        exact hrec
      · have hsk : sepK i = [44] := by unfold sepK; rw [if_neg h0]
        rw [hsk] at hrec hsp
        simp only [List.length_singleton] at hsp
        rw [if_pos (by omega), if_pos (by omega), if_pos (by omega), if_pos (by omega), rd_T_getD, hb]
        simp only [Option.bind_some, bs_app, bs_size, List.length_append, List.length_singleton]
        rw [if_pos (by omega), wi i (by omega)]
        exact hrec
  simp only [sashref10_Body.f]
  rw [Head_f c.f1 hself.1 k (by omega)]
  simp only [Option.bind_some]
  by_cases h1 : c.f0 = 1
  · rw [if_pos h1, if_pos h1, bs_size, if_pos (by omega), Digits_f c.f2 hself.2 k (by omega)]
    simp only [Option.bind_some, bs_lit, bs_app, bs_size, List.length_append, List.length_singleton]
    rw [if_pos (by omega), List.append_assoc]
  · rw [if_neg h1] at hbl
    rw [if_neg h1, if_neg h1]
    have h := loop c.f3.length k 0 (by omega) (by omega) (by rw [List.drop_zero]; omega) (by omega)
    rw [List.take_zero, kidsL_nil] at h
    exact h

theorem RHex_f (n : Int) (h0 : 0 ≤ n) (h1 : n < 65536) : sashref01_Hex.f n = some (hex4 n) := by
  unfold sashref01_Hex.f
  have e0 : wrap64 n = n := w64u n h0 (by omega)
  have t1 : Int.tdiv n 4096 = n / 4096 := Int.tdiv_eq_ediv_of_nonneg h0
  have t2 : Int.tdiv n 256 = n / 256 := Int.tdiv_eq_ediv_of_nonneg h0
  have t3 : Int.tdiv n 16 = n / 16 := Int.tdiv_eq_ediv_of_nonneg h0
  have m2 : Int.tmod (n / 256) 16 = n / 256 % 16 := Int.tmod_eq_emod_of_nonneg (by omega)
  have m3 : Int.tmod (n / 16) 16 = n / 16 % 16 := Int.tmod_eq_emod_of_nonneg (by omega)
  have m4 : Int.tmod n 16 = n % 16 := Int.tmod_eq_emod_of_nonneg h0
  rw [e0, t1, t2, t3, w64u (n / 4096) (by omega) (by omega), w64u (n / 256) (by omega) (by omega), w64u (n / 16) (by omega) (by omega), m2, m3, m4]
  rw [refDigit_pure _ (by omega) (by omega), refDigit_pure _ (by omega) (by omega), refDigit_pure _ (by omega) (by omega), refDigit_pure _ (by omega) (by omega)]
  simp only [Option.bind_some, ByteArray.size_append]
  rw [if_pos (by show 1 + 1 ≤ _; omega), if_pos (by show 1 + 1 + 1 ≤ _; omega), if_pos (by show 1 + 1 + 1 + 1 ≤ _; omega)]
  rfl
theorem RPut_f (s : ByteArray) (hs : s.size ≤ 1000000) : ∃ k, sashref02_Put.f k s = some (putS s) := by
  obtain ⟨k, hk⟩ := refFrom_pure 0 (by omega) (by omega) s (by omega)
  refine ⟨k, ?_⟩
  have hr := sumL_range s.data.toList 0 (by omega) (by omega)
  unfold sashref02_Put.f putS
  rw [hk]
  simp only [Option.bind_some]
  rw [RHex_f _ hr.1 hr.2]
  simp only [Option.bind_some]
  have hz := hex4_size (sumL 0 s.data.toList)
  rw [if_pos (by rw [hz]; decide), if_pos (by rw [ByteArray.size_append, hz]; show 4 + 1 + s.size ≤ _; omega)]
end Go.Proofs.YtakhnigalkjhhaaGreatDoor
