/-
  Joined texts: ScRef, RdCut.
-/
import Derived.Test.YtmcjfnebkpifnaaGreatDoorScTop
import Derived.Test.YtmcjfnebkpifnaaGreatDoorNumPureP
import Derived.Test.YtmcjfnebkpifnaaGreatDoorPScriptReadsx6
import Derived.Test.YtmcjfnebkpifnaaGreatDoorPScriptReadsx7
import Derived.Test.YtmcjfnebkpifnaaGreatDoorPScriptReadsx9
import Derived.Test.YtmcjfnebkpifnaaGreatDoorRdAll
/- Printed texts of this seat, cut to what is used. -/
namespace Go.Proofs.YtmcjfnebkpifnaaGreatDoor
open Go.RowKit Go.Proofs.YtmcjfnebkpifnaaGreatDoorW.PrintWords Go.Proofs.YtmcjfnebkpifnaaGreatDoorW.PrintLast Go.Proofs.YtmcjfnebkpifnaaGreatDoorW.PrintMore Go.Proofs.YtmcjfnebkpifnaaGreatDoor.PScriptReads
open Go.Lib (decDigits)
set_option linter.unusedVariables false
set_option linter.unusedSimpArgs false
set_option maxRecDepth 100000

theorem data_ext' {a b : ByteArray} (h : a.data.toList = b.data.toList) : a = b := by
  apply ByteArray.ext
  exact Array.ext' h
theorem app_nil (a : ByteArray) : a ++ (⟨#[]⟩ : ByteArray) = a := by
  apply data_ext'
  rw [ByteArray.data_append, Array.toList_append]
  simp
theorem ten_digit (m : Nat) (h : m < 10) : sashref01_Digit.f (m : Int) = some (⟨#[UInt8.ofNat (48 + m)]⟩ : ByteArray) := by
  match m, h with
  | 0, _ => show sashref01_Digit.f 0 = some (⟨#[UInt8.ofNat (48 + 0)]⟩ : ByteArray); kernel_rfl
  | 1, _ => show sashref01_Digit.f 1 = some (⟨#[UInt8.ofNat (48 + 1)]⟩ : ByteArray); kernel_rfl
  | 2, _ => show sashref01_Digit.f 2 = some (⟨#[UInt8.ofNat (48 + 2)]⟩ : ByteArray); kernel_rfl
  | 3, _ => show sashref01_Digit.f 3 = some (⟨#[UInt8.ofNat (48 + 3)]⟩ : ByteArray); kernel_rfl
  | 4, _ => show sashref01_Digit.f 4 = some (⟨#[UInt8.ofNat (48 + 4)]⟩ : ByteArray); kernel_rfl
  | 5, _ => show sashref01_Digit.f 5 = some (⟨#[UInt8.ofNat (48 + 5)]⟩ : ByteArray); kernel_rfl
  | 6, _ => show sashref01_Digit.f 6 = some (⟨#[UInt8.ofNat (48 + 6)]⟩ : ByteArray); kernel_rfl
  | 7, _ => show sashref01_Digit.f 7 = some (⟨#[UInt8.ofNat (48 + 7)]⟩ : ByteArray); kernel_rfl
  | 8, _ => show sashref01_Digit.f 8 = some (⟨#[UInt8.ofNat (48 + 8)]⟩ : ByteArray); kernel_rfl
  | 9, _ => show sashref01_Digit.f 9 = some (⟨#[UInt8.ofNat (48 + 9)]⟩ : ByteArray); kernel_rfl

theorem nw64 (x : Int) (h0 : 0 ≤ x) (h1 : x ≤ 4294967296) : wrap64 x = x := by unfold wrap64; omega
theorem tdiv10 (n : Nat) (h : n ≤ 2147483647) : wrap64 (Int.tdiv (n : Int) 10) = ((n / 10 : Nat) : Int) := by
  rw [Int.tdiv_eq_ediv_of_nonneg (by omega), nw64 _ (by omega) (by omega)]
  rfl
theorem tmod10 (n : Nat) : Int.tmod (n : Int) 10 = ((n % 10 : Nat) : Int) := by
  rw [Int.tmod_eq_emod_of_nonneg (by omega)]
  rfl
theorem refDig_l0 (k : Nat) : ∀ (n : Nat) (suf : ByteArray), n < 10 ^ (k + 1) → n ≤ 2147483647 → suf.size + k ≤ 1000 →
    sashref01_Digits.l0 (k + 1) (n : Int) ((⟨#[UInt8.ofNat (48 + n % 10)]⟩ : ByteArray) ++ suf) = some ((⟨(decDigits n).toArray⟩ : ByteArray) ++ suf) := by
  induction k with
  | zero =>
    intro n suf hn hm hs
    have h9 : n < 10 := by simpa using hn
    simp only [sashref01_Digits.l0]
    rw [if_neg (by omega), dec_one n h9, Nat.mod_eq_of_lt h9]
  | succ k ih =>
    intro n suf hn hm hs
    by_cases h9 : n < 10
    · simp only [sashref01_Digits.l0]
      rw [if_neg (by omega), dec_one n h9, Nat.mod_eq_of_lt h9]
    · have e : sashref01_Digits.l0 (k + 1 + 1) (n : Int) ((⟨#[UInt8.ofNat (48 + n % 10)]⟩ : ByteArray) ++ suf) = sashref01_Digits.l0 (k + 1) ((n / 10 : Nat) : Int) ((⟨#[UInt8.ofNat (48 + n / 10 % 10)]⟩ : ByteArray) ++ ((⟨#[UInt8.ofNat (48 + n % 10)]⟩ : ByteArray) ++ suf)) := by
        rw [sashref01_Digits.l0]
        rw [if_pos (by omega), tdiv10 n hm, tmod10, ten_digit _ (by omega), Option.bind_some]
        rw [if_pos (by rw [ByteArray.size_append]; show 1 + (1 + suf.size) ≤ _; omega)]
      have hp : n / 10 < 10 ^ (k + 1) := by
        rw [Nat.pow_succ] at hn; omega
      rw [e, ih (n / 10) _ hp (by omega) (by rw [ByteArray.size_append]; show 1 + suf.size + k ≤ _; omega), dec_step n h9, ← ByteArray.append_assoc]
      congr 2
theorem refDigits_pure (n : Int) (h0 : -9223372036854775808 ≤ n) (h1 : n ≤ 9223372036854775807) : sashref01_Digits.f 12 n = some (digS n) := by
  unfold sashref01_Digits.f digS
  by_cases h : n < 0
  · rw [if_pos h, if_pos (.inl h)]
    rfl
  · rw [if_neg h]
    by_cases h2 : 2147483647 < n
    · rw [if_pos (.inr h2), decide_eq_true h2]
      rfl
    · rw [if_neg (by omega), decide_eq_false h2]
      obtain ⟨m, rfl⟩ := Int.eq_ofNat_of_zero_le (by omega : 0 ≤ n)
      have e : sashref01_Digits.j0 12 (m : Int) false = sashref01_Digits.l0 11 (m : Int) (⟨#[UInt8.ofNat (48 + m % 10)]⟩ : ByteArray) := by
        rw [sashref01_Digits.j0]
        rw [if_neg (by decide), tmod10, ten_digit _ (by omega), Option.bind_some]
      have h := refDig_l0 10 m (⟨#[]⟩ : ByteArray) (by omega) (by omega) (by decide)
      rw [app_nil, app_nil] at h
      rw [e, h, Lib.itoa_nonneg]

theorem drop_at (s : ByteArray) (k : Nat) (h : k < s.size) : s.data.toList.drop k = s[k] :: s.data.toList.drop (k + 1) := by
  rw [List.drop_eq_getElem_cons (by simpa using h)]; rfl
def plainB (b : UInt8) : Bool := plainSet.data.toList.contains b
theorem plain_f13 : ∀ i : Fin 256, sashref20_plain.f 13 ((UInt8.ofNat i.val).toNat : Int) = some (plainB (UInt8.ofNat i.val)) := by decide +kernel
theorem plain_f (b : UInt8) (k : Nat) (hk : 13 ≤ k) : sashref20_plain.f k (b.toNat : Int) = some (plainB b) := by
  induction k with
  | zero => omega
  | succ k ih =>
    by_cases h : k + 1 = 13
    · rw [h]
      have := plain_f13 ⟨b.toNat, b.toNat_lt⟩
      simpa using this
    · exact sashref20_plain.mono _ k _ (ih (by omega))

theorem bt_nat (s : ByteArray) (n : Nat) (h : n < s.size) : bt s (n : Int) = (s[n].toNat : Int) := by
  unfold bt
  rw [dif_pos (show ((n : Int)).toNat < s.size by omega)]
  rfl
theorem ext_one (s : ByteArray) (n : Nat) (h : n < s.size) : (s.extract n (n + 1)).data.toList = [s[n]] := by
  have h' : n < s.data.toList.length := by simpa using h
  rw [ByteArray.data_extract, Array.toList_extract, List.extract_eq_take_drop, Nat.add_sub_cancel_left, List.drop_eq_getElem_cons h']
  simp [ByteArray.getElem_eq_getElem_data]

theorem wrap_nat (n : Nat) (h : n < 4611686018427387904) : wrap64 ((n : Int) + 1) = ((n + 1 : Nat) : Int) := by
  unfold wrap64; omega

def qEnd (s x : ByteArray) (al : Bool) (n : Nat) : ByteArray :=
  if (al && (s.data.toList.drop n).all plainB) = true then s else ⟨(34 :: (x.data.toList ++ ((s.data.toList.drop n).flatMap escB ++ [34]))).toArray⟩

theorem quote_l0 (s : ByteArray) (hs : s.size ≤ 1000000) : ∀ (d n : Nat), s.size - n = d → n ≤ s.size → ∀ (k : Nat), d + 15 ≤ k → ∀ (x : ByteArray) (al : Bool), x.size ≤ 2 * n →
    sashref20_Quote.l0 k s x al (n : Int) = some (qEnd s x al n) := by
  intro d
  induction d with
  | zero =>
    intro n hd hn k hk x al hx
    obtain ⟨k, rfl⟩ : ∃ k', k = k' + 1 := ⟨k - 1, by omega⟩
    have hN : n = s.size := by omega
    have he : s.data.toList.drop n = [] := List.drop_eq_nil_of_le (by rw [hN]; simp)
    unfold sashref20_Quote.l0 qEnd
    rw [if_neg (by omega), he]
    cases al with
    | true => rfl
    | false =>
      have hz : ((⟨#[34]⟩ : ByteArray) ++ x).size = 1 + x.size := by rw [ByteArray.size_append]; rfl
      rw [if_neg (by decide), if_pos (by omega), if_pos (by rw [hz]; omega), if_neg (by simp)]
      apply congrArg some
      apply ByteArray.ext
      apply Array.toList_inj.1
      simp [ByteArray.data_append]
  | succ d ih =>
    intro n hd hn k hk x al hx
    obtain ⟨k, rfl⟩ : ∃ k', k = k' + 1 := ⟨k - 1, by omega⟩
    have hN : n < s.size := by omega
    have hb := bt_nat s n hN
    have hw := wrap_nat n (by omega)
    have he := drop_at s n hN
    have hx1 := ext_one s n hN
    have hx2 : (s.extract n (n + 1)).size = 1 := by rw [ByteArray.size_extract]; omega
    have h92 : (x ++ (⟨#[92]⟩ : ByteArray)).size = x.size + 1 := by rw [ByteArray.size_append]; rfl
    have step : ∀ (X : ByteArray) (al' : Bool), X.data.toList = x.data.toList ++ escB s[n] → al' = (al && plainB s[n]) → sashref20_Quote.l0 k s X al' ((n + 1 : Nat) : Int) = some (qEnd s x al n) := by
      intro X al' hX hal
      have hl : X.size ≤ 2 * (n + 1) := by
        have h1 := congrArg List.length hX
        have h2 : (escB s[n]).length ≤ 2 := by unfold escB; split <;> simp
        rw [List.length_append] at h1
        simp at h1
        omega
      rw [ih (n + 1) (by omega) (by omega) k (by omega) X al' hl]
      unfold qEnd
      rw [he, hX, hal]
      simp only [List.all_cons, List.flatMap_cons, Bool.and_assoc, List.append_assoc]
    have tn : ((n : Int)).toNat = n := by omega
    have tn1 : (((n + 1 : Nat) : Int)).toNat = n + 1 := by omega
    have e1 : (x ++ (⟨#[92]⟩ : ByteArray) ++ s.extract n (n + 1)).data.toList = x.data.toList ++ [92, s[n]] := by
      rw [ByteArray.data_append, ByteArray.data_append, Array.toList_append, Array.toList_append, hx1]; simp
    have e0 : (x ++ s.extract n (n + 1)).data.toList = x.data.toList ++ [s[n]] := by
      rw [ByteArray.data_append, Array.toList_append, hx1]
    unfold sashref20_Quote.l0
    rw [if_pos (by omega), hb, hw, tn, tn1]
    by_cases h34 : s[n].toNat = 34
    · have hE : escB s[n] = [92, s[n]] := by unfold escB; rw [if_pos (Or.inl h34)]
      cases al with
      | true =>
        rw [if_pos rfl, if_pos (by omega), plain_f _ k (by omega), Option.bind_some, if_pos (by omega), if_pos (by omega), if_pos (by omega), if_pos (by omega), if_pos (by rw [h92, hx2]; omega)]
        exact step _ _ (by rw [e1, hE]) (by simp)
      | false =>
        rw [if_neg (by decide), if_pos (by omega), if_pos (by omega), if_pos (by omega), if_pos (by omega), if_pos (by omega), if_pos (by rw [h92, hx2]; omega)]
        exact step _ _ (by rw [e1, hE]) (by simp)
    · by_cases h92' : s[n].toNat = 92
      · have hE : escB s[n] = [92, s[n]] := by unfold escB; rw [if_pos (Or.inr h92')]
        cases al with
        | true =>
          rw [if_pos rfl, if_pos (by omega), plain_f _ k (by omega), Option.bind_some, if_neg (by omega), if_pos (by omega), if_pos (by omega), if_pos (by omega), if_pos (by omega), if_pos (by rw [h92, hx2]; omega)]
          exact step _ _ (by rw [e1, hE]) (by simp)
        | false =>
          rw [if_neg (by decide), if_pos (by omega), if_neg (by omega), if_pos (by omega), if_pos (by omega), if_pos (by omega), if_pos (by omega), if_pos (by rw [h92, hx2]; omega)]
          exact step _ _ (by rw [e1, hE]) (by simp)
      · have hE : escB s[n] = [s[n]] := by unfold escB; rw [if_neg (by omega)]
        cases al with
        | true =>
          rw [if_pos rfl, if_pos (by omega), plain_f _ k (by omega), Option.bind_some, if_neg (by omega), if_neg (by omega), if_pos (by omega), if_pos (by omega), if_pos (by rw [hx2]; omega)]
          exact step _ _ (by rw [e0, hE]) (by simp)
        | false =>
          rw [if_neg (by decide), if_pos (by omega), if_neg (by omega), if_neg (by omega), if_pos (by omega), if_pos (by omega), if_pos (by rw [hx2]; omega)]
          exact step _ _ (by rw [e0, hE]) (by simp)

def quotedB (s : ByteArray) : ByteArray := ⟨(quotedL s.data.toList).toArray⟩
theorem quote_f (s : ByteArray) (hs : s.size ≤ 1000000) (k : Nat) (hk : s.size + 15 ≤ k) : sashref20_Quote.f k s = some (quotedB s) := by
  unfold sashref20_Quote.f
  have h := quote_l0 s hs s.size 0 (by omega) (by omega) k hk (⟨#[]⟩ : ByteArray) (s.toList != ([] : List UInt8)) (by decide)
  rw [show ((0 : Nat) : Int) = 0 from rfl] at h
  rw [h]
  apply congrArg some
  unfold qEnd quotedB quotedL bareL
  have e : (s.toList != ([] : List UInt8)) = !s.data.toList.isEmpty := by
    have : s.toList = s.data.toList := ByteArray.toList_eq s
    rw [this]; cases s.data.toList <;> rfl
  rw [e, List.drop_zero]
  show (if (!s.data.toList.isEmpty && s.data.toList.all plainB) = true then _ else _) = _
  by_cases h : (!s.data.toList.isEmpty && s.data.toList.all plainB) = true
  · rw [if_pos h]
    have h' : (!s.data.toList.isEmpty && s.data.toList.all (fun b => plainSet.data.toList.contains b)) = true := h
    rw [if_pos h']
  · rw [if_neg h]
    have h' : ¬ (!s.data.toList.isEmpty && s.data.toList.all (fun b => plainSet.data.toList.contains b)) = true := h
    rw [if_neg h']
    rfl


def hexA (b : UInt8) : ByteArray := bsOf [(hex2 b).getD 0 0]
def hexB (b : UInt8) : ByteArray := bsOf [(hex2 b).getD 1 0]
theorem hexAB (b : UInt8) : hexA b ++ hexB b = bsOf (hex2 b) := by
  unfold hexA hexB
  rw [bs_app]
  rfl
theorem digit256 : ∀ i : Fin 256, sashref01_Digit.f (((UInt8.ofNat i.val).toNat / 16 : Nat) : Int) = some (hexA (UInt8.ofNat i.val)) ∧ sashref01_Digit.f (((UInt8.ofNat i.val).toNat % 16 : Nat) : Int) = some (hexB (UInt8.ofNat i.val)) := by decide +kernel

set_option maxHeartbeats 4000000 in
theorem May_f (k : Nat) (f0 f1 : Int) (f2 : ByteArray) : sashref25_May.f (k + 1) f0 f1 f2 = script_may.f f0 f1 f2 := by
  have hz : f2.toList = [] → f2.size = 0 := fun h => by
    have : f2.data.toList.length = f2.size := by simp
    rw [ByteArray.toList_eq] at h
    rw [h] at this
    exact this.symm
  unfold sashref25_May.f script_may.f
  simp only [sashref25_May.j0]
  by_cases e1 : f0 = 1
  · subst e1
    rw [if_neg (by decide), if_neg (by decide), if_pos rfl]
    by_cases h1 : f1 < 0
    · rw [if_pos h1, if_pos trivial]
      have : (f1 == 0) = false := beq_eq_false_iff_ne.2 (by omega)
      rw [this]; rfl
    · rw [if_neg h1]
      by_cases h2 : f1 > 2147483647
      · rw [decide_eq_true h2, if_pos rfl]
        have : (f1 == 0) = false := beq_eq_false_iff_ne.2 (by omega)
        rw [this]; rfl
      · rw [decide_eq_false h2, if_neg (by decide)]
        by_cases h3 : f1 = 0
        · subst h3
          by_cases h4 : f2.toList = []
          · have h5 := hz h4
            simp [h4, h5]
          · simp [h4]
        · have : (f1 == 0) = false := beq_eq_false_iff_ne.2 h3
          rw [this]
          simp [h3]
  · by_cases e2 : f0 < 1
    · simp [e1, e2, show f0 ≠ 2 by omega, show f0 ≠ 3 by omega, show f0 ≠ 4 by omega, show f0 ≠ 5 by omega, show f0 ≠ 6 by omega]
    · by_cases e3 : f0 > 6
      · simp [e1, e2, e3, show f0 ≠ 2 by omega, show f0 ≠ 3 by omega, show f0 ≠ 4 by omega, show f0 ≠ 5 by omega, show f0 ≠ 6 by omega]
      · have hk : f0 = 2 ∨ f0 = 3 ∨ f0 = 4 ∨ f0 = 5 ∨ f0 = 6 := by omega
        by_cases h1 : f1 < 0
        · have h1' : ¬ 0 ≤ f1 := by omega
          rcases hk with h | h | h | h | h <;> subst h <;> simp [h1, h1']
        · have h1' : 0 ≤ f1 := by omega
          by_cases h2 : f1 > 2147483647
          · have h2' : ¬ f1 ≤ 2147483647 := by omega
            rcases hk with h | h | h | h | h <;> subst h <;> simp [h1, h1', h2, h2']
          · have h2' : f1 ≤ 2147483647 := by omega
            by_cases h4 : f2.toList = []
            · have h5 := hz h4
              rcases hk with h | h | h | h | h <;> subst h <;> simp [h1, h1', h2, h2', h4, h5]
            · by_cases h6 : (f2.size : Int) > 65535
              · have h7 : 65535 < f2.size := by omega
                have h8 : ¬ f2.size ≤ 65535 := by omega
                have h9 : ¬ (f2.size : Int) ≤ 65535 := by omega
                rcases hk with h | h | h | h | h <;> subst h <;> simp [h1, h1', h2, h2', h4, h6, h7, h8, h9]
              · have h7 : ¬ 65535 < f2.size := by omega
                have h8 : f2.size ≤ 65535 := by omega
                have h9 : (f2.size : Int) ≤ 65535 := by omega
                rcases hk with h | h | h | h | h <;> subst h <;> simp [h1, h1', h2, h2', h4, h6, h7, h8, h9]
end Go.Proofs.YtmcjfnebkpifnaaGreatDoor

/-
  The text's cutter, the document's end of a line, and the sameness of happenings: what they are. Pure.
-/
namespace Go.Proofs.YtmcjfnebkpifnaaGreatDoor
open Go.RowKit Go.Proofs.YtmcjfnebkpifnaaGreatDoorW.PrintWords Go.Proofs.YtmcjfnebkpifnaaGreatDoorW.PrintLast Go.Proofs.YtmcjfnebkpifnaaGreatDoorW.PrintMore Go.Proofs.YtmcjfnebkpifnaaGreatDoor.PScriptReads
set_option linter.unusedVariables false
set_option linter.unusedSimpArgs false

theorem ext_list (s : ByteArray) (a b : Nat) : s.extract a b = bsOf ((s.data.toList.drop a).take (b - a)) := by
  apply bs_ext
  rw [bs_list, ByteArray.data_extract, Array.toList_extract, List.extract_eq_take_drop]
theorem take_step (L : List UInt8) (a i : Nat) (h : a ≤ i) (hi : i < L.length) : (L.drop a).take (i + 1 - a) = (L.drop a).take (i - a) ++ [L[i]] := by
  rw [show i + 1 - a = (i - a) + 1 by omega, List.take_succ_eq_append_getElem (by rw [List.length_drop]; omega)]
  congr 2
  rw [List.getElem_drop]
  congr 1
  omega
theorem take_self (L : List UInt8) (a : Nat) : (L.drop a).take (a - a) = [] := by simp
theorem byte_is (c : UInt8) (m : Nat) (hm : m < 256) : ((c.toNat : Int) = (m : Int)) ↔ c = UInt8.ofNat m := by
  constructor
  · intro h
    apply UInt8.toNat_inj.1
    rw [show (UInt8.ofNat m).toNat = m % 256 by simp]
    omega
  · rintro rfl
    rw [show (UInt8.ofNat m).toNat = m % 256 by simp]
    omega
def cutR (q : Bool) (cur l : List UInt8) (out : List ByteArray) : List ByteArray × ByteArray := (out ++ (cutL q false cur l).1.map bsOf, bsOf (cutL q false cur l).2)
theorem wrap1 (n : Nat) (h : n < 4611686018427387904) : wrap64 ((n : Int) + 1) = ((n + 1 : Nat) : Int) := by unfold wrap64; omega
theorem wrap2 (n : Nat) (h : n < 4611686018427387904) : wrap64 (wrap64 ((n : Int) + 1) + 1) = ((n + 2 : Nat) : Int) := by rw [wrap1 n h]; unfold wrap64; omega
theorem cut_end (s : ByteArray) (hs : s.size ≤ 1000000) (k : Nat) (out : List ByteArray) (a : Nat) (q : Bool) (i : Nat) (ha : a ≤ s.size) (hi : s.size ≤ i) :
    script_cut.l0 (k + 1) s out (a : Int) q (i : Int) = some (out, bsOf ((s.data.toList.drop a).take (s.size - a))) := by
  have hm : mn (a : Int) (s.size : Int) = (a : Int) := by unfold mn; split <;> omega
  rw [script_cut.l0, if_neg (by omega), hm, if_pos (by omega), if_pos (by omega), ext_list]
  rfl
theorem cut_l0 (s : ByteArray) (hs : s.size ≤ 1000000) : ∀ (d i : Nat), s.size - i = d → i ≤ s.size → ∀ (k : Nat), 2 * d + 2 ≤ k → ∀ (out : List ByteArray) (a : Nat) (q : Bool), a ≤ i → out.length ≤ i →
    script_cut.l0 k s out (a : Int) q (i : Int) = some (cutR q ((s.data.toList.drop a).take (i - a)) (s.data.toList.drop i) out) := by
  intro d
  have hL : s.data.toList.length = s.size := by simp
  induction d using Nat.strongRecOn with
  | ind d ih =>
  intro i hd hi k hk out a q ha ho
  by_cases h : i < s.size
  · obtain ⟨k, rfl⟩ : ∃ k', k = k' + 2 := ⟨k - 2, by omega⟩
    have hb := bt_nat s i h
    have he := drop_at s i h
    have hts := take_step s.data.toList a i ha (by omega)
    have hg : s.data.toList[i]'(by omega) = s[i] := rfl
    rw [hg] at hts
    have w1 := Aside0.mk (wrap1 i (by omega))
    have w2 := Aside0.mk (wrap2 i (by omega))
    have ih1 : ∀ (k' : Nat), 2 * (d - 1) + 2 ≤ k' → ∀ (out : List ByteArray) (a : Nat) (q : Bool), a ≤ i + 1 → out.length ≤ i + 1 →
      script_cut.l0 k' s out (a : Int) q ((i + 1 : Nat) : Int) = some (cutR q ((s.data.toList.drop a).take (i + 1 - a)) (s.data.toList.drop (i + 1)) out) := ih (d - 1) (by omega) (i + 1) (by omega) (by omega)
    have e0 : ∀ (b : Bool), script_cut.l0 (k + 2) s out (a : Int) q (i : Int) = (if s[i] = 92 then script_cut.j1 (k + 1) s out (a : Int) q (i : Int) q else script_cut.j1 (k + 1) s out (a : Int) q (i : Int) false) := by
      intro _
      rw [script_cut.l0, if_pos (by omega), if_pos (by omega), hb]
      by_cases c : s[i] = 92
      · rw [if_pos c, if_pos (by rw [c]; rfl)]
      · rw [if_neg c, if_neg (fun hc => c ((byte_is s[i] 92 (by decide)).1 hc))]
    have ej : script_cut.j1 (k + 1) s out (a : Int) q (i : Int) false = (if s[i] = 34 then script_cut.l0 k s out (a : Int) (!q) ((i + 1 : Nat) : Int) else if s[i] = 10 then (if q = true then script_cut.l0 k s out (a : Int) q ((i + 1 : Nat) : Int) else script_cut.l0 k s (out ++ [bsOf ((s.data.toList.drop a).take (i - a))]) ((i + 1 : Nat) : Int) q ((i + 1 : Nat) : Int)) else script_cut.l0 k s out (a : Int) q ((i + 1 : Nat) : Int)) := by
      rw [script_cut.j1, if_neg (by decide), if_pos (by omega), if_pos (by omega), hb, w1.out]
      by_cases c : s[i] = 34
      · rw [if_pos c, if_pos (by rw [c]; rfl)]
      · rw [if_neg c, if_neg (fun hc => c ((byte_is s[i] 34 (by decide)).1 hc))]
        by_cases c2 : s[i] = 10
        · rw [if_pos c2, if_pos (by rw [c2]; rfl)]
          by_cases c3 : q = true
          · rw [if_pos c3, if_pos c3]
          · rw [if_neg c3, if_neg c3, if_pos (by omega), if_pos (by omega), if_pos (by omega), if_pos (by omega), ext_list]
            rfl
        · rw [if_neg c2, if_neg (fun hc => c2 ((byte_is s[i] 10 (by decide)).1 hc))]
    rw [e0 true, he]
    unfold cutR
    rw [cutL]
    by_cases c92 : s[i] = 92 ∧ q = true
    · obtain ⟨c, rfl⟩ := c92
      rw [if_pos c, if_pos ⟨c, rfl⟩, script_cut.j1, if_pos rfl, w2.out]
      by_cases h2 : i + 1 < s.size
      · have he2 := drop_at s (i + 1) h2
        have hts2 := take_step s.data.toList a (i + 1) (by omega) (by omega)
        have hg2 : s.data.toList[i + 1]'(by omega) = s[i + 1] := rfl
        rw [hg2, hts] at hts2
        rw [ih (d - 2) (by omega) (i + 2) (by omega) (by omega) k (by omega) out a true (by omega) (by omega), he2, cutL]
        unfold cutR
        rw [show i + 2 - a = i + 1 + 1 - a by omega, hts2]
      · have hi1 : i + 1 = s.size := by omega
        obtain ⟨k, rfl⟩ : ∃ k', k = k' + 1 := ⟨k - 1, by omega⟩
        rw [cut_end s hs k out a true (i + 2) (by omega) (by omega), List.drop_eq_nil_of_le (show s.data.toList.length ≤ i + 1 by omega), ← hi1, hts]
        simp [cutL]
    · rw [if_neg c92]
      have e1 : (if s[i] = 92 then script_cut.j1 (k + 1) s out (a : Int) q (i : Int) q else script_cut.j1 (k + 1) s out (a : Int) q (i : Int) false) = script_cut.j1 (k + 1) s out (a : Int) q (i : Int) false := by
        by_cases c : s[i] = 92
        · have hq : q = false := by cases q with
            | false => rfl
            | true => exact absurd ⟨c, rfl⟩ c92
          rw [if_pos c, hq]
        · rw [if_neg c]
      rw [e1, ej]
      by_cases c34 : s[i] = 34
      · rw [if_pos c34, if_pos c34, ih1 k (by omega) out a (!q) (by omega) (by omega), hts]
        rfl
      · rw [if_neg c34, if_neg c34]
        by_cases c10 : s[i] = 10 ∧ q = false
        · obtain ⟨c, rfl⟩ := c10
          rw [if_pos c, if_neg (by decide), if_pos ⟨c, rfl⟩, ih1 k (by omega) _ (i + 1) false (by omega) (by rw [List.length_append, List.length_singleton]; omega), take_self]
          unfold cutR
          simp
        · rw [if_neg c10]
          have e2 : (if s[i] = 10 then (if q = true then script_cut.l0 k s out (a : Int) q ((i + 1 : Nat) : Int) else script_cut.l0 k s (out ++ [bsOf ((s.data.toList.drop a).take (i - a))]) ((i + 1 : Nat) : Int) q ((i + 1 : Nat) : Int)) else script_cut.l0 k s out (a : Int) q ((i + 1 : Nat) : Int)) = script_cut.l0 k s out (a : Int) q ((i + 1 : Nat) : Int) := by
            by_cases c : s[i] = 10
            · have hq : q = true := by cases q with
                | true => rfl
                | false => exact absurd ⟨c, rfl⟩ c10
              rw [if_pos c, if_pos hq]
            · rw [if_neg c]
          rw [e2, ih1 k (by omega) out a q (by omega) (by omega), hts]
          rfl
  · have hi1 : i = s.size := by omega
    obtain ⟨k, rfl⟩ : ∃ k', k = k' + 1 := ⟨k - 1, by omega⟩
    rw [cut_end s hs k out a q i (by omega) (by omega), List.drop_eq_nil_of_le (show s.data.toList.length ≤ i by omega), hi1]
    simp [cutR, cutL]
theorem cut_f (s : ByteArray) (hs : s.size ≤ 1000000) : script_cut.f (2 * s.size + 2) s = some ((cutL false false [] s.data.toList).1.map bsOf, bsOf (cutL false false [] s.data.toList).2) := by
  have h := cut_l0 s hs s.size 0 (by omega) (by omega) _ (Nat.le_refl _) [] 0 false (by omega) (by simp)
  unfold script_cut.f
  have e : script_cut.l0 (2 * s.size + 2) s [] 0 false 0 = _ := h
  rw [e]
  simp [cutR]

def endR (at_ : Nat) : Option (List UInt8 × List UInt8) → Int
  | none => -1
  | some p => ((at_ + p.1.length : Nat) : Int)
theorem endR_map (i : Nat) (c : UInt8) (x : Option (List UInt8 × List UInt8)) : endR i (x.map (fun p => (c :: p.1, p.2))) = endR (i + 1) x := by
  cases x with
  | none => rfl
  | some p => simp [endR]; omega
theorem end_l0 (s : ByteArray) (hs : s.size ≤ 1000000) : ∀ (d i : Nat), s.size - i = d → ∀ (k : Nat), 2 * d + 2 ≤ k → ∀ (q : Bool), sashref25_end.l0 k s (i : Int) q = some (endR i (scanL q false (s.data.toList.drop i))) := by
  intro d
  have hL : s.data.toList.length = s.size := by simp
  induction d using Nat.strongRecOn with
  | ind d ih =>
  intro i hd k hk q
  by_cases h : i < s.size
  · obtain ⟨k, rfl⟩ : ∃ k', k = k' + 2 := ⟨k - 2, by omega⟩
    have he := drop_at s i h
    have w1 := Aside0.mk (wrap1 i (by omega))
    have w2 := Aside0.mk (wrap2 i (by omega))
    have hx : (s.extract ((i : Int)).toNat (wrap64 ((i : Int) + 1)).toNat).toList = [s[i]] := by
      rw [w1.out, ByteArray.toList_eq, show ((i : Int)).toNat = i by omega, show (((i + 1 : Nat) : Int)).toNat = i + 1 by omega]
      exact ext_one s i h
    have ih1 : ∀ (q : Bool), sashref25_end.l0 k s ((i + 1 : Nat) : Int) q = some (endR (i + 1) (scanL q false (s.data.toList.drop (i + 1)))) := ih (d - 1) (by omega) (i + 1) (by omega) k (by omega)
    rw [he, scanL, sashref25_end.l0, if_pos (by omega), if_pos (by omega), if_pos (by rw [w1.out]; omega), if_pos (by rw [w1.out]; omega), hx]
    by_cases c10 : s[i] = 10
    · have hn92 : ¬ s[i] = 92 := by rw [c10]; decide
      have hn34 : ¬ s[i] = 34 := by rw [c10]; decide
      rw [if_pos (by rw [c10]), if_neg (fun h => hn92 h.1), if_neg hn34, sashref25_end.j1, hx]
      cases q with
      | false =>
        rw [if_pos (show (!false) = true from rfl), if_pos ⟨c10, rfl⟩]
        simp [endR]
      | true =>
        rw [if_neg (by decide), if_neg (by simp [c10]), if_neg (by simp [c10]), if_neg (by simp), endR_map, w1.out]
        exact ih1 true
    · rw [if_neg (by simp [c10]), sashref25_end.j1, hx, if_neg (by decide)]
      by_cases c34 : s[i] = 34
      · have hn92 : ¬ s[i] = 92 := by rw [c34]; decide
        rw [if_pos (by rw [c34]), if_neg (by simp [c34]), if_neg (fun h => hn92 h.1), if_pos c34, endR_map, w1.out]
        exact ih1 (!q)
      · rw [if_neg (by simp [c34])]
        by_cases c92 : s[i] = 92
        · rw [if_pos (by rw [c92])]
          cases q with
          | true =>
            rw [if_pos rfl, if_pos ⟨c92, rfl⟩, endR_map, w2.out]
            by_cases h2 : i + 1 < s.size
            · have he2 := drop_at s (i + 1) h2
              rw [he2, scanL, endR_map]
              exact ih (d - 2) (by omega) (i + 2) (by omega) k (by omega) true
            · obtain ⟨k, rfl⟩ : ∃ k', k = k' + 1 := ⟨k - 1, by omega⟩
              rw [List.drop_eq_nil_of_le (show s.data.toList.length ≤ i + 1 by omega), sashref25_end.l0, if_neg (by omega)]
              simp [scanL, endR]
          | false =>
            rw [if_neg (by decide), if_neg (by simp), if_neg c34, if_neg (fun h => c10 h.1), endR_map, w1.out]
            exact ih1 false
        · rw [if_neg (by simp [c92]), if_neg (fun h => c92 h.1), if_neg c34, if_neg (fun h => c10 h.1), endR_map, w1.out]
          exact ih1 q
  · obtain ⟨k, rfl⟩ : ∃ k', k = k' + 1 := ⟨k - 1, by omega⟩
    rw [List.drop_eq_nil_of_le (show s.data.toList.length ≤ i by omega), sashref25_end.l0, if_neg (by omega)]
    simp [scanL, endR]
theorem end_f (s : ByteArray) (hs : s.size ≤ 1000000) (i : Nat) : sashref25_end.f (2 * s.size + 2) s (i : Int) = some (endR i (scanL false false (s.data.toList.drop i))) :=
  end_l0 s hs (s.size - i) i rfl _ (by omega) false
end Go.Proofs.YtmcjfnebkpifnaaGreatDoor
