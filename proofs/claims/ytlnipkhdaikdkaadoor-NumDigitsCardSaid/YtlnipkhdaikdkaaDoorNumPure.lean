/-
  Numbers and their digits, there and back: pure.
-/
import Derived.Test.YtlnipkhdaikdkaaDoorNuHead
import Derived.Test.YtlnipkhdaikdkaaDoorNuDigits
import Derived.Lib.ItoaNum
namespace Go.Proofs.YtlnipkhdaikdkaaDoor
open Go.RowKit Go.Proofs.YtlnipkhdaikdkaaDoorW.PrintWords Go.Proofs.YtlnipkhdaikdkaaDoorW.PrintLast Go.Proofs.YtlnipkhdaikdkaaDoorW.PrintMore
open Go.Lib (parseUintM decDigits)
set_option linter.unusedVariables false

theorem dec_step (n : Nat) (h : ¬ n < 10) : decDigits n = decDigits (n / 10) ++ [UInt8.ofNat (48 + n % 10)] := by
  rw [decDigits, dif_neg h]
theorem dec_one (n : Nat) (h : n < 10) : decDigits n = [UInt8.ofNat (48 + n)] := by
  rw [decDigits, dif_pos h]
theorem ofNat_toNat (m : Nat) (h : m < 256) : (UInt8.ofNat m).toNat = m := by
  rw [show (UInt8.ofNat m).toNat = m % 256 by simp]; omega
theorem digit_isD (m : Nat) (h : m < 10) : isD (UInt8.ofNat (48 + m)) = true := by
  unfold isD
  rw [ofNat_toNat _ (by omega)]
  simp; omega
theorem parse_append (M : Nat) : ∀ (a b : List UInt8) (acc : Nat), parseUintM M acc (a ++ b) = match parseUintM M acc a with
    | .ok u => parseUintM M u b
    | e => e
  | [], b, acc => rfl
  | c :: r, b, acc => by
    have e : ∀ r : List UInt8, parseUintM M acc (c :: r) = if 48 ≤ c.toNat ∧ c.toNat ≤ 57 then if 1844674407370955162 ≤ acc then .range else if M < acc * 10 + (c.toNat - 48) then .range else parseUintM M (acc * 10 + (c.toNat - 48)) r else Lib.NumEnd.syntax := fun _ => rfl
    rw [List.cons_append, e, e]
    split
    · split
      · rfl
      · split
        · rfl
        · exact parse_append M r b _
    · rfl
theorem parse_digit (M acc m : Nat) (h : m < 10) (hM : M ≤ 2147483647) (hacc : acc * 10 + m ≤ M) : parseUintM M acc [UInt8.ofNat (48 + m)] = .ok (acc * 10 + m) := by
  unfold parseUintM
  rw [ofNat_toNat _ (by omega), if_pos (by omega), if_neg (by omega), if_neg (by omega)]
  show Lib.NumEnd.ok (acc * 10 + (48 + m - 48)) = _
  rw [Nat.add_sub_cancel_left]
theorem parse_dec (M : Nat) (hM : M ≤ 2147483647) (n : Nat) : n ≤ M → parseUintM M 0 (decDigits n) = .ok n := by
  induction n using Nat.strongRecOn with
  | ind n ih =>
    intro hn
    by_cases h : n < 10
    · rw [dec_one n h]
      have := parse_digit M 0 n h hM (by omega)
      rw [Nat.zero_mul, Nat.zero_add] at this
      exact this
    · rw [dec_step n h, parse_append, ih (n / 10) (by omega) (by omega)]
      have := parse_digit M (n / 10) (n % 10) (by omega) hM (by omega)
      rw [show n / 10 * 10 + n % 10 = n from by omega] at this
      exact this
theorem dec_all (n : Nat) : ∀ b ∈ decDigits n, isD b = true := by
  induction n using Nat.strongRecOn with
  | ind n ih =>
    intro b hb
    by_cases h : n < 10
    · rw [dec_one n h] at hb
      rw [List.mem_singleton.1 hb]
      exact digit_isD n h
    · rw [dec_step n h] at hb
      rcases List.mem_append.1 hb with hb | hb
      · exact ih (n / 10) (by omega) b hb
      · rw [List.mem_singleton.1 hb]
        exact digit_isD _ (by omega)
theorem dec_ne (n : Nat) : decDigits n ≠ [] := by
  by_cases h : n < 10
  · rw [dec_one n h]; simp
  · rw [dec_step n h]; simp
theorem getD_append {a b : List UInt8} (h : a ≠ []) : (a ++ b).getD 0 0 = a.getD 0 0 := by
  cases a with
  | nil => exact absurd rfl h
  | cons x r => rfl
theorem dec_first (n : Nat) : 1 ≤ n → (decDigits n).getD 0 0 ≠ 48 := by
  induction n using Nat.strongRecOn with
  | ind n ih =>
    intro h1
    by_cases h : n < 10
    · rw [dec_one n h]
      show UInt8.ofNat (48 + n) ≠ 48
      intro he
      have := congrArg UInt8.toNat he
      rw [ofNat_toNat _ (by omega)] at this
      have e : (48 : UInt8).toNat = 48 := rfl
      omega
    · rw [dec_step n h, getD_append (dec_ne _)]
      exact ih (n / 10) (by omega) (by omega)
theorem takeWhile_all (p : UInt8 → Bool) : ∀ (l : List UInt8), (∀ b ∈ l, p b = true) → l.takeWhile p = l
  | [], _ => rfl
  | x :: r, h => by
    rw [List.takeWhile_cons, if_pos (h x List.mem_cons_self), takeWhile_all p r (fun b hb => h b (List.mem_cons_of_mem _ hb))]
theorem digS_in (n : Nat) (h : n ≤ 2147483647) : (digS (n : Int)).data.toList = decDigits n := by
  unfold digS
  rw [if_neg (by omega)]
  show (Lib.itoa (n : Int)).toArray.toList = _
  rw [Lib.itoa_nonneg]
theorem head_dig (n : Nat) (h : n ≤ 2147483647) : headL (digS (n : Int)) = decDigits n := by
  unfold headL
  rw [digS_in n h]
  exact takeWhile_all _ _ (dec_all n)
theorem size_list (s : ByteArray) : s.size = s.data.toList.length := by simp
theorem read_dig (n : Nat) (h : n ≤ 2147483647) : readR (digS (n : Int)) = ((n : Int), 0) := by
  have hl := head_dig n h
  have hz : (digS (n : Int)).size = (decDigits n).length := by rw [size_list, digS_in n h]
  have hp : 0 < (decDigits n).length := List.length_pos_iff.2 (dec_ne n)
  unfold readR headR
  rw [hl, hz, if_neg (by omega), if_neg (by omega)]
  have h2 : ¬ (1 < (decDigits n).length ∧ (decDigits n).getD 0 0 = 48) := by
    rintro ⟨h1, h2⟩
    by_cases h9 : n < 10
    · rw [dec_one n h9] at h1; simp at h1
    · exact dec_first n (by omega) h2
  rw [if_neg h2, parse_dec _ (by omega) n h]
theorem read_none (n : Int) (h : n < 0 ∨ 2147483647 < n) : readR (digS n) = (0, 2) := by
  unfold digS
  rw [if_pos h]
  rfl

theorem isD_of (c : UInt8) (h : isD c = true) : 48 ≤ c.toNat ∧ c.toNat ≤ 57 := by
  unfold isD at h
  simpa using h
theorem parse_back (M : Nat) (hM : M ≤ 2147483647) (n : Nat) : ∀ (l : List UInt8) (u : Nat), l.length = n → l ≠ [] → (∀ b ∈ l, isD b = true) → (1 < l.length → l.getD 0 0 ≠ 48) → parseUintM M 0 l = .ok u → decDigits u = l := by
  induction n with
  | zero => intro l u hn h0; exact absurd (List.length_eq_zero_iff.1 hn) h0
  | succ n ih =>
    intro l u hn h0 hall hfst hp
    obtain ⟨a, c, rfl⟩ : ∃ a c, l = a ++ [c] := ⟨l.dropLast, l.getLast h0, (List.dropLast_concat_getLast h0).symm⟩
    have hc := isD_of c (hall c (by simp))
    have e48 : UInt8.ofNat (48 + (c.toNat - 48)) = c := by
      rw [show 48 + (c.toNat - 48) = c.toNat from by omega]
      simp
    by_cases ha : a = []
    · subst ha
      rw [List.nil_append] at hp ⊢
      unfold parseUintM at hp
      rw [if_pos hc] at hp
      split at hp
      · cases hp
      · split at hp
        · cases hp
        · unfold parseUintM at hp
          injection hp with hp
          rw [dec_one u (by omega)]
          congr 1
          rw [← e48]
          congr 1
          omega
    · have hal : a.length = n := by simpa using hn
      have hfa : a.getD 0 0 ≠ 48 := by
        have := hfst (by rw [List.length_append]; have := List.length_pos_iff.2 ha; simp; omega)
        rwa [getD_append ha] at this
      rw [parse_append] at hp
      rcases hv : parseUintM M 0 a with v | _ | _
      · rw [hv] at hp
        have hd := ih a v hal ha (fun b hb => hall b (by simp [hb])) (fun _ => hfa) hv
        have hv1 : 1 ≤ v := by
          rcases Nat.eq_zero_or_pos v with h | h
          · subst h
            rw [← hd, dec_one 0 (by omega)] at hfa
            exact absurd rfl hfa
          · exact h
        have hp : parseUintM M v [c] = .ok u := hp
        unfold parseUintM at hp
        rw [if_pos hc] at hp
        split at hp
        · cases hp
        · split at hp
          · cases hp
          · unfold parseUintM at hp
            injection hp with hp
            have hu1 : u / 10 = v := by omega
            have hu2 : u % 10 = c.toNat - 48 := by omega
            rw [dec_step u (by omega), hu1, hd, hu2, e48]
      · rw [hv] at hp; cases hp
      · rw [hv] at hp; cases hp
theorem read_back (s : ByteArray) (h : (readR s).2 = 0) : digS (readR s).1 = s := by
  unfold readR at h ⊢
  by_cases h1 : (headL s).length < s.size
  · rw [if_pos h1] at h; exact absurd h (by decide)
  · rw [if_neg h1] at h ⊢
    simp only at h ⊢
    have hl : headL s = s.data.toList := by
      have hp := List.takeWhile_prefix (p := isD) (l := s.data.toList)
      exact List.IsPrefix.eq_of_length hp (by have h2 := hp.length_le; have e := size_list s; unfold headL at h1; show (s.data.toList.takeWhile isD).length = _; omega)
    unfold headR at h ⊢
    by_cases h0 : (headL s).length = 0
    · rw [if_pos h0] at h; exact absurd h (by decide)
    · rw [if_neg h0] at h ⊢
      by_cases h2 : 1 < (headL s).length ∧ (headL s).getD 0 0 = 48
      · rw [if_pos h2] at h; exact absurd h (by decide)
      · rw [if_neg h2] at h ⊢
        rcases hp : parseUintM 2147483647 0 (headL s) with u | _ | _
        · have hu := parse_bound 2147483647 (headL s) 0 u (by omega) hp
          have hd := parse_back 2147483647 (by omega) _ (headL s) u rfl (fun h => h0 (by rw [h]; rfl)) (headL_all s) (fun hl he => h2 ⟨hl, he⟩) hp
          simp only
          apply ByteArray.ext
          apply Array.ext'
          rw [digS_in u hu, hd, hl]
        · rw [hp] at h; exact absurd (show (3 : Int) = 0 from h) (by decide)
        · rw [hp] at h; exact absurd (show (3 : Int) = 0 from h) (by decide)
theorem readR_range (s : ByteArray) : (readR s).2 = 0 ∨ (readR s).2 = 2 ∨ (readR s).2 = 3 := by
  unfold readR
  split
  · simp
  · unfold headR
    split
    · simp
    · split
      · simp
      · split <;> simp
end Go.Proofs.YtlnipkhdaikdkaaDoor
