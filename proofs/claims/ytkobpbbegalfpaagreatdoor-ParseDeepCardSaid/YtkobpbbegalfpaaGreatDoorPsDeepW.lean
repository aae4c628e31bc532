/-
  Joined texts: PrRefD, PsDeepW.
-/
import Derived.Test.YtkobpbbegalfpaaGreatDoorPxDeep
import Derived.Test.YtkobpbbegalfpaaGreatDoorNuErrP
import Derived.Test.YtkobpbbegalfpaaGreatDoorPrInj
import Derived.Test.YtkobpbbegalfpaaGreatDoorPsDpP
/- Printed texts of this seat, cut to what is used. -/
namespace Go.Proofs.YtkobpbbegalfpaaGreatDoor
open Go.RowKit Go.Proofs.YtkobpbbegalfpaaGreatDoorW.PrintWords Go.Proofs.YtkobpbbegalfpaaGreatDoorW.PrintLast Go.Proofs.YtkobpbbegalfpaaGreatDoorW.PrintMore Go.Proofs.YtkobpbbegalfpaaGreatDoor.PParseBodies
open Go.Lib (decDigits)
set_option linter.unusedVariables false
set_option linter.unusedSimpArgs false
set_option maxRecDepth 100000

theorem data_ext' {a b : ByteArray} (h : a.data.toList = b.data.toList) : a = b := by
 apply ByteArray.ext
 exact Array.ext' h
theorem app_nil (a : ByteArray) : a ++ (⟨#[]⟩ : ByteArray) = a := by
 apply data_ext'
 rw [ByteArray.data_append, Array.toList_append]
 simp
theorem ten_digit (m : Nat) (h : m < 10) : sashref01_Digit.f (m : Int) = some (⟨#[UInt8.ofNat (48 + m)]⟩ : ByteArray) := by
 match m, h with
 | 0, _ => show sashref01_Digit.f 0 = some (⟨#[UInt8.ofNat (48 + 0)]⟩ : ByteArray); kernel_rfl
 | 1, _ => show sashref01_Digit.f 1 = some (⟨#[UInt8.ofNat (48 + 1)]⟩ : ByteArray); kernel_rfl
 | 2, _ => show sashref01_Digit.f 2 = some (⟨#[UInt8.ofNat (48 + 2)]⟩ : ByteArray); kernel_rfl
 | 3, _ => show sashref01_Digit.f 3 = some (⟨#[UInt8.ofNat (48 + 3)]⟩ : ByteArray); kernel_rfl
 | 4, _ => show sashref01_Digit.f 4 = some (⟨#[UInt8.ofNat (48 + 4)]⟩ : ByteArray); kernel_rfl
 | 5, _ => show sashref01_Digit.f 5 = some (⟨#[UInt8.ofNat (48 + 5)]⟩ : ByteArray); kernel_rfl
 | 6, _ => show sashref01_Digit.f 6 = some (⟨#[UInt8.ofNat (48 + 6)]⟩ : ByteArray); kernel_rfl
 | 7, _ => show sashref01_Digit.f 7 = some (⟨#[UInt8.ofNat (48 + 7)]⟩ : ByteArray); kernel_rfl
 | 8, _ => show sashref01_Digit.f 8 = some (⟨#[UInt8.ofNat (48 + 8)]⟩ : ByteArray); kernel_rfl
 | 9, _ => show sashref01_Digit.f 9 = some (⟨#[UInt8.ofNat (48 + 9)]⟩ : ByteArray); kernel_rfl

theorem nw64 (x : Int) (h0 : 0 ≤ x) (h1 : x ≤ 4294967296) : wrap64 x = x := by unfold wrap64; omega
theorem tdiv10 (n : Nat) (h : n ≤ 2147483647) : wrap64 (Int.tdiv (n : Int) 10) = ((n / 10 : Nat) : Int) := by
 rw [Int.tdiv_eq_ediv_of_nonneg (by omega), nw64 _ (by omega) (by omega)]
 rfl
theorem tmod10 (n : Nat) : Int.tmod (n : Int) 10 = ((n % 10 : Nat) : Int) := by
 rw [Int.tmod_eq_emod_of_nonneg (by omega)]
 rfl
theorem refDig_l0 (k : Nat) : ∀ (n : Nat) (suf : ByteArray), n < 10 ^ (k + 1) → n ≤ 2147483647 → suf.size + k ≤ 1000 →
  sashref01_Digits.l0 (k + 1) (n : Int) ((⟨#[UInt8.ofNat (48 + n % 10)]⟩ : ByteArray) ++ suf) = some ((⟨(decDigits n).toArray⟩ : ByteArray) ++ suf) := by
 induction k with
 | zero =>
  intro n suf hn hm hs
  have h9 : n < 10 := by simpa using hn
  simp only [sashref01_Digits.l0]
  rw [if_neg (by omega), dec_one n h9, Nat.mod_eq_of_lt h9]
 | succ k ih =>
  intro n suf hn hm hs
  by_cases h9 : n < 10
  ·simp only [sashref01_Digits.l0]
   rw [if_neg (by omega), dec_one n h9, Nat.mod_eq_of_lt h9]
  ·have e : sashref01_Digits.l0 (k + 1 + 1) (n : Int) ((⟨#[UInt8.ofNat (48 + n % 10)]⟩ : ByteArray) ++ suf) = sashref01_Digits.l0 (k + 1) ((n / 10 : Nat) : Int) ((⟨#[UInt8.ofNat (48 + n / 10 % 10)]⟩ : ByteArray) ++ ((⟨#[UInt8.ofNat (48 + n % 10)]⟩ : ByteArray) ++ suf)) := by
    rw [sashref01_Digits.l0]
    rw [if_pos (by omega), tdiv10 n hm, tmod10, ten_digit _ (by omega), Option.bind_some]
    rw [if_pos (by rw [ByteArray.size_append]; show 1 + (1 + suf.size) ≤ _; omega)]
   have hp : n / 10 < 10 ^ (k + 1) := by
    rw [Nat.pow_succ] at hn; omega
   rw [e, ih (n / 10) _ hp (by omega) (by rw [ByteArray.size_append]; show 1 + suf.size + k ≤ _; omega), dec_step n h9, ← ByteArray.append_assoc]
   congr 2
theorem refDigits_pure (n : Int) (h0 : -9223372036854775808 ≤ n) (h1 : n ≤ 9223372036854775807) : sashref01_Digits.f 12 n = some (digS n) := by
 unfold sashref01_Digits.f digS
 by_cases h : n < 0
 ·rw [if_pos h, if_pos (.inl h)]
  rfl
 ·rw [if_neg h]
  by_cases h2 : 2147483647 < n
  ·rw [if_pos (.inr h2), decide_eq_true h2]
   rfl
  ·rw [if_neg (by omega), decide_eq_false h2]
   obtain ⟨m, rfl⟩ := Int.eq_ofNat_of_zero_le (by omega : 0 ≤ n)
   have e : sashref01_Digits.j0 12 (m : Int) false = sashref01_Digits.l0 11 (m : Int) (⟨#[UInt8.ofNat (48 + m % 10)]⟩ : ByteArray) := by
    rw [sashref01_Digits.j0]
    rw [if_neg (by decide), tmod10, ten_digit _ (by omega), Option.bind_some]
   have h := refDig_l0 10 m (⟨#[]⟩ : ByteArray) (by omega) (by omega) (by decide)
   rw [app_nil, app_nil] at h
   rw [e, h, Lib.itoa_nonneg]

/-- An answer stays under more fuel. -/
theorem fuel_le {α : Type} {f : Nat → Option α} (hm : ∀ k, LeO (f k) (f (k + 1))) {k : Nat} {r : α} (h : f k = some r) : ∀ j, k ≤ j → f j = some r := by
 intro j hj
 obtain ⟨d, rfl⟩ := Nat.exists_eq_add_of_le hj
 clear hj
 induction d with
 | zero => exact h
 | succ d ih => exact hm (k + d) r ih
def bsOf (l : List UInt8) : ByteArray := ⟨l.toArray⟩
theorem bs_list (l : List UInt8) : (bsOf l).data.toList = l := rfl
theorem bs_size (l : List UInt8) : (bsOf l).size = l.length := by simp [bsOf, ByteArray.size]
theorem bs_app (a b : List UInt8) : bsOf a ++ bsOf b = bsOf (a ++ b) := by
 apply data_ext'
 rw [ByteArray.data_append, Array.toList_append, bs_list, bs_list, bs_list]
theorem bs_dig (n : Int) : digS n = bsOf (digL n) := data_ext' rfl
theorem bs_lit (x : UInt8) : (⟨#[x]⟩ : ByteArray) = bsOf [x] := rfl
def IR (n : Int) : Prop := -9223372036854775808 ≤ n ∧ n ≤ 9223372036854775807
theorem Digits_f (n : Int) (h : IR n) (k : Nat) (hk : 12 ≤ k) : sashref01_Digits.f k n = some (bsOf (digL n)) := by
 rw [← bs_dig]
 exact fuel_le (f := fun k => sashref01_Digits.f k n) (fun k => sashref01_Digits.mono _ _) (refDigits_pure n h.1 h.2) k hk
def RIR (r : SR) : Prop := IR r.f0 ∧ IR r.f1 ∧ IR r.f2 ∧ IR r.f3
theorem Head_f (r : SR) (h : RIR r) (k : Nat) (hk : 12 ≤ k) : sashref10_Head.f k r.f0 r.f1 r.f2 r.f3 = some (bsOf (headB r)) := by
 have h0 := digL_len r.f0; have h1 := digL_len r.f1; have h2 := digL_len r.f2; have h3 := digL_len r.f3
 unfold sashref10_Head.f
 simp only [Digits_f _ h.1 k hk, Digits_f _ h.2.1 k hk, Digits_f _ h.2.2.1 k hk, Digits_f _ h.2.2.2 k hk, Option.bind_some, bs_lit, bs_app, bs_size, List.length_append, List.length_singleton]
 rw [if_pos (by omega), if_pos (by omega), if_pos (by omega), if_pos (by omega), if_pos (by omega), if_pos (by omega)]
 rfl
theorem ldig_one (m : Nat) (h : m < 10) : strOfNums [(wrap64 (48 + (m : Int))) % 256] = bsOf [UInt8.ofNat (48 + m)] := by
 match m, h with
 | 0, _ => show strOfNums [(wrap64 (48 + 0)) % 256] = bsOf [UInt8.ofNat (48 + 0)]; kernel_rfl
 | 1, _ => show strOfNums [(wrap64 (48 + 1)) % 256] = bsOf [UInt8.ofNat (48 + 1)]; kernel_rfl
 | 2, _ => show strOfNums [(wrap64 (48 + 2)) % 256] = bsOf [UInt8.ofNat (48 + 2)]; kernel_rfl
 | 3, _ => show strOfNums [(wrap64 (48 + 3)) % 256] = bsOf [UInt8.ofNat (48 + 3)]; kernel_rfl
 | 4, _ => show strOfNums [(wrap64 (48 + 4)) % 256] = bsOf [UInt8.ofNat (48 + 4)]; kernel_rfl
 | 5, _ => show strOfNums [(wrap64 (48 + 5)) % 256] = bsOf [UInt8.ofNat (48 + 5)]; kernel_rfl
 | 6, _ => show strOfNums [(wrap64 (48 + 6)) % 256] = bsOf [UInt8.ofNat (48 + 6)]; kernel_rfl
 | 7, _ => show strOfNums [(wrap64 (48 + 7)) % 256] = bsOf [UInt8.ofNat (48 + 7)]; kernel_rfl
 | 8, _ => show strOfNums [(wrap64 (48 + 8)) % 256] = bsOf [UInt8.ofNat (48 + 8)]; kernel_rfl
 | 9, _ => show strOfNums [(wrap64 (48 + 9)) % 256] = bsOf [UInt8.ofNat (48 + 9)]; kernel_rfl
theorem ldigits_f (k : Nat) : ∀ n : Nat, n < 10 ^ (k + 1) → n ≤ 1000000 → sashlaw11_digits.f (k + 1) (n : Int) = some (bsOf (decDigits n)) := by
 induction k with
 | zero =>
  intro n hn hm
  have h9 : n < 10 := by simpa using hn
  simp only [sashlaw11_digits.f, Option.bind_some]
  rw [if_pos (by omega), tmod10, Nat.mod_eq_of_lt h9, ldig_one n h9, dec_one n h9]
 | succ k ih =>
  intro n hn hm
  by_cases h9 : n < 10
  ·rw [sashlaw11_digits.f, Option.bind_some, if_pos (by omega), tmod10, Nat.mod_eq_of_lt h9, ldig_one n h9, dec_one n h9]
  ·have hp : n / 10 < 10 ^ (k + 1) := by rw [Nat.pow_succ] at hn; omega
   have hi := ih (n / 10) hp (by omega)
   rw [sashlaw11_digits.f]
   rw [Option.bind_some, if_neg (by omega), tmod10, tdiv10 n (by omega), hi, Option.bind_some, ldig_one _ (by omega), dec_step n h9]
   have hl : (bsOf (decDigits (n / 10))).size ≤ 21 := by
    have := digL_len ((n / 10 : Nat) : Int)
    rw [digL_dec _ ⟨by omega, by omega⟩, Int.toNat_natCast] at this
    rw [bs_size]
    exact this
   have h1 : (bsOf [UInt8.ofNat (48 + n % 10)]).size = 1 := by rw [bs_size]; rfl
   rw [if_pos (by rw [h1]; omega), bs_app]
end Go.Proofs.YtkobpbbegalfpaaGreatDoor

/-
 ParseDeep: the statement's walk.
-/
namespace Go.Proofs.YtkobpbbegalfpaaGreatDoor
open Go.RowKit Go.Proofs.YtkobpbbegalfpaaGreatDoorW.PrintWords Go.Proofs.YtkobpbbegalfpaaGreatDoorW.PrintLast Go.Proofs.YtkobpbbegalfpaaGreatDoorW.PrintMore Go.Proofs.YtkobpbbegalfpaaGreatDoor.PParseBodies
open Go.Lib (decDigits)
set_option linter.unusedVariables false
set_option linter.unusedSimpArgs false
set_option maxRecDepth 100000

theorem ldig_calls (m : Nat) (hm : m ≤ 2000) (W : World) : Calls Tryz.prog 16 #[.int .i64 (m : Int)] W fun e w' => e = .returned (.string (bsOf (digL (m : Int)))) ∧ Below W.heap.size W w' := by
 have h := ldigits_f 4 m (by omega) (by omega)
 have e : digL (m : Int) = decDigits m := by rw [digL_dec _ ⟨by omega, by omega⟩, Int.toNat_natCast]
 rw [e]
 exact (sashlaw11_digits.calls _ _ _ W h).mono fun e w' hh => ⟨hh.1, by first | exact hh.2 | exact hh.2.below⟩
theorem rhead_calls (r : SR) (h : RIR r) (W : World) : Calls Tryz.prog 15 #[.agg #[.int .i64 r.f0, .int .i64 r.f1, .int .i64 r.f2, .int .i64 r.f3]] W fun e w' => e = .returned (.string (bsOf (headB r))) ∧ Below W.heap.size W w' :=
 (sashref10_Head.calls 12 _ _ _ _ _ W (Head_f r h 12 (Nat.le_refl _))).mono fun e w' hh => ⟨hh.1, by first | exact hh.2 | exact hh.2.below⟩
theorem deep_text (n : Nat) : ((bsOf (opnL n n)) ++ (⟨#[49, 120, 49, 44, 48, 44, 48, 44, 48]⟩ : ByteArray)) ++ bsOf (shtL n n) = deepS n := by
 have h := text_chn n n (Nat.le_refl _)
 rw [Nat.sub_self] at h
 have e : (⟨#[49, 120, 49, 44, 48, 44, 48, 44, 48]⟩ : ByteArray) = bsOf (bodyL (chn n 0)) := by
  show _ = bsOf (bodyL (lf 0 0))
  kernel_rfl
 rw [e, bs_app, bs_app, h]
 rfl
theorem opn_step (n i : Nat) : bsOf (opnL n i) ++ (bsOf (headB ⟨0, 0, 1, 2 * ((n : Int) - i) + 1⟩) ++ (⟨#[91]⟩ : ByteArray)) = bsOf (opnL n (i + 1)) := by
 rw [bs_lit, bs_app, bs_app]
 rfl
theorem sht_step (n i : Nat) : (((((⟨#[44]⟩ : ByteArray) ++ bsOf (headB ⟨0, 2 * ((n : Int) - i), 1, 1⟩)) ++ (⟨#[44]⟩ : ByteArray)) ++ bsOf (digL ((i : Int) + 1))) ++ (⟨#[93]⟩ : ByteArray)) ++ bsOf (shtL n i) = bsOf (shtL n (i + 1)) := by
 rw [bs_lit, bs_lit, bs_app, bs_app, bs_app, bs_app, bs_app]
 rfl
set_option maxHeartbeats 8000000 in
theorem parseDeep_calls (w : World) (n : Nat) (hn : n ≤ 65535) (hT : NumT w) (hE : NumE w) (hg : As.ErrT w) :
  Calls Tryz.prog 4 #[.int .u16 (n : Int)] w fun e w' => e = .returned (.bool true) ∧ Below w.heap.size w w' := by
 have HA0 : Aside0 (∀ W, Below w.heap.size w W → Calls Tryz.prog 8 #[] W fun e w' => e = .returned (.bool true) ∧ Below W.heap.size W w') := ⟨fun W hb => awake_calls W (hT.below hb) (hE.below hb) (hg.below hb)⟩
 by_cases hsmall : n < 1
 ·obtain rfl : n = 0 := by omega
  have HA := Aside0.mk (HA0.out w (Below.refl _ _))
  clear hT hE hg hn hsmall HA0
  go_enter Tryz.func4, Tryz.ntmps4
  go_wp2_with (go_at_call 8; refine HA.out.mono ?_; rintro e w1 ⟨rfl, hb⟩)
  go_ret
  exact ⟨rfl, hb⟩
 by_cases hbig : 1100 < n
 ·have HA := Aside0.mk (HA0.out w (Below.refl _ _))
  have q1 : ((n : Int) < 1) = False := eq_false (by omega)
  have q2 : ((n : Int) > 1100) = True := eq_true (by omega)
  have q3 : ((1100 : Int) < (n : Int)) = True := eq_true (by omega)
  have q4 : decide ((n : Int) < 1) = false := decide_eq_false (by omega)
  have q5 : decide ((1100 : Int) < (n : Int)) = true := decide_eq_true (by omega)
  clear hT hE hg hn hsmall hbig HA0
  go_enter Tryz.func4, Tryz.ntmps4
  go_wp2_with (go_at_call 8; refine HA.out.mono ?_; rintro e w1 ⟨rfl, hb⟩)
  go_ret
  exact ⟨rfl, hb⟩
 have q1 : ((n : Int) < 1) = False := eq_false (by omega)
 have q3 : ((1100 : Int) < (n : Int)) = False := eq_false (by omega)
 have q4 : decide ((n : Int) < 1) = false := decide_eq_false (by omega)
 have q5 : decide ((1100 : Int) < (n : Int)) = false := decide_eq_false (by omega)
 have HN : Aside0 (1 ≤ n ∧ n ≤ 1100) := ⟨by omega, by omega⟩
 have HT := Aside0.mk hT
 have HE := Aside0.mk hE
 have HG := Aside0.mk hg
 clear hT hE hg hn hsmall hbig
 go_enter Tryz.func4, Tryz.ntmps4
 go_wp2
 go_loopw [3, 4, 5] (fun v3 v4 v5 wr => ∃ i : Nat, v3 = .string (bsOf (opnL n i)) ∧ v4 = .string (bsOf (shtL n i)) ∧ v5 = .int .i64 (i : Int) ∧ Aside0 (i ≤ n) ∧ Aside0 (Below w.heap.size w wr)) (fun _ _ v5 _ => n - (intOf v5).toNat)
 case atStart => exact ⟨0, rfl, rfl, rfl, ⟨Nat.zero_le _⟩, ⟨Below.refl _ _⟩⟩
 case round =>
  obtain ⟨i, rfl, rfl, rfl, HI, HB⟩ := hrel
  by_cases hi : i < n
  ·have p1 : ((i : Int) < (n : Int)) = True := eq_true (by omega)
   have p2 : decide ((i : Int) < (n : Int)) = true := decide_eq_true (by omega)
   have hn1 := HN.out.2
   have wn : wrap64 (n : Int) = (n : Int) := by unfold wrap64; omega
   have e1 : wrap64 ((n : Int) - (i : Int)) = (n : Int) - i := by unfold wrap64; omega
   have e2 : wrap64 (2 * ((n : Int) - i)) = 2 * ((n : Int) - i) := by unfold wrap64; omega
   have e3 : wrap64 (2 * ((n : Int) - i) + 1) = 2 * ((n : Int) - i) + 1 := by unfold wrap64; omega
   have e4 : wrap64 (2 * ((n : Int) - i) + 1 - 1) = 2 * ((n : Int) - i) := by unfold wrap64; omega
   have e5 : wrap64 ((i : Int) + 1) = (i : Int) + 1 := by unfold wrap64; omega
   have ir0 : IR 0 := ⟨by decide, by decide⟩
   have ir1 : IR 1 := ⟨by decide, by decide⟩
   have hr1 : RIR ⟨0, 0, 1, 2 * ((n : Int) - i) + 1⟩ := ⟨ir0, ir0, ir1, ⟨by show (-9223372036854775808 : Int) ≤ 2 * ((n : Int) - i) + 1; omega, by show 2 * ((n : Int) - i) + 1 ≤ (9223372036854775807 : Int); omega⟩⟩
   have hr2 : RIR ⟨0, 2 * ((n : Int) - i), 1, 1⟩ := ⟨ir0, ⟨by show (-9223372036854775808 : Int) ≤ 2 * ((n : Int) - i); omega, by show 2 * ((n : Int) - i) ≤ (9223372036854775807 : Int); omega⟩, ir1, ir1⟩
   have HH1 : Aside0 (∀ W, Calls Tryz.prog 15 #[.agg #[.int .i64 0, .int .i64 0, .int .i64 1, .int .i64 (2 * ((n : Int) - i) + 1)]] W fun e w' => e = .returned (.string (bsOf (headB ⟨0, 0, 1, 2 * ((n : Int) - i) + 1⟩))) ∧ Below W.heap.size W w') := ⟨fun W => rhead_calls _ hr1 W⟩
   have HH2 : Aside0 (∀ W, Calls Tryz.prog 15 #[.agg #[.int .i64 0, .int .i64 (2 * ((n : Int) - i)), .int .i64 1, .int .i64 1]] W fun e w' => e = .returned (.string (bsOf (headB ⟨0, 2 * ((n : Int) - i), 1, 1⟩))) ∧ Below W.heap.size W w') := ⟨fun W => rhead_calls _ hr2 W⟩
   have HDG : Aside0 (∀ W, Calls Tryz.prog 16 #[.int .i64 ((i : Int) + 1)] W fun e w' => e = .returned (.string (bsOf (digL ((i : Int) + 1)))) ∧ Below W.heap.size W w') := ⟨fun W => ldig_calls (i + 1) (by omega) W⟩
   have HS1 := Aside0.mk (opn_step n i)
   have HS2 := Aside0.mk (sht_step n i)
   have z1 : (bsOf (opnL n i)).size ≤ 60000 := by rw [bs_size]; have := opn_len n (by omega) i (by omega); omega
   have z2 : (bsOf (shtL n i)).size ≤ 60000 := by rw [bs_size]; have := sht_len n (by omega) i (by omega); omega
   have z3 : (bsOf (headB ⟨0, 0, 1, 2 * ((n : Int) - i) + 1⟩)).size ≤ 100 := by rw [bs_size]; have := headB_len ⟨0, 0, 1, 2 * ((n : Int) - i) + 1⟩; omega
   have z4 : (bsOf (headB ⟨0, 2 * ((n : Int) - i), 1, 1⟩)).size ≤ 100 := by rw [bs_size]; have := headB_len ⟨0, 2 * ((n : Int) - i), 1, 1⟩; omega
   have z5 : (bsOf (digL ((i : Int) + 1))).size ≤ 100 := by rw [bs_size]; have := digL_len ((i : Int) + 1); omega
   clear hr1 hr2
   generalize bsOf (opnL n i) = so at *
   generalize bsOf (shtL n i) = ss at *
   generalize bsOf (headB ⟨0, 0, 1, 2 * ((n : Int) - i) + 1⟩) = h1 at *
   generalize bsOf (headB ⟨0, 2 * ((n : Int) - i), 1, 1⟩) = h2 at *
   generalize bsOf (digL ((i : Int) + 1)) = dg at *
   have o1 : (⟨#[91]⟩ : ByteArray).size = 1 := rfl
   have o2 : (⟨#[44]⟩ : ByteArray).size = 1 := rfl
   have o3 : (⟨#[93]⟩ : ByteArray).size = 1 := rfl
   have a1 : h1.size + 1 ≤ 9223372036854775807 := by omega
   have b1 := eq_false (Nat.not_lt.2 a1)
   have a2 : so.size + (h1 ++ (⟨#[91]⟩ : ByteArray)).size ≤ 9223372036854775807 := by rw [ByteArray.size_append, o1]; omega
   have b2 := eq_false (Nat.not_lt.2 a2)
   have a2' : so.size + (h1.size + 1) ≤ 9223372036854775807 := by omega
   have b2' := eq_false (Nat.not_lt.2 a2')
   have a3 : 1 + h2.size ≤ 9223372036854775807 := by omega
   have b3 := eq_false (Nat.not_lt.2 a3)
   have a4 : ((⟨#[44]⟩ : ByteArray) ++ h2).size + 1 ≤ 9223372036854775807 := by rw [ByteArray.size_append, o2]; omega
   have b4 := eq_false (Nat.not_lt.2 a4)
   have a4' : 1 + h2.size + 1 ≤ 9223372036854775807 := by omega
   have b4' := eq_false (Nat.not_lt.2 a4')
   have a5 : (((⟨#[44]⟩ : ByteArray) ++ h2) ++ (⟨#[44]⟩ : ByteArray)).size + dg.size ≤ 9223372036854775807 := by rw [ByteArray.size_append, ByteArray.size_append, o2]; omega
   have b5 := eq_false (Nat.not_lt.2 a5)
   have a5' : 1 + h2.size + 1 + dg.size ≤ 9223372036854775807 := by omega
   have b5' := eq_false (Nat.not_lt.2 a5')
   have a6 : ((((⟨#[44]⟩ : ByteArray) ++ h2) ++ (⟨#[44]⟩ : ByteArray)) ++ dg).size + 1 ≤ 9223372036854775807 := by rw [ByteArray.size_append, ByteArray.size_append, ByteArray.size_append, o2]; omega
   have b6 := eq_false (Nat.not_lt.2 a6)
   have a6' : 1 + h2.size + 1 + dg.size + 1 ≤ 9223372036854775807 := by omega
   have b6' := eq_false (Nat.not_lt.2 a6')
   have a7 : (((((⟨#[44]⟩ : ByteArray) ++ h2) ++ (⟨#[44]⟩ : ByteArray)) ++ dg) ++ (⟨#[93]⟩ : ByteArray)).size + ss.size ≤ 9223372036854775807 := by rw [ByteArray.size_append, ByteArray.size_append, ByteArray.size_append, ByteArray.size_append, o2, o3]; omega
   have b7 := eq_false (Nat.not_lt.2 a7)
   have a7' : 1 + h2.size + 1 + dg.size + 1 + ss.size ≤ 9223372036854775807 := by omega
   have b7' := eq_false (Nat.not_lt.2 a7')
   have HW1 := Aside0.mk (And.intro wn (And.intro e1 (And.intro e2 e3)))
   have HW4 := Aside0.mk e4
   have HW5 := Aside0.mk e5
   have HZ1 := Aside0.mk (And.intro a1 (And.intro b1 (And.intro a2 (And.intro b2 (And.intro a2' b2')))))
   have HZ2 := Aside0.mk (And.intro a3 (And.intro b3 (And.intro a4 (And.intro b4 (And.intro a4' b4')))))
   have HZ3 := Aside0.mk (And.intro a5 (And.intro b5 (And.intro a5' (And.intro b5' (And.intro a6 (And.intro b6 (And.intro a6' (And.intro b6' (And.intro a7 (And.intro b7 (And.intro a7' b7')))))))))))
   have HII : Aside0 (i < n) := ⟨hi⟩
   clear z1 z2 z3 z4 z5 hi hn1 o1 o2 o3 e2 e3 e4 e5 a1 b1 a2 b2 a2' b2' a3 b3 a4 b4 a4' b4' a5 b5 a5' b5' a6 b6 a6' b6' a7 b7 a7' b7' wn e1
   obtain ⟨wn, e1, e2, e3⟩ := HW1.out
   go_wp2_with fail
   try simp only [wn, e1, e2, e3]
   clear wn e1 e2 e3 p1 p2
   with_reducible refine (HH1.out _).mono ?_
   rintro e w1 ⟨rfl, hb1⟩
   replace HB := Aside0.mk (HB.out.trans (hb1.mono HB.out.size))
   clear hb1
   obtain ⟨a1, b1, a2, b2, a3, b3⟩ := HZ1.out
   go_upto_region 10 with (fail)
   clear a1 b1 a2 b2 a3 b3
   have e4 := HW4.out
   go_wp2_with fail
   have e2 := HW1.out.2.2.1
   try simp only [e4, e2]
   with_reducible refine (HH2.out _).mono ?_
   rintro e w2 ⟨rfl, hb2⟩
   replace HB := Aside0.mk (HB.out.trans (hb2.mono HB.out.size))
   clear hb2 e4 e2
   have e5 := HW5.out
   obtain ⟨a1, b1, a2, b2, a3, b3⟩ := HZ2.out
   go_wp2_with fail
   try simp only [e5]
   with_reducible refine (HDG.out _).mono ?_
   rintro e w3 ⟨rfl, hb3⟩
   replace HB := Aside0.mk (HB.out.trans (hb3.mono HB.out.size))
   clear hb3 e5 a1 b1 a2 b2 a3 b3
   obtain ⟨a1, b1, a2, b2, a3, b3, a4, b4, a5, b5, a6, b6⟩ := HZ3.out
   clear a2 b2 a4 a6 b6 b1 b5
   go_upto_region 6 with (fail)
   clear a1 a3 a5 b3 b4
   have e5 := HW5.out
   go_wp2
   refine ⟨⟨i + 1, congrArg Value.string HS1.out, congrArg Value.string HS2.out, congrArg (Value.int .i64) e5, ⟨HII.out⟩, HB⟩, ?_⟩
   rw [e5]
   simp only [intOf]
   have := HII.out
   omega
  ·have p1 : ((i : Int) < (n : Int)) = False := eq_false (by omega)
   have p2 : decide ((i : Int) < (n : Int)) = false := decide_eq_false (by omega)
   have wn : wrap64 (n : Int) = (n : Int) := by have := HN.out.2; unfold wrap64; omega
   obtain rfl : i = n := by have := HI.out; omega
   have hN := HN.out
   have hds := deep_size i hN.2
   have hsm := bodyA_small (s := deepS i)
   have HB1 : ∀ W, Below w.heap.size w W → Calls Tryz.prog 9 #[.string (deepS i)] W (UniPost W (bodyA (deepS i))) := fun W hb => body_uni W (deepS i) (HE.out.below hb)
   have HR1 : ∀ W, Calls Tryz.prog 10 #[.string (deepS i)] W (RefPost W (bodyA (deepS i))) := fun W => rbody_uni W (deepS i) (by omega)
   have HTO : ∀ W ev, Below w.heap.size w W → ErrIs W ev (errR (bodyA (deepS i))) → Calls Tryz.prog 13 #[ev, .int .i64 (noR (bodyA (deepS i))), .int .i64 (atR (bodyA (deepS i)))] W fun e w' => e = .returned (.bool true) ∧ Below W.heap.size W w' := fun W ev hb h => by
    have := told_uni W ev (bodyA (deepS i)) (noR (bodyA (deepS i))) (atR (bodyA (deepS i))) h (fun q hq => by have := bodyA_no hq; omega) (HG.out.below hb)
    rwa [decide_eq_true (show noR (bodyA (deepS i)) = noR (bodyA (deepS i)) ∧ atR (bodyA (deepS i)) = atR (bodyA (deepS i)) from ⟨rfl, rfl⟩)] at this
   have HS : ∀ W A B c d b1 b2, TreeAt W b1 (treeR (bodyA (deepS i))) A c → TreeAt W b2 (treeR (bodyA (deepS i))) B d → Calls Tryz.prog 14 #[.agg #[.int .u8 (treeR (bodyA (deepS i))).f0, .int .i64 (treeR (bodyA (deepS i))).f1.f0, .int .i64 (treeR (bodyA (deepS i))).f1.f1, .int .i64 (treeR (bodyA (deepS i))).f1.f2, .int .i64 (treeR (bodyA (deepS i))).f1.f3, .int .i64 (treeR (bodyA (deepS i))).f2, .slice A (treeR (bodyA (deepS i))).f3.length c], .agg #[.int .u8 (treeR (bodyA (deepS i))).f0, .int .i64 (treeR (bodyA (deepS i))).f1.f0, .int .i64 (treeR (bodyA (deepS i))).f1.f1, .int .i64 (treeR (bodyA (deepS i))).f1.f2, .int .i64 (treeR (bodyA (deepS i))).f1.f3, .int .i64 (treeR (bodyA (deepS i))).f2, .slice B (treeR (bodyA (deepS i))).f3.length d]] W fun e w' => e = .returned (.bool true) ∧ Below W.heap.size W w' := fun W A B c d b1 b2 h1 h2 => by
    have := rsame_calls (treeR (bodyA (deepS i))) (treeR (bodyA (deepS i))) A B c d W hsm h1.row h1.cap h2.row h2.cap
    rwa [eqB_yes rfl] at this
   have hno : (noR (bodyA (deepS i)) == 0) = decide ((i : Int) < 1000) := by
    by_cases h : i ≤ 999
    ·rw [deep_ok i h, decide_eq_true (show (i : Int) < 1000 by omega)]
     rfl
    ·obtain ⟨q, hq⟩ := deep_no i (by omega) hN.2
     rw [hq, decide_eq_false (show ¬ (i : Int) < 1000 by omega)]
     rfl
   have HSS := Aside0.mk (deep_text i)
   have z1 : (bsOf (opnL i i)).size ≤ 60000 := by rw [bs_size]; have := opn_len i hN.2 i (Nat.le_refl _); omega
   have z2 : (bsOf (shtL i i)).size ≤ 60000 := by rw [bs_size]; have := sht_len i hN.2 i (Nat.le_refl _); omega
   unfold UniPost at HB1
   unfold RefPost at HR1
   have q6 : ((deepS i).size > 65530) = False := eq_false (by omega)
   have q7 : (((deepS i).size : Int) > 65530) = False := eq_false (by omega)
   have q8 : decide ((65530 : Int) < ((deepS i).size : Int)) = false := decide_eq_false (by omega)
   generalize treeR (bodyA (deepS i)) = x at *
   generalize noR (bodyA (deepS i)) = no at *
   generalize atR (bodyA (deepS i)) = at_ at *
   generalize errR (bodyA (deepS i)) = o1 at *
   generalize deepS i = ds at *
   generalize bsOf (opnL i i) = so at *
   generalize bsOf (shtL i i) = ss at *
   have o9 : (⟨#[49, 120, 49, 44, 48, 44, 48, 44, 48]⟩ : ByteArray).size = 9 := rfl
   have a1 : so.size + 9 ≤ 9223372036854775807 := by omega
   have a2 : (so ++ (⟨#[49, 120, 49, 44, 48, 44, 48, 44, 48]⟩ : ByteArray)).size + ss.size ≤ 9223372036854775807 := by rw [ByteArray.size_append, o9]; omega
   have HB0 := HB
   replace HB1 := Aside0.mk HB1
   replace HR1 := Aside0.mk HR1
   replace HTO := Aside0.mk HTO
   replace HS := Aside0.mk HS
   have HNO := Aside0.mk hno
   have HQ := Aside0.mk (And.intro q6 (And.intro q7 q8))
   clear hN hds hsm hno z1 z2 o9 q6 q7 q8 hi
   go_wp2_with fail
   clear a1 a2 wn p1 p2
   simp only [HSS.out]
   with_reducible refine (HB1.out _ HB.out).mono ?_
   rintro e w1 ⟨A1, c1, ev1, rfl, hr1, he1, hb1⟩
   obtain ⟨W2, hW2⟩ : ∃ W2, W2 = w1.alloc (.cells #[.int .u8 x.f0, .int .i64 x.f1.f0, .int .i64 x.f1.f1, .int .i64 x.f1.f2, .int .i64 x.f1.f3, .int .i64 x.f2, .slice A1 x.f3.length c1] 27) := ⟨_, rfl⟩
   have hb12 : Below w1.heap.size w1 W2 := by rw [hW2]; exact below_alloc (Below.refl _ _) _
   have HBB2 : Aside0 (Below w.heap.size w W2) := ⟨HB.out.trans ((hb1.trans (hb12.mono hb1.size)).mono HB.out.size)⟩
   have HX2 : Aside0 (TreeAt W2 w1.heap.size x A1 c1) := ⟨by rw [hW2]; exact tree_new hr1⟩
   have HE2 : Aside0 (ErrIs W2 ev1 o1) := ⟨he1.below hb12⟩
   have HW2 := Aside0.mk hW2
   clear hr1 he1 hb1 hW2 hb12 HB HB0
   go_wp2_with fail
   rw [← HW2.out]
   with_reducible refine (HR1.out W2).mono ?_
   rintro e w3 ⟨A3, c3, rfl, hr3, hb3⟩
   have HB3 : Aside0 (Below w.heap.size w w3) := ⟨HBB2.out.trans (hb3.mono HBB2.out.size)⟩
   obtain ⟨W4, hW4⟩ : ∃ W4, W4 = w3.alloc (.cells #[.int .u8 x.f0, .int .i64 x.f1.f0, .int .i64 x.f1.f1, .int .i64 x.f1.f2, .int .i64 x.f1.f3, .int .i64 x.f2, .slice A3 x.f3.length c3] 27) := ⟨_, rfl⟩
   have hb34 : Below w3.heap.size w3 W4 := by rw [hW4]; exact below_alloc (Below.refl _ _) _
   have HB4 : Aside0 (Below w.heap.size w W4) := ⟨HB3.out.trans (hb34.mono HB3.out.size)⟩
   have HX4 : Aside0 (TreeAt W4 w1.heap.size x A1 c1) := ⟨(HX2.out.below hb3).below hb34⟩
   have HZ4 : Aside0 (TreeAt W4 w3.heap.size x A3 c3) := ⟨by rw [hW4]; exact tree_new hr3⟩
   have HE4 : Aside0 (ErrIs W4 ev1 o1) := ⟨(HE2.out.below hb3).below hb34⟩
   have HW4 := Aside0.mk hW4
   clear hr3 hb3 hW4 hb34 HX2 HE2 HW2 HBB2 HB3
   obtain ⟨q6, q7, q8⟩ := HQ.out
   go_wp2_with fail
   rw [← HW4.out]
   with_reducible refine (HTO.out W4 ev1 HB4.out HE4.out).mono ?_
   rintro e w8 ⟨rfl, hb8⟩
   have HB8 : Aside0 (Below w.heap.size w w8) := ⟨HB4.out.trans (hb8.mono HB4.out.size)⟩
   have HX8 : Aside0 (TreeAt w8 w1.heap.size x A1 c1) := ⟨HX4.out.below hb8⟩
   have HZ8 : Aside0 (TreeAt w8 w3.heap.size x A3 c3) := ⟨HZ4.out.below hb8⟩
   obtain ⟨y0, y1, y2, y3, y4, y5, y6⟩ := tree_cells HX8.out
   obtain ⟨z0, z1, z2, z3, z4, z5, z6⟩ := tree_cells HZ8.out
   clear hb8 HX4 HZ4 HE4 HW4 q6 q7 q8
   have q9 := HNO.out
   have q10 : (decide ((i : Int) < 1000) == decide ((i : Int) < 1000)) = true := beq_self_eq_true _
   go_wp2_with (first | (go_at_call 14; refine (HS.out w8 A1 A3 c1 c3 _ _ HX8.out HZ8.out).mono ?_; rintro e w9 ⟨rfl, hb9⟩; replace hb9 := Aside0.mk (HB8.out.trans (hb9.mono HB8.out.size))) | (go_at_call 8; refine (HA0.out _ hb9.out).mono ?_; rintro e w10 ⟨rfl, hb10⟩))
   go_ret
   exact ⟨rfl, hb9.out.trans (hb10.mono hb9.out.size)⟩
end Go.Proofs.YtkobpbbegalfpaaGreatDoor
