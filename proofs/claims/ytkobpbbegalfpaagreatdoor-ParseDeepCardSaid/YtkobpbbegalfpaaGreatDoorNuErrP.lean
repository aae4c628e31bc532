/-
  Joined texts: NuHexP, NuNumP, NuDigitsP, NumPureP, NuUint, NuUintH, NuErrP.
-/
import Derived.Test.YtkobpbbegalfpaaGreatDoorShelf
import Derived.Lib.SmallJoins
import Derived.Lib.AtoiErrMem
import Derived.Lib.OthersKept
import Derived.Lib.ItoaMem
import Derived.Lib.AppendIntMem
import Derived.Lib.ItoaLen
import Derived.Lib.ItoaNum
import Derived.Lib.ParseIntB
import Derived.Test.YtkobpbbegalfpaaGreatDoorPsBase
import Derived.Lib.Strings
import Derived.Lib.Walk
import Derived.Lib.ConvBytes
import Derived.Lib.ParseIntBMem
import Derived.Lib.Hide
import Derived.Laws.Strings3
import Derived.Laws.Closers25
import Derived.Laws.Closers25b
import Derived.WalkKit
import Derived.BigCall
import Derived.BigGuard
/-
 num.Hex: four digits. What the functions of numbers read of the library's variables.
-/
namespace Go.Proofs.YtkobpbbegalfpaaGreatDoor
open Go.RowKit Go.Proofs.YtkobpbbegalfpaaGreatDoorW.PrintWords Go.Proofs.YtkobpbbegalfpaaGreatDoorW.PrintLast Go.Proofs.YtkobpbbegalfpaaGreatDoorW.PrintMore
set_option linter.unusedVariables false

/-- The tables that the functions of numbers read. -/
structure NumT (w : World) : Prop where
 tab : Lib.TabIs Tryz.prog w "internal/strconv.uint64pow10" .u64 Lib.pow10Tab
 de : w.cell? ⟨6, 15, none⟩ = some (.int .u8 4)
theorem cell_below {w w' : World} {b o : Nat} {v : Value} (h : w.cell? ⟨b, o, none⟩ = some v) (hb : Below w.heap.size w w') : w'.cell? ⟨b, o, none⟩ = some v :=
 (hb.cell (p := ⟨b, o, none⟩) (Lib.lt_of_cell h)).trans h
theorem NumT.below {w w' : World} (h : NumT w) (hb : Below w.heap.size w w') : NumT w' :=
 ⟨Joins.tab_stays (g := 3) (by kernel_rfl) h.tab hb (Nat.le_refl _), cell_below h.de hb⟩

/-- The digits of base 16. -/
def hexS (n : Int) : ByteArray := if n < 16 then ⟨#[dgt n]⟩ else if n < 256 then ⟨#[dgt (n / 16), dgt (n % 16)]⟩ else if n < 4096 then ⟨#[dgt (n / 16 / 16), dgt (n / 16 % 16), dgt (n % 16)]⟩ else ⟨#[dgt (n / 16 / 16 / 16), dgt (n / 16 / 16 % 16), dgt (n / 16 % 16), dgt (n % 16)]⟩
theorem fbits_calls (n : Int) (h0 : 0 ≤ n) (h1 : n < 65536) (w : World) (h : NumT w) :
  Calls Tryz.prog 131 #[.slice none 0 0, .int .u64 n, .int .i64 16, .bool false, .bool false] w fun e w' => e = .returned (.tuple #[.slice none 0 0, .string (hexS n)]) ∧ Below w.heap.size w w' := by
 have hd : ∀ o, (w.alloc o).cell? ⟨6, 15, none⟩ = some (.int .u8 4) := fun o => cell_below h.de (below_alloc (Below.refl _ _) o)
 unfold hexS
 by_cases a : n < 16
 ·rw [if_pos a]; exact fbits1_calls n h0 a w hd
 ·rw [if_neg a]
  by_cases b : n < 256
  ·rw [if_pos b]; exact fbits2_calls n (by omega) b w hd
  ·rw [if_neg b]
   by_cases c : n < 4096
   ·rw [if_pos c]; exact fbits3_calls n (by omega) c w hd
   ·rw [if_neg c]; exact fbits4_calls n (by omega) h1 w hd
theorem fu_calls (n : Int) (h0 : 0 ≤ n) (h1 : n < 65536) (w : World) (h : NumT w) :
  Calls Tryz.prog 88 #[.int .u64 n, .int .i64 16] w fun e w' => e = .returned (.string (hexS n)) ∧ Below w.heap.size w w' := by
 have HF := Aside0.mk (fbits_calls n h0 h1 w h)
 have HI : Aside0 (Calls Tryz.prog 108 #[.int .u64 n, .int .i64 16] w fun e w' => e = .returned (.string (hexS n)) ∧ Below w.heap.size w w') := by
  refine Aside0.mk ?_
  clear h
  go_enter Tryz.func108, Tryz.ntmps108
  go_wp2_with (go_at_call 131; refine HF.out.mono ?_; rintro e w' ⟨rfl, hb⟩)
  go_ret
  exact ⟨rfl, hb⟩
 clear h HF
 go_enter Tryz.func88, Tryz.ntmps88
 go_wp2_with (go_at_call 108; refine HI.out.mono ?_; rintro e w' ⟨rfl, hb⟩)
 go_ret
 exact ⟨rfl, hb⟩

theorem ret_str {a b : ByteArray} (h : a = b) : Ending.returned (.string a) = .returned (.string b) := by rw [h]
/-- Four digits. -/
def hex4 (n : Int) : ByteArray := ⟨#[dgt (n / 4096), dgt (n / 256 % 16), dgt (n / 16 % 16), dgt (n % 16)]⟩
theorem rep_calls (c : Nat) (hc : c ≤ 4) (w : World) : Calls Tryz.prog 89 #[.string ⟨#[48]⟩, .int .i64 c] w fun e w' => e = .returned (.string ⟨(Lib.repeatL [48] c).toArray⟩) ∧ Below w.heap.size w w' :=
 Tryz.strings_Repeat ⟨#[48]⟩ c w (by omega) (by show 1 * c ≤ _; omega)
theorem hexS_size (n : Int) : (hexS n).size = if n < 16 then 1 else if n < 256 then 2 else if n < 4096 then 3 else 4 := by
 unfold hexS; split
 ·rfl
 ·split
  ·rfl
  ·split <;> rfl
theorem hexS_pad (n : Int) (h0 : 0 ≤ n) (h1 : n < 65536) : (⟨(Lib.repeatL [48] (4 - (hexS n).size)).toArray⟩ : ByteArray) ++ hexS n = hex4 n := by
 have d0 : dgt 0 = 48 := rfl
 rw [hexS_size]
 unfold hexS hex4
 by_cases a : n < 16
 ·simp only [if_pos a]
  have e1 : n / 4096 = 0 := by omega
  have e2 : n / 256 % 16 = 0 := by omega
  have e3 : n / 16 % 16 = 0 := by omega
  have e4 : n % 16 = n := by omega
  rw [e1, e2, e3, e4, d0]; rfl
 ·simp only [if_neg a]
  by_cases b : n < 256
  ·simp only [if_pos b]
   have e1 : n / 4096 = 0 := by omega
   have e2 : n / 256 % 16 = 0 := by omega
   have e3 : n / 16 % 16 = n / 16 := by omega
   rw [e1, e2, e3, d0]; rfl
  ·simp only [if_neg b]
   by_cases c : n < 4096
   ·simp only [if_pos c]
    have e1 : n / 4096 = 0 := by omega
    have e2 : n / 256 % 16 = n / 16 / 16 := by omega
    rw [e1, e2, d0]; rfl
   ·simp only [if_neg c]
    have e1 : n / 4096 = n / 16 / 16 / 16 := by omega
    have e2 : n / 256 % 16 = n / 16 / 16 % 16 := by omega
    rw [e1, e2]; rfl
set_option maxHeartbeats 1000000 in
theorem hex_calls (n : Int) (h0 : 0 ≤ n) (h1 : n < 65536) (w : World) (h : NumT w) :
  Calls Tryz.prog 61 #[.int .u16 n] w fun e w' => e = .returned (.string (hex4 n)) ∧ Below w.heap.size w w' := by
 have HF := Aside0.mk (fu_calls n h0 h1 w h)
 have hz : 1 ≤ (hexS n).size ∧ (hexS n).size ≤ 4 := by rw [hexS_size]; split <;> (try split) <;> (try split) <;> omega
 have HP := Aside0.mk (hexS_pad n h0 h1)
 obtain ⟨s, hs⟩ : ∃ s, s = hexS n := ⟨_, rfl⟩
 rw [← hs] at HF hz HP
 obtain ⟨c, hc⟩ : ∃ c, c = 4 - s.size := ⟨_, rfl⟩
 have hr : ∀ w, Calls Tryz.prog 89 #[.string ⟨#[48]⟩, .int .i64 (4 - (s.size : Int))] w fun e w' => e = .returned (.string ⟨(Lib.repeatL [48] c).toArray⟩) ∧ Below w.heap.size w w' := fun w => by
  have e : (4 - (s.size : Int)) = ((c : Nat) : Int) := by omega
  rw [e]; exact rep_calls c (by omega) w
 rw [← hc] at HP
 have HR := Aside0.mk hr
 have hl : ((⟨(Lib.repeatL [48] c).toArray⟩ : ByteArray).size + s.size ≤ 9223372036854775807) := by
  have := congrArg ByteArray.size HP.out
  rw [ByteArray.size_append] at this
  have h4 : (hex4 n).size = 4 := rfl
  omega
 clear hr h hs hc
 obtain ⟨hz1, hz4⟩ := hz
 go_enter Tryz.func61, Tryz.ntmps61
 go_wp2_with (first | (go_at_call 88; refine HF.out.mono ?_; rintro e w1 ⟨rfl, hb1⟩) | (go_at_call 89; refine (HR.out _).mono ?_; rintro e w2 ⟨rfl, hb2⟩))
 go_ret
 exact ⟨ret_str HP.out, hb1.trans (hb2.mono hb1.size)⟩
end Go.Proofs.YtkobpbbegalfpaaGreatDoor

/- Printed texts of this seat, cut to what is used. -/
namespace Go.Proofs.YtkobpbbegalfpaaGreatDoor
open Go.RowKit Go.Proofs.YtkobpbbegalfpaaGreatDoorW.PrintWords Go.Proofs.YtkobpbbegalfpaaGreatDoorW.PrintLast Go.Proofs.YtkobpbbegalfpaaGreatDoorW.PrintMore
set_option linter.unusedVariables false

/-- A number's digits. -/
def digS (n : Int) : ByteArray := if n < 0 ∨ 2147483647 < n then ⟨#[]⟩ else ⟨(Lib.itoa n).toArray⟩

def isD (b : UInt8) : Bool := decide (48 ≤ b.toNat) && decide (b.toNat ≤ 57)
end Go.Proofs.YtkobpbbegalfpaaGreatDoor

/- Printed texts of this seat, cut to what is used. -/
namespace Go.Proofs.YtkobpbbegalfpaaGreatDoor
open Go.RowKit Go.Proofs.YtkobpbbegalfpaaGreatDoorW.PrintWords Go.Proofs.YtkobpbbegalfpaaGreatDoorW.PrintLast Go.Proofs.YtkobpbbegalfpaaGreatDoorW.PrintMore
set_option linter.unusedVariables false


theorem nlit_strings (W : World) (base : Nat) (e : Nat) (xs : List ByteArray) (hb : base ≤ W.heap.size) (hm : xs.length ≤ 100000) : Kd.string.R e (W.alloc (.cells (encs Value.string xs).toArray e)) base (fun _ => True) (.slice (some ⟨W.heap.size, 0, none⟩) xs.length xs.length) xs :=
 Kd.R_of_own (own_lit_of W base e xs hb (by omega)) (fun _ _ => trivial)
theorem nlitC (W : World) (e : Nat) (xs : List ByteArray) (hm : xs.length ≤ 100000) : Kd.string.C (W.alloc (.cells (encs Value.string xs).toArray e)) (some ⟨W.heap.size, 0, none⟩) xs.length xs :=
 (Kd.R_reads' (nlit_strings W 0 e xs (Nat.zero_le _) hm)).2.2
theorem digS_size (n : Int) : (digS n).size ≤ 21 := by
 unfold digS
 split
 ·decide
 ·have := Lib.itoa_length_le n (by omega) (by omega)
  show (Lib.itoa n).toArray.size ≤ 21
  simpa using this

end Go.Proofs.YtkobpbbegalfpaaGreatDoor

/- Printed texts of this seat, cut to what is used. -/
namespace Go.Proofs.YtkobpbbegalfpaaGreatDoor
open Go.RowKit Go.Proofs.YtkobpbbegalfpaaGreatDoorW.PrintWords Go.Proofs.YtkobpbbegalfpaaGreatDoorW.PrintLast Go.Proofs.YtkobpbbegalfpaaGreatDoorW.PrintMore
open Go.Lib (parseUintM decDigits)
set_option linter.unusedVariables false

theorem dec_step (n : Nat) (h : ¬ n < 10) : decDigits n = decDigits (n / 10) ++ [UInt8.ofNat (48 + n % 10)] := by
 rw [decDigits, dif_neg h]
theorem dec_one (n : Nat) (h : n < 10) : decDigits n = [UInt8.ofNat (48 + n)] := by
 rw [decDigits, dif_pos h]
theorem ofNat_toNat (m : Nat) (h : m < 256) : (UInt8.ofNat m).toNat = m := by
 rw [show (UInt8.ofNat m).toNat = m % 256 by simp]; omega
theorem digit_isD (m : Nat) (h : m < 10) : isD (UInt8.ofNat (48 + m)) = true := by
 unfold isD
 rw [ofNat_toNat _ (by omega)]
 simp; omega
theorem parse_append (M : Nat) : ∀ (a b : List UInt8) (acc : Nat), parseUintM M acc (a ++ b) = match parseUintM M acc a with
  | .ok u => parseUintM M u b
  | e => e
 | [], b, acc => rfl
 | c :: r, b, acc => by
  have e : ∀ r : List UInt8, parseUintM M acc (c :: r) = if 48 ≤ c.toNat ∧ c.toNat ≤ 57 then if 1844674407370955162 ≤ acc then .range else if M < acc * 10 + (c.toNat - 48) then .range else parseUintM M (acc * 10 + (c.toNat - 48)) r else Lib.NumEnd.syntax := fun _ => rfl
  rw [List.cons_append, e, e]
  split
  ·split
   ·rfl
   ·split
    ·rfl
    ·exact parse_append M r b _
  ·rfl
theorem parse_digit (M acc m : Nat) (h : m < 10) (hM : M ≤ 2147483647) (hacc : acc * 10 + m ≤ M) : parseUintM M acc [UInt8.ofNat (48 + m)] = .ok (acc * 10 + m) := by
 unfold parseUintM
 rw [ofNat_toNat _ (by omega), if_pos (by omega), if_neg (by omega), if_neg (by omega)]
 show Lib.NumEnd.ok (acc * 10 + (48 + m - 48)) = _
 rw [Nat.add_sub_cancel_left]
theorem parse_dec (M : Nat) (hM : M ≤ 2147483647) (n : Nat) : n ≤ M → parseUintM M 0 (decDigits n) = .ok n := by
 induction n using Nat.strongRecOn with
 | ind n ih =>
  intro hn
  by_cases h : n < 10
  ·rw [dec_one n h]
   have := parse_digit M 0 n h hM (by omega)
   rw [Nat.zero_mul, Nat.zero_add] at this
   exact this
  ·rw [dec_step n h, parse_append, ih (n / 10) (by omega) (by omega)]
   have := parse_digit M (n / 10) (n % 10) (by omega) hM (by omega)
   rw [show n / 10 * 10 + n % 10 = n from by omega] at this
   exact this
theorem dec_all (n : Nat) : ∀ b ∈ decDigits n, isD b = true := by
 induction n using Nat.strongRecOn with
 | ind n ih =>
  intro b hb
  by_cases h : n < 10
  ·rw [dec_one n h] at hb
   rw [List.mem_singleton.1 hb]
   exact digit_isD n h
  ·rw [dec_step n h] at hb
   rcases List.mem_append.1 hb with hb | hb
   ·exact ih (n / 10) (by omega) b hb
   ·rw [List.mem_singleton.1 hb]
    exact digit_isD _ (by omega)
theorem dec_ne (n : Nat) : decDigits n ≠ [] := by
 by_cases h : n < 10
 ·rw [dec_one n h]; simp
 ·rw [dec_step n h]; simp
theorem getD_append {a b : List UInt8} (h : a ≠ []) : (a ++ b).getD 0 0 = a.getD 0 0 := by
 cases a with
 | nil => exact absurd rfl h
 | cons x r => rfl
theorem dec_first (n : Nat) : 1 ≤ n → (decDigits n).getD 0 0 ≠ 48 := by
 induction n using Nat.strongRecOn with
 | ind n ih =>
  intro h1
  by_cases h : n < 10
  ·rw [dec_one n h]
   show UInt8.ofNat (48 + n) ≠ 48
   intro he
   have := congrArg UInt8.toNat he
   rw [ofNat_toNat _ (by omega)] at this
   have e : (48 : UInt8).toNat = 48 := rfl
   omega
  ·rw [dec_step n h, getD_append (dec_ne _)]
   exact ih (n / 10) (by omega) (by omega)
theorem digS_in (n : Nat) (h : n ≤ 2147483647) : (digS (n : Int)).data.toList = decDigits n := by
 unfold digS
 rw [if_neg (by omega)]
 show (Lib.itoa (n : Int)).toArray.toList = _
 rw [Lib.itoa_nonneg]
end Go.Proofs.YtkobpbbegalfpaaGreatDoor

/-
 internal/strconv.ParseUint at base 10 and 31 bits, and at base 16 and 16 bits: what it returns. (The walk after the kit's own ones at other sizes.)
-/
namespace Go.Proofs.YtkobpbbegalfpaaGreatDoor
open Go.RowKit
set_option linter.unusedVariables false

/-- The value of a digit of base 16; -1: it is none. -/
def hexV (c : Int) : Int := if 48 ≤ c ∧ c ≤ 57 then c - 48 else if 97 ≤ bits .or .u8 c 32 ∧ bits .or .u8 c 32 ≤ 102 then bits .or .u8 c 32 - 87 else -1
/-- What digits of base 16 are, up to 16 bits, behind others. -/
def parseHexM (acc : Int) : List UInt8 → Lib.NumEnd Int
 | [] => .ok acc
 | c :: r => if hexV (c.toNat : Int) < 0 then Lib.NumEnd.syntax else if 65535 < acc * 16 + hexV (c.toNat : Int) then .range else parseHexM (acc * 16 + hexV (c.toNat : Int)) r
def hexTuple (T : TypeId) : Lib.NumEnd Int → Value
 | .ok n => .tuple #[.int .u64 n, .nilIface]
 | Lib.NumEnd.syntax => .tuple #[.int .u64 0, .iface T (.int .i64 2)]
 | .range => .tuple #[.int .u64 65535, .iface T (.int .i64 1)]

theorem lower_calls (c : Int) (w : World) : Calls Tryz.prog 120 #[.int .u8 c] w fun e w' => e = .returned (.int .u8 (bits .or .u8 c 32)) ∧ w' = w := by
 go_enter Tryz.func120, Tryz.ntmps120
 go_wp2
 go_ret
 exact ⟨rfl, rfl⟩

set_option maxHeartbeats 32000000 in
set_option maxRecDepth 100000 in
theorem uint31_calls (t : ByteArray) (hne : t.size ≠ 0) (hmax : t.size ≤ 9223372036854775806) (w : World) :
  Calls Tryz.prog 102 #[.string t, .int .i64 10, .int .i64 31] w fun e w' => e = .returned (Lib.uintTupleM 180 2147483647 (Lib.parseUintM 2147483647 0 t.data.toList)) ∧ w' = Lib.bytesWorld w 5 t := by
 have hemp : t.toList.isEmpty = false := by
  rw [← decide_eq_emptyBytes]
  exact decide_eq_false (fun h => hne (by rw [h]; rfl))
 have hcv := Lib.run_convert_string_bytes (P := Tryz.prog) w 9 64 5 t (u := .string) Tryz.underlying9 Tryz.underlying64 Tryz.underlying5
 have hB : ∀ j, j < t.size → (Lib.bytesWorld w 5 t).cell? ⟨w.heap.size, j, none⟩ = some (.int .u8 (t.data.toList.getD j 0).toNat) := fun j hj => Lib.bytesWorld_cell w 5 t j hj
 obtain ⟨W1, hW1⟩ : ∃ W1, W1 = Lib.bytesWorld w 5 t := ⟨_, rfl⟩
 rw [← hW1] at hcv hB ⊢
 clear hW1
 obtain ⟨bs, hL⟩ : ∃ bs, bs = t.data.toList := ⟨_, rfl⟩
 have hLn : bs.length = t.size := by rw [hL, Lib.size_eq]
 rw [← hL] at hB ⊢
 clear hL
 have hmv : IntKind.u64.wrap (IntKind.u64.wrap 2147483648 - 1) = 2147483647 := by
  rw [IntKind.wrap_u64, IntKind.wrap_u64]
  decide
 go_enter Tryz.func102, Tryz.ntmps102
 go_wp2
 go_loop [12, 13, 101] (fun vu vn vi => ∃ (k acc : Nat) (a : Int), vu = .bool false ∧ vn = .int .u64 a ∧ vi = .int .i64 k ∧ k ≤ t.size ∧ Hid (a = (acc : Int) ∧ acc ≤ 2147483647 ∧ Lib.parseUintM 2147483647 0 bs = Lib.parseUintM 2147483647 acc (bs.drop k)))
  (fun _ _ vi => t.size - (intOf vi).toNat)
 case atStart => exact ⟨0, 0, 0, rfl, rfl, rfl, by omega, rfl, by omega, rfl⟩
 case round =>
  obtain ⟨k, acc, a, rfl, rfl, rfl, hk, hh⟩ := hrel
  obtain ⟨ha, hacc, hdec⟩ := hh.out
  clear hh
  have a0 : 0 ≤ a := by omega
  have a1 : a ≤ 2147483647 := by omega
  by_cases hkn : k < t.size
  ·have hc := hB k hkn
   have hdrop : bs.drop k = bs[k]'(by omega) :: bs.drop (k + 1) := List.drop_eq_getElem_cons (by omega)
   have hget : bs.getD k 0 = bs[k]'(by omega) := by simp [List.getD, List.getElem?_eq_getElem (show k < bs.length by omega)]
   rw [hdrop] at hdec
   rw [hget] at hc
   generalize bs[k]'(by omega) = c at hc hdec
   have hc256 : c.toNat < 256 := c.toNat_lt
   clear hB hdrop hget
   by_cases hdig : 48 ≤ c.toNat ∧ c.toNat ≤ 57
   ·obtain ⟨hd0, hd1⟩ := hdig
    have hcut : ¬ 1844674407370955162 ≤ acc := by omega
    by_cases hov : 2147483647 < acc * 10 + (c.toNat - 48)
    ·have hF : Lib.parseUintM 2147483647 acc (c :: bs.drop (k + 1)) = .range := by simp [Lib.parseUintM, hd0, hd1, hcut, hov]
     rw [hF] at hdec
     have iov : 2147483647 < a * 10 + ((c.toNat : Int) - 48) := by omega
     clear hcut hacc hF hov ha
     go_wp2
     go_ret2
     exact ⟨rfl, rfl⟩
    ·have hF : Lib.parseUintM 2147483647 acc (c :: bs.drop (k + 1)) = Lib.parseUintM 2147483647 (acc * 10 + (c.toNat - 48)) (bs.drop (k + 1)) := by simp [Lib.parseUintM, hd0, hd1, hcut, hov]
     have HN : Hid (a * 10 + ((c.toNat : Int) - 48) = ((acc * 10 + (c.toNat - 48) : Nat) : Int) ∧ acc * 10 + (c.toNat - 48) ≤ 2147483647 ∧ Lib.parseUintM 2147483647 0 bs = Lib.parseUintM 2147483647 (acc * 10 + (c.toNat - 48)) (bs.drop (k + 1))) := Lib.hid ⟨by omega, by omega, hdec.trans hF⟩
     have iov : a * 10 + ((c.toNat : Int) - 48) ≤ 2147483647 := by omega
     clear hcut hacc hF hov hdec ha
     go_wp2
     refine ⟨⟨k + 1, acc * 10 + (c.toNat - 48), a * 10 + ((c.toNat : Int) - 48), rfl, (by first | rfl | (congr 1; omega)), (by first | rfl | (congr 1; omega)), by omega, HN⟩, by simp [intOf]; omega⟩
   ·have hF : Lib.parseUintM 2147483647 acc (c :: bs.drop (k + 1)) = Lib.NumEnd.syntax := by simp [Lib.parseUintM, hdig]
    rw [hF] at hdec
    clear hacc hF ha
    have hv0 := bits_lo_u8 .or (c.toNat : Int) 32
    have hv1 := bits_hi_u8 .or (c.toNat : Int) 32
    have hu0 := bits_lo_u8 .or 95 32
    have hu1 := bits_hi_u8 .or 95 32
    go_wp2_with (go_at_call 120; refine (lower_calls _ _).mono ?_; rintro e w' ⟨rfl, rfl⟩)
    all_goals go_ret2
    all_goals first | exact ⟨rfl, rfl⟩ | exact ⟨by rw [hdec]; rfl, rfl⟩
  ·have hkk : k = t.size := by omega
   subst hkk
   have hF : Lib.parseUintM 2147483647 acc (bs.drop t.size) = .ok acc := by rw [List.drop_eq_nil_of_le (by omega)]; rfl
   rw [hF] at hdec
   subst ha
   clear hacc hF a0 a1
   go_wp2
   go_ret2
   exact ⟨rfl, rfl⟩
end Go.Proofs.YtkobpbbegalfpaaGreatDoor

/-
 internal/strconv.ParseUint at base 16 and 16 bits: what it returns.
-/
namespace Go.Proofs.YtkobpbbegalfpaaGreatDoor
open Go.RowKit
set_option linter.unusedVariables false

set_option maxHeartbeats 32000000 in
set_option maxRecDepth 100000 in
theorem uint16_calls (t : ByteArray) (hne : t.size ≠ 0) (hmax : t.size ≤ 9223372036854775806) (w : World) :
  Calls Tryz.prog 102 #[.string t, .int .i64 16, .int .i64 16] w fun e w' => e = .returned (hexTuple 180 (parseHexM 0 t.data.toList)) ∧ w' = Lib.bytesWorld w 5 t := by
 have hemp : t.toList.isEmpty = false := by
  rw [← decide_eq_emptyBytes]
  exact decide_eq_false (fun h => hne (by rw [h]; rfl))
 have hcv := Lib.run_convert_string_bytes (P := Tryz.prog) w 9 64 5 t (u := .string) Tryz.underlying9 Tryz.underlying64 Tryz.underlying5
 have hB : ∀ j, j < t.size → (Lib.bytesWorld w 5 t).cell? ⟨w.heap.size, j, none⟩ = some (.int .u8 (t.data.toList.getD j 0).toNat) := fun j hj => Lib.bytesWorld_cell w 5 t j hj
 obtain ⟨W1, hW1⟩ : ∃ W1, W1 = Lib.bytesWorld w 5 t := ⟨_, rfl⟩
 rw [← hW1] at hcv hB ⊢
 clear hW1
 obtain ⟨bs, hL⟩ : ∃ bs, bs = t.data.toList := ⟨_, rfl⟩
 have hLn : bs.length = t.size := by rw [hL, Lib.size_eq]
 rw [← hL] at hB ⊢
 clear hL
 have hmv : IntKind.u64.wrap (IntKind.u64.wrap 65536 - 1) = 65535 := by
  rw [IntKind.wrap_u64, IntKind.wrap_u64]
  decide
 go_enter Tryz.func102, Tryz.ntmps102
 go_wp2
 go_loop [12, 13, 101] (fun vu vn vi => ∃ (k : Nat) (a : Int), vu = .bool false ∧ vn = .int .u64 a ∧ vi = .int .i64 k ∧ k ≤ t.size ∧ Hid (0 ≤ a ∧ a ≤ 65535 ∧ parseHexM 0 bs = parseHexM a (bs.drop k)))
  (fun _ _ vi => t.size - (intOf vi).toNat)
 case atStart => exact ⟨0, 0, rfl, rfl, rfl, by omega, by omega, by omega, rfl⟩
 case round =>
  obtain ⟨k, a, rfl, rfl, rfl, hk, hh⟩ := hrel
  obtain ⟨a0, a1, hdec⟩ := hh.out
  clear hh
  by_cases hkn : k < t.size
  ·have hc := hB k hkn
   have hdrop : bs.drop k = bs[k]'(by omega) :: bs.drop (k + 1) := List.drop_eq_getElem_cons (by omega)
   have hget : bs.getD k 0 = bs[k]'(by omega) := by simp [List.getD, List.getElem?_eq_getElem (show k < bs.length by omega)]
   rw [hdrop] at hdec
   rw [hget] at hc
   generalize bs[k]'(by omega) = c at hc hdec
   have hc256 : c.toNat < 256 := c.toNat_lt
   clear hB hdrop hget
   have hv0 := bits_lo_u8 .or (c.toNat : Int) 32
   have hv1 := bits_hi_u8 .or (c.toNat : Int) 32
   have hu0 := bits_lo_u8 .or 95 32
   have hu1 := bits_hi_u8 .or 95 32
   obtain ⟨x, hx⟩ : ∃ x, x = hexV (c.toNat : Int) := ⟨_, rfl⟩
   have hpar : parseHexM a (c :: bs.drop (k + 1)) = if x < 0 then Lib.NumEnd.syntax else if 65535 < a * 16 + x then .range else parseHexM (a * 16 + x) (bs.drop (k + 1)) := by rw [hx]; rfl
   rw [hpar] at hdec
   clear hpar
   by_cases hdig : 48 ≤ c.toNat ∧ c.toNat ≤ 57
   ·have hxv : x = (c.toNat : Int) - 48 := by rw [hx]; unfold hexV; rw [if_pos (by omega)]
    obtain ⟨hd0, hd1⟩ := hdig
    clear hx hv0 hv1
    subst hxv
    rw [if_neg (by omega)] at hdec
    by_cases hov : 65535 < a * 16 + ((c.toNat : Int) - 48)
    ·rw [if_pos hov] at hdec
     go_wp2
     go_ret2
     first | exact ⟨rfl, rfl⟩ | exact ⟨by rw [hdec]; rfl, rfl⟩
    ·rw [if_neg hov] at hdec
     have HN : Hid (0 ≤ a * 16 + ((c.toNat : Int) - 48) ∧ a * 16 + ((c.toNat : Int) - 48) ≤ 65535 ∧ parseHexM 0 bs = parseHexM (a * 16 + ((c.toNat : Int) - 48)) (bs.drop (k + 1))) := Lib.hid ⟨by omega, by omega, hdec⟩
     clear hdec
     go_wp2
     refine ⟨⟨k + 1, a * 16 + ((c.toNat : Int) - 48), rfl, (by first | rfl | (congr 1; omega)), (by first | rfl | (congr 1; omega)), by omega, HN⟩, by simp [intOf]; omega⟩
   ·obtain ⟨y, hy⟩ : ∃ y, y = bits .or .u8 (c.toNat : Int) 32 := ⟨_, rfl⟩
    have hxv : x = if 97 ≤ y ∧ y ≤ 102 then y - 87 else -1 := by rw [hx]; unfold hexV; rw [if_neg (by omega), hy]
    have HL := Lib.hid (fun w => hy ▸ lower_calls (c.toNat : Int) w : ∀ w, Calls Tryz.prog 120 #[.int .u8 (c.toNat : Int)] w fun e w' => e = .returned (.int .u8 y) ∧ w' = w)
    rw [← hy] at hv0 hv1
    have h95 : (c.toNat : Int) = 95 → y = 127 := fun h => by rw [hy, h]; decide
    clear hx hy
    by_cases hal : 97 ≤ y ∧ y ≤ 102
    ·rw [if_pos hal] at hxv
     obtain ⟨hal0, hal1⟩ := hal
     have h95' : ¬ (c.toNat : Int) = 95 := fun h => by have := h95 h; omega
     clear h95
     subst hxv
     rw [if_neg (by omega)] at hdec
     by_cases hov : 65535 < a * 16 + (y - 87)
     ·rw [if_pos hov] at hdec
      go_wp2_with (go_at_call 120; first | (refine (HL.out _).mono ?_; rintro e w' ⟨rfl, rfl⟩) | (refine (lower_calls _ _).mono ?_; rintro e w' ⟨rfl, rfl⟩))
      all_goals go_ret2
      all_goals first | exact ⟨rfl, rfl⟩ | exact ⟨by rw [hdec]; rfl, rfl⟩
     ·rw [if_neg hov] at hdec
      have HN : Hid (0 ≤ a * 16 + (y - 87) ∧ a * 16 + (y - 87) ≤ 65535 ∧ parseHexM 0 bs = parseHexM (a * 16 + (y - 87)) (bs.drop (k + 1))) := Lib.hid ⟨by omega, by omega, hdec⟩
      clear hdec
      go_wp2_with (go_at_call 120; first | (refine (HL.out _).mono ?_; rintro e w' ⟨rfl, rfl⟩) | (refine (lower_calls _ _).mono ?_; rintro e w' ⟨rfl, rfl⟩))
      all_goals refine ⟨⟨k + 1, a * 16 + (y - 87), rfl, (by first | rfl | (congr 1; omega)), (by first | rfl | (congr 1; omega)), by omega, HN⟩, by simp [intOf]; omega⟩
    ·rw [if_neg hal] at hxv
     subst hxv
     clear h95
     rw [if_pos (by omega)] at hdec
     go_wp2_with (go_at_call 120; first | (refine (HL.out _).mono ?_; rintro e w' ⟨rfl, rfl⟩) | (refine (lower_calls _ _).mono ?_; rintro e w' ⟨rfl, rfl⟩))
     all_goals go_ret2
     all_goals first | exact ⟨rfl, rfl⟩ | exact ⟨by rw [hdec]; rfl, rfl⟩
  ·have hkk : k = t.size := by omega
   subst hkk
   have hF : parseHexM a (bs.drop t.size) = .ok a := by rw [List.drop_eq_nil_of_le (by omega)]; rfl
   rw [hF] at hdec
   go_wp2
   go_ret2
   first | exact ⟨rfl, rfl⟩ | exact ⟨by rw [hdec]; rfl, rfl⟩
end Go.Proofs.YtkobpbbegalfpaaGreatDoor

/-
 strconv.ParseUint at base 10 and 31 bits, and at base 16 and 16 bits.
-/
namespace Go.Proofs.YtkobpbbegalfpaaGreatDoor
open Go.RowKit Go.Proofs.YtkobpbbegalfpaaGreatDoorW.PrintWords Go.Proofs.YtkobpbbegalfpaaGreatDoorW.PrintLast Go.Proofs.YtkobpbbegalfpaaGreatDoorW.PrintMore
set_option linter.unusedVariables false

/-- The errors' variables hold interface values. -/
structure NumE (w : World) : Prop where
 sy : ∃ tp p, w.cell? ⟨1, 0, none⟩ = some (.iface tp p)
 ra : ∃ tp p, w.cell? ⟨2, 0, none⟩ = some (.iface tp p)
theorem NumE.below {w w' : World} (h : NumE w) (hb : Below w.heap.size w w') : NumE w' := by
 obtain ⟨⟨t, p, h1⟩, u, q, h2⟩ := h
 exact ⟨⟨t, p, cell_below h1 hb⟩, u, q, cell_below h2 hb⟩

set_option maxRecDepth 100000 in
theorem uint16_empty (w : World) : Calls Tryz.prog 102 #[.string ⟨#[]⟩, .int .i64 16, .int .i64 16] w fun e w' => e = .returned (hexTuple 180 Lib.NumEnd.syntax) ∧ w' = w := by
 go_enter Tryz.func102, Tryz.ntmps102
 go_wp2
 go_ret2
 exact ⟨rfl, rfl⟩

/-- An error that isn't nil, in a world that has grown. -/
def ErrOut (w : World) (e : Ending) (w' : World) : Prop := ∃ (n : Int) (N : Nat), e = .returned (.tuple #[.int .u64 n, .iface 182 (.pointer (some ⟨N, 0, none⟩))]) ∧ Below w.heap.size w w'

/-- The public one, over an inner one that tells a number. -/
theorem puint_ok (s : ByteArray) (base bts u : Int) (w : World)
  (h : Calls Tryz.prog 102 #[.string s, .int .i64 base, .int .i64 bts] w fun e w' => e = .returned (.tuple #[.int .u64 u, .nilIface]) ∧ Below w.heap.size w w') :
  Calls Tryz.prog 82 #[.string s, .int .i64 base, .int .i64 bts] w fun e w' => e = .returned (.tuple #[.int .u64 u, .nilIface]) ∧ Below w.heap.size w w' := by
 have H := Aside0.mk h
 clear h
 go_enter Tryz.func82, Tryz.ntmps82
 go_wp2_with (go_at_call 102; refine H.out.mono ?_; rintro e w' ⟨rfl, hb⟩)
 go_ret2
 exact ⟨rfl, hb⟩
/-- .. over one that tells an error. -/
theorem puint_err (s : ByteArray) (base bts u c : Int) (hc : c = 1 ∨ c = 2) (hlim : s.size ≤ 281474976710656) (w : World) (hE : NumE w)
  (h : Calls Tryz.prog 102 #[.string s, .int .i64 base, .int .i64 bts] w fun e w' => e = .returned (.tuple #[.int .u64 u, .iface 180 (.int .i64 c)]) ∧ Below w.heap.size w w') :
  Calls Tryz.prog 82 #[.string s, .int .i64 base, .int .i64 bts] w (ErrOut w) := by
 have HT : ∀ w1, Below w.heap.size w w1 → Calls Tryz.prog 103 #[.string ⟨#[80, 97, 114, 115, 101, 85, 105, 110, 116]⟩, .string s, .int .i64 base, .int .i64 bts, .iface 180 (.int .i64 c)] w1 fun e w' => ∃ N, e = .returned (.iface 182 (.pointer (some ⟨N, 0, none⟩))) ∧ Below w.heap.size w w' := by
  intro w1 hb
  obtain ⟨⟨t1, p1, h1⟩, t2, p2, h2⟩ := hE.below hb
  rcases hc with rfl | rfl
  ·exact (Tryz.strconv_toError_range _ s base bts _ w1 hlim h2 (.inr ⟨_, _, rfl⟩)).mono fun e w' ⟨N, he, _, _, hb2⟩ => ⟨N, he, hb.trans (hb2.mono hb.size)⟩
  ·exact (Tryz.strconv_toError_syntax _ s base bts _ w1 hlim h1 (.inr ⟨_, _, rfl⟩)).mono fun e w' ⟨N, he, _, _, hb2⟩ => ⟨N, he, hb.trans (hb2.mono hb.size)⟩
 replace HT := Aside0.mk HT
 have H := Aside0.mk h
 clear h hE hc hlim
 go_enter Tryz.func82, Tryz.ntmps82
 go_wp2_with (first | (go_at_call 102; refine H.out.mono ?_; rintro e w1 ⟨rfl, hb⟩; replace hb := Aside0.mk hb) | (go_at_call 103; refine (HT.out _ hb.out).mono ?_; rintro e w' ⟨N, rfl, hb2⟩))
 go_ret2
 exact ⟨_, N, rfl, hb2⟩

theorem bytes_below {w w' : World} {t : TypeId} {s : ByteArray} (h : w' = Lib.bytesWorld w t s) : Below w.heap.size w w' := by rw [h]; exact Lib.bytesWorld_below _ _ _
theorem puint31_ok (s : ByteArray) (hne : s.size ≠ 0) (hs : s.size ≤ 281474976710656) (u : Nat) (h : Lib.parseUintM 2147483647 0 s.data.toList = .ok u) (w : World) :
  Calls Tryz.prog 82 #[.string s, .int .i64 10, .int .i64 31] w fun e w' => e = .returned (.tuple #[.int .u64 u, .nilIface]) ∧ Below w.heap.size w w' :=
 puint_ok s 10 31 u w ((uint31_calls s hne (by omega) w).mono fun e w' ⟨h1, h2⟩ => ⟨by rw [h1, h]; rfl, bytes_below h2⟩)
theorem puint31_range (s : ByteArray) (hne : s.size ≠ 0) (hs : s.size ≤ 281474976710656) (h : Lib.parseUintM 2147483647 0 s.data.toList = .range) (w : World) (hE : NumE w) :
  Calls Tryz.prog 82 #[.string s, .int .i64 10, .int .i64 31] w (ErrOut w) :=
 puint_err s 10 31 2147483647 1 (.inl rfl) hs w hE ((uint31_calls s hne (by omega) w).mono fun e w' ⟨h1, h2⟩ => ⟨by rw [h1, h]; rfl, bytes_below h2⟩)

/-- What a text tells as a number of base 16 and 16 bits. -/
def hexRead (s : ByteArray) : Option Int := if s.size = 0 then none else match parseHexM 0 s.data.toList with
 | .ok n => some n
 | _ => none
theorem puint16_ok (s : ByteArray) (hs : s.size ≤ 281474976710656) (u : Int) (h : hexRead s = some u) (w : World) :
  Calls Tryz.prog 82 #[.string s, .int .i64 16, .int .i64 16] w fun e w' => e = .returned (.tuple #[.int .u64 u, .nilIface]) ∧ Below w.heap.size w w' := by
 unfold hexRead at h
 split at h
 ·cases h
 ·rename_i hne
  refine puint_ok s 16 16 u w ((uint16_calls s hne (by omega) w).mono fun e w' ⟨h1, h2⟩ => ⟨?_, bytes_below h2⟩)
  rw [h1]
  rcases hp : parseHexM 0 s.data.toList with n | _ | _
  ·rw [hp] at h; injection h with h; rw [h]; rfl
  ·rw [hp] at h; cases h
  ·rw [hp] at h; cases h
theorem puint16_err (s : ByteArray) (hs : s.size ≤ 281474976710656) (h : hexRead s = none) (w : World) (hE : NumE w) :
  Calls Tryz.prog 82 #[.string s, .int .i64 16, .int .i64 16] w (ErrOut w) := by
 unfold hexRead at h
 by_cases hne : s.size = 0
 ·have : s = ⟨#[]⟩ := by
   apply ByteArray.ext
   exact Array.eq_empty_of_size_eq_zero hne
  subst this
  exact puint_err _ 16 16 0 2 (.inr rfl) hs w hE ((uint16_empty w).mono fun e w' ⟨h1, h2⟩ => ⟨h1, by rw [h2]; exact Below.refl _ _⟩)
 ·rw [if_neg hne] at h
  have HU := uint16_calls s hne (by omega) w
  rcases hp : parseHexM 0 s.data.toList with n | _ | _
  ·rw [hp] at h; cases h
  ·rw [hp] at HU
   exact puint_err s 16 16 0 2 (.inr rfl) hs w hE (HU.mono fun e w' ⟨h1, h2⟩ => ⟨h1, bytes_below h2⟩)
  ·rw [hp] at HU
   exact puint_err s 16 16 65535 1 (.inl rfl) hs w hE (HU.mono fun e w' ⟨h1, h2⟩ => ⟨h1, bytes_below h2⟩)
end Go.Proofs.YtkobpbbegalfpaaGreatDoor
