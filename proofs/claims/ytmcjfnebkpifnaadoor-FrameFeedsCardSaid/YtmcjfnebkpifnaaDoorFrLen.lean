/-
  The length of a frame's body, as far as it is there.
-/
import Derived.Test.YtmcjfnebkpifnaaDoorMem
namespace Go.Proofs.YtmcjfnebkpifnaaDoor
open Go.RowKit Go.Proofs.YtmcjfnebkpifnaaDoorW.PrintWords Go.Proofs.YtmcjfnebkpifnaaDoorW.PrintLast Go.Proofs.YtmcjfnebkpifnaaDoorW.PrintMore
set_option linter.unusedVariables false
set_option maxRecDepth 100000
set_option linter.unusedSimpArgs false

/-- The length, if all its bytes are there. -/
def frPart (bs : List Int) : Nat → Int
  | 0 => 0
  | k + 1 => frPart bs k * 256 + bs.getD (k + 1) 0
def frNum (bs : List Int) : Int := frPart bs 4
def Bytes (bs : List Int) : Prop := ∀ x ∈ bs, 0 ≤ x ∧ x ≤ 255

theorem Bytes.getD {bs : List Int} (h : Bytes bs) (i : Nat) : 0 ≤ bs.getD i 0 ∧ bs.getD i 0 ≤ 255 := by
  rw [List.getD_eq_getElem?_getD]
  by_cases hi : i < bs.length
  · rw [List.getElem?_eq_getElem hi]; exact h _ (List.getElem_mem hi)
  · rw [List.getElem?_eq_none (by omega)]; decide

theorem frPart_bd {bs : List Int} (h : Bytes bs) (k : Nat) : 0 ≤ frPart bs k ∧ frPart bs k < 256 ^ k := by
  induction k with
  | zero => simp [frPart]
  | succ k ih =>
    have h1 := h.getD (k + 1)
    simp only [frPart, Int.pow_succ]
    omega
theorem or_nat (a b : Nat) (ha : a < 9223372036854775808) (hb : b < 9223372036854775808) : bits .or .i64 (a : Int) (b : Int) = ((a ||| b : Nat) : Int) := by
  have hx : a ||| b < 2 ^ 63 := Nat.or_lt_two_pow (by omega) (by omega)
  have h1 : (BitVec.ofInt 64 (a : Int)).toNat = a := by
    rw [BitVec.ofInt_natCast, BitVec.toNat_ofNat]; exact Nat.mod_eq_of_lt (by omega)
  have h2 : (BitVec.ofInt 64 (b : Int)).toNat = b := by
    rw [BitVec.ofInt_natCast, BitVec.toNat_ofNat]; exact Nat.mod_eq_of_lt (by omega)
  show IntKind.i64.wrap ((BitVec.ofInt 64 (a : Int) ||| BitVec.ofInt 64 (b : Int)).toNat : Int) = _
  rw [BitVec.toNat_or, h1, h2, IntKind.wrap_i64]
  omega
theorem or_byte (a b : Int) (h0 : 0 ≤ a) (ha : a < 16777216) (hb0 : 0 ≤ b) (hb : b ≤ 255) : bits .or .i64 (a * 256) b = a * 256 + b := by
  obtain ⟨x, rfl⟩ := Int.eq_ofNat_of_zero_le h0
  obtain ⟨y, rfl⟩ := Int.eq_ofNat_of_zero_le hb0
  have h := or_nat (x * 256) y (by omega) (by omega)
  have e : (x * 256 ||| y) = x * 256 + y := by
    have := Nat.two_pow_add_eq_or_of_lt (i := 8) (b := y) (by omega) x
    rw [Nat.mul_comm x 256]
    exact this.symm
  rw [e] at h
  rw [Int.natCast_add, Int.natCast_mul] at h
  exact h
theorem frNum_bd {bs : List Int} (h : Bytes bs) : 0 ≤ frNum bs ∧ frNum bs < 4294967296 := frPart_bd h 4

theorem length_short (w : World) (g : Nat) (A : Option Addr) (n c : Nat) (hc : w.cell? ⟨g, 0, none⟩ = some (.slice A n c)) (hn : n < 5) :
    Calls Tryd.prog 64 #[.pointer (some ⟨g, 0, none⟩)] w fun e w' => e = .returned (.tuple #[.int .i64 0, .bool false]) ∧ w = w' := by
  have h1 : decide ((n : Int) < 5) = true := decide_eq_true (by omega)
  go_enter Tryd.func64, Tryd.ntmps64
  go_wp2
  go_ret2
  exact ⟨rfl, rfl⟩

set_option maxHeartbeats 2000000 in
set_option maxRecDepth 100000 in
theorem length_long (w : World) (g : Nat) (A : Option Addr) (n c : Nat) (bs : List Int) (hc : w.cell? ⟨g, 0, none⟩ = some (.slice A n c)) (hn : 5 ≤ n) (hnc : n ≤ c) (hr : (Kd.int .u8).C w A n bs) (hb : Bytes bs) :
    Calls Tryd.prog 64 #[.pointer (some ⟨g, 0, none⟩)] w fun e w' => e = .returned (.tuple #[.int .i64 (frNum bs), .bool true]) ∧ w = w' := by
  have h1 : decide ((n : Int) < 5) = false := decide_eq_false (by omega)
  obtain ⟨ad, rfl, _⟩ := Kd.at_int hr 0 (by omega) (by omega)
  have HR := Aside0.mk hr
  clear hr
  go_enter Tryd.func64, Tryd.ntmps64
  go_wp2
  go_loop [4, 19] (fun v i => ∃ k : Nat, k ≤ 4 ∧ i = .int .i64 k ∧ v = .int .i64 (frPart bs k)) (fun _ i => 4 - (intOf i).toNat)
  case atStart => exact ⟨0, by omega, rfl, rfl⟩
  case round =>
    obtain ⟨k, hk, rfl, rfl⟩ := hrel
    have hbd := frPart_bd hb k
    have hby : 0 ≤ bs[k + 1]?.getD 0 ∧ bs[k + 1]?.getD 0 ≤ 255 := by have := hb.getD (k + 1); simpa using this
    have hby0 := hby.1
    have hby1 := hby.2
    by_cases hlt : k < 4
    · have hbig : frPart bs k < 256 ^ 3 := Int.lt_of_lt_of_le hbd.2 (by exact_mod_cast Nat.pow_le_pow_right (by omega) (show k ≤ 3 by omega))
      obtain ⟨ad', e, hcell⟩ := Kd.at_int HR.out ((k : Int) + 1) (by omega) (by omega)
      injection e with e
      subst e
      have e2 : ad.add ((k : Int) + 1).toNat = ⟨ad.block, ad.off + 1 + k, none⟩ := by
        have e3 : ((k : Int) + 1).toNat = k + 1 := by omega
        rw [e3]; unfold Addr.add; rw [if_neg (by omega), Nat.add_assoc, Nat.add_comm 1 k]
      have e4 : rd bs ((k : Int) + 1) = bs.getD (k + 1) 0 := by unfold rd; congr 1
      rw [e2, e4] at hcell
      have hbig0 := hbd.1
      have HO := Aside0.mk (or_byte (frPart bs k) (bs[k + 1]?.getD 0) hbig0 hbig hby0 hby1)
      have HP : Aside0 (frPart bs (k + 1) = frPart bs k * 256 + bs[k + 1]?.getD 0) := ⟨by simp [frPart]⟩
      clear hbd hby
      go_wp2
      go_round
      case rel => exact ⟨k + 1, by omega, by go_num, by rw [HO.out, HP.out]⟩
      case measure => simp [intOf]; omega
    · have hk4 : k = 4 := by omega
      subst hk4
      clear hlt hbd hby hby0 hby1
      go_wp2
      go_ret2
      exact ⟨rfl, rfl⟩

/-- What is wrong with the last byte: 0, 2 or 3. -/
def frWrong (bs : List Int) : Int :=
  if bs.length = 1 ∧ bs.getD 0 0 ≠ 1 ∧ bs.getD 0 0 ≠ 2 then 2
  else if bs.length = 5 ∧ 65535 < frNum bs then 3 else 0

set_option maxHeartbeats 2000000 in
theorem wrong_calls (w : World) (g : Nat) (A : Option Addr) (n c : Nat) (bs : List Int) (hc : w.cell? ⟨g, 0, none⟩ = some (.slice A n c)) (hn : 1 ≤ n) (hnc : n ≤ c) (hr : (Kd.int .u8).C w A n bs) (hb : Bytes bs) :
    Calls Tryd.prog 50 #[.pointer (some ⟨g, 0, none⟩)] w fun e w' => e = .returned (.int .i64 (frWrong bs)) ∧ w = w' := by
  have hlen : bs.length = n := Kd.C_len hr
  by_cases h5 : n < 5
  · have HL := Aside0.mk (length_short w g A n c hc h5)
    have g5 : ((n : Int) == 5) = false := beq_eq_false_iff_ne.2 (by omega)
    have g5' : (n == 5) = false := beq_eq_false_iff_ne.2 (by omega)
    by_cases h1 : n = 1
    · subst h1
      obtain ⟨ad, rfl, hcell⟩ := Kd.at_int hr 0 (by omega) (by omega)
      have e2 : ad.add (0 : Int).toNat = ad := by unfold Addr.add; simp
      have e4 : rd bs 0 = bs.getD 0 0 := rfl
      rw [e2, e4] at hcell
      obtain ⟨b0, hb0⟩ : ∃ b0, b0 = bs.getD 0 0 := ⟨_, rfl⟩
      rw [← hb0] at hcell
      by_cases hA : b0 = 1
      · have hw : frWrong bs = 0 := by unfold frWrong; rw [← hb0, if_neg (by omega), if_neg (by omega)]
        have a1 : (b0 != 1) = false := by rw [hA]; rfl
        subst hA
        rw [hw]
        clear hr hw hb0 h5 hlen
        go_enter Tryd.func50, Tryd.ntmps50
        go_wp2_with (go_at_call 64; refine HL.out.mono ?_; rintro e w' ⟨rfl, rfl⟩)
        go_ret
        exact ⟨rfl, rfl⟩
      · have a1 : (b0 != 1) = true := bne_iff_ne.2 hA
        by_cases hB : b0 = 2
        · have hw : frWrong bs = 0 := by unfold frWrong; rw [← hb0, if_neg (by omega), if_neg (by omega)]
          subst hB
          rw [hw]
          clear hr hw hb0 h5 hlen hA
          go_enter Tryd.func50, Tryd.ntmps50
          go_wp2_with (go_at_call 64; refine HL.out.mono ?_; rintro e w' ⟨rfl, rfl⟩)
          go_ret
          exact ⟨rfl, rfl⟩
        · have a2 : (b0 != 2) = true := bne_iff_ne.2 hB
          have hw : frWrong bs = 2 := by unfold frWrong; rw [← hb0, if_pos ⟨hlen, hA, hB⟩]
          rw [hw]
          clear hr hw hb0 h5 hlen hA hB
          go_enter Tryd.func50, Tryd.ntmps50
          go_wp2_with (go_at_call 64; refine HL.out.mono ?_; rintro e w' ⟨rfl, rfl⟩)
          go_ret
          exact ⟨rfl, rfl⟩
    · have hw : frWrong bs = 0 := by unfold frWrong; rw [if_neg (by omega), if_neg (by omega)]
      have g1 : ((n : Int) == 1) = false := beq_eq_false_iff_ne.2 (by omega)
      have g1' : (n == 1) = false := beq_eq_false_iff_ne.2 h1
      rw [hw]
      clear hr hw h5 hlen h1
      go_enter Tryd.func50, Tryd.ntmps50
      go_wp2_with (go_at_call 64; refine HL.out.mono ?_; rintro e w' ⟨rfl, rfl⟩)
      go_ret
      exact ⟨rfl, rfl⟩
  · have HL := Aside0.mk (length_long w g A n c bs hc (by omega) hnc hr hb)
    have g1 : ((n : Int) == 1) = false := beq_eq_false_iff_ne.2 (by omega)
    have g1' : (n == 1) = false := beq_eq_false_iff_ne.2 (by omega)
    by_cases h6 : n = 5
    · subst h6
      by_cases hq : 65535 < frNum bs
      · have hw : frWrong bs = 3 := by unfold frWrong; rw [if_neg (by omega), if_pos ⟨hlen, hq⟩]
        have hqb : decide (65535 < frNum bs) = true := decide_eq_true hq
        rw [hw]
        clear hr hw h5 hlen hq
        go_enter Tryd.func50, Tryd.ntmps50
        go_wp2_with (go_at_call 64; refine HL.out.mono ?_; rintro e w' ⟨rfl, rfl⟩)
        go_ret
        exact ⟨rfl, rfl⟩
      · have hw : frWrong bs = 0 := by unfold frWrong; rw [if_neg (by omega), if_neg (by omega)]
        have hqb : decide (65535 < frNum bs) = false := decide_eq_false hq
        rw [hw]
        clear hr hw h5 hlen hq
        go_enter Tryd.func50, Tryd.ntmps50
        go_wp2_with (go_at_call 64; refine HL.out.mono ?_; rintro e w' ⟨rfl, rfl⟩)
        go_ret
        exact ⟨rfl, rfl⟩
    · have hw : frWrong bs = 0 := by unfold frWrong; rw [if_neg (by omega), if_neg (by omega)]
      have g5 : ((n : Int) == 5) = false := beq_eq_false_iff_ne.2 (by omega)
      have g5' : (n == 5) = false := beq_eq_false_iff_ne.2 h6
      rw [hw]
      clear hr hw h5 hlen h6
      go_enter Tryd.func50, Tryd.ntmps50
      go_wp2_with (go_at_call 64; refine HL.out.mono ?_; rintro e w' ⟨rfl, rfl⟩)
      go_ret
      exact ⟨rfl, rfl⟩
end Go.Proofs.YtmcjfnebkpifnaaDoor
