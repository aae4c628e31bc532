/-
  Joined texts: NuUint, NuUintB.
-/
import Derived.Test.YtmcjfnebkpifnaaGreatDoorMem
import Derived.Lib.Strings
import Derived.Lib.Walk
import Derived.Lib.ConvBytes
import Derived.Lib.ParseIntBMem
import Derived.Lib.Hide
import Derived.Laws.Strings3
import Derived.Laws.Closers25
import Derived.Laws.Closers25b
import Derived.WalkKit
import Derived.BigCall
import Derived.BigGuard
/- Printed texts of this seat, cut to what is used. -/
namespace Go.Proofs.YtmcjfnebkpifnaaGreatDoor
open Go.RowKit
set_option linter.unusedVariables false

/-- The value of a digit of base 16; -1: it is none. -/
def hexV (c : Int) : Int := if 48 ≤ c ∧ c ≤ 57 then c - 48 else if 97 ≤ bits .or .u8 c 32 ∧ bits .or .u8 c 32 ≤ 102 then bits .or .u8 c 32 - 87 else -1

theorem lower_calls (c : Int) (w : World) : Calls Tryz.prog 89 #[.int .u8 c] w fun e w' => e = .returned (.int .u8 (bits .or .u8 c 32)) ∧ w' = w := by
  go_enter Tryz.func89, Tryz.ntmps89
  go_wp2
  go_ret
  exact ⟨rfl, rfl⟩

set_option maxHeartbeats 32000000 in
set_option maxRecDepth 100000 in
theorem uint31_calls (t : ByteArray) (hne : t.size ≠ 0) (hmax : t.size ≤ 9223372036854775806) (w : World) :
    Calls Tryz.prog 77 #[.string t, .int .i64 10, .int .i64 31] w fun e w' => e = .returned (Lib.uintTupleM 142 2147483647 (Lib.parseUintM 2147483647 0 t.data.toList)) ∧ w' = Lib.bytesWorld w 5 t := by
  have hemp : t.toList.isEmpty = false := by
    rw [← decide_eq_emptyBytes]
    exact decide_eq_false (fun h => hne (by rw [h]; rfl))
  have hcv := Lib.run_convert_string_bytes (P := Tryz.prog) w 9 47 5 t (u := .string) Tryz.underlying9 Tryz.underlying47 Tryz.underlying5
  have hB : ∀ j, j < t.size → (Lib.bytesWorld w 5 t).cell? ⟨w.heap.size, j, none⟩ = some (.int .u8 (t.data.toList.getD j 0).toNat) := fun j hj => Lib.bytesWorld_cell w 5 t j hj
  obtain ⟨W1, hW1⟩ : ∃ W1, W1 = Lib.bytesWorld w 5 t := ⟨_, rfl⟩
  rw [← hW1] at hcv hB ⊢
  clear hW1
  obtain ⟨bs, hL⟩ : ∃ bs, bs = t.data.toList := ⟨_, rfl⟩
  have hLn : bs.length = t.size := by rw [hL, Lib.size_eq]
  rw [← hL] at hB ⊢
  clear hL
  have hmv : IntKind.u64.wrap (IntKind.u64.wrap 2147483648 - 1) = 2147483647 := by
    rw [IntKind.wrap_u64, IntKind.wrap_u64]
    decide
  go_enter Tryz.func77, Tryz.ntmps77
  go_wp2
  go_loop [12, 13, 101] (fun vu vn vi => ∃ (k acc : Nat) (a : Int), vu = .bool false ∧ vn = .int .u64 a ∧ vi = .int .i64 k ∧ k ≤ t.size ∧ Hid (a = (acc : Int) ∧ acc ≤ 2147483647 ∧ Lib.parseUintM 2147483647 0 bs = Lib.parseUintM 2147483647 acc (bs.drop k)))
    (fun _ _ vi => t.size - (intOf vi).toNat)
  case atStart => exact ⟨0, 0, 0, rfl, rfl, rfl, by omega, rfl, by omega, rfl⟩
  case round =>
    obtain ⟨k, acc, a, rfl, rfl, rfl, hk, hh⟩ := hrel
    obtain ⟨ha, hacc, hdec⟩ := hh.out
    clear hh
    have a0 : 0 ≤ a := by omega
    have a1 : a ≤ 2147483647 := by omega
    by_cases hkn : k < t.size
    · have hc := hB k hkn
      have hdrop : bs.drop k = bs[k]'(by omega) :: bs.drop (k + 1) := List.drop_eq_getElem_cons (by omega)
      have hget : bs.getD k 0 = bs[k]'(by omega) := by simp [List.getD, List.getElem?_eq_getElem (show k < bs.length by omega)]
      rw [hdrop] at hdec
      rw [hget] at hc
      generalize bs[k]'(by omega) = c at hc hdec
      have hc256 : c.toNat < 256 := c.toNat_lt
      clear hB hdrop hget
      by_cases hdig : 48 ≤ c.toNat ∧ c.toNat ≤ 57
      · obtain ⟨hd0, hd1⟩ := hdig
        have hcut : ¬ 1844674407370955162 ≤ acc := by omega
        by_cases hov : 2147483647 < acc * 10 + (c.toNat - 48)
        · have hF : Lib.parseUintM 2147483647 acc (c :: bs.drop (k + 1)) = .range := by simp [Lib.parseUintM, hd0, hd1, hcut, hov]
          rw [hF] at hdec
          have iov : 2147483647 < a * 10 + ((c.toNat : Int) - 48) := by omega
          clear hcut hacc hF hov ha
          go_wp2
          go_ret2
          exact ⟨rfl, rfl⟩
        · have hF : Lib.parseUintM 2147483647 acc (c :: bs.drop (k + 1)) = Lib.parseUintM 2147483647 (acc * 10 + (c.toNat - 48)) (bs.drop (k + 1)) := by simp [Lib.parseUintM, hd0, hd1, hcut, hov]
          have HN : Hid (a * 10 + ((c.toNat : Int) - 48) = ((acc * 10 + (c.toNat - 48) : Nat) : Int) ∧ acc * 10 + (c.toNat - 48) ≤ 2147483647 ∧ Lib.parseUintM 2147483647 0 bs = Lib.parseUintM 2147483647 (acc * 10 + (c.toNat - 48)) (bs.drop (k + 1))) := Lib.hid ⟨by omega, by omega, hdec.trans hF⟩
          have iov : a * 10 + ((c.toNat : Int) - 48) ≤ 2147483647 := by omega
          clear hcut hacc hF hov hdec ha
          go_wp2
          refine ⟨⟨k + 1, acc * 10 + (c.toNat - 48), a * 10 + ((c.toNat : Int) - 48), rfl, (by first | rfl | (congr 1; omega)), (by first | rfl | (congr 1; omega)), by omega, HN⟩, by simp [intOf]; omega⟩
      · have hF : Lib.parseUintM 2147483647 acc (c :: bs.drop (k + 1)) = Lib.NumEnd.syntax := by simp [Lib.parseUintM, hdig]
        rw [hF] at hdec
        clear hacc hF ha
        have hv0 := bits_lo_u8 .or (c.toNat : Int) 32
        have hv1 := bits_hi_u8 .or (c.toNat : Int) 32
        have hu0 := bits_lo_u8 .or 95 32
        have hu1 := bits_hi_u8 .or 95 32
        go_wp2_with (go_at_call 89; refine (lower_calls _ _).mono ?_; rintro e w' ⟨rfl, rfl⟩)
        all_goals go_ret2
        all_goals first | exact ⟨rfl, rfl⟩ | exact ⟨by rw [hdec]; rfl, rfl⟩
    · have hkk : k = t.size := by omega
      subst hkk
      have hF : Lib.parseUintM 2147483647 acc (bs.drop t.size) = .ok acc := by rw [List.drop_eq_nil_of_le (by omega)]; rfl
      rw [hF] at hdec
      subst ha
      clear hacc hF a0 a1
      go_wp2
      go_ret2
      exact ⟨rfl, rfl⟩
end Go.Proofs.YtmcjfnebkpifnaaGreatDoor

/-
  internal/strconv.ParseUint at base 16 and 8 bits: what it returns.
-/
namespace Go.Proofs.YtmcjfnebkpifnaaGreatDoor
open Go.RowKit
set_option linter.unusedVariables false

/-- What digits of base 16 are, up to 8 bits, behind others. -/
def parseHexB (acc : Int) : List UInt8 → Lib.NumEnd Int
  | [] => .ok acc
  | c :: r => if hexV (c.toNat : Int) < 0 then Lib.NumEnd.syntax else if 255 < acc * 16 + hexV (c.toNat : Int) then .range else parseHexB (acc * 16 + hexV (c.toNat : Int)) r
def hexTupleB (T : TypeId) : Lib.NumEnd Int → Value
  | .ok n => .tuple #[.int .u64 n, .nilIface]
  | Lib.NumEnd.syntax => .tuple #[.int .u64 0, .iface T (.int .i64 2)]
  | .range => .tuple #[.int .u64 255, .iface T (.int .i64 1)]

set_option maxHeartbeats 32000000 in
set_option maxRecDepth 100000 in
theorem uint8_calls (t : ByteArray) (hne : t.size ≠ 0) (hmax : t.size ≤ 9223372036854775806) (w : World) :
    Calls Tryz.prog 77 #[.string t, .int .i64 16, .int .i64 8] w fun e w' => e = .returned (hexTupleB 142 (parseHexB 0 t.data.toList)) ∧ w' = Lib.bytesWorld w 5 t := by
  have hemp : t.toList.isEmpty = false := by
    rw [← decide_eq_emptyBytes]
    exact decide_eq_false (fun h => hne (by rw [h]; rfl))
  have hcv := Lib.run_convert_string_bytes (P := Tryz.prog) w 9 47 5 t (u := .string) Tryz.underlying9 Tryz.underlying47 Tryz.underlying5
  have hB : ∀ j, j < t.size → (Lib.bytesWorld w 5 t).cell? ⟨w.heap.size, j, none⟩ = some (.int .u8 (t.data.toList.getD j 0).toNat) := fun j hj => Lib.bytesWorld_cell w 5 t j hj
  obtain ⟨W1, hW1⟩ : ∃ W1, W1 = Lib.bytesWorld w 5 t := ⟨_, rfl⟩
  rw [← hW1] at hcv hB ⊢
  clear hW1
  obtain ⟨bs, hL⟩ : ∃ bs, bs = t.data.toList := ⟨_, rfl⟩
  have hLn : bs.length = t.size := by rw [hL, Lib.size_eq]
  rw [← hL] at hB ⊢
  clear hL
  have hmv : IntKind.u64.wrap (IntKind.u64.wrap 256 - 1) = 255 := by
    rw [IntKind.wrap_u64, IntKind.wrap_u64]
    decide
  go_enter Tryz.func77, Tryz.ntmps77
  go_wp2
  go_loop [12, 13, 101] (fun vu vn vi => ∃ (k : Nat) (a : Int), vu = .bool false ∧ vn = .int .u64 a ∧ vi = .int .i64 k ∧ k ≤ t.size ∧ Hid (0 ≤ a ∧ a ≤ 255 ∧ parseHexB 0 bs = parseHexB a (bs.drop k)))
    (fun _ _ vi => t.size - (intOf vi).toNat)
  case atStart => exact ⟨0, 0, rfl, rfl, rfl, by omega, by omega, by omega, rfl⟩
  case round =>
    obtain ⟨k, a, rfl, rfl, rfl, hk, hh⟩ := hrel
    obtain ⟨a0, a1, hdec⟩ := hh.out
    clear hh
    by_cases hkn : k < t.size
    · have hc := hB k hkn
      have hdrop : bs.drop k = bs[k]'(by omega) :: bs.drop (k + 1) := List.drop_eq_getElem_cons (by omega)
      have hget : bs.getD k 0 = bs[k]'(by omega) := by simp [List.getD, List.getElem?_eq_getElem (show k < bs.length by omega)]
      rw [hdrop] at hdec
      rw [hget] at hc
      generalize bs[k]'(by omega) = c at hc hdec
      have hc256 : c.toNat < 256 := c.toNat_lt
      clear hB hdrop hget
      have hv0 := bits_lo_u8 .or (c.toNat : Int) 32
      have hv1 := bits_hi_u8 .or (c.toNat : Int) 32
      have hu0 := bits_lo_u8 .or 95 32
      have hu1 := bits_hi_u8 .or 95 32
      obtain ⟨x, hx⟩ : ∃ x, x = hexV (c.toNat : Int) := ⟨_, rfl⟩
      have hpar : parseHexB a (c :: bs.drop (k + 1)) = if x < 0 then Lib.NumEnd.syntax else if 255 < a * 16 + x then .range else parseHexB (a * 16 + x) (bs.drop (k + 1)) := by rw [hx]; rfl
      rw [hpar] at hdec
      clear hpar
      by_cases hdig : 48 ≤ c.toNat ∧ c.toNat ≤ 57
      · have hxv : x = (c.toNat : Int) - 48 := by rw [hx]; unfold hexV; rw [if_pos (by omega)]
        obtain ⟨hd0, hd1⟩ := hdig
        clear hx hv0 hv1
        subst hxv
        rw [if_neg (by omega)] at hdec
        by_cases hov : 255 < a * 16 + ((c.toNat : Int) - 48)
        · rw [if_pos hov] at hdec
          go_wp2
          go_ret2
          first | exact ⟨rfl, rfl⟩ | exact ⟨by rw [hdec]; rfl, rfl⟩
        · rw [if_neg hov] at hdec
          have HN : Hid (0 ≤ a * 16 + ((c.toNat : Int) - 48) ∧ a * 16 + ((c.toNat : Int) - 48) ≤ 255 ∧ parseHexB 0 bs = parseHexB (a * 16 + ((c.toNat : Int) - 48)) (bs.drop (k + 1))) := Lib.hid ⟨by omega, by omega, hdec⟩
          clear hdec
          go_wp2
          refine ⟨⟨k + 1, a * 16 + ((c.toNat : Int) - 48), rfl, (by first | rfl | (congr 1; omega)), (by first | rfl | (congr 1; omega)), by omega, HN⟩, by simp [intOf]; omega⟩
      · obtain ⟨y, hy⟩ : ∃ y, y = bits .or .u8 (c.toNat : Int) 32 := ⟨_, rfl⟩
        have hxv : x = if 97 ≤ y ∧ y ≤ 102 then y - 87 else -1 := by rw [hx]; unfold hexV; rw [if_neg (by omega), hy]
        have HL := Lib.hid (fun w => hy ▸ lower_calls (c.toNat : Int) w : ∀ w, Calls Tryz.prog 89 #[.int .u8 (c.toNat : Int)] w fun e w' => e = .returned (.int .u8 y) ∧ w' = w)
        rw [← hy] at hv0 hv1
        have h95 : (c.toNat : Int) = 95 → y = 127 := fun h => by rw [hy, h]; decide
        clear hx hy
        by_cases hal : 97 ≤ y ∧ y ≤ 102
        · rw [if_pos hal] at hxv
          obtain ⟨hal0, hal1⟩ := hal
          have h95' : ¬ (c.toNat : Int) = 95 := fun h => by have := h95 h; omega
          clear h95
          subst hxv
          rw [if_neg (by omega)] at hdec
          by_cases hov : 255 < a * 16 + (y - 87)
          · rw [if_pos hov] at hdec
            go_wp2_with (go_at_call 89; first | (refine (HL.out _).mono ?_; rintro e w' ⟨rfl, rfl⟩) | (refine (lower_calls _ _).mono ?_; rintro e w' ⟨rfl, rfl⟩))
            all_goals go_ret2
            all_goals first | exact ⟨rfl, rfl⟩ | exact ⟨by rw [hdec]; rfl, rfl⟩
          · rw [if_neg hov] at hdec
            have HN : Hid (0 ≤ a * 16 + (y - 87) ∧ a * 16 + (y - 87) ≤ 255 ∧ parseHexB 0 bs = parseHexB (a * 16 + (y - 87)) (bs.drop (k + 1))) := Lib.hid ⟨by omega, by omega, hdec⟩
            clear hdec
            go_wp2_with (go_at_call 89; first | (refine (HL.out _).mono ?_; rintro e w' ⟨rfl, rfl⟩) | (refine (lower_calls _ _).mono ?_; rintro e w' ⟨rfl, rfl⟩))
            all_goals refine ⟨⟨k + 1, a * 16 + (y - 87), rfl, (by first | rfl | (congr 1; omega)), (by first | rfl | (congr 1; omega)), by omega, HN⟩, by simp [intOf]; omega⟩
        · rw [if_neg hal] at hxv
          subst hxv
          clear h95
          rw [if_pos (by omega)] at hdec
          go_wp2_with (go_at_call 89; first | (refine (HL.out _).mono ?_; rintro e w' ⟨rfl, rfl⟩) | (refine (lower_calls _ _).mono ?_; rintro e w' ⟨rfl, rfl⟩))
          all_goals go_ret2
          all_goals first | exact ⟨rfl, rfl⟩ | exact ⟨by rw [hdec]; rfl, rfl⟩
    · have hkk : k = t.size := by omega
      subst hkk
      have hF : parseHexB a (bs.drop t.size) = .ok a := by rw [List.drop_eq_nil_of_le (by omega)]; rfl
      rw [hF] at hdec
      go_wp2
      go_ret2
      first | exact ⟨rfl, rfl⟩ | exact ⟨by rw [hdec]; rfl, rfl⟩
end Go.Proofs.YtmcjfnebkpifnaaGreatDoor
