/-
  internal/strconv.ParseUint at base 16 and 16 bits: what it returns.
-/
import Derived.Test.YtlnipkhdaikdkaaDoorNuUint
namespace Go.Proofs.YtlnipkhdaikdkaaDoor
open Go.RowKit
set_option linter.unusedVariables false

set_option maxHeartbeats 32000000 in
set_option maxRecDepth 100000 in
theorem uint16_calls (t : ByteArray) (hne : t.size ≠ 0) (hmax : t.size ≤ 9223372036854775806) (w : World) :
    Calls Tryd.prog 45 #[.string t, .int .i64 16, .int .i64 16] w fun e w' => e = .returned (hexTuple 83 (parseHexM 0 t.data.toList)) ∧ w' = Lib.bytesWorld w 5 t := by
  have hemp : t.toList.isEmpty = false := by
    rw [← decide_eq_emptyBytes]
    exact decide_eq_false (fun h => hne (by rw [h]; rfl))
  have hcv := Lib.run_convert_string_bytes (P := Tryd.prog) w 9 50 5 t (u := .string) Tryd.underlying9 Tryd.underlying50 Tryd.underlying5
  have hB : ∀ j, j < t.size → (Lib.bytesWorld w 5 t).cell? ⟨w.heap.size, j, none⟩ = some (.int .u8 (t.data.toList.getD j 0).toNat) := fun j hj => Lib.bytesWorld_cell w 5 t j hj
  obtain ⟨W1, hW1⟩ : ∃ W1, W1 = Lib.bytesWorld w 5 t := ⟨_, rfl⟩
  rw [← hW1] at hcv hB ⊢
  clear hW1
  obtain ⟨bs, hL⟩ : ∃ bs, bs = t.data.toList := ⟨_, rfl⟩
  have hLn : bs.length = t.size := by rw [hL, Lib.size_eq]
  rw [← hL] at hB ⊢
  clear hL
  have hmv : IntKind.u64.wrap (IntKind.u64.wrap 65536 - 1) = 65535 := by
    rw [IntKind.wrap_u64, IntKind.wrap_u64]
    decide
  go_enter Tryd.func45, Tryd.ntmps45
  go_wp2
  go_loop [12, 13, 101] (fun vu vn vi => ∃ (k : Nat) (a : Int), vu = .bool false ∧ vn = .int .u64 a ∧ vi = .int .i64 k ∧ k ≤ t.size ∧ Hid (0 ≤ a ∧ a ≤ 65535 ∧ parseHexM 0 bs = parseHexM a (bs.drop k)))
    (fun _ _ vi => t.size - (intOf vi).toNat)
  case atStart => exact ⟨0, 0, rfl, rfl, rfl, by omega, by omega, by omega, rfl⟩
  case round =>
    obtain ⟨k, a, rfl, rfl, rfl, hk, hh⟩ := hrel
    obtain ⟨a0, a1, hdec⟩ := hh.out
    clear hh
    by_cases hkn : k < t.size
    · have hc := hB k hkn
      have hdrop : bs.drop k = bs[k]'(by omega) :: bs.drop (k + 1) := List.drop_eq_getElem_cons (by omega)
      have hget : bs.getD k 0 = bs[k]'(by omega) := by simp [List.getD, List.getElem?_eq_getElem (show k < bs.length by omega)]
      rw [hdrop] at hdec
      rw [hget] at hc
      generalize bs[k]'(by omega) = c at hc hdec
      have hc256 : c.toNat < 256 := c.toNat_lt
      clear hB hdrop hget
      have hv0 := bits_lo_u8 .or (c.toNat : Int) 32
      have hv1 := bits_hi_u8 .or (c.toNat : Int) 32
      have hu0 := bits_lo_u8 .or 95 32
      have hu1 := bits_hi_u8 .or 95 32
      obtain ⟨x, hx⟩ : ∃ x, x = hexV (c.toNat : Int) := ⟨_, rfl⟩
      have hpar : parseHexM a (c :: bs.drop (k + 1)) = if x < 0 then Lib.NumEnd.syntax else if 65535 < a * 16 + x then .range else parseHexM (a * 16 + x) (bs.drop (k + 1)) := by rw [hx]; rfl
      rw [hpar] at hdec
      clear hpar
      by_cases hdig : 48 ≤ c.toNat ∧ c.toNat ≤ 57
      · have hxv : x = (c.toNat : Int) - 48 := by rw [hx]; unfold hexV; rw [if_pos (by omega)]
        obtain ⟨hd0, hd1⟩ := hdig
        clear hx hv0 hv1
        subst hxv
        rw [if_neg (by omega)] at hdec
        by_cases hov : 65535 < a * 16 + ((c.toNat : Int) - 48)
        · rw [if_pos hov] at hdec
          go_wp2
          go_ret2
          first | exact ⟨rfl, rfl⟩ | exact ⟨by rw [hdec]; rfl, rfl⟩
        · rw [if_neg hov] at hdec
          have HN : Hid (0 ≤ a * 16 + ((c.toNat : Int) - 48) ∧ a * 16 + ((c.toNat : Int) - 48) ≤ 65535 ∧ parseHexM 0 bs = parseHexM (a * 16 + ((c.toNat : Int) - 48)) (bs.drop (k + 1))) := Lib.hid ⟨by omega, by omega, hdec⟩
          clear hdec
          go_wp2
          refine ⟨⟨k + 1, a * 16 + ((c.toNat : Int) - 48), rfl, (by first | rfl | (congr 1; omega)), (by first | rfl | (congr 1; omega)), by omega, HN⟩, by simp [intOf]; omega⟩
      · obtain ⟨y, hy⟩ : ∃ y, y = bits .or .u8 (c.toNat : Int) 32 := ⟨_, rfl⟩
        have hxv : x = if 97 ≤ y ∧ y ≤ 102 then y - 87 else -1 := by rw [hx]; unfold hexV; rw [if_neg (by omega), hy]
        have HL := Lib.hid (fun w => hy ▸ lower_calls (c.toNat : Int) w : ∀ w, Calls Tryd.prog 54 #[.int .u8 (c.toNat : Int)] w fun e w' => e = .returned (.int .u8 y) ∧ w' = w)
        rw [← hy] at hv0 hv1
        have h95 : (c.toNat : Int) = 95 → y = 127 := fun h => by rw [hy, h]; decide
        clear hx hy
        by_cases hal : 97 ≤ y ∧ y ≤ 102
        · rw [if_pos hal] at hxv
          obtain ⟨hal0, hal1⟩ := hal
          have h95' : ¬ (c.toNat : Int) = 95 := fun h => by have := h95 h; omega
          clear h95
          subst hxv
          rw [if_neg (by omega)] at hdec
          by_cases hov : 65535 < a * 16 + (y - 87)
          · rw [if_pos hov] at hdec
            go_wp2_with (go_at_call 54; first | (refine (HL.out _).mono ?_; rintro e w' ⟨rfl, rfl⟩) | (refine (lower_calls _ _).mono ?_; rintro e w' ⟨rfl, rfl⟩))
            all_goals go_ret2
            all_goals first | exact ⟨rfl, rfl⟩ | exact ⟨by rw [hdec]; rfl, rfl⟩
          · rw [if_neg hov] at hdec
            have HN : Hid (0 ≤ a * 16 + (y - 87) ∧ a * 16 + (y - 87) ≤ 65535 ∧ parseHexM 0 bs = parseHexM (a * 16 + (y - 87)) (bs.drop (k + 1))) := Lib.hid ⟨by omega, by omega, hdec⟩
            clear hdec
            go_wp2_with (go_at_call 54; first | (refine (HL.out _).mono ?_; rintro e w' ⟨rfl, rfl⟩) | (refine (lower_calls _ _).mono ?_; rintro e w' ⟨rfl, rfl⟩))
            all_goals refine ⟨⟨k + 1, a * 16 + (y - 87), rfl, (by first | rfl | (congr 1; omega)), (by first | rfl | (congr 1; omega)), by omega, HN⟩, by simp [intOf]; omega⟩
        · rw [if_neg hal] at hxv
          subst hxv
          clear h95
          rw [if_pos (by omega)] at hdec
          go_wp2_with (go_at_call 54; first | (refine (HL.out _).mono ?_; rintro e w' ⟨rfl, rfl⟩) | (refine (lower_calls _ _).mono ?_; rintro e w' ⟨rfl, rfl⟩))
          all_goals go_ret2
          all_goals first | exact ⟨rfl, rfl⟩ | exact ⟨by rw [hdec]; rfl, rfl⟩
    · have hkk : k = t.size := by omega
      subst hkk
      have hF : parseHexM a (bs.drop t.size) = .ok a := by rw [List.drop_eq_nil_of_le (by omega)]; rfl
      rw [hF] at hdec
      go_wp2
      go_ret2
      first | exact ⟨rfl, rfl⟩ | exact ⟨by rw [hdec]; rfl, rfl⟩
end Go.Proofs.YtlnipkhdaikdkaaDoor
