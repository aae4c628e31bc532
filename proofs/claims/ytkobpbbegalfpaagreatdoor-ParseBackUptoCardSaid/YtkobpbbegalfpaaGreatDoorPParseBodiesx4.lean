/-
  Joined texts: NuUintH, NuErrP, NuAheadP, NuHeadP, NumPureT, PParseBodiesx4.
-/
import Derived.Test.YtkobpbbegalfpaaGreatDoorNuUint
import Derived.Lib.OthersKept
import Derived.Laws.RangeAny
import Derived.Test.YtkobpbbegalfpaaGreatDoorPsBase
namespace Go.Proofs.YtkobpbbegalfpaaGreatDoor
open Go.RowKit
set_option linter.unusedVariables false
set_option maxHeartbeats 32000000 in
set_option maxRecDepth 100000 in
theorem uint16_calls (t : ByteArray) (hne : t.size ≠ 0) (hmax : t.size ≤ 9223372036854775806) (w : World) :
  Calls Tryz.prog 102 #[.string t, .int .i64 16, .int .i64 16] w fun e w' => e = .returned (hexTuple 180 (parseHexM 0 t.data.toList)) ∧ w' = Lib.bytesWorld w 5 t := by
 have hemp : t.toList.isEmpty = false := by
  rw [← decide_eq_emptyBytes]
  exact decide_eq_false (fun h => hne (by rw [h]; rfl))
 have hcv := Lib.run_convert_string_bytes (P := Tryz.prog) w 9 64 5 t (u := .string) Tryz.underlying9 Tryz.underlying64 Tryz.underlying5
 have hB : ∀ j, j < t.size → (Lib.bytesWorld w 5 t).cell? ⟨w.heap.size, j, none⟩ = some (.int .u8 (t.data.toList.getD j 0).toNat) := fun j hj => Lib.bytesWorld_cell w 5 t j hj
 obtain ⟨W1, hW1⟩ : ∃ W1, W1 = Lib.bytesWorld w 5 t := ⟨_, rfl⟩
 rw [← hW1] at hcv hB ⊢
 clear hW1
 obtain ⟨bs, hL⟩ : ∃ bs, bs = t.data.toList := ⟨_, rfl⟩
 have hLn : bs.length = t.size := by rw [hL, Lib.size_eq]
 rw [← hL] at hB ⊢
 clear hL
 have hmv : IntKind.u64.wrap (IntKind.u64.wrap 65536 - 1) = 65535 := by
  rw [IntKind.wrap_u64, IntKind.wrap_u64]
  decide
 go_enter Tryz.func102, Tryz.ntmps102
 go_wp2
 go_loop [12, 13, 101] (fun vu vn vi => ∃ (k : Nat) (a : Int), vu = .bool false ∧ vn = .int .u64 a ∧ vi = .int .i64 k ∧ k ≤ t.size ∧ Hid (0 ≤ a ∧ a ≤ 65535 ∧ parseHexM 0 bs = parseHexM a (bs.drop k)))
  (fun _ _ vi => t.size - (intOf vi).toNat)
 case atStart => exact ⟨0, 0, rfl, rfl, rfl, by omega, by omega, by omega, rfl⟩
 case round =>
  obtain ⟨k, a, rfl, rfl, rfl, hk, hh⟩ := hrel
  obtain ⟨a0, a1, hdec⟩ := hh.out
  clear hh
  by_cases hkn : k < t.size
  ·have hc := hB k hkn
   have hdrop : bs.drop k = bs[k]'(by omega) :: bs.drop (k + 1) := List.drop_eq_getElem_cons (by omega)
   have hget : bs.getD k 0 = bs[k]'(by omega) := by simp [List.getD, List.getElem?_eq_getElem (show k < bs.length by omega)]
   rw [hdrop] at hdec
   rw [hget] at hc
   generalize bs[k]'(by omega) = c at hc hdec
   have hc256 : c.toNat < 256 := c.toNat_lt
   clear hB hdrop hget
   have hv0 := bits_lo_u8 .or (c.toNat : Int) 32
   have hv1 := bits_hi_u8 .or (c.toNat : Int) 32
   have hu0 := bits_lo_u8 .or 95 32
   have hu1 := bits_hi_u8 .or 95 32
   obtain ⟨x, hx⟩ : ∃ x, x = hexV (c.toNat : Int) := ⟨_, rfl⟩
   have hpar : parseHexM a (c :: bs.drop (k + 1)) = if x < 0 then Lib.NumEnd.syntax else if 65535 < a * 16 + x then .range else parseHexM (a * 16 + x) (bs.drop (k + 1)) := by rw [hx]; rfl
   rw [hpar] at hdec
   clear hpar
   by_cases hdig : 48 ≤ c.toNat ∧ c.toNat ≤ 57
   ·have hxv : x = (c.toNat : Int) - 48 := by rw [hx]; unfold hexV; rw [if_pos (by omega)]
    obtain ⟨hd0, hd1⟩ := hdig
    clear hx hv0 hv1
    subst hxv
    rw [if_neg (by omega)] at hdec
    by_cases hov : 65535 < a * 16 + ((c.toNat : Int) - 48)
    ·rw [if_pos hov] at hdec
     go_wp2
     go_ret2
     first | exact ⟨rfl, rfl⟩ | exact ⟨by rw [hdec]; rfl, rfl⟩
    ·rw [if_neg hov] at hdec
     have HN : Hid (0 ≤ a * 16 + ((c.toNat : Int) - 48) ∧ a * 16 + ((c.toNat : Int) - 48) ≤ 65535 ∧ parseHexM 0 bs = parseHexM (a * 16 + ((c.toNat : Int) - 48)) (bs.drop (k + 1))) := Lib.hid ⟨by omega, by omega, hdec⟩
     clear hdec
     go_wp2
     refine ⟨⟨k + 1, a * 16 + ((c.toNat : Int) - 48), rfl, (by first | rfl | (congr 1; omega)), (by first | rfl | (congr 1; omega)), by omega, HN⟩, by simp [intOf]; omega⟩
   ·obtain ⟨y, hy⟩ : ∃ y, y = bits .or .u8 (c.toNat : Int) 32 := ⟨_, rfl⟩
    have hxv : x = if 97 ≤ y ∧ y ≤ 102 then y - 87 else -1 := by rw [hx]; unfold hexV; rw [if_neg (by omega), hy]
    have HL := Lib.hid (fun w => hy ▸ lower_calls (c.toNat : Int) w : ∀ w, Calls Tryz.prog 120 #[.int .u8 (c.toNat : Int)] w fun e w' => e = .returned (.int .u8 y) ∧ w' = w)
    rw [← hy] at hv0 hv1
    have h95 : (c.toNat : Int) = 95 → y = 127 := fun h => by rw [hy, h]; decide
    clear hx hy
    by_cases hal : 97 ≤ y ∧ y ≤ 102
    ·rw [if_pos hal] at hxv
     obtain ⟨hal0, hal1⟩ := hal
     have h95' : ¬ (c.toNat : Int) = 95 := fun h => by have := h95 h; omega
     clear h95
     subst hxv
     rw [if_neg (by omega)] at hdec
     by_cases hov : 65535 < a * 16 + (y - 87)
     ·rw [if_pos hov] at hdec
      go_wp2_with (go_at_call 120; first | (refine (HL.out _).mono ?_; rintro e w' ⟨rfl, rfl⟩) | (refine (lower_calls _ _).mono ?_; rintro e w' ⟨rfl, rfl⟩))
      all_goals go_ret2
      all_goals first | exact ⟨rfl, rfl⟩ | exact ⟨by rw [hdec]; rfl, rfl⟩
     ·rw [if_neg hov] at hdec
      have HN : Hid (0 ≤ a * 16 + (y - 87) ∧ a * 16 + (y - 87) ≤ 65535 ∧ parseHexM 0 bs = parseHexM (a * 16 + (y - 87)) (bs.drop (k + 1))) := Lib.hid ⟨by omega, by omega, hdec⟩
      clear hdec
      go_wp2_with (go_at_call 120; first | (refine (HL.out _).mono ?_; rintro e w' ⟨rfl, rfl⟩) | (refine (lower_calls _ _).mono ?_; rintro e w' ⟨rfl, rfl⟩))
      all_goals refine ⟨⟨k + 1, a * 16 + (y - 87), rfl, (by first | rfl | (congr 1; omega)), (by first | rfl | (congr 1; omega)), by omega, HN⟩, by simp [intOf]; omega⟩
    ·rw [if_neg hal] at hxv
     subst hxv
     clear h95
     rw [if_pos (by omega)] at hdec
     go_wp2_with (go_at_call 120; first | (refine (HL.out _).mono ?_; rintro e w' ⟨rfl, rfl⟩) | (refine (lower_calls _ _).mono ?_; rintro e w' ⟨rfl, rfl⟩))
     all_goals go_ret2
     all_goals first | exact ⟨rfl, rfl⟩ | exact ⟨by rw [hdec]; rfl, rfl⟩
  ·have hkk : k = t.size := by omega
   subst hkk
   have hF : parseHexM a (bs.drop t.size) = .ok a := by rw [List.drop_eq_nil_of_le (by omega)]; rfl
   rw [hF] at hdec
   go_wp2
   go_ret2
   first | exact ⟨rfl, rfl⟩ | exact ⟨by rw [hdec]; rfl, rfl⟩
end Go.Proofs.YtkobpbbegalfpaaGreatDoor
namespace Go.Proofs.YtkobpbbegalfpaaGreatDoor
open Go.RowKit YtkobpbbegalfpaaGreatDoorW.PrintWords YtkobpbbegalfpaaGreatDoorW.PrintLast YtkobpbbegalfpaaGreatDoorW.PrintMore
set_option linter.unusedVariables false
structure NumE (w : World) : Prop where
 sy : ∃ tp p, w.cell? ⟨1, 0, none⟩ = some (.iface tp p)
 ra : ∃ tp p, w.cell? ⟨2, 0, none⟩ = some (.iface tp p)
theorem NumE.below {w w' : World} (h : NumE w) (hb : Below w.heap.size w w') : NumE w' := by
 obtain ⟨⟨t, p, h1⟩, u, q, h2⟩ := h
 exact ⟨⟨t, p, cell_below h1 hb⟩, u, q, cell_below h2 hb⟩
set_option maxRecDepth 100000 in
theorem uint16_empty (w : World) : Calls Tryz.prog 102 #[.string ⟨#[]⟩, .int .i64 16, .int .i64 16] w fun e w' => e = .returned (hexTuple 180 Lib.NumEnd.syntax) ∧ w' = w := by
 go_enter Tryz.func102, Tryz.ntmps102
 go_wp2
 go_ret2
 exact ⟨rfl, rfl⟩
def ErrOut (w : World) (e : Ending) (w' : World) : Prop := ∃ (n : Int) (N : Nat), e = .returned (.tuple #[.int .u64 n, .iface 182 (.pointer (some ⟨N, 0, none⟩))]) ∧ Below w.heap.size w w'
theorem puint_ok (s : ByteArray) (base bts u : Int) (w : World)
  (h : Calls Tryz.prog 102 #[.string s, .int .i64 base, .int .i64 bts] w fun e w' => e = .returned (.tuple #[.int .u64 u, .nilIface]) ∧ Below w.heap.size w w') :
  Calls Tryz.prog 82 #[.string s, .int .i64 base, .int .i64 bts] w fun e w' => e = .returned (.tuple #[.int .u64 u, .nilIface]) ∧ Below w.heap.size w w' := by
 have H := ak h
 clear h
 go_enter Tryz.func82, Tryz.ntmps82
 go_wp2_with (go_at_call 102; refine H.out.mono ?_; rintro e w' ⟨rfl, hb⟩)
 go_ret2
 exact ⟨rfl, hb⟩
theorem puint_err (s : ByteArray) (base bts u c : Int) (hc : c = 1 ∨ c = 2) (hlim : s.size ≤ 281474976710656) (w : World) (hE : NumE w)
  (h : Calls Tryz.prog 102 #[.string s, .int .i64 base, .int .i64 bts] w fun e w' => e = .returned (.tuple #[.int .u64 u, .iface 180 (.int .i64 c)]) ∧ Below w.heap.size w w') :
  Calls Tryz.prog 82 #[.string s, .int .i64 base, .int .i64 bts] w (ErrOut w) := by
 have HT : ∀ w1, Below w.heap.size w w1 → Calls Tryz.prog 103 #[.string ⟨#[80, 97, 114, 115, 101, 85, 105, 110, 116]⟩, .string s, .int .i64 base, .int .i64 bts, .iface 180 (.int .i64 c)] w1 fun e w' => ∃ N, e = .returned (.iface 182 (.pointer (some ⟨N, 0, none⟩))) ∧ Below w.heap.size w w' := by
  intro w1 hb
  obtain ⟨⟨t1, p1, h1⟩, t2, p2, h2⟩ := hE.below hb
  rcases hc with rfl | rfl
  ·exact (Tryz.strconv_toError_range _ s base bts _ w1 hlim h2 (.inr ⟨_, _, rfl⟩)).mono fun e w' ⟨N, he, _, _, hb2⟩ => ⟨N, he, hb.trans (hb2.mono hb.size)⟩
  ·exact (Tryz.strconv_toError_syntax _ s base bts _ w1 hlim h1 (.inr ⟨_, _, rfl⟩)).mono fun e w' ⟨N, he, _, _, hb2⟩ => ⟨N, he, hb.trans (hb2.mono hb.size)⟩
 replace HT := ak HT
 have H := ak h
 clear h hE hc hlim
 go_enter Tryz.func82, Tryz.ntmps82
 go_wp2_with (first | (go_at_call 102; refine H.out.mono ?_; rintro e w1 ⟨rfl, hb⟩; replace hb := ak hb) | (go_at_call 103; refine (HT.out _ hb.out).mono ?_; rintro e w' ⟨N, rfl, hb2⟩))
 go_ret2
 exact ⟨_, N, rfl, hb2⟩
theorem bytes_below {w w' : World} {t : TypeId} {s : ByteArray} (h : w' = Lib.bytesWorld w t s) : Below w.heap.size w w' := by rw [h]; exact Lib.bytesWorld_below _ _ _
theorem puint31_ok (s : ByteArray) (hne : s.size ≠ 0) (hs : s.size ≤ 281474976710656) (u : Nat) (h : Lib.parseUintM 2147483647 0 s.data.toList = .ok u) (w : World) :
  Calls Tryz.prog 82 #[.string s, .int .i64 10, .int .i64 31] w fun e w' => e = .returned (.tuple #[.int .u64 u, .nilIface]) ∧ Below w.heap.size w w' :=
 puint_ok s 10 31 u w ((uint31_calls s hne (by omega) w).mono fun e w' ⟨h1, h2⟩ => ⟨by rw [h1, h]; rfl, bytes_below h2⟩)
theorem puint31_range (s : ByteArray) (hne : s.size ≠ 0) (hs : s.size ≤ 281474976710656) (h : Lib.parseUintM 2147483647 0 s.data.toList = .range) (w : World) (hE : NumE w) :
  Calls Tryz.prog 82 #[.string s, .int .i64 10, .int .i64 31] w (ErrOut w) :=
 puint_err s 10 31 2147483647 1 (.inl rfl) hs w hE ((uint31_calls s hne (by omega) w).mono fun e w' ⟨h1, h2⟩ => ⟨by rw [h1, h]; rfl, bytes_below h2⟩)
def hexRead (s : ByteArray) : Option Int := if s.size = 0 then none else match parseHexM 0 s.data.toList with
 | .ok n => some n
 | _ => none
theorem puint16_ok (s : ByteArray) (hs : s.size ≤ 281474976710656) (u : Int) (h : hexRead s = some u) (w : World) :
  Calls Tryz.prog 82 #[.string s, .int .i64 16, .int .i64 16] w fun e w' => e = .returned (.tuple #[.int .u64 u, .nilIface]) ∧ Below w.heap.size w w' := by
 unfold hexRead at h
 split at h
 ·cases h
 ·rename_i hne
  refine puint_ok s 16 16 u w ((uint16_calls s hne (by omega) w).mono fun e w' ⟨h1, h2⟩ => ⟨?_, bytes_below h2⟩)
  rw [h1]
  rcases hp : parseHexM 0 s.data.toList with n | _ | _
  ·rw [hp] at h; injection h with h; rw [h]; rfl
  ·rw [hp] at h; cases h
  ·rw [hp] at h; cases h
theorem puint16_err (s : ByteArray) (hs : s.size ≤ 281474976710656) (h : hexRead s = none) (w : World) (hE : NumE w) :
  Calls Tryz.prog 82 #[.string s, .int .i64 16, .int .i64 16] w (ErrOut w) := by
 unfold hexRead at h
 by_cases hne : s.size = 0
 ·have : s = ⟨#[]⟩ := by
   apply ByteArray.ext
   exact Array.eq_empty_of_size_eq_zero hne
  subst this
  exact puint_err _ 16 16 0 2 (.inr rfl) hs w hE ((uint16_empty w).mono fun e w' ⟨h1, h2⟩ => ⟨h1, by rw [h2]; exact Below.refl _ _⟩)
 ·rw [if_neg hne] at h
  have HU := uint16_calls s hne (by omega) w
  rcases hp : parseHexM 0 s.data.toList with n | _ | _
  ·rw [hp] at h; cases h
  ·rw [hp] at HU
   exact puint_err s 16 16 0 2 (.inr rfl) hs w hE (HU.mono fun e w' ⟨h1, h2⟩ => ⟨h1, bytes_below h2⟩)
  ·rw [hp] at HU
   exact puint_err s 16 16 65535 1 (.inl rfl) hs w hE (HU.mono fun e w' ⟨h1, h2⟩ => ⟨h1, bytes_below h2⟩)
def headL (s : ByteArray) : List UInt8 := s.data.toList.takeWhile isD
theorem drop_cons (s : ByteArray) (pos : Nat) (h : pos < s.size) : s.data.toList.drop pos = s[pos] :: s.data.toList.drop (pos + 1) := by
 have hl : pos < s.data.toList.length := by simpa using h
 rw [List.drop_eq_getElem_cons hl]
 rfl
theorem headL_le (s : ByteArray) : (headL s).length ≤ s.size := by
 have h := (List.takeWhile_prefix (p := isD) (l := s.data.toList)).length_le
 have e : s.data.toList.length = s.size := by simp
 unfold headL; omega
set_option maxHeartbeats 1000000 in
theorem ahead_calls (s : ByteArray) (w : World) (hs : s.size ≤ 9223372036854775806) : Calls Tryz.prog 113 #[.string s] w fun e w' => e = .returned (.int .i64 ((headL s).length : Int)) ∧ Below w.heap.size w w' := by
 have hk0 : (w.iter s 0).heap[w.heap.size]? = some (.stringIter s 0) := World.iter_heap w s 0
 have hb0 : Below w.heap.size w (w.iter s 0) := (Below.refl _ w).alloc (Nat.le_refl _) _
 have hr0 : Aside0 ((headL s).length = 0 + ((s.data.toList.drop 0).takeWhile isD).length) := ⟨by simp [headL]⟩
 go_enter Tryz.func113, Tryz.ntmps113
 go_wp2
 go_loopw [3] (fun _ wr => ∃ pos : Nat, pos ≤ s.size ∧ wr.heap[w.heap.size]? = some (.stringIter s pos) ∧ Below w.heap.size w wr ∧ Aside0 ((headL s).length = pos + ((s.data.toList.drop pos).takeWhile isD).length))
  (fun _ wr => s.size - wr.iterPos w.heap.size)
 case atStart => exact ⟨0, Nat.zero_le _, hk0, hb0, hr0⟩
 case round =>
  obtain ⟨pos, hps, hk, hnx, hr⟩ := hrel
  clear hr0 hk0 hb0
  by_cases hp : pos < s.size
  ·by_cases h128 : (s[pos]'hp).toNat < 128
   ·have hnext : ∀ ty, (Instr.next (.pointer (some ⟨w.heap.size, 0, none⟩)) true ty).run Tryz.prog wr = _ := fun ty => Lib.run_next_ascii_at wr w.heap.size s pos ty hk hp h128
    have hk1 := Lib.iterAt_heap wr w.heap.size s pos (pos + 1) hk
    have hnx1 : Below w.heap.size w (wr.iterAt w.heap.size s (pos + 1)) := Lib.below_iterAt hnx (by omega) s (pos + 1)
    have hmu : wr.iterPos w.heap.size = pos := by simp [World.iterPos, hk]
    generalize wr.iterAt w.heap.size s (pos + 1) = W1 at hnext hk1 hnx1
    have hd := drop_cons s pos hp
    by_cases hdg : 48 ≤ (s[pos]'hp).toNat ∧ (s[pos]'hp).toNat ≤ 57
    ·have hD : isD s[pos] = true := by simp [isD, hdg.1, hdg.2]
     have hr1 : Aside0 ((headL s).length = (pos + 1) + ((s.data.toList.drop (pos + 1)).takeWhile isD).length) := ⟨by
      have := hr.out; rw [hd, List.takeWhile_cons, if_pos hD, List.length_cons] at this; omega⟩
     obtain ⟨g1, g2⟩ := hdg
     clear hd hr hD
     go_wp2
     go_roundw
     case rel => exact ⟨pos + 1, by omega, hk1, hnx1, hr1⟩
     case measure =>
      have hmu2 : W1.iterPos w.heap.size = pos + 1 := by simp [World.iterPos, hk1]
      rw [hmu, hmu2]; omega
    ·have hD : isD s[pos] = false := by
      unfold isD
      by_cases g : 48 ≤ (s[pos]'hp).toNat
      ·have g' : ¬ (s[pos]'hp).toNat ≤ 57 := fun g' => hdg ⟨g, g'⟩
       simp [g']
      ·simp [g]
     have hr1 : Aside0 ((headL s).length = pos) := ⟨by
      have := hr.out; rw [hd, List.takeWhile_cons, if_neg (by simp [hD])] at this; simpa using this⟩
     clear hd hr hD
     by_cases g : 48 ≤ (s[pos]'hp).toNat
     ·have g' : ¬ (s[pos]'hp).toNat ≤ 57 := fun g' => hdg ⟨g, g'⟩
      clear hdg
      go_wp2
      go_ret
      exact ⟨by rw [hr1.out]; rfl, hnx1⟩
     ·clear hdg
      go_wp2
      go_ret
      exact ⟨by rw [hr1.out]; rfl, hnx1⟩
   ·have hhi := (decode_high s pos hp (by omega)).1
    have hnext : ∀ ty, (Instr.next (.pointer (some ⟨w.heap.size, 0, none⟩)) true ty).run Tryz.prog wr = _ := fun ty => Lib.run_next_any_at wr w.heap.size s pos ty hk hp
    have hnx1 : Below w.heap.size w (wr.iterAt w.heap.size s (pos + (Utf8.decode s pos).2)) := Lib.below_iterAt hnx (by omega) s _
    generalize wr.iterAt w.heap.size s (pos + (Utf8.decode s pos).2) = W1 at hnext hnx1
    generalize (Utf8.decode s pos).1 = r at hnext hhi
    have hd := drop_cons s pos hp
    have hD : isD s[pos] = false := by
     unfold isD
     have g' : ¬ (s[pos]'hp).toNat ≤ 57 := by omega
     simp [g']
    have hr1 : Aside0 ((headL s).length = pos) := ⟨by
     have := hr.out; rw [hd, List.takeWhile_cons, if_neg (by simp [hD])] at this; simpa using this⟩
    have g1 : ¬ r < 48 := by omega
    have g2 : ¬ r ≤ 57 := by omega
    clear hd hr hD h128 hk
    go_wp2
    go_ret
    exact ⟨by rw [hr1.out]; rfl, hnx1⟩
  ·have hnext : ∀ ty, (Instr.next (.pointer (some ⟨w.heap.size, 0, none⟩)) true ty).run Tryz.prog wr = _ := fun ty => Lib.run_next_end_at wr w.heap.size s pos ty hk hp
   have hr1 : Aside0 ((headL s).length = s.size) := ⟨by
    have := hr.out
    rw [List.drop_eq_nil_of_le (by simp; omega)] at this
    simp at this; omega⟩
   clear hr
   go_wp2
   go_ret
   exact ⟨by rw [hr1.out]; rfl, hnx⟩
def headR (s : ByteArray) : Int × Int × Int :=
 if (headL s).length = 0 then (0, 0, 2) else if 1 < (headL s).length ∧ (headL s).getD 0 0 = 48 then (0, 0, 2)
 else match Lib.parseUintM 2147483647 0 (headL s) with
  | .ok u => ((u : Int), ((headL s).length : Int), 0)
  | _ => (0, 0, 3)
theorem parse_not_syntax (M : Nat) : ∀ (l : List UInt8) (acc : Nat), (∀ b ∈ l, isD b = true) → Lib.parseUintM M acc l ≠ Lib.NumEnd.syntax
 | [], acc, _ => by simp [Lib.parseUintM]
 | c :: r, acc, h => by
  have hc := h c List.mem_cons_self
  simp only [isD, Bool.and_eq_true, decide_eq_true_eq] at hc
  unfold Lib.parseUintM
  rw [if_pos hc]
  split
  ·simp
  ·split
   ·simp
   ·exact parse_not_syntax M r _ (fun b hb => h b (List.mem_cons_of_mem _ hb))
theorem headL_all (s : ByteArray) : ∀ b ∈ headL s, isD b = true := fun b hb => List.all_eq_true.1 (List.all_takeWhile (p := isD) (l := s.data.toList)) b hb
theorem parse_bound (M : Nat) : ∀ (l : List UInt8) (acc u : Nat), acc ≤ M → Lib.parseUintM M acc l = .ok u → u ≤ M
 | [], acc, u, h0, h => by unfold Lib.parseUintM at h; injection h with h; omega
 | c :: r, acc, u, h0, h => by
  unfold Lib.parseUintM at h
  split at h
  ·split at h
   ·cases h
   ·split at h
    ·cases h
    ·exact parse_bound M r _ u (by omega) h
  ·cases h
theorem headL_extract (s : ByteArray) : (s.extract 0 (headL s).length).data.toList = headL s := by
 have h := List.takeWhile_prefix (p := isD) (l := s.data.toList)
 have e := List.prefix_iff_eq_take.1 h
 rw [ByteArray.data_extract, Array.toList_extract]
 simp only [List.extract, Nat.sub_zero, List.drop_zero]
 exact e.symm
theorem headL_first (s : ByteArray) (h : 0 < s.size) (h1 : 0 < (headL s).length) : s[0] = (headL s).getD 0 0 := by
 have hc := drop_cons s 0 h
 rw [List.drop_zero] at hc
 unfold headL at h1 ⊢
 rw [hc] at h1 ⊢
 rw [List.takeWhile_cons] at h1 ⊢
 split
 ·rfl
 ·rename_i hn; rw [if_neg hn] at h1; simp at h1
theorem byte48 (b : UInt8) : b = 48 ↔ b.toNat = 48 := by
 constructor
 ·rintro rfl; rfl
 ·intro h; exact UInt8.toNat_inj.1 h
def Out3 (w : World) (r : Int × Int × Int) (e : Ending) (w' : World) : Prop := e = .returned (.tuple #[.int .i64 r.1, .int .i64 r.2.1, .int .i64 r.2.2]) ∧ Below w.heap.size w w'
set_option maxHeartbeats 1000000 in
theorem head_calls (s : ByteArray) (hs : s.size ≤ 140737488355328) (w : World) (hE : NumE w) : Calls Tryz.prog 95 #[.string s] w (Out3 w (headR s)) := by
 have HA := ak (ahead_calls s w (by omega))
 have hle := headL_le s
 have hall := ak (headL_all s)
 have hex := ak (headL_extract s)
 have hfst := ak (headL_first s)
 unfold headR
 obtain ⟨l, hl⟩ : ∃ l, l = headL s := ⟨_, rfl⟩
 rw [← hl] at HA hle hall hex hfst ⊢
 clear hl
 by_cases h0 : l.length = 0
 ·rw [if_pos h0]
  rw [h0] at HA
  clear hE hall hex hle hfst h0
  go_enter Tryz.func95, Tryz.ntmps95
  go_wp2_with (go_at_call 113; refine HA.out.mono ?_; rintro e w1 ⟨rfl, hb⟩)
  refine bodyPost_ret (v := .tuple #[.int .i64 0, .int .i64 0, .int .i64 2]) (by simp [results, Tryz.results95, go_sem]) rfl ⟨rfl, hb⟩
 ·rw [if_neg h0]
  have hsz : 0 < s.size := by omega
  by_cases h1 : 1 < l.length ∧ l.getD 0 0 = 48
  ·rw [if_pos h1]
   have hb48 : ((s[0]'hsz).toNat : Int) = 48 := by rw [hfst.out hsz (by omega), h1.2]; rfl
   obtain ⟨n, hn⟩ : ∃ n, n = l.length := ⟨_, rfl⟩
   rw [← hn] at HA hle
   have hn1 : 1 < n := by omega
   clear hE hall hex hfst h0 h1 hn
   go_enter Tryz.func95, Tryz.ntmps95
   go_wp2_with (go_at_call 113; refine HA.out.mono ?_; rintro e w1 ⟨rfl, hb⟩)
   refine bodyPost_ret (v := .tuple #[.int .i64 0, .int .i64 0, .int .i64 2]) (by simp [results, Tryz.results95, go_sem]) rfl ⟨rfl, hb⟩
  ·rw [if_neg h1]
   have hxs : (s.extract 0 l.length).size ≠ 0 := by
    have := congrArg List.length hex.out
    have e : (s.extract 0 l.length).data.toList.length = (s.extract 0 l.length).size := by simp
    omega
   have hxl : (s.extract 0 l.length).size ≤ 281474976710656 := by simp; omega
   have hns := parse_not_syntax 2147483647 l 0 hall.out
   have hb48 : ¬ (1 < l.length) ∨ (1 < l.length ∧ ¬ ((s[0]'hsz).toNat : Int) = 48) := by
    by_cases h2 : 1 < l.length
    ·refine .inr ⟨h2, fun h48 => ?_⟩
     exact h1 ⟨h2, by rw [← hfst.out hsz (by omega)]; exact (byte48 _).2 (by omega)⟩
    ·exact .inl h2
   rcases hp : Lib.parseUintM 2147483647 0 l with u | _ | _
   ·have hu := parse_bound 2147483647 l 0 u (by omega) hp
    have HP : Aside0 (∀ w1, Calls Tryz.prog 82 #[.string (s.extract 0 l.length), .int .i64 10, .int .i64 31] w1 fun e w' => e = .returned (.tuple #[.int .u64 u, .nilIface]) ∧ Below w1.heap.size w1 w') :=
     ⟨fun w1 => puint31_ok _ hxs hxl u (by rw [hex.out]; exact hp) w1⟩
    obtain ⟨n, hn⟩ : ∃ n, n = l.length := ⟨_, rfl⟩
    rw [← hn] at HA hle hb48 HP ⊢
    have hn0 : ¬ n = 0 := by omega
    have q0 : ((n : Int) == 0) = false := by simp; omega
    clear hE hall hex hfst h0 h1 hn hxs hxl hns hp
    rcases hb48 with hb48 | ⟨hn1, hb48⟩
    all_goals (try have q1 : (((s[0]'hsz).toNat : Int) == 48) = false := by simpa using hb48)
    all_goals
     go_enter Tryz.func95, Tryz.ntmps95
     go_wp2_with (first | (go_at_call 113; refine HA.out.mono ?_; rintro e w1 ⟨rfl, hb⟩) | (go_at_call 82; refine (HP.out _).mono ?_; rintro e w2 ⟨rfl, hb2⟩))
     all_goals refine bodyPost_ret (v := .tuple #[.int .i64 u, .int .i64 n, .int .i64 0]) (by simp [results, Tryz.results95, go_sem]) rfl ⟨rfl, hb.trans (hb2.mono hb.size)⟩
   ·exact absurd hp hns
   ·have HP : Aside0 (∀ w1, NumE w1 → Calls Tryz.prog 82 #[.string (s.extract 0 l.length), .int .i64 10, .int .i64 31] w1 (ErrOut w1)) :=
     ⟨fun w1 h1 => puint31_range _ hxs hxl (by rw [hex.out]; exact hp) w1 h1⟩
    obtain ⟨n, hn⟩ : ∃ n, n = l.length := ⟨_, rfl⟩
    rw [← hn] at HA hle hb48 HP
    have hn0 : ¬ n = 0 := by omega
    have q0 : ((n : Int) == 0) = false := by simp; omega
    have hE' := ak hE
    clear hE hall hex hfst h0 h1 hn hxs hxl hns hp
    rcases hb48 with hb48 | ⟨hn1, hb48⟩
    all_goals (try have q1 : (((s[0]'hsz).toNat : Int) == 48) = false := by simpa using hb48)
    all_goals
     go_enter Tryz.func95, Tryz.ntmps95
     go_wp2_with (first | (go_at_call 113; refine HA.out.mono ?_; rintro e w1 ⟨rfl, hb⟩; replace hb := ak hb) | (go_at_call 82; refine (HP.out _ (hE'.out.below hb.out)).mono ?_; rintro e w2 ⟨x, N, rfl, hb2⟩))
     all_goals refine bodyPost_ret (v := .tuple #[.int .i64 0, .int .i64 0, .int .i64 3]) (by simp [results, Tryz.results95, go_sem]) rfl ⟨rfl, hb.out.trans (hb2.mono hb.out.size)⟩
open Go.Lib (parseUintM decDigits)
theorem isD_of (c : UInt8) (h : isD c = true) : 48 ≤ c.toNat ∧ c.toNat ≤ 57 := by
 unfold isD at h
 simpa using h
theorem parse_back (M : Nat) (hM : M ≤ 2147483647) (n : Nat) : ∀ (l : List UInt8) (u : Nat), l.length = n → l ≠ [] → (∀ b ∈ l, isD b = true) → (1 < l.length → l.getD 0 0 ≠ 48) → parseUintM M 0 l = .ok u → decDigits u = l := by
 induction n with
 | zero => intro l u hn h0; exact absurd (List.length_eq_zero_iff.1 hn) h0
 | succ n ih =>
  intro l u hn h0 hall hfst hp
  obtain ⟨a, c, rfl⟩ : ∃ a c, l = a ++ [c] := ⟨l.dropLast, l.getLast h0, (List.dropLast_concat_getLast h0).symm⟩
  have hc := isD_of c (hall c (by simp))
  have e48 : UInt8.ofNat (48 + (c.toNat - 48)) = c := by
   rw [show 48 + (c.toNat - 48) = c.toNat from by omega]
   simp
  by_cases ha : a = []
  ·subst ha
   rw [List.nil_append] at hp ⊢
   unfold parseUintM at hp
   rw [if_pos hc] at hp
   split at hp
   ·cases hp
   ·split at hp
    ·cases hp
    ·unfold parseUintM at hp
     injection hp with hp
     rw [dec_one u (by omega)]
     congr 1
     rw [← e48]
     congr 1
     omega
  ·have hal : a.length = n := by simpa using hn
   have hfa : a.getD 0 0 ≠ 48 := by
    have := hfst (by rw [List.length_append]; have := List.length_pos_iff.2 ha; simp; omega)
    rwa [getD_append ha] at this
   rw [parse_append] at hp
   rcases hv : parseUintM M 0 a with v | _ | _
   ·rw [hv] at hp
    have hd := ih a v hal ha (fun b hb => hall b (by simp [hb])) (fun _ => hfa) hv
    have hv1 : 1 ≤ v := by
     rcases Nat.eq_zero_or_pos v with h | h
     ·subst h
      rw [← hd, dec_one 0 (by omega)] at hfa
      exact absurd rfl hfa
     ·exact h
    have hp : parseUintM M v [c] = .ok u := hp
    unfold parseUintM at hp
    rw [if_pos hc] at hp
    split at hp
    ·cases hp
    ·split at hp
     ·cases hp
     ·unfold parseUintM at hp
      injection hp with hp
      have hu1 : u / 10 = v := by omega
      have hu2 : u % 10 = c.toNat - 48 := by omega
      rw [dec_step u (by omega), hu1, hd, hu2, e48]
   ·rw [hv] at hp; cases hp
   ·rw [hv] at hp; cases hp
theorem head_ok {s : ByteArray} (h : (headR s).2.2 = 0) : (∃ u : Nat, u ≤ 2147483647 ∧ (headR s).1 = (u : Int) ∧ decDigits u = headL s) ∧ (headR s).2.1 = ((headL s).length : Int) ∧ 0 < (headL s).length := by
 unfold headR at h ⊢
 by_cases h0 : (headL s).length = 0
 ·rw [if_pos h0] at h; exact absurd h (by decide)
 ·rw [if_neg h0] at h ⊢
  by_cases h2 : 1 < (headL s).length ∧ (headL s).getD 0 0 = 48
  ·rw [if_pos h2] at h; exact absurd h (by decide)
  ·rw [if_neg h2] at h ⊢
   rcases hp : parseUintM 2147483647 0 (headL s) with u | _ | _
   ·have hu := parse_bound 2147483647 (headL s) 0 u (by omega) hp
    have hd := parse_back 2147483647 (by omega) _ (headL s) u rfl (fun h => h0 (by rw [h]; rfl)) (headL_all s) (fun hl he => h2 ⟨hl, he⟩) hp
    exact ⟨⟨u, hu, rfl, hd⟩, rfl, by omega⟩
   ·rw [hp] at h; exact absurd (show (3 : Int) = 0 from h) (by decide)
   ·rw [hp] at h; exact absurd (show (3 : Int) = 0 from h) (by decide)
theorem head_back {s : ByteArray} (h : (headR s).2.2 = 0) : digS (headR s).1 = s.extract 0 (headR s).2.1.toNat := by
 obtain ⟨⟨u, hu, e1, hd⟩, e2, _⟩ := head_ok h
 rw [e1, e2]
 apply ByteArray.ext
 apply Array.ext'
 rw [digS_in u hu, hd]
 exact (headL_extract s).symm
theorem headR_range (s : ByteArray) : (headR s).2.2 = 0 ∨ (headR s).2.2 = 2 ∨ (headR s).2.2 = 3 := by
 unfold headR
 split
 ·simp
 ·split
  ·simp
  ·split <;> simp
theorem headB_headR (s : ByteArray) : 0 ≤ (headR s).2.1 ∧ (headR s).2.1 ≤ (s.size : Int) := by
 rcases headR_range s with h | h | h
 ·obtain ⟨_, e, _⟩ := head_ok h
  have := headL_le s
  omega
 all_goals
  unfold headR at h ⊢
  have hl := headL_le s
  split
  ·exact ⟨Int.le_refl _, by simp⟩
  ·split
   ·exact ⟨Int.le_refl _, by simp⟩
   ·split
    ·exact ⟨by simp, by simpa using hl⟩
    ·exact ⟨Int.le_refl _, by simp⟩
end Go.Proofs.YtkobpbbegalfpaaGreatDoor
namespace Go.Proofs.YtkobpbbegalfpaaGreatDoor.PParseBodies
open Go.RowKit YtkobpbbegalfpaaGreatDoorW.PrintWords YtkobpbbegalfpaaGreatDoorW.PrintLast YtkobpbbegalfpaaGreatDoorW.PrintMore
attribute [local go_sem] max2_int min2_int max_two min_two max_three min_three max_four min_four
set_option linter.unusedVariables false
set_option linter.unusedSimpArgs false
def bits_RotateLeft16.f (a0 : Int) (a1 : Int) : Option (Int) := if 0 ≤ (Go.bits .and .u64 (IntKind.u64.wrap (a1)) 15) then (if 0 ≤ (IntKind.u64.wrap (16 - (Go.bits .and .u64 (IntKind.u64.wrap (a1)) 15))) then (some (Go.bits .or .u16 (shl .u16 a0 (Go.bits .and .u64 (IntKind.u64.wrap (a1)) 15)) (shr .u16 a0 (IntKind.u64.wrap (16 - (Go.bits .and .u64 (IntKind.u64.wrap (a1)) 15)))))) else (none)) else (none)
set_option maxHeartbeats 8000000 in
set_option maxRecDepth 100000 in
theorem bits_RotateLeft16.calls (a0 : Int) (a1 : Int) (r : Int) (w : World) (h : bits_RotateLeft16.f a0 a1 = some r) :
  Calls Tryz.prog 104 #[.int .u16 a0, .int .i64 a1] w fun e w' => e = .returned (.int .u16 r) ∧ Drawn0 w w' := by
 have H : (if 0 ≤ (Go.bits .and .u64 (IntKind.u64.wrap (a1)) 15) then (if 0 ≤ (IntKind.u64.wrap (16 - (Go.bits .and .u64 (IntKind.u64.wrap (a1)) 15))) then (some (Go.bits .or .u16 (shl .u16 a0 (Go.bits .and .u64 (IntKind.u64.wrap (a1)) 15)) (shr .u16 a0 (IntKind.u64.wrap (16 - (Go.bits .and .u64 (IntKind.u64.wrap (a1)) 15)))))) else (none)) else (none)) = some r := h
 clear h
 obtain ⟨ji3, hji3⟩ : ∃ j_ : Int, (Go.bits .and .u64 (IntKind.u64.wrap (a1)) 15) = j_ := ⟨_, rfl⟩
 replace H : (if 0 ≤ (ji3) then (if 0 ≤ (IntKind.u64.wrap (16 - (ji3))) then (some (Go.bits .or .u16 (shl .u16 a0 (ji3)) (shr .u16 a0 (IntKind.u64.wrap (16 - (ji3)))))) else (none)) else (none)) = some r := mq32 hji3
 by_cases c4 : 0 ≤ (ji3)
 ·rw [if_pos c4] at H
  have c4b0 := eq_true c4
  have c4b1 : decide (0 ≤ (ji3)) = true := decide_eq_true c4
  clear c4
  obtain ⟨ji5, hji5⟩ : ∃ j_ : Int, (shl .u16 a0 (ji3)) = j_ := ⟨_, rfl⟩
  replace H : (if 0 ≤ (IntKind.u64.wrap (16 - (ji3))) then (some (Go.bits .or .u16 (ji5) (shr .u16 a0 (IntKind.u64.wrap (16 - (ji3)))))) else (none)) = some r := mq32 hji5
  have hji5_ : (IntKind.u16.wrap (a0 * 2 ^ min (ji3).toNat 16)) = ji5 := hji5
  have hji5z : (ji3) ≤ 16 → (IntKind.u16.wrap (a0 * 2 ^ (ji3).toNat)) = ji5 := shl_small hji5
  obtain ⟨ji6, hji6⟩ : ∃ j_ : Int, (IntKind.u64.wrap (16 - (ji3))) = j_ := ⟨_, rfl⟩
  replace H : (if 0 ≤ (ji6) then (some (Go.bits .or .u16 (ji5) (shr .u16 a0 (ji6)))) else (none)) = some r := mq32 hji6
  by_cases c7 : 0 ≤ (ji6)
  ·rw [if_pos c7] at H
   have c7b0 := eq_true c7
   have c7b1 : decide (0 ≤ (ji6)) = true := decide_eq_true c7
   clear c7
   obtain ⟨ji8, hji8⟩ : ∃ j_ : Int, (shr .u16 a0 (ji6)) = j_ := ⟨_, rfl⟩
   replace H : (some (Go.bits .or .u16 (ji5) (ji8))) = some r := mq32 hji8
   have hji8_ : (a0 / 2 ^ min (ji6).toNat 16) = ji8 := hji8
   have hji8z : (ji6) ≤ 16 → (a0 / 2 ^ (ji6).toNat) = ji8 := shr_small hji8
   obtain rfl := Option.some.inj H
   go_enter Tryz.func104, Tryz.ntmps104
   go_wp2
   go_ret
   exact ⟨by first | rfl | (simp; done) | (simp only [← hji3, ← hji5, ← hji6, ← hji8] <;> (first | rfl | simp)) | (simp [*]; done), mq52⟩
  ·rw [if_neg c7] at H
   exact absurd H (by simp)
 ·rw [if_neg c4] at H
  exact absurd H (by simp)
mutual
def sum_From.l0 : Nat → Int → List ByteArray → Int → Int → Option (Int)
 | 0, _, _, _, _ => none
 | k + 1, x0, x8, x9, x10 => if x10 < x9 then (if 0 ≤ x10 then (if x10 < (x8.length : Int) then (sum_From.l1 k x0 (rdOf ByteArray.empty x8 x10) x8 x9 x10 ((rdOf ByteArray.empty x8 x10).size : Int) 0) else (none)) else (none)) else (some x0)
def sum_From.l1 : Nat → Int → ByteArray → List ByteArray → Int → Int → Int → Int → Option (Int)
 | 0, _, _, _, _, _, _, _ => none
 | k + 1, x0, x6, x8, x9, x10, x15, x16 => if x16 < x15 then ((bits_RotateLeft16.f x0 (-1)).bind fun t149 => (if 0 ≤ x16 then (if x16 < (x6.size : Int) then (sum_From.l1 k (IntKind.u16.wrap (t149 + (IntKind.u16.wrap (bt x6 x16)))) x6 x8 x9 x10 x15 (wrap64 (x16 + 1))) else (none)) else (none))) else (sum_From.l0 k x0 x8 x9 (wrap64 (x10 + 1)))
end
def sum_From.f (k : Nat) (a0 : Int) (l1 : List ByteArray) : Option (Int) := sum_From.l0 k a0 l1 (l1.length : Int) 0
set_option maxHeartbeats 8000000 in
set_option maxRecDepth 100000 in
theorem sum_From.calls (k : Nat) (a0 : Int) (A1 : Option Addr) (c1 : Nat) (l1 : List ByteArray) (r : Int) (w : World) (hr1 : Kd.C Kd.string w A1 l1.length l1) (hc1 : l1.length ≤ c1) (h : sum_From.f k a0 l1 = some r) :
  Calls Tryz.prog 83 #[.int .u16 a0, .slice A1 l1.length c1] w fun e w' => e = .returned (.int .u16 r) ∧ Drawn0 w w' := by
 have HR1 := ak hr1
 have HC1 := ak hc1
 clear hr1 hc1
 have H : (sum_From.l0 k a0 l1 (l1.length : Int) 0) = some r := h
 clear h
 have H' := ak H
 clear H
 go_enter Tryz.func83, Tryz.ntmps83
 go_wp2
 repeat (go_quiet (fail); try go_wp2)
 go_loopg [0, 10] k (fun kq v0 v10 w' => ∃ (x0_1 : Int) (x10_1 : Int), v0 = .int .u16 x0_1 ∧ v10 = .int .i64 x10_1 ∧ Aside0 (sum_From.l0 kq x0_1 l1 (l1.length : Int) x10_1 = some r) ∧ Aside0 (kq ≤ k) ∧ Drawn0 w w')
 case atStart => exact ⟨(a0), (0), mq39, mq39, H', ⟨Nat.le_refl _⟩, mq52⟩
 case round =>
  clear H'
  obtain ⟨x0_1, x10_1, rfl, rfl, HA, HK1, ⟨m1, rfl⟩⟩ := hrel
  cases gk with
  | zero => exact absurd HA.out (by simp [sum_From.l0])
  | succ k1 =>
   have H := HA.out
   clear HA
   simp only [sum_From.l0] at H
   by_cases c3 : x10_1 < (l1.length : Int)
   ·rw [if_pos c3] at H
    have c3b0 : decide (x10_1 < (l1.length : Int)) = true := decide_eq_true c3
    clear c3
    by_cases c4 : 0 ≤ x10_1
    ·rw [if_pos c4] at H
     have c4b0 : decide (0 ≤ x10_1) = true := decide_eq_true c4
     clear c4
     by_cases c5 : x10_1 < (l1.length : Int)
     ·rw [if_pos c5] at H
      have c5b0 : decide (x10_1 < (l1.length : Int)) = true := decide_eq_true c5
      clear c5
      have H' := ak H
      clear H
      have p148 : 0 ≤ (x10_1 : Int) := of_decide_eq_true mq34
      have q148 : x10_1 < (l1.length : Int) := of_decide_eq_true mq34
      obtain ⟨ad148, e148, hx148_0⟩ := Kd.at_string HR1.out x10_1 p148 q148
      cases e148
      replace p148 := eq_true p148
      replace q148 := eq_true q148
      go_wp2
      repeat (go_quiet (fail); try go_wp2)
      go_loopg [0, 16] k1 (fun kq v0 v16 w' => ∃ (x0_2 : Int) (x16_2 : Int), v0 = .int .u16 x0_2 ∧ v16 = .int .i64 x16_2 ∧ Aside0 (sum_From.l1 kq x0_2 (rdOf ByteArray.empty l1 x10_1) l1 (l1.length : Int) x10_1 ((rdOf ByteArray.empty l1 x10_1).size : Int) x16_2 = some r) ∧ Aside0 (kq ≤ k1) ∧ Drawn0 w w')
      case atStart => exact ⟨(x0_1), (0), mq39, mq39, H', ⟨Nat.le_refl _⟩, mq52⟩
      case round =>
       clear H'
       clear c3b0 c4b0 c5b0 hx148_0 p148 q148
       obtain ⟨x0_2, x16_2, rfl, rfl, HA, HK2, ⟨m2, rfl⟩⟩ := hrel
       cases gk with
       | zero => exact absurd HA.out (by simp [sum_From.l1])
       | succ k2 =>
        have H := HA.out
        clear HA
        simp only [sum_From.l1] at H
        by_cases c6 : x16_2 < ((rdOf ByteArray.empty l1 x10_1).size : Int)
        ·rw [if_pos c6] at H
         have c6b0 : decide (x16_2 < ((rdOf ByteArray.empty l1 x10_1).size : Int)) = true := decide_eq_true c6
         clear c6
         replace H := Option.bind_eq_some_iff.mp H
         obtain ⟨t149, A70, H⟩ := H
         replace H : (if 0 ≤ x16_2 then (if x16_2 < ((rdOf ByteArray.empty l1 x10_1).size : Int) then (sum_From.l1 k2 (IntKind.u16.wrap (t149 + (IntKind.u16.wrap (bt (rdOf ByteArray.empty l1 x10_1) x16_2)))) (rdOf ByteArray.empty l1 x10_1) l1 (l1.length : Int) x10_1 ((rdOf ByteArray.empty l1 x10_1).size : Int) (wrap64 (x16_2 + 1))) else (none)) else (none)) = some r := H
         have A7 := ak A70
         clear A70
         by_cases c8 : 0 ≤ x16_2
         ·rw [if_pos c8] at H
          have c8b0 : decide (0 ≤ x16_2) = true := decide_eq_true c8
          clear c8
          by_cases c9 : x16_2 < ((rdOf ByteArray.empty l1 x10_1).size : Int)
          ·rw [if_pos c9] at H
           have c9b0 : decide (x16_2 < ((rdOf ByteArray.empty l1 x10_1).size : Int)) = true := decide_eq_true c9
           clear c9
           have H' := ak H
           clear H
           go_wp2_with (first | (go_at_call 104; (with_reducible refine (bits_RotateLeft16.calls x0_2 (-1) t149 _ A7.out).mono ?_); rintro e w' ⟨rfl, ⟨nd, rfl⟩⟩; (try first | exact ⟨rfl, _, World.drewN_drewN _ _ _⟩ | exact ⟨rfl, _, Eq.trans (World.drewN_drewN _ _ _) (congrArg (World.drewN _) (Nat.add_assoc _ _ _))⟩); have p10 : 0 ≤ (x16_2 : Int) := of_decide_eq_true mq34; have q10 : x16_2 < ((rdOf ByteArray.empty l1 x10_1).size : Int) := of_decide_eq_true mq34; have hx10 := bt_at (rdOf ByteArray.empty l1 x10_1) x16_2; replace p10 := eq_true p10; replace q10 := eq_true q10))
           repeat (go_quiet (first | (go_at_call 104; (with_reducible refine (bits_RotateLeft16.calls x0_2 (-1) t149 _ A7.out).mono ?_); rintro e w' ⟨rfl, ⟨nd, rfl⟩⟩; (try first | exact ⟨rfl, _, World.drewN_drewN _ _ _⟩ | exact ⟨rfl, _, Eq.trans (World.drewN_drewN _ _ _) (congrArg (World.drewN _) (Nat.add_assoc _ _ _))⟩); have p10 : 0 ≤ (x16_2 : Int) := of_decide_eq_true mq34; have q10 : x16_2 < ((rdOf ByteArray.empty l1 x10_1).size : Int) := of_decide_eq_true mq34; have hx10 := bt_at (rdOf ByteArray.empty l1 x10_1) x16_2; replace p10 := eq_true p10; replace q10 := eq_true q10)); try go_wp2_with (first | (go_at_call 104; (with_reducible refine (bits_RotateLeft16.calls x0_2 (-1) t149 _ A7.out).mono ?_); rintro e w' ⟨rfl, ⟨nd, rfl⟩⟩; (try first | exact ⟨rfl, _, World.drewN_drewN _ _ _⟩ | exact ⟨rfl, _, Eq.trans (World.drewN_drewN _ _ _) (congrArg (World.drewN _) (Nat.add_assoc _ _ _))⟩); have p10 : 0 ≤ (x16_2 : Int) := of_decide_eq_true mq34; have q10 : x16_2 < ((rdOf ByteArray.empty l1 x10_1).size : Int) := of_decide_eq_true mq34; have hx10 := bt_at (rdOf ByteArray.empty l1 x10_1) x16_2; replace p10 := eq_true p10; replace q10 := eq_true q10)))
           go_roundg k2
           case measure => have := HK1.out; have := HK2.out; omega
           case rel => exact ⟨(IntKind.u16.wrap (t149 + (IntKind.u16.wrap (bt (rdOf ByteArray.empty l1 x10_1) x16_2)))), (wrap64 (x16_2 + 1)), mq39, mq39, H', ⟨mq46 HK1 HK2⟩, mq52⟩
          ·rw [if_neg c9] at H
           exact absurd H (by simp)
         ·rw [if_neg c8] at H
          exact absurd H (by simp)
        ·rw [if_neg c6] at H
         have c6b0 : decide (x16_2 < ((rdOf ByteArray.empty l1 x10_1).size : Int)) = false := decide_eq_false c6
         clear c6
         have H' := ak H
         clear H
         go_wp2
         repeat (go_quiet (fail); try go_wp2)
         go_roundg k2
         case measure => have := HK1.out; have := HK2.out; omega
         case rel => exact ⟨(x0_2), (wrap64 (x10_1 + 1)), mq39, mq39, H', ⟨mq46 HK1 HK2⟩, mq52⟩
     ·rw [if_neg c5] at H
      exact absurd H (by simp)
    ·rw [if_neg c4] at H
     exact absurd H (by simp)
   ·rw [if_neg c3] at H
    have c3b0 : decide (x10_1 < (l1.length : Int)) = false := decide_eq_false c3
    clear c3
    obtain rfl := Option.some.inj H
    go_wp2
    repeat (go_quiet (fail); try go_wp2)
    go_ret
    exact ⟨mq39, mq52⟩
def sum_Of.f (k : Nat) (l0 : List ByteArray) : Option (Int) := (sum_From.f k 0 l0).bind fun t150 => (some t150)
set_option maxHeartbeats 8000000 in
set_option maxRecDepth 100000 in
theorem sum_Of.calls (k : Nat) (A0 : Option Addr) (c0 : Nat) (l0 : List ByteArray) (r : Int) (w : World) (hr0 : Kd.C Kd.string w A0 l0.length l0) (hc0 : l0.length ≤ c0) (h : sum_Of.f k l0 = some r) :
  Calls Tryz.prog 54 #[.slice A0 l0.length c0] w fun e w' => e = .returned (.int .u16 r) ∧ Drawn0 w w' := by
 have HR0 := ak hr0
 have HC0 := ak hc0
 clear hr0 hc0
 have H : ((sum_From.f k 0 l0).bind fun t150 => (some t150)) = some r := h
 clear h
 replace H := Option.bind_eq_some_iff.mp H
 obtain ⟨t150, A20, H⟩ := H
 replace H : (some t150) = some r := H
 have A2 := ak A20
 clear A20
 obtain rfl := Option.some.inj H
 go_enter Tryz.func54, Tryz.ntmps54
 go_wp2_with (first | ((with_reducible refine gate_callee (f := 83) rfl ?_); refine gol (some 4) Tryz.func83 #[.int .u16 0, .slice A0 l0.length c0] (h := ?_); (with_reducible refine (sum_From.calls k 0 _ _ l0 t150 _ ?side1 ?side2 A2.out).mono ?_); (case side1 => repeat (first | exact HR0.out | (with_reducible refine Kd.C_alloc ?_ _) | (with_reducible refine Kd.C_drewN ?_ _) | (with_reducible refine Kd.C_drew ?_))); (case side2 => exact HC0.out); rintro e w' ⟨rfl, ⟨nd, rfl⟩⟩; refine ⟨_, rfl, ?_⟩))
 go_ret
 exact ⟨mq39, mq52⟩
end Go.Proofs.YtkobpbbegalfpaaGreatDoor.PParseBodies
