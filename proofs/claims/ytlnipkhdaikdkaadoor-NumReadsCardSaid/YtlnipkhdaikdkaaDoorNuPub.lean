/-
  strconv.ParseUint at base 10 and 31 bits, and at base 16 and 16 bits.
-/
import Derived.Test.YtlnipkhdaikdkaaDoorNuUintH
import Derived.Test.YtlnipkhdaikdkaaDoorNuHex
namespace Go.Proofs.YtlnipkhdaikdkaaDoor
open Go.RowKit Go.Proofs.YtlnipkhdaikdkaaDoorW.PrintWords Go.Proofs.YtlnipkhdaikdkaaDoorW.PrintLast Go.Proofs.YtlnipkhdaikdkaaDoorW.PrintMore
set_option linter.unusedVariables false

set_option maxRecDepth 100000 in
theorem uint16_empty (w : World) : Calls Tryd.prog 45 #[.string ⟨#[]⟩, .int .i64 16, .int .i64 16] w fun e w' => e = .returned (hexTuple 83 Lib.NumEnd.syntax) ∧ w' = w := by
  go_enter Tryd.func45, Tryd.ntmps45
  go_wp2
  go_ret2
  exact ⟨rfl, rfl⟩

/-- An error that isn't nil, in a world that has grown. -/
def ErrOut (w : World) (e : Ending) (w' : World) : Prop := ∃ (n : Int) (N : Nat), e = .returned (.tuple #[.int .u64 n, .iface 85 (.pointer (some ⟨N, 0, none⟩))]) ∧ Below w.heap.size w w'

/-- The public one, over an inner one that tells a number. -/
theorem puint_ok (s : ByteArray) (base bts u : Int) (w : World)
    (h : Calls Tryd.prog 45 #[.string s, .int .i64 base, .int .i64 bts] w fun e w' => e = .returned (.tuple #[.int .u64 u, .nilIface]) ∧ Below w.heap.size w w') :
    Calls Tryd.prog 37 #[.string s, .int .i64 base, .int .i64 bts] w fun e w' => e = .returned (.tuple #[.int .u64 u, .nilIface]) ∧ Below w.heap.size w w' := by
  have H := Aside0.mk h
  clear h
  go_enter Tryd.func37, Tryd.ntmps37
  go_wp2_with (go_at_call 45; refine H.out.mono ?_; rintro e w' ⟨rfl, hb⟩)
  go_ret2
  exact ⟨rfl, hb⟩
/-- .. over one that tells an error. -/
theorem puint_err (s : ByteArray) (base bts u c : Int) (hc : c = 1 ∨ c = 2) (hlim : s.size ≤ 281474976710656) (w : World) (hE : NumE w)
    (h : Calls Tryd.prog 45 #[.string s, .int .i64 base, .int .i64 bts] w fun e w' => e = .returned (.tuple #[.int .u64 u, .iface 83 (.int .i64 c)]) ∧ Below w.heap.size w w') :
    Calls Tryd.prog 37 #[.string s, .int .i64 base, .int .i64 bts] w (ErrOut w) := by
  have HT : ∀ w1, Below w.heap.size w w1 → Calls Tryd.prog 46 #[.string ⟨#[80, 97, 114, 115, 101, 85, 105, 110, 116]⟩, .string s, .int .i64 base, .int .i64 bts, .iface 83 (.int .i64 c)] w1 fun e w' => ∃ N, e = .returned (.iface 85 (.pointer (some ⟨N, 0, none⟩))) ∧ Below w.heap.size w w' := by
    intro w1 hb
    obtain ⟨⟨t1, p1, h1⟩, t2, p2, h2⟩ := hE.below hb
    rcases hc with rfl | rfl
    · exact (Tryd.strconv_toError_range _ s base bts _ w1 hlim h2 (.inr ⟨_, _, rfl⟩)).mono fun e w' ⟨N, he, _, _, hb2⟩ => ⟨N, he, hb.trans (hb2.mono hb.size)⟩
    · exact (Tryd.strconv_toError_syntax _ s base bts _ w1 hlim h1 (.inr ⟨_, _, rfl⟩)).mono fun e w' ⟨N, he, _, _, hb2⟩ => ⟨N, he, hb.trans (hb2.mono hb.size)⟩
  replace HT := Aside0.mk HT
  have H := Aside0.mk h
  clear h hE hc hlim
  go_enter Tryd.func37, Tryd.ntmps37
  go_wp2_with (first | (go_at_call 45; refine H.out.mono ?_; rintro e w1 ⟨rfl, hb⟩; replace hb := Aside0.mk hb) | (go_at_call 46; refine (HT.out _ hb.out).mono ?_; rintro e w' ⟨N, rfl, hb2⟩))
  go_ret2
  exact ⟨_, N, rfl, hb2⟩

theorem bytes_below {w w' : World} {t : TypeId} {s : ByteArray} (h : w' = Lib.bytesWorld w t s) : Below w.heap.size w w' := by rw [h]; exact Lib.bytesWorld_below _ _ _
theorem puint31_ok (s : ByteArray) (hne : s.size ≠ 0) (hs : s.size ≤ 281474976710656) (u : Nat) (h : Lib.parseUintM 2147483647 0 s.data.toList = .ok u) (w : World) :
    Calls Tryd.prog 37 #[.string s, .int .i64 10, .int .i64 31] w fun e w' => e = .returned (.tuple #[.int .u64 u, .nilIface]) ∧ Below w.heap.size w w' :=
  puint_ok s 10 31 u w ((uint31_calls s hne (by omega) w).mono fun e w' ⟨h1, h2⟩ => ⟨by rw [h1, h]; rfl, bytes_below h2⟩)
theorem puint31_range (s : ByteArray) (hne : s.size ≠ 0) (hs : s.size ≤ 281474976710656) (h : Lib.parseUintM 2147483647 0 s.data.toList = .range) (w : World) (hE : NumE w) :
    Calls Tryd.prog 37 #[.string s, .int .i64 10, .int .i64 31] w (ErrOut w) :=
  puint_err s 10 31 2147483647 1 (.inl rfl) hs w hE ((uint31_calls s hne (by omega) w).mono fun e w' ⟨h1, h2⟩ => ⟨by rw [h1, h]; rfl, bytes_below h2⟩)

/-- What a text tells as a number of base 16 and 16 bits. -/
def hexRead (s : ByteArray) : Option Int := if s.size = 0 then none else match parseHexM 0 s.data.toList with
  | .ok n => some n
  | _ => none
theorem puint16_ok (s : ByteArray) (hs : s.size ≤ 281474976710656) (u : Int) (h : hexRead s = some u) (w : World) :
    Calls Tryd.prog 37 #[.string s, .int .i64 16, .int .i64 16] w fun e w' => e = .returned (.tuple #[.int .u64 u, .nilIface]) ∧ Below w.heap.size w w' := by
  unfold hexRead at h
  split at h
  · cases h
  · rename_i hne
    refine puint_ok s 16 16 u w ((uint16_calls s hne (by omega) w).mono fun e w' ⟨h1, h2⟩ => ⟨?_, bytes_below h2⟩)
    rw [h1]
    rcases hp : parseHexM 0 s.data.toList with n | _ | _
    · rw [hp] at h; injection h with h; rw [h]; rfl
    · rw [hp] at h; cases h
    · rw [hp] at h; cases h
theorem puint16_err (s : ByteArray) (hs : s.size ≤ 281474976710656) (h : hexRead s = none) (w : World) (hE : NumE w) :
    Calls Tryd.prog 37 #[.string s, .int .i64 16, .int .i64 16] w (ErrOut w) := by
  unfold hexRead at h
  by_cases hne : s.size = 0
  · have : s = ⟨#[]⟩ := by
      apply ByteArray.ext
      exact Array.eq_empty_of_size_eq_zero hne
    subst this
    exact puint_err _ 16 16 0 2 (.inr rfl) hs w hE ((uint16_empty w).mono fun e w' ⟨h1, h2⟩ => ⟨h1, by rw [h2]; exact Below.refl _ _⟩)
  · rw [if_neg hne] at h
    have HU := uint16_calls s hne (by omega) w
    rcases hp : parseHexM 0 s.data.toList with n | _ | _
    · rw [hp] at h; cases h
    · rw [hp] at HU
      exact puint_err s 16 16 0 2 (.inr rfl) hs w hE (HU.mono fun e w' ⟨h1, h2⟩ => ⟨h1, bytes_below h2⟩)
    · rw [hp] at HU
      exact puint_err s 16 16 65535 1 (.inl rfl) hs w hE (HU.mono fun e w' ⟨h1, h2⟩ => ⟨h1, bytes_below h2⟩)
end Go.Proofs.YtlnipkhdaikdkaaDoor
