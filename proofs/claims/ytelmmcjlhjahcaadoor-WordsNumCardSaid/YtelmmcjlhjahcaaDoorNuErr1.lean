/-
  strconv.ParseUint at base 10 and 31 bits.
-/
import Derived.Test.YtelmmcjlhjahcaaDoorNuUint
import Derived.Test.YtelmmcjlhjahcaaDoorShelf
import Derived.Lib.SmallJoins
namespace Go.Proofs.YtelmmcjlhjahcaaDoor
open Go.RowKit Go.Proofs.YtelmmcjlhjahcaaDoorW.PrintWords Go.Proofs.YtelmmcjlhjahcaaDoorW.PrintLast Go.Proofs.YtelmmcjlhjahcaaDoorW.PrintMore
set_option linter.unusedVariables false

/-- The errors' variables hold interface values. -/
structure NumE (w : World) : Prop where
  sy : ∃ tp p, w.cell? ⟨2, 0, none⟩ = some (.iface tp p)
  ra : ∃ tp p, w.cell? ⟨3, 0, none⟩ = some (.iface tp p)
theorem cell_below {w w' : World} {b o : Nat} {v : Value} (h : w.cell? ⟨b, o, none⟩ = some v) (hb : Below w.heap.size w w') : w'.cell? ⟨b, o, none⟩ = some v :=
  (hb.cell (p := ⟨b, o, none⟩) (Lib.lt_of_cell h)).trans h
theorem NumE.below {w w' : World} (h : NumE w) (hb : Below w.heap.size w w') : NumE w' := by
  obtain ⟨⟨t, p, h1⟩, u, q, h2⟩ := h
  exact ⟨⟨t, p, cell_below h1 hb⟩, u, q, cell_below h2 hb⟩

/-- An error that isn't nil, in a world that has grown. -/
def ErrOut (w : World) (e : Ending) (w' : World) : Prop := ∃ (n : Int) (N : Nat), e = .returned (.tuple #[.int .u64 n, .iface 173 (.pointer (some ⟨N, 0, none⟩))]) ∧ Below w.heap.size w w'

/-- The public one, over an inner one that tells a number. -/
theorem puint_ok (s : ByteArray) (base bts u : Int) (w : World)
    (h : Calls Tryd.prog 93 #[.string s, .int .i64 base, .int .i64 bts] w fun e w' => e = .returned (.tuple #[.int .u64 u, .nilIface]) ∧ Below w.heap.size w w') :
    Calls Tryd.prog 83 #[.string s, .int .i64 base, .int .i64 bts] w fun e w' => e = .returned (.tuple #[.int .u64 u, .nilIface]) ∧ Below w.heap.size w w' := by
  have H := Aside0.mk h
  clear h
  go_enter Tryd.func83, Tryd.ntmps83
  go_wp2_with (go_at_call 93; refine H.out.mono ?_; rintro e w' ⟨rfl, hb⟩)
  go_ret2
  exact ⟨rfl, hb⟩
/-- .. over one that tells an error. -/
theorem puint_err (s : ByteArray) (base bts u c : Int) (hc : c = 1 ∨ c = 2) (hlim : s.size ≤ 281474976710656) (w : World) (hE : NumE w)
    (h : Calls Tryd.prog 93 #[.string s, .int .i64 base, .int .i64 bts] w fun e w' => e = .returned (.tuple #[.int .u64 u, .iface 170 (.int .i64 c)]) ∧ Below w.heap.size w w') :
    Calls Tryd.prog 83 #[.string s, .int .i64 base, .int .i64 bts] w (ErrOut w) := by
  have HT : ∀ w1, Below w.heap.size w w1 → Calls Tryd.prog 94 #[.string ⟨#[80, 97, 114, 115, 101, 85, 105, 110, 116]⟩, .string s, .int .i64 base, .int .i64 bts, .iface 170 (.int .i64 c)] w1 fun e w' => ∃ N, e = .returned (.iface 173 (.pointer (some ⟨N, 0, none⟩))) ∧ Below w.heap.size w w' := by
    intro w1 hb
    obtain ⟨⟨t1, p1, h1⟩, t2, p2, h2⟩ := hE.below hb
    rcases hc with rfl | rfl
    · exact (Tryd.strconv_toError_range _ s base bts _ w1 hlim h2 (.inr ⟨_, _, rfl⟩)).mono fun e w' ⟨N, he, _, _, hb2⟩ => ⟨N, he, hb.trans (hb2.mono hb.size)⟩
    · exact (Tryd.strconv_toError_syntax _ s base bts _ w1 hlim h1 (.inr ⟨_, _, rfl⟩)).mono fun e w' ⟨N, he, _, _, hb2⟩ => ⟨N, he, hb.trans (hb2.mono hb.size)⟩
  replace HT := Aside0.mk HT
  have H := Aside0.mk h
  clear h hE hc hlim
  go_enter Tryd.func83, Tryd.ntmps83
  go_wp2_with (first | (go_at_call 93; refine H.out.mono ?_; rintro e w1 ⟨rfl, hb⟩; replace hb := Aside0.mk hb) | (go_at_call 94; refine (HT.out _ hb.out).mono ?_; rintro e w' ⟨N, rfl, hb2⟩))
  go_ret2
  exact ⟨_, N, rfl, hb2⟩

theorem bytes_below {w w' : World} {t : TypeId} {s : ByteArray} (h : w' = Lib.bytesWorld w t s) : Below w.heap.size w w' := by rw [h]; exact Lib.bytesWorld_below _ _ _
theorem puint31_ok (s : ByteArray) (hne : s.size ≠ 0) (hs : s.size ≤ 281474976710656) (u : Nat) (h : Lib.parseUintM 2147483647 0 s.data.toList = .ok u) (w : World) :
    Calls Tryd.prog 83 #[.string s, .int .i64 10, .int .i64 31] w fun e w' => e = .returned (.tuple #[.int .u64 u, .nilIface]) ∧ Below w.heap.size w w' :=
  puint_ok s 10 31 u w ((uint31_calls s hne (by omega) w).mono fun e w' ⟨h1, h2⟩ => ⟨by rw [h1, h]; rfl, bytes_below h2⟩)
theorem puint31_range (s : ByteArray) (hne : s.size ≠ 0) (hs : s.size ≤ 281474976710656) (h : Lib.parseUintM 2147483647 0 s.data.toList = .range) (w : World) (hE : NumE w) :
    Calls Tryd.prog 83 #[.string s, .int .i64 10, .int .i64 31] w (ErrOut w) :=
  puint_err s 10 31 2147483647 1 (.inl rfl) hs w hE ((uint31_calls s hne (by omega) w).mono fun e w' ⟨h1, h2⟩ => ⟨by rw [h1, h]; rfl, bytes_below h2⟩)

end Go.Proofs.YtelmmcjlhjahcaaDoor
