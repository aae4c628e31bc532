/-
  FrameNil: a nil decoder is over.
-/
import Derived.Test.YtmcjfnebkpifnaaDoorFrAwake
import Derived.Test.YtmcjfnebkpifnaaDoorLaid
namespace Go.Proofs.YtmcjfnebkpifnaaDoor
open Go.RowKit Go.Proofs.YtmcjfnebkpifnaaDoorW.PrintWords Go.Proofs.YtmcjfnebkpifnaaDoorW.PrintLast Go.Proofs.YtmcjfnebkpifnaaDoorW.PrintMore Go.Proofs.YtmcjfnebkpifnaaDoor.PFrameFeeds
set_option linter.unusedVariables false
set_option linter.unusedSimpArgs false
set_option maxRecDepth 100000

/-- What a decoder's error is for errors.As. -/
theorem FrErr.ev {w : World} {base : Nat} {v : Value} {e a : Int} (h : FrErr w base v e a) : ∃ xs, As.EV w v xs (.fault e a) := by
  obtain ⟨g, f, rfl, ⟨h2, v', h3, h4⟩, h5, h6⟩ := h
  exact ⟨[_], g, v', _, rfl, h3, Kd.R_lower h4 (Nat.zero_le _), f, rfl, h6⟩

theorem overN_calls (w : World) : Calls Tryd.prog 17 #[.pointer none] w fun e w' => e = .returned (.bool true) ∧ w' = w := by
  go_enter Tryd.func17, Tryd.ntmps17
  go_wp2
  go_ret
  exact ⟨rfl, rfl⟩
theorem waitsN_calls (w : World) : Calls Tryd.prog 18 #[.pointer none] w fun e w' => e = .returned (.int .i64 0) ∧ w' = w := by
  go_enter Tryd.func18, Tryd.ntmps18
  go_wp2_with (go_at_call 17; refine (overN_calls _).mono ?_; rintro e w' ⟨rfl, rfl⟩)
  go_ret
  exact ⟨rfl, rfl⟩
set_option maxHeartbeats 4000000 in
theorem feedN_calls (w : World) (v : Value) : Calls Tryd.prog 12 #[.pointer none, v] w fun e w' => ∃ ev, e = .returned (.tuple #[.slice none 0 0, ev]) ∧ FrErr w' w.heap.size ev 10 0 ∧ Below w.heap.size w w' := by
  obtain ⟨W1, hW1⟩ : ∃ W1, W1 = w.alloc (.cells #[.int .i64 10, .int .i64 0] 76) := ⟨_, rfl⟩
  obtain ⟨W2, hW2⟩ : ∃ W2, W2 = W1.alloc (.cells #[.string ⟨#[102, 114, 97, 109, 101]⟩] 9) := ⟨_, rfl⟩
  have hC : Kd.string.C W2 (some ⟨W1.heap.size, 0, none⟩) 1 [(⟨#[102, 114, 97, 109, 101]⟩ : ByteArray)] := by rw [hW2]; exact litC W1 9 [(⟨#[102, 114, 97, 109, 101]⟩ : ByteArray)] (by decide)
  have e1 : W1.heap.size = w.heap.size + 1 := by rw [hW1]; simp
  rw [e1] at hC
  have hI := in_calls 72 (.pointer (some ⟨w.heap.size, 0, none⟩)) ⟨w.heap.size + 1, 0, none⟩ 1 1 [(⟨#[102, 114, 97, 109, 101]⟩ : ByteArray)] W2 rfl (by decide) (Nat.le_refl _) (by decide) hC
  have B1 : Below w.heap.size w W1 := by rw [hW1]; exact below_alloc (Below.refl _ _) _
  have B2 : Below w.heap.size w W2 := by rw [hW2]; exact below_alloc B1 _
  have hf1 : W1.heap[w.heap.size]? = some (.cells #[.int .i64 10, .int .i64 0] 76 (0, 0)) := by rw [hW1]; exact heap_alloc_new w _
  have hf2 : W2.heap[w.heap.size]? = some (.cells #[.int .i64 10, .int .i64 0] 76 (0, 0)) := by rw [hW2]; exact blk_alloc hf1 _
  have HI : Aside0 (Calls Tryd.prog 30 #[.iface 72 (.pointer (some ⟨w.heap.size, 0, none⟩)), .slice (some ⟨w.heap.size + 1, 0, none⟩) 1 1] W2 fun e w' => ∃ g, e = .returned (.iface 93 (.pointer (some ⟨g, 0, none⟩))) ∧ FrErr w' w.heap.size (.iface 93 (.pointer (some ⟨g, 0, none⟩))) 10 0 ∧ Below w.heap.size w w') :=
    ⟨hI.mono fun e w' ⟨g, he, hin, hb⟩ => ⟨g, he, ⟨g, w.heap.size, rfl, ⟨Nat.le_trans B2.size hin.1, by obtain ⟨_, v', h3, h4⟩ := hin; exact ⟨v', h3, Kd.R_lower h4 B2.size⟩⟩, Nat.le_refl _, (hb.block _ (blk_lt hf2)).trans hf2⟩, B2.trans (hb.mono B2.size)⟩⟩
  clear hC hI B1 B2 hf1 hf2 e1
  subst hW2
  subst hW1
  go_enter Tryd.func12, Tryd.ntmps12
  go_wp2_with (go_at_call 17; refine (overN_calls _).mono ?_; rintro e w' ⟨rfl, rfl⟩)
  refine (new_calls 10 0 _ rfl).mono ?_
  rintro e w' ⟨rfl, rfl⟩
  go_wp2_with fail
  with_reducible refine HI.out.mono ?_
  rintro e w' ⟨g, rfl, hE⟩
  replace hE := Aside0.mk hE
  go_wp2
  go_ret2
  exact ⟨_, rfl, hE.out.1, hE.out.2⟩

theorem FrErr.below0 {w w' : World} {base : Nat} {v : Value} {e a : Int} (h : FrErr w base v e a) (hb : Below w.heap.size w w') : FrErr w' base v e a := h.below hb

set_option maxHeartbeats 4000000 in
theorem nil_few (w : World) (A : Option Addr) (n c : Nat) (hn : n ≤ 500) (hg : As.ErrT w) :
    Calls Tryd.prog 6 #[.slice A n c] w fun e w' => e = .returned (.bool true) ∧ Below w.heap.size w w' := by
  have h500 : decide ((n : Int) > 500) = false := by simp; omega
  obtain ⟨W1, hW1⟩ : ∃ W1, W1 = w.alloc (.cells #[.slice A n c] 27) := ⟨_, rfl⟩
  have B1 : Below w.heap.size w W1 := by rw [hW1]; exact below_alloc (Below.refl _ _) _
  have HF : Aside0 (Calls Tryd.prog 12 #[.pointer none, .slice (some ⟨w.heap.size, 0, none⟩) 1 1] W1 fun e w' => ∃ ev, e = .returned (.tuple #[.slice none 0 0, ev]) ∧ Aside0 (FrErr w' W1.heap.size ev 10 0 ∧ As.ErrT w' ∧ Below w.heap.size w w')) :=
    ⟨(feedN_calls W1 _).mono fun e w' ⟨ev, h1, h2, h3⟩ => ⟨ev, h1, ⟨h2, hg.below (B1.trans (h3.mono B1.size)), B1.trans (h3.mono B1.size)⟩⟩⟩
  clear hg B1
  subst hW1
  clear hn
  go_enter Tryd.func6, Tryd.ntmps6
  go_wp2_with fail
  with_reducible refine HF.out.mono ?_
  rintro e w1 ⟨ev, rfl, hE⟩
  clear HF
  obtain ⟨xs, hev⟩ := hE.out.1.ev
  obtain ⟨ut, ux, rfl⟩ := As.EV_iface hev
  have HA := Aside0.mk (As.at_calls _ xs _ w1 hev hE.out.2.1)
  have HV := Aside0.mk hev
  clear hev
  go_wp2_with fail
  with_reducible refine HA.out.mono ?_
  rintro e w2 ⟨rfl, hb⟩
  have HC := Aside0.mk (As.code_calls _ xs _ w2 (As.EV_keep hb HV.out) (hE.out.2.1.below hb))
  have HB := Aside0.mk (hE.out.2.2.trans (hb.mono hE.out.2.2.size))
  clear hb HA HV hE
  go_wp2_with fail
  with_reducible refine HC.out.mono ?_
  rintro e w3 ⟨rfl, hb⟩
  replace HB := Aside0.mk (HB.out.trans (hb.mono HB.out.size))
  clear hb HC
  go_wp2_with fail
  refine (waitsN_calls _).mono ?_
  rintro e w' ⟨rfl, rfl⟩
  go_wp2_with fail
  refine (overN_calls _).mono ?_
  rintro e w' ⟨rfl, rfl⟩
  go_wp2_with fail
  refine (awake_calls _).mono ?_
  rintro e w4 ⟨rfl, hb⟩
  replace HB := Aside0.mk (HB.out.trans (hb.mono HB.out.size))
  clear hb
  go_wp2
  go_ret
  exact ⟨rfl, HB.out⟩
theorem nil_many (w : World) (A : Option Addr) (n c : Nat) (hn : 500 < n) :
    Calls Tryd.prog 6 #[.slice A n c] w fun e w' => e = .returned (.bool true) ∧ Below w.heap.size w w' := by
  have h500 : decide ((n : Int) > 500) = true := by simp; omega
  clear hn
  go_enter Tryd.func6, Tryd.ntmps6
  go_wp2_with (go_at_call 10; refine (awake_calls _).mono ?_; rintro e w' ⟨rfl, hb⟩)
  go_ret
  exact ⟨rfl, hb⟩
theorem nil_calls (w : World) (A : Option Addr) (n c : Nat) (hg : As.ErrT w) :
    Calls Tryd.prog 6 #[.slice A n c] w fun e w' => e = .returned (.bool true) ∧ Below w.heap.size w w' := by
  by_cases h : n ≤ 500
  · exact nil_few w A n c h hg
  · exact nil_many w A n c (by omega)
end Go.Proofs.YtmcjfnebkpifnaaDoor
