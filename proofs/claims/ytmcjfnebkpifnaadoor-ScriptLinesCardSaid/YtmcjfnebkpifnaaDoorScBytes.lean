/-
  What a client sends: script.Bytes, and the document's.
-/
import Derived.Test.YtmcjfnebkpifnaaDoorScFrame
namespace Go.Proofs.YtmcjfnebkpifnaaDoor
open Go.RowKit Go.Proofs.YtmcjfnebkpifnaaDoorW.PrintWords Go.Proofs.YtmcjfnebkpifnaaDoorW.PrintLast Go.Proofs.YtmcjfnebkpifnaaDoorW.PrintMore Go.Proofs.YtmcjfnebkpifnaaDoor.PScriptLines
set_option linter.unusedVariables false
set_option linter.unusedSimpArgs false
set_option maxRecDepth 100000

def BytesRes (w : World) (L : List Int) (b : Bool) (e : Ending) (w' : World) : Prop := ∃ A c, e = .returned (.tuple #[.slice A L.length c, .bool b]) ∧ (Kd.int .u8).C w' A L.length L ∧ Below w.heap.size w w'
def bytesP (h : SH) : List Int × Bool := if mayB h = true then (if h.f0 = 3 then (bytesOf h.f2, true) else if h.f0 = 4 ∨ h.f0 = 5 then (frameL (h.f0 - 3) h.f2, true) else ([], false)) else ([], false)
theorem bytes_nil (w : World) (A : Option Addr) : (Kd.int .u8).C w A ([] : List Int).length [] := ⟨rfl, by simp, fun h => absurd h (by simp)⟩
theorem bytes_conv (W : World) (s : ByteArray) : (convert 9 27 (.string s)).run Tryd.prog W = .ok (.slice (some ⟨W.heap.size, 0, none⟩) s.size (grownCap W s.size 0 5)) (Lib.bytesWorld W 5 s) :=
  Lib.run_convert_string_bytes (P := Tryd.prog) W 9 27 5 s (u := .string) Tryd.underlying9 Tryd.underlying27 Tryd.underlying5

set_option maxHeartbeats 4000000 in
theorem sbno (w : World) (k n : Int) (s : ByteArray) (hs : s.size ≤ 500) (hm : mayB ⟨k, n, s⟩ = false) :
    Calls Tryd.prog 24 #[.agg #[.int .u8 k, .int .i64 n, .string s]] w fun e w' => BytesRes w [] false e w' := by
  have HM : Aside0 (∀ W : World, Calls Tryd.prog 39 #[.agg #[.int .u8 k, .int .i64 n, .string s]] W fun e w' => e = .returned (.bool false) ∧ Below W.heap.size W w') := ⟨fun W => by
    have h := script_may.calls k n s _ W (may_f ⟨k, n, s⟩)
    rwa [hm] at h⟩
  obtain ⟨w1, hw1⟩ : ∃ w1, w1 = w.alloc (.cells #[.int .u8 k, .int .i64 n, .string s] 56) := ⟨_, rfl⟩
  have HB := Aside0.mk (show Below w.heap.size w w1 by rw [hw1]; exact below_alloc (Below.refl _ _) _)
  have HX := Aside0.mk (show BoxH w1 w.heap.size ⟨k, n, s⟩ by rw [hw1]; exact BoxH.new w ⟨k, n, s⟩)
  have HW := Aside0.mk hw1
  obtain ⟨a0, a1, a2⟩ := HX.out.cells
  have HS := Aside0.mk hs
  clear hw1 hm
  go_enter Tryd.func24, Tryd.ntmps24
  go_upto_region 1 with fail
  rw [← HW.out]
  go_wp2_with fail
  with_reducible refine (HM.out _).mono ?_
  rintro e w2 ⟨rfl, hb⟩
  have HB2 := Aside0.mk (HB.out.trans (hb.mono HB.out.size))
  obtain ⟨b0, b1, b2⟩ := (HX.out.below hb).cells
  clear hb a0 a1 a2
  go_wp2
  go_ret2
  exact ⟨_, _, rfl, bytes_nil _ _, by first | exact HB2.out | exact below_alloc HB2.out _⟩
set_option maxHeartbeats 4000000 in
theorem sb1 (w : World) (n : Int) (s : ByteArray) (hs : s.size ≤ 500) (hm : mayB ⟨1, n, s⟩ = true) :
    Calls Tryd.prog 24 #[.agg #[.int .u8 1, .int .i64 n, .string s]] w fun e w' => BytesRes w [] false e w' := by
  have HM : Aside0 (∀ W : World, Calls Tryd.prog 39 #[.agg #[.int .u8 1, .int .i64 n, .string s]] W fun e w' => e = .returned (.bool true) ∧ Below W.heap.size W w') := ⟨fun W => by
    have h := script_may.calls 1 n s _ W (may_f ⟨1, n, s⟩)
    rwa [hm] at h⟩
  obtain ⟨w1, hw1⟩ : ∃ w1, w1 = w.alloc (.cells #[.int .u8 1, .int .i64 n, .string s] 56) := ⟨_, rfl⟩
  have HB := Aside0.mk (show Below w.heap.size w w1 by rw [hw1]; exact below_alloc (Below.refl _ _) _)
  have HX := Aside0.mk (show BoxH w1 w.heap.size ⟨1, n, s⟩ by rw [hw1]; exact BoxH.new w ⟨1, n, s⟩)
  have HW := Aside0.mk hw1
  obtain ⟨a0, a1, a2⟩ := HX.out.cells
  have HS := Aside0.mk hs
  clear hw1 hm
  go_enter Tryd.func24, Tryd.ntmps24
  go_upto_region 1 with fail
  rw [← HW.out]
  go_wp2_with fail
  with_reducible refine (HM.out _).mono ?_
  rintro e w2 ⟨rfl, hb⟩
  have HB2 := Aside0.mk (HB.out.trans (hb.mono HB.out.size))
  obtain ⟨b0, b1, b2⟩ := (HX.out.below hb).cells
  clear hb a0 a1 a2
  go_wp2
  go_ret2
  exact ⟨_, _, rfl, bytes_nil _ _, by first | exact HB2.out | exact below_alloc HB2.out _⟩
set_option maxHeartbeats 4000000 in
theorem sb2 (w : World) (n : Int) (s : ByteArray) (hs : s.size ≤ 500) (hm : mayB ⟨2, n, s⟩ = true) :
    Calls Tryd.prog 24 #[.agg #[.int .u8 2, .int .i64 n, .string s]] w fun e w' => BytesRes w [] false e w' := by
  have HM : Aside0 (∀ W : World, Calls Tryd.prog 39 #[.agg #[.int .u8 2, .int .i64 n, .string s]] W fun e w' => e = .returned (.bool true) ∧ Below W.heap.size W w') := ⟨fun W => by
    have h := script_may.calls 2 n s _ W (may_f ⟨2, n, s⟩)
    rwa [hm] at h⟩
  obtain ⟨w1, hw1⟩ : ∃ w1, w1 = w.alloc (.cells #[.int .u8 2, .int .i64 n, .string s] 56) := ⟨_, rfl⟩
  have HB := Aside0.mk (show Below w.heap.size w w1 by rw [hw1]; exact below_alloc (Below.refl _ _) _)
  have HX := Aside0.mk (show BoxH w1 w.heap.size ⟨2, n, s⟩ by rw [hw1]; exact BoxH.new w ⟨2, n, s⟩)
  have HW := Aside0.mk hw1
  obtain ⟨a0, a1, a2⟩ := HX.out.cells
  have HS := Aside0.mk hs
  clear hw1 hm
  go_enter Tryd.func24, Tryd.ntmps24
  go_upto_region 1 with fail
  rw [← HW.out]
  go_wp2_with fail
  with_reducible refine (HM.out _).mono ?_
  rintro e w2 ⟨rfl, hb⟩
  have HB2 := Aside0.mk (HB.out.trans (hb.mono HB.out.size))
  obtain ⟨b0, b1, b2⟩ := (HX.out.below hb).cells
  clear hb a0 a1 a2
  go_wp2
  go_ret2
  exact ⟨_, _, rfl, bytes_nil _ _, by first | exact HB2.out | exact below_alloc HB2.out _⟩
set_option maxHeartbeats 4000000 in
theorem sb3 (w : World) (n : Int) (s : ByteArray) (hs : s.size ≤ 500) (hm : mayB ⟨3, n, s⟩ = true) :
    Calls Tryd.prog 24 #[.agg #[.int .u8 3, .int .i64 n, .string s]] w fun e w' => BytesRes w (bytesOf s) true e w' := by
  have HM : Aside0 (∀ W : World, Calls Tryd.prog 39 #[.agg #[.int .u8 3, .int .i64 n, .string s]] W fun e w' => e = .returned (.bool true) ∧ Below W.heap.size W w') := ⟨fun W => by
    have h := script_may.calls 3 n s _ W (may_f ⟨3, n, s⟩)
    rwa [hm] at h⟩
  obtain ⟨w1, hw1⟩ : ∃ w1, w1 = w.alloc (.cells #[.int .u8 3, .int .i64 n, .string s] 56) := ⟨_, rfl⟩
  have HB := Aside0.mk (show Below w.heap.size w w1 by rw [hw1]; exact below_alloc (Below.refl _ _) _)
  have HX := Aside0.mk (show BoxH w1 w.heap.size ⟨3, n, s⟩ by rw [hw1]; exact BoxH.new w ⟨3, n, s⟩)
  have HW := Aside0.mk hw1
  obtain ⟨a0, a1, a2⟩ := HX.out.cells
  have HS := Aside0.mk hs
  clear hw1 hm
  go_enter Tryd.func24, Tryd.ntmps24
  go_upto_region 1 with fail
  rw [← HW.out]
  go_wp2_with fail
  with_reducible refine (HM.out _).mono ?_
  rintro e w2 ⟨rfl, hb⟩
  have HB2 := Aside0.mk (HB.out.trans (hb.mono HB.out.size))
  obtain ⟨b0, b1, b2⟩ := (HX.out.below hb).cells
  clear hb a0 a1 a2
  have hcv := bytes_conv w2 s
  have HC : Aside0 ((Kd.int .u8).C (Lib.bytesWorld w2 5 s) (some ⟨w2.heap.size, 0, none⟩) (bytesOf s).length (bytesOf s)) := ⟨bytes_C w2 s HS.out⟩
  have HB3 : Aside0 (Below w.heap.size w (Lib.bytesWorld w2 5 s)) := ⟨bytes_below HB2.out HB2.out.size _ _⟩
  have HLN := Aside0.mk (bytesOf_length s)
  generalize Lib.bytesWorld w2 5 s = w3 at *
  generalize grownCap w2 s.size 0 5 = cp at *
  go_wp2
  go_ret2
  exact ⟨_, _, by rw [HLN.out]; rfl, HC.out, HB3.out⟩
set_option maxHeartbeats 4000000 in
theorem sb4 (w : World) (n : Int) (s : ByteArray) (hs : s.size ≤ 500) (hm : mayB ⟨4, n, s⟩ = true) :
    Calls Tryd.prog 24 #[.agg #[.int .u8 4, .int .i64 n, .string s]] w fun e w' => BytesRes w (frameL 1 s) true e w' := by
  have HM : Aside0 (∀ W : World, Calls Tryd.prog 39 #[.agg #[.int .u8 4, .int .i64 n, .string s]] W fun e w' => e = .returned (.bool true) ∧ Below W.heap.size W w') := ⟨fun W => by
    have h := script_may.calls 4 n s _ W (may_f ⟨4, n, s⟩)
    rwa [hm] at h⟩
  obtain ⟨w1, hw1⟩ : ∃ w1, w1 = w.alloc (.cells #[.int .u8 4, .int .i64 n, .string s] 56) := ⟨_, rfl⟩
  have HB := Aside0.mk (show Below w.heap.size w w1 by rw [hw1]; exact below_alloc (Below.refl _ _) _)
  have HX := Aside0.mk (show BoxH w1 w.heap.size ⟨4, n, s⟩ by rw [hw1]; exact BoxH.new w ⟨4, n, s⟩)
  have HW := Aside0.mk hw1
  obtain ⟨a0, a1, a2⟩ := HX.out.cells
  have HS := Aside0.mk hs
  clear hw1 hm
  have HP : Aside0 (∀ W : World, Calls Tryd.prog 40 #[.slice (some ⟨W.heap.size, 0, none⟩) 1 1] (W.alloc (.cells #[.int .u8 1, .string s] 63)) fun e w' => ∃ A c, e = .returned (.tuple #[.slice A (frameL 1 s).length c, .int .i64 0]) ∧ (Kd.int .u8).C w' A (frameL 1 s).length (frameL 1 s) ∧ Below W.heap.size W w') := ⟨fun W => put1_calls W 1 s (by decide) HS.out⟩
  generalize frameL 1 s = L at *
  go_enter Tryd.func24, Tryd.ntmps24
  go_upto_region 1 with fail
  rw [← HW.out]
  go_wp2_with fail
  with_reducible refine (HM.out _).mono ?_
  rintro e w2 ⟨rfl, hb⟩
  have HB2 := Aside0.mk (HB.out.trans (hb.mono HB.out.size))
  obtain ⟨b0, b1, b2⟩ := (HX.out.below hb).cells
  clear hb a0 a1 a2
  have y1 : IntKind.u8.wrap 1 = 1 := by decide
  have y2 : IntKind.u8.wrap 2 = 2 := by decide
  have y0 : IntKind.u8.wrap 0 = 0 := by decide
  go_wp2_with fail
  with_reducible refine (HP.out w2).mono ?_
  rintro e w3 ⟨A3, c3, rfl, hC, hb⟩
  have HC := Aside0.mk hC
  have HB3 := Aside0.mk (HB2.out.trans (hb.mono HB2.out.size))
  clear hC hb HP b0 b1 b2
  go_wp2
  go_ret2
  exact ⟨_, _, rfl, HC.out, HB3.out⟩
set_option maxHeartbeats 4000000 in
theorem sb5 (w : World) (n : Int) (s : ByteArray) (hs : s.size ≤ 500) (hm : mayB ⟨5, n, s⟩ = true) :
    Calls Tryd.prog 24 #[.agg #[.int .u8 5, .int .i64 n, .string s]] w fun e w' => BytesRes w (frameL 2 s) true e w' := by
  have HM : Aside0 (∀ W : World, Calls Tryd.prog 39 #[.agg #[.int .u8 5, .int .i64 n, .string s]] W fun e w' => e = .returned (.bool true) ∧ Below W.heap.size W w') := ⟨fun W => by
    have h := script_may.calls 5 n s _ W (may_f ⟨5, n, s⟩)
    rwa [hm] at h⟩
  obtain ⟨w1, hw1⟩ : ∃ w1, w1 = w.alloc (.cells #[.int .u8 5, .int .i64 n, .string s] 56) := ⟨_, rfl⟩
  have HB := Aside0.mk (show Below w.heap.size w w1 by rw [hw1]; exact below_alloc (Below.refl _ _) _)
  have HX := Aside0.mk (show BoxH w1 w.heap.size ⟨5, n, s⟩ by rw [hw1]; exact BoxH.new w ⟨5, n, s⟩)
  have HW := Aside0.mk hw1
  obtain ⟨a0, a1, a2⟩ := HX.out.cells
  have HS := Aside0.mk hs
  clear hw1 hm
  have HP : Aside0 (∀ W : World, Calls Tryd.prog 40 #[.slice (some ⟨W.heap.size, 0, none⟩) 1 1] (W.alloc (.cells #[.int .u8 2, .string s] 63)) fun e w' => ∃ A c, e = .returned (.tuple #[.slice A (frameL 2 s).length c, .int .i64 0]) ∧ (Kd.int .u8).C w' A (frameL 2 s).length (frameL 2 s) ∧ Below W.heap.size W w') := ⟨fun W => put1_calls W 2 s (by decide) HS.out⟩
  generalize frameL 2 s = L at *
  go_enter Tryd.func24, Tryd.ntmps24
  go_upto_region 1 with fail
  rw [← HW.out]
  go_wp2_with fail
  with_reducible refine (HM.out _).mono ?_
  rintro e w2 ⟨rfl, hb⟩
  have HB2 := Aside0.mk (HB.out.trans (hb.mono HB.out.size))
  obtain ⟨b0, b1, b2⟩ := (HX.out.below hb).cells
  clear hb a0 a1 a2
  have y1 : IntKind.u8.wrap 1 = 1 := by decide
  have y2 : IntKind.u8.wrap 2 = 2 := by decide
  have y0 : IntKind.u8.wrap 0 = 0 := by decide
  go_wp2_with fail
  with_reducible refine (HP.out w2).mono ?_
  rintro e w3 ⟨A3, c3, rfl, hC, hb⟩
  have HC := Aside0.mk hC
  have HB3 := Aside0.mk (HB2.out.trans (hb.mono HB2.out.size))
  clear hC hb HP b0 b1 b2
  go_wp2
  go_ret2
  exact ⟨_, _, rfl, HC.out, HB3.out⟩
set_option maxHeartbeats 4000000 in
theorem sb6 (w : World) (n : Int) (s : ByteArray) (hs : s.size ≤ 500) (hm : mayB ⟨6, n, s⟩ = true) :
    Calls Tryd.prog 24 #[.agg #[.int .u8 6, .int .i64 n, .string s]] w fun e w' => BytesRes w [] false e w' := by
  have HM : Aside0 (∀ W : World, Calls Tryd.prog 39 #[.agg #[.int .u8 6, .int .i64 n, .string s]] W fun e w' => e = .returned (.bool true) ∧ Below W.heap.size W w') := ⟨fun W => by
    have h := script_may.calls 6 n s _ W (may_f ⟨6, n, s⟩)
    rwa [hm] at h⟩
  obtain ⟨w1, hw1⟩ : ∃ w1, w1 = w.alloc (.cells #[.int .u8 6, .int .i64 n, .string s] 56) := ⟨_, rfl⟩
  have HB := Aside0.mk (show Below w.heap.size w w1 by rw [hw1]; exact below_alloc (Below.refl _ _) _)
  have HX := Aside0.mk (show BoxH w1 w.heap.size ⟨6, n, s⟩ by rw [hw1]; exact BoxH.new w ⟨6, n, s⟩)
  have HW := Aside0.mk hw1
  obtain ⟨a0, a1, a2⟩ := HX.out.cells
  have HS := Aside0.mk hs
  clear hw1 hm
  go_enter Tryd.func24, Tryd.ntmps24
  go_upto_region 1 with fail
  rw [← HW.out]
  go_wp2_with fail
  with_reducible refine (HM.out _).mono ?_
  rintro e w2 ⟨rfl, hb⟩
  have HB2 := Aside0.mk (HB.out.trans (hb.mono HB.out.size))
  obtain ⟨b0, b1, b2⟩ := (HX.out.below hb).cells
  clear hb a0 a1 a2
  go_wp2
  go_ret2
  exact ⟨_, _, rfl, bytes_nil _ _, by first | exact HB2.out | exact below_alloc HB2.out _⟩
theorem sbytes_calls (w : World) (h : SH) (hs : h.f2.size ≤ 500) :
    Calls Tryd.prog 24 #[.agg #[.int .u8 h.f0, .int .i64 h.f1, .string h.f2]] w fun e w' => BytesRes w (bytesP h).1 (bytesP h).2 e w' := by
  cases hm : mayB h with
  | false =>
    have e : bytesP h = ([], false) := by unfold bytesP; rw [hm]; rfl
    rw [e]
    exact sbno w _ _ _ hs hm
  | true =>
    have hk := may_kind hm
    obtain ⟨k, n, s⟩ := h
    have e : bytesP ⟨k, n, s⟩ = (if k = 3 then (bytesOf s, true) else if k = 4 ∨ k = 5 then (frameL (k - 3) s, true) else ([], false)) := by unfold bytesP; rw [hm]; rfl
    rw [e]
    rcases hk with h | h | h | h | h | h
    · cases h; exact sb1 w n s hs hm
    · cases h; exact sb2 w n s hs hm
    · cases h; exact sb3 w n s hs hm
    · cases h; exact sb4 w n s hs hm
    · cases h; exact sb5 w n s hs hm
    · cases h; exact sb6 w n s hs hm
set_option maxHeartbeats 4000000 in
theorem rbno (w : World) (k n : Int) (s : ByteArray) (hs : s.size ≤ 500) (hm : mayB ⟨k, n, s⟩ = false) :
    Calls Tryd.prog 25 #[.agg #[.int .u8 k, .int .i64 n, .string s]] w fun e w' => BytesRes w [] false e w' := by
  have HM : Aside0 (∀ W : World, Calls Tryd.prog 26 #[.agg #[.int .u8 k, .int .i64 n, .string s]] W fun e w' => e = .returned (.bool false) ∧ Below W.heap.size W w') := ⟨fun W => by
    have h := May_ref ⟨k, n, s⟩ W
    rwa [hm] at h⟩
  obtain ⟨w1, hw1⟩ : ∃ w1, w1 = w.alloc (.cells #[.int .u8 k, .int .i64 n, .string s] 56) := ⟨_, rfl⟩
  have HB := Aside0.mk (show Below w.heap.size w w1 by rw [hw1]; exact below_alloc (Below.refl _ _) _)
  have HX := Aside0.mk (show BoxH w1 w.heap.size ⟨k, n, s⟩ by rw [hw1]; exact BoxH.new w ⟨k, n, s⟩)
  have HW := Aside0.mk hw1
  obtain ⟨a0, a1, a2⟩ := HX.out.cells
  have HS := Aside0.mk hs
  clear hw1 hm
  go_enter Tryd.func25, Tryd.ntmps25
  go_upto_region 1 with fail
  rw [← HW.out]
  go_wp2_with fail
  with_reducible refine (HM.out _).mono ?_
  rintro e w2 ⟨rfl, hb⟩
  have HB2 := Aside0.mk (HB.out.trans (hb.mono HB.out.size))
  obtain ⟨b0, b1, b2⟩ := (HX.out.below hb).cells
  clear hb a0 a1 a2
  go_wp2
  go_ret2
  exact ⟨_, _, rfl, bytes_nil _ _, by first | exact HB2.out | exact below_alloc HB2.out _⟩
set_option maxHeartbeats 4000000 in
theorem rb1 (w : World) (n : Int) (s : ByteArray) (hs : s.size ≤ 500) (hm : mayB ⟨1, n, s⟩ = true) :
    Calls Tryd.prog 25 #[.agg #[.int .u8 1, .int .i64 n, .string s]] w fun e w' => BytesRes w [] false e w' := by
  have HM : Aside0 (∀ W : World, Calls Tryd.prog 26 #[.agg #[.int .u8 1, .int .i64 n, .string s]] W fun e w' => e = .returned (.bool true) ∧ Below W.heap.size W w') := ⟨fun W => by
    have h := May_ref ⟨1, n, s⟩ W
    rwa [hm] at h⟩
  obtain ⟨w1, hw1⟩ : ∃ w1, w1 = w.alloc (.cells #[.int .u8 1, .int .i64 n, .string s] 56) := ⟨_, rfl⟩
  have HB := Aside0.mk (show Below w.heap.size w w1 by rw [hw1]; exact below_alloc (Below.refl _ _) _)
  have HX := Aside0.mk (show BoxH w1 w.heap.size ⟨1, n, s⟩ by rw [hw1]; exact BoxH.new w ⟨1, n, s⟩)
  have HW := Aside0.mk hw1
  obtain ⟨a0, a1, a2⟩ := HX.out.cells
  have HS := Aside0.mk hs
  clear hw1 hm
  go_enter Tryd.func25, Tryd.ntmps25
  go_upto_region 1 with fail
  rw [← HW.out]
  go_wp2_with fail
  with_reducible refine (HM.out _).mono ?_
  rintro e w2 ⟨rfl, hb⟩
  have HB2 := Aside0.mk (HB.out.trans (hb.mono HB.out.size))
  obtain ⟨b0, b1, b2⟩ := (HX.out.below hb).cells
  clear hb a0 a1 a2
  go_wp2
  go_ret2
  exact ⟨_, _, rfl, bytes_nil _ _, by first | exact HB2.out | exact below_alloc HB2.out _⟩
set_option maxHeartbeats 4000000 in
theorem rb2 (w : World) (n : Int) (s : ByteArray) (hs : s.size ≤ 500) (hm : mayB ⟨2, n, s⟩ = true) :
    Calls Tryd.prog 25 #[.agg #[.int .u8 2, .int .i64 n, .string s]] w fun e w' => BytesRes w [] false e w' := by
  have HM : Aside0 (∀ W : World, Calls Tryd.prog 26 #[.agg #[.int .u8 2, .int .i64 n, .string s]] W fun e w' => e = .returned (.bool true) ∧ Below W.heap.size W w') := ⟨fun W => by
    have h := May_ref ⟨2, n, s⟩ W
    rwa [hm] at h⟩
  obtain ⟨w1, hw1⟩ : ∃ w1, w1 = w.alloc (.cells #[.int .u8 2, .int .i64 n, .string s] 56) := ⟨_, rfl⟩
  have HB := Aside0.mk (show Below w.heap.size w w1 by rw [hw1]; exact below_alloc (Below.refl _ _) _)
  have HX := Aside0.mk (show BoxH w1 w.heap.size ⟨2, n, s⟩ by rw [hw1]; exact BoxH.new w ⟨2, n, s⟩)
  have HW := Aside0.mk hw1
  obtain ⟨a0, a1, a2⟩ := HX.out.cells
  have HS := Aside0.mk hs
  clear hw1 hm
  go_enter Tryd.func25, Tryd.ntmps25
  go_upto_region 1 with fail
  rw [← HW.out]
  go_wp2_with fail
  with_reducible refine (HM.out _).mono ?_
  rintro e w2 ⟨rfl, hb⟩
  have HB2 := Aside0.mk (HB.out.trans (hb.mono HB.out.size))
  obtain ⟨b0, b1, b2⟩ := (HX.out.below hb).cells
  clear hb a0 a1 a2
  go_wp2
  go_ret2
  exact ⟨_, _, rfl, bytes_nil _ _, by first | exact HB2.out | exact below_alloc HB2.out _⟩
set_option maxHeartbeats 4000000 in
theorem rb3 (w : World) (n : Int) (s : ByteArray) (hs : s.size ≤ 500) (hm : mayB ⟨3, n, s⟩ = true) :
    Calls Tryd.prog 25 #[.agg #[.int .u8 3, .int .i64 n, .string s]] w fun e w' => BytesRes w (bytesOf s) true e w' := by
  have HM : Aside0 (∀ W : World, Calls Tryd.prog 26 #[.agg #[.int .u8 3, .int .i64 n, .string s]] W fun e w' => e = .returned (.bool true) ∧ Below W.heap.size W w') := ⟨fun W => by
    have h := May_ref ⟨3, n, s⟩ W
    rwa [hm] at h⟩
  obtain ⟨w1, hw1⟩ : ∃ w1, w1 = w.alloc (.cells #[.int .u8 3, .int .i64 n, .string s] 56) := ⟨_, rfl⟩
  have HB := Aside0.mk (show Below w.heap.size w w1 by rw [hw1]; exact below_alloc (Below.refl _ _) _)
  have HX := Aside0.mk (show BoxH w1 w.heap.size ⟨3, n, s⟩ by rw [hw1]; exact BoxH.new w ⟨3, n, s⟩)
  have HW := Aside0.mk hw1
  obtain ⟨a0, a1, a2⟩ := HX.out.cells
  have HS := Aside0.mk hs
  clear hw1 hm
  go_enter Tryd.func25, Tryd.ntmps25
  go_upto_region 1 with fail
  rw [← HW.out]
  go_wp2_with fail
  with_reducible refine (HM.out _).mono ?_
  rintro e w2 ⟨rfl, hb⟩
  have HB2 := Aside0.mk (HB.out.trans (hb.mono HB.out.size))
  obtain ⟨b0, b1, b2⟩ := (HX.out.below hb).cells
  clear hb a0 a1 a2
  have hcv := bytes_conv w2 s
  have HC : Aside0 ((Kd.int .u8).C (Lib.bytesWorld w2 5 s) (some ⟨w2.heap.size, 0, none⟩) (bytesOf s).length (bytesOf s)) := ⟨bytes_C w2 s HS.out⟩
  have HB3 : Aside0 (Below w.heap.size w (Lib.bytesWorld w2 5 s)) := ⟨bytes_below HB2.out HB2.out.size _ _⟩
  have HLN := Aside0.mk (bytesOf_length s)
  generalize Lib.bytesWorld w2 5 s = w3 at *
  generalize grownCap w2 s.size 0 5 = cp at *
  go_wp2
  go_ret2
  exact ⟨_, _, by rw [HLN.out]; rfl, HC.out, HB3.out⟩
set_option maxHeartbeats 4000000 in
theorem rb4 (w : World) (n : Int) (s : ByteArray) (hs : s.size ≤ 500) (hm : mayB ⟨4, n, s⟩ = true) :
    Calls Tryd.prog 25 #[.agg #[.int .u8 4, .int .i64 n, .string s]] w fun e w' => BytesRes w (frameL 1 s) true e w' := by
  have HM : Aside0 (∀ W : World, Calls Tryd.prog 26 #[.agg #[.int .u8 4, .int .i64 n, .string s]] W fun e w' => e = .returned (.bool true) ∧ Below W.heap.size W w') := ⟨fun W => by
    have h := May_ref ⟨4, n, s⟩ W
    rwa [hm] at h⟩
  obtain ⟨w1, hw1⟩ : ∃ w1, w1 = w.alloc (.cells #[.int .u8 4, .int .i64 n, .string s] 56) := ⟨_, rfl⟩
  have HB := Aside0.mk (show Below w.heap.size w w1 by rw [hw1]; exact below_alloc (Below.refl _ _) _)
  have HX := Aside0.mk (show BoxH w1 w.heap.size ⟨4, n, s⟩ by rw [hw1]; exact BoxH.new w ⟨4, n, s⟩)
  have HW := Aside0.mk hw1
  obtain ⟨a0, a1, a2⟩ := HX.out.cells
  have HS := Aside0.mk hs
  clear hw1 hm
  have HP : Aside0 (∀ W : World, Calls Tryd.prog 41 #[.agg #[.int .u8 1, .string s]] W fun e w' => ∃ A c, e = .returned (.tuple #[.slice A (frameL 1 s).length c, .int .i64 0]) ∧ (Kd.int .u8).C w' A (frameL 1 s).length (frameL 1 s) ∧ Below W.heap.size W w') := ⟨fun W => rput_calls W 1 s (by decide) HS.out⟩
  generalize frameL 1 s = L at *
  go_enter Tryd.func25, Tryd.ntmps25
  go_upto_region 1 with fail
  rw [← HW.out]
  go_wp2_with fail
  with_reducible refine (HM.out _).mono ?_
  rintro e w2 ⟨rfl, hb⟩
  have HB2 := Aside0.mk (HB.out.trans (hb.mono HB.out.size))
  obtain ⟨b0, b1, b2⟩ := (HX.out.below hb).cells
  clear hb a0 a1 a2
  have y1 : IntKind.u8.wrap 1 = 1 := by decide
  have y2 : IntKind.u8.wrap 2 = 2 := by decide
  have y0 : IntKind.u8.wrap 0 = 0 := by decide
  go_wp2_with fail
  with_reducible refine (HP.out w2).mono ?_
  rintro e w3 ⟨A3, c3, rfl, hC, hb⟩
  have HC := Aside0.mk hC
  have HB3 := Aside0.mk (HB2.out.trans (hb.mono HB2.out.size))
  clear hC hb HP b0 b1 b2
  go_wp2
  go_ret2
  exact ⟨_, _, rfl, HC.out, HB3.out⟩
set_option maxHeartbeats 4000000 in
theorem rb5 (w : World) (n : Int) (s : ByteArray) (hs : s.size ≤ 500) (hm : mayB ⟨5, n, s⟩ = true) :
    Calls Tryd.prog 25 #[.agg #[.int .u8 5, .int .i64 n, .string s]] w fun e w' => BytesRes w (frameL 2 s) true e w' := by
  have HM : Aside0 (∀ W : World, Calls Tryd.prog 26 #[.agg #[.int .u8 5, .int .i64 n, .string s]] W fun e w' => e = .returned (.bool true) ∧ Below W.heap.size W w') := ⟨fun W => by
    have h := May_ref ⟨5, n, s⟩ W
    rwa [hm] at h⟩
  obtain ⟨w1, hw1⟩ : ∃ w1, w1 = w.alloc (.cells #[.int .u8 5, .int .i64 n, .string s] 56) := ⟨_, rfl⟩
  have HB := Aside0.mk (show Below w.heap.size w w1 by rw [hw1]; exact below_alloc (Below.refl _ _) _)
  have HX := Aside0.mk (show BoxH w1 w.heap.size ⟨5, n, s⟩ by rw [hw1]; exact BoxH.new w ⟨5, n, s⟩)
  have HW := Aside0.mk hw1
  obtain ⟨a0, a1, a2⟩ := HX.out.cells
  have HS := Aside0.mk hs
  clear hw1 hm
  have HP : Aside0 (∀ W : World, Calls Tryd.prog 41 #[.agg #[.int .u8 2, .string s]] W fun e w' => ∃ A c, e = .returned (.tuple #[.slice A (frameL 2 s).length c, .int .i64 0]) ∧ (Kd.int .u8).C w' A (frameL 2 s).length (frameL 2 s) ∧ Below W.heap.size W w') := ⟨fun W => rput_calls W 2 s (by decide) HS.out⟩
  generalize frameL 2 s = L at *
  go_enter Tryd.func25, Tryd.ntmps25
  go_upto_region 1 with fail
  rw [← HW.out]
  go_wp2_with fail
  with_reducible refine (HM.out _).mono ?_
  rintro e w2 ⟨rfl, hb⟩
  have HB2 := Aside0.mk (HB.out.trans (hb.mono HB.out.size))
  obtain ⟨b0, b1, b2⟩ := (HX.out.below hb).cells
  clear hb a0 a1 a2
  have y1 : IntKind.u8.wrap 1 = 1 := by decide
  have y2 : IntKind.u8.wrap 2 = 2 := by decide
  have y0 : IntKind.u8.wrap 0 = 0 := by decide
  go_wp2_with fail
  with_reducible refine (HP.out w2).mono ?_
  rintro e w3 ⟨A3, c3, rfl, hC, hb⟩
  have HC := Aside0.mk hC
  have HB3 := Aside0.mk (HB2.out.trans (hb.mono HB2.out.size))
  clear hC hb HP b0 b1 b2
  go_wp2
  go_ret2
  exact ⟨_, _, rfl, HC.out, HB3.out⟩
set_option maxHeartbeats 4000000 in
theorem rb6 (w : World) (n : Int) (s : ByteArray) (hs : s.size ≤ 500) (hm : mayB ⟨6, n, s⟩ = true) :
    Calls Tryd.prog 25 #[.agg #[.int .u8 6, .int .i64 n, .string s]] w fun e w' => BytesRes w [] false e w' := by
  have HM : Aside0 (∀ W : World, Calls Tryd.prog 26 #[.agg #[.int .u8 6, .int .i64 n, .string s]] W fun e w' => e = .returned (.bool true) ∧ Below W.heap.size W w') := ⟨fun W => by
    have h := May_ref ⟨6, n, s⟩ W
    rwa [hm] at h⟩
  obtain ⟨w1, hw1⟩ : ∃ w1, w1 = w.alloc (.cells #[.int .u8 6, .int .i64 n, .string s] 56) := ⟨_, rfl⟩
  have HB := Aside0.mk (show Below w.heap.size w w1 by rw [hw1]; exact below_alloc (Below.refl _ _) _)
  have HX := Aside0.mk (show BoxH w1 w.heap.size ⟨6, n, s⟩ by rw [hw1]; exact BoxH.new w ⟨6, n, s⟩)
  have HW := Aside0.mk hw1
  obtain ⟨a0, a1, a2⟩ := HX.out.cells
  have HS := Aside0.mk hs
  clear hw1 hm
  go_enter Tryd.func25, Tryd.ntmps25
  go_upto_region 1 with fail
  rw [← HW.out]
  go_wp2_with fail
  with_reducible refine (HM.out _).mono ?_
  rintro e w2 ⟨rfl, hb⟩
  have HB2 := Aside0.mk (HB.out.trans (hb.mono HB.out.size))
  obtain ⟨b0, b1, b2⟩ := (HX.out.below hb).cells
  clear hb a0 a1 a2
  go_wp2
  go_ret2
  exact ⟨_, _, rfl, bytes_nil _ _, by first | exact HB2.out | exact below_alloc HB2.out _⟩
theorem rbytes_calls (w : World) (h : SH) (hs : h.f2.size ≤ 500) :
    Calls Tryd.prog 25 #[.agg #[.int .u8 h.f0, .int .i64 h.f1, .string h.f2]] w fun e w' => BytesRes w (bytesP h).1 (bytesP h).2 e w' := by
  cases hm : mayB h with
  | false =>
    have e : bytesP h = ([], false) := by unfold bytesP; rw [hm]; rfl
    rw [e]
    exact rbno w _ _ _ hs hm
  | true =>
    have hk := may_kind hm
    obtain ⟨k, n, s⟩ := h
    have e : bytesP ⟨k, n, s⟩ = (if k = 3 then (bytesOf s, true) else if k = 4 ∨ k = 5 then (frameL (k - 3) s, true) else ([], false)) := by unfold bytesP; rw [hm]; rfl
    rw [e]
    rcases hk with h | h | h | h | h | h
    · cases h; exact rb1 w n s hs hm
    · cases h; exact rb2 w n s hs hm
    · cases h; exact rb3 w n s hs hm
    · cases h; exact rb4 w n s hs hm
    · cases h; exact rb5 w n s hs hm
    · cases h; exact rb6 w n s hs hm
end Go.Proofs.YtmcjfnebkpifnaaDoor
