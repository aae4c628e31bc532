/-
  slices.Grow of nil and slices.Concat, at []byte.
-/
import Derived.Test.YtmcjfnebkpifnaaDoorFrFeed
namespace Go.Proofs.YtmcjfnebkpifnaaDoor
open Go.RowKit Go.Proofs.YtmcjfnebkpifnaaDoorW.PrintWords Go.Proofs.YtmcjfnebkpifnaaDoorW.PrintLast Go.Proofs.YtmcjfnebkpifnaaDoorW.PrintMore Go.Proofs.YtmcjfnebkpifnaaDoor.PFrameFeeds
set_option linter.unusedVariables false
set_option maxRecDepth 100000
set_option linter.unusedSimpArgs false

theorem grow_zero (w : World) : Calls Tryd.prog 49 #[.slice none 0 0, .int .i64 0] w fun e w' => e = .returned (.slice none 0 0) ∧ w = w' := by
  go_enter Tryd.func49, Tryd.ntmps49
  go_wp2
  go_ret
  exact ⟨rfl, rfl⟩

set_option maxHeartbeats 2000000 in
theorem grow_calls (w : World) (n : Int) (h0 : 0 < n) (hn : n ≤ 1000000) : Calls Tryd.prog 49 #[.slice none 0 0, .int .i64 n] w fun e w' => ∃ A c, e = .returned (.slice A 0 c) ∧ (Kd.int .u8).R 5 w' w.heap.size (fun _ => True) (.slice A 0 c) [] ∧ Below w.heap.size w w' := by
  go_enter Tryd.func49, Tryd.ntmps49
  go_wp2_with (at_builtin; refine Kd.R_append_zeros (Kd.int .u8) (w0 := w) w.heap.size rfl (.tmp 20) (.tmp 21) 27 3 5 (.int .u8 0) 1 rfl Tryd.underlying27 Tryd.underlying3 infoB rfl (by decide) (by decide) (.slice none 0 0) [] 0 n (fun _ => True) rfl rfl rfl (fun _ _ => trivial) (Kd.R_nil _ _ _ _ _) (by omega) (Below.refl _ _) (Nat.le_refl _) ?aL ?_)
  case aL => simp only [List.length_nil]; omega
  intro v1 w1 ho hb hgr hat
  obtain ⟨A, m, c, rfl⟩ := sl_of_R ho
  have RO := Aside0.mk (Kd.R_take (m := 0) ho (Nat.zero_le _))
  have HB := Aside0.mk hb
  clear ho hb hgr hat
  go_wp2
  go_ret
  exact ⟨_, _, rfl, by simpa using RO.out, HB.out⟩

theorem grow_any (w : World) (n : Nat) (hn : n ≤ 1000000) : Calls Tryd.prog 49 #[.slice none 0 0, .int .i64 n] w fun e w' => ∃ A c, e = .returned (.slice A 0 c) ∧ (Kd.int .u8).R 5 w' w.heap.size (fun _ => True) (.slice A 0 c) [] ∧ Below w.heap.size w w' := by
  by_cases h : n = 0
  · subst h
    refine (grow_zero w).mono ?_
    rintro e w' ⟨rfl, rfl⟩
    exact ⟨_, _, rfl, Kd.R_nil _ _ _ _ _, Below.refl _ _⟩
  · exact grow_calls w n (by omega) (by omega)

theorem take_flat {α : Type} (xss : List (List α)) (k : Nat) (hk : k < xss.length) : (xss.take (k + 1)).flatten = (xss.take k).flatten ++ xss.getD k [] := by
  rw [List.take_add_one, List.getElem?_eq_getElem hk, List.flatten_append, List.getD_eq_getElem?_getD, List.getElem?_eq_getElem hk]
  simp
theorem take_flat_le {α : Type} (xss : List (List α)) (k : Nat) : (xss.take k).flatten.length ≤ xss.flatten.length := by
  conv => rhs; rw [← List.take_append_drop k xss]
  rw [List.flatten_append, List.length_append]
  omega

set_option maxHeartbeats 4000000 in
theorem concat_calls (w : World) (A : Option Addr) (n c : Nat) (xss : List (List Int)) (hr : (Kd.slice 5 (Kd.int .u8)).C w A n xss) (hc : n ≤ c) (hn : n ≤ 100000) (hl : xss.flatten.length ≤ 1000000) :
    Calls Tryd.prog 32 #[.slice A n c] w fun e w' => ∃ A' c', e = .returned (.slice A' xss.flatten.length c') ∧ (Kd.int .u8).R 5 w' w.heap.size (fun _ => True) (.slice A' xss.flatten.length c') xss.flatten ∧ Below w.heap.size w w' := by
  have hlen := Kd.C_len hr
  have HR := Aside0.mk hr
  clear hr
  go_enter Tryd.func32, Tryd.ntmps32
  go_wp2
  go_loop [3, 11] (fun v i => ∃ k : Nat, k ≤ n ∧ i = .int .i64 k ∧ v = .int .i64 ((xss.take k).flatten.length : Nat)) (fun _ i => n - (intOf i).toNat)
  case atStart => exact ⟨0, by omega, rfl, rfl⟩
  case round =>
    obtain ⟨k, hk, rfl, rfl⟩ := hrel
    have hle := take_flat_le xss k
    by_cases hlt : k < n
    · obtain ⟨ad, A', c', rfl, hcell, hc', hr'⟩ := rows_at HR.out k hlt
      have HT := Aside0.mk (take_flat xss k (by omega))
      have hle2 := take_flat_le xss (k + 1)
      have hsum : (xss.take k).flatten.length + (xss.getD k []).length ≤ 1000000 := by
        rw [HT.out, List.length_append] at hle2; omega
      have HQ : Aside0 ((((xss.take k).flatten.length : Nat) : Int) + ((xss.getD k []).length : Int) = ((xss.take (k + 1)).flatten.length : Nat)) := ⟨by rw [HT.out, List.length_append]; rfl⟩
      clear hr' hle2
      generalize (xss.getD k []).length = m at *
      generalize (xss.take k).flatten.length = m0 at *
      go_wp2
      go_round
      case rel => exact ⟨k + 1, by omega, by go_num, by rw [HQ.out]⟩
      case measure => simp [intOf]; omega
    · have hkn : k = n := by omega
      have HK : Aside0 ((xss.take k).flatten = xss.flatten) := ⟨by rw [hkn, ← hlen, List.take_length]⟩
      subst hkn
      rw [HK.out] at hle ⊢
      clear HK hle hlt
      obtain ⟨tot, ht⟩ : ∃ tot, tot = xss.flatten.length := ⟨_, rfl⟩
      rw [← ht] at hl ⊢
      have HT := Aside0.mk ht
      clear ht
      go_wp2_with fail
      refine (grow_any w tot hl).mono ?_
      rintro e w1 ⟨A1, c1, rfl, hR, hB⟩
      have HR1 := Aside0.mk hR
      have HB1 := Aside0.mk hB
      clear hR hB
      go_wp2
      go_loopw [6, 27] (fun v i wr => ∃ k2 : Nat, k2 ≤ k ∧ i = .int .i64 k2 ∧ ∃ A' n' c', v = .slice A' n' c' ∧ (Kd.int .u8).R 5 wr w.heap.size (fun _ => True) v (xss.take k2).flatten ∧ Below w.heap.size w wr) (fun _ i _ => k - (intOf i).toNat)
      case atStart => exact ⟨0, by omega, rfl, _, _, _, rfl, HR1.out, HB1.out⟩
      case round =>
        obtain ⟨k2, hk2, rfl, A', n', c', rfl, hR2, hB2⟩ := hrel
        have hle := take_flat_le xss k2
        have HR2 := Aside0.mk hR2
        have HB2 := Aside0.mk hB2
        have hsz := hB2.size
        clear hR2 hB2 HR1 HB1
        by_cases hlt : k2 < k
        · obtain ⟨ad, A3, c3, rfl, hcell, hc3, hr3⟩ := rows_at (Kd.C_below HR.out HB2.out) k2 hlt
          have HTT := Aside0.mk (take_flat xss k2 (by omega))
          have hle2 := take_flat_le xss (k2 + 1)
          have hsum : (xss.take k2).flatten.length + (xss.getD k2 []).length ≤ 1000000 := by
            rw [HTT.out, List.length_append, ← HT.out] at hle2; omega
          obtain ⟨ys, hys⟩ : ∃ ys, ys = xss.getD k2 [] := ⟨_, rfl⟩
          rw [← hys] at hcell hc3 hr3 HTT hsum
          have HR3 := Aside0.mk hr3
          clear hr3 hle2 hys
          go_wp2_with (at_builtin; refine Kd.R_append_row (Value.int .u8) 0 (w0 := w) w.heap.size rfl (.tmp 31) (.tmp 32) 27 5 (.int .u8 0) 1 rfl Tryd.underlying27 infoB rfl (by decide) (.slice A' n' c') (xss.take k2).flatten ys A3 ys.length c3 (fun _ => True) rfl rfl (fun _ _ => trivial) HR2.out HR3.out HB2.out hsz ?aL ?_)
          case aL => omega
          intro v1 w2 ho hb2 _ _
          obtain ⟨A4, n4, c4, rfl⟩ := sl_of_R ho
          rw [← HTT.out] at ho
          have RO := Aside0.mk ho
          have HBO := Aside0.mk hb2
          clear ho hb2
          go_wp2
          go_roundw
          case rel => exact ⟨k2 + 1, by omega, by go_num, _, _, _, rfl, RO.out, HBO.out⟩
          case measure => simp [intOf]; omega
        · have hkn : k2 = k := by omega
          have HK : Aside0 ((xss.take k2).flatten = xss.flatten) := ⟨by rw [hkn, ← hlen, List.take_length]⟩
          subst hkn
          rw [HK.out] at HR2
          have hn' := (Kd.R_reads' HR2.out).1
          rw [← HT.out] at hn'
          subst hn'
          have HTK := HT.out
          have HTK := Aside0.mk HTK
          clear HK hle hlt
          go_wp2
          go_ret
          exact ⟨_, _, by rw [← HTK.out]; rfl, by rw [← HTK.out]; exact HR2.out, HB2.out⟩
end Go.Proofs.YtmcjfnebkpifnaaDoor
