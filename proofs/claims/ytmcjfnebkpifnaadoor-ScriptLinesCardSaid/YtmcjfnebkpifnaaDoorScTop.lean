/- Printed texts of this seat, cut to what is used. -/
import Derived.Test.YtmcjfnebkpifnaaDoorScLine
namespace Go.Proofs.YtmcjfnebkpifnaaDoor
open Go.RowKit Go.Proofs.YtmcjfnebkpifnaaDoorW.PrintWords Go.Proofs.YtmcjfnebkpifnaaDoorW.PrintLast Go.Proofs.YtmcjfnebkpifnaaDoorW.PrintMore Go.Proofs.YtmcjfnebkpifnaaDoor.PScriptLines
set_option linter.unusedVariables false
set_option linter.unusedSimpArgs false
set_option maxRecDepth 100000

theorem line_calls (w : World) (h : SH) (hm : mayB h = true) (hs : h.f2.size ≤ 500) (hT : NumT w) :
    Calls Tryd.prog 36 #[.agg #[.int .u8 h.f0, .int .i64 h.f1, .string h.f2]] w fun e w' => e = .returned (.string (bsOf (lineB h))) ∧ Below w.heap.size w w' := by
  have hk := may_kind hm
  obtain ⟨k, n, s⟩ := h
  rcases hk with h | h | h | h | h | h
  · cases h; exact line1_calls w n s hs hT
  · cases h; exact line2_calls w n s hs hT
  · cases h; exact line3_calls w n s hs hT
  · cases h; exact line4_calls w n s hs hT
  · cases h; exact line5_calls w n s hs hT
  · cases h; exact line6_calls w n s hs hT

set_option maxHeartbeats 2000000 in
theorem linep_calls (w : World) (h : SH) (hs : h.f2.size ≤ 500) (hT : NumT w) :
    Calls Tryd.prog 23 #[.agg #[.int .u8 h.f0, .int .i64 h.f1, .string h.f2]] w fun e w' => e = .returned (.tuple #[.string (bsOf (if mayB h then lineB h else [])), .int .i64 (if mayB h then 0 else 1)]) ∧ Below w.heap.size w w' := by
  have HM := Aside0.mk (fun (W : World) => script_may.calls h.f0 h.f1 h.f2 (mayB h) W (may_f h))
  have HL := Aside0.mk (fun (W : World) (hm : mayB h = true) (k : NumT W) => line_calls W h hm hs k)
  have HT := Aside0.mk hT
  obtain ⟨w1, hw1⟩ : ∃ w1, w1 = w.alloc (.cells #[.int .u8 h.f0, .int .i64 h.f1, .string h.f2] 56) := ⟨_, rfl⟩
  have HB := Aside0.mk (show Below w.heap.size w w1 by rw [hw1]; exact below_alloc (Below.refl _ _) _)
  have HX := Aside0.mk (show BoxH w1 w.heap.size h by rw [hw1]; exact BoxH.new w h)
  have HW := Aside0.mk hw1
  clear hw1 hT
  cases hm : mayB h with
  | true =>
    rw [hm] at HM
    have HM2 := Aside0.mk hm
    obtain ⟨a0, a1, a2⟩ := HX.out.cells
    clear hm
    go_enter Tryd.func23, Tryd.ntmps23
    go_upto_region 1 with fail
    rw [← HW.out]
    go_wp2_with fail
    with_reducible refine (HM.out _).mono ?_
    rintro e w2 ⟨rfl, hb⟩
    have HB2 := Aside0.mk (HB.out.trans (hb.mono HB.out.size))
    obtain ⟨b0, b1, b2⟩ := (HX.out.below hb).cells
    clear hb a0 a1 a2
    go_wp2_with fail
    with_reducible refine (HL.out w2 HM2.out (HT.out.below HB2.out)).mono ?_
    rintro e w3 ⟨rfl, hb⟩
    have HB3 := Aside0.mk (HB2.out.trans (hb.mono HB2.out.size))
    clear hb b0 b1 b2
    go_wp2
    go_ret2
    exact ⟨rfl, HB3.out⟩
  | false =>
    rw [hm] at HM
    obtain ⟨a0, a1, a2⟩ := HX.out.cells
    clear hm
    go_enter Tryd.func23, Tryd.ntmps23
    go_upto_region 1 with fail
    rw [← HW.out]
    go_wp2_with fail
    with_reducible refine (HM.out _).mono ?_
    rintro e w2 ⟨rfl, hb⟩
    have HB2 := Aside0.mk (HB.out.trans (hb.mono HB.out.size))
    clear hb a0 a1 a2
    go_wp2
    go_ret2
    exact ⟨rfl, HB2.out⟩

theorem awake_line : lineB ⟨4, 0, ⟨#[115, 112, 108, 105, 116, 45, 119, 105, 110, 100, 111, 119, 32, 45, 104]⟩⟩ = [108, 105, 110, 101, 32, 48, 32, 34, 115, 112, 108, 105, 116, 45, 119, 105, 110, 100, 111, 119, 32, 45, 104, 34] ∧
    mayB ⟨4, 0, ⟨#[115, 112, 108, 105, 116, 45, 119, 105, 110, 100, 111, 119, 32, 45, 104]⟩⟩ = true := by
  constructor
  · decide +kernel
  · decide +kernel
theorem awake_calls (w : World) (hT : NumT w) : Calls Tryd.prog 21 #[] w fun e w' => e = .returned (.bool true) ∧ Below w.heap.size w w' := by
  have HT := Aside0.mk hT
  have HL := Aside0.mk (fun (W : World) (k : NumT W) => linep_calls W ⟨4, 0, ⟨#[115, 112, 108, 105, 116, 45, 119, 105, 110, 100, 111, 119, 32, 45, 104]⟩⟩ (by decide) k)
  rw [awake_line.1, awake_line.2] at HL
  have HB0 := Aside0.mk (Below.refl w.heap.size w)
  clear hT
  go_enter Tryd.func21, Tryd.ntmps21
  go_wp2_with fail
  refine (HL.out _ (HT.out.below (by first | exact HB0.out | exact below_alloc (Below.refl _ _) _))).mono ?_
  rintro e w2 ⟨rfl, hb⟩
  have HB2 := Aside0.mk hb
  clear hb
  go_wp2
  go_ret
  exact ⟨by rw [ByteArray.toList_eq]; rfl, HB2.out⟩

set_option maxHeartbeats 1000000 in
theorem may1_calls (w : World) (h : SH) :
    Calls Tryd.prog 47 #[.agg #[.int .u8 h.f0, .int .i64 h.f1, .string h.f2]] w fun e w' => e = .returned (.bool (!mayB h)) ∧ Below w.heap.size w w' := by
  have HM := Aside0.mk (fun (W : World) => script_may.calls h.f0 h.f1 h.f2 (mayB h) W (may_f h))
  obtain ⟨w1, hw1⟩ : ∃ w1, w1 = w.alloc (.cells #[.int .u8 h.f0, .int .i64 h.f1, .string h.f2] 56) := ⟨_, rfl⟩
  have HB := Aside0.mk (show Below w.heap.size w w1 by rw [hw1]; exact below_alloc (Below.refl _ _) _)
  have HX := Aside0.mk (show BoxH w1 w.heap.size h by rw [hw1]; exact BoxH.new w h)
  have HW := Aside0.mk hw1
  clear hw1
  generalize mayB h = m at *
  obtain ⟨a0, a1, a2⟩ := HX.out.cells
  go_enter Tryd.func47, Tryd.ntmps47
  go_upto_region 1 with fail
  rw [← HW.out]
  go_wp2_with fail
  with_reducible refine (HM.out _).mono ?_
  rintro e w2 ⟨rfl, hb⟩
  have HB2 := Aside0.mk (HB.out.trans (hb.mono HB.out.size))
  clear hb a0 a1 a2
  go_wp2
  go_ret
  exact ⟨rfl, HB2.out⟩

theorem enters47 : ∀ args w, (callFunc 47 args).run Tryd.prog w = .ok (.enter 47 args) w := enters_of Tryd.func47 (by kernel_rfl) rfl
def HapPred (g : Nat) (F : SH → Bool) : Prop := ∀ (w : World) (h : SH), Calls Tryd.prog g #[.agg #[.int .u8 h.f0, .int .i64 h.f1, .string h.f2]] w fun e w' => e = .returned (.bool (F h)) ∧ Below w.heap.size w w'
set_option maxHeartbeats 4000000 in
theorem ifn_calls (g : Nat) (eg : ∀ args w, (callFunc g args).run Tryd.prog w = .ok (.enter g args) w) (F : SH → Bool) (hF : HapPred g F) (A : Option Addr) (c : Nat) (xs : List SH) (w : World) (hn : xs.length ≤ 100000) (hr : Kd.C k56 w A xs.length xs) :
    Calls Tryd.prog 63 #[.slice A xs.length c, .func (.func g) #[] #[]] w fun e w' => ∃ r : Int, e = .returned (.int .i64 r) ∧ decide (0 ≤ r) = xs.any F ∧ Below w.heap.size w w' := by
  have HR := Aside0.mk hr
  have HF := Aside0.mk hF
  clear hr hF
  obtain ⟨n, hN⟩ : ∃ n, n = xs.length := ⟨_, rfl⟩
  rw [← hN] at hn HR ⊢
  have HN := Aside0.mk hN
  clear hN
  go_enter Tryd.func63, Tryd.ntmps63
  go_wp2
  go_loopw [5, 8] (fun _ i wr => ∃ k : Nat, k ≤ n ∧ i = .int .i64 k ∧ Aside0 ((xs.drop k).any F = xs.any F ∧ Below w.heap.size w wr)) (fun _ i _ => n - (intOf i).toNat)
  case atStart => exact ⟨0, by omega, rfl, ⟨by simp, Below.refl _ _⟩⟩
  case round =>
    obtain ⟨k, hk, rfl, HA⟩ := hrel
    have hsz := HA.out.2.size
    by_cases hlt : k < n
    · obtain ⟨ad, rfl, g0, g1, g2⟩ := at_T56 (Kd.C_below HR.out HA.out.2) (k : Int) (by omega) (by omega)
      have hd : (xs.drop k).any F = (F (rd_T56 xs k) || (xs.drop (k + 1)).any F) := by
        have hkl : k < xs.length := by rw [← HN.out]; exact hlt
        rw [List.drop_eq_getElem_cons hkl, List.any_cons]
        unfold rd_T56
        rw [List.getD_eq_getElem?_getD, show ((k : Int)).toNat = k by omega, List.getElem?_eq_getElem hkl]
        rfl
      rw [HA.out.1] at hd
      have HC := Aside0.mk (HF.out wr (rd_T56 xs k))
      generalize rd_T56 xs k = x at *
      have hkk : ((k : Int)).toNat = k := by omega
      rw [hkk] at g0 g1 g2
      have HM := Aside0.mk HA.out.2
      clear HA hkk
      cases hp : F x with
      | true =>
        rw [hp, Bool.true_or] at hd
        have HD := Aside0.mk hd
        rw [hp] at HC
        clear hd hp
        go_wp2_with fail
        refine HC.out.mono ?_
        rintro e w1 ⟨rfl, h1⟩
        have H1 := Aside0.mk (HM.out.trans (h1.mono hsz))
        clear h1
        go_wp2
        go_ret
        exact ⟨_, rfl, by rw [HD.out]; simp, H1.out⟩
      | false =>
        rw [hp, Bool.false_or] at hd
        have HD := Aside0.mk hd
        rw [hp] at HC
        clear hd hp
        go_wp2_with fail
        refine HC.out.mono ?_
        rintro e w1 ⟨rfl, h1⟩
        have H1 := Aside0.mk (HM.out.trans (h1.mono hsz))
        clear h1
        go_wp2
        go_roundw
        case rel => exact ⟨k + 1, by omega, by go_num, ⟨HD.out.symm, H1.out⟩⟩
        case measure => simp [intOf]; omega
    · have hdn : xs.drop k = [] := List.drop_eq_nil_of_le (by have := HN.out; omega)
      have HD : Aside0 (xs.any F = false) := ⟨by rw [← HA.out.1, hdn]; rfl⟩
      clear hdn
      go_wp2
      go_ret
      exact ⟨_, rfl, by rw [HD.out]; rfl, HA.out.2⟩
theorem cfn_calls (g : Nat) (eg : ∀ args w, (callFunc g args).run Tryd.prog w = .ok (.enter g args) w) (F : SH → Bool) (hF : HapPred g F) (A : Option Addr) (c : Nat) (xs : List SH) (w : World) (hn : xs.length ≤ 100000) (hr : Kd.C k56 w A xs.length xs) :
    Calls Tryd.prog 46 #[.slice A xs.length c, .func (.func g) #[] #[]] w fun e w' => e = .returned (.bool (xs.any F)) ∧ Below w.heap.size w w' := by
  have HC := Aside0.mk (ifn_calls g eg F hF A c xs w hn hr)
  clear hr hF hn
  go_enter Tryd.func46, Tryd.ntmps46
  go_wp2_with fail
  refine HC.out.mono ?_
  rintro e w1 ⟨r, rfl, h1, h2⟩
  have H1 := Aside0.mk h1
  have H2 := Aside0.mk h2
  clear h1 h2
  go_wp2
  go_ret
  exact ⟨by rw [← H1.out]; rfl, H2.out⟩
theorem all_any (l : List SH) : (!l.any (fun h => !mayB h)) = l.all mayB := by
  induction l with
  | nil => rfl
  | cons x l ih => rw [List.any_cons, List.all_cons, ← ih]; cases mayB x <;> simp
theorem mayp_calls (A : Option Addr) (c : Nat) (xs : List SH) (w : World) (hn : xs.length ≤ 2000) (hr : Kd.C k56 w A xs.length xs) :
    Calls Tryd.prog 28 #[.slice A xs.length c] w fun e w' => e = .returned (.bool (xs.all mayB)) ∧ Below w.heap.size w w' := by
  have HC := Aside0.mk (cfn_calls 47 enters47 (fun h => !mayB h) may1_calls A c xs w (by omega) hr)
  clear hr
  rw [← all_any]
  generalize xs.any (fun h => !mayB h) = m at *
  go_enter Tryd.func28, Tryd.ntmps28
  go_wp2_with fail
  refine HC.out.mono ?_
  rintro e w1 ⟨rfl, h1⟩
  have H1 := Aside0.mk h1
  clear h1
  go_wp2
  go_ret
  exact ⟨rfl, H1.out⟩
end Go.Proofs.YtmcjfnebkpifnaaDoor
