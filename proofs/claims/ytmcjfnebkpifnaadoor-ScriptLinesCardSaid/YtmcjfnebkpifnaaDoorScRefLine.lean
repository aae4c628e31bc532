/- Printed texts of this seat, cut to what is used. -/
import Derived.Test.YtmcjfnebkpifnaaDoorScRef
namespace Go.Proofs.YtmcjfnebkpifnaaDoor
open Go.RowKit Go.Proofs.YtmcjfnebkpifnaaDoorW.PrintWords Go.Proofs.YtmcjfnebkpifnaaDoorW.PrintLast Go.Proofs.YtmcjfnebkpifnaaDoorW.PrintMore Go.Proofs.YtmcjfnebkpifnaaDoor.PScriptLines
set_option linter.unusedVariables false
set_option linter.unusedSimpArgs false
set_option maxRecDepth 100000

theorem hd_none : (⟨#[32, 110, 111, 110, 101]⟩ : ByteArray) = bsOf [32, 110, 111, 110, 101] := rfl

set_option maxHeartbeats 8000000 in
theorem rline1_calls (w : World) (n : Int) (s : ByteArray) (hs : s.size ≤ 500) (hn0 : 0 ≤ n) (hn1 : n ≤ 2147483647) :
    Calls Tryd.prog 27 #[.agg #[.int .u8 1, .int .i64 n, .string s]] w fun e w' => e = .returned (.string (bsOf (lineB ⟨1, n, s⟩))) ∧ Below w.heap.size w w' := by
  obtain ⟨w1, hw1⟩ : ∃ w1, w1 = w.alloc (.cells #[.int .u8 1, .int .i64 n, .string s] 56) := ⟨_, rfl⟩
  have hb1 : Below w.heap.size w w1 := by rw [hw1]; exact below_alloc (Below.refl _ _) _
  have hx1 : BoxH w1 w.heap.size ⟨1, n, s⟩ := by rw [hw1]; exact BoxH.new w ⟨1, n, s⟩
  have hbd : Below w1.heap.size w1 w1.drew := below_drew (Below.refl _ _)
  have HKI := Aside0.mk ((sashref25_Words.calls _ w1.drew rfl).mono fun e w' (h : ∃ v0_ : Value, e = .returned v0_ ∧ _ ∧ _) => (by
    obtain ⟨v, h1, h2, h3⟩ := h
    obtain ⟨A2, n2, c2, rfl⟩ := sl_of_R h2
    obtain ⟨e1, e2, ad, rfl, hc⟩ := kind_cell 0 (by decide) w' A2 n2 c2 (Kd.R_lower h2 (Nat.zero_le _))
    subst e1
    exact ⟨ad, c2, h1, hbd.trans h3, e2, hc, (hx1.below (hbd.trans h3)).cells⟩ : ∃ ad c2, e = .returned (.slice (some ad) 6 c2) ∧ Below w1.heap.size w1 w' ∧ 6 ≤ c2 ∧ w'.cell? ad = some (.string (bsOf (kindL.getD 0 []))) ∧ _ ∧ _ ∧ _))
  obtain ⟨a0, a1, a2⟩ := (hx1.below hbd).cells
  have HX := Aside0.mk hx1
  have HB := Aside0.mk hb1
  have HW := Aside0.mk hw1
  have hkl : (kindL.getD 0 []).length ≤ 6 := by decide
  have hdl := digL_len n
  have hql := quotedL_len s.data.toList
  have hsl : s.data.toList.length = s.size := by simp
  have HE : Aside0 (bsOf (kindL.getD 0 []) = bsOf (lineB ⟨1, n, s⟩)) := ⟨by
    simp only [lineB, kindW, hd_space, hd_none, bs_app]
    simp⟩
  have hwr : IntKind.u8.wrap 0 = 0 := by decide
  have HDG := Aside0.mk (fun (W : World) => Digits_ref n hn0 hn1 W)
  have HQT := Aside0.mk (fun (W : World) => Quote_ref s (by omega) W)
  generalize bsOf (lineB ⟨1, n, s⟩) = res at *
  generalize kindL.getD 0 [] = kl at *
  generalize digL n = dl at *
  generalize quotedL s.data.toList = ql at *
  clear hx1 hb1 hw1 hbd
  clear hkl hdl hql hsl
  go_enter Tryd.func27, Tryd.ntmps27
  go_upto_region 1 with fail
  rw [← HW.out]
  go_wp2
  refine start_ (n := 7) (S := fun w' => w'.cell? ⟨w.heap.size, 0, none⟩ = some (.int .u8 1)) (ds := [5]) #[false, false, false, false, false, false, false] (by kernel_rfl) rfl rfl (a0) (fun hHeld => ?_)
  refine pure_ (i := 1) (N := some 7) (v := ?_) (a' := ?_) #[false, true, false, false, false, false, false] rfl rfl (by kernel_rfl) (fun _ _ _ h => h) (Or.inl ⟨by rfl, ?_⟩) ?_ ?_
  rotate_left
  · intro w'
    go_simp
    with_reducible rfl
  rotate_left
  · simp only [Act.put, List.setIfInBounds_toArray, List.set_cons_zero, List.set_cons_succ, i64_w, i32_w]
    rfl
  refine take_ (i := 2) (N := some 8) (v := ?_) (a' := ?_) #[false, true, true, false, false, false, false] rfl rfl (by kernel_rfl) (fun _ _ _ h => h) (Or.inl ⟨by rfl, ?_⟩) hHeld ?_ ?_
  rotate_left
  · intro w' s0
    go_simp
    with_reducible rfl
  rotate_left
  · simp only [Act.put, List.setIfInBounds_toArray, List.set_cons_zero, List.set_cons_succ, i64_w, i32_w]
    rfl
  refine pure_ (i := 3) (N := some 9) (v := ?_) (a' := ?_) #[false, true, true, true, false, false, false] rfl rfl (by kernel_rfl) (fun _ _ _ h => h) (Or.inl ⟨by rfl, ?_⟩) ?_ ?_
  rotate_left
  · intro w'
    go_simp
    with_reducible rfl
  rotate_left
  · simp only [Act.put, List.setIfInBounds_toArray, List.set_cons_zero, List.set_cons_succ, i64_w, i32_w]
    rfl
  refine one_ (i := 0) (N := some 6) #[true, true, true, true, false, false, false] rfl rfl (by kernel_rfl) (by decide) (fun K hK => ?_)
  refine goes_ Tryd.func42 (by kernel_rfl) rfl #[] (by rfl) rfl rfl (by simp) ?_
  with_reducible refine (HKI.out).mono ?_
  rintro e w2 ⟨ad, c2, rfl, hb2, hc6, hcell, b0, b1, b2⟩
  refine ⟨_, rfl, ?_⟩
  refine hK.out _ _ (b0) (fun hHeld => ?_)
  clear hK K
  refine norm_ (a' := ?_) ?_ ?_
  rotate_left
  · show Act.put _ (some 6) _ = _
    simp only [Act.put, List.setIfInBounds_toArray, List.set_cons_zero, List.set_cons_succ, i64_w, i32_w]
    rfl
  refine pure_ (i := 4) (N := some 10) (v := ?_) (a' := ?_) #[true, true, true, true, true, false, false] rfl rfl (by kernel_rfl) (fun _ _ _ h => h) (Or.inl ⟨by rfl, ?_⟩) ?_ ?_
  rotate_left
  · intro w'
    go_simp
    with_reducible rfl
  rotate_left
  · simp only [Act.put, List.setIfInBounds_toArray, List.set_cons_zero, List.set_cons_succ, i64_w, i32_w]
    rfl
  refine last_ (i := 5) (N := some 11) #[true, true, true, true, true, true, false] rfl rfl (by kernel_rfl) (by decide) (fun K hK => ?_)
  refine value_ (w1 := ?_) (v := ?_) (by rfl) rfl ?_ ?_
  rotate_left 2
  · go_simp
    constructor
    · rfl
    · rfl
  refine hK.out _ _ ?_
  clear hK K
  refine norm_ (a' := ?_) ?_ ?_
  rotate_left
  · show Act.put _ (some 11) _ = _
    simp only [Act.put, List.setIfInBounds_toArray, List.set_cons_zero, List.set_cons_succ, i64_w, i32_w]
    rfl
  refine pure_ (i := 6) (N := some 3) (v := ?_) (a' := ?_) #[true, true, true, true, true, true, true] rfl rfl (by kernel_rfl) (fun _ _ _ h => h) (Or.inl ⟨by rfl, ?_⟩) ?_ ?_
  rotate_left
  · intro w'
    go_simp
    with_reducible rfl
  rotate_left
  · simp only [Act.put, List.setIfInBounds_toArray, List.set_cons_zero, List.set_cons_succ, i64_w, i32_w]
    rfl
  refine done_ (by kernel_rfl) ?_

  have HB2 : Aside0 (Below w.heap.size w w2) := ⟨HB.out.trans (hb2.mono HB.out.size)⟩
  have HX2 := Aside0.mk (HX.out.below hb2)
  clear hb2 HKI a0 a1 a2 hcell
  go_wp2
  go_ret
  exact ⟨by rw [← HE.out]; rfl, HB2.out⟩
set_option maxHeartbeats 8000000 in
theorem rline2_calls (w : World) (n : Int) (s : ByteArray) (hs : s.size ≤ 500) (hn0 : 0 ≤ n) (hn1 : n ≤ 2147483647) :
    Calls Tryd.prog 27 #[.agg #[.int .u8 2, .int .i64 n, .string s]] w fun e w' => e = .returned (.string (bsOf (lineB ⟨2, n, s⟩))) ∧ Below w.heap.size w w' := by
  obtain ⟨w1, hw1⟩ : ∃ w1, w1 = w.alloc (.cells #[.int .u8 2, .int .i64 n, .string s] 56) := ⟨_, rfl⟩
  have hb1 : Below w.heap.size w w1 := by rw [hw1]; exact below_alloc (Below.refl _ _) _
  have hx1 : BoxH w1 w.heap.size ⟨2, n, s⟩ := by rw [hw1]; exact BoxH.new w ⟨2, n, s⟩
  have hbd : Below w1.heap.size w1 w1.drew := below_drew (Below.refl _ _)
  have HKI := Aside0.mk ((sashref25_Words.calls _ w1.drew rfl).mono fun e w' (h : ∃ v0_ : Value, e = .returned v0_ ∧ _ ∧ _) => (by
    obtain ⟨v, h1, h2, h3⟩ := h
    obtain ⟨A2, n2, c2, rfl⟩ := sl_of_R h2
    obtain ⟨e1, e2, ad, rfl, hc⟩ := kind_cell 1 (by decide) w' A2 n2 c2 (Kd.R_lower h2 (Nat.zero_le _))
    subst e1
    exact ⟨ad, c2, h1, hbd.trans h3, e2, hc, (hx1.below (hbd.trans h3)).cells⟩ : ∃ ad c2, e = .returned (.slice (some ad) 6 c2) ∧ Below w1.heap.size w1 w' ∧ 6 ≤ c2 ∧ w'.cell? ⟨ad.block, ad.off + 1, none⟩ = some (.string (bsOf (kindL.getD 1 []))) ∧ _ ∧ _ ∧ _))
  obtain ⟨a0, a1, a2⟩ := (hx1.below hbd).cells
  have HX := Aside0.mk hx1
  have HB := Aside0.mk hb1
  have HW := Aside0.mk hw1
  have hkl : (kindL.getD 1 []).length ≤ 6 := by decide
  have hdl := digL_len n
  have hql := quotedL_len s.data.toList
  have hsl : s.data.toList.length = s.size := by simp
  have HE : Aside0 ((bsOf (kindL.getD 1 []) ++ (⟨#[32]⟩ : ByteArray)) ++ bsOf (digL n) = bsOf (lineB ⟨2, n, s⟩)) := ⟨by
    simp only [lineB, kindW, hd_space, hd_none, bs_app]
    simp⟩
  have hwr : IntKind.u8.wrap 1 = 1 := by decide
  have HDG := Aside0.mk (fun (W : World) => Digits_ref n hn0 hn1 W)
  have HQT := Aside0.mk (fun (W : World) => Quote_ref s (by omega) W)
  generalize bsOf (lineB ⟨2, n, s⟩) = res at *
  generalize kindL.getD 1 [] = kl at *
  generalize digL n = dl at *
  generalize quotedL s.data.toList = ql at *
  clear hx1 hb1 hw1 hbd
  have z0 : (9223372036854775807 < (bsOf kl).size + 1) = False := eq_false (by simp only [bs_size]; omega)
  have z1 : (9223372036854775807 < (bsOf kl).size + 1 + (bsOf dl).size) = False := eq_false (by simp only [bs_size]; omega)
  clear hkl hdl hql hsl
  go_enter Tryd.func27, Tryd.ntmps27
  go_upto_region 1 with fail
  rw [← HW.out]
  go_wp2
  refine start_ (n := 7) (S := fun w' => w'.cell? ⟨w.heap.size, 0, none⟩ = some (.int .u8 2)) (ds := [5]) #[false, false, false, false, false, false, false] (by kernel_rfl) rfl rfl (a0) (fun hHeld => ?_)
  refine pure_ (i := 1) (N := some 7) (v := ?_) (a' := ?_) #[false, true, false, false, false, false, false] rfl rfl (by kernel_rfl) (fun _ _ _ h => h) (Or.inl ⟨by rfl, ?_⟩) ?_ ?_
  rotate_left
  · intro w'
    go_simp
    with_reducible rfl
  rotate_left
  · simp only [Act.put, List.setIfInBounds_toArray, List.set_cons_zero, List.set_cons_succ, i64_w, i32_w]
    rfl
  refine take_ (i := 2) (N := some 8) (v := ?_) (a' := ?_) #[false, true, true, false, false, false, false] rfl rfl (by kernel_rfl) (fun _ _ _ h => h) (Or.inl ⟨by rfl, ?_⟩) hHeld ?_ ?_
  rotate_left
  · intro w' s0
    go_simp
    with_reducible rfl
  rotate_left
  · simp only [Act.put, List.setIfInBounds_toArray, List.set_cons_zero, List.set_cons_succ, i64_w, i32_w]
    rfl
  refine pure_ (i := 3) (N := some 9) (v := ?_) (a' := ?_) #[false, true, true, true, false, false, false] rfl rfl (by kernel_rfl) (fun _ _ _ h => h) (Or.inl ⟨by rfl, ?_⟩) ?_ ?_
  rotate_left
  · intro w'
    go_simp
    with_reducible rfl
  rotate_left
  · simp only [Act.put, List.setIfInBounds_toArray, List.set_cons_zero, List.set_cons_succ, i64_w, i32_w]
    rfl
  refine one_ (i := 0) (N := some 6) #[true, true, true, true, false, false, false] rfl rfl (by kernel_rfl) (by decide) (fun K hK => ?_)
  refine goes_ Tryd.func42 (by kernel_rfl) rfl #[] (by rfl) rfl rfl (by simp) ?_
  with_reducible refine (HKI.out).mono ?_
  rintro e w2 ⟨ad, c2, rfl, hb2, hc6, hcell, b0, b1, b2⟩
  refine ⟨_, rfl, ?_⟩
  refine hK.out _ _ (b0) (fun hHeld => ?_)
  clear hK K
  refine norm_ (a' := ?_) ?_ ?_
  rotate_left
  · show Act.put _ (some 6) _ = _
    simp only [Act.put, List.setIfInBounds_toArray, List.set_cons_zero, List.set_cons_succ, i64_w, i32_w]
    rfl
  refine pure_ (i := 4) (N := some 10) (v := ?_) (a' := ?_) #[true, true, true, true, true, false, false] rfl rfl (by kernel_rfl) (fun _ _ _ h => h) (Or.inl ⟨by rfl, ?_⟩) ?_ ?_
  rotate_left
  · intro w'
    go_simp
    with_reducible rfl
  rotate_left
  · simp only [Act.put, List.setIfInBounds_toArray, List.set_cons_zero, List.set_cons_succ, i64_w, i32_w]
    rfl
  refine last_ (i := 5) (N := some 11) #[true, true, true, true, true, true, false] rfl rfl (by kernel_rfl) (by decide) (fun K hK => ?_)
  refine value_ (w1 := ?_) (v := ?_) (by rfl) rfl ?_ ?_
  rotate_left 2
  · go_simp
    constructor
    · rfl
    · rfl
  refine hK.out _ _ ?_
  clear hK K
  refine norm_ (a' := ?_) ?_ ?_
  rotate_left
  · show Act.put _ (some 11) _ = _
    simp only [Act.put, List.setIfInBounds_toArray, List.set_cons_zero, List.set_cons_succ, i64_w, i32_w]
    rfl
  refine pure_ (i := 6) (N := some 3) (v := ?_) (a' := ?_) #[true, true, true, true, true, true, true] rfl rfl (by kernel_rfl) (fun _ _ _ h => h) (Or.inl ⟨by rfl, ?_⟩) ?_ ?_
  rotate_left
  · intro w'
    go_simp
    with_reducible rfl
  rotate_left
  · simp only [Act.put, List.setIfInBounds_toArray, List.set_cons_zero, List.set_cons_succ, i64_w, i32_w]
    rfl
  refine done_ (by kernel_rfl) ?_

  have HB2 : Aside0 (Below w.heap.size w w2) := ⟨HB.out.trans (hb2.mono HB.out.size)⟩
  have HX2 := Aside0.mk (HX.out.below hb2)
  clear hb2 HKI a0 a1 a2 hcell
  go_wp2_with fail
  with_reducible refine (HDG.out w2).mono ?_
  rintro e w3 ⟨rfl, hb⟩
  have HB3 := Aside0.mk (HB2.out.trans (hb.mono HB2.out.size))
  have HX3 := Aside0.mk (HX2.out.below hb)
  obtain ⟨d03, d13, d23⟩ := HX3.out.cells
  clear hb b0 b1 b2
  go_wp2
  go_ret
  exact ⟨by rw [← HE.out]; rfl, HB3.out⟩
set_option maxHeartbeats 8000000 in
theorem rline6_calls (w : World) (n : Int) (s : ByteArray) (hs : s.size ≤ 500) (hn0 : 0 ≤ n) (hn1 : n ≤ 2147483647) :
    Calls Tryd.prog 27 #[.agg #[.int .u8 6, .int .i64 n, .string s]] w fun e w' => e = .returned (.string (bsOf (lineB ⟨6, n, s⟩))) ∧ Below w.heap.size w w' := by
  obtain ⟨w1, hw1⟩ : ∃ w1, w1 = w.alloc (.cells #[.int .u8 6, .int .i64 n, .string s] 56) := ⟨_, rfl⟩
  have hb1 : Below w.heap.size w w1 := by rw [hw1]; exact below_alloc (Below.refl _ _) _
  have hx1 : BoxH w1 w.heap.size ⟨6, n, s⟩ := by rw [hw1]; exact BoxH.new w ⟨6, n, s⟩
  have hbd : Below w1.heap.size w1 w1.drew := below_drew (Below.refl _ _)
  have HKI := Aside0.mk ((sashref25_Words.calls _ w1.drew rfl).mono fun e w' (h : ∃ v0_ : Value, e = .returned v0_ ∧ _ ∧ _) => (by
    obtain ⟨v, h1, h2, h3⟩ := h
    obtain ⟨A2, n2, c2, rfl⟩ := sl_of_R h2
    obtain ⟨e1, e2, ad, rfl, hc⟩ := kind_cell 5 (by decide) w' A2 n2 c2 (Kd.R_lower h2 (Nat.zero_le _))
    subst e1
    exact ⟨ad, c2, h1, hbd.trans h3, e2, hc, (hx1.below (hbd.trans h3)).cells⟩ : ∃ ad c2, e = .returned (.slice (some ad) 6 c2) ∧ Below w1.heap.size w1 w' ∧ 6 ≤ c2 ∧ w'.cell? ⟨ad.block, ad.off + 5, none⟩ = some (.string (bsOf (kindL.getD 5 []))) ∧ _ ∧ _ ∧ _))
  obtain ⟨a0, a1, a2⟩ := (hx1.below hbd).cells
  have HX := Aside0.mk hx1
  have HB := Aside0.mk hb1
  have HW := Aside0.mk hw1
  have hkl : (kindL.getD 5 []).length ≤ 6 := by decide
  have hdl := digL_len n
  have hql := quotedL_len s.data.toList
  have hsl : s.data.toList.length = s.size := by simp
  have HE : Aside0 ((bsOf (kindL.getD 5 []) ++ (⟨#[32]⟩ : ByteArray)) ++ bsOf (digL n) = bsOf (lineB ⟨6, n, s⟩)) := ⟨by
    simp only [lineB, kindW, hd_space, hd_none, bs_app]
    simp⟩
  have hwr : IntKind.u8.wrap 5 = 5 := by decide
  have HDG := Aside0.mk (fun (W : World) => Digits_ref n hn0 hn1 W)
  have HQT := Aside0.mk (fun (W : World) => Quote_ref s (by omega) W)
  generalize bsOf (lineB ⟨6, n, s⟩) = res at *
  generalize kindL.getD 5 [] = kl at *
  generalize digL n = dl at *
  generalize quotedL s.data.toList = ql at *
  clear hx1 hb1 hw1 hbd
  have z0 : (9223372036854775807 < (bsOf kl).size + 1) = False := eq_false (by simp only [bs_size]; omega)
  have z1 : (9223372036854775807 < (bsOf kl).size + 1 + (bsOf dl).size) = False := eq_false (by simp only [bs_size]; omega)
  clear hkl hdl hql hsl
  go_enter Tryd.func27, Tryd.ntmps27
  go_upto_region 1 with fail
  rw [← HW.out]
  go_wp2
  refine start_ (n := 7) (S := fun w' => w'.cell? ⟨w.heap.size, 0, none⟩ = some (.int .u8 6)) (ds := [5]) #[false, false, false, false, false, false, false] (by kernel_rfl) rfl rfl (a0) (fun hHeld => ?_)
  refine pure_ (i := 1) (N := some 7) (v := ?_) (a' := ?_) #[false, true, false, false, false, false, false] rfl rfl (by kernel_rfl) (fun _ _ _ h => h) (Or.inl ⟨by rfl, ?_⟩) ?_ ?_
  rotate_left
  · intro w'
    go_simp
    with_reducible rfl
  rotate_left
  · simp only [Act.put, List.setIfInBounds_toArray, List.set_cons_zero, List.set_cons_succ, i64_w, i32_w]
    rfl
  refine take_ (i := 2) (N := some 8) (v := ?_) (a' := ?_) #[false, true, true, false, false, false, false] rfl rfl (by kernel_rfl) (fun _ _ _ h => h) (Or.inl ⟨by rfl, ?_⟩) hHeld ?_ ?_
  rotate_left
  · intro w' s0
    go_simp
    with_reducible rfl
  rotate_left
  · simp only [Act.put, List.setIfInBounds_toArray, List.set_cons_zero, List.set_cons_succ, i64_w, i32_w]
    rfl
  refine pure_ (i := 3) (N := some 9) (v := ?_) (a' := ?_) #[false, true, true, true, false, false, false] rfl rfl (by kernel_rfl) (fun _ _ _ h => h) (Or.inl ⟨by rfl, ?_⟩) ?_ ?_
  rotate_left
  · intro w'
    go_simp
    with_reducible rfl
  rotate_left
  · simp only [Act.put, List.setIfInBounds_toArray, List.set_cons_zero, List.set_cons_succ, i64_w, i32_w]
    rfl
  refine one_ (i := 0) (N := some 6) #[true, true, true, true, false, false, false] rfl rfl (by kernel_rfl) (by decide) (fun K hK => ?_)
  refine goes_ Tryd.func42 (by kernel_rfl) rfl #[] (by rfl) rfl rfl (by simp) ?_
  with_reducible refine (HKI.out).mono ?_
  rintro e w2 ⟨ad, c2, rfl, hb2, hc6, hcell, b0, b1, b2⟩
  refine ⟨_, rfl, ?_⟩
  refine hK.out _ _ (b0) (fun hHeld => ?_)
  clear hK K
  refine norm_ (a' := ?_) ?_ ?_
  rotate_left
  · show Act.put _ (some 6) _ = _
    simp only [Act.put, List.setIfInBounds_toArray, List.set_cons_zero, List.set_cons_succ, i64_w, i32_w]
    rfl
  refine pure_ (i := 4) (N := some 10) (v := ?_) (a' := ?_) #[true, true, true, true, true, false, false] rfl rfl (by kernel_rfl) (fun _ _ _ h => h) (Or.inl ⟨by rfl, ?_⟩) ?_ ?_
  rotate_left
  · intro w'
    go_simp
    with_reducible rfl
  rotate_left
  · simp only [Act.put, List.setIfInBounds_toArray, List.set_cons_zero, List.set_cons_succ, i64_w, i32_w]
    rfl
  refine last_ (i := 5) (N := some 11) #[true, true, true, true, true, true, false] rfl rfl (by kernel_rfl) (by decide) (fun K hK => ?_)
  refine value_ (w1 := ?_) (v := ?_) (by rfl) rfl ?_ ?_
  rotate_left 2
  · go_simp
    constructor
    · rfl
    · rfl
  refine hK.out _ _ ?_
  clear hK K
  refine norm_ (a' := ?_) ?_ ?_
  rotate_left
  · show Act.put _ (some 11) _ = _
    simp only [Act.put, List.setIfInBounds_toArray, List.set_cons_zero, List.set_cons_succ, i64_w, i32_w]
    rfl
  refine pure_ (i := 6) (N := some 3) (v := ?_) (a' := ?_) #[true, true, true, true, true, true, true] rfl rfl (by kernel_rfl) (fun _ _ _ h => h) (Or.inl ⟨by rfl, ?_⟩) ?_ ?_
  rotate_left
  · intro w'
    go_simp
    with_reducible rfl
  rotate_left
  · simp only [Act.put, List.setIfInBounds_toArray, List.set_cons_zero, List.set_cons_succ, i64_w, i32_w]
    rfl
  refine done_ (by kernel_rfl) ?_

  have HB2 : Aside0 (Below w.heap.size w w2) := ⟨HB.out.trans (hb2.mono HB.out.size)⟩
  have HX2 := Aside0.mk (HX.out.below hb2)
  clear hb2 HKI a0 a1 a2 hcell
  go_wp2_with fail
  with_reducible refine (HDG.out w2).mono ?_
  rintro e w3 ⟨rfl, hb⟩
  have HB3 := Aside0.mk (HB2.out.trans (hb.mono HB2.out.size))
  have HX3 := Aside0.mk (HX2.out.below hb)
  obtain ⟨d03, d13, d23⟩ := HX3.out.cells
  clear hb b0 b1 b2
  go_wp2
  go_ret
  exact ⟨by rw [← HE.out]; rfl, HB3.out⟩
set_option maxHeartbeats 8000000 in
theorem rline4_calls (w : World) (n : Int) (s : ByteArray) (hs : s.size ≤ 500) (hn0 : 0 ≤ n) (hn1 : n ≤ 2147483647) :
    Calls Tryd.prog 27 #[.agg #[.int .u8 4, .int .i64 n, .string s]] w fun e w' => e = .returned (.string (bsOf (lineB ⟨4, n, s⟩))) ∧ Below w.heap.size w w' := by
  obtain ⟨w1, hw1⟩ : ∃ w1, w1 = w.alloc (.cells #[.int .u8 4, .int .i64 n, .string s] 56) := ⟨_, rfl⟩
  have hb1 : Below w.heap.size w w1 := by rw [hw1]; exact below_alloc (Below.refl _ _) _
  have hx1 : BoxH w1 w.heap.size ⟨4, n, s⟩ := by rw [hw1]; exact BoxH.new w ⟨4, n, s⟩
  have hbd : Below w1.heap.size w1 w1.drew := below_drew (Below.refl _ _)
  have HKI := Aside0.mk ((sashref25_Words.calls _ w1.drew rfl).mono fun e w' (h : ∃ v0_ : Value, e = .returned v0_ ∧ _ ∧ _) => (by
    obtain ⟨v, h1, h2, h3⟩ := h
    obtain ⟨A2, n2, c2, rfl⟩ := sl_of_R h2
    obtain ⟨e1, e2, ad, rfl, hc⟩ := kind_cell 3 (by decide) w' A2 n2 c2 (Kd.R_lower h2 (Nat.zero_le _))
    subst e1
    exact ⟨ad, c2, h1, hbd.trans h3, e2, hc, (hx1.below (hbd.trans h3)).cells⟩ : ∃ ad c2, e = .returned (.slice (some ad) 6 c2) ∧ Below w1.heap.size w1 w' ∧ 6 ≤ c2 ∧ w'.cell? ⟨ad.block, ad.off + 3, none⟩ = some (.string (bsOf (kindL.getD 3 []))) ∧ _ ∧ _ ∧ _))
  obtain ⟨a0, a1, a2⟩ := (hx1.below hbd).cells
  have HX := Aside0.mk hx1
  have HB := Aside0.mk hb1
  have HW := Aside0.mk hw1
  have hkl : (kindL.getD 3 []).length ≤ 6 := by decide
  have hdl := digL_len n
  have hql := quotedL_len s.data.toList
  have hsl : s.data.toList.length = s.size := by simp
  have HE : Aside0 ((((bsOf (kindL.getD 3 []) ++ (⟨#[32]⟩ : ByteArray)) ++ bsOf (digL n)) ++ (⟨#[32]⟩ : ByteArray)) ++ bsOf (quotedL s.data.toList) = bsOf (lineB ⟨4, n, s⟩)) := ⟨by
    simp only [lineB, kindW, hd_space, hd_none, bs_app]
    simp⟩
  have hwr : IntKind.u8.wrap 3 = 3 := by decide
  have HDG := Aside0.mk (fun (W : World) => Digits_ref n hn0 hn1 W)
  have HQT := Aside0.mk (fun (W : World) => Quote_ref s (by omega) W)
  generalize bsOf (lineB ⟨4, n, s⟩) = res at *
  generalize kindL.getD 3 [] = kl at *
  generalize digL n = dl at *
  generalize quotedL s.data.toList = ql at *
  clear hx1 hb1 hw1 hbd
  have z0 : (9223372036854775807 < (bsOf kl).size + 1) = False := eq_false (by simp only [bs_size]; omega)
  have z1 : (9223372036854775807 < (bsOf kl).size + 1 + (bsOf dl).size) = False := eq_false (by simp only [bs_size]; omega)
  have z2 : (9223372036854775807 < (bsOf kl).size + 1 + (bsOf dl).size + 1) = False := eq_false (by simp only [bs_size]; omega)
  have z3 : (9223372036854775807 < (bsOf kl).size + 1 + (bsOf dl).size + 1 + (bsOf ql).size) = False := eq_false (by simp only [bs_size]; omega)
  clear hkl hdl hql hsl
  go_enter Tryd.func27, Tryd.ntmps27
  go_upto_region 1 with fail
  rw [← HW.out]
  go_wp2
  refine start_ (n := 7) (S := fun w' => w'.cell? ⟨w.heap.size, 0, none⟩ = some (.int .u8 4)) (ds := [5]) #[false, false, false, false, false, false, false] (by kernel_rfl) rfl rfl (a0) (fun hHeld => ?_)
  refine pure_ (i := 1) (N := some 7) (v := ?_) (a' := ?_) #[false, true, false, false, false, false, false] rfl rfl (by kernel_rfl) (fun _ _ _ h => h) (Or.inl ⟨by rfl, ?_⟩) ?_ ?_
  rotate_left
  · intro w'
    go_simp
    with_reducible rfl
  rotate_left
  · simp only [Act.put, List.setIfInBounds_toArray, List.set_cons_zero, List.set_cons_succ, i64_w, i32_w]
    rfl
  refine take_ (i := 2) (N := some 8) (v := ?_) (a' := ?_) #[false, true, true, false, false, false, false] rfl rfl (by kernel_rfl) (fun _ _ _ h => h) (Or.inl ⟨by rfl, ?_⟩) hHeld ?_ ?_
  rotate_left
  · intro w' s0
    go_simp
    with_reducible rfl
  rotate_left
  · simp only [Act.put, List.setIfInBounds_toArray, List.set_cons_zero, List.set_cons_succ, i64_w, i32_w]
    rfl
  refine pure_ (i := 3) (N := some 9) (v := ?_) (a' := ?_) #[false, true, true, true, false, false, false] rfl rfl (by kernel_rfl) (fun _ _ _ h => h) (Or.inl ⟨by rfl, ?_⟩) ?_ ?_
  rotate_left
  · intro w'
    go_simp
    with_reducible rfl
  rotate_left
  · simp only [Act.put, List.setIfInBounds_toArray, List.set_cons_zero, List.set_cons_succ, i64_w, i32_w]
    rfl
  refine one_ (i := 0) (N := some 6) #[true, true, true, true, false, false, false] rfl rfl (by kernel_rfl) (by decide) (fun K hK => ?_)
  refine goes_ Tryd.func42 (by kernel_rfl) rfl #[] (by rfl) rfl rfl (by simp) ?_
  with_reducible refine (HKI.out).mono ?_
  rintro e w2 ⟨ad, c2, rfl, hb2, hc6, hcell, b0, b1, b2⟩
  refine ⟨_, rfl, ?_⟩
  refine hK.out _ _ (b0) (fun hHeld => ?_)
  clear hK K
  refine norm_ (a' := ?_) ?_ ?_
  rotate_left
  · show Act.put _ (some 6) _ = _
    simp only [Act.put, List.setIfInBounds_toArray, List.set_cons_zero, List.set_cons_succ, i64_w, i32_w]
    rfl
  refine pure_ (i := 4) (N := some 10) (v := ?_) (a' := ?_) #[true, true, true, true, true, false, false] rfl rfl (by kernel_rfl) (fun _ _ _ h => h) (Or.inl ⟨by rfl, ?_⟩) ?_ ?_
  rotate_left
  · intro w'
    go_simp
    with_reducible rfl
  rotate_left
  · simp only [Act.put, List.setIfInBounds_toArray, List.set_cons_zero, List.set_cons_succ, i64_w, i32_w]
    rfl
  refine last_ (i := 5) (N := some 11) #[true, true, true, true, true, true, false] rfl rfl (by kernel_rfl) (by decide) (fun K hK => ?_)
  refine value_ (w1 := ?_) (v := ?_) (by rfl) rfl ?_ ?_
  rotate_left 2
  · go_simp
    constructor
    · rfl
    · rfl
  refine hK.out _ _ ?_
  clear hK K
  refine norm_ (a' := ?_) ?_ ?_
  rotate_left
  · show Act.put _ (some 11) _ = _
    simp only [Act.put, List.setIfInBounds_toArray, List.set_cons_zero, List.set_cons_succ, i64_w, i32_w]
    rfl
  refine pure_ (i := 6) (N := some 3) (v := ?_) (a' := ?_) #[true, true, true, true, true, true, true] rfl rfl (by kernel_rfl) (fun _ _ _ h => h) (Or.inl ⟨by rfl, ?_⟩) ?_ ?_
  rotate_left
  · intro w'
    go_simp
    with_reducible rfl
  rotate_left
  · simp only [Act.put, List.setIfInBounds_toArray, List.set_cons_zero, List.set_cons_succ, i64_w, i32_w]
    rfl
  refine done_ (by kernel_rfl) ?_

  have HB2 : Aside0 (Below w.heap.size w w2) := ⟨HB.out.trans (hb2.mono HB.out.size)⟩
  have HX2 := Aside0.mk (HX.out.below hb2)
  clear hb2 HKI a0 a1 a2 hcell
  go_wp2_with fail
  with_reducible refine (HDG.out w2).mono ?_
  rintro e w3 ⟨rfl, hb⟩
  have HB3 := Aside0.mk (HB2.out.trans (hb.mono HB2.out.size))
  have HX3 := Aside0.mk (HX2.out.below hb)
  obtain ⟨d03, d13, d23⟩ := HX3.out.cells
  clear hb b0 b1 b2
  go_wp2_with fail
  with_reducible refine (HQT.out w3).mono ?_
  rintro e w4 ⟨rfl, hb⟩
  have HB4 := Aside0.mk (HB3.out.trans (hb.mono HB3.out.size))
  have HX4 := Aside0.mk (HX3.out.below hb)
  obtain ⟨d04, d14, d24⟩ := HX4.out.cells
  clear hb d03 d13 d23
  go_wp2
  go_ret
  exact ⟨by rw [← HE.out]; rfl, HB4.out⟩
set_option maxHeartbeats 8000000 in
theorem rline5_calls (w : World) (n : Int) (s : ByteArray) (hs : s.size ≤ 500) (hn0 : 0 ≤ n) (hn1 : n ≤ 2147483647) :
    Calls Tryd.prog 27 #[.agg #[.int .u8 5, .int .i64 n, .string s]] w fun e w' => e = .returned (.string (bsOf (lineB ⟨5, n, s⟩))) ∧ Below w.heap.size w w' := by
  obtain ⟨w1, hw1⟩ : ∃ w1, w1 = w.alloc (.cells #[.int .u8 5, .int .i64 n, .string s] 56) := ⟨_, rfl⟩
  have hb1 : Below w.heap.size w w1 := by rw [hw1]; exact below_alloc (Below.refl _ _) _
  have hx1 : BoxH w1 w.heap.size ⟨5, n, s⟩ := by rw [hw1]; exact BoxH.new w ⟨5, n, s⟩
  have hbd : Below w1.heap.size w1 w1.drew := below_drew (Below.refl _ _)
  have HKI := Aside0.mk ((sashref25_Words.calls _ w1.drew rfl).mono fun e w' (h : ∃ v0_ : Value, e = .returned v0_ ∧ _ ∧ _) => (by
    obtain ⟨v, h1, h2, h3⟩ := h
    obtain ⟨A2, n2, c2, rfl⟩ := sl_of_R h2
    obtain ⟨e1, e2, ad, rfl, hc⟩ := kind_cell 4 (by decide) w' A2 n2 c2 (Kd.R_lower h2 (Nat.zero_le _))
    subst e1
    exact ⟨ad, c2, h1, hbd.trans h3, e2, hc, (hx1.below (hbd.trans h3)).cells⟩ : ∃ ad c2, e = .returned (.slice (some ad) 6 c2) ∧ Below w1.heap.size w1 w' ∧ 6 ≤ c2 ∧ w'.cell? ⟨ad.block, ad.off + 4, none⟩ = some (.string (bsOf (kindL.getD 4 []))) ∧ _ ∧ _ ∧ _))
  obtain ⟨a0, a1, a2⟩ := (hx1.below hbd).cells
  have HX := Aside0.mk hx1
  have HB := Aside0.mk hb1
  have HW := Aside0.mk hw1
  have hkl : (kindL.getD 4 []).length ≤ 6 := by decide
  have hdl := digL_len n
  have hql := quotedL_len s.data.toList
  have hsl : s.data.toList.length = s.size := by simp
  have HE : Aside0 ((((bsOf (kindL.getD 4 []) ++ (⟨#[32]⟩ : ByteArray)) ++ bsOf (digL n)) ++ (⟨#[32]⟩ : ByteArray)) ++ bsOf (quotedL s.data.toList) = bsOf (lineB ⟨5, n, s⟩)) := ⟨by
    simp only [lineB, kindW, hd_space, hd_none, bs_app]
    simp⟩
  have hwr : IntKind.u8.wrap 4 = 4 := by decide
  have HDG := Aside0.mk (fun (W : World) => Digits_ref n hn0 hn1 W)
  have HQT := Aside0.mk (fun (W : World) => Quote_ref s (by omega) W)
  generalize bsOf (lineB ⟨5, n, s⟩) = res at *
  generalize kindL.getD 4 [] = kl at *
  generalize digL n = dl at *
  generalize quotedL s.data.toList = ql at *
  clear hx1 hb1 hw1 hbd
  have z0 : (9223372036854775807 < (bsOf kl).size + 1) = False := eq_false (by simp only [bs_size]; omega)
  have z1 : (9223372036854775807 < (bsOf kl).size + 1 + (bsOf dl).size) = False := eq_false (by simp only [bs_size]; omega)
  have z2 : (9223372036854775807 < (bsOf kl).size + 1 + (bsOf dl).size + 1) = False := eq_false (by simp only [bs_size]; omega)
  have z3 : (9223372036854775807 < (bsOf kl).size + 1 + (bsOf dl).size + 1 + (bsOf ql).size) = False := eq_false (by simp only [bs_size]; omega)
  clear hkl hdl hql hsl
  go_enter Tryd.func27, Tryd.ntmps27
  go_upto_region 1 with fail
  rw [← HW.out]
  go_wp2
  refine start_ (n := 7) (S := fun w' => w'.cell? ⟨w.heap.size, 0, none⟩ = some (.int .u8 5)) (ds := [5]) #[false, false, false, false, false, false, false] (by kernel_rfl) rfl rfl (a0) (fun hHeld => ?_)
  refine pure_ (i := 1) (N := some 7) (v := ?_) (a' := ?_) #[false, true, false, false, false, false, false] rfl rfl (by kernel_rfl) (fun _ _ _ h => h) (Or.inl ⟨by rfl, ?_⟩) ?_ ?_
  rotate_left
  · intro w'
    go_simp
    with_reducible rfl
  rotate_left
  · simp only [Act.put, List.setIfInBounds_toArray, List.set_cons_zero, List.set_cons_succ, i64_w, i32_w]
    rfl
  refine take_ (i := 2) (N := some 8) (v := ?_) (a' := ?_) #[false, true, true, false, false, false, false] rfl rfl (by kernel_rfl) (fun _ _ _ h => h) (Or.inl ⟨by rfl, ?_⟩) hHeld ?_ ?_
  rotate_left
  · intro w' s0
    go_simp
    with_reducible rfl
  rotate_left
  · simp only [Act.put, List.setIfInBounds_toArray, List.set_cons_zero, List.set_cons_succ, i64_w, i32_w]
    rfl
  refine pure_ (i := 3) (N := some 9) (v := ?_) (a' := ?_) #[false, true, true, true, false, false, false] rfl rfl (by kernel_rfl) (fun _ _ _ h => h) (Or.inl ⟨by rfl, ?_⟩) ?_ ?_
  rotate_left
  · intro w'
    go_simp
    with_reducible rfl
  rotate_left
  · simp only [Act.put, List.setIfInBounds_toArray, List.set_cons_zero, List.set_cons_succ, i64_w, i32_w]
    rfl
  refine one_ (i := 0) (N := some 6) #[true, true, true, true, false, false, false] rfl rfl (by kernel_rfl) (by decide) (fun K hK => ?_)
  refine goes_ Tryd.func42 (by kernel_rfl) rfl #[] (by rfl) rfl rfl (by simp) ?_
  with_reducible refine (HKI.out).mono ?_
  rintro e w2 ⟨ad, c2, rfl, hb2, hc6, hcell, b0, b1, b2⟩
  refine ⟨_, rfl, ?_⟩
  refine hK.out _ _ (b0) (fun hHeld => ?_)
  clear hK K
  refine norm_ (a' := ?_) ?_ ?_
  rotate_left
  · show Act.put _ (some 6) _ = _
    simp only [Act.put, List.setIfInBounds_toArray, List.set_cons_zero, List.set_cons_succ, i64_w, i32_w]
    rfl
  refine pure_ (i := 4) (N := some 10) (v := ?_) (a' := ?_) #[true, true, true, true, true, false, false] rfl rfl (by kernel_rfl) (fun _ _ _ h => h) (Or.inl ⟨by rfl, ?_⟩) ?_ ?_
  rotate_left
  · intro w'
    go_simp
    with_reducible rfl
  rotate_left
  · simp only [Act.put, List.setIfInBounds_toArray, List.set_cons_zero, List.set_cons_succ, i64_w, i32_w]
    rfl
  refine last_ (i := 5) (N := some 11) #[true, true, true, true, true, true, false] rfl rfl (by kernel_rfl) (by decide) (fun K hK => ?_)
  refine value_ (w1 := ?_) (v := ?_) (by rfl) rfl ?_ ?_
  rotate_left 2
  · go_simp
    constructor
    · rfl
    · rfl
  refine hK.out _ _ ?_
  clear hK K
  refine norm_ (a' := ?_) ?_ ?_
  rotate_left
  · show Act.put _ (some 11) _ = _
    simp only [Act.put, List.setIfInBounds_toArray, List.set_cons_zero, List.set_cons_succ, i64_w, i32_w]
    rfl
  refine pure_ (i := 6) (N := some 3) (v := ?_) (a' := ?_) #[true, true, true, true, true, true, true] rfl rfl (by kernel_rfl) (fun _ _ _ h => h) (Or.inl ⟨by rfl, ?_⟩) ?_ ?_
  rotate_left
  · intro w'
    go_simp
    with_reducible rfl
  rotate_left
  · simp only [Act.put, List.setIfInBounds_toArray, List.set_cons_zero, List.set_cons_succ, i64_w, i32_w]
    rfl
  refine done_ (by kernel_rfl) ?_

  have HB2 : Aside0 (Below w.heap.size w w2) := ⟨HB.out.trans (hb2.mono HB.out.size)⟩
  have HX2 := Aside0.mk (HX.out.below hb2)
  clear hb2 HKI a0 a1 a2 hcell
  go_wp2_with fail
  with_reducible refine (HDG.out w2).mono ?_
  rintro e w3 ⟨rfl, hb⟩
  have HB3 := Aside0.mk (HB2.out.trans (hb.mono HB2.out.size))
  have HX3 := Aside0.mk (HX2.out.below hb)
  obtain ⟨d03, d13, d23⟩ := HX3.out.cells
  clear hb b0 b1 b2
  go_wp2_with fail
  with_reducible refine (HQT.out w3).mono ?_
  rintro e w4 ⟨rfl, hb⟩
  have HB4 := Aside0.mk (HB3.out.trans (hb.mono HB3.out.size))
  have HX4 := Aside0.mk (HX3.out.below hb)
  obtain ⟨d04, d14, d24⟩ := HX4.out.cells
  clear hb d03 d13 d23
  go_wp2
  go_ret
  exact ⟨by rw [← HE.out]; rfl, HB4.out⟩
set_option maxHeartbeats 8000000 in
theorem rline3e_calls (w : World) (n : Int) (s : ByteArray) (hs : s.size ≤ 500) (hn0 : 0 ≤ n) (hn1 : n ≤ 2147483647) (he : s.data.toList = []) :
    Calls Tryd.prog 27 #[.agg #[.int .u8 3, .int .i64 n, .string s]] w fun e w' => e = .returned (.string (bsOf (lineB ⟨3, n, s⟩))) ∧ Below w.heap.size w w' := by
  obtain ⟨w1, hw1⟩ : ∃ w1, w1 = w.alloc (.cells #[.int .u8 3, .int .i64 n, .string s] 56) := ⟨_, rfl⟩
  have hb1 : Below w.heap.size w w1 := by rw [hw1]; exact below_alloc (Below.refl _ _) _
  have hx1 : BoxH w1 w.heap.size ⟨3, n, s⟩ := by rw [hw1]; exact BoxH.new w ⟨3, n, s⟩
  have hbd : Below w1.heap.size w1 w1.drew := below_drew (Below.refl _ _)
  have HKI := Aside0.mk ((sashref25_Words.calls _ w1.drew rfl).mono fun e w' (h : ∃ v0_ : Value, e = .returned v0_ ∧ _ ∧ _) => (by
    obtain ⟨v, h1, h2, h3⟩ := h
    obtain ⟨A2, n2, c2, rfl⟩ := sl_of_R h2
    obtain ⟨e1, e2, ad, rfl, hc⟩ := kind_cell 2 (by decide) w' A2 n2 c2 (Kd.R_lower h2 (Nat.zero_le _))
    subst e1
    exact ⟨ad, c2, h1, hbd.trans h3, e2, hc, (hx1.below (hbd.trans h3)).cells⟩ : ∃ ad c2, e = .returned (.slice (some ad) 6 c2) ∧ Below w1.heap.size w1 w' ∧ 6 ≤ c2 ∧ w'.cell? ⟨ad.block, ad.off + 2, none⟩ = some (.string (bsOf (kindL.getD 2 []))) ∧ _ ∧ _ ∧ _))
  obtain ⟨a0, a1, a2⟩ := (hx1.below hbd).cells
  have HX := Aside0.mk hx1
  have HB := Aside0.mk hb1
  have HW := Aside0.mk hw1
  have hkl : (kindL.getD 2 []).length ≤ 6 := by decide
  have hdl := digL_len n
  have hql := quotedL_len s.data.toList
  have hsl : s.data.toList.length = s.size := by simp
  have HE : Aside0 (((bsOf (kindL.getD 2 []) ++ (⟨#[32]⟩ : ByteArray)) ++ bsOf (digL n)) ++ (⟨#[32, 110, 111, 110, 101]⟩ : ByteArray) = bsOf (lineB ⟨3, n, s⟩)) := ⟨by
    have hh : (if (⟨3, n, s⟩ : SH).f0 = 3 then ([32] : List UInt8) ++ hexL s.data.toList else if (⟨3, n, s⟩ : SH).f0 = 4 ∨ (⟨3, n, s⟩ : SH).f0 = 5 then [32] ++ quotedL s.data.toList else []) = [32] ++ hexL s.data.toList := rfl
    unfold lineB
    rw [hh]
    rw [he, show hexL [] = [110, 111, 110, 101] from rfl]
    simp only [kindW, hd_space, hd_none, bs_app]
    simp⟩
  have hwr : IntKind.u8.wrap 2 = 2 := by decide
  have HDG := Aside0.mk (fun (W : World) => Digits_ref n hn0 hn1 W)
  have HQT := Aside0.mk (fun (W : World) => Quote_ref s (by omega) W)
  generalize bsOf (lineB ⟨3, n, s⟩) = res at *
  generalize kindL.getD 2 [] = kl at *
  generalize digL n = dl at *
  generalize quotedL s.data.toList = ql at *
  clear hx1 hb1 hw1 hbd
  have e2 : (s.toList == ([] : List UInt8)) = true := by rw [ByteArray.toList_eq, he]; rfl
  clear he
  have z0 : (9223372036854775807 < (bsOf kl).size + 1) = False := eq_false (by simp only [bs_size]; omega)
  have z1 : (9223372036854775807 < (bsOf kl).size + 1 + (bsOf dl).size) = False := eq_false (by simp only [bs_size]; omega)
  have z2 : (9223372036854775807 < (bsOf kl).size + 1 + (bsOf dl).size + 5) = False := eq_false (by simp only [bs_size]; omega)
  clear hkl hdl hql hsl
  go_enter Tryd.func27, Tryd.ntmps27
  go_upto_region 1 with fail
  rw [← HW.out]
  go_wp2
  refine start_ (n := 7) (S := fun w' => w'.cell? ⟨w.heap.size, 0, none⟩ = some (.int .u8 3)) (ds := [5]) #[false, false, false, false, false, false, false] (by kernel_rfl) rfl rfl (a0) (fun hHeld => ?_)
  refine pure_ (i := 1) (N := some 7) (v := ?_) (a' := ?_) #[false, true, false, false, false, false, false] rfl rfl (by kernel_rfl) (fun _ _ _ h => h) (Or.inl ⟨by rfl, ?_⟩) ?_ ?_
  rotate_left
  · intro w'
    go_simp
    with_reducible rfl
  rotate_left
  · simp only [Act.put, List.setIfInBounds_toArray, List.set_cons_zero, List.set_cons_succ, i64_w, i32_w]
    rfl
  refine take_ (i := 2) (N := some 8) (v := ?_) (a' := ?_) #[false, true, true, false, false, false, false] rfl rfl (by kernel_rfl) (fun _ _ _ h => h) (Or.inl ⟨by rfl, ?_⟩) hHeld ?_ ?_
  rotate_left
  · intro w' s0
    go_simp
    with_reducible rfl
  rotate_left
  · simp only [Act.put, List.setIfInBounds_toArray, List.set_cons_zero, List.set_cons_succ, i64_w, i32_w]
    rfl
  refine pure_ (i := 3) (N := some 9) (v := ?_) (a' := ?_) #[false, true, true, true, false, false, false] rfl rfl (by kernel_rfl) (fun _ _ _ h => h) (Or.inl ⟨by rfl, ?_⟩) ?_ ?_
  rotate_left
  · intro w'
    go_simp
    with_reducible rfl
  rotate_left
  · simp only [Act.put, List.setIfInBounds_toArray, List.set_cons_zero, List.set_cons_succ, i64_w, i32_w]
    rfl
  refine one_ (i := 0) (N := some 6) #[true, true, true, true, false, false, false] rfl rfl (by kernel_rfl) (by decide) (fun K hK => ?_)
  refine goes_ Tryd.func42 (by kernel_rfl) rfl #[] (by rfl) rfl rfl (by simp) ?_
  with_reducible refine (HKI.out).mono ?_
  rintro e w2 ⟨ad, c2, rfl, hb2, hc6, hcell, b0, b1, b2⟩
  refine ⟨_, rfl, ?_⟩
  refine hK.out _ _ (b0) (fun hHeld => ?_)
  clear hK K
  refine norm_ (a' := ?_) ?_ ?_
  rotate_left
  · show Act.put _ (some 6) _ = _
    simp only [Act.put, List.setIfInBounds_toArray, List.set_cons_zero, List.set_cons_succ, i64_w, i32_w]
    rfl
  refine pure_ (i := 4) (N := some 10) (v := ?_) (a' := ?_) #[true, true, true, true, true, false, false] rfl rfl (by kernel_rfl) (fun _ _ _ h => h) (Or.inl ⟨by rfl, ?_⟩) ?_ ?_
  rotate_left
  · intro w'
    go_simp
    with_reducible rfl
  rotate_left
  · simp only [Act.put, List.setIfInBounds_toArray, List.set_cons_zero, List.set_cons_succ, i64_w, i32_w]
    rfl
  refine last_ (i := 5) (N := some 11) #[true, true, true, true, true, true, false] rfl rfl (by kernel_rfl) (by decide) (fun K hK => ?_)
  refine value_ (w1 := ?_) (v := ?_) (by rfl) rfl ?_ ?_
  rotate_left 2
  · go_simp
    constructor
    · rfl
    · rfl
  refine hK.out _ _ ?_
  clear hK K
  refine norm_ (a' := ?_) ?_ ?_
  rotate_left
  · show Act.put _ (some 11) _ = _
    simp only [Act.put, List.setIfInBounds_toArray, List.set_cons_zero, List.set_cons_succ, i64_w, i32_w]
    rfl
  refine pure_ (i := 6) (N := some 3) (v := ?_) (a' := ?_) #[true, true, true, true, true, true, true] rfl rfl (by kernel_rfl) (fun _ _ _ h => h) (Or.inl ⟨by rfl, ?_⟩) ?_ ?_
  rotate_left
  · intro w'
    go_simp
    with_reducible rfl
  rotate_left
  · simp only [Act.put, List.setIfInBounds_toArray, List.set_cons_zero, List.set_cons_succ, i64_w, i32_w]
    rfl
  refine done_ (by kernel_rfl) ?_

  have HB2 : Aside0 (Below w.heap.size w w2) := ⟨HB.out.trans (hb2.mono HB.out.size)⟩
  have HX2 := Aside0.mk (HX.out.below hb2)
  clear hb2 HKI a0 a1 a2 hcell
  go_wp2_with fail
  with_reducible refine (HDG.out w2).mono ?_
  rintro e w3 ⟨rfl, hb⟩
  have HB3 := Aside0.mk (HB2.out.trans (hb.mono HB2.out.size))
  have HX3 := Aside0.mk (HX2.out.below hb)
  obtain ⟨d03, d13, d23⟩ := HX3.out.cells
  clear hb b0 b1 b2
  go_wp2
  go_ret
  exact ⟨by rw [← HE.out]; rfl, HB3.out⟩
set_option maxHeartbeats 8000000 in
theorem rline3n_calls (w : World) (n : Int) (s : ByteArray) (hs : s.size ≤ 500) (hn0 : 0 ≤ n) (hn1 : n ≤ 2147483647) (he : s.data.toList ≠ []) :
    Calls Tryd.prog 27 #[.agg #[.int .u8 3, .int .i64 n, .string s]] w fun e w' => e = .returned (.string (bsOf (lineB ⟨3, n, s⟩))) ∧ Below w.heap.size w w' := by
  obtain ⟨w1, hw1⟩ : ∃ w1, w1 = w.alloc (.cells #[.int .u8 3, .int .i64 n, .string s] 56) := ⟨_, rfl⟩
  have hb1 : Below w.heap.size w w1 := by rw [hw1]; exact below_alloc (Below.refl _ _) _
  have hx1 : BoxH w1 w.heap.size ⟨3, n, s⟩ := by rw [hw1]; exact BoxH.new w ⟨3, n, s⟩
  have hbd : Below w1.heap.size w1 w1.drew := below_drew (Below.refl _ _)
  have HKI := Aside0.mk ((sashref25_Words.calls _ w1.drew rfl).mono fun e w' (h : ∃ v0_ : Value, e = .returned v0_ ∧ _ ∧ _) => (by
    obtain ⟨v, h1, h2, h3⟩ := h
    obtain ⟨A2, n2, c2, rfl⟩ := sl_of_R h2
    obtain ⟨e1, e2, ad, rfl, hc⟩ := kind_cell 2 (by decide) w' A2 n2 c2 (Kd.R_lower h2 (Nat.zero_le _))
    subst e1
    exact ⟨ad, c2, h1, hbd.trans h3, e2, hc, (hx1.below (hbd.trans h3)).cells⟩ : ∃ ad c2, e = .returned (.slice (some ad) 6 c2) ∧ Below w1.heap.size w1 w' ∧ 6 ≤ c2 ∧ w'.cell? ⟨ad.block, ad.off + 2, none⟩ = some (.string (bsOf (kindL.getD 2 []))) ∧ _ ∧ _ ∧ _))
  obtain ⟨a0, a1, a2⟩ := (hx1.below hbd).cells
  have HX := Aside0.mk hx1
  have HB := Aside0.mk hb1
  have HW := Aside0.mk hw1
  have hkl : (kindL.getD 2 []).length ≤ 6 := by decide
  have hdl := digL_len n
  have hql := quotedL_len s.data.toList
  have hsl : s.data.toList.length = s.size := by simp
  have HE : Aside0 ((((bsOf (kindL.getD 2 []) ++ (⟨#[32]⟩ : ByteArray)) ++ bsOf (digL n)) ++ (⟨#[32]⟩ : ByteArray)) ++ bsOf (s.data.toList.flatMap hex2) = bsOf (lineB ⟨3, n, s⟩)) := ⟨by
    have hh : (if (⟨3, n, s⟩ : SH).f0 = 3 then ([32] : List UInt8) ++ hexL s.data.toList else if (⟨3, n, s⟩ : SH).f0 = 4 ∨ (⟨3, n, s⟩ : SH).f0 = 5 then [32] ++ quotedL s.data.toList else []) = [32] ++ hexL s.data.toList := rfl
    unfold lineB
    rw [hh]
    rw [show hexL s.data.toList = s.data.toList.flatMap hex2 from if_neg he]
    simp only [kindW, hd_space, hd_none, bs_app]
    simp⟩
  have hwr : IntKind.u8.wrap 2 = 2 := by decide
  have HDG := Aside0.mk (fun (W : World) => Digits_ref n hn0 hn1 W)
  have HQT := Aside0.mk (fun (W : World) => Quote_ref s (by omega) W)
  generalize bsOf (lineB ⟨3, n, s⟩) = res at *
  generalize kindL.getD 2 [] = kl at *
  generalize digL n = dl at *
  generalize quotedL s.data.toList = ql at *
  clear hx1 hb1 hw1 hbd
  have e2 : (s.toList == ([] : List UInt8)) = false := by
    rw [ByteArray.toList_eq]
    cases hq : s.data.toList with
    | nil => exact absurd hq he
    | cons x l => rfl
  clear he
  have z0 : (9223372036854775807 < (bsOf kl).size + 1) = False := eq_false (by simp only [bs_size]; omega)
  have z1 : (9223372036854775807 < (bsOf kl).size + 1 + (bsOf dl).size) = False := eq_false (by simp only [bs_size]; omega)
  have z2 : (9223372036854775807 < (bsOf kl).size + 1 + (bsOf dl).size + 1) = False := eq_false (by simp only [bs_size]; omega)
  obtain ⟨pre, hpre⟩ : ∃ pre : List UInt8, pre = kl ++ ([32] ++ dl) ++ [32] := ⟨_, rfl⟩
  have HPR : Aside0 (((bsOf kl ++ (⟨#[32]⟩ : ByteArray)) ++ bsOf dl) ++ (⟨#[32]⟩ : ByteArray) = bsOf pre) := ⟨by simp only [hpre, hd_space, bs_app]; simp⟩
  have hprl : pre.length ≤ 100 := by rw [hpre]; simp; omega
  have HSL := Aside0.mk hsl
  clear hpre
  clear hkl hdl hql hsl
  go_enter Tryd.func27, Tryd.ntmps27
  go_upto_region 1 with fail
  rw [← HW.out]
  go_wp2
  refine start_ (n := 7) (S := fun w' => w'.cell? ⟨w.heap.size, 0, none⟩ = some (.int .u8 3)) (ds := [5]) #[false, false, false, false, false, false, false] (by kernel_rfl) rfl rfl (a0) (fun hHeld => ?_)
  refine pure_ (i := 1) (N := some 7) (v := ?_) (a' := ?_) #[false, true, false, false, false, false, false] rfl rfl (by kernel_rfl) (fun _ _ _ h => h) (Or.inl ⟨by rfl, ?_⟩) ?_ ?_
  rotate_left
  · intro w'
    go_simp
    with_reducible rfl
  rotate_left
  · simp only [Act.put, List.setIfInBounds_toArray, List.set_cons_zero, List.set_cons_succ, i64_w, i32_w]
    rfl
  refine take_ (i := 2) (N := some 8) (v := ?_) (a' := ?_) #[false, true, true, false, false, false, false] rfl rfl (by kernel_rfl) (fun _ _ _ h => h) (Or.inl ⟨by rfl, ?_⟩) hHeld ?_ ?_
  rotate_left
  · intro w' s0
    go_simp
    with_reducible rfl
  rotate_left
  · simp only [Act.put, List.setIfInBounds_toArray, List.set_cons_zero, List.set_cons_succ, i64_w, i32_w]
    rfl
  refine pure_ (i := 3) (N := some 9) (v := ?_) (a' := ?_) #[false, true, true, true, false, false, false] rfl rfl (by kernel_rfl) (fun _ _ _ h => h) (Or.inl ⟨by rfl, ?_⟩) ?_ ?_
  rotate_left
  · intro w'
    go_simp
    with_reducible rfl
  rotate_left
  · simp only [Act.put, List.setIfInBounds_toArray, List.set_cons_zero, List.set_cons_succ, i64_w, i32_w]
    rfl
  refine one_ (i := 0) (N := some 6) #[true, true, true, true, false, false, false] rfl rfl (by kernel_rfl) (by decide) (fun K hK => ?_)
  refine goes_ Tryd.func42 (by kernel_rfl) rfl #[] (by rfl) rfl rfl (by simp) ?_
  with_reducible refine (HKI.out).mono ?_
  rintro e w2 ⟨ad, c2, rfl, hb2, hc6, hcell, b0, b1, b2⟩
  refine ⟨_, rfl, ?_⟩
  refine hK.out _ _ (b0) (fun hHeld => ?_)
  clear hK K
  refine norm_ (a' := ?_) ?_ ?_
  rotate_left
  · show Act.put _ (some 6) _ = _
    simp only [Act.put, List.setIfInBounds_toArray, List.set_cons_zero, List.set_cons_succ, i64_w, i32_w]
    rfl
  refine pure_ (i := 4) (N := some 10) (v := ?_) (a' := ?_) #[true, true, true, true, true, false, false] rfl rfl (by kernel_rfl) (fun _ _ _ h => h) (Or.inl ⟨by rfl, ?_⟩) ?_ ?_
  rotate_left
  · intro w'
    go_simp
    with_reducible rfl
  rotate_left
  · simp only [Act.put, List.setIfInBounds_toArray, List.set_cons_zero, List.set_cons_succ, i64_w, i32_w]
    rfl
  refine last_ (i := 5) (N := some 11) #[true, true, true, true, true, true, false] rfl rfl (by kernel_rfl) (by decide) (fun K hK => ?_)
  refine value_ (w1 := ?_) (v := ?_) (by rfl) rfl ?_ ?_
  rotate_left 2
  · go_simp
    constructor
    · rfl
    · rfl
  refine hK.out _ _ ?_
  clear hK K
  refine norm_ (a' := ?_) ?_ ?_
  rotate_left
  · show Act.put _ (some 11) _ = _
    simp only [Act.put, List.setIfInBounds_toArray, List.set_cons_zero, List.set_cons_succ, i64_w, i32_w]
    rfl
  refine pure_ (i := 6) (N := some 3) (v := ?_) (a' := ?_) #[true, true, true, true, true, true, true] rfl rfl (by kernel_rfl) (fun _ _ _ h => h) (Or.inl ⟨by rfl, ?_⟩) ?_ ?_
  rotate_left
  · intro w'
    go_simp
    with_reducible rfl
  rotate_left
  · simp only [Act.put, List.setIfInBounds_toArray, List.set_cons_zero, List.set_cons_succ, i64_w, i32_w]
    rfl
  refine done_ (by kernel_rfl) ?_

  have HB2 : Aside0 (Below w.heap.size w w2) := ⟨HB.out.trans (hb2.mono HB.out.size)⟩
  have HX2 := Aside0.mk (HX.out.below hb2)
  clear hb2 HKI a0 a1 a2 hcell
  go_wp2_with fail
  with_reducible refine (HDG.out w2).mono ?_
  rintro e w3 ⟨rfl, hb⟩
  have HB3 := Aside0.mk (HB2.out.trans (hb.mono HB2.out.size))
  have HX3 := Aside0.mk (HX2.out.below hb)
  obtain ⟨d03, d13, d23⟩ := HX3.out.cells
  clear hb b0 b1 b2
  go_wp2
  go_loopw [3, 4, 5] (fun v i _ wr => ∃ j : Nat, j ≤ s.size ∧ v = .string (bsOf (pre ++ (s.data.toList.take j).flatMap hex2)) ∧ i = .int .i64 j ∧ Aside0 (Below w3.heap.size w3 wr)) (fun _ i _ _ => s.size - (intOf i).toNat)
  case atStart => exact ⟨0, by omega, by rw [HPR.out]; simp, rfl, ⟨Below.refl _ _⟩⟩
  case round =>
    obtain ⟨j, hj, rfl, rfl, HR⟩ := hrel
    have hXr := HX3.out.below HR.out
    obtain ⟨f0, f1, f2⟩ := hXr.cells
    have HXR := Aside0.mk hXr
    clear hXr
    by_cases hlt : j < s.size
    · have hjl : j < s.data.toList.length := by have := HSL.out; omega
      have HTK := Aside0.mk (hexF_take s.data.toList j hjl)
      have hfl := hexF_len (s.data.toList.take j)
      have htl : (s.data.toList.take j).length ≤ 500 := by rw [List.length_take]; omega
      generalize hxx : pre ++ (s.data.toList.take j).flatMap hex2 = xx at *
      have hxl : xx.length ≤ 2000 := by rw [← hxx, List.length_append]; omega
      obtain ⟨b, hb⟩ : ∃ b, b = s.data.toList[j] := ⟨_, rfl⟩
      rw [← hb] at HTK
      have hb2 : s[j] = b := by rw [hb]; rfl
      have hbr : b.toNat < 256 := b.toNat_lt
      have HDA : Aside0 (∀ W : World, Calls Tryd.prog 44 #[.int .i64 ((b.toNat : Int) / 16)] W fun e w' => e = .returned (.string (hexA b)) ∧ Below W.heap.size W w') := ⟨fun W => (Digit_ref b W).1⟩
      have HDB : Aside0 (∀ W : World, Calls Tryd.prog 44 #[.int .i64 ((b.toNat : Int) % 16)] W fun e w' => e = .returned (.string (hexB b)) ∧ Below W.heap.size W w') := ⟨fun W => (Digit_ref b W).2⟩
      have HXX : Aside0 (bsOf xx ++ hexA b ++ hexB b = bsOf (pre ++ (s.data.toList.take (j + 1)).flatMap hex2)) := ⟨by rw [ByteArray.append_assoc, hexAB, bs_app, HTK.out, ← hxx, List.append_assoc]⟩
      have y0 : (9223372036854775807 < (bsOf xx).size + (hexA b).size) = False := eq_false (by rw [bs_size, hexA, bs_size]; simp; omega)
      have y1 : (9223372036854775807 < (bsOf xx).size + (hexA b).size + (hexB b).size) = False := eq_false (by rw [bs_size, hexA, hexB, bs_size, bs_size]; simp; omega)
      clear hb hfl htl hxl hxx
      generalize hexA b = da at *
      generalize hexB b = db at *
      go_wp2_with fail
      with_reducible refine (HDA.out _).mono ?_
      rintro e wa ⟨rfl, ha⟩
      have HA := Aside0.mk ha
      clear ha
      go_wp2_with fail
      with_reducible refine (HDB.out _).mono ?_
      rintro e wb ⟨rfl, hb⟩
      have HBB : Aside0 (Below w3.heap.size w3 wb) := ⟨HR.out.trans ((HA.out.trans (hb.mono HA.out.size)).mono HR.out.size)⟩
      clear hb f0 f1 f2
      go_wp2
      go_roundw
      case rel => exact ⟨j + 1, by omega, by rw [HXX.out], by go_num, HBB⟩
      case measure => simp [intOf]; omega
    · have hjn : j = s.size := by omega
      have HF : Aside0 (bsOf (pre ++ (s.data.toList.take j).flatMap hex2) = res) := ⟨by
        rw [List.take_of_length_le (by have := HSL.out; omega), ← HE.out, HPR.out, bs_app]⟩
      generalize bsOf (pre ++ (s.data.toList.take j).flatMap hex2) = xx at *
      go_wp2
      go_ret
      exact ⟨by rw [← HF.out]; rfl, HB3.out.trans (HR.out.mono HB3.out.size)⟩
end Go.Proofs.YtmcjfnebkpifnaaDoor
