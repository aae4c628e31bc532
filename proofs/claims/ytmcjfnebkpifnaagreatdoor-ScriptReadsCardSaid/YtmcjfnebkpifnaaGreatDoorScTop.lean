/-
  Joined texts: ScLine, ScTop.
-/
import Derived.Test.YtmcjfnebkpifnaaGreatDoorScHex
import Derived.Test.YtmcjfnebkpifnaaGreatDoorPScriptReadsx2
import Derived.Test.YtmcjfnebkpifnaaGreatDoorWqWalkS
import Derived.Deep.RegionHeld3
/-
  script.line, script.Line: what they return; the statements' example.
-/
namespace Go.Proofs.YtmcjfnebkpifnaaGreatDoor
open Go.RowKit Go.Proofs.YtmcjfnebkpifnaaGreatDoorW.PrintWords Go.Proofs.YtmcjfnebkpifnaaGreatDoorW.PrintLast Go.Proofs.YtmcjfnebkpifnaaGreatDoorW.PrintMore Go.Proofs.YtmcjfnebkpifnaaGreatDoor.PScriptReads
set_option linter.unusedVariables false
set_option linter.unusedSimpArgs false
set_option maxRecDepth 100000

def BoxH (w : World) (b : Nat) (h : SH) : Prop := w.heap[b]? = some (.cells #[.int .u8 h.f0, .int .i64 h.f1, .string h.f2] 43 (0, 0))
theorem BoxH.new (w : World) (h : SH) : BoxH (w.alloc (.cells #[.int .u8 h.f0, .int .i64 h.f1, .string h.f2] 43)) w.heap.size h := heap_alloc_new w _
theorem BoxH.below {w w' : World} {b : Nat} {h : SH} (k : BoxH w b h) (hb : Below w.heap.size w w') : BoxH w' b h := (hb.block b (blk_lt k)).trans k
theorem BoxH.cells {w : World} {b : Nat} {h : SH} (k : BoxH w b h) : w.cell? ⟨b, 0, none⟩ = some (.int .u8 h.f0) ∧ w.cell? ⟨b, 1, none⟩ = some (.int .i64 h.f1) ∧ w.cell? ⟨b, 2, none⟩ = some (.string h.f2) :=
  ⟨(blk_cell k 0).trans rfl, (blk_cell k 1).trans rfl, (blk_cell k 2).trans rfl⟩
theorem joinS1 (a : ByteArray) : joinS [a] = a := bs_ext (by simp [joinS, Lib.join, Lib.joinTail])
theorem kind_cell (i : Nat) (hi : i < 6) (w : World) (A : Option Addr) (n c : Nat) (h : Kd.string.R 9 w 0 (fun _ => True) (.slice A n c) ([(⟨#[97, 116, 116, 97, 99, 104]⟩ : ByteArray), (⟨#[100, 101, 116, 97, 99, 104]⟩ : ByteArray), (⟨#[100, 97, 116, 97]⟩ : ByteArray), (⟨#[108, 105, 110, 101]⟩ : ByteArray), (⟨#[105, 110, 112, 117, 116]⟩ : ByteArray), (⟨#[101, 120, 105, 116]⟩ : ByteArray)] : List ByteArray)) :
    n = 6 ∧ 6 ≤ c ∧ ∃ ad, A = some ad ∧ w.cell? (ad.add i) = some (.string (bsOf (kindL.getD i []))) := by
  obtain ⟨h1, h2, h3⟩ := Kd.R_reads' h
  obtain ⟨ad, hA, hc⟩ := str_cell h3 i hi
  refine ⟨h1, by rw [h1] at h2; exact h2, ad, hA, ?_⟩
  rw [hc]
  match i, hi with
  | 0, _ => rfl
  | 1, _ => rfl
  | 2, _ => rfl
  | 3, _ => rfl
  | 4, _ => rfl
  | 5, _ => rfl
theorem quote_one (w : World) (s : ByteArray) (hs : s.size ≤ 50000) :
    Calls Tryz.prog 37 #[.slice (some ⟨w.heap.size, 0, none⟩) 1 1] (w.alloc (.cells #[.string s] 9)) fun e w' => e = .returned (.string (bsOf (quotedL s.data.toList))) ∧ Below w.heap.size w w' := by
  have h := quote_calls (w.alloc (.cells #[.string s] 9)) (some ⟨w.heap.size, 0, none⟩) 1 1 [s] (nlitC w 9 [s] (by simp)) (by decide) (fun x hx => by rw [List.mem_singleton.1 hx]; exact hs)
  have e : lineS [s] = bsOf (quotedL s.data.toList) := by
    unfold lineS lineL
    simp [bsOf, join_one]
  rw [e] at h
  exact h.mono fun e w' ⟨h1, h2⟩ => ⟨h1, (below_alloc (Below.refl _ _) _).trans (h2.mono (by simp))⟩
theorem digits_one (w : World) (n : Int) (hT : NumT w) :
    Calls Tryz.prog 35 #[.slice (some ⟨w.heap.size, 0, none⟩) 1 1] (w.alloc (.cells #[.int .i64 n] 3)) fun e w' => e = .returned (.string (bsOf (digL n))) ∧ Below w.heap.size w w' := by
  have h := digits_all (w.alloc (.cells #[.int .i64 n] 3)) (some ⟨w.heap.size, 0, none⟩) 1 1 [n] (nlitI w 3 [n] (by simp)) (by decide) (hT.below (below_alloc (Below.refl _ _) _))
  rw [show joinS ([n].map digS) = bsOf (digL n) by rw [List.map_cons, List.map_nil, joinS1, bs_dig]] at h
  exact h.mono fun e w' ⟨h1, h2⟩ => ⟨h1, (below_alloc (Below.refl _ _) _).trans (h2.mono (by simp))⟩
theorem hd_space : (⟨#[32]⟩ : ByteArray) = bsOf [32] := rfl

set_option maxHeartbeats 8000000 in
theorem line1_calls (w : World) (n : Int) (s : ByteArray) (hs : s.size ≤ 50000) (hT : NumT w) :
    Calls Tryz.prog 18 #[.agg #[.int .u8 1, .int .i64 n, .string s]] w fun e w' => e = .returned (.string (bsOf (lineB ⟨1, n, s⟩))) ∧ Below w.heap.size w w' := by
  obtain ⟨w1, hw1⟩ : ∃ w1, w1 = w.alloc (.cells #[.int .u8 1, .int .i64 n, .string s] 43) := ⟨_, rfl⟩
  have hb1 : Below w.heap.size w w1 := by rw [hw1]; exact below_alloc (Below.refl _ _) _
  have hx1 : BoxH w1 w.heap.size ⟨1, n, s⟩ := by rw [hw1]; exact BoxH.new w ⟨1, n, s⟩
  have hbd : Below w1.heap.size w1 w1.drew := below_drew (Below.refl _ _)
  have HKI := Aside0.mk ((script_kinds.calls _ w1.drew rfl).mono fun e w' (h : ∃ v0_ : Value, e = .returned v0_ ∧ _ ∧ _) => (by
    obtain ⟨v, h1, h2, h3⟩ := h
    obtain ⟨A2, n2, c2, rfl⟩ := sl_of_R h2
    obtain ⟨e1, e2, ad, rfl, hc⟩ := kind_cell 0 (by decide) w' A2 n2 c2 (Kd.R_lower h2 (Nat.zero_le _))
    subst e1
    exact ⟨ad, c2, h1, hbd.trans h3, e2, hc, (hx1.below (hbd.trans h3)).cells⟩ : ∃ ad c2, e = .returned (.slice (some ad) 6 c2) ∧ Below w1.heap.size w1 w' ∧ 6 ≤ c2 ∧ w'.cell? ad = some (.string (bsOf (kindL.getD 0 []))) ∧ _ ∧ _ ∧ _))
  obtain ⟨a0, a1, a2⟩ := (hx1.below hbd).cells
  have HX := Aside0.mk hx1
  have HB := Aside0.mk hb1
  have HW := Aside0.mk hw1
  have HT := Aside0.mk hT
  have hkl : (kindL.getD 0 []).length ≤ 6 := by decide
  have hdl := digL_len n
  have hql := quotedL_len s.data.toList
  have hxl := hexL_len s.data.toList
  have hsl : s.data.toList.length = s.size := by simp
  have HE : Aside0 (bsOf (kindL.getD 0 []) = bsOf (lineB ⟨1, n, s⟩)) := ⟨by
    simp only [lineB, kindW, hd_space, bs_app]
    simp⟩
  have hwr : IntKind.u8.wrap 0 = 0 := by decide
  have HDG := Aside0.mk (fun (W : World) (h : NumT W) => digits_one W n h)
  have HHX := Aside0.mk (fun (W : World) (h : NumT W) => shex_calls s W (by omega) h)
  have HQT := Aside0.mk (fun (W : World) => quote_one W s (by omega))
  generalize bsOf (lineB ⟨1, n, s⟩) = res at *
  generalize kindL.getD 0 [] = kl at *
  generalize digL n = dl at *
  generalize hexL s.data.toList = xl at *
  generalize quotedL s.data.toList = ql at *
  clear hx1 hb1 hw1 hT hbd
  clear hkl hdl hql hxl hsl
  go_enter Tryz.func18, Tryz.ntmps18
  go_upto_region 1 with fail
  rw [← HW.out]
  go_wp2
  refine start_ (n := 7) (S := fun w' => w'.cell? ⟨w.heap.size, 0, none⟩ = some (.int .u8 1)) (ds := [5]) #[false, false, false, false, false, false, false] (by kernel_rfl) rfl rfl (a0) (fun hHeld => ?_)
  refine pure_ (i := 1) (N := some 5) (v := ?_) (a' := ?_) #[false, true, false, false, false, false, false] rfl rfl (by kernel_rfl) (fun _ _ _ h => h) (Or.inl ⟨by rfl, ?_⟩) ?_ ?_
  rotate_left
  · intro w'
    go_simp
    with_reducible rfl
  rotate_left
  · simp only [Act.put, List.setIfInBounds_toArray, List.set_cons_zero, List.set_cons_succ, i64_w, i32_w]
    rfl
  refine take_ (i := 2) (N := some 6) (v := ?_) (a' := ?_) #[false, true, true, false, false, false, false] rfl rfl (by kernel_rfl) (fun _ _ _ h => h) (Or.inl ⟨by rfl, ?_⟩) hHeld ?_ ?_
  rotate_left
  · intro w' s0
    go_simp
    with_reducible rfl
  rotate_left
  · simp only [Act.put, List.setIfInBounds_toArray, List.set_cons_zero, List.set_cons_succ, i64_w, i32_w]
    rfl
  refine pure_ (i := 3) (N := some 7) (v := ?_) (a' := ?_) #[false, true, true, true, false, false, false] rfl rfl (by kernel_rfl) (fun _ _ _ h => h) (Or.inl ⟨by rfl, ?_⟩) ?_ ?_
  rotate_left
  · intro w'
    go_simp
    with_reducible rfl
  rotate_left
  · simp only [Act.put, List.setIfInBounds_toArray, List.set_cons_zero, List.set_cons_succ, i64_w, i32_w]
    rfl
  refine one_ (i := 0) (N := some 4) #[true, true, true, true, false, false, false] rfl rfl (by kernel_rfl) (by decide) (fun K hK => ?_)
  refine goes_ Tryz.func34 (by kernel_rfl) rfl #[] (by rfl) rfl rfl (by simp) ?_
  with_reducible refine (HKI.out).mono ?_
  rintro e w2 ⟨ad, c2, rfl, hb2, hc6, hcell, b0, b1, b2⟩
  refine ⟨_, rfl, ?_⟩
  refine hK.out _ _ (b0) (fun hHeld => ?_)
  clear hK K
  refine norm_ (a' := ?_) ?_ ?_
  rotate_left
  · show Act.put _ (some 4) _ = _
    simp only [Act.put, List.setIfInBounds_toArray, List.set_cons_zero, List.set_cons_succ, i64_w, i32_w]
    rfl
  refine pure_ (i := 4) (N := some 8) (v := ?_) (a' := ?_) #[true, true, true, true, true, false, false] rfl rfl (by kernel_rfl) (fun _ _ _ h => h) (Or.inl ⟨by rfl, ?_⟩) ?_ ?_
  rotate_left
  · intro w'
    go_simp
    with_reducible rfl
  rotate_left
  · simp only [Act.put, List.setIfInBounds_toArray, List.set_cons_zero, List.set_cons_succ, i64_w, i32_w]
    rfl
  refine last_ (i := 5) (N := some 9) #[true, true, true, true, true, true, false] rfl rfl (by kernel_rfl) (by decide) (fun K hK => ?_)
  refine value_ (w1 := ?_) (v := ?_) (by rfl) rfl ?_ ?_
  rotate_left 2
  · go_simp
    constructor
    · rfl
    · rfl
  refine hK.out _ _ ?_
  clear hK K
  refine norm_ (a' := ?_) ?_ ?_
  rotate_left
  · show Act.put _ (some 9) _ = _
    simp only [Act.put, List.setIfInBounds_toArray, List.set_cons_zero, List.set_cons_succ, i64_w, i32_w]
    rfl
  refine pure_ (i := 6) (N := some 3) (v := ?_) (a' := ?_) #[true, true, true, true, true, true, true] rfl rfl (by kernel_rfl) (fun _ _ _ h => h) (Or.inl ⟨by rfl, ?_⟩) ?_ ?_
  rotate_left
  · intro w'
    go_simp
    with_reducible rfl
  rotate_left
  · simp only [Act.put, List.setIfInBounds_toArray, List.set_cons_zero, List.set_cons_succ, i64_w, i32_w]
    rfl
  refine done_ (by kernel_rfl) ?_

  have HB2 : Aside0 (Below w.heap.size w w2) := ⟨HB.out.trans (hb2.mono HB.out.size)⟩
  have HX2 := Aside0.mk (HX.out.below hb2)
  clear hb2 HKI a0 a1 a2 hcell
  go_wp2
  go_ret
  exact ⟨by rw [← HE.out]; rfl, HB2.out⟩
set_option maxHeartbeats 8000000 in
theorem line2_calls (w : World) (n : Int) (s : ByteArray) (hs : s.size ≤ 50000) (hT : NumT w) :
    Calls Tryz.prog 18 #[.agg #[.int .u8 2, .int .i64 n, .string s]] w fun e w' => e = .returned (.string (bsOf (lineB ⟨2, n, s⟩))) ∧ Below w.heap.size w w' := by
  obtain ⟨w1, hw1⟩ : ∃ w1, w1 = w.alloc (.cells #[.int .u8 2, .int .i64 n, .string s] 43) := ⟨_, rfl⟩
  have hb1 : Below w.heap.size w w1 := by rw [hw1]; exact below_alloc (Below.refl _ _) _
  have hx1 : BoxH w1 w.heap.size ⟨2, n, s⟩ := by rw [hw1]; exact BoxH.new w ⟨2, n, s⟩
  have hbd : Below w1.heap.size w1 w1.drew := below_drew (Below.refl _ _)
  have HKI := Aside0.mk ((script_kinds.calls _ w1.drew rfl).mono fun e w' (h : ∃ v0_ : Value, e = .returned v0_ ∧ _ ∧ _) => (by
    obtain ⟨v, h1, h2, h3⟩ := h
    obtain ⟨A2, n2, c2, rfl⟩ := sl_of_R h2
    obtain ⟨e1, e2, ad, rfl, hc⟩ := kind_cell 1 (by decide) w' A2 n2 c2 (Kd.R_lower h2 (Nat.zero_le _))
    subst e1
    exact ⟨ad, c2, h1, hbd.trans h3, e2, hc, (hx1.below (hbd.trans h3)).cells⟩ : ∃ ad c2, e = .returned (.slice (some ad) 6 c2) ∧ Below w1.heap.size w1 w' ∧ 6 ≤ c2 ∧ w'.cell? ⟨ad.block, ad.off + 1, none⟩ = some (.string (bsOf (kindL.getD 1 []))) ∧ _ ∧ _ ∧ _))
  obtain ⟨a0, a1, a2⟩ := (hx1.below hbd).cells
  have HX := Aside0.mk hx1
  have HB := Aside0.mk hb1
  have HW := Aside0.mk hw1
  have HT := Aside0.mk hT
  have hkl : (kindL.getD 1 []).length ≤ 6 := by decide
  have hdl := digL_len n
  have hql := quotedL_len s.data.toList
  have hxl := hexL_len s.data.toList
  have hsl : s.data.toList.length = s.size := by simp
  have HE : Aside0 (bsOf (kindL.getD 1 []) ++ ((⟨#[32]⟩ : ByteArray) ++ bsOf (digL n)) = bsOf (lineB ⟨2, n, s⟩)) := ⟨by
    simp only [lineB, kindW, hd_space, bs_app]
    simp⟩
  have hwr : IntKind.u8.wrap 1 = 1 := by decide
  have HDG := Aside0.mk (fun (W : World) (h : NumT W) => digits_one W n h)
  have HHX := Aside0.mk (fun (W : World) (h : NumT W) => shex_calls s W (by omega) h)
  have HQT := Aside0.mk (fun (W : World) => quote_one W s (by omega))
  generalize bsOf (lineB ⟨2, n, s⟩) = res at *
  generalize kindL.getD 1 [] = kl at *
  generalize digL n = dl at *
  generalize hexL s.data.toList = xl at *
  generalize quotedL s.data.toList = ql at *
  clear hx1 hb1 hw1 hT hbd
  have z0 : (9223372036854775807 < 1 + (bsOf dl).size) = False := eq_false (by simp only [bs_size]; omega)
  have z1 : (9223372036854775807 < (bsOf kl).size + (1 + (bsOf dl).size)) = False := eq_false (by simp only [bs_size]; omega)
  clear hkl hdl hql hxl hsl
  go_enter Tryz.func18, Tryz.ntmps18
  go_upto_region 1 with fail
  rw [← HW.out]
  go_wp2
  refine start_ (n := 7) (S := fun w' => w'.cell? ⟨w.heap.size, 0, none⟩ = some (.int .u8 2)) (ds := [5]) #[false, false, false, false, false, false, false] (by kernel_rfl) rfl rfl (a0) (fun hHeld => ?_)
  refine pure_ (i := 1) (N := some 5) (v := ?_) (a' := ?_) #[false, true, false, false, false, false, false] rfl rfl (by kernel_rfl) (fun _ _ _ h => h) (Or.inl ⟨by rfl, ?_⟩) ?_ ?_
  rotate_left
  · intro w'
    go_simp
    with_reducible rfl
  rotate_left
  · simp only [Act.put, List.setIfInBounds_toArray, List.set_cons_zero, List.set_cons_succ, i64_w, i32_w]
    rfl
  refine take_ (i := 2) (N := some 6) (v := ?_) (a' := ?_) #[false, true, true, false, false, false, false] rfl rfl (by kernel_rfl) (fun _ _ _ h => h) (Or.inl ⟨by rfl, ?_⟩) hHeld ?_ ?_
  rotate_left
  · intro w' s0
    go_simp
    with_reducible rfl
  rotate_left
  · simp only [Act.put, List.setIfInBounds_toArray, List.set_cons_zero, List.set_cons_succ, i64_w, i32_w]
    rfl
  refine pure_ (i := 3) (N := some 7) (v := ?_) (a' := ?_) #[false, true, true, true, false, false, false] rfl rfl (by kernel_rfl) (fun _ _ _ h => h) (Or.inl ⟨by rfl, ?_⟩) ?_ ?_
  rotate_left
  · intro w'
    go_simp
    with_reducible rfl
  rotate_left
  · simp only [Act.put, List.setIfInBounds_toArray, List.set_cons_zero, List.set_cons_succ, i64_w, i32_w]
    rfl
  refine one_ (i := 0) (N := some 4) #[true, true, true, true, false, false, false] rfl rfl (by kernel_rfl) (by decide) (fun K hK => ?_)
  refine goes_ Tryz.func34 (by kernel_rfl) rfl #[] (by rfl) rfl rfl (by simp) ?_
  with_reducible refine (HKI.out).mono ?_
  rintro e w2 ⟨ad, c2, rfl, hb2, hc6, hcell, b0, b1, b2⟩
  refine ⟨_, rfl, ?_⟩
  refine hK.out _ _ (b0) (fun hHeld => ?_)
  clear hK K
  refine norm_ (a' := ?_) ?_ ?_
  rotate_left
  · show Act.put _ (some 4) _ = _
    simp only [Act.put, List.setIfInBounds_toArray, List.set_cons_zero, List.set_cons_succ, i64_w, i32_w]
    rfl
  refine pure_ (i := 4) (N := some 8) (v := ?_) (a' := ?_) #[true, true, true, true, true, false, false] rfl rfl (by kernel_rfl) (fun _ _ _ h => h) (Or.inl ⟨by rfl, ?_⟩) ?_ ?_
  rotate_left
  · intro w'
    go_simp
    with_reducible rfl
  rotate_left
  · simp only [Act.put, List.setIfInBounds_toArray, List.set_cons_zero, List.set_cons_succ, i64_w, i32_w]
    rfl
  refine last_ (i := 5) (N := some 9) #[true, true, true, true, true, true, false] rfl rfl (by kernel_rfl) (by decide) (fun K hK => ?_)
  refine value_ (w1 := ?_) (v := ?_) (by rfl) rfl ?_ ?_
  rotate_left 2
  · go_simp
    constructor
    · rfl
    · rfl
  refine hK.out _ _ ?_
  clear hK K
  refine norm_ (a' := ?_) ?_ ?_
  rotate_left
  · show Act.put _ (some 9) _ = _
    simp only [Act.put, List.setIfInBounds_toArray, List.set_cons_zero, List.set_cons_succ, i64_w, i32_w]
    rfl
  refine pure_ (i := 6) (N := some 3) (v := ?_) (a' := ?_) #[true, true, true, true, true, true, true] rfl rfl (by kernel_rfl) (fun _ _ _ h => h) (Or.inl ⟨by rfl, ?_⟩) ?_ ?_
  rotate_left
  · intro w'
    go_simp
    with_reducible rfl
  rotate_left
  · simp only [Act.put, List.setIfInBounds_toArray, List.set_cons_zero, List.set_cons_succ, i64_w, i32_w]
    rfl
  refine done_ (by kernel_rfl) ?_

  have HB2 : Aside0 (Below w.heap.size w w2) := ⟨HB.out.trans (hb2.mono HB.out.size)⟩
  have HX2 := Aside0.mk (HX.out.below hb2)
  clear hb2 HKI a0 a1 a2 hcell
  go_wp2_with fail
  with_reducible refine (HDG.out w2 (HT.out.below HB2.out)).mono ?_
  rintro e w3 ⟨rfl, hb⟩
  have HB3 := Aside0.mk (HB2.out.trans (hb.mono HB2.out.size))
  have HX3 := Aside0.mk (HX2.out.below hb)
  obtain ⟨d03, d13, d23⟩ := HX3.out.cells
  clear hb b0 b1 b2
  go_wp2
  go_ret
  exact ⟨by rw [← HE.out]; rfl, HB3.out⟩
set_option maxHeartbeats 8000000 in
theorem line3_calls (w : World) (n : Int) (s : ByteArray) (hs : s.size ≤ 50000) (hT : NumT w) :
    Calls Tryz.prog 18 #[.agg #[.int .u8 3, .int .i64 n, .string s]] w fun e w' => e = .returned (.string (bsOf (lineB ⟨3, n, s⟩))) ∧ Below w.heap.size w w' := by
  obtain ⟨w1, hw1⟩ : ∃ w1, w1 = w.alloc (.cells #[.int .u8 3, .int .i64 n, .string s] 43) := ⟨_, rfl⟩
  have hb1 : Below w.heap.size w w1 := by rw [hw1]; exact below_alloc (Below.refl _ _) _
  have hx1 : BoxH w1 w.heap.size ⟨3, n, s⟩ := by rw [hw1]; exact BoxH.new w ⟨3, n, s⟩
  have hbd : Below w1.heap.size w1 w1.drew := below_drew (Below.refl _ _)
  have HKI := Aside0.mk ((script_kinds.calls _ w1.drew rfl).mono fun e w' (h : ∃ v0_ : Value, e = .returned v0_ ∧ _ ∧ _) => (by
    obtain ⟨v, h1, h2, h3⟩ := h
    obtain ⟨A2, n2, c2, rfl⟩ := sl_of_R h2
    obtain ⟨e1, e2, ad, rfl, hc⟩ := kind_cell 2 (by decide) w' A2 n2 c2 (Kd.R_lower h2 (Nat.zero_le _))
    subst e1
    exact ⟨ad, c2, h1, hbd.trans h3, e2, hc, (hx1.below (hbd.trans h3)).cells⟩ : ∃ ad c2, e = .returned (.slice (some ad) 6 c2) ∧ Below w1.heap.size w1 w' ∧ 6 ≤ c2 ∧ w'.cell? ⟨ad.block, ad.off + 2, none⟩ = some (.string (bsOf (kindL.getD 2 []))) ∧ _ ∧ _ ∧ _))
  obtain ⟨a0, a1, a2⟩ := (hx1.below hbd).cells
  have HX := Aside0.mk hx1
  have HB := Aside0.mk hb1
  have HW := Aside0.mk hw1
  have HT := Aside0.mk hT
  have hkl : (kindL.getD 2 []).length ≤ 6 := by decide
  have hdl := digL_len n
  have hql := quotedL_len s.data.toList
  have hxl := hexL_len s.data.toList
  have hsl : s.data.toList.length = s.size := by simp
  have HE : Aside0 ((bsOf (kindL.getD 2 []) ++ ((⟨#[32]⟩ : ByteArray) ++ bsOf (digL n))) ++ ((⟨#[32]⟩ : ByteArray) ++ bsOf (hexL s.data.toList)) = bsOf (lineB ⟨3, n, s⟩)) := ⟨by
    simp only [lineB, kindW, hd_space, bs_app]
    simp⟩
  have hwr : IntKind.u8.wrap 2 = 2 := by decide
  have HDG := Aside0.mk (fun (W : World) (h : NumT W) => digits_one W n h)
  have HHX := Aside0.mk (fun (W : World) (h : NumT W) => shex_calls s W (by omega) h)
  have HQT := Aside0.mk (fun (W : World) => quote_one W s (by omega))
  generalize bsOf (lineB ⟨3, n, s⟩) = res at *
  generalize kindL.getD 2 [] = kl at *
  generalize digL n = dl at *
  generalize hexL s.data.toList = xl at *
  generalize quotedL s.data.toList = ql at *
  clear hx1 hb1 hw1 hT hbd
  have z0 : (9223372036854775807 < 1 + (bsOf dl).size) = False := eq_false (by simp only [bs_size]; omega)
  have z1 : (9223372036854775807 < (bsOf kl).size + (1 + (bsOf dl).size)) = False := eq_false (by simp only [bs_size]; omega)
  have z2 : (9223372036854775807 < 1 + (bsOf xl).size) = False := eq_false (by simp only [bs_size]; omega)
  have z3 : (9223372036854775807 < (bsOf kl).size + (1 + (bsOf dl).size) + (1 + (bsOf xl).size)) = False := eq_false (by simp only [bs_size]; omega)
  clear hkl hdl hql hxl hsl
  go_enter Tryz.func18, Tryz.ntmps18
  go_upto_region 1 with fail
  rw [← HW.out]
  go_wp2
  refine start_ (n := 7) (S := fun w' => w'.cell? ⟨w.heap.size, 0, none⟩ = some (.int .u8 3)) (ds := [5]) #[false, false, false, false, false, false, false] (by kernel_rfl) rfl rfl (a0) (fun hHeld => ?_)
  refine pure_ (i := 1) (N := some 5) (v := ?_) (a' := ?_) #[false, true, false, false, false, false, false] rfl rfl (by kernel_rfl) (fun _ _ _ h => h) (Or.inl ⟨by rfl, ?_⟩) ?_ ?_
  rotate_left
  · intro w'
    go_simp
    with_reducible rfl
  rotate_left
  · simp only [Act.put, List.setIfInBounds_toArray, List.set_cons_zero, List.set_cons_succ, i64_w, i32_w]
    rfl
  refine take_ (i := 2) (N := some 6) (v := ?_) (a' := ?_) #[false, true, true, false, false, false, false] rfl rfl (by kernel_rfl) (fun _ _ _ h => h) (Or.inl ⟨by rfl, ?_⟩) hHeld ?_ ?_
  rotate_left
  · intro w' s0
    go_simp
    with_reducible rfl
  rotate_left
  · simp only [Act.put, List.setIfInBounds_toArray, List.set_cons_zero, List.set_cons_succ, i64_w, i32_w]
    rfl
  refine pure_ (i := 3) (N := some 7) (v := ?_) (a' := ?_) #[false, true, true, true, false, false, false] rfl rfl (by kernel_rfl) (fun _ _ _ h => h) (Or.inl ⟨by rfl, ?_⟩) ?_ ?_
  rotate_left
  · intro w'
    go_simp
    with_reducible rfl
  rotate_left
  · simp only [Act.put, List.setIfInBounds_toArray, List.set_cons_zero, List.set_cons_succ, i64_w, i32_w]
    rfl
  refine one_ (i := 0) (N := some 4) #[true, true, true, true, false, false, false] rfl rfl (by kernel_rfl) (by decide) (fun K hK => ?_)
  refine goes_ Tryz.func34 (by kernel_rfl) rfl #[] (by rfl) rfl rfl (by simp) ?_
  with_reducible refine (HKI.out).mono ?_
  rintro e w2 ⟨ad, c2, rfl, hb2, hc6, hcell, b0, b1, b2⟩
  refine ⟨_, rfl, ?_⟩
  refine hK.out _ _ (b0) (fun hHeld => ?_)
  clear hK K
  refine norm_ (a' := ?_) ?_ ?_
  rotate_left
  · show Act.put _ (some 4) _ = _
    simp only [Act.put, List.setIfInBounds_toArray, List.set_cons_zero, List.set_cons_succ, i64_w, i32_w]
    rfl
  refine pure_ (i := 4) (N := some 8) (v := ?_) (a' := ?_) #[true, true, true, true, true, false, false] rfl rfl (by kernel_rfl) (fun _ _ _ h => h) (Or.inl ⟨by rfl, ?_⟩) ?_ ?_
  rotate_left
  · intro w'
    go_simp
    with_reducible rfl
  rotate_left
  · simp only [Act.put, List.setIfInBounds_toArray, List.set_cons_zero, List.set_cons_succ, i64_w, i32_w]
    rfl
  refine last_ (i := 5) (N := some 9) #[true, true, true, true, true, true, false] rfl rfl (by kernel_rfl) (by decide) (fun K hK => ?_)
  refine value_ (w1 := ?_) (v := ?_) (by rfl) rfl ?_ ?_
  rotate_left 2
  · go_simp
    constructor
    · rfl
    · rfl
  refine hK.out _ _ ?_
  clear hK K
  refine norm_ (a' := ?_) ?_ ?_
  rotate_left
  · show Act.put _ (some 9) _ = _
    simp only [Act.put, List.setIfInBounds_toArray, List.set_cons_zero, List.set_cons_succ, i64_w, i32_w]
    rfl
  refine pure_ (i := 6) (N := some 3) (v := ?_) (a' := ?_) #[true, true, true, true, true, true, true] rfl rfl (by kernel_rfl) (fun _ _ _ h => h) (Or.inl ⟨by rfl, ?_⟩) ?_ ?_
  rotate_left
  · intro w'
    go_simp
    with_reducible rfl
  rotate_left
  · simp only [Act.put, List.setIfInBounds_toArray, List.set_cons_zero, List.set_cons_succ, i64_w, i32_w]
    rfl
  refine done_ (by kernel_rfl) ?_

  have HB2 : Aside0 (Below w.heap.size w w2) := ⟨HB.out.trans (hb2.mono HB.out.size)⟩
  have HX2 := Aside0.mk (HX.out.below hb2)
  clear hb2 HKI a0 a1 a2 hcell
  go_wp2_with fail
  with_reducible refine (HDG.out w2 (HT.out.below HB2.out)).mono ?_
  rintro e w3 ⟨rfl, hb⟩
  have HB3 := Aside0.mk (HB2.out.trans (hb.mono HB2.out.size))
  have HX3 := Aside0.mk (HX2.out.below hb)
  obtain ⟨d03, d13, d23⟩ := HX3.out.cells
  clear hb b0 b1 b2
  go_wp2_with fail
  with_reducible refine (HHX.out w3 (HT.out.below HB3.out)).mono ?_
  rintro e w4 ⟨rfl, hb⟩
  have HB4 := Aside0.mk (HB3.out.trans (hb.mono HB3.out.size))
  have HX4 := Aside0.mk (HX3.out.below hb)
  obtain ⟨d04, d14, d24⟩ := HX4.out.cells
  clear hb d03 d13 d23
  go_wp2
  go_ret
  exact ⟨by rw [← HE.out]; rfl, HB4.out⟩
set_option maxHeartbeats 8000000 in
theorem line4_calls (w : World) (n : Int) (s : ByteArray) (hs : s.size ≤ 50000) (hT : NumT w) :
    Calls Tryz.prog 18 #[.agg #[.int .u8 4, .int .i64 n, .string s]] w fun e w' => e = .returned (.string (bsOf (lineB ⟨4, n, s⟩))) ∧ Below w.heap.size w w' := by
  obtain ⟨w1, hw1⟩ : ∃ w1, w1 = w.alloc (.cells #[.int .u8 4, .int .i64 n, .string s] 43) := ⟨_, rfl⟩
  have hb1 : Below w.heap.size w w1 := by rw [hw1]; exact below_alloc (Below.refl _ _) _
  have hx1 : BoxH w1 w.heap.size ⟨4, n, s⟩ := by rw [hw1]; exact BoxH.new w ⟨4, n, s⟩
  have hbd : Below w1.heap.size w1 w1.drew := below_drew (Below.refl _ _)
  have HKI := Aside0.mk ((script_kinds.calls _ w1.drew rfl).mono fun e w' (h : ∃ v0_ : Value, e = .returned v0_ ∧ _ ∧ _) => (by
    obtain ⟨v, h1, h2, h3⟩ := h
    obtain ⟨A2, n2, c2, rfl⟩ := sl_of_R h2
    obtain ⟨e1, e2, ad, rfl, hc⟩ := kind_cell 3 (by decide) w' A2 n2 c2 (Kd.R_lower h2 (Nat.zero_le _))
    subst e1
    exact ⟨ad, c2, h1, hbd.trans h3, e2, hc, (hx1.below (hbd.trans h3)).cells⟩ : ∃ ad c2, e = .returned (.slice (some ad) 6 c2) ∧ Below w1.heap.size w1 w' ∧ 6 ≤ c2 ∧ w'.cell? ⟨ad.block, ad.off + 3, none⟩ = some (.string (bsOf (kindL.getD 3 []))) ∧ _ ∧ _ ∧ _))
  obtain ⟨a0, a1, a2⟩ := (hx1.below hbd).cells
  have HX := Aside0.mk hx1
  have HB := Aside0.mk hb1
  have HW := Aside0.mk hw1
  have HT := Aside0.mk hT
  have hkl : (kindL.getD 3 []).length ≤ 6 := by decide
  have hdl := digL_len n
  have hql := quotedL_len s.data.toList
  have hxl := hexL_len s.data.toList
  have hsl : s.data.toList.length = s.size := by simp
  have HE : Aside0 ((bsOf (kindL.getD 3 []) ++ ((⟨#[32]⟩ : ByteArray) ++ bsOf (digL n))) ++ ((⟨#[32]⟩ : ByteArray) ++ bsOf (quotedL s.data.toList)) = bsOf (lineB ⟨4, n, s⟩)) := ⟨by
    simp only [lineB, kindW, hd_space, bs_app]
    simp⟩
  have hwr : IntKind.u8.wrap 3 = 3 := by decide
  have HDG := Aside0.mk (fun (W : World) (h : NumT W) => digits_one W n h)
  have HHX := Aside0.mk (fun (W : World) (h : NumT W) => shex_calls s W (by omega) h)
  have HQT := Aside0.mk (fun (W : World) => quote_one W s (by omega))
  generalize bsOf (lineB ⟨4, n, s⟩) = res at *
  generalize kindL.getD 3 [] = kl at *
  generalize digL n = dl at *
  generalize hexL s.data.toList = xl at *
  generalize quotedL s.data.toList = ql at *
  clear hx1 hb1 hw1 hT hbd
  have z0 : (9223372036854775807 < 1 + (bsOf dl).size) = False := eq_false (by simp only [bs_size]; omega)
  have z1 : (9223372036854775807 < (bsOf kl).size + (1 + (bsOf dl).size)) = False := eq_false (by simp only [bs_size]; omega)
  have z2 : (9223372036854775807 < 1 + (bsOf ql).size) = False := eq_false (by simp only [bs_size]; omega)
  have z3 : (9223372036854775807 < (bsOf kl).size + (1 + (bsOf dl).size) + (1 + (bsOf ql).size)) = False := eq_false (by simp only [bs_size]; omega)
  clear hkl hdl hql hxl hsl
  go_enter Tryz.func18, Tryz.ntmps18
  go_upto_region 1 with fail
  rw [← HW.out]
  go_wp2
  refine start_ (n := 7) (S := fun w' => w'.cell? ⟨w.heap.size, 0, none⟩ = some (.int .u8 4)) (ds := [5]) #[false, false, false, false, false, false, false] (by kernel_rfl) rfl rfl (a0) (fun hHeld => ?_)
  refine pure_ (i := 1) (N := some 5) (v := ?_) (a' := ?_) #[false, true, false, false, false, false, false] rfl rfl (by kernel_rfl) (fun _ _ _ h => h) (Or.inl ⟨by rfl, ?_⟩) ?_ ?_
  rotate_left
  · intro w'
    go_simp
    with_reducible rfl
  rotate_left
  · simp only [Act.put, List.setIfInBounds_toArray, List.set_cons_zero, List.set_cons_succ, i64_w, i32_w]
    rfl
  refine take_ (i := 2) (N := some 6) (v := ?_) (a' := ?_) #[false, true, true, false, false, false, false] rfl rfl (by kernel_rfl) (fun _ _ _ h => h) (Or.inl ⟨by rfl, ?_⟩) hHeld ?_ ?_
  rotate_left
  · intro w' s0
    go_simp
    with_reducible rfl
  rotate_left
  · simp only [Act.put, List.setIfInBounds_toArray, List.set_cons_zero, List.set_cons_succ, i64_w, i32_w]
    rfl
  refine pure_ (i := 3) (N := some 7) (v := ?_) (a' := ?_) #[false, true, true, true, false, false, false] rfl rfl (by kernel_rfl) (fun _ _ _ h => h) (Or.inl ⟨by rfl, ?_⟩) ?_ ?_
  rotate_left
  · intro w'
    go_simp
    with_reducible rfl
  rotate_left
  · simp only [Act.put, List.setIfInBounds_toArray, List.set_cons_zero, List.set_cons_succ, i64_w, i32_w]
    rfl
  refine one_ (i := 0) (N := some 4) #[true, true, true, true, false, false, false] rfl rfl (by kernel_rfl) (by decide) (fun K hK => ?_)
  refine goes_ Tryz.func34 (by kernel_rfl) rfl #[] (by rfl) rfl rfl (by simp) ?_
  with_reducible refine (HKI.out).mono ?_
  rintro e w2 ⟨ad, c2, rfl, hb2, hc6, hcell, b0, b1, b2⟩
  refine ⟨_, rfl, ?_⟩
  refine hK.out _ _ (b0) (fun hHeld => ?_)
  clear hK K
  refine norm_ (a' := ?_) ?_ ?_
  rotate_left
  · show Act.put _ (some 4) _ = _
    simp only [Act.put, List.setIfInBounds_toArray, List.set_cons_zero, List.set_cons_succ, i64_w, i32_w]
    rfl
  refine pure_ (i := 4) (N := some 8) (v := ?_) (a' := ?_) #[true, true, true, true, true, false, false] rfl rfl (by kernel_rfl) (fun _ _ _ h => h) (Or.inl ⟨by rfl, ?_⟩) ?_ ?_
  rotate_left
  · intro w'
    go_simp
    with_reducible rfl
  rotate_left
  · simp only [Act.put, List.setIfInBounds_toArray, List.set_cons_zero, List.set_cons_succ, i64_w, i32_w]
    rfl
  refine last_ (i := 5) (N := some 9) #[true, true, true, true, true, true, false] rfl rfl (by kernel_rfl) (by decide) (fun K hK => ?_)
  refine value_ (w1 := ?_) (v := ?_) (by rfl) rfl ?_ ?_
  rotate_left 2
  · go_simp
    constructor
    · rfl
    · rfl
  refine hK.out _ _ ?_
  clear hK K
  refine norm_ (a' := ?_) ?_ ?_
  rotate_left
  · show Act.put _ (some 9) _ = _
    simp only [Act.put, List.setIfInBounds_toArray, List.set_cons_zero, List.set_cons_succ, i64_w, i32_w]
    rfl
  refine pure_ (i := 6) (N := some 3) (v := ?_) (a' := ?_) #[true, true, true, true, true, true, true] rfl rfl (by kernel_rfl) (fun _ _ _ h => h) (Or.inl ⟨by rfl, ?_⟩) ?_ ?_
  rotate_left
  · intro w'
    go_simp
    with_reducible rfl
  rotate_left
  · simp only [Act.put, List.setIfInBounds_toArray, List.set_cons_zero, List.set_cons_succ, i64_w, i32_w]
    rfl
  refine done_ (by kernel_rfl) ?_

  have HB2 : Aside0 (Below w.heap.size w w2) := ⟨HB.out.trans (hb2.mono HB.out.size)⟩
  have HX2 := Aside0.mk (HX.out.below hb2)
  clear hb2 HKI a0 a1 a2 hcell
  go_wp2_with fail
  with_reducible refine (HDG.out w2 (HT.out.below HB2.out)).mono ?_
  rintro e w3 ⟨rfl, hb⟩
  have HB3 := Aside0.mk (HB2.out.trans (hb.mono HB2.out.size))
  have HX3 := Aside0.mk (HX2.out.below hb)
  obtain ⟨d03, d13, d23⟩ := HX3.out.cells
  clear hb b0 b1 b2
  go_wp2_with fail
  with_reducible refine (HQT.out w3).mono ?_
  rintro e w4 ⟨rfl, hb⟩
  have HB4 := Aside0.mk (HB3.out.trans (hb.mono HB3.out.size))
  have HX4 := Aside0.mk (HX3.out.below hb)
  obtain ⟨d04, d14, d24⟩ := HX4.out.cells
  clear hb d03 d13 d23
  go_wp2
  go_ret
  exact ⟨by rw [← HE.out]; rfl, HB4.out⟩
set_option maxHeartbeats 8000000 in
theorem line5_calls (w : World) (n : Int) (s : ByteArray) (hs : s.size ≤ 50000) (hT : NumT w) :
    Calls Tryz.prog 18 #[.agg #[.int .u8 5, .int .i64 n, .string s]] w fun e w' => e = .returned (.string (bsOf (lineB ⟨5, n, s⟩))) ∧ Below w.heap.size w w' := by
  obtain ⟨w1, hw1⟩ : ∃ w1, w1 = w.alloc (.cells #[.int .u8 5, .int .i64 n, .string s] 43) := ⟨_, rfl⟩
  have hb1 : Below w.heap.size w w1 := by rw [hw1]; exact below_alloc (Below.refl _ _) _
  have hx1 : BoxH w1 w.heap.size ⟨5, n, s⟩ := by rw [hw1]; exact BoxH.new w ⟨5, n, s⟩
  have hbd : Below w1.heap.size w1 w1.drew := below_drew (Below.refl _ _)
  have HKI := Aside0.mk ((script_kinds.calls _ w1.drew rfl).mono fun e w' (h : ∃ v0_ : Value, e = .returned v0_ ∧ _ ∧ _) => (by
    obtain ⟨v, h1, h2, h3⟩ := h
    obtain ⟨A2, n2, c2, rfl⟩ := sl_of_R h2
    obtain ⟨e1, e2, ad, rfl, hc⟩ := kind_cell 4 (by decide) w' A2 n2 c2 (Kd.R_lower h2 (Nat.zero_le _))
    subst e1
    exact ⟨ad, c2, h1, hbd.trans h3, e2, hc, (hx1.below (hbd.trans h3)).cells⟩ : ∃ ad c2, e = .returned (.slice (some ad) 6 c2) ∧ Below w1.heap.size w1 w' ∧ 6 ≤ c2 ∧ w'.cell? ⟨ad.block, ad.off + 4, none⟩ = some (.string (bsOf (kindL.getD 4 []))) ∧ _ ∧ _ ∧ _))
  obtain ⟨a0, a1, a2⟩ := (hx1.below hbd).cells
  have HX := Aside0.mk hx1
  have HB := Aside0.mk hb1
  have HW := Aside0.mk hw1
  have HT := Aside0.mk hT
  have hkl : (kindL.getD 4 []).length ≤ 6 := by decide
  have hdl := digL_len n
  have hql := quotedL_len s.data.toList
  have hxl := hexL_len s.data.toList
  have hsl : s.data.toList.length = s.size := by simp
  have HE : Aside0 ((bsOf (kindL.getD 4 []) ++ ((⟨#[32]⟩ : ByteArray) ++ bsOf (digL n))) ++ ((⟨#[32]⟩ : ByteArray) ++ bsOf (quotedL s.data.toList)) = bsOf (lineB ⟨5, n, s⟩)) := ⟨by
    simp only [lineB, kindW, hd_space, bs_app]
    simp⟩
  have hwr : IntKind.u8.wrap 4 = 4 := by decide
  have HDG := Aside0.mk (fun (W : World) (h : NumT W) => digits_one W n h)
  have HHX := Aside0.mk (fun (W : World) (h : NumT W) => shex_calls s W (by omega) h)
  have HQT := Aside0.mk (fun (W : World) => quote_one W s (by omega))
  generalize bsOf (lineB ⟨5, n, s⟩) = res at *
  generalize kindL.getD 4 [] = kl at *
  generalize digL n = dl at *
  generalize hexL s.data.toList = xl at *
  generalize quotedL s.data.toList = ql at *
  clear hx1 hb1 hw1 hT hbd
  have z0 : (9223372036854775807 < 1 + (bsOf dl).size) = False := eq_false (by simp only [bs_size]; omega)
  have z1 : (9223372036854775807 < (bsOf kl).size + (1 + (bsOf dl).size)) = False := eq_false (by simp only [bs_size]; omega)
  have z2 : (9223372036854775807 < 1 + (bsOf ql).size) = False := eq_false (by simp only [bs_size]; omega)
  have z3 : (9223372036854775807 < (bsOf kl).size + (1 + (bsOf dl).size) + (1 + (bsOf ql).size)) = False := eq_false (by simp only [bs_size]; omega)
  clear hkl hdl hql hxl hsl
  go_enter Tryz.func18, Tryz.ntmps18
  go_upto_region 1 with fail
  rw [← HW.out]
  go_wp2
  refine start_ (n := 7) (S := fun w' => w'.cell? ⟨w.heap.size, 0, none⟩ = some (.int .u8 5)) (ds := [5]) #[false, false, false, false, false, false, false] (by kernel_rfl) rfl rfl (a0) (fun hHeld => ?_)
  refine pure_ (i := 1) (N := some 5) (v := ?_) (a' := ?_) #[false, true, false, false, false, false, false] rfl rfl (by kernel_rfl) (fun _ _ _ h => h) (Or.inl ⟨by rfl, ?_⟩) ?_ ?_
  rotate_left
  · intro w'
    go_simp
    with_reducible rfl
  rotate_left
  · simp only [Act.put, List.setIfInBounds_toArray, List.set_cons_zero, List.set_cons_succ, i64_w, i32_w]
    rfl
  refine take_ (i := 2) (N := some 6) (v := ?_) (a' := ?_) #[false, true, true, false, false, false, false] rfl rfl (by kernel_rfl) (fun _ _ _ h => h) (Or.inl ⟨by rfl, ?_⟩) hHeld ?_ ?_
  rotate_left
  · intro w' s0
    go_simp
    with_reducible rfl
  rotate_left
  · simp only [Act.put, List.setIfInBounds_toArray, List.set_cons_zero, List.set_cons_succ, i64_w, i32_w]
    rfl
  refine pure_ (i := 3) (N := some 7) (v := ?_) (a' := ?_) #[false, true, true, true, false, false, false] rfl rfl (by kernel_rfl) (fun _ _ _ h => h) (Or.inl ⟨by rfl, ?_⟩) ?_ ?_
  rotate_left
  · intro w'
    go_simp
    with_reducible rfl
  rotate_left
  · simp only [Act.put, List.setIfInBounds_toArray, List.set_cons_zero, List.set_cons_succ, i64_w, i32_w]
    rfl
  refine one_ (i := 0) (N := some 4) #[true, true, true, true, false, false, false] rfl rfl (by kernel_rfl) (by decide) (fun K hK => ?_)
  refine goes_ Tryz.func34 (by kernel_rfl) rfl #[] (by rfl) rfl rfl (by simp) ?_
  with_reducible refine (HKI.out).mono ?_
  rintro e w2 ⟨ad, c2, rfl, hb2, hc6, hcell, b0, b1, b2⟩
  refine ⟨_, rfl, ?_⟩
  refine hK.out _ _ (b0) (fun hHeld => ?_)
  clear hK K
  refine norm_ (a' := ?_) ?_ ?_
  rotate_left
  · show Act.put _ (some 4) _ = _
    simp only [Act.put, List.setIfInBounds_toArray, List.set_cons_zero, List.set_cons_succ, i64_w, i32_w]
    rfl
  refine pure_ (i := 4) (N := some 8) (v := ?_) (a' := ?_) #[true, true, true, true, true, false, false] rfl rfl (by kernel_rfl) (fun _ _ _ h => h) (Or.inl ⟨by rfl, ?_⟩) ?_ ?_
  rotate_left
  · intro w'
    go_simp
    with_reducible rfl
  rotate_left
  · simp only [Act.put, List.setIfInBounds_toArray, List.set_cons_zero, List.set_cons_succ, i64_w, i32_w]
    rfl
  refine last_ (i := 5) (N := some 9) #[true, true, true, true, true, true, false] rfl rfl (by kernel_rfl) (by decide) (fun K hK => ?_)
  refine value_ (w1 := ?_) (v := ?_) (by rfl) rfl ?_ ?_
  rotate_left 2
  · go_simp
    constructor
    · rfl
    · rfl
  refine hK.out _ _ ?_
  clear hK K
  refine norm_ (a' := ?_) ?_ ?_
  rotate_left
  · show Act.put _ (some 9) _ = _
    simp only [Act.put, List.setIfInBounds_toArray, List.set_cons_zero, List.set_cons_succ, i64_w, i32_w]
    rfl
  refine pure_ (i := 6) (N := some 3) (v := ?_) (a' := ?_) #[true, true, true, true, true, true, true] rfl rfl (by kernel_rfl) (fun _ _ _ h => h) (Or.inl ⟨by rfl, ?_⟩) ?_ ?_
  rotate_left
  · intro w'
    go_simp
    with_reducible rfl
  rotate_left
  · simp only [Act.put, List.setIfInBounds_toArray, List.set_cons_zero, List.set_cons_succ, i64_w, i32_w]
    rfl
  refine done_ (by kernel_rfl) ?_

  have HB2 : Aside0 (Below w.heap.size w w2) := ⟨HB.out.trans (hb2.mono HB.out.size)⟩
  have HX2 := Aside0.mk (HX.out.below hb2)
  clear hb2 HKI a0 a1 a2 hcell
  go_wp2_with fail
  with_reducible refine (HDG.out w2 (HT.out.below HB2.out)).mono ?_
  rintro e w3 ⟨rfl, hb⟩
  have HB3 := Aside0.mk (HB2.out.trans (hb.mono HB2.out.size))
  have HX3 := Aside0.mk (HX2.out.below hb)
  obtain ⟨d03, d13, d23⟩ := HX3.out.cells
  clear hb b0 b1 b2
  go_wp2_with fail
  with_reducible refine (HQT.out w3).mono ?_
  rintro e w4 ⟨rfl, hb⟩
  have HB4 := Aside0.mk (HB3.out.trans (hb.mono HB3.out.size))
  have HX4 := Aside0.mk (HX3.out.below hb)
  obtain ⟨d04, d14, d24⟩ := HX4.out.cells
  clear hb d03 d13 d23
  go_wp2
  go_ret
  exact ⟨by rw [← HE.out]; rfl, HB4.out⟩
set_option maxHeartbeats 8000000 in
theorem line6_calls (w : World) (n : Int) (s : ByteArray) (hs : s.size ≤ 50000) (hT : NumT w) :
    Calls Tryz.prog 18 #[.agg #[.int .u8 6, .int .i64 n, .string s]] w fun e w' => e = .returned (.string (bsOf (lineB ⟨6, n, s⟩))) ∧ Below w.heap.size w w' := by
  obtain ⟨w1, hw1⟩ : ∃ w1, w1 = w.alloc (.cells #[.int .u8 6, .int .i64 n, .string s] 43) := ⟨_, rfl⟩
  have hb1 : Below w.heap.size w w1 := by rw [hw1]; exact below_alloc (Below.refl _ _) _
  have hx1 : BoxH w1 w.heap.size ⟨6, n, s⟩ := by rw [hw1]; exact BoxH.new w ⟨6, n, s⟩
  have hbd : Below w1.heap.size w1 w1.drew := below_drew (Below.refl _ _)
  have HKI := Aside0.mk ((script_kinds.calls _ w1.drew rfl).mono fun e w' (h : ∃ v0_ : Value, e = .returned v0_ ∧ _ ∧ _) => (by
    obtain ⟨v, h1, h2, h3⟩ := h
    obtain ⟨A2, n2, c2, rfl⟩ := sl_of_R h2
    obtain ⟨e1, e2, ad, rfl, hc⟩ := kind_cell 5 (by decide) w' A2 n2 c2 (Kd.R_lower h2 (Nat.zero_le _))
    subst e1
    exact ⟨ad, c2, h1, hbd.trans h3, e2, hc, (hx1.below (hbd.trans h3)).cells⟩ : ∃ ad c2, e = .returned (.slice (some ad) 6 c2) ∧ Below w1.heap.size w1 w' ∧ 6 ≤ c2 ∧ w'.cell? ⟨ad.block, ad.off + 5, none⟩ = some (.string (bsOf (kindL.getD 5 []))) ∧ _ ∧ _ ∧ _))
  obtain ⟨a0, a1, a2⟩ := (hx1.below hbd).cells
  have HX := Aside0.mk hx1
  have HB := Aside0.mk hb1
  have HW := Aside0.mk hw1
  have HT := Aside0.mk hT
  have hkl : (kindL.getD 5 []).length ≤ 6 := by decide
  have hdl := digL_len n
  have hql := quotedL_len s.data.toList
  have hxl := hexL_len s.data.toList
  have hsl : s.data.toList.length = s.size := by simp
  have HE : Aside0 (bsOf (kindL.getD 5 []) ++ ((⟨#[32]⟩ : ByteArray) ++ bsOf (digL n)) = bsOf (lineB ⟨6, n, s⟩)) := ⟨by
    simp only [lineB, kindW, hd_space, bs_app]
    simp⟩
  have hwr : IntKind.u8.wrap 5 = 5 := by decide
  have HDG := Aside0.mk (fun (W : World) (h : NumT W) => digits_one W n h)
  have HHX := Aside0.mk (fun (W : World) (h : NumT W) => shex_calls s W (by omega) h)
  have HQT := Aside0.mk (fun (W : World) => quote_one W s (by omega))
  generalize bsOf (lineB ⟨6, n, s⟩) = res at *
  generalize kindL.getD 5 [] = kl at *
  generalize digL n = dl at *
  generalize hexL s.data.toList = xl at *
  generalize quotedL s.data.toList = ql at *
  clear hx1 hb1 hw1 hT hbd
  have z0 : (9223372036854775807 < 1 + (bsOf dl).size) = False := eq_false (by simp only [bs_size]; omega)
  have z1 : (9223372036854775807 < (bsOf kl).size + (1 + (bsOf dl).size)) = False := eq_false (by simp only [bs_size]; omega)
  clear hkl hdl hql hxl hsl
  go_enter Tryz.func18, Tryz.ntmps18
  go_upto_region 1 with fail
  rw [← HW.out]
  go_wp2
  refine start_ (n := 7) (S := fun w' => w'.cell? ⟨w.heap.size, 0, none⟩ = some (.int .u8 6)) (ds := [5]) #[false, false, false, false, false, false, false] (by kernel_rfl) rfl rfl (a0) (fun hHeld => ?_)
  refine pure_ (i := 1) (N := some 5) (v := ?_) (a' := ?_) #[false, true, false, false, false, false, false] rfl rfl (by kernel_rfl) (fun _ _ _ h => h) (Or.inl ⟨by rfl, ?_⟩) ?_ ?_
  rotate_left
  · intro w'
    go_simp
    with_reducible rfl
  rotate_left
  · simp only [Act.put, List.setIfInBounds_toArray, List.set_cons_zero, List.set_cons_succ, i64_w, i32_w]
    rfl
  refine take_ (i := 2) (N := some 6) (v := ?_) (a' := ?_) #[false, true, true, false, false, false, false] rfl rfl (by kernel_rfl) (fun _ _ _ h => h) (Or.inl ⟨by rfl, ?_⟩) hHeld ?_ ?_
  rotate_left
  · intro w' s0
    go_simp
    with_reducible rfl
  rotate_left
  · simp only [Act.put, List.setIfInBounds_toArray, List.set_cons_zero, List.set_cons_succ, i64_w, i32_w]
    rfl
  refine pure_ (i := 3) (N := some 7) (v := ?_) (a' := ?_) #[false, true, true, true, false, false, false] rfl rfl (by kernel_rfl) (fun _ _ _ h => h) (Or.inl ⟨by rfl, ?_⟩) ?_ ?_
  rotate_left
  · intro w'
    go_simp
    with_reducible rfl
  rotate_left
  · simp only [Act.put, List.setIfInBounds_toArray, List.set_cons_zero, List.set_cons_succ, i64_w, i32_w]
    rfl
  refine one_ (i := 0) (N := some 4) #[true, true, true, true, false, false, false] rfl rfl (by kernel_rfl) (by decide) (fun K hK => ?_)
  refine goes_ Tryz.func34 (by kernel_rfl) rfl #[] (by rfl) rfl rfl (by simp) ?_
  with_reducible refine (HKI.out).mono ?_
  rintro e w2 ⟨ad, c2, rfl, hb2, hc6, hcell, b0, b1, b2⟩
  refine ⟨_, rfl, ?_⟩
  refine hK.out _ _ (b0) (fun hHeld => ?_)
  clear hK K
  refine norm_ (a' := ?_) ?_ ?_
  rotate_left
  · show Act.put _ (some 4) _ = _
    simp only [Act.put, List.setIfInBounds_toArray, List.set_cons_zero, List.set_cons_succ, i64_w, i32_w]
    rfl
  refine pure_ (i := 4) (N := some 8) (v := ?_) (a' := ?_) #[true, true, true, true, true, false, false] rfl rfl (by kernel_rfl) (fun _ _ _ h => h) (Or.inl ⟨by rfl, ?_⟩) ?_ ?_
  rotate_left
  · intro w'
    go_simp
    with_reducible rfl
  rotate_left
  · simp only [Act.put, List.setIfInBounds_toArray, List.set_cons_zero, List.set_cons_succ, i64_w, i32_w]
    rfl
  refine last_ (i := 5) (N := some 9) #[true, true, true, true, true, true, false] rfl rfl (by kernel_rfl) (by decide) (fun K hK => ?_)
  refine value_ (w1 := ?_) (v := ?_) (by rfl) rfl ?_ ?_
  rotate_left 2
  · go_simp
    constructor
    · rfl
    · rfl
  refine hK.out _ _ ?_
  clear hK K
  refine norm_ (a' := ?_) ?_ ?_
  rotate_left
  · show Act.put _ (some 9) _ = _
    simp only [Act.put, List.setIfInBounds_toArray, List.set_cons_zero, List.set_cons_succ, i64_w, i32_w]
    rfl
  refine pure_ (i := 6) (N := some 3) (v := ?_) (a' := ?_) #[true, true, true, true, true, true, true] rfl rfl (by kernel_rfl) (fun _ _ _ h => h) (Or.inl ⟨by rfl, ?_⟩) ?_ ?_
  rotate_left
  · intro w'
    go_simp
    with_reducible rfl
  rotate_left
  · simp only [Act.put, List.setIfInBounds_toArray, List.set_cons_zero, List.set_cons_succ, i64_w, i32_w]
    rfl
  refine done_ (by kernel_rfl) ?_

  have HB2 : Aside0 (Below w.heap.size w w2) := ⟨HB.out.trans (hb2.mono HB.out.size)⟩
  have HX2 := Aside0.mk (HX.out.below hb2)
  clear hb2 HKI a0 a1 a2 hcell
  go_wp2_with fail
  with_reducible refine (HDG.out w2 (HT.out.below HB2.out)).mono ?_
  rintro e w3 ⟨rfl, hb⟩
  have HB3 := Aside0.mk (HB2.out.trans (hb.mono HB2.out.size))
  have HX3 := Aside0.mk (HX2.out.below hb)
  obtain ⟨d03, d13, d23⟩ := HX3.out.cells
  clear hb b0 b1 b2
  go_wp2
  go_ret
  exact ⟨by rw [← HE.out]; rfl, HB3.out⟩
end Go.Proofs.YtmcjfnebkpifnaaGreatDoor

/- Printed texts of this seat, cut to what is used. -/
namespace Go.Proofs.YtmcjfnebkpifnaaGreatDoor
open Go.RowKit Go.Proofs.YtmcjfnebkpifnaaGreatDoorW.PrintWords Go.Proofs.YtmcjfnebkpifnaaGreatDoorW.PrintLast Go.Proofs.YtmcjfnebkpifnaaGreatDoorW.PrintMore Go.Proofs.YtmcjfnebkpifnaaGreatDoor.PScriptReads
set_option linter.unusedVariables false
set_option linter.unusedSimpArgs false
set_option maxRecDepth 100000

theorem line_calls (w : World) (h : SH) (hm : mayB h = true) (hs : h.f2.size ≤ 50000) (hT : NumT w) :
    Calls Tryz.prog 18 #[.agg #[.int .u8 h.f0, .int .i64 h.f1, .string h.f2]] w fun e w' => e = .returned (.string (bsOf (lineB h))) ∧ Below w.heap.size w w' := by
  have hk := may_kind hm
  obtain ⟨k, n, s⟩ := h
  rcases hk with h | h | h | h | h | h
  · cases h; exact line1_calls w n s hs hT
  · cases h; exact line2_calls w n s hs hT
  · cases h; exact line3_calls w n s hs hT
  · cases h; exact line4_calls w n s hs hT
  · cases h; exact line5_calls w n s hs hT
  · cases h; exact line6_calls w n s hs hT

set_option maxHeartbeats 2000000 in
theorem linep_calls (w : World) (h : SH) (hs : h.f2.size ≤ 50000) (hT : NumT w) :
    Calls Tryz.prog 15 #[.agg #[.int .u8 h.f0, .int .i64 h.f1, .string h.f2]] w fun e w' => e = .returned (.tuple #[.string (bsOf (if mayB h then lineB h else [])), .int .i64 (if mayB h then 0 else 1)]) ∧ Below w.heap.size w w' := by
  have HM := Aside0.mk (fun (W : World) => script_may.calls h.f0 h.f1 h.f2 (mayB h) W (may_f h))
  have HL := Aside0.mk (fun (W : World) (hm : mayB h = true) (k : NumT W) => line_calls W h hm hs k)
  have HT := Aside0.mk hT
  obtain ⟨w1, hw1⟩ : ∃ w1, w1 = w.alloc (.cells #[.int .u8 h.f0, .int .i64 h.f1, .string h.f2] 43) := ⟨_, rfl⟩
  have HB := Aside0.mk (show Below w.heap.size w w1 by rw [hw1]; exact below_alloc (Below.refl _ _) _)
  have HX := Aside0.mk (show BoxH w1 w.heap.size h by rw [hw1]; exact BoxH.new w h)
  have HW := Aside0.mk hw1
  clear hw1 hT
  cases hm : mayB h with
  | true =>
    rw [hm] at HM
    have HM2 := Aside0.mk hm
    obtain ⟨a0, a1, a2⟩ := HX.out.cells
    clear hm
    go_enter Tryz.func15, Tryz.ntmps15
    go_upto_region 1 with fail
    rw [← HW.out]
    go_wp2_with fail
    with_reducible refine (HM.out _).mono ?_
    rintro e w2 ⟨rfl, hb⟩
    have HB2 := Aside0.mk (HB.out.trans (hb.mono HB.out.size))
    obtain ⟨b0, b1, b2⟩ := (HX.out.below hb).cells
    clear hb a0 a1 a2
    go_wp2_with fail
    with_reducible refine (HL.out w2 HM2.out (HT.out.below HB2.out)).mono ?_
    rintro e w3 ⟨rfl, hb⟩
    have HB3 := Aside0.mk (HB2.out.trans (hb.mono HB2.out.size))
    clear hb b0 b1 b2
    go_wp2
    go_ret2
    exact ⟨rfl, HB3.out⟩
  | false =>
    rw [hm] at HM
    obtain ⟨a0, a1, a2⟩ := HX.out.cells
    clear hm
    go_enter Tryz.func15, Tryz.ntmps15
    go_upto_region 1 with fail
    rw [← HW.out]
    go_wp2_with fail
    with_reducible refine (HM.out _).mono ?_
    rintro e w2 ⟨rfl, hb⟩
    have HB2 := Aside0.mk (HB.out.trans (hb.mono HB.out.size))
    clear hb a0 a1 a2
    go_wp2
    go_ret2
    exact ⟨rfl, HB2.out⟩

theorem awake_line : lineB ⟨4, 0, ⟨#[115, 112, 108, 105, 116, 45, 119, 105, 110, 100, 111, 119, 32, 45, 104]⟩⟩ = [108, 105, 110, 101, 32, 48, 32, 34, 115, 112, 108, 105, 116, 45, 119, 105, 110, 100, 111, 119, 32, 45, 104, 34] ∧
    mayB ⟨4, 0, ⟨#[115, 112, 108, 105, 116, 45, 119, 105, 110, 100, 111, 119, 32, 45, 104]⟩⟩ = true := by
  constructor
  · decide +kernel
  · decide +kernel
theorem awake_calls (w : World) (hT : NumT w) : Calls Tryz.prog 7 #[] w fun e w' => e = .returned (.bool true) ∧ Below w.heap.size w w' := by
  have HT := Aside0.mk hT
  have HL := Aside0.mk (fun (W : World) (k : NumT W) => linep_calls W ⟨4, 0, ⟨#[115, 112, 108, 105, 116, 45, 119, 105, 110, 100, 111, 119, 32, 45, 104]⟩⟩ (by decide) k)
  rw [awake_line.1, awake_line.2] at HL
  have HB0 := Aside0.mk (Below.refl w.heap.size w)
  clear hT
  go_enter Tryz.func7, Tryz.ntmps7
  go_wp2_with fail
  refine (HL.out _ (HT.out.below (by first | exact HB0.out | exact below_alloc (Below.refl _ _) _))).mono ?_
  rintro e w2 ⟨rfl, hb⟩
  have HB2 := Aside0.mk hb
  clear hb
  go_wp2
  go_ret
  exact ⟨by rw [ByteArray.toList_eq]; rfl, HB2.out⟩

set_option maxHeartbeats 1000000 in
theorem may1_calls (w : World) (h : SH) :
    Calls Tryz.prog 32 #[.agg #[.int .u8 h.f0, .int .i64 h.f1, .string h.f2]] w fun e w' => e = .returned (.bool (!mayB h)) ∧ Below w.heap.size w w' := by
  have HM := Aside0.mk (fun (W : World) => script_may.calls h.f0 h.f1 h.f2 (mayB h) W (may_f h))
  obtain ⟨w1, hw1⟩ : ∃ w1, w1 = w.alloc (.cells #[.int .u8 h.f0, .int .i64 h.f1, .string h.f2] 43) := ⟨_, rfl⟩
  have HB := Aside0.mk (show Below w.heap.size w w1 by rw [hw1]; exact below_alloc (Below.refl _ _) _)
  have HX := Aside0.mk (show BoxH w1 w.heap.size h by rw [hw1]; exact BoxH.new w h)
  have HW := Aside0.mk hw1
  clear hw1
  generalize mayB h = m at *
  obtain ⟨a0, a1, a2⟩ := HX.out.cells
  go_enter Tryz.func32, Tryz.ntmps32
  go_upto_region 1 with fail
  rw [← HW.out]
  go_wp2_with fail
  with_reducible refine (HM.out _).mono ?_
  rintro e w2 ⟨rfl, hb⟩
  have HB2 := Aside0.mk (HB.out.trans (hb.mono HB.out.size))
  clear hb a0 a1 a2
  go_wp2
  go_ret
  exact ⟨rfl, HB2.out⟩

theorem enters32 : ∀ args w, (callFunc 32 args).run Tryz.prog w = .ok (.enter 32 args) w := enters_of Tryz.func32 (by kernel_rfl) rfl
def HapPred (g : Nat) (F : SH → Bool) : Prop := ∀ (w : World) (h : SH), Calls Tryz.prog g #[.agg #[.int .u8 h.f0, .int .i64 h.f1, .string h.f2]] w fun e w' => e = .returned (.bool (F h)) ∧ Below w.heap.size w w'
set_option maxHeartbeats 4000000 in
theorem ifn_calls (g : Nat) (eg : ∀ args w, (callFunc g args).run Tryz.prog w = .ok (.enter g args) w) (F : SH → Bool) (hF : HapPred g F) (A : Option Addr) (c : Nat) (xs : List SH) (w : World) (hn : xs.length ≤ 100000) (hr : Kd.C k43 w A xs.length xs) :
    Calls Tryz.prog 55 #[.slice A xs.length c, .func (.func g) #[] #[]] w fun e w' => ∃ r : Int, e = .returned (.int .i64 r) ∧ decide (0 ≤ r) = xs.any F ∧ Below w.heap.size w w' := by
  have HR := Aside0.mk hr
  have HF := Aside0.mk hF
  clear hr hF
  obtain ⟨n, hN⟩ : ∃ n, n = xs.length := ⟨_, rfl⟩
  rw [← hN] at hn HR ⊢
  have HN := Aside0.mk hN
  clear hN
  go_enter Tryz.func55, Tryz.ntmps55
  go_wp2
  go_loopw [5, 8] (fun _ i wr => ∃ k : Nat, k ≤ n ∧ i = .int .i64 k ∧ Aside0 ((xs.drop k).any F = xs.any F ∧ Below w.heap.size w wr)) (fun _ i _ => n - (intOf i).toNat)
  case atStart => exact ⟨0, by omega, rfl, ⟨by simp, Below.refl _ _⟩⟩
  case round =>
    obtain ⟨k, hk, rfl, HA⟩ := hrel
    have hsz := HA.out.2.size
    by_cases hlt : k < n
    · obtain ⟨ad, rfl, g0, g1, g2⟩ := at_T43 (Kd.C_below HR.out HA.out.2) (k : Int) (by omega) (by omega)
      have hd : (xs.drop k).any F = (F (rd_T43 xs k) || (xs.drop (k + 1)).any F) := by
        have hkl : k < xs.length := by rw [← HN.out]; exact hlt
        rw [List.drop_eq_getElem_cons hkl, List.any_cons]
        unfold rd_T43
        rw [List.getD_eq_getElem?_getD, show ((k : Int)).toNat = k by omega, List.getElem?_eq_getElem hkl]
        rfl
      rw [HA.out.1] at hd
      have HC := Aside0.mk (HF.out wr (rd_T43 xs k))
      generalize rd_T43 xs k = x at *
      have hkk : ((k : Int)).toNat = k := by omega
      rw [hkk] at g0 g1 g2
      have HM := Aside0.mk HA.out.2
      clear HA hkk
      cases hp : F x with
      | true =>
        rw [hp, Bool.true_or] at hd
        have HD := Aside0.mk hd
        rw [hp] at HC
        clear hd hp
        go_wp2_with fail
        refine HC.out.mono ?_
        rintro e w1 ⟨rfl, h1⟩
        have H1 := Aside0.mk (HM.out.trans (h1.mono hsz))
        clear h1
        go_wp2
        go_ret
        exact ⟨_, rfl, by rw [HD.out]; simp, H1.out⟩
      | false =>
        rw [hp, Bool.false_or] at hd
        have HD := Aside0.mk hd
        rw [hp] at HC
        clear hd hp
        go_wp2_with fail
        refine HC.out.mono ?_
        rintro e w1 ⟨rfl, h1⟩
        have H1 := Aside0.mk (HM.out.trans (h1.mono hsz))
        clear h1
        go_wp2
        go_roundw
        case rel => exact ⟨k + 1, by omega, by go_num, ⟨HD.out.symm, H1.out⟩⟩
        case measure => simp [intOf]; omega
    · have hdn : xs.drop k = [] := List.drop_eq_nil_of_le (by have := HN.out; omega)
      have HD : Aside0 (xs.any F = false) := ⟨by rw [← HA.out.1, hdn]; rfl⟩
      clear hdn
      go_wp2
      go_ret
      exact ⟨_, rfl, by rw [HD.out]; rfl, HA.out.2⟩
theorem cfn_calls (g : Nat) (eg : ∀ args w, (callFunc g args).run Tryz.prog w = .ok (.enter g args) w) (F : SH → Bool) (hF : HapPred g F) (A : Option Addr) (c : Nat) (xs : List SH) (w : World) (hn : xs.length ≤ 100000) (hr : Kd.C k43 w A xs.length xs) :
    Calls Tryz.prog 31 #[.slice A xs.length c, .func (.func g) #[] #[]] w fun e w' => e = .returned (.bool (xs.any F)) ∧ Below w.heap.size w w' := by
  have HC := Aside0.mk (ifn_calls g eg F hF A c xs w hn hr)
  clear hr hF hn
  go_enter Tryz.func31, Tryz.ntmps31
  go_wp2_with fail
  refine HC.out.mono ?_
  rintro e w1 ⟨r, rfl, h1, h2⟩
  have H1 := Aside0.mk h1
  have H2 := Aside0.mk h2
  clear h1 h2
  go_wp2
  go_ret
  exact ⟨by rw [← H1.out]; rfl, H2.out⟩
theorem all_any (l : List SH) : (!l.any (fun h => !mayB h)) = l.all mayB := by
  induction l with
  | nil => rfl
  | cons x l ih => rw [List.any_cons, List.all_cons, ← ih]; cases mayB x <;> simp
theorem mayp_calls (A : Option Addr) (c : Nat) (xs : List SH) (w : World) (hn : xs.length ≤ 2000) (hr : Kd.C k43 w A xs.length xs) :
    Calls Tryz.prog 16 #[.slice A xs.length c] w fun e w' => e = .returned (.bool (xs.all mayB)) ∧ Below w.heap.size w w' := by
  have HC := Aside0.mk (cfn_calls 32 enters32 (fun h => !mayB h) may1_calls A c xs w (by omega) hr)
  clear hr
  rw [← all_any]
  generalize xs.any (fun h => !mayB h) = m at *
  go_enter Tryz.func16, Tryz.ntmps16
  go_wp2_with fail
  refine HC.out.mono ?_
  rintro e w1 ⟨rfl, h1⟩
  have H1 := Aside0.mk h1
  clear h1
  go_wp2
  go_ret
  exact ⟨rfl, H1.out⟩
end Go.Proofs.YtmcjfnebkpifnaaGreatDoor
