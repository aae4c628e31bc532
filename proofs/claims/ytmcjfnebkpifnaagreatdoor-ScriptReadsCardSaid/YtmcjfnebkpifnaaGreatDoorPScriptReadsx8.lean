-- cat_patch
import Derived.Test.YtmcjfnebkpifnaaGreatDoorPScriptReadsx0
import Derived.Test.YtmcjfnebkpifnaaGreatDoorPScriptReadsx6
import Derived.Test.YtmcjfnebkpifnaaGreatDoorPScriptReadsx7
namespace Go.Proofs.YtmcjfnebkpifnaaGreatDoor.PScriptReads
open Go.RowKit Go.Proofs.YtmcjfnebkpifnaaGreatDoorW.PrintWords Go.Proofs.YtmcjfnebkpifnaaGreatDoorW.PrintLast Go.Proofs.YtmcjfnebkpifnaaGreatDoorW.PrintMore
attribute [local go_sem] max2_int min2_int max_two min_two max_three min_three max_four min_four   -- for this text's walks alone
set_option linter.unusedVariables false
set_option linter.unusedSimpArgs false

/-! ### sashref25_Line: function 22 -/
mutual
def sashref25_Line.j0 : Nat → ByteArray → Bool → Int → Int → ByteArray → Option (ByteArray)
  | 0, _, _, _, _, _ => none
  | k + 1, x3, x29, x177000, x177001, x177002 => if x29 = true then (if x3.size + 5 ≤ 9223372036854775807 then (some (x3 ++ (⟨#[32, 110, 111, 110, 101]⟩ : ByteArray))) else (none)) else (if x177000 = 3 then (if x3.size + 1 ≤ 9223372036854775807 then (sashref25_Line.l0 k (x3 ++ (⟨#[32]⟩ : ByteArray)) 0 x177000 x177001 x177002) else (none)) else (if x177000 = 4 then (if x3.size + 1 ≤ 9223372036854775807 then ((sashref20_Quote.f k x177002).bind fun t184 => (if (x3 ++ (⟨#[32]⟩ : ByteArray)).size + t184.size ≤ 9223372036854775807 then (some ((x3 ++ (⟨#[32]⟩ : ByteArray)) ++ t184)) else (none))) else (none)) else (if x177000 = 5 then (if x3.size + 1 ≤ 9223372036854775807 then ((sashref20_Quote.f k x177002).bind fun t185 => (if (x3 ++ (⟨#[32]⟩ : ByteArray)).size + t185.size ≤ 9223372036854775807 then (some ((x3 ++ (⟨#[32]⟩ : ByteArray)) ++ t185)) else (none))) else (none)) else (some x3))))
def sashref25_Line.l0 : Nat → ByteArray → Int → Int → Int → ByteArray → Option (ByteArray)
  | 0, _, _, _, _, _ => none
  | k + 1, x3, x4, x177000, x177001, x177002 => if x4 < (x177002.size : Int) then (if 0 ≤ x4 then ((sashref01_Digit.f (wrap64 (Int.tdiv (wrap64 (bt x177002 x4)) 16))).bind fun t182 => (if x3.size + t182.size ≤ 9223372036854775807 then ((sashref01_Digit.f (Int.tmod (wrap64 (bt x177002 x4)) 16)).bind fun t183 => (if (x3 ++ t182).size + t183.size ≤ 9223372036854775807 then (sashref25_Line.l0 k ((x3 ++ t182) ++ t183) (wrap64 (x4 + 1)) x177000 x177001 x177002) else (none))) else (none))) else (none)) else (some x3)
end
def sashref25_Line.f (k : Nat) (a0_0 : Int) (a0_1 : Int) (a0_2 : ByteArray) : Option (ByteArray) := (sashref25_Words.f).bind fun t177 => (if 0 ≤ ((a0_0 - 1) % 256) then (if ((a0_0 - 1) % 256) < (t177.length : Int) then (if a0_0 = 1 then (some (rdOf ByteArray.empty t177 ((a0_0 - 1) % 256))) else (if (rdOf ByteArray.empty t177 ((a0_0 - 1) % 256)).size + 1 ≤ 9223372036854775807 then ((sashref01_Digits.f k a0_1).bind fun t181 => (if ((rdOf ByteArray.empty t177 ((a0_0 - 1) % 256)) ++ (⟨#[32]⟩ : ByteArray)).size + t181.size ≤ 9223372036854775807 then (if a0_0 = 3 then (sashref25_Line.j0 k (((rdOf ByteArray.empty t177 ((a0_0 - 1) % 256)) ++ (⟨#[32]⟩ : ByteArray)) ++ t181) (a0_2.toList == ([] : List UInt8)) a0_0 a0_1 a0_2) else (sashref25_Line.j0 k (((rdOf ByteArray.empty t177 ((a0_0 - 1) % 256)) ++ (⟨#[32]⟩ : ByteArray)) ++ t181) false a0_0 a0_1 a0_2)) else (none))) else (none))) else (none)) else (none))
theorem sashref25_Line.mono_l : ∀ k, (∀ y0 y1 y2 y3 y4, LeO (sashref25_Line.j0 k y0 y1 y2 y3 y4) (sashref25_Line.j0 (k + 1) y0 y1 y2 y3 y4)) ∧ (∀ y0 y1 y2 y3 y4, LeO (sashref25_Line.l0 k y0 y1 y2 y3 y4) (sashref25_Line.l0 (k + 1) y0 y1 y2 y3 y4))
  | 0 => ⟨fun _ _ _ _ _ r h => by simp [sashref25_Line.j0] at h, fun _ _ _ _ _ r h => by simp [sashref25_Line.l0] at h⟩
  | k + 1 => by
    obtain ⟨ih0, ih1⟩ := sashref25_Line.mono_l k
    refine ⟨?_, ?_⟩
    · intro y0 y1 y2 y3 y4
      unfold sashref25_Line.j0
      repeat' first
      | (with_reducible exact ih0 _ _ _ _ _)
      | (with_reducible exact ih1 _ _ _ _ _)
      | (with_reducible exact sashref01_Digits.mono _ _)
      | (with_reducible exact sashref20_Quote.mono _ _)
      | (with_reducible exact LeO.refl _)
      | (with_reducible exact LeO.none _)
      | (with_reducible refine LeO.ite ?_ ?_)
      | (with_reducible refine LeO.bind ?_ (fun _ => ?_))
      | exact ih0 _ _ _ _ _
      | exact ih1 _ _ _ _ _
      | exact sashref01_Digits.mono _ _
      | exact sashref20_Quote.mono _ _
      | exact LeO.none _
      | refine LeO.ite ?_ ?_
      | refine LeO.bind ?_ (fun _ => ?_)
    · intro y0 y1 y2 y3 y4
      unfold sashref25_Line.l0
      repeat' first
      | (with_reducible exact ih0 _ _ _ _ _)
      | (with_reducible exact ih1 _ _ _ _ _)
      | (with_reducible exact sashref01_Digits.mono _ _)
      | (with_reducible exact sashref20_Quote.mono _ _)
      | (with_reducible exact LeO.refl _)
      | (with_reducible exact LeO.none _)
      | (with_reducible refine LeO.ite ?_ ?_)
      | (with_reducible refine LeO.bind ?_ (fun _ => ?_))
      | exact ih0 _ _ _ _ _
      | exact ih1 _ _ _ _ _
      | exact sashref01_Digits.mono _ _
      | exact sashref20_Quote.mono _ _
      | exact LeO.none _
      | refine LeO.ite ?_ ?_
      | refine LeO.bind ?_ (fun _ => ?_)
theorem sashref25_Line.mono : ∀ a0 a1 a2 k, LeO (sashref25_Line.f k a0 a1 a2) (sashref25_Line.f (k + 1) a0 a1 a2) := by
  intro a0 a1 a2 k
  obtain ⟨ih0, ih1⟩ := sashref25_Line.mono_l k
  unfold sashref25_Line.f
  repeat' first
      | (with_reducible exact ih0 _ _ _ _ _)
      | (with_reducible exact ih1 _ _ _ _ _)
      | (with_reducible exact sashref01_Digits.mono _ _)
      | (with_reducible exact sashref20_Quote.mono _ _)
      | (with_reducible exact LeO.refl _)
      | (with_reducible exact LeO.none _)
      | (with_reducible refine LeO.ite ?_ ?_)
      | (with_reducible refine LeO.bind ?_ (fun _ => ?_))
      | exact ih0 _ _ _ _ _
      | exact ih1 _ _ _ _ _
      | exact sashref01_Digits.mono _ _
      | exact sashref20_Quote.mono _ _
      | exact LeO.none _
      | refine LeO.ite ?_ ?_
      | refine LeO.bind ?_ (fun _ => ?_)
set_option maxHeartbeats 8000000 in
set_option maxRecDepth 100000 in
theorem sashref25_Line.calls (k : Nat) (a0_0 : Int) (a0_1 : Int) (a0_2 : ByteArray) (r : ByteArray) (w : World) (h : sashref25_Line.f k a0_0 a0_1 a0_2 = some r) :
    Calls Tryz.prog 22 #[.agg #[.int .u8 a0_0, .int .i64 a0_1, .string a0_2]] w fun e w' => e = .returned (.string r) ∧ Below w.heap.size w w' := by
  have hu43 := Tryz.underlying43
  have HB := Aside0.mk (Below.refl w.heap.size w)
  have H : ((sashref25_Words.f).bind fun t177 => (if 0 ≤ ((a0_0 - 1) % 256) then (if ((a0_0 - 1) % 256) < (t177.length : Int) then (if a0_0 = 1 then (some (rdOf ByteArray.empty t177 ((a0_0 - 1) % 256))) else (if (rdOf ByteArray.empty t177 ((a0_0 - 1) % 256)).size + 1 ≤ 9223372036854775807 then ((sashref01_Digits.f k a0_1).bind fun t181 => (if ((rdOf ByteArray.empty t177 ((a0_0 - 1) % 256)) ++ (⟨#[32]⟩ : ByteArray)).size + t181.size ≤ 9223372036854775807 then (if a0_0 = 3 then (sashref25_Line.j0 k (((rdOf ByteArray.empty t177 ((a0_0 - 1) % 256)) ++ (⟨#[32]⟩ : ByteArray)) ++ t181) (a0_2.toList == ([] : List UInt8)) a0_0 a0_1 a0_2) else (sashref25_Line.j0 k (((rdOf ByteArray.empty t177 ((a0_0 - 1) % 256)) ++ (⟨#[32]⟩ : ByteArray)) ++ t181) false a0_0 a0_1 a0_2)) else (none))) else (none))) else (none)) else (none))) = some r := h
  clear h
  replace H := Option.bind_eq_some_iff.mp H
  obtain ⟨t177, A20, H⟩ := H
  replace H : (if 0 ≤ ((a0_0 - 1) % 256) then (if ((a0_0 - 1) % 256) < (t177.length : Int) then (if a0_0 = 1 then (some (rdOf ByteArray.empty t177 ((a0_0 - 1) % 256))) else (if (rdOf ByteArray.empty t177 ((a0_0 - 1) % 256)).size + 1 ≤ 9223372036854775807 then ((sashref01_Digits.f k a0_1).bind fun t181 => (if ((rdOf ByteArray.empty t177 ((a0_0 - 1) % 256)) ++ (⟨#[32]⟩ : ByteArray)).size + t181.size ≤ 9223372036854775807 then (if a0_0 = 3 then (sashref25_Line.j0 k (((rdOf ByteArray.empty t177 ((a0_0 - 1) % 256)) ++ (⟨#[32]⟩ : ByteArray)) ++ t181) (a0_2.toList == ([] : List UInt8)) a0_0 a0_1 a0_2) else (sashref25_Line.j0 k (((rdOf ByteArray.empty t177 ((a0_0 - 1) % 256)) ++ (⟨#[32]⟩ : ByteArray)) ++ t181) false a0_0 a0_1 a0_2)) else (none))) else (none))) else (none)) else (none)) = some r := H
  have A2 := Aside0.mk A20
  clear A20
  obtain ⟨ji3, hji3⟩ : ∃ j_ : Int, ((a0_0 - 1) % 256) = j_ := ⟨_, rfl⟩
  have hwu_ : IntKind.u8.wrap (a0_0 - 1) = ji3 := by rw [← hji3]; simp [IntKind.wrap, IntKind.bits, IntKind.signed]
  replace H : (if 0 ≤ (ji3) then (if (ji3) < (t177.length : Int) then (if a0_0 = 1 then (some (rdOf ByteArray.empty t177 (ji3))) else (if (rdOf ByteArray.empty t177 (ji3)).size + 1 ≤ 9223372036854775807 then ((sashref01_Digits.f k a0_1).bind fun t181 => (if ((rdOf ByteArray.empty t177 (ji3)) ++ (⟨#[32]⟩ : ByteArray)).size + t181.size ≤ 9223372036854775807 then (if a0_0 = 3 then (sashref25_Line.j0 k (((rdOf ByteArray.empty t177 (ji3)) ++ (⟨#[32]⟩ : ByteArray)) ++ t181) (a0_2.toList == ([] : List UInt8)) a0_0 a0_1 a0_2) else (sashref25_Line.j0 k (((rdOf ByteArray.empty t177 (ji3)) ++ (⟨#[32]⟩ : ByteArray)) ++ t181) false a0_0 a0_1 a0_2)) else (none))) else (none))) else (none)) else (none)) = some r := by first | (rw [hji3] at H; exact H) | (simp only [hji3] at H ⊢; exact H)
  (try rw [hji3] at A2)
  by_cases c4 : 0 ≤ (ji3)
  · rw [if_pos c4] at H
    have c4b0 : decide (0 ≤ (ji3)) = true := decide_eq_true c4
    clear c4
    by_cases c5 : (ji3) < (t177.length : Int)
    · rw [if_pos c5] at H
      have c5b0 : decide ((ji3) < (t177.length : Int)) = true := decide_eq_true c5
      clear c5
      by_cases c6 : a0_0 = 1
      · rw [if_pos c6] at H
        have c6b0 : (a0_0 == 1) = true := beq_iff_eq.mpr c6
        have c6b1 : (a0_0 != 1) = false := bne_eq_false_iff_eq.mpr c6
        clear c6
        obtain rfl := Option.some.inj H
        go_enter Tryz.func22, Tryz.ntmps22
        try go_wp2_with (first | ((with_reducible refine gate_dst (N := 1) rfl ?_); refine box_event ?hg (N := 1) ?hd (cs := #[.int .u8 a0_0, .int .i64 a0_1, .string a0_2]) (t := 43) ?hr ?_; (case hd => rfl); (case hg => rfl); (case hr => first | (go_simp; done) | (go_simp; rfl)); intro gb176 hg w7 hbox hb; have n0_ := Aside0.mk (below_step (by repeat (first | (with_reducible first | exact HB.out | apply below_alloc | apply pw_below_drewN | apply below_drew1) | exact HB.out)) hb); have n1_ := Aside0.mk (hbox); have n2_ := Aside0.mk ((by rw [hg]; exact (below_size (by repeat (first | (with_reducible first | exact HB.out | apply below_alloc | apply pw_below_drewN | apply below_drew1) | exact HB.out))) : w.heap.size ≤ gb176)); have n3_ := Aside0.mk ((by rw [hg]; exact (below_size (by repeat (first | (with_reducible first | exact HB.out | apply below_alloc | apply pw_below_drewN | apply below_drew1) | exact HB.out))) : w.heap.size ≤ gb176)); clear HB; have HB := n0_; have BK176 := n1_; have GW176 := n2_; have GE176 := n3_; clear n0_ n1_ n2_ n3_; clear hb hbox hg))
        have n0_ := Aside0.mk (blk_drew BK176.out)
        have n1_ := Aside0.mk (below_drew1 HB.out)
        clear BK176
        clear HB
        have BK176 := n0_
        have HB := n1_
        clear n0_ n1_
        refine start_ (n := 7) (S := fun w' => w'.cell? ⟨gb176, 0, none⟩ = some (.int .u8 a0_0) ∧ w'.cell? ⟨gb176, 1, none⟩ = some (.int .i64 a0_1) ∧ w'.cell? ⟨gb176, 2, none⟩ = some (.string a0_2)) (ds := [5]) #[false, false, false, false, false, false, false] (by kernel_rfl) rfl rfl ⟨(blk_cell BK176.out 0).trans rfl, (blk_cell BK176.out 1).trans rfl, (blk_cell BK176.out 2).trans rfl⟩ (fun hHeld => ?_)
        generalize w7.drew = w8 at BK176 HB hHeld ⊢
        refine pure_ (i := 1) (N := some 7) (v := ?_) (a' := ?_) #[false, true, false, false, false, false, false] rfl rfl (by kernel_rfl) (fun _ _ _ h => h) (Or.inl ⟨by rfl, ?_⟩) ?_ ?_
        rotate_left
        · intro w'
          go_simp
          with_reducible rfl
        rotate_left
        · simp only [Act.put, List.setIfInBounds_toArray, List.set_cons_zero, List.set_cons_succ, i64_w, i32_w]
          rfl
        refine take_ (i := 2) (N := some 8) (v := ?_) (a' := ?_) #[false, true, true, false, false, false, false] rfl rfl (by kernel_rfl) (fun _ _ _ h => h) (Or.inl ⟨by rfl, ?_⟩) hHeld ?_ ?_
        rotate_left
        · rintro w' ⟨s0, s1, s2⟩
          go_simp
          with_reducible rfl
        rotate_left
        · simp only [Act.put, List.setIfInBounds_toArray, List.set_cons_zero, List.set_cons_succ, i64_w, i32_w]
          rfl
        refine pure_ (i := 3) (N := some 9) (v := ?_) (a' := ?_) #[false, true, true, true, false, false, false] rfl rfl (by kernel_rfl) (fun _ _ _ h => h) (Or.inl ⟨by rfl, ?_⟩) ?_ ?_
        rotate_left
        · intro w'
          go_simp
          with_reducible rfl
        rotate_left
        · simp only [Act.put, List.setIfInBounds_toArray, List.set_cons_zero, List.set_cons_succ, i64_w, i32_w]
          rfl
        refine one_ (i := 0) (N := some 6) #[true, true, true, true, false, false, false] rfl rfl (by kernel_rfl) (by decide) (fun K hK => ?_)
        refine goes_ Tryz.func39 (by kernel_rfl) rfl #[] (by rfl) rfl rfl (by (try simp only [List.map_toArray, List.map_cons, List.map_nil]); first | done | rfl | (simp only [List.length_drop, List.length_take]; rfl)) ?_
        with_reducible refine (sashref25_Words.calls  t177 _ A2.out).mono ?_
        rintro e w9 ⟨v178, rfl, ho0, hb⟩
        refine ⟨_, rfl, ?_⟩
        have n0_ := Aside0.mk (Kd.R_lower ho0 (below_size (by repeat (first | (with_reducible first | exact HB.out | apply below_alloc | apply pw_below_drewN | apply below_drew1 | refine below_set ?_ GE176.out) | exact HB.out))))
        have n1_ := Aside0.mk (blk_below (g := gb176) (o := .cells #[.int .u8 a0_0, .int .i64 a0_1, .string a0_2] 43 (0, 0)) (by (with_reducible repeat (first | refine blk_drewN ?_ _ | refine blk_drew ?_ | refine blk_alloc ?_ _)); exact BK176.out) hb)
        have n2_ := Aside0.mk (below_step (by repeat (first | (with_reducible first | exact HB.out | apply below_alloc | apply pw_below_drewN | apply below_drew1 | refine below_set ?_ GE176.out) | exact HB.out)) hb)
        clear BK176
        clear HB
        have HO179 := n0_
        have BK176 := n1_
        have HB := n2_
        clear n0_ n1_ n2_
        (try clear hb)
        (try clear hb2)
        (try clear hk)
        (try clear hi)
        (try clear ho0)
        obtain ⟨Ao10, co10, eo10⟩ := Kd.R_slice HO179.out
        (first | subst eo10 | (injection eo10 with f1_ f2_ f3_; have f4_ := f1_.symm; have f5_ := f3_.symm; clear f1_ f2_ f3_; subst f4_; subst f5_))
        have p180 : 0 ≤ ((ji3) : Int) := of_decide_eq_true (by first | (with_reducible assumption) | assumption)
        have q180 : (ji3) < (t177.length : Int) := of_decide_eq_true (by first | (with_reducible assumption) | assumption)
        obtain ⟨ad180, e180, hx180_0⟩ := Kd.at_string (Kd.R_reads' HO179.out).2.2 (ji3) p180 q180
        cases e180
        replace p180 := eq_true p180
        replace q180 := eq_true q180
        refine hK.out _ _ ⟨(blk_cell BK176.out 0).trans rfl, (blk_cell BK176.out 1).trans rfl, (blk_cell BK176.out 2).trans rfl⟩ (fun hHeld => ?_)
        clear hK K
        refine norm_ (a' := ?_) ?_ ?_
        rotate_left
        · show Act.put _ (some 6) _ = _
          simp only [Act.put, List.setIfInBounds_toArray, List.set_cons_zero, List.set_cons_succ, i64_w, i32_w]
          rfl
        refine pure_ (i := 4) (N := some 10) (v := ?_) (a' := ?_) #[true, true, true, true, true, false, false] rfl rfl (by kernel_rfl) (fun _ _ _ h => h) (Or.inl ⟨by rfl, ?_⟩) ?_ ?_
        rotate_left
        · intro w'
          go_simp
          with_reducible rfl
        rotate_left
        · simp only [Act.put, List.setIfInBounds_toArray, List.set_cons_zero, List.set_cons_succ, i64_w, i32_w]
          rfl
        refine last_ (i := 5) (N := some 11) #[true, true, true, true, true, true, false] rfl rfl (by kernel_rfl) (by decide) (fun K hK => ?_)
        refine value_ (w1 := ?_) (v := ?_) (by rfl) rfl ?_ ?_
        rotate_left 2
        · go_simp
          constructor
          · rfl
          · rfl
        refine hK.out _ _ ?_
        clear hK K
        refine norm_ (a' := ?_) ?_ ?_
        rotate_left
        · show Act.put _ (some 11) _ = _
          simp only [Act.put, List.setIfInBounds_toArray, List.set_cons_zero, List.set_cons_succ, i64_w, i32_w]
          rfl
        refine pure_ (i := 6) (N := some 3) (v := ?_) (a' := ?_) #[true, true, true, true, true, true, true] rfl rfl (by kernel_rfl) (fun _ _ _ h => h) (Or.inl ⟨by rfl, ?_⟩) ?_ ?_
        rotate_left
        · intro w'
          go_simp
          with_reducible rfl
        rotate_left
        · simp only [Act.put, List.setIfInBounds_toArray, List.set_cons_zero, List.set_cons_succ, i64_w, i32_w]
          rfl
        refine done_ (by kernel_rfl) ?_
        have hcz11_0 : w9.cell? ⟨gb176, 0, none⟩ = some (.int .u8 a0_0) := (blk_cell BK176.out 0).trans rfl
        have hcz11_1 : w9.cell? ⟨gb176, 1, none⟩ = some (.int .i64 a0_1) := (blk_cell BK176.out 1).trans rfl
        have hcz11_2 : w9.cell? ⟨gb176, 2, none⟩ = some (.string a0_2) := (blk_cell BK176.out 2).trans rfl
        have hfz11_0 := blk_frozen BK176.out 0
        have hfz11_1 := blk_frozen BK176.out 1
        have hfz11_2 := blk_frozen BK176.out 2
        try go_wp2
        go_ret
        exact ⟨by first | rfl | (simp [errW_none, errW_some] <;> rfl) | (simp only [← hji3]; first | rfl | (simp [errW_none, errW_some] <;> rfl)) | (simp [*, errW_none, errW_some] <;> rfl), by repeat (first | (with_reducible first | exact HB.out | apply below_alloc | apply pw_below_drewN | apply below_drew1 | refine below_set ?_ GE176.out) | exact HB.out)⟩
      · rw [if_neg c6] at H
        have c6b0 : (a0_0 == 1) = false := beq_eq_false_iff_ne.mpr c6
        have c6b1 : (a0_0 != 1) = true := bne_iff_ne.mpr c6
        by_cases c12 : (rdOf ByteArray.empty t177 (ji3)).size + 1 ≤ 9223372036854775807
        · rw [if_pos c12] at H
          have c12b0 := eq_true c12
          have c12b1 : decide ((rdOf ByteArray.empty t177 (ji3)).size + 1 ≤ 9223372036854775807) = true := decide_eq_true c12
          try have c12b2 : (9223372036854775807 < (rdOf ByteArray.empty t177 (ji3)).size + 1) = False := eq_false (Nat.not_lt.2 c12)
          try (have c12s := c12; simp only [ByteArray.size_append, (show (⟨#[32]⟩ : ByteArray).size = 1 from rfl)] at c12s; have c12s1 := decide_eq_true c12s; have c12s2 := eq_false (Nat.not_lt.2 c12s); have c12s3 := eq_true c12s)
          replace H := Option.bind_eq_some_iff.mp H
          obtain ⟨t181, A130, H⟩ := H
          replace H : (if ((rdOf ByteArray.empty t177 (ji3)) ++ (⟨#[32]⟩ : ByteArray)).size + t181.size ≤ 9223372036854775807 then (if a0_0 = 3 then (sashref25_Line.j0 k (((rdOf ByteArray.empty t177 (ji3)) ++ (⟨#[32]⟩ : ByteArray)) ++ t181) (a0_2.toList == ([] : List UInt8)) a0_0 a0_1 a0_2) else (sashref25_Line.j0 k (((rdOf ByteArray.empty t177 (ji3)) ++ (⟨#[32]⟩ : ByteArray)) ++ t181) false a0_0 a0_1 a0_2)) else (none)) = some r := H
          have A13 := Aside0.mk A130
          clear A130
          by_cases c14 : ((rdOf ByteArray.empty t177 (ji3)) ++ (⟨#[32]⟩ : ByteArray)).size + t181.size ≤ 9223372036854775807
          · rw [if_pos c14] at H
            have c14b0 := eq_true c14
            have c14b1 : decide (((rdOf ByteArray.empty t177 (ji3)) ++ (⟨#[32]⟩ : ByteArray)).size + t181.size ≤ 9223372036854775807) = true := decide_eq_true c14
            try have c14b2 : (9223372036854775807 < ((rdOf ByteArray.empty t177 (ji3)) ++ (⟨#[32]⟩ : ByteArray)).size + t181.size) = False := eq_false (Nat.not_lt.2 c14)
            try (have c14s := c14; simp only [ByteArray.size_append, (show (⟨#[32]⟩ : ByteArray).size = 1 from rfl)] at c14s; have c14s1 := decide_eq_true c14s; have c14s2 := eq_false (Nat.not_lt.2 c14s); have c14s3 := eq_true c14s)
            have HC15 := Aside0.mk H
            clear H
            go_enter Tryz.func22, Tryz.ntmps22
            try go_wp2_with (first | ((with_reducible refine gate_dst (N := 1) rfl ?_); refine box_event ?hg (N := 1) ?hd (cs := #[.int .u8 a0_0, .int .i64 a0_1, .string a0_2]) (t := 43) ?hr ?_; (case hd => rfl); (case hg => rfl); (case hr => first | (go_simp; done) | (go_simp; rfl)); intro gb176 hg w16 hbox hb; have n0_ := Aside0.mk (below_step (by repeat (first | (with_reducible first | exact HB.out | apply below_alloc | apply pw_below_drewN | apply below_drew1) | exact HB.out)) hb); have n1_ := Aside0.mk (hbox); have n2_ := Aside0.mk ((by rw [hg]; exact (below_size (by repeat (first | (with_reducible first | exact HB.out | apply below_alloc | apply pw_below_drewN | apply below_drew1) | exact HB.out))) : w.heap.size ≤ gb176)); have n3_ := Aside0.mk ((by rw [hg]; exact (below_size (by repeat (first | (with_reducible first | exact HB.out | apply below_alloc | apply pw_below_drewN | apply below_drew1) | exact HB.out))) : w.heap.size ≤ gb176)); clear HB; have HB := n0_; have BK176 := n1_; have GW176 := n2_; have GE176 := n3_; clear n0_ n1_ n2_ n3_; clear hb hbox hg))
            have n0_ := Aside0.mk (blk_drew BK176.out)
            have n1_ := Aside0.mk (below_drew1 HB.out)
            clear BK176
            clear HB
            have BK176 := n0_
            have HB := n1_
            clear n0_ n1_
            refine start_ (n := 7) (S := fun w' => w'.cell? ⟨gb176, 0, none⟩ = some (.int .u8 a0_0) ∧ w'.cell? ⟨gb176, 1, none⟩ = some (.int .i64 a0_1) ∧ w'.cell? ⟨gb176, 2, none⟩ = some (.string a0_2)) (ds := [5]) #[false, false, false, false, false, false, false] (by kernel_rfl) rfl rfl ⟨(blk_cell BK176.out 0).trans rfl, (blk_cell BK176.out 1).trans rfl, (blk_cell BK176.out 2).trans rfl⟩ (fun hHeld => ?_)
            generalize w16.drew = w17 at BK176 HB hHeld ⊢
            refine pure_ (i := 1) (N := some 7) (v := ?_) (a' := ?_) #[false, true, false, false, false, false, false] rfl rfl (by kernel_rfl) (fun _ _ _ h => h) (Or.inl ⟨by rfl, ?_⟩) ?_ ?_
            rotate_left
            · intro w'
              go_simp
              with_reducible rfl
            rotate_left
            · simp only [Act.put, List.setIfInBounds_toArray, List.set_cons_zero, List.set_cons_succ, i64_w, i32_w]
              rfl
            refine take_ (i := 2) (N := some 8) (v := ?_) (a' := ?_) #[false, true, true, false, false, false, false] rfl rfl (by kernel_rfl) (fun _ _ _ h => h) (Or.inl ⟨by rfl, ?_⟩) hHeld ?_ ?_
            rotate_left
            · rintro w' ⟨s0, s1, s2⟩
              go_simp
              with_reducible rfl
            rotate_left
            · simp only [Act.put, List.setIfInBounds_toArray, List.set_cons_zero, List.set_cons_succ, i64_w, i32_w]
              rfl
            refine pure_ (i := 3) (N := some 9) (v := ?_) (a' := ?_) #[false, true, true, true, false, false, false] rfl rfl (by kernel_rfl) (fun _ _ _ h => h) (Or.inl ⟨by rfl, ?_⟩) ?_ ?_
            rotate_left
            · intro w'
              go_simp
              with_reducible rfl
            rotate_left
            · simp only [Act.put, List.setIfInBounds_toArray, List.set_cons_zero, List.set_cons_succ, i64_w, i32_w]
              rfl
            refine one_ (i := 0) (N := some 6) #[true, true, true, true, false, false, false] rfl rfl (by kernel_rfl) (by decide) (fun K hK => ?_)
            refine goes_ Tryz.func39 (by kernel_rfl) rfl #[] (by rfl) rfl rfl (by (try simp only [List.map_toArray, List.map_cons, List.map_nil]); first | done | rfl | (simp only [List.length_drop, List.length_take]; rfl)) ?_
            with_reducible refine (sashref25_Words.calls  t177 _ A2.out).mono ?_
            rintro e w18 ⟨v178, rfl, ho0, hb⟩
            refine ⟨_, rfl, ?_⟩
            have n0_ := Aside0.mk (Kd.R_lower ho0 (below_size (by repeat (first | (with_reducible first | exact HB.out | apply below_alloc | apply pw_below_drewN | apply below_drew1 | refine below_set ?_ GE176.out) | exact HB.out))))
            have n1_ := Aside0.mk (blk_below (g := gb176) (o := .cells #[.int .u8 a0_0, .int .i64 a0_1, .string a0_2] 43 (0, 0)) (by (with_reducible repeat (first | refine blk_drewN ?_ _ | refine blk_drew ?_ | refine blk_alloc ?_ _)); exact BK176.out) hb)
            have n2_ := Aside0.mk (below_step (by repeat (first | (with_reducible first | exact HB.out | apply below_alloc | apply pw_below_drewN | apply below_drew1 | refine below_set ?_ GE176.out) | exact HB.out)) hb)
            clear BK176
            clear HB
            have HO179 := n0_
            have BK176 := n1_
            have HB := n2_
            clear n0_ n1_ n2_
            (try clear hb)
            (try clear hb2)
            (try clear hk)
            (try clear hi)
            (try clear ho0)
            obtain ⟨Ao19, co19, eo19⟩ := Kd.R_slice HO179.out
            (first | subst eo19 | (injection eo19 with f1_ f2_ f3_; have f4_ := f1_.symm; have f5_ := f3_.symm; clear f1_ f2_ f3_; subst f4_; subst f5_))
            have p180 : 0 ≤ ((ji3) : Int) := of_decide_eq_true (by first | (with_reducible assumption) | assumption)
            have q180 : (ji3) < (t177.length : Int) := of_decide_eq_true (by first | (with_reducible assumption) | assumption)
            obtain ⟨ad180, e180, hx180_0⟩ := Kd.at_string (Kd.R_reads' HO179.out).2.2 (ji3) p180 q180
            cases e180
            replace p180 := eq_true p180
            replace q180 := eq_true q180
            refine hK.out _ _ ⟨(blk_cell BK176.out 0).trans rfl, (blk_cell BK176.out 1).trans rfl, (blk_cell BK176.out 2).trans rfl⟩ (fun hHeld => ?_)
            clear hK K
            refine norm_ (a' := ?_) ?_ ?_
            rotate_left
            · show Act.put _ (some 6) _ = _
              simp only [Act.put, List.setIfInBounds_toArray, List.set_cons_zero, List.set_cons_succ, i64_w, i32_w]
              rfl
            refine pure_ (i := 4) (N := some 10) (v := ?_) (a' := ?_) #[true, true, true, true, true, false, false] rfl rfl (by kernel_rfl) (fun _ _ _ h => h) (Or.inl ⟨by rfl, ?_⟩) ?_ ?_
            rotate_left
            · intro w'
              go_simp
              with_reducible rfl
            rotate_left
            · simp only [Act.put, List.setIfInBounds_toArray, List.set_cons_zero, List.set_cons_succ, i64_w, i32_w]
              rfl
            refine last_ (i := 5) (N := some 11) #[true, true, true, true, true, true, false] rfl rfl (by kernel_rfl) (by decide) (fun K hK => ?_)
            refine value_ (w1 := ?_) (v := ?_) (by rfl) rfl ?_ ?_
            rotate_left 2
            · go_simp
              constructor
              · rfl
              · rfl
            refine hK.out _ _ ?_
            clear hK K
            refine norm_ (a' := ?_) ?_ ?_
            rotate_left
            · show Act.put _ (some 11) _ = _
              simp only [Act.put, List.setIfInBounds_toArray, List.set_cons_zero, List.set_cons_succ, i64_w, i32_w]
              rfl
            refine pure_ (i := 6) (N := some 3) (v := ?_) (a' := ?_) #[true, true, true, true, true, true, true] rfl rfl (by kernel_rfl) (fun _ _ _ h => h) (Or.inl ⟨by rfl, ?_⟩) ?_ ?_
            rotate_left
            · intro w'
              go_simp
              with_reducible rfl
            rotate_left
            · simp only [Act.put, List.setIfInBounds_toArray, List.set_cons_zero, List.set_cons_succ, i64_w, i32_w]
              rfl
            refine done_ (by kernel_rfl) ?_
            have hcz20_0 : w18.cell? ⟨gb176, 0, none⟩ = some (.int .u8 a0_0) := (blk_cell BK176.out 0).trans rfl
            have hcz20_1 : w18.cell? ⟨gb176, 1, none⟩ = some (.int .i64 a0_1) := (blk_cell BK176.out 1).trans rfl
            have hcz20_2 : w18.cell? ⟨gb176, 2, none⟩ = some (.string a0_2) := (blk_cell BK176.out 2).trans rfl
            have hfz20_0 := blk_frozen BK176.out 0
            have hfz20_1 := blk_frozen BK176.out 1
            have hfz20_2 := blk_frozen BK176.out 2
            go_upto_region 5 with (first | ((with_reducible refine gate_callee (f := 40) rfl ?_); refine goesL_ (some 20) rfl rfl Tryz.func40 (by kernel_rfl) rfl #[.int .i64 a0_1] rfl (by (try simp only [List.map_toArray, List.map_cons, List.map_nil]); first | done | rfl | (simp only [List.length_drop, List.length_take]; rfl)) ?_; (with_reducible refine (sashref01_Digits.calls k a0_1 t181 _ A13.out).mono ?_); rintro e w' ⟨rfl, ⟨nd, rfl⟩⟩; refine ⟨_, rfl, ?_⟩))
            (try simp only [Act.put, List.setIfInBounds_toArray, List.set_cons_zero, List.set_cons_succ])
            go_cut [29] (fun v29 wc => ∃ (kq : Nat) (x29_14 : Bool), v29 = .bool x29_14 ∧ Aside0 (sashref25_Line.j0 kq (((rdOf ByteArray.empty t177 (ji3)) ++ (⟨#[32]⟩ : ByteArray)) ++ t181) x29_14 a0_0 a0_1 a0_2 = some r) ∧ Aside0 (kq ≤ k) ∧ Aside0 (wc.heap[gb176]? = some (.cells #[.int .u8 a0_0, .int .i64 a0_1, .string a0_2] 43 (0, 0))) ∧ Aside0 (Below w.heap.size w wc))
            case first =>
              have H := HC15.out
              clear HC15
              by_cases c21 : a0_0 = 3
              · rw [if_pos c21] at H
                have c21b0 : (a0_0 == 3) = true := beq_iff_eq.mpr c21
                have c21b1 : (a0_0 != 3) = false := bne_eq_false_iff_eq.mpr c21
                clear c21
                (first | rw [c21b0] | (simp only [i64_w, i32_w]; rw [c21b0]) | skip)
                have H' := Aside0.mk H
                clear H
                have hcz22_0 : w18.cell? ⟨gb176, 0, none⟩ = some (.int .u8 a0_0) := (blk_cell BK176.out 0).trans rfl
                have hcz22_1 : w18.cell? ⟨gb176, 1, none⟩ = some (.int .i64 a0_1) := (blk_cell BK176.out 1).trans rfl
                have hcz22_2 : w18.cell? ⟨gb176, 2, none⟩ = some (.string a0_2) := (blk_cell BK176.out 2).trans rfl
                have hfz22_0 := blk_frozen BK176.out 0
                have hfz22_1 := blk_frozen BK176.out 1
                have hfz22_2 := blk_frozen BK176.out 2
                go_wp2
                go_meet
                case rel => exact ⟨_, ((a0_2.toList == ([] : List UInt8))), (by first | rfl | (simp; done) | (simp [*]; done)), H', ⟨by first | omega | exact Nat.le_refl _⟩, ⟨by (with_reducible repeat (first | refine blk_drewN ?_ _ | refine blk_drew ?_ | refine blk_alloc ?_ _)); exact BK176.out⟩, ⟨by repeat (first | (with_reducible first | exact HB.out | apply below_alloc | apply pw_below_drewN | apply below_drew1 | refine below_set ?_ GE176.out) | exact HB.out)⟩⟩
              · rw [if_neg c21] at H
                have c21b0 : (a0_0 == 3) = false := beq_eq_false_iff_ne.mpr c21
                have c21b1 : (a0_0 != 3) = true := bne_iff_ne.mpr c21
                (first | rw [c21b0] | (simp only [i64_w, i32_w]; rw [c21b0]) | skip)
                have H' := Aside0.mk H
                clear H
                have hcz23_0 : w18.cell? ⟨gb176, 0, none⟩ = some (.int .u8 a0_0) := (blk_cell BK176.out 0).trans rfl
                have hcz23_1 : w18.cell? ⟨gb176, 1, none⟩ = some (.int .i64 a0_1) := (blk_cell BK176.out 1).trans rfl
                have hcz23_2 : w18.cell? ⟨gb176, 2, none⟩ = some (.string a0_2) := (blk_cell BK176.out 2).trans rfl
                have hfz23_0 := blk_frozen BK176.out 0
                have hfz23_1 := blk_frozen BK176.out 1
                have hfz23_2 := blk_frozen BK176.out 2
                go_wp2
                go_meet
                case rel => exact ⟨_, (false), (by first | rfl | (simp; done) | (simp [*]; done)), H', ⟨by first | omega | exact Nat.le_refl _⟩, ⟨by (with_reducible repeat (first | refine blk_drewN ?_ _ | refine blk_drew ?_ | refine blk_alloc ?_ _)); exact BK176.out⟩, ⟨by repeat (first | (with_reducible first | exact HB.out | apply below_alloc | apply pw_below_drewN | apply below_drew1 | refine below_set ?_ GE176.out) | exact HB.out)⟩⟩
            case rest =>
              clear HC15
              try clear c1
              try clear p1
              try clear q1
              try clear hx1
              try clear c2
              try clear p2
              try clear c3
              try clear c4
              try clear c4b0
              try clear c5
              try clear c5b0
              try clear c6
              try clear c6b0
              try clear c6b1
              try clear c12
              try clear c12b0
              try clear c12b1
              try clear c12b2
              try clear c14
              try clear c14b0
              try clear c14b1
              try clear c14b2
              try clear p18
              try clear q18
              try clear hx18
              try clear c21
              try clear c21b0
              try clear c21b1
              try clear c22
              try clear hcz11_0
              try clear hcz11_1
              try clear hcz11_2
              try clear hcz20_0
              try clear hcz20_1
              try clear hcz20_2
              try clear hcz22_0
              try clear hcz22_1
              try clear hcz22_2
              try clear hcz23_0
              try clear hcz23_1
              try clear hcz23_2
              try clear hfz11_0
              try clear hfz11_1
              try clear hfz11_2
              try clear hfz20_0
              try clear hfz20_1
              try clear hfz20_2
              try clear hfz22_0
              try clear hfz22_1
              try clear hfz22_2
              try clear hfz23_0
              try clear hfz23_1
              try clear hfz23_2
              try clear hx180_0
              try clear p180
              try clear q180
              obtain ⟨kq, x29_14, rfl, HA, HJ14, BK176, HB⟩ := hcut
              cases kq with
              | zero => exact absurd HA.out (by simp [sashref25_Line.j0])
              | succ kj14 =>
                have H := HA.out
                clear HA
                simp only [sashref25_Line.j0] at H
                by_cases c24 : x29_14 = true
                · subst c24
                  have H1 : (if (((rdOf ByteArray.empty t177 (ji3)) ++ (⟨#[32]⟩ : ByteArray)) ++ t181).size + 5 ≤ 9223372036854775807 then (some ((((rdOf ByteArray.empty t177 (ji3)) ++ (⟨#[32]⟩ : ByteArray)) ++ t181) ++ (⟨#[32, 110, 111, 110, 101]⟩ : ByteArray))) else (none)) = some r := by rw [if_pos rfl] at H; exact H
                  clear H
                  have H := H1
                  clear H1
                  by_cases c25 : (((rdOf ByteArray.empty t177 (ji3)) ++ (⟨#[32]⟩ : ByteArray)) ++ t181).size + 5 ≤ 9223372036854775807
                  · rw [if_pos c25] at H
                    have c25b0 := eq_true c25
                    have c25b1 : decide ((((rdOf ByteArray.empty t177 (ji3)) ++ (⟨#[32]⟩ : ByteArray)) ++ t181).size + 5 ≤ 9223372036854775807) = true := decide_eq_true c25
                    try have c25b2 : (9223372036854775807 < (((rdOf ByteArray.empty t177 (ji3)) ++ (⟨#[32]⟩ : ByteArray)) ++ t181).size + 5) = False := eq_false (Nat.not_lt.2 c25)
                    try (have c25s := c25; simp only [ByteArray.size_append, (show (⟨#[32]⟩ : ByteArray).size = 1 from rfl)] at c25s; have c25s1 := decide_eq_true c25s; have c25s2 := eq_false (Nat.not_lt.2 c25s); have c25s3 := eq_true c25s)
                    obtain rfl := Option.some.inj H
                    go_wp2
                    go_ret
                    exact ⟨by first | rfl | (simp [errW_none, errW_some] <;> rfl) | (simp only [← hji3]; first | rfl | (simp [errW_none, errW_some] <;> rfl)) | (simp [*, errW_none, errW_some] <;> rfl), by repeat (first | (with_reducible first | exact HB.out | apply below_alloc | apply pw_below_drewN | apply below_drew1 | refine below_set ?_ GE176.out) | exact HB.out)⟩
                  · rw [if_neg c25] at H
                    exact absurd H (by simp)
                · replace c24 := Bool.eq_false_iff.mpr c24
                  subst c24
                  have H1 : (if a0_0 = 3 then (if (((rdOf ByteArray.empty t177 (ji3)) ++ (⟨#[32]⟩ : ByteArray)) ++ t181).size + 1 ≤ 9223372036854775807 then (sashref25_Line.l0 kj14 ((((rdOf ByteArray.empty t177 (ji3)) ++ (⟨#[32]⟩ : ByteArray)) ++ t181) ++ (⟨#[32]⟩ : ByteArray)) 0 a0_0 a0_1 a0_2) else (none)) else (if a0_0 = 4 then (if (((rdOf ByteArray.empty t177 (ji3)) ++ (⟨#[32]⟩ : ByteArray)) ++ t181).size + 1 ≤ 9223372036854775807 then ((sashref20_Quote.f kj14 a0_2).bind fun t184 => (if ((((rdOf ByteArray.empty t177 (ji3)) ++ (⟨#[32]⟩ : ByteArray)) ++ t181) ++ (⟨#[32]⟩ : ByteArray)).size + t184.size ≤ 9223372036854775807 then (some (((((rdOf ByteArray.empty t177 (ji3)) ++ (⟨#[32]⟩ : ByteArray)) ++ t181) ++ (⟨#[32]⟩ : ByteArray)) ++ t184)) else (none))) else (none)) else (if a0_0 = 5 then (if (((rdOf ByteArray.empty t177 (ji3)) ++ (⟨#[32]⟩ : ByteArray)) ++ t181).size + 1 ≤ 9223372036854775807 then ((sashref20_Quote.f kj14 a0_2).bind fun t185 => (if ((((rdOf ByteArray.empty t177 (ji3)) ++ (⟨#[32]⟩ : ByteArray)) ++ t181) ++ (⟨#[32]⟩ : ByteArray)).size + t185.size ≤ 9223372036854775807 then (some (((((rdOf ByteArray.empty t177 (ji3)) ++ (⟨#[32]⟩ : ByteArray)) ++ t181) ++ (⟨#[32]⟩ : ByteArray)) ++ t185)) else (none))) else (none)) else (some (((rdOf ByteArray.empty t177 (ji3)) ++ (⟨#[32]⟩ : ByteArray)) ++ t181))))) = some r := by rw [if_neg (show ¬ (false = true) by decide)] at H; exact H
                  clear H
                  have H := H1
                  clear H1
                  by_cases c26 : a0_0 = 3
                  · rw [if_pos c26] at H
                    have c26b0 : (a0_0 == 3) = true := beq_iff_eq.mpr c26
                    have c26b1 : (a0_0 != 3) = false := bne_eq_false_iff_eq.mpr c26
                    clear c26
                    by_cases c27 : (((rdOf ByteArray.empty t177 (ji3)) ++ (⟨#[32]⟩ : ByteArray)) ++ t181).size + 1 ≤ 9223372036854775807
                    · rw [if_pos c27] at H
                      have c27b0 := eq_true c27
                      have c27b1 : decide ((((rdOf ByteArray.empty t177 (ji3)) ++ (⟨#[32]⟩ : ByteArray)) ++ t181).size + 1 ≤ 9223372036854775807) = true := decide_eq_true c27
                      try have c27b2 : (9223372036854775807 < (((rdOf ByteArray.empty t177 (ji3)) ++ (⟨#[32]⟩ : ByteArray)) ++ t181).size + 1) = False := eq_false (Nat.not_lt.2 c27)
                      try (have c27s := c27; simp only [ByteArray.size_append, (show (⟨#[32]⟩ : ByteArray).size = 1 from rfl)] at c27s; have c27s1 := decide_eq_true c27s; have c27s2 := eq_false (Nat.not_lt.2 c27s); have c27s3 := eq_true c27s)
                      have H' := Aside0.mk H
                      clear H
                      have hcz28_0 : wc.cell? ⟨gb176, 0, none⟩ = some (.int .u8 a0_0) := (blk_cell BK176.out 0).trans rfl
                      have hcz28_1 : wc.cell? ⟨gb176, 1, none⟩ = some (.int .i64 a0_1) := (blk_cell BK176.out 1).trans rfl
                      have hcz28_2 : wc.cell? ⟨gb176, 2, none⟩ = some (.string a0_2) := (blk_cell BK176.out 2).trans rfl
                      have hfz28_0 := blk_frozen BK176.out 0
                      have hfz28_1 := blk_frozen BK176.out 1
                      have hfz28_2 := blk_frozen BK176.out 2
                      go_wp2
                      go_loopg [3, 4] kj14 (fun kq v3 v4 w' => ∃ (x3_2 : ByteArray) (x4_2 : Int), v3 = .string x3_2 ∧ v4 = .int .i64 x4_2 ∧ Aside0 (sashref25_Line.l0 kq x3_2 x4_2 a0_0 a0_1 a0_2 = some r) ∧ Aside0 (kq ≤ kj14) ∧ Aside0 (w'.heap[gb176]? = some (.cells #[.int .u8 a0_0, .int .i64 a0_1, .string a0_2] 43 (0, 0))) ∧ Aside0 (Below w.heap.size w w'))
                      case atStart => exact ⟨((((rdOf ByteArray.empty t177 (ji3)) ++ (⟨#[32]⟩ : ByteArray)) ++ t181) ++ (⟨#[32]⟩ : ByteArray)), (0), (by first | rfl | (simp; done) | (simp only [← hji3] <;> (first | rfl | simp)) | (simp [*]; done)), (by first | rfl | (simp; done) | (simp [*]; done)), H', ⟨Nat.le_refl _⟩, ⟨by (with_reducible repeat (first | refine blk_drewN ?_ _ | refine blk_drew ?_ | refine blk_alloc ?_ _)); exact BK176.out⟩, ⟨by repeat (first | (with_reducible first | exact HB.out | apply below_alloc | apply pw_below_drewN | apply below_drew1 | refine below_set ?_ GE176.out) | exact HB.out)⟩⟩
                      case round =>
                        clear H'
                        try clear c1
                        try clear p1
                        try clear q1
                        try clear hx1
                        try clear c2
                        try clear p2
                        try clear c3
                        try clear c4
                        try clear c4b0
                        try clear c5
                        try clear c5b0
                        try clear c6
                        try clear c6b0
                        try clear c6b1
                        try clear c12
                        try clear c12b0
                        try clear c12b1
                        try clear c12b2
                        try clear c14
                        try clear c14b0
                        try clear c14b1
                        try clear c14b2
                        try clear p18
                        try clear q18
                        try clear hx18
                        try clear c21
                        try clear c21b0
                        try clear c21b1
                        try clear c22
                        try clear c24
                        try clear c25
                        try clear c25b0
                        try clear c25b1
                        try clear c25b2
                        try clear c26
                        try clear c26b0
                        try clear c26b1
                        try clear c27
                        try clear c27b0
                        try clear c27b1
                        try clear c27b2
                        try clear hcz11_0
                        try clear hcz11_1
                        try clear hcz11_2
                        try clear hcz20_0
                        try clear hcz20_1
                        try clear hcz20_2
                        try clear hcz22_0
                        try clear hcz22_1
                        try clear hcz22_2
                        try clear hcz23_0
                        try clear hcz23_1
                        try clear hcz23_2
                        try clear hcz28_0
                        try clear hcz28_1
                        try clear hcz28_2
                        try clear hfz11_0
                        try clear hfz11_1
                        try clear hfz11_2
                        try clear hfz20_0
                        try clear hfz20_1
                        try clear hfz20_2
                        try clear hfz22_0
                        try clear hfz22_1
                        try clear hfz22_2
                        try clear hfz23_0
                        try clear hfz23_1
                        try clear hfz23_2
                        try clear hfz28_0
                        try clear hfz28_1
                        try clear hfz28_2
                        try clear hx180_0
                        try clear p1
                        try clear p18
                        try clear p180
                        try clear p2
                        try clear q1
                        try clear q18
                        try clear q180
                        obtain ⟨x3_2, x4_2, rfl, rfl, HA, HK2, BK176, HB⟩ := hrel
                        cases gk with
                        | zero => exact absurd HA.out (by simp [sashref25_Line.l0])
                        | succ k2 =>
                          have H := HA.out
                          clear HA
                          simp only [sashref25_Line.l0] at H
                          by_cases c29 : x4_2 < (a0_2.size : Int)
                          · rw [if_pos c29] at H
                            have c29b0 : decide (x4_2 < (a0_2.size : Int)) = true := decide_eq_true c29
                            clear c29
                            by_cases c30 : 0 ≤ x4_2
                            · rw [if_pos c30] at H
                              have c30b0 : decide (0 ≤ x4_2) = true := decide_eq_true c30
                              clear c30
                              replace H := Option.bind_eq_some_iff.mp H
                              obtain ⟨t182, A320, H⟩ := H
                              replace H : (if x3_2.size + t182.size ≤ 9223372036854775807 then ((sashref01_Digit.f (Int.tmod (wrap64 (bt a0_2 x4_2)) 16)).bind fun t183 => (if (x3_2 ++ t182).size + t183.size ≤ 9223372036854775807 then (sashref25_Line.l0 k2 ((x3_2 ++ t182) ++ t183) (wrap64 (x4_2 + 1)) a0_0 a0_1 a0_2) else (none))) else (none)) = some r := H
                              have A32 := Aside0.mk A320
                              clear A320
                              by_cases c33 : x3_2.size + t182.size ≤ 9223372036854775807
                              · rw [if_pos c33] at H
                                have c33b0 := eq_true c33
                                have c33b1 : decide (x3_2.size + t182.size ≤ 9223372036854775807) = true := decide_eq_true c33
                                try have c33b2 : (9223372036854775807 < x3_2.size + t182.size) = False := eq_false (Nat.not_lt.2 c33)
                                try (have c33s := c33; simp only [ByteArray.size_append, (show (⟨#[32]⟩ : ByteArray).size = 1 from rfl)] at c33s; have c33s1 := decide_eq_true c33s; have c33s2 := eq_false (Nat.not_lt.2 c33s); have c33s3 := eq_true c33s)
                                replace H := Option.bind_eq_some_iff.mp H
                                obtain ⟨t183, A340, H⟩ := H
                                replace H : (if (x3_2 ++ t182).size + t183.size ≤ 9223372036854775807 then (sashref25_Line.l0 k2 ((x3_2 ++ t182) ++ t183) (wrap64 (x4_2 + 1)) a0_0 a0_1 a0_2) else (none)) = some r := H
                                have A34 := Aside0.mk A340
                                clear A340
                                by_cases c35 : (x3_2 ++ t182).size + t183.size ≤ 9223372036854775807
                                · rw [if_pos c35] at H
                                  have c35b0 := eq_true c35
                                  have c35b1 : decide ((x3_2 ++ t182).size + t183.size ≤ 9223372036854775807) = true := decide_eq_true c35
                                  try have c35b2 : (9223372036854775807 < (x3_2 ++ t182).size + t183.size) = False := eq_false (Nat.not_lt.2 c35)
                                  try (have c35s := c35; simp only [ByteArray.size_append, (show (⟨#[32]⟩ : ByteArray).size = 1 from rfl)] at c35s; have c35s1 := decide_eq_true c35s; have c35s2 := eq_false (Nat.not_lt.2 c35s); have c35s3 := eq_true c35s)
                                  have H' := Aside0.mk H
                                  clear H
                                  have hcz36_0 : wr.cell? ⟨gb176, 0, none⟩ = some (.int .u8 a0_0) := (blk_cell BK176.out 0).trans rfl
                                  have hcz36_1 : wr.cell? ⟨gb176, 1, none⟩ = some (.int .i64 a0_1) := (blk_cell BK176.out 1).trans rfl
                                  have hcz36_2 : wr.cell? ⟨gb176, 2, none⟩ = some (.string a0_2) := (blk_cell BK176.out 2).trans rfl
                                  have hfz36_0 := blk_frozen BK176.out 0
                                  have hfz36_1 := blk_frozen BK176.out 1
                                  have hfz36_2 := blk_frozen BK176.out 2
                                  have p31 : 0 ≤ (x4_2 : Int) := of_decide_eq_true (by first | (with_reducible assumption) | assumption)
                                  have q31 : x4_2 < (a0_2.size : Int) := of_decide_eq_true (by first | (with_reducible assumption) | assumption)
                                  have hx31 := bt_at a0_2 x4_2
                                  replace p31 := eq_true p31
                                  replace q31 := eq_true q31
                                  go_wp2_with (first | ((with_reducible refine gate_callee (f := 41) rfl ?_); refine goesL_ (some 52) rfl rfl Tryz.func41 (by kernel_rfl) rfl #[.int .i64 (wrap64 (Int.tdiv (wrap64 (bt a0_2 x4_2)) 16))] rfl (by (try simp only [List.map_toArray, List.map_cons, List.map_nil]); first | done | rfl | (simp only [List.length_drop, List.length_take]; rfl)) ?_; (with_reducible refine (sashref01_Digit.calls (wrap64 (Int.tdiv (wrap64 (bt a0_2 x4_2)) 16)) t182 _ A32.out).mono ?_); rintro e w' ⟨rfl, ⟨nd, rfl⟩⟩; refine ⟨_, rfl, ?_⟩) | ((with_reducible refine gate_callee (f := 41) rfl ?_); refine goesL_ (some 56) rfl rfl Tryz.func41 (by kernel_rfl) rfl #[.int .i64 (Int.tmod (wrap64 (bt a0_2 x4_2)) 16)] rfl (by (try simp only [List.map_toArray, List.map_cons, List.map_nil]); first | done | rfl | (simp only [List.length_drop, List.length_take]; rfl)) ?_; (with_reducible refine (sashref01_Digit.calls (Int.tmod (wrap64 (bt a0_2 x4_2)) 16) t183 _ A34.out).mono ?_); rintro e w' ⟨rfl, ⟨nd, rfl⟩⟩; refine ⟨_, rfl, ?_⟩))
                                  go_roundg k2
                                  case measure => have := HJ14.out; have := HK2.out; omega
                                  case rel => exact ⟨((x3_2 ++ t182) ++ t183), (wrap64 (x4_2 + 1)), (by first | rfl | (simp; done) | (simp [*]; done)), (by first | rfl | (simp; done) | (simp [*]; done)), H', ⟨by have := HJ14.out; have := HK2.out; omega⟩, ⟨by (with_reducible repeat (first | refine blk_drewN ?_ _ | refine blk_drew ?_ | refine blk_alloc ?_ _)); exact BK176.out⟩, ⟨by repeat (first | (with_reducible first | exact HB.out | apply below_alloc | apply pw_below_drewN | apply below_drew1 | refine below_set ?_ GE176.out) | exact HB.out)⟩⟩
                                · rw [if_neg c35] at H
                                  exact absurd H (by simp)
                              · rw [if_neg c33] at H
                                exact absurd H (by simp)
                            · rw [if_neg c30] at H
                              exact absurd H (by simp)
                          · rw [if_neg c29] at H
                            have c29b0 : decide (x4_2 < (a0_2.size : Int)) = false := decide_eq_false c29
                            clear c29
                            obtain rfl := Option.some.inj H
                            have hcz37_0 : wr.cell? ⟨gb176, 0, none⟩ = some (.int .u8 a0_0) := (blk_cell BK176.out 0).trans rfl
                            have hcz37_1 : wr.cell? ⟨gb176, 1, none⟩ = some (.int .i64 a0_1) := (blk_cell BK176.out 1).trans rfl
                            have hcz37_2 : wr.cell? ⟨gb176, 2, none⟩ = some (.string a0_2) := (blk_cell BK176.out 2).trans rfl
                            have hfz37_0 := blk_frozen BK176.out 0
                            have hfz37_1 := blk_frozen BK176.out 1
                            have hfz37_2 := blk_frozen BK176.out 2
                            go_wp2
                            go_ret
                            exact ⟨by first | rfl | (simp [errW_none, errW_some] <;> rfl) | (simp only [← hji3]; first | rfl | (simp [errW_none, errW_some] <;> rfl)) | (simp [*, errW_none, errW_some] <;> rfl), by repeat (first | (with_reducible first | exact HB.out | apply below_alloc | apply pw_below_drewN | apply below_drew1 | refine below_set ?_ GE176.out) | exact HB.out)⟩
                    · rw [if_neg c27] at H
                      exact absurd H (by simp)
                  · rw [if_neg c26] at H
                    have c26b0 : (a0_0 == 3) = false := beq_eq_false_iff_ne.mpr c26
                    have c26b1 : (a0_0 != 3) = true := bne_iff_ne.mpr c26
                    by_cases c38 : a0_0 = 4
                    · rw [if_pos c38] at H
                      have c38b0 : (a0_0 == 4) = true := beq_iff_eq.mpr c38
                      have c38b1 : (a0_0 != 4) = false := bne_eq_false_iff_eq.mpr c38
                      clear c38
                      by_cases c39 : (((rdOf ByteArray.empty t177 (ji3)) ++ (⟨#[32]⟩ : ByteArray)) ++ t181).size + 1 ≤ 9223372036854775807
                      · rw [if_pos c39] at H
                        have c39b0 := eq_true c39
                        have c39b1 : decide ((((rdOf ByteArray.empty t177 (ji3)) ++ (⟨#[32]⟩ : ByteArray)) ++ t181).size + 1 ≤ 9223372036854775807) = true := decide_eq_true c39
                        try have c39b2 : (9223372036854775807 < (((rdOf ByteArray.empty t177 (ji3)) ++ (⟨#[32]⟩ : ByteArray)) ++ t181).size + 1) = False := eq_false (Nat.not_lt.2 c39)
                        try (have c39s := c39; simp only [ByteArray.size_append, (show (⟨#[32]⟩ : ByteArray).size = 1 from rfl)] at c39s; have c39s1 := decide_eq_true c39s; have c39s2 := eq_false (Nat.not_lt.2 c39s); have c39s3 := eq_true c39s)
                        replace H := Option.bind_eq_some_iff.mp H
                        obtain ⟨t184, A400, H⟩ := H
                        replace H : (if ((((rdOf ByteArray.empty t177 (ji3)) ++ (⟨#[32]⟩ : ByteArray)) ++ t181) ++ (⟨#[32]⟩ : ByteArray)).size + t184.size ≤ 9223372036854775807 then (some (((((rdOf ByteArray.empty t177 (ji3)) ++ (⟨#[32]⟩ : ByteArray)) ++ t181) ++ (⟨#[32]⟩ : ByteArray)) ++ t184)) else (none)) = some r := H
                        have A40 := Aside0.mk A400
                        clear A400
                        by_cases c41 : ((((rdOf ByteArray.empty t177 (ji3)) ++ (⟨#[32]⟩ : ByteArray)) ++ t181) ++ (⟨#[32]⟩ : ByteArray)).size + t184.size ≤ 9223372036854775807
                        · rw [if_pos c41] at H
                          have c41b0 := eq_true c41
                          have c41b1 : decide (((((rdOf ByteArray.empty t177 (ji3)) ++ (⟨#[32]⟩ : ByteArray)) ++ t181) ++ (⟨#[32]⟩ : ByteArray)).size + t184.size ≤ 9223372036854775807) = true := decide_eq_true c41
                          try have c41b2 : (9223372036854775807 < ((((rdOf ByteArray.empty t177 (ji3)) ++ (⟨#[32]⟩ : ByteArray)) ++ t181) ++ (⟨#[32]⟩ : ByteArray)).size + t184.size) = False := eq_false (Nat.not_lt.2 c41)
                          try (have c41s := c41; simp only [ByteArray.size_append, (show (⟨#[32]⟩ : ByteArray).size = 1 from rfl)] at c41s; have c41s1 := decide_eq_true c41s; have c41s2 := eq_false (Nat.not_lt.2 c41s); have c41s3 := eq_true c41s)
                          obtain rfl := Option.some.inj H
                          have hcz42_0 : wc.cell? ⟨gb176, 0, none⟩ = some (.int .u8 a0_0) := (blk_cell BK176.out 0).trans rfl
                          have hcz42_1 : wc.cell? ⟨gb176, 1, none⟩ = some (.int .i64 a0_1) := (blk_cell BK176.out 1).trans rfl
                          have hcz42_2 : wc.cell? ⟨gb176, 2, none⟩ = some (.string a0_2) := (blk_cell BK176.out 2).trans rfl
                          have hfz42_0 := blk_frozen BK176.out 0
                          have hfz42_1 := blk_frozen BK176.out 1
                          have hfz42_2 := blk_frozen BK176.out 2
                          go_wp2_with (first | ((with_reducible refine gate_callee (f := 42) rfl ?_); refine goesL_ (some 71) rfl rfl Tryz.func42 (by kernel_rfl) rfl #[.string a0_2] rfl (by (try simp only [List.map_toArray, List.map_cons, List.map_nil]); first | done | rfl | (simp only [List.length_drop, List.length_take]; rfl)) ?_; (with_reducible refine (sashref20_Quote.calls kj14 a0_2 t184 _ A40.out).mono ?_); rintro e w' ⟨rfl, ⟨nd, rfl⟩⟩; refine ⟨_, rfl, ?_⟩))
                          go_ret
                          exact ⟨by first | rfl | (simp [errW_none, errW_some] <;> rfl) | (simp only [← hji3]; first | rfl | (simp [errW_none, errW_some] <;> rfl)) | (simp [*, errW_none, errW_some] <;> rfl), by repeat (first | (with_reducible first | exact HB.out | apply below_alloc | apply pw_below_drewN | apply below_drew1 | refine below_set ?_ GE176.out) | exact HB.out)⟩
                        · rw [if_neg c41] at H
                          exact absurd H (by simp)
                      · rw [if_neg c39] at H
                        exact absurd H (by simp)
                    · rw [if_neg c38] at H
                      have c38b0 : (a0_0 == 4) = false := beq_eq_false_iff_ne.mpr c38
                      have c38b1 : (a0_0 != 4) = true := bne_iff_ne.mpr c38
                      by_cases c43 : a0_0 = 5
                      · rw [if_pos c43] at H
                        have c43b0 : (a0_0 == 5) = true := beq_iff_eq.mpr c43
                        have c43b1 : (a0_0 != 5) = false := bne_eq_false_iff_eq.mpr c43
                        clear c43
                        by_cases c44 : (((rdOf ByteArray.empty t177 (ji3)) ++ (⟨#[32]⟩ : ByteArray)) ++ t181).size + 1 ≤ 9223372036854775807
                        · rw [if_pos c44] at H
                          have c44b0 := eq_true c44
                          have c44b1 : decide ((((rdOf ByteArray.empty t177 (ji3)) ++ (⟨#[32]⟩ : ByteArray)) ++ t181).size + 1 ≤ 9223372036854775807) = true := decide_eq_true c44
                          try have c44b2 : (9223372036854775807 < (((rdOf ByteArray.empty t177 (ji3)) ++ (⟨#[32]⟩ : ByteArray)) ++ t181).size + 1) = False := eq_false (Nat.not_lt.2 c44)
                          try (have c44s := c44; simp only [ByteArray.size_append, (show (⟨#[32]⟩ : ByteArray).size = 1 from rfl)] at c44s; have c44s1 := decide_eq_true c44s; have c44s2 := eq_false (Nat.not_lt.2 c44s); have c44s3 := eq_true c44s)
                          replace H := Option.bind_eq_some_iff.mp H
                          obtain ⟨t185, A450, H⟩ := H
                          replace H : (if ((((rdOf ByteArray.empty t177 (ji3)) ++ (⟨#[32]⟩ : ByteArray)) ++ t181) ++ (⟨#[32]⟩ : ByteArray)).size + t185.size ≤ 9223372036854775807 then (some (((((rdOf ByteArray.empty t177 (ji3)) ++ (⟨#[32]⟩ : ByteArray)) ++ t181) ++ (⟨#[32]⟩ : ByteArray)) ++ t185)) else (none)) = some r := H
                          have A45 := Aside0.mk A450
                          clear A450
                          by_cases c46 : ((((rdOf ByteArray.empty t177 (ji3)) ++ (⟨#[32]⟩ : ByteArray)) ++ t181) ++ (⟨#[32]⟩ : ByteArray)).size + t185.size ≤ 9223372036854775807
                          · rw [if_pos c46] at H
                            have c46b0 := eq_true c46
                            have c46b1 : decide (((((rdOf ByteArray.empty t177 (ji3)) ++ (⟨#[32]⟩ : ByteArray)) ++ t181) ++ (⟨#[32]⟩ : ByteArray)).size + t185.size ≤ 9223372036854775807) = true := decide_eq_true c46
                            try have c46b2 : (9223372036854775807 < ((((rdOf ByteArray.empty t177 (ji3)) ++ (⟨#[32]⟩ : ByteArray)) ++ t181) ++ (⟨#[32]⟩ : ByteArray)).size + t185.size) = False := eq_false (Nat.not_lt.2 c46)
                            try (have c46s := c46; simp only [ByteArray.size_append, (show (⟨#[32]⟩ : ByteArray).size = 1 from rfl)] at c46s; have c46s1 := decide_eq_true c46s; have c46s2 := eq_false (Nat.not_lt.2 c46s); have c46s3 := eq_true c46s)
                            obtain rfl := Option.some.inj H
                            have hcz47_0 : wc.cell? ⟨gb176, 0, none⟩ = some (.int .u8 a0_0) := (blk_cell BK176.out 0).trans rfl
                            have hcz47_1 : wc.cell? ⟨gb176, 1, none⟩ = some (.int .i64 a0_1) := (blk_cell BK176.out 1).trans rfl
                            have hcz47_2 : wc.cell? ⟨gb176, 2, none⟩ = some (.string a0_2) := (blk_cell BK176.out 2).trans rfl
                            have hfz47_0 := blk_frozen BK176.out 0
                            have hfz47_1 := blk_frozen BK176.out 1
                            have hfz47_2 := blk_frozen BK176.out 2
                            go_wp2_with (first | ((with_reducible refine gate_callee (f := 42) rfl ?_); refine goesL_ (some 71) rfl rfl Tryz.func42 (by kernel_rfl) rfl #[.string a0_2] rfl (by (try simp only [List.map_toArray, List.map_cons, List.map_nil]); first | done | rfl | (simp only [List.length_drop, List.length_take]; rfl)) ?_; (with_reducible refine (sashref20_Quote.calls kj14 a0_2 t185 _ A45.out).mono ?_); rintro e w' ⟨rfl, ⟨nd, rfl⟩⟩; refine ⟨_, rfl, ?_⟩))
                            go_ret
                            exact ⟨by first | rfl | (simp [errW_none, errW_some] <;> rfl) | (simp only [← hji3]; first | rfl | (simp [errW_none, errW_some] <;> rfl)) | (simp [*, errW_none, errW_some] <;> rfl), by repeat (first | (with_reducible first | exact HB.out | apply below_alloc | apply pw_below_drewN | apply below_drew1 | refine below_set ?_ GE176.out) | exact HB.out)⟩
                          · rw [if_neg c46] at H
                            exact absurd H (by simp)
                        · rw [if_neg c44] at H
                          exact absurd H (by simp)
                      · rw [if_neg c43] at H
                        have c43b0 : (a0_0 == 5) = false := beq_eq_false_iff_ne.mpr c43
                        have c43b1 : (a0_0 != 5) = true := bne_iff_ne.mpr c43
                        obtain rfl := Option.some.inj H
                        have hcz48_0 : wc.cell? ⟨gb176, 0, none⟩ = some (.int .u8 a0_0) := (blk_cell BK176.out 0).trans rfl
                        have hcz48_1 : wc.cell? ⟨gb176, 1, none⟩ = some (.int .i64 a0_1) := (blk_cell BK176.out 1).trans rfl
                        have hcz48_2 : wc.cell? ⟨gb176, 2, none⟩ = some (.string a0_2) := (blk_cell BK176.out 2).trans rfl
                        have hfz48_0 := blk_frozen BK176.out 0
                        have hfz48_1 := blk_frozen BK176.out 1
                        have hfz48_2 := blk_frozen BK176.out 2
                        go_wp2
                        go_ret
                        exact ⟨by first | rfl | (simp [errW_none, errW_some] <;> rfl) | (simp only [← hji3]; first | rfl | (simp [errW_none, errW_some] <;> rfl)) | (simp [*, errW_none, errW_some] <;> rfl), by repeat (first | (with_reducible first | exact HB.out | apply below_alloc | apply pw_below_drewN | apply below_drew1 | refine below_set ?_ GE176.out) | exact HB.out)⟩
          · rw [if_neg c14] at H
            exact absurd H (by simp)
        · rw [if_neg c12] at H
          exact absurd H (by simp)
    · rw [if_neg c5] at H
      exact absurd H (by simp)
  · rw [if_neg c4] at H
    exact absurd H (by simp)

end Go.Proofs.YtmcjfnebkpifnaaGreatDoor.PScriptReads
