/-
  Joined texts: PsEat, PsNum, PsRect, TiPure, PsCell.
-/
import Derived.Test.YtkobpbbegalfpaaGreatDoorPsBase
namespace Go.Proofs.YtkobpbbegalfpaaGreatDoor
open Go.RowKit YtkobpbbegalfpaaGreatDoorW.PrintWords YtkobpbbegalfpaaGreatDoorW.PrintLast YtkobpbbegalfpaaGreatDoorW.PrintMore
set_option linter.unusedVariables false
set_option linter.unusedSimpArgs false
set_option maxRecDepth 100000
set_option maxHeartbeats 4000000 in
theorem eat_yes (w : World) (b : Nat) (s : ByteArray) (i : Nat) (off c : Int) (hs : s.size ≤ 100000) (h : i < s.size) (hc : (s[i].toNat : Int) = c) (k : RdA w b s i off) :
  Calls Tryz.prog 70 #[.pointer (some ⟨b, 0, none⟩), .int .u8 c] w fun e w' => e = .returned (.tuple #[]) ∧ Step w b ((i : Int) + 1) w' := by
 have hi : i ≤ s.size := by omega
 obtain ⟨c0, c1, c2⟩ := k.cells
 obtain ⟨f0, f1, f2⟩ := k.fro
 have HK := ak k
 have CS : Aside0 (∀ W', Below w.heap.size w W' → (W'.cell? ⟨b, 0, none⟩ = some (.string s) ∧ W'.cell? ⟨b, 1, none⟩ = some (.int .i64 (i : Int)))) := ⟨fun W' hb => ⟨((HK.out.below hb).cells).1, ((HK.out.below hb).cells).2.1⟩⟩
 have HAH : Aside0 (∀ W', Below w.heap.size w W' → Calls Tryz.prog 68 #[.pointer (some ⟨b, 0, none⟩)] W' fun e w'' => e = .returned (.int .u8 (aheadI s i)) ∧ Below w.heap.size w w'') :=
  ⟨fun W' hb => (rahead_calls W' b s i off hi (HK.out.below hb)).mono fun e w'' ⟨p1, p2⟩ => ⟨p1, hb.trans (p2.mono hb.size)⟩⟩
 have hbd : Below w.heap.size w w.drew := below_drew (Below.refl _ _)
 have ea : aheadI s i = c := (dif_pos h).trans hc
 rw [ea] at HAH
 have n1 : (c == c) = true := beq_self_eq_true _
 have n2 : (c != c) = false := by rw [bne, n1]; rfl
 have m1 : ((i : Int) == (s.size : Int)) = false := beq_eq_false_iff_ne.2 (by omega)
 have hw : wrap64 ((i : Int) + 1) = (i : Int) + 1 := by unfold wrap64; omega
 have HW := ak hw
 clear hw k ea hc
 go_enter Tryz.func70, Tryz.ntmps70
 go_upto_region 0 with fail
 refine start_ (n := 16) (S := fun w' => w'.cell? ⟨b, 0, none⟩ = some (.string s) ∧ w'.cell? ⟨b, 1, none⟩ = some (.int .i64 (i : Int))) (ds := []) #[false, false, false, false, false, false, false, false, false, false, false, false, false, false, false, false] (by kernel_rfl) rfl rfl ⟨(CS.out _ hbd).1, (CS.out _ hbd).2⟩ (fun hHeld => ?_)
 refine pu2 0 (some 4) #[true, false, false, false, false, false, false, false, false, false, false, false, false, false, false, false] (h := ?_)
 refine pu2 2 (some 6) #[true, false, true, false, false, false, false, false, false, false, false, false, false, false, false, false] (h := ?_)
 refine one_ (i := 1) (N := some 5) #[true, true, true, false, false, false, false, false, false, false, false, false, false, false, false, false] rfl rfl (by kernel_rfl) (by decide) (fun K hK => ?_)
 refine goes_ Tryz.func68 (by kernel_rfl) rfl #[.pointer (some ⟨b, 0, none⟩)] (by rfl) rfl rfl (by simp only [List.map_toArray, List.map_cons, List.map_nil]; rfl) ?_
 with_reducible refine (HAH.out _ hbd).mono ?_
 rintro ev wm ⟨rfl, hbm⟩
 refine ⟨_, rfl, ?_⟩
 refine hK.out _ _ ⟨(CS.out _ hbm).1, (CS.out _ hbm).2⟩ (fun hHeld => ?_)
 clear hK K
 refine norm_ (a' := ?_) ?_ ?_
 rotate_left
 ·show Act.put _ (some 5) _ = _
  simp only [Act.put, List.setIfInBounds_toArray, List.set_cons_zero, List.set_cons_succ, i64_w, i32_w]
  rfl
 refine pu2 3 (some 7) #[true, true, true, true, false, false, false, false, false, false, false, false, false, false, false, false] (h := ?_)
 refine pu2 4 (some 8) #[true, true, true, true, true, false, false, false, false, false, false, false, false, false, false, false] (h := ?_)
 refine pu2 5 (some 9) #[true, true, true, true, true, true, false, false, false, false, false, false, false, false, false, false] (h := ?_)
 refine pu2 6 (some 10) #[true, true, true, true, true, true, true, false, false, false, false, false, false, false, false, false] (h := ?_)
 refine pu2 7 (some 11) #[true, true, true, true, true, true, true, true, false, false, false, false, false, false, false, false] (h := ?_)
 refine pu2 9 (some 13) #[true, true, true, true, true, true, true, true, false, true, false, false, false, false, false, false] (h := ?_)
 refine pu2 10 (some 14) #[true, true, true, true, true, true, true, true, false, true, true, false, false, false, false, false] (h := ?_)
 refine pu2 11 (some 15) #[true, true, true, true, true, true, true, true, false, true, true, true, false, false, false, false] (h := ?_)
 refine tk2 8 (some 12) #[true, true, true, true, true, true, true, true, true, true, true, true, false, false, false, false] (h := ?_)
 refine tk2 12 (some 16) #[true, true, true, true, true, true, true, true, true, true, true, true, true, false, false, false] (h := ?_)
 refine pu2 13 (some 17) #[true, true, true, true, true, true, true, true, true, true, true, true, true, true, false, false] (h := ?_)
 refine pu2 14 (some 18) #[true, true, true, true, true, true, true, true, true, true, true, true, true, true, true, false] (h := ?_)
 refine pu2 15 (some 19) #[true, true, true, true, true, true, true, true, true, true, true, true, true, true, true, true] (h := ?_)
 refine done_ (by kernel_rfl) ?_
 obtain ⟨d0, d1, d2⟩ := (HK.out.below hbm).cells
 obtain ⟨e0, e1, e2⟩ := (HK.out.below hbm).fro
 have hw := HW.out
 go_wp2
 go_end0
 refine ⟨rfl, Step.trans HK.out (Step.of_below HK.out hbm) ?_⟩
 exact Below.refl _ _
set_option maxHeartbeats 4000000 in
theorem eat_no (w : World) (b : Nat) (s : ByteArray) (i : Nat) (off c : Int) (hs : s.size ≤ 100000) (ho : 0 ≤ off ∧ off ≤ 1000) (hi : i ≤ s.size) (hc : ¬ aheadI s i = c) (k : RdA w b s i off) :
  Calls Tryz.prog 70 #[.pointer (some ⟨b, 0, none⟩), .int .u8 c] w fun e w' => Thrown w 2 (off + i) e w' ∧ Below w.heap.size w w' := by
 obtain ⟨c0, c1, c2⟩ := k.cells
 obtain ⟨f0, f1, f2⟩ := k.fro
 have HK := ak k
 have CS : Aside0 (∀ W', Below w.heap.size w W' → (W'.cell? ⟨b, 0, none⟩ = some (.string s) ∧ W'.cell? ⟨b, 1, none⟩ = some (.int .i64 (i : Int)))) := ⟨fun W' hb => ⟨((HK.out.below hb).cells).1, ((HK.out.below hb).cells).2.1⟩⟩
 have HAH : Aside0 (∀ W', Below w.heap.size w W' → Calls Tryz.prog 68 #[.pointer (some ⟨b, 0, none⟩)] W' fun e w'' => e = .returned (.int .u8 (aheadI s i)) ∧ Below w.heap.size w w'') :=
  ⟨fun W' hb => (rahead_calls W' b s i off hi (HK.out.below hb)).mono fun e w'' ⟨p1, p2⟩ => ⟨p1, hb.trans (p2.mono hb.size)⟩⟩
 have hbd : Below w.heap.size w w.drew := below_drew (Below.refl _ _)
 obtain ⟨x, hx⟩ : ∃ x, x = aheadI s i := ⟨_, rfl⟩
 rw [← hx] at HAH hc
 have n1 : (x == c) = false := beq_eq_false_iff_ne.2 hc
 have n2 : (x != c) = true := by rw [bne, n1]; rfl
 have hw : IntKind.i64.wrap (off + (i : Int)) = off + (i : Int) := by rw [i64_w]; unfold wrap64; omega
 have HF : Aside0 (∀ W', Below w.heap.size w W' → Calls Tryz.prog 48 #[.pointer (some ⟨b, 0, none⟩), .int .i64 2, .int .i64 (i : Int)] W' fun e w'' => Thrown w 2 (off + i) e w'' ∧ Below w.heap.size w w'') :=
  ⟨fun W' hb => (fail_calls W' b s i off 2 i (by decide) hw (HK.out.below hb)).mono fun e w'' ⟨⟨g, p1, p2, p3⟩, p4⟩ => ⟨⟨g, p1, Nat.le_trans hb.size p2, p3⟩, hb.trans (p4.mono hb.size)⟩⟩
 clear hw k hx hc
 go_enter Tryz.func70, Tryz.ntmps70
 go_upto_region 0 with fail
 refine start_ (n := 16) (S := fun w' => w'.cell? ⟨b, 0, none⟩ = some (.string s) ∧ w'.cell? ⟨b, 1, none⟩ = some (.int .i64 (i : Int))) (ds := []) #[false, false, false, false, false, false, false, false, false, false, false, false, false, false, false, false] (by kernel_rfl) rfl rfl ⟨(CS.out _ hbd).1, (CS.out _ hbd).2⟩ (fun hHeld => ?_)
 refine pu2 0 (some 4) #[true, false, false, false, false, false, false, false, false, false, false, false, false, false, false, false] (h := ?_)
 refine pu2 2 (some 6) #[true, false, true, false, false, false, false, false, false, false, false, false, false, false, false, false] (h := ?_)
 refine one_ (i := 1) (N := some 5) #[true, true, true, false, false, false, false, false, false, false, false, false, false, false, false, false] rfl rfl (by kernel_rfl) (by decide) (fun K hK => ?_)
 refine goes_ Tryz.func68 (by kernel_rfl) rfl #[.pointer (some ⟨b, 0, none⟩)] (by rfl) rfl rfl (by simp only [List.map_toArray, List.map_cons, List.map_nil]; rfl) ?_
 with_reducible refine (HAH.out _ hbd).mono ?_
 rintro ev wm ⟨rfl, hbm⟩
 refine ⟨_, rfl, ?_⟩
 refine hK.out _ _ ⟨(CS.out _ hbm).1, (CS.out _ hbm).2⟩ (fun hHeld => ?_)
 clear hK K
 refine norm_ (a' := ?_) ?_ ?_
 rotate_left
 ·show Act.put _ (some 5) _ = _
  simp only [Act.put, List.setIfInBounds_toArray, List.set_cons_zero, List.set_cons_succ, i64_w, i32_w]
  rfl
 refine pu2 3 (some 7) #[true, true, true, true, false, false, false, false, false, false, false, false, false, false, false, false] (h := ?_)
 refine pu2 4 (some 8) #[true, true, true, true, true, false, false, false, false, false, false, false, false, false, false, false] (h := ?_)
 refine pure_ (i := 5) (N := some 9) (v := undef) (a' := ?_) #[true, true, true, true, true, true, false, false, false, false, false, false, false, false, false, false] rfl rfl (by kernel_rfl) (fun _ _ _ h => h) (Or.inr ⟨by rfl, rfl⟩) ?_ ?_
 rotate_left
 ·simp only [Act.put, List.setIfInBounds_toArray, List.set_cons_zero, List.set_cons_succ, i64_w, i32_w]
  rfl
 refine pure_ (i := 6) (N := some 10) (v := undef) (a' := ?_) #[true, true, true, true, true, true, true, false, false, false, false, false, false, false, false, false] rfl rfl (by kernel_rfl) (fun _ _ _ h => h) (Or.inr ⟨by rfl, rfl⟩) ?_ ?_
 rotate_left
 ·simp only [Act.put, List.setIfInBounds_toArray, List.set_cons_zero, List.set_cons_succ, i64_w, i32_w]
  rfl
 refine pure_ (i := 7) (N := some 11) (v := undef) (a' := ?_) #[true, true, true, true, true, true, true, true, false, false, false, false, false, false, false, false] rfl rfl (by kernel_rfl) (fun _ _ _ h => h) (Or.inr ⟨by rfl, rfl⟩) ?_ ?_
 rotate_left
 ·simp only [Act.put, List.setIfInBounds_toArray, List.set_cons_zero, List.set_cons_succ, i64_w, i32_w]
  rfl
 refine pure_ (i := 8) (N := some 12) (v := undef) (a' := ?_) #[true, true, true, true, true, true, true, true, true, false, false, false, false, false, false, false] rfl rfl (by kernel_rfl) (fun _ _ _ h => h) (Or.inr ⟨by rfl, rfl⟩) ?_ ?_
 rotate_left
 ·simp only [Act.put, List.setIfInBounds_toArray, List.set_cons_zero, List.set_cons_succ, i64_w, i32_w]
  rfl
 refine pure_ (i := 9) (N := some 13) (v := undef) (a' := ?_) #[true, true, true, true, true, true, true, true, true, true, false, false, false, false, false, false] rfl rfl (by kernel_rfl) (fun _ _ _ h => h) (Or.inr ⟨by rfl, rfl⟩) ?_ ?_
 rotate_left
 ·simp only [Act.put, List.setIfInBounds_toArray, List.set_cons_zero, List.set_cons_succ, i64_w, i32_w]
  rfl
 refine pure_ (i := 10) (N := some 14) (v := undef) (a' := ?_) #[true, true, true, true, true, true, true, true, true, true, true, false, false, false, false, false] rfl rfl (by kernel_rfl) (fun _ _ _ h => h) (Or.inr ⟨by rfl, rfl⟩) ?_ ?_
 rotate_left
 ·simp only [Act.put, List.setIfInBounds_toArray, List.set_cons_zero, List.set_cons_succ, i64_w, i32_w]
  rfl
 refine pure_ (i := 11) (N := some 15) (v := undef) (a' := ?_) #[true, true, true, true, true, true, true, true, true, true, true, true, false, false, false, false] rfl rfl (by kernel_rfl) (fun _ _ _ h => h) (Or.inr ⟨by rfl, rfl⟩) ?_ ?_
 rotate_left
 ·simp only [Act.put, List.setIfInBounds_toArray, List.set_cons_zero, List.set_cons_succ, i64_w, i32_w]
  rfl
 refine pure_ (i := 12) (N := some 16) (v := undef) (a' := ?_) #[true, true, true, true, true, true, true, true, true, true, true, true, true, false, false, false] rfl rfl (by kernel_rfl) (fun _ _ _ h => h) (Or.inr ⟨by rfl, rfl⟩) ?_ ?_
 rotate_left
 ·simp only [Act.put, List.setIfInBounds_toArray, List.set_cons_zero, List.set_cons_succ, i64_w, i32_w]
  rfl
 refine pure_ (i := 13) (N := some 17) (v := undef) (a' := ?_) #[true, true, true, true, true, true, true, true, true, true, true, true, true, true, false, false] rfl rfl (by kernel_rfl) (fun _ _ _ h => h) (Or.inr ⟨by rfl, rfl⟩) ?_ ?_
 rotate_left
 ·simp only [Act.put, List.setIfInBounds_toArray, List.set_cons_zero, List.set_cons_succ, i64_w, i32_w]
  rfl
 refine pure_ (i := 14) (N := some 18) (v := undef) (a' := ?_) #[true, true, true, true, true, true, true, true, true, true, true, true, true, true, true, false] rfl rfl (by kernel_rfl) (fun _ _ _ h => h) (Or.inr ⟨by rfl, rfl⟩) ?_ ?_
 rotate_left
 ·simp only [Act.put, List.setIfInBounds_toArray, List.set_cons_zero, List.set_cons_succ, i64_w, i32_w]
  rfl
 refine pu2 15 (some 19) #[true, true, true, true, true, true, true, true, true, true, true, true, true, true, true, true] (h := ?_)
 refine done_ (by kernel_rfl) ?_
 obtain ⟨d0, d1, d2⟩ := (HK.out.below hbm).cells
 go_wp2_with fail
 with_reducible refine (HF.out _ hbm).mono ?_
 rintro e w2 ⟨⟨g, rfl, hg, hg2⟩, hb2⟩
 exact ⟨rfl, ⟨g, rfl, hg, hg2⟩, hb2⟩
structure HeadC (hd : ByteArray → Int × Int × Int) (b : Nat) (I : World → Prop) : Prop where
 bel : ∀ W W', I W → Below W.heap.size W W' → I W'
 set : ∀ W v, I W → I (W.setCell ⟨b, 1, none⟩ v)
 call : ∀ W a, I W → a.size ≤ 100000 → Calls Tryz.prog 95 #[.string a] W fun e w' => e = .returned (.tuple #[.int .i64 (hd a).1, .int .i64 (hd a).2.1, .int .i64 (hd a).2.2]) ∧ Below W.heap.size W w'
theorem HeadC.step {hd : ByteArray → Int × Int × Int} {b : Nat} {I : World → Prop} (hc : HeadC hd b I) {w w' : World} {j : Int} (hI : I w) (h : Step w b j w') : I w' :=
 hc.bel _ _ (hc.set _ _ hI) (by rw [size_set]; exact h)
set_option maxHeartbeats 4000000 in
theorem num_yes (hd : ByteArray → Int × Int × Int) (I : World → Prop) (w : World) (b : Nat) (s : ByteArray) (i : Nat) (off N D E : Int) (hs : s.size ≤ 100000) (hi : i ≤ s.size) (hc : HeadC hd b I) (hI : I w) (hr : hd (s.extract i s.size) = (N, D, E)) (hE : E = 0) (hD : 0 ≤ D ∧ D ≤ 100000) (k : RdA w b s i off) :
  Calls Tryz.prog 71 #[.pointer (some ⟨b, 0, none⟩)] w fun e w' => e = .returned (.int .i64 N) ∧ Step w b ((i : Int) + D) w' := by
 obtain ⟨c0, c1, c2⟩ := k.cells
 obtain ⟨f0, f1, f2⟩ := k.fro
 have HK := ak k
 have CS : Aside0 (∀ W', Below w.heap.size w W' → (W'.cell? ⟨b, 0, none⟩ = some (.string s) ∧ W'.cell? ⟨b, 1, none⟩ = some (.int .i64 (i : Int)))) := ⟨fun W' hb => ⟨((HK.out.below hb).cells).1, ((HK.out.below hb).cells).2.1⟩⟩
 have hxs : (s.extract i s.size).size ≤ 100000 := by rw [ByteArray.size_extract]; omega
 have HH : Aside0 (∀ W', Below w.heap.size w W' → Calls Tryz.prog 95 #[.string (s.extract i s.size)] W' fun e w'' => e = .returned (.tuple #[.int .i64 N, .int .i64 D, .int .i64 E]) ∧ Below w.heap.size w w'') :=
  ⟨fun W' hb => by
   have h := hc.call W' (s.extract i s.size) (hc.bel _ _ hI hb) hxs
   rw [hr] at h
   exact h.mono fun e w'' ⟨p1, p2⟩ => ⟨p1, hb.trans (p2.mono hb.size)⟩⟩
 have hbd : Below w.heap.size w w.drew := below_drew (Below.refl _ _)
 have l1 : (i : Int) ≤ (s.size : Int) := by omega
 have n1 : (E != 0) = false := by rw [hE]; rfl
 have n2 : (E == 0) = true := by rw [hE]; rfl
 have hw : wrap64 ((i : Int) + D) = (i : Int) + D := by unfold wrap64; omega
 have HW := ak hw
 clear hw k hr hxs
 go_enter Tryz.func71, Tryz.ntmps71
 go_upto_region 1 with fail
 refine start_ (n := 17) (S := fun w' => w'.cell? ⟨b, 0, none⟩ = some (.string s) ∧ w'.cell? ⟨b, 1, none⟩ = some (.int .i64 (i : Int))) (ds := []) #[false, false, false, false, false, false, false, false, false, false, false, false, false, false, false, false, false] (by kernel_rfl) rfl rfl ⟨(CS.out _ hbd).1, (CS.out _ hbd).2⟩ (fun hHeld => ?_)
 refine pu2 0 (some 7) #[true, false, false, false, false, false, false, false, false, false, false, false, false, false, false, false, false] (h := ?_)
 refine pu2 1 (some 8) #[true, true, false, false, false, false, false, false, false, false, false, false, false, false, false, false, false] (h := ?_)
 refine pu2 2 (some 9) #[true, true, true, false, false, false, false, false, false, false, false, false, false, false, false, false, false] (h := ?_)
 refine pu2 4 (some 11) #[true, true, true, false, true, false, false, false, false, false, false, false, false, false, false, false, false] (h := ?_)
 refine pu2 5 (some 12) #[true, true, true, false, true, true, false, false, false, false, false, false, false, false, false, false, false] (h := ?_)
 refine pu2 6 (some 13) #[true, true, true, false, true, true, true, false, false, false, false, false, false, false, false, false, false] (h := ?_)
 refine tk2 3 (some 10) #[true, true, true, true, true, true, true, false, false, false, false, false, false, false, false, false, false] (h := ?_)
 refine tk2 7 (some 14) #[true, true, true, true, true, true, true, true, false, false, false, false, false, false, false, false, false] (h := ?_)
 refine pu2 8 (some 15) #[true, true, true, true, true, true, true, true, true, false, false, false, false, false, false, false, false] (h := ?_)
 refine one_ (i := 9) (N := some 16) #[true, true, true, true, true, true, true, true, true, true, false, false, false, false, false, false, false] rfl rfl (by kernel_rfl) (by decide) (fun K hK => ?_)
 refine goes_ Tryz.func95 (by kernel_rfl) rfl #[.string (s.extract i s.size)] (by rfl) rfl rfl (by simp only [List.map_toArray, List.map_cons, List.map_nil]; rfl) ?_
 with_reducible refine (HH.out _ hbd).mono ?_
 rintro ev wm ⟨rfl, hbm⟩
 refine ⟨_, rfl, ?_⟩
 refine hK.out _ _ ⟨(CS.out _ hbm).1, (CS.out _ hbm).2⟩ (fun hHeld => ?_)
 clear hK K
 refine norm_ (a' := ?_) ?_ ?_
 rotate_left
 ·show Act.put _ (some 16) _ = _
  simp only [Act.put, List.setIfInBounds_toArray, List.set_cons_zero, List.set_cons_succ, i64_w, i32_w]
  rfl
 refine pu2 10 (some 6) #[true, true, true, true, true, true, true, true, true, true, true, false, false, false, false, false, false] (h := ?_)
 refine pu2 11 (some 17) #[true, true, true, true, true, true, true, true, true, true, true, true, false, false, false, false, false] (h := ?_)
 refine pu2 12 (some 18) #[true, true, true, true, true, true, true, true, true, true, true, true, true, false, false, false, false] (h := ?_)
 refine pu2 13 (some 19) #[true, true, true, true, true, true, true, true, true, true, true, true, true, true, false, false, false] (h := ?_)
 refine pu2 14 (some 3) #[true, true, true, true, true, true, true, true, true, true, true, true, true, true, true, false, false] (h := ?_)
 refine pu2 15 (some 4) #[true, true, true, true, true, true, true, true, true, true, true, true, true, true, true, true, false] (h := ?_)
 refine pu2 16 (some 5) #[true, true, true, true, true, true, true, true, true, true, true, true, true, true, true, true, true] (h := ?_)
 refine done_ (by kernel_rfl) ?_
 obtain ⟨d0, d1, d2⟩ := (HK.out.below hbm).cells
 obtain ⟨e0, e1, e2⟩ := (HK.out.below hbm).fro
 have hw := HW.out
 go_wp2
 go_ret
 refine ⟨rfl, Step.trans HK.out (Step.of_below HK.out hbm) ?_⟩
 exact Below.refl _ _
set_option maxHeartbeats 4000000 in
theorem num_no (hd : ByteArray → Int × Int × Int) (I : World → Prop) (w : World) (b : Nat) (s : ByteArray) (i : Nat) (off N D E : Int) (hs : s.size ≤ 100000) (ho : 0 ≤ off ∧ off ≤ 1000) (hi : i ≤ s.size) (hc : HeadC hd b I) (hI : I w) (hr : hd (s.extract i s.size) = (N, D, E)) (hE : ¬ E = 0) (k : RdA w b s i off) :
  Calls Tryz.prog 71 #[.pointer (some ⟨b, 0, none⟩)] w fun e w' => Thrown w E (off + i) e w' ∧ Below w.heap.size w w' := by
 obtain ⟨c0, c1, c2⟩ := k.cells
 obtain ⟨f0, f1, f2⟩ := k.fro
 have HK := ak k
 have CS : Aside0 (∀ W', Below w.heap.size w W' → (W'.cell? ⟨b, 0, none⟩ = some (.string s) ∧ W'.cell? ⟨b, 1, none⟩ = some (.int .i64 (i : Int)))) := ⟨fun W' hb => ⟨((HK.out.below hb).cells).1, ((HK.out.below hb).cells).2.1⟩⟩
 have hxs : (s.extract i s.size).size ≤ 100000 := by rw [ByteArray.size_extract]; omega
 have HH : Aside0 (∀ W', Below w.heap.size w W' → Calls Tryz.prog 95 #[.string (s.extract i s.size)] W' fun e w'' => e = .returned (.tuple #[.int .i64 N, .int .i64 D, .int .i64 E]) ∧ Below w.heap.size w w'') :=
  ⟨fun W' hb => by
   have h := hc.call W' (s.extract i s.size) (hc.bel _ _ hI hb) hxs
   rw [hr] at h
   exact h.mono fun e w'' ⟨p1, p2⟩ => ⟨p1, hb.trans (p2.mono hb.size)⟩⟩
 have hbd : Below w.heap.size w w.drew := below_drew (Below.refl _ _)
 have l1 : (i : Int) ≤ (s.size : Int) := by omega
 have n2 : (E == 0) = false := beq_eq_false_iff_ne.2 hE
 have n1 : (E != 0) = true := by rw [bne, n2]; rfl
 have hw : IntKind.i64.wrap (off + (i : Int)) = off + (i : Int) := by rw [i64_w]; unfold wrap64; omega
 have HF : Aside0 (∀ W', Below w.heap.size w W' → Calls Tryz.prog 48 #[.pointer (some ⟨b, 0, none⟩), .int .i64 E, .int .i64 (i : Int)] W' fun e w'' => Thrown w E (off + i) e w'' ∧ Below w.heap.size w w'') :=
  ⟨fun W' hb => (fail_calls W' b s i off E i n2 hw (HK.out.below hb)).mono fun e w'' ⟨⟨g, p1, p2, p3⟩, p4⟩ => ⟨⟨g, p1, Nat.le_trans hb.size p2, p3⟩, hb.trans (p4.mono hb.size)⟩⟩
 clear hw k hr hxs hE
 go_enter Tryz.func71, Tryz.ntmps71
 go_upto_region 1 with fail
 refine start_ (n := 17) (S := fun w' => w'.cell? ⟨b, 0, none⟩ = some (.string s) ∧ w'.cell? ⟨b, 1, none⟩ = some (.int .i64 (i : Int))) (ds := []) #[false, false, false, false, false, false, false, false, false, false, false, false, false, false, false, false, false] (by kernel_rfl) rfl rfl ⟨(CS.out _ hbd).1, (CS.out _ hbd).2⟩ (fun hHeld => ?_)
 refine pu2 0 (some 7) #[true, false, false, false, false, false, false, false, false, false, false, false, false, false, false, false, false] (h := ?_)
 refine pu2 1 (some 8) #[true, true, false, false, false, false, false, false, false, false, false, false, false, false, false, false, false] (h := ?_)
 refine pu2 2 (some 9) #[true, true, true, false, false, false, false, false, false, false, false, false, false, false, false, false, false] (h := ?_)
 refine pu2 4 (some 11) #[true, true, true, false, true, false, false, false, false, false, false, false, false, false, false, false, false] (h := ?_)
 refine pu2 5 (some 12) #[true, true, true, false, true, true, false, false, false, false, false, false, false, false, false, false, false] (h := ?_)
 refine pu2 6 (some 13) #[true, true, true, false, true, true, true, false, false, false, false, false, false, false, false, false, false] (h := ?_)
 refine tk2 3 (some 10) #[true, true, true, true, true, true, true, false, false, false, false, false, false, false, false, false, false] (h := ?_)
 refine tk2 7 (some 14) #[true, true, true, true, true, true, true, true, false, false, false, false, false, false, false, false, false] (h := ?_)
 refine pu2 8 (some 15) #[true, true, true, true, true, true, true, true, true, false, false, false, false, false, false, false, false] (h := ?_)
 refine one_ (i := 9) (N := some 16) #[true, true, true, true, true, true, true, true, true, true, false, false, false, false, false, false, false] rfl rfl (by kernel_rfl) (by decide) (fun K hK => ?_)
 refine goes_ Tryz.func95 (by kernel_rfl) rfl #[.string (s.extract i s.size)] (by rfl) rfl rfl (by simp only [List.map_toArray, List.map_cons, List.map_nil]; rfl) ?_
 with_reducible refine (HH.out _ hbd).mono ?_
 rintro ev wm ⟨rfl, hbm⟩
 refine ⟨_, rfl, ?_⟩
 refine hK.out _ _ ⟨(CS.out _ hbm).1, (CS.out _ hbm).2⟩ (fun hHeld => ?_)
 clear hK K
 refine norm_ (a' := ?_) ?_ ?_
 rotate_left
 ·show Act.put _ (some 16) _ = _
  simp only [Act.put, List.setIfInBounds_toArray, List.set_cons_zero, List.set_cons_succ, i64_w, i32_w]
  rfl
 refine pu2 10 (some 6) #[true, true, true, true, true, true, true, true, true, true, true, false, false, false, false, false, false] (h := ?_)
 refine pu2 11 (some 17) #[true, true, true, true, true, true, true, true, true, true, true, true, false, false, false, false, false] (h := ?_)
 refine pu2 12 (some 18) #[true, true, true, true, true, true, true, true, true, true, true, true, true, false, false, false, false] (h := ?_)
 refine pu2 13 (some 19) #[true, true, true, true, true, true, true, true, true, true, true, true, true, true, false, false, false] (h := ?_)
 refine pu2 14 (some 3) #[true, true, true, true, true, true, true, true, true, true, true, true, true, true, true, false, false] (h := ?_)
 refine pu2 15 (some 4) #[true, true, true, true, true, true, true, true, true, true, true, true, true, true, true, true, false] (h := ?_)
 refine pu2 16 (some 5) #[true, true, true, true, true, true, true, true, true, true, true, true, true, true, true, true, true] (h := ?_)
 refine done_ (by kernel_rfl) ?_
 obtain ⟨d0, d1, d2⟩ := (HK.out.below hbm).cells
 go_wp2_with fail
 with_reducible refine (HF.out _ hbm).mono ?_
 rintro e w2 ⟨⟨g, rfl, hg, hg2⟩, hb2⟩
 exact ⟨rfl, ⟨g, rfl, hg, hg2⟩, hb2⟩
def numP (hd : ByteArray → Int × Int × Int) (s : ByteArray) (i : Nat) : Except (Int × Nat) (Int × Nat) :=
 if (hd (s.extract i s.size)).2.2 = 0 then .ok ((hd (s.extract i s.size)).1, i + (hd (s.extract i s.size)).2.1.toNat) else .error ((hd (s.extract i s.size)).2.2, i)
def eatP (s : ByteArray) (i : Nat) (c : Int) : Except (Int × Nat) Nat := if aheadI s i = c then .ok (i + 1) else .error (2, i)
def Out (w : World) (b : Nat) (off : Int) (q : Int × Nat) (e : Ending) (w' : World) : Prop := Thrown w q.1 (off + q.2) e w' ∧ ∃ j, Step w b j w'
def NumPost (w : World) (b : Nat) (off : Int) (r : Except (Int × Nat) (Int × Nat)) (e : Ending) (w' : World) : Prop := match r with
 | .ok p => e = .returned (.int .i64 p.1) ∧ Step w b (p.2 : Int) w'
 | .error q => Out w b off q e w'
def EatPost (w : World) (b : Nat) (off : Int) (r : Except (Int × Nat) Nat) (e : Ending) (w' : World) : Prop := match r with
 | .ok j => e = .returned (.tuple #[]) ∧ Step w b (j : Int) w'
 | .error q => Out w b off q e w'
structure HeadB (hd : ByteArray → Int × Int × Int) : Prop where
 len : ∀ a, 0 ≤ (hd a).2.1 ∧ (hd a).2.1 ≤ (a.size : Int)
theorem numP_le {hd : ByteArray → Int × Int × Int} (hb : HeadB hd) {s : ByteArray} {i : Nat} (hi : i ≤ s.size) {p : Int × Nat} (h : numP hd s i = .ok p) : p.2 ≤ s.size := by
 have hl := hb.len (s.extract i s.size)
 rw [ByteArray.size_extract] at hl
 unfold numP at h
 split at h
 ·cases h
  simp only
  omega
 ·cases h
theorem eatP_le {s : ByteArray} {i : Nat} {c : Int} (hc : ¬ c = 0) {j : Nat} (h : eatP s i c = .ok j) : j = i + 1 ∧ ∃ h : i < s.size, (s[i].toNat : Int) = c := by
 unfold eatP at h
 split at h
 ·rename_i ha
  cases h
  refine ⟨rfl, ?_⟩
  unfold aheadI at ha
  split at ha
  ·rename_i hlt; exact ⟨hlt, ha⟩
  ·exact absurd ha.symm hc
 ·cases h
theorem num_calls (hd : ByteArray → Int × Int × Int) (I : World → Prop) (w : World) (b : Nat) (s : ByteArray) (i : Nat) (off : Int) (hs : s.size ≤ 100000) (ho : 0 ≤ off ∧ off ≤ 1000) (hi : i ≤ s.size) (hb : HeadB hd) (hc : HeadC hd b I) (hI : I w) (k : RdA w b s i off) :
  Calls Tryz.prog 71 #[.pointer (some ⟨b, 0, none⟩)] w (NumPost w b off (numP hd s i)) := by
 have hl := hb.len (s.extract i s.size)
 rw [ByteArray.size_extract] at hl
 by_cases hE : (hd (s.extract i s.size)).2.2 = 0
 ·have e : numP hd s i = .ok ((hd (s.extract i s.size)).1, i + (hd (s.extract i s.size)).2.1.toNat) := if_pos hE
  rw [e]
  refine (num_yes hd I w b s i off (hd (s.extract i s.size)).1 (hd (s.extract i s.size)).2.1 (hd (s.extract i s.size)).2.2 hs hi hc hI rfl hE ⟨hl.1, by omega⟩ k).mono fun e w' ⟨p1, p2⟩ => ⟨p1, ?_⟩
  have e2 : ((i + (hd (s.extract i s.size)).2.1.toNat : Nat) : Int) = (i : Int) + (hd (s.extract i s.size)).2.1 := by omega
  show Step w b ((i + (hd (s.extract i s.size)).2.1.toNat : Nat) : Int) w'
  rw [e2]
  exact p2
 ·have e : numP hd s i = .error ((hd (s.extract i s.size)).2.2, i) := if_neg hE
  rw [e]
  exact (num_no hd I w b s i off (hd (s.extract i s.size)).1 (hd (s.extract i s.size)).2.1 (hd (s.extract i s.size)).2.2 hs ho hi hc hI rfl hE k).mono fun e w' ⟨p1, p2⟩ => ⟨p1, _, Step.of_below k p2⟩
theorem eat_calls (w : World) (b : Nat) (s : ByteArray) (i : Nat) (off c : Int) (hs : s.size ≤ 100000) (ho : 0 ≤ off ∧ off ≤ 1000) (hi : i ≤ s.size) (hc : ¬ c = 0) (k : RdA w b s i off) :
  Calls Tryz.prog 70 #[.pointer (some ⟨b, 0, none⟩), .int .u8 c] w (EatPost w b off (eatP s i c)) := by
 by_cases ha : aheadI s i = c
 ·have e : eatP s i c = .ok (i + 1) := if_pos ha
  obtain ⟨_, h1, h2⟩ := eatP_le hc e
  rw [e]
  exact (eat_yes w b s i off c hs h1 h2 k).mono fun e w' ⟨p1, p2⟩ => ⟨p1, p2⟩
 ·have e : eatP s i c = .error (2, i) := if_neg ha
  rw [e]
  exact (eat_no w b s i off c hs ho hi ha k).mono fun e w' ⟨p1, p2⟩ => ⟨p1, _, Step.of_below k p2⟩
structure PS (w W : World) (b : Nat) (s : ByteArray) (off : Int) (j : Nat) (cs : Array Value) (T : Nat) : Prop where
 st : Step w b (j : Int) W
 rd : RdA W b s j off
 res : W.heap[w.heap.size]? = some (.cells cs T (0, 0))
theorem PS.new {w : World} {b : Nat} {s : ByteArray} {off : Int} {i : Nat} (k : RdA w b s i off) (cs : Array Value) (T : Nat) : PS w (w.alloc (.cells cs T)) b s off i cs T :=
 ⟨Step.of_below k (below_alloc (Below.refl _ _) _), k.below (below_alloc (Below.refl _ _) _), heap_alloc_new w _⟩
theorem PS.step {w W W' : World} {b : Nat} {s : ByteArray} {off i0 : Int} {i j : Nat} {cs : Array Value} {T : Nat} (p : PS w W b s off i cs T) (k : RdA w b s i0 off) (h : Step W b (j : Int) W') : PS w W' b s off j cs T :=
 ⟨Step.trans k p.st h, h.rd p.rd, by
  have hne : w.heap.size ≠ b := Nat.ne_of_gt k.lt
  exact (h.block _ (blk_lt p.res)).trans ((Below.heap_setCell W ⟨b, 1, none⟩ _ _ hne).trans p.res)⟩
def rectP (hd : ByteArray → Int × Int × Int) (s : ByteArray) (i : Nat) : Except (Int × Nat) ((Int × Int × Int × Int) × Nat) := do
 let w ← numP hd s i
 let a ← eatP s w.2 120
 let h ← numP hd s a
 let b ← eatP s h.2 44
 let x ← numP hd s b
 let c ← eatP s x.2 44
 let y ← numP hd s c
 return ((x.1, y.1, w.1, h.1), y.2)
def RectPost (w : World) (b : Nat) (off : Int) (r : Except (Int × Nat) ((Int × Int × Int × Int) × Nat)) (e : Ending) (w' : World) : Prop := match r with
 | .ok p => e = .returned (.agg #[.int .i64 p.1.1, .int .i64 p.1.2.1, .int .i64 p.1.2.2.1, .int .i64 p.1.2.2.2]) ∧ Step w b (p.2 : Int) w'
 | .error q => Out w b off q e w'
set_option maxHeartbeats 8000000 in
theorem rect_calls (hd : ByteArray → Int × Int × Int) (I : World → Prop) (w : World) (b : Nat) (s : ByteArray) (i : Nat) (off : Int) (hs : s.size ≤ 100000) (ho : 0 ≤ off ∧ off ≤ 1000) (hi : i ≤ s.size) (hb : HeadB hd) (hc : HeadC hd b I) (hI : I w) (k : RdA w b s i off) :
  Calls Tryz.prog 67 #[.pointer (some ⟨b, 0, none⟩)] w (RectPost w b off (rectP hd s i)) := by
 have hmf : ∀ (fn : Fn) (first cap : Array Value) (w : World), (Instr.makeFunc fn first cap).run Tryz.prog w = .ok (.func fn first cap) w := fun _ _ _ _ => rfl
 obtain ⟨W0, hW0⟩ : ∃ W0, W0 = w.alloc (.cells #[.int .i64 0, .int .i64 0, .int .i64 0, .int .i64 0] 24) := ⟨_, rfl⟩
 have HP0 : Aside0 (PS w W0 b s off i #[.int .i64 0, .int .i64 0, .int .i64 0, .int .i64 0] 24) := ⟨by rw [hW0]; exact PS.new k _ _⟩
 have HK := ak k
 have HI0 : Aside0 (I W0) := ⟨hc.step hI HP0.out.st⟩
 have HW := ak hW0
 have HL0 : Aside0 (i ≤ s.size) := ⟨hi⟩
 clear hW0 k hI hi
 go_enter Tryz.func67, Tryz.ntmps67
 have HN0 := ak (num_calls hd I W0 b s (i) off hs ho HL0.out hb hc HI0.out HP0.out.rd)
 go_wp2_with fail
 rw [← HW.out]
 with_reducible refine HN0.out.mono ?_
 rintro e w1 h1
 clear HN0
 cases hn0 : numP hd s i with
 | error q =>
  rw [hn0] at h1
  have hR : rectP hd s i = .error q := by simp [rectP, hn0, bind, Except.bind]
  obtain ⟨⟨g, rfl, hg, hg2⟩, jj, hst⟩ := h1
  rw [hR]
  exact ⟨rfl, ⟨g, rfl, Nat.le_trans HP0.out.st.size hg, hg2⟩, jj, Step.trans HK.out HP0.out.st hst⟩
 | ok p0 =>
  rw [hn0] at h1
  obtain ⟨rfl, hst⟩ := h1
  obtain ⟨W1, hW⟩ : ∃ W, W = w1 := ⟨_, rfl⟩
  have HP1 := ak (HP0.out.step HK.out hst)
  have HI1 := ak (hc.step HI0.out hst)
  have HL1 : Aside0 (p0.2 ≤ s.size) := ⟨numP_le hb HL0.out hn0⟩
  have E0 := ak hn0
  rw [← hW] at HP1 HI1 ⊢
  clear hst hn0 hW
  have HN1 := ak (eat_calls W1 b s (p0.2) off 120 hs ho HL1.out (by decide) HP1.out.rd)
  go_wp2_with fail
  with_reducible refine HN1.out.mono ?_
  rintro e w2 h2
  clear HN1
  cases hn1 : eatP s p0.2 120 with
  | error q =>
   rw [hn1] at h2
   have hR : rectP hd s i = .error q := by simp [rectP, E0.out, hn1, bind, Except.bind]
   obtain ⟨⟨g, rfl, hg, hg2⟩, jj, hst⟩ := h2
   rw [hR]
   exact ⟨rfl, ⟨g, rfl, Nat.le_trans HP1.out.st.size hg, hg2⟩, jj, Step.trans HK.out HP1.out.st hst⟩
  | ok a1 =>
   rw [hn1] at h2
   obtain ⟨rfl, hst⟩ := h2
   obtain ⟨W2, hW⟩ : ∃ W, W = w2 := ⟨_, rfl⟩
   have HP2 := ak (HP1.out.step HK.out hst)
   have HI2 := ak (hc.step HI1.out hst)
   have HL2 : Aside0 (a1 ≤ s.size) := ⟨(by obtain ⟨e1, h1, _⟩ := eatP_le (by decide) hn1; omega)⟩
   have E1 := ak hn1
   rw [← hW] at HP2 HI2 ⊢
   clear hst hn1 hW
   have HN2 := ak (num_calls hd I W2 b s (a1) off hs ho HL2.out hb hc HI2.out HP2.out.rd)
   go_wp2_with fail
   with_reducible refine HN2.out.mono ?_
   rintro e w3 h3
   clear HN2
   cases hn2 : numP hd s a1 with
   | error q =>
    rw [hn2] at h3
    have hR : rectP hd s i = .error q := by simp [rectP, E0.out, E1.out, hn2, bind, Except.bind]
    obtain ⟨⟨g, rfl, hg, hg2⟩, jj, hst⟩ := h3
    rw [hR]
    exact ⟨rfl, ⟨g, rfl, Nat.le_trans HP2.out.st.size hg, hg2⟩, jj, Step.trans HK.out HP2.out.st hst⟩
   | ok p2 =>
    rw [hn2] at h3
    obtain ⟨rfl, hst⟩ := h3
    obtain ⟨W3, hW⟩ : ∃ W, W = w3 := ⟨_, rfl⟩
    have HP3 := ak (HP2.out.step HK.out hst)
    have HI3 := ak (hc.step HI2.out hst)
    have HL3 : Aside0 (p2.2 ≤ s.size) := ⟨numP_le hb HL2.out hn2⟩
    have E2 := ak hn2
    rw [← hW] at HP3 HI3 ⊢
    clear hst hn2 hW
    have HN3 := ak (eat_calls W3 b s (p2.2) off 44 hs ho HL3.out (by decide) HP3.out.rd)
    go_wp2_with fail
    with_reducible refine HN3.out.mono ?_
    rintro e w4 h4
    clear HN3
    cases hn3 : eatP s p2.2 44 with
    | error q =>
     rw [hn3] at h4
     have hR : rectP hd s i = .error q := by simp [rectP, E0.out, E1.out, E2.out, hn3, bind, Except.bind]
     obtain ⟨⟨g, rfl, hg, hg2⟩, jj, hst⟩ := h4
     rw [hR]
     exact ⟨rfl, ⟨g, rfl, Nat.le_trans HP3.out.st.size hg, hg2⟩, jj, Step.trans HK.out HP3.out.st hst⟩
    | ok a3 =>
     rw [hn3] at h4
     obtain ⟨rfl, hst⟩ := h4
     obtain ⟨W4, hW⟩ : ∃ W, W = w4 := ⟨_, rfl⟩
     have HP4 := ak (HP3.out.step HK.out hst)
     have HI4 := ak (hc.step HI3.out hst)
     have HL4 : Aside0 (a3 ≤ s.size) := ⟨(by obtain ⟨e1, h1, _⟩ := eatP_le (by decide) hn3; omega)⟩
     have E3 := ak hn3
     rw [← hW] at HP4 HI4 ⊢
     clear hst hn3 hW
     have HN4 := ak (num_calls hd I W4 b s (a3) off hs ho HL4.out hb hc HI4.out HP4.out.rd)
     go_wp2_with fail
     with_reducible refine HN4.out.mono ?_
     rintro e w5 h5
     clear HN4
     cases hn4 : numP hd s a3 with
     | error q =>
      rw [hn4] at h5
      have hR : rectP hd s i = .error q := by simp [rectP, E0.out, E1.out, E2.out, E3.out, hn4, bind, Except.bind]
      obtain ⟨⟨g, rfl, hg, hg2⟩, jj, hst⟩ := h5
      rw [hR]
      exact ⟨rfl, ⟨g, rfl, Nat.le_trans HP4.out.st.size hg, hg2⟩, jj, Step.trans HK.out HP4.out.st hst⟩
     | ok p4 =>
      rw [hn4] at h5
      obtain ⟨rfl, hst⟩ := h5
      obtain ⟨W5, hW⟩ : ∃ W, W = w5 := ⟨_, rfl⟩
      have HP5 := ak (HP4.out.step HK.out hst)
      have HI5 := ak (hc.step HI4.out hst)
      have HL5 : Aside0 (p4.2 ≤ s.size) := ⟨numP_le hb HL4.out hn4⟩
      have E4 := ak hn4
      rw [← hW] at HP5 HI5 ⊢
      clear hst hn4 hW
      have HN5 := ak (eat_calls W5 b s (p4.2) off 44 hs ho HL5.out (by decide) HP5.out.rd)
      go_wp2_with fail
      with_reducible refine HN5.out.mono ?_
      rintro e w6 h6
      clear HN5
      cases hn5 : eatP s p4.2 44 with
      | error q =>
       rw [hn5] at h6
       have hR : rectP hd s i = .error q := by simp [rectP, E0.out, E1.out, E2.out, E3.out, E4.out, hn5, bind, Except.bind]
       obtain ⟨⟨g, rfl, hg, hg2⟩, jj, hst⟩ := h6
       rw [hR]
       exact ⟨rfl, ⟨g, rfl, Nat.le_trans HP5.out.st.size hg, hg2⟩, jj, Step.trans HK.out HP5.out.st hst⟩
      | ok a5 =>
       rw [hn5] at h6
       obtain ⟨rfl, hst⟩ := h6
       obtain ⟨W6, hW⟩ : ∃ W, W = w6 := ⟨_, rfl⟩
       have HP6 := ak (HP5.out.step HK.out hst)
       have HI6 := ak (hc.step HI5.out hst)
       have HL6 : Aside0 (a5 ≤ s.size) := ⟨(by obtain ⟨e1, h1, _⟩ := eatP_le (by decide) hn5; omega)⟩
       have E5 := ak hn5
       rw [← hW] at HP6 HI6 ⊢
       clear hst hn5 hW
       have HN6 := ak (num_calls hd I W6 b s (a5) off hs ho HL6.out hb hc HI6.out HP6.out.rd)
       go_wp2_with fail
       with_reducible refine HN6.out.mono ?_
       rintro e w7 h7
       clear HN6
       cases hn6 : numP hd s a5 with
       | error q =>
        rw [hn6] at h7
        have hR : rectP hd s i = .error q := by simp [rectP, E0.out, E1.out, E2.out, E3.out, E4.out, E5.out, hn6, bind, Except.bind]
        obtain ⟨⟨g, rfl, hg, hg2⟩, jj, hst⟩ := h7
        rw [hR]
        exact ⟨rfl, ⟨g, rfl, Nat.le_trans HP6.out.st.size hg, hg2⟩, jj, Step.trans HK.out HP6.out.st hst⟩
       | ok p6 =>
        rw [hn6] at h7
        obtain ⟨rfl, hst⟩ := h7
        obtain ⟨W7, hW⟩ : ∃ W, W = w7 := ⟨_, rfl⟩
        have HP7 := ak (HP6.out.step HK.out hst)
        have HI7 := ak (hc.step HI6.out hst)
        have HL7 : Aside0 (p6.2 ≤ s.size) := ⟨numP_le hb HL6.out hn6⟩
        have E6 := ak hn6
        rw [← hW] at HP7 HI7 ⊢
        clear hst hn6 hW
        have hR : rectP hd s i = .ok ((p4.1, p6.1, p0.1, p2.1), p6.2) := by simp [rectP, E0.out, E1.out, E2.out, E3.out, E4.out, E5.out, E6.out, bind, Except.bind, pure, Except.pure]
        have HR := ak hR
        have hres := HP7.out.res
        have HB := ak hres
        have g0 : W7.cell? ⟨w.heap.size, 0, none⟩ = some (.int .i64 0) := by simp [World.cell?, hres]
        have g1 : W7.cell? ⟨w.heap.size, 1, none⟩ = some (.int .i64 0) := by simp [World.cell?, hres]
        have g2 : W7.cell? ⟨w.heap.size, 2, none⟩ = some (.int .i64 0) := by simp [World.cell?, hres]
        have g3 : W7.cell? ⟨w.heap.size, 3, none⟩ = some (.int .i64 0) := by simp [World.cell?, hres]
        have f0 := blk_frozen hres 0
        have f1 := blk_frozen hres 1
        have f2 := blk_frozen hres 2
        have f3 := blk_frozen hres 3
        clear hR hres
        go_wp2
        refine bodyPost_ret (v := .agg #[.int .i64 p4.1, .int .i64 p6.1, .int .i64 p0.1, .int .i64 p2.1]) (by simp [results, Tryz.results67, go_sem, g0, g1, g2, g3]) rfl ?_
        rw [HR.out]
        exact ⟨rfl, ((((HP7.out.st).setCell (p := ⟨w.heap.size, 0, none⟩) (Nat.le_refl _) _).setCell (p := ⟨w.heap.size, 1, none⟩) (Nat.le_refl _) _).setCell (p := ⟨w.heap.size, 2, none⟩) (Nat.le_refl _) _).setCell (p := ⟨w.heap.size, 3, none⟩) (Nat.le_refl _) _⟩
end Go.Proofs.YtkobpbbegalfpaaGreatDoor
namespace Go.Proofs.YtkobpbbegalfpaaGreatDoor
open Go.RowKit YtkobpbbegalfpaaGreatDoorW.PrintWords YtkobpbbegalfpaaGreatDoorW.PrintLast YtkobpbbegalfpaaGreatDoorW.PrintMore PParseBodies
set_option linter.unusedVariables false
set_option linter.unusedSimpArgs false
abbrev SC := S27
abbrev SR := S24
mutual
def cells : SC → List SC
 | ⟨k, r, i, l⟩ => ⟨k, r, i, l⟩ :: cellsL l
def cellsL : List SC → List SC
 | [] => []
 | c :: l => cells c ++ cellsL l
end
theorem cells_eq (c : SC) : cells c = c :: cellsL c.f3 := by cases c; simp [cells]
theorem cellsL_nil : cellsL [] = [] := by simp [cellsL]
theorem cellsL_cons (c : SC) (l : List SC) : cellsL (c :: l) = cells c ++ cellsL l := by simp [cellsL]
theorem cellsL_flat (l : List SC) : cellsL l = l.flatMap cells := by
 induction l with
 | nil => simp [cellsL]
 | cons c l ih => rw [cellsL_cons, ih, List.flatMap_cons]
theorem cells_self (c : SC) : c ∈ cells c := by rw [cells_eq]; simp
theorem cells_pos (c : SC) : 1 ≤ (cells c).length := by rw [cells_eq]; simp
theorem cells_kid {c k : SC} (h : k ∈ c.f3) : ∀ x ∈ cells k, x ∈ cells c := by
 intro x hx
 rw [cells_eq c, cellsL_flat]
 exact List.mem_cons_of_mem _ (List.mem_flatMap.2 ⟨k, h, hx⟩)
theorem cell_ind {P : SC → Prop} (h : ∀ c, (∀ k ∈ c.f3, P k) → P c) (c : SC) : P c :=
 h c (fun k hk => cell_ind h k)
termination_by SizeOf.sizeOf c
decreasing_by
 cases c
 have := List.sizeOf_lt_of_mem hk
 simp at this ⊢
 omega
def visitL {σ : Type} (f : σ → SC → Bool × σ) : σ → List SC → Bool × σ
 | st, [] => (true, st)
 | st, c :: l => if (f st c).1 = true then visitL f (f st c).2 l else (false, (f st c).2)
theorem visitL_append {σ : Type} (f : σ → SC → Bool × σ) (a b : List SC) : ∀ st, visitL f st (a ++ b) = if (visitL f st a).1 = true then visitL f (visitL f st a).2 b else (false, (visitL f st a).2) := by
 induction a with
 | nil => intro st; simp [visitL]
 | cons c a ih =>
  intro st
  rw [List.cons_append]
  by_cases h : (f st c).1 = true
  ·simp [visitL, h, ih]
  ·simp [visitL, h]
def anyL {σ α : Type} (g : σ → α → Bool × σ) : σ → List α → Bool × σ
 | st, [] => (false, st)
 | st, x :: l => if (g st x).1 = true then (true, (g st x).2) else anyL g (g st x).2 l
def notV {σ : Type} (f : σ → SC → Bool × σ) (st : σ) (k : SC) : Bool × σ := (!(visitL f st (cells k)).1, (visitL f st (cells k)).2)
theorem any_visit {σ : Type} (f : σ → SC → Bool × σ) (l : List SC) : ∀ st, anyL (notV f) st l = (!(visitL f st (cellsL l)).1, (visitL f st (cellsL l)).2) := by
 induction l with
 | nil => intro st; simp [anyL, cellsL, visitL]
 | cons c l ih =>
  intro st
  simp only [anyL, cellsL_cons, visitL_append]
  by_cases h : (visitL f st (cells c)).1 = true
  ·rw [if_pos h]
   simp only [notV, h, Bool.not_true]
   rw [if_neg (by decide), ih]
  ·have h' : (visitL f st (cells c)).1 = false := by simpa using h
   rw [if_neg h]
   simp [notV, h']
theorem visit_self {σ : Type} (f : σ → SC → Bool × σ) (st : σ) (c : SC) : visitL f st (cells c) = if (f st c).1 = true then visitL f (f st c).2 (cellsL c.f3) else (false, (f st c).2) := by
 rw [cells_eq]; rfl
def rectOk (r : SR) : Bool := decide (0 ≤ r.f0 ∧ 1 ≤ r.f2 ∧ r.f2 ≤ 10000 ∧ r.f0 ≤ 10000 - r.f2 ∧ 0 ≤ r.f1 ∧ 1 ≤ r.f3 ∧ r.f3 ≤ 10000 ∧ r.f1 ≤ 10000 - r.f3)
theorem rectOk_iff (r : SR) : rectOk r = true ↔ (0 ≤ r.f0 ∧ 1 ≤ r.f2 ∧ r.f2 ≤ 10000 ∧ r.f0 ≤ 10000 - r.f2 ∧ 0 ≤ r.f1 ∧ 1 ≤ r.f3 ∧ r.f3 ≤ 10000 ∧ r.f1 ≤ 10000 - r.f3) := by unfold rectOk; exact decide_eq_true_iff
def hasP (r : SR) (x y : Int) : Prop := r.f0 ≤ x ∧ x < r.f0 + r.f2 ∧ r.f1 ≤ y ∧ y < r.f1 + r.f3
instance (r : SR) (x y : Int) : Decidable (hasP r x y) := inferInstanceAs (Decidable (_ ∧ _))
def apartP (a b : SR) : Prop := a.f0 + a.f2 ≤ b.f0 ∨ b.f0 + b.f2 ≤ a.f0 ∨ a.f1 + a.f3 ≤ b.f1 ∨ b.f1 + b.f3 ≤ a.f1
theorem apartP.symm {a b : SR} (h : apartP a b) : apartP b a := by unfold apartP at *; omega
def mkR (r : SR) (ax o n : Int) : SR := if ax = 1 then ⟨r.f0 + o, r.f1, n, r.f3⟩ else ⟨r.f0, r.f1 + o, r.f2, n⟩
def wholeR (r : SR) (ax : Int) : Int := if ax = 1 then r.f2 else r.f3
def offA (first : Bool) (off : Int) : Int := if first = true then off else off + 1
def cutParts (r : SR) (ax : Int) : Bool → Int → List Int → List SR
 | _, _, [] => []
 | first, off, n :: t => mkR r ax (offA first off) n :: cutParts r ax false (offA first off + n) t
def cutLines (r : SR) (ax : Int) : Bool → Int → List Int → List SR
 | _, _, [] => []
 | first, off, n :: t => (if first = true then [] else [mkR r ax off 1]) ++ cutLines r ax false (offA first off + n) t
def cutOk (whole : Int) : Bool → Int → List Int → Bool
 | _, off, [] => decide (off = whole)
 | first, off, n :: t => decide (1 ≤ n ∧ n ≤ whole - offA first off) && cutOk whole false (offA first off + n) t
def cutGood (r : SR) (ax : Int) (l : List Int) : Bool := rectOk r && decide (ax = 1 ∨ ax = 2) && !l.isEmpty && cutOk (wholeR r ax) true 0 l
def crossR (r : SR) (ax : Int) : Int := if ax = 1 then r.f3 else r.f2
theorem cutParts_len (r : SR) (ax : Int) : ∀ (l : List Int) (first : Bool) (off : Int), (cutParts r ax first off l).length = l.length := by
 intro l
 induction l with
 | nil => intro _ _; rfl
 | cons n t ih => intro first off; simp [cutParts, ih]
theorem cutLines_len (r : SR) (ax : Int) : ∀ (l : List Int) (first : Bool) (off : Int), (cutLines r ax first off l).length = if first = true then l.length - 1 else l.length := by
 intro l
 induction l with
 | nil => intro f _; simp [cutLines]
 | cons n t ih =>
  intro first off
  simp only [cutLines, List.length_append, ih]
  cases first <;> simp <;> omega
def nodeOk (c : SC) : Bool :=
 if c.f0 = 1 then c.f3.isEmpty && decide (0 ≤ c.f2 ∧ c.f2 ≤ 2147483647)
 else if c.f0 = 2 ∨ c.f0 = 3 then decide (2 ≤ c.f3.length ∧ c.f2 = 0) else false
instance : DecidableEq SR := fun a b =>
 if h : a.f0 = b.f0 ∧ a.f1 = b.f1 ∧ a.f2 = b.f2 ∧ a.f3 = b.f3 then isTrue (by cases a; cases b; simp_all)
 else isFalse (by intro e; subst e; exact h ⟨rfl, rfl, rfl, rfl⟩)
def sizesOf (c : SC) : List Int := c.f3.map (fun k => if c.f0 = 2 then k.f1.f2 else k.f1.f3)
def linesS (c : SC) : Option (List SR) :=
 if c.f0 = 1 then some []
 else if cutGood c.f1 (c.f0 - 1) (sizesOf c) = true ∧ c.f3.map (·.f1) = cutParts c.f1 (c.f0 - 1) true 0 (sizesOf c) then some (cutLines c.f1 (c.f0 - 1) true 0 (sizesOf c)) else none
def mayStep (st : Nat × List Int) (c : SC) : Bool × Nat × List Int :=
 if 20000 < st.1 + 1 ∨ nodeOk c = false ∨ rectOk c.f1 = false ∨ (c.f0 = 1 ∧ c.f2 ∈ st.2) then (false, st.1 + 1, st.2)
 else (true, st.1 + 1, if c.f0 = 1 then c.f2 :: st.2 else st.2)
def mayB (c : SC) : Bool := (visitL mayStep (0, []) (cells c)).1
def walkStep (st : Nat × List SR) (c : SC) : Bool × Nat × List SR :=
 match linesS c with
 | none => (false, st)
 | some l => (true, st.1 + 1, st.2 ++ l)
def walkV (c : SC) : Bool × Nat × List SR := visitL walkStep (0, []) (cells c)
def tilesB (c : SC) : Bool := mayB c && (walkV c).1
def leafIds (l : List SC) : List Int := (l.filter (fun c => decide (c.f0 = 1))).map (·.f2)
theorem may_visit : ∀ (l : List SC) (n : Nat) (met : List Int), n ≤ 20000 → ((visitL mayStep (n, met) l).1 = true ↔ n + l.length ≤ 20000 ∧ (∀ c ∈ l, nodeOk c = true ∧ rectOk c.f1 = true) ∧ (leafIds l).Nodup ∧ ∀ i ∈ leafIds l, i ∉ met) := by
 intro l
 induction l with
 | nil => intro n met hn; simp [visitL, leafIds, hn]
 | cons c l ih =>
  intro n met hn
  simp only [visitL, mayStep]
  by_cases h : 20000 < n + 1 ∨ nodeOk c = false ∨ rectOk c.f1 = false ∨ (c.f0 = 1 ∧ c.f2 ∈ met)
  ·rw [if_pos h, if_neg (by simp)]
   simp only [Bool.false_eq_true, false_iff]
   rintro ⟨h1, h2, h3, h4⟩
   have hc := h2 c (by simp)
   rw [List.length_cons] at h1
   rcases h with h | h | h | ⟨h, h'⟩
   ·omega
   ·rw [hc.1] at h; cases h
   ·rw [hc.2] at h; cases h
   ·exact h4 c.f2 (by simp [leafIds, h]) h'
  ·rw [if_neg h]
   simp only [if_true]
   have hn1 : n + 1 ≤ 20000 := by omega
   rw [ih (n + 1) _ hn1, List.length_cons]
   have hc1 : nodeOk c = true := by cases hx : nodeOk c <;> simp_all
   have hc2 : rectOk c.f1 = true := by cases hx : rectOk c.f1 <;> simp_all
   by_cases hk : c.f0 = 1
   ·have hm : c.f2 ∉ met := fun h' => h (.inr (.inr (.inr ⟨hk, h'⟩)))
    have hl : leafIds (c :: l) = c.f2 :: leafIds l := by simp [leafIds, hk]
    rw [hl, if_pos hk, List.nodup_cons]
    constructor
    ·rintro ⟨h1, h2, h3, h4⟩
     refine ⟨by omega, fun x hx => ?_, ⟨fun hx => ?_, h3⟩, fun i hi => ?_⟩
     ·rcases List.mem_cons.1 hx with rfl | hx
      ·exact ⟨hc1, hc2⟩
      ·exact h2 x hx
     ·exact h4 _ hx (by simp)
     ·rcases List.mem_cons.1 hi with rfl | hi
      ·exact hm
      ·exact fun h' => h4 i hi (by simp [h'])
    ·rintro ⟨h1, h2, ⟨h3, h3'⟩, h4⟩
     refine ⟨by omega, fun x hx => h2 x (by simp [hx]), h3', fun i hi h' => ?_⟩
     rcases List.mem_cons.1 h' with rfl | h'
     ·exact h3 hi
     ·exact h4 i (by simp [hi]) h'
   ·have hl : leafIds (c :: l) = leafIds l := by simp [leafIds, hk]
    rw [hl, if_neg hk]
    constructor
    ·rintro ⟨h1, h2, h3, h4⟩
     refine ⟨by omega, fun x hx => ?_, h3, h4⟩
     rcases List.mem_cons.1 hx with rfl | hx
     ·exact ⟨hc1, hc2⟩
     ·exact h2 x hx
    ·rintro ⟨h1, h2, h3, h4⟩
     exact ⟨by omega, fun x hx => h2 x (by simp [hx]), h3, h4⟩
theorem may_iff (c : SC) : mayB c = true ↔ (cells c).length ≤ 20000 ∧ (∀ x ∈ cells c, nodeOk x = true ∧ rectOk x.f1 = true) ∧ (leafIds (cells c)).Nodup := by
 unfold mayB
 rw [may_visit _ _ _ (by decide)]
 simp
def lnOf (c : SC) : List SR := (linesS c).getD []
theorem walkStep_none {c : SC} (h : linesS c = none) (st : Nat × List SR) : walkStep st c = (false, st) := by unfold walkStep; rw [h]
theorem walkStep_some {c : SC} {l : List SR} (h : linesS c = some l) (st : Nat × List SR) : walkStep st c = (true, st.1 + 1, st.2 ++ l) := by unfold walkStep; rw [h]
theorem walk_visit : ∀ (l : List SC) (st : Nat × List SR), (visitL walkStep st l).1 = true ↔ ∀ c ∈ l, (linesS c).isSome = true := by
 intro l
 induction l with
 | nil => intro st; simp [visitL]
 | cons c l ih =>
  intro st
  cases h : linesS c with
  | none => simp [visitL, walkStep_none h, h]
  | some x => simp [visitL, walkStep_some h, h, ih]
theorem walk_lines : ∀ (l : List SC) (st : Nat × List SR), (visitL walkStep st l).1 = true → (visitL walkStep st l).2 = (st.1 + l.length, st.2 ++ l.flatMap lnOf) := by
 intro l
 induction l with
 | nil => intro st _; simp [visitL]
 | cons c l ih =>
  intro st
  cases h : linesS c with
  | none => simp [visitL, walkStep_none h]
  | some x =>
   simp only [visitL, walkStep_some h, if_true]
   intro h1
   rw [ih _ h1]
   simp [lnOf, h]; omega
set_option maxRecDepth 100000
abbrev ResC (α : Type) : Type := Option (Except (Int × Nat) (α × Nat))
mutual
def cellP (hd : ByteArray → Int × Int × Int) (s : ByteArray) : Nat → Nat → Nat → ResC SC
 | 0, _, _ => none
 | k + 1, i, deep => match rectP hd s i with
  | .error q => some (.error q)
  | .ok r =>
   if aheadI s r.2 = 123 then match kidsP hd s k 125 deep r.2 with
    | none => none
    | some (.error q) => some (.error q)
    | some (.ok p) => some (.ok (⟨2, ⟨r.1.1, r.1.2.1, r.1.2.2.1, r.1.2.2.2⟩, 0, p.1⟩, p.2))
   else if aheadI s r.2 = 91 then match kidsP hd s k 93 deep r.2 with
    | none => none
    | some (.error q) => some (.error q)
    | some (.ok p) => some (.ok (⟨3, ⟨r.1.1, r.1.2.1, r.1.2.2.1, r.1.2.2.2⟩, 0, p.1⟩, p.2))
   else match eatP s r.2 44 with
    | .error q => some (.error q)
    | .ok a => match numP hd s a with
     | .error q => some (.error q)
     | .ok n => some (.ok (⟨1, ⟨r.1.1, r.1.2.1, r.1.2.2.1, r.1.2.2.2⟩, n.1, []⟩, n.2))
def kidsP (hd : ByteArray → Int × Int × Int) (s : ByteArray) : Nat → Int → Nat → Nat → ResC (List SC)
 | 0, _, _, _ => none
 | k + 1, c, deep, i => if 1000 ≤ deep then some (.error (3, i)) else match cellP hd s k (i + 1) (deep + 1) with
  | none => none
  | some (.error q) => some (.error q)
  | some (.ok p) => loopP hd s k c deep [p.1] p.2
def loopP (hd : ByteArray → Int × Int × Int) (s : ByteArray) : Nat → Int → Nat → List SC → Nat → ResC (List SC)
 | 0, _, _, _, _ => none
 | k + 1, c, deep, out, j => if out.length < 2 ∨ ¬ aheadI s j = c then match eatP s j 44 with
   | .error q => some (.error q)
   | .ok a => match cellP hd s k a (deep + 1) with
    | none => none
    | some (.error q) => some (.error q)
    | some (.ok p) => loopP hd s k c deep (out ++ [p.1]) p.2
  else some (.ok (out, j + 1))
end
theorem R_stepS {w0 w w' : World} {b base : Nat} {j : Int} {e : Nat} {v : Value} {xs : List SC} (h : Kd.R k27 e w base (fun _ => True) v xs) (hb : b < base) (hs : Step w b j w') : Kd.R k27 e w' base (fun _ => True) v xs :=
 Kd.R_mono (Kd.R_step (Kd.R_bound h) (fun k hk hlt => (hs.block k hlt).trans (Below.heap_setCell w ⟨b, 1, none⟩ _ k (by have := hk.2.1; show k ≠ b; omega)))) (fun _ _ => trivial)
def CellPost (w : World) (b : Nat) (off : Int) (r : Except (Int × Nat) (SC × Nat)) (e : Ending) (w' : World) : Prop := match r with
 | .ok p => ∃ v, e = .returned (.agg #[.int .u8 p.1.f0, .int .i64 p.1.f1.f0, .int .i64 p.1.f1.f1, .int .i64 p.1.f1.f2, .int .i64 p.1.f1.f3, .int .i64 p.1.f2, v]) ∧ Kd.R k27 27 w' w.heap.size (fun _ => True) v p.1.f3 ∧ Step w b (p.2 : Int) w'
 | .error q => Out w b off q e w'
def KidsPost (w : World) (b : Nat) (off : Int) (r : Except (Int × Nat) (List SC × Nat)) (e : Ending) (w' : World) : Prop := match r with
 | .ok p => ∃ v, e = .returned v ∧ Kd.R k27 27 w' w.heap.size (fun _ => True) v p.1 ∧ Step w b (p.2 : Int) w'
 | .error q => Out w b off q e w'
theorem aheadI_lt {s : ByteArray} {i : Nat} {c : Int} (hc : ¬ c = 0) (h : aheadI s i = c) : i < s.size := by
 unfold aheadI at h
 split at h
 ·assumption
 ·exact absurd h.symm hc
theorem rectP_le {hd : ByteArray → Int × Int × Int} (hb : HeadB hd) {s : ByteArray} {i : Nat} (hi : i ≤ s.size) {r : (Int × Int × Int × Int) × Nat} (h : rectP hd s i = .ok r) : r.2 ≤ s.size := by
 unfold rectP at h
 cases h0 : numP hd s i with
 | error q => rw [h0] at h; cases h
 | ok p0 =>
  rw [h0] at h
  have l0 := numP_le hb hi h0
  cases h1 : eatP s p0.2 120 with
  | error q => simp only [bind, Except.bind, h1] at h; cases h
  | ok a1 =>
   simp only [bind, Except.bind, h1] at h
   obtain ⟨e1, g1, _⟩ := eatP_le (by decide) h1
   cases h2 : numP hd s a1 with
   | error q => rw [h2] at h; cases h
   | ok p2 =>
    simp only [h2] at h
    have l2 := numP_le hb (by omega) h2
    cases h3 : eatP s p2.2 44 with
    | error q => rw [h3] at h; cases h
    | ok a3 =>
     simp only [h3] at h
     obtain ⟨e3, g3, _⟩ := eatP_le (by decide) h3
     cases h4 : numP hd s a3 with
     | error q => rw [h4] at h; cases h
     | ok p4 =>
      simp only [h4] at h
      have l4 := numP_le hb (by omega) h4
      cases h5 : eatP s p4.2 44 with
      | error q => rw [h5] at h; cases h
      | ok a5 =>
       simp only [h5] at h
       obtain ⟨e5, g5, _⟩ := eatP_le (by decide) h5
       cases h6 : numP hd s a5 with
       | error q => rw [h6] at h; cases h
       | ok p6 =>
        simp only [h6] at h
        have l6 := numP_le hb (by omega) h6
        cases h
        exact l6
end Go.Proofs.YtkobpbbegalfpaaGreatDoor
