/-
 PrintApart: the walk.
-/
import Derived.Test.YtakhnigalkjhhaaDoorPrLaw
import Derived.Test.YtakhnigalkjhhaaDoorPrPrintS
namespace Go.Proofs.YtakhnigalkjhhaaDoor
open Go.RowKit Go.Proofs.YtakhnigalkjhhaaDoorW.PrintWords Go.Proofs.YtakhnigalkjhhaaDoorW.PrintLast Go.Proofs.YtakhnigalkjhhaaDoorW.PrintMore Go.Proofs.YtakhnigalkjhhaaDoor.PTileChecks
set_option linter.unusedVariables false
set_option linter.unusedSimpArgs false
set_option maxRecDepth 100000

/-- Are they the same? -/
noncomputable def eqB (a b : SC) : Bool := @decide (a = b) (Classical.propDecidable _)
theorem eqB_yes {a b : SC} (h : a = b) : eqB a b = true := by unfold eqB; exact @decide_eq_true _ (Classical.propDecidable _) h
theorem eqB_no {a b : SC} (h : a ≠ b) : eqB a b = false := by unfold eqB; exact @decide_eq_false _ (Classical.propDecidable _) h
theorem Same_f (a : SC) : ∀ b : SC, (cells a).length ≤ 100000 → ∀ k, 3 * (cells a).length + 3 < k → sashref05_Same.f k a.f0 a.f1.f0 a.f1.f1 a.f1.f2 a.f1.f3 a.f2 a.f3 b.f0 b.f1.f0 b.f1.f1 b.f1.f2 b.f1.f3 b.f2 b.f3 = some (eqB a b) := by
 refine cell_ind (P := fun a => ∀ b : SC, (cells a).length ≤ 100000 → ∀ k, 3 * (cells a).length + 3 < k → sashref05_Same.f k a.f0 a.f1.f0 a.f1.f1 a.f1.f2 a.f1.f3 a.f2 a.f3 b.f0 b.f1.f0 b.f1.f1 b.f1.f2 b.f1.f3 b.f2 b.f3 = some (eqB a b)) (fun a ih b hs k hk => ?_) a
 have hcl : (cells a).length = 1 + (cellsL a.f3).length := by rw [cells_eq]; simp; omega
 have hge := cellsL_ge a.f3
 obtain ⟨k, rfl⟩ : ∃ m, k = m + 2 := ⟨k - 2, by omega⟩
 have jt : ∀ (k : Nat), 0 < k → sashref05_Same.j0 k true a.f0 a.f1.f0 a.f1.f1 a.f1.f2 a.f1.f3 a.f2 a.f3 b.f0 b.f1.f0 b.f1.f1 b.f1.f2 b.f1.f3 b.f2 b.f3 = some false := fun k h => by
  obtain ⟨k, rfl⟩ : ∃ m, k = m + 1 := ⟨k - 1, by omega⟩
  simp [sashref05_Same.j0]
 simp only [sashref05_Same.f]
 by_cases h0 : a.f0 = b.f0
 ·rw [if_pos h0]
  by_cases h1 : a.f1 = b.f1
  ·rw [if_neg (by rw [h1]; simp)]
   by_cases h2 : a.f2 = b.f2
   ·rw [if_pos h2]
    by_cases h3 : a.f3.length = b.f3.length
    ·have loop : ∀ (d k i : Nat), a.f3.length - i = d → i ≤ a.f3.length → 3 * (cellsL (a.f3.drop i)).length + 4 < k → a.f3.take i = b.f3.take i →
       sashref05_Same.l0 k (a.f3.length : Int) (i : Int) a.f0 a.f1.f0 a.f1.f1 a.f1.f2 a.f1.f3 a.f2 a.f3 b.f0 b.f1.f0 b.f1.f1 b.f1.f2 b.f1.f3 b.f2 b.f3 = some (eqB a b) := by
      intro d
      induction d with
      | zero =>
       intro k i hd hi hk ht
       obtain ⟨k, rfl⟩ : ∃ m, k = m + 1 := ⟨k - 1, by omega⟩
       simp only [sashref05_Same.l0]
       rw [if_neg (by omega)]
       rw [List.take_of_length_le (by omega), List.take_of_length_le (by omega)] at ht
       rw [eqB_yes (by cases a; cases b; simp_all)]
      | succ d ihd =>
       intro k i hd hi hk ht
       obtain ⟨k, rfl⟩ : ∃ m, k = m + 1 := ⟨k - 1, by omega⟩
       have hlt : i < a.f3.length := by omega
       have hlt2 : i < b.f3.length := by omega
       have q1 := cellsL_drop a.f3 i hlt
       have q2 := cells_pos (a.f3.getD i z26)
       have q4 := kid_le _ a.f3 (getT_mem a.f3 i hlt)
       have hm := ih _ (getT_mem a.f3 i hlt) (b.f3.getD i z26) (by omega) k (by omega)
       simp only [sashref05_Same.l0]
       rw [if_pos (by omega), if_pos (by omega), if_pos (by omega), if_pos (by omega), rd_T_getD, rd_T_getD, hm]
       simp only [Option.bind_some]
       by_cases he : a.f3.getD i z26 = b.f3.getD i z26
       ·rw [eqB_yes he, if_pos rfl, wi i (by omega)]
        exact ihd k (i + 1) (by omega) (by omega) (by omega) (by rw [takeT a.f3 i hlt, takeT b.f3 i hlt2, ht, he])
       ·rw [eqB_no he, if_neg (by decide), eqB_no (fun e => he (by rw [e]))]
     have e3 : ((a.f3.length : Int) != (b.f3.length : Int)) = false := by rw [h3]; simp
     rw [e3]
     have hz : ((0 : Nat) : Int) = 0 := rfl
     have hl := loop a.f3.length k 0 (by omega) (by omega) (by rw [List.drop_zero]; omega) (by simp)
     simp only [sashref05_Same.j0, Bool.false_eq_true, if_false]
     rw [hz] at hl
     exact hl
    ·have e3 : ((a.f3.length : Int) != (b.f3.length : Int)) = true := by simp; omega
     rw [e3, jt _ (by omega), eqB_no (fun e => h3 (by rw [e]))]
   ·rw [if_neg h2, jt _ (by omega), eqB_no (fun e => h2 (by rw [e]))]
  ·have hn : (!(a.f1.f0 == b.f1.f0) || (!(a.f1.f1 == b.f1.f1) || (!(a.f1.f2 == b.f1.f2) || (!(a.f1.f3 == b.f1.f3))))) = true := by
    cases hq : (!(a.f1.f0 == b.f1.f0) || (!(a.f1.f1 == b.f1.f1) || (!(a.f1.f2 == b.f1.f2) || (!(a.f1.f3 == b.f1.f3))))) with
    | true => rfl
    | false =>
     exfalso
     simp only [Bool.or_eq_false_iff, Bool.not_eq_false', beq_iff_eq] at hq
     exact h1 (by cases hx : a.f1; cases hy : b.f1; simp_all)
   rw [if_pos hn, jt _ (by omega), eqB_no (fun e => h1 (by rw [e]))]
 ·rw [if_neg h0, jt _ (by omega), eqB_no (fun e => h0 (by rw [e]))]

theorem bs_ne {s t : ByteArray} (h : s ≠ t) : (s.toList == t.toList) = false := by
 refine beq_eq_false_iff_ne.2 (fun e => h ?_)
 rw [ByteArray.toList_eq, ByteArray.toList_eq] at e
 exact data_ext' e
theorem put_inj {s t : ByteArray} (h : putS s = putS t) : s = t := by
 have hl : ∀ x : ByteArray, (putS x).data.toList.drop 5 = x.data.toList := fun x => by
  unfold putS
  rw [ByteArray.data_append, ByteArray.data_append, Array.toList_append, Array.toList_append]
  rfl
 apply data_ext'
 rw [← hl s, ← hl t, h]
theorem text_inj {a b : SC} (ha : tilesB a = true) (hb : tilesB b = true) (h : putS (bsOf (bodyL a)) = putS (bsOf (bodyL b))) : a = b := by
 have h1 := congrArg (fun x => x.data.toList) (put_inj h)
 exact (body_inj a b (tiles_cgood ha) (tiles_cgood hb)).1 h1

/-- Two trees that came in, and their boxes. -/
structure Two (w : World) (a b : SC) (A B : Option Addr) (cap cap2 : Nat) (W : World) : Prop where
 bel : Below w.heap.size w W
 xa : BoxAt W w.heap.size a A cap
 xb : BoxAt W (w.heap.size + 1) b B cap2
 ra : (k26).C W A a.f3.length a.f3
 rb : (k26).C W B b.f3.length b.f3
theorem Two.below {w : World} {a b : SC} {A B : Option Addr} {cap cap2 : Nat} {W W' : World} (h : Two w a b A B cap cap2 W) (hb : Below W.heap.size W W') : Two w a b A B cap cap2 W' :=
 ⟨h.bel.trans (hb.mono h.bel.size), h.xa.below hb, h.xb.below hb, Kd.C_below h.ra hb, Kd.C_below h.rb hb⟩

set_option maxHeartbeats 16000000 in
theorem printApart_calls (w : World) (a b : SC) (A B : Option Addr) (cap cap2 : Nat) (hra : (k26).C w A a.f3.length a.f3) (hrb : (k26).C w B b.f3.length b.f3) (hca : a.f3.length ≤ cap) (hcb : b.f3.length ≤ cap2) (hla : (cells a).length ≤ 2000000) (hlb : (cells b).length ≤ 2000000) (hT : NumT w) :
  Calls Tryd.prog 6 #[.agg #[.int .u8 a.f0, .int .i64 a.f1.f0, .int .i64 a.f1.f1, .int .i64 a.f1.f2, .int .i64 a.f1.f3, .int .i64 a.f2, .slice A a.f3.length cap], .agg #[.int .u8 b.f0, .int .i64 b.f1.f0, .int .i64 b.f1.f1, .int .i64 b.f1.f2, .int .i64 b.f1.f3, .int .i64 b.f2, .slice B b.f3.length cap2]] w fun e w' => e = .returned (.bool true) ∧ Below w.heap.size w w' := by
 obtain ⟨w2, hw2⟩ : ∃ w2, w2 = (w.alloc (.cells #[.int .u8 a.f0, .int .i64 a.f1.f0, .int .i64 a.f1.f1, .int .i64 a.f1.f2, .int .i64 a.f1.f3, .int .i64 a.f2, .slice A a.f3.length cap] 26)).alloc (.cells #[.int .u8 b.f0, .int .i64 b.f1.f0, .int .i64 b.f1.f1, .int .i64 b.f1.f2, .int .i64 b.f1.f3, .int .i64 b.f2, .slice B b.f3.length cap2] 26) := ⟨_, rfl⟩
 have hb2 : Below w.heap.size w w2 := by rw [hw2]; exact below_alloc (below_alloc (Below.refl _ _) _) _
 have hxa : BoxAt w2 w.heap.size a A cap := by rw [hw2]; exact (BoxAt.new w a A cap).below (below_alloc (Below.refl _ _) _)
 have hxb : BoxAt w2 (w.heap.size + 1) b B cap2 := by
  have h := BoxAt.new (w.alloc (.cells #[.int .u8 a.f0, .int .i64 a.f1.f0, .int .i64 a.f1.f1, .int .i64 a.f1.f2, .int .i64 a.f1.f3, .int .i64 a.f2, .slice A a.f3.length cap] 26)) b B cap2
  rw [show (w.alloc (.cells #[.int .u8 a.f0, .int .i64 a.f1.f0, .int .i64 a.f1.f1, .int .i64 a.f1.f2, .int .i64 a.f1.f3, .int .i64 a.f2, .slice A a.f3.length cap] 26)).heap.size = w.heap.size + 1 by simp] at h
  rw [hw2]; exact h
 have H2 := Aside0.mk (Two.mk hb2 hxa hxb (Kd.C_below hra hb2) (Kd.C_below hrb hb2) : Two w a b A B cap cap2 w2)
 have HT := Aside0.mk hT
 have HW := Aside0.mk hw2
 have HGA := Aside0.mk (great_atP a hla w2 A cap hca H2.out.ra)
 clear hb2 hxa hxb hra hrb hT hw2
 by_cases ga : 200 < (cells a).length
 ·rw [decide_eq_true ga] at HGA
  clear ga hla hlb
  go_enter Tryd.func6, Tryd.ntmps6
  go_upto_region 1 with fail
  rw [← HW.out]
  obtain ⟨p0, p1, p2, p3, p4, p5, p6⟩ := H2.out.xa.cells
  obtain ⟨q0, q1, q2, q3, q4, q5, q6⟩ := H2.out.xb.cells
  go_wp2_with fail
  refine HGA.out.mono ?_
  rintro e w3 ⟨rfl, hb⟩
  have H3 := Aside0.mk (H2.out.below hb)
  clear hb
  clear p0 p1 p2 p3 p4 p5 p6 q0 q1 q2 q3 q4 q5 q6
  go_wp2_with fail
  refine (pawake_calls _ (HT.out.below H3.out.bel)).mono ?_
  rintro e wz ⟨rfl, hb⟩
  have HZ := Aside0.mk (H3.out.bel.trans (hb.mono H3.out.bel.size))
  clear hb
  go_wp2
  go_ret
  exact ⟨rfl, HZ.out⟩
 by_cases gb : 200 < (cells b).length
 ·rw [decide_eq_false ga] at HGA
  have HGB := Aside0.mk (fun W (h : Two w a b A B cap cap2 W) => great_atP b hlb W B cap2 hcb h.rb)
  rw [decide_eq_true gb] at HGB
  clear ga gb hla hlb
  go_enter Tryd.func6, Tryd.ntmps6
  go_upto_region 1 with fail
  rw [← HW.out]
  obtain ⟨p0, p1, p2, p3, p4, p5, p6⟩ := H2.out.xa.cells
  obtain ⟨q0, q1, q2, q3, q4, q5, q6⟩ := H2.out.xb.cells
  go_wp2_with fail
  refine HGA.out.mono ?_
  rintro e w3 ⟨rfl, hb⟩
  have H3 := Aside0.mk (H2.out.below hb)
  clear hb
  clear p0 p1 p2 p3 p4 p5 p6 q0 q1 q2 q3 q4 q5 q6
  replace HGB := Aside0.mk (HGB.out _ H3.out)
  obtain ⟨p0, p1, p2, p3, p4, p5, p6⟩ := H3.out.xa.cells
  obtain ⟨q0, q1, q2, q3, q4, q5, q6⟩ := H3.out.xb.cells
  go_wp2_with fail
  refine HGB.out.mono ?_
  rintro e w4 ⟨rfl, hb⟩
  have H4 := Aside0.mk (H3.out.below hb)
  clear hb
  clear p0 p1 p2 p3 p4 p5 p6 q0 q1 q2 q3 q4 q5 q6
  go_wp2_with fail
  refine (pawake_calls _ (HT.out.below H4.out.bel)).mono ?_
  rintro e wz ⟨rfl, hb⟩
  have HZ := Aside0.mk (H4.out.bel.trans (hb.mono H4.out.bel.size))
  clear hb
  go_wp2
  go_ret
  exact ⟨rfl, HZ.out⟩
 cases ta : tilesB a with
 | false =>
  have HGB := Aside0.mk (fun W (h : Two w a b A B cap cap2 W) => great_atP b hlb W B cap2 hcb h.rb)
  rw [decide_eq_false gb] at HGB
  rw [decide_eq_false ga] at HGA
  have HTA := Aside0.mk (fun W (h : Two w a b A B cap cap2 W) => sashref06_Tiles.calls 100001 _ _ _ _ _ _ A cap a.f3 (tilesB a) W h.ra hca (Tiles_f a (by omega) 100001 (by omega)))
  have HTB := Aside0.mk (fun W (h : Two w a b A B cap cap2 W) => sashref06_Tiles.calls 100001 _ _ _ _ _ _ B cap2 b.f3 (tilesB b) W h.rb hcb (Tiles_f b (by omega) 100001 (by omega)))
  rw [ta] at HTA
  clear ga gb hla hlb ta HTB
  go_enter Tryd.func6, Tryd.ntmps6
  go_upto_region 1 with fail
  rw [← HW.out]
  obtain ⟨p0, p1, p2, p3, p4, p5, p6⟩ := H2.out.xa.cells
  obtain ⟨q0, q1, q2, q3, q4, q5, q6⟩ := H2.out.xb.cells
  go_wp2_with fail
  refine HGA.out.mono ?_
  rintro e w3 ⟨rfl, hb⟩
  have H3 := Aside0.mk (H2.out.below hb)
  clear hb
  clear p0 p1 p2 p3 p4 p5 p6 q0 q1 q2 q3 q4 q5 q6
  replace HGB := Aside0.mk (HGB.out _ H3.out)
  obtain ⟨p0, p1, p2, p3, p4, p5, p6⟩ := H3.out.xa.cells
  obtain ⟨q0, q1, q2, q3, q4, q5, q6⟩ := H3.out.xb.cells
  go_wp2_with fail
  refine HGB.out.mono ?_
  rintro e w4 ⟨rfl, hb⟩
  have H4 := Aside0.mk (H3.out.below hb)
  clear hb
  clear p0 p1 p2 p3 p4 p5 p6 q0 q1 q2 q3 q4 q5 q6
  replace HTA := Aside0.mk (HTA.out _ H4.out)
  obtain ⟨p0, p1, p2, p3, p4, p5, p6⟩ := H4.out.xa.cells
  obtain ⟨q0, q1, q2, q3, q4, q5, q6⟩ := H4.out.xb.cells
  go_wp2_with fail
  refine HTA.out.mono ?_
  rintro e w5 ⟨rfl, hb⟩
  have H5 := Aside0.mk (H4.out.below hb)
  clear hb
  clear p0 p1 p2 p3 p4 p5 p6 q0 q1 q2 q3 q4 q5 q6
  go_wp2_with fail
  refine (pawake_calls _ (HT.out.below H5.out.bel)).mono ?_
  rintro e wz ⟨rfl, hb⟩
  have HZ := Aside0.mk (H5.out.bel.trans (hb.mono H5.out.bel.size))
  clear hb
  go_wp2
  go_ret
  exact ⟨rfl, HZ.out⟩
 | true =>
 cases tb : tilesB b with
 | false =>
  have HGB := Aside0.mk (fun W (h : Two w a b A B cap cap2 W) => great_atP b hlb W B cap2 hcb h.rb)
  rw [decide_eq_false gb] at HGB
  rw [decide_eq_false ga] at HGA
  have HTA := Aside0.mk (fun W (h : Two w a b A B cap cap2 W) => sashref06_Tiles.calls 100001 _ _ _ _ _ _ A cap a.f3 (tilesB a) W h.ra hca (Tiles_f a (by omega) 100001 (by omega)))
  have HTB := Aside0.mk (fun W (h : Two w a b A B cap cap2 W) => sashref06_Tiles.calls 100001 _ _ _ _ _ _ B cap2 b.f3 (tilesB b) W h.rb hcb (Tiles_f b (by omega) 100001 (by omega)))
  rw [ta] at HTA
  rw [tb] at HTB
  clear ga gb hla hlb ta tb
  go_enter Tryd.func6, Tryd.ntmps6
  go_upto_region 1 with fail
  rw [← HW.out]
  obtain ⟨p0, p1, p2, p3, p4, p5, p6⟩ := H2.out.xa.cells
  obtain ⟨q0, q1, q2, q3, q4, q5, q6⟩ := H2.out.xb.cells
  go_wp2_with fail
  refine HGA.out.mono ?_
  rintro e w3 ⟨rfl, hb⟩
  have H3 := Aside0.mk (H2.out.below hb)
  clear hb
  clear p0 p1 p2 p3 p4 p5 p6 q0 q1 q2 q3 q4 q5 q6
  replace HGB := Aside0.mk (HGB.out _ H3.out)
  obtain ⟨p0, p1, p2, p3, p4, p5, p6⟩ := H3.out.xa.cells
  obtain ⟨q0, q1, q2, q3, q4, q5, q6⟩ := H3.out.xb.cells
  go_wp2_with fail
  refine HGB.out.mono ?_
  rintro e w4 ⟨rfl, hb⟩
  have H4 := Aside0.mk (H3.out.below hb)
  clear hb
  clear p0 p1 p2 p3 p4 p5 p6 q0 q1 q2 q3 q4 q5 q6
  replace HTA := Aside0.mk (HTA.out _ H4.out)
  obtain ⟨p0, p1, p2, p3, p4, p5, p6⟩ := H4.out.xa.cells
  obtain ⟨q0, q1, q2, q3, q4, q5, q6⟩ := H4.out.xb.cells
  go_wp2_with fail
  refine HTA.out.mono ?_
  rintro e w5 ⟨rfl, hb⟩
  have H5 := Aside0.mk (H4.out.below hb)
  clear hb
  clear p0 p1 p2 p3 p4 p5 p6 q0 q1 q2 q3 q4 q5 q6
  replace HTB := Aside0.mk (HTB.out _ H5.out)
  obtain ⟨p0, p1, p2, p3, p4, p5, p6⟩ := H5.out.xa.cells
  obtain ⟨q0, q1, q2, q3, q4, q5, q6⟩ := H5.out.xb.cells
  go_wp2_with fail
  refine HTB.out.mono ?_
  rintro e w6 ⟨rfl, hb⟩
  have H6 := Aside0.mk (H5.out.below hb)
  clear hb
  clear p0 p1 p2 p3 p4 p5 p6 q0 q1 q2 q3 q4 q5 q6
  go_wp2_with fail
  refine (pawake_calls _ (HT.out.below H6.out.bel)).mono ?_
  rintro e wz ⟨rfl, hb⟩
  have HZ := Aside0.mk (H6.out.bel.trans (hb.mono H6.out.bel.size))
  clear hb
  go_wp2
  go_ret
  exact ⟨rfl, HZ.out⟩
 | true =>
  have HGB := Aside0.mk (fun W (h : Two w a b A B cap cap2 W) => great_atP b hlb W B cap2 hcb h.rb)
  rw [decide_eq_false gb] at HGB
  rw [decide_eq_false ga] at HGA
  have HTA := Aside0.mk (fun W (h : Two w a b A B cap cap2 W) => sashref06_Tiles.calls 100001 _ _ _ _ _ _ A cap a.f3 (tilesB a) W h.ra hca (Tiles_f a (by omega) 100001 (by omega)))
  have HTB := Aside0.mk (fun W (h : Two w a b A B cap cap2 W) => sashref06_Tiles.calls 100001 _ _ _ _ _ _ B cap2 b.f3 (tilesB b) W h.rb hcb (Tiles_f b (by omega) 100001 (by omega)))
  have HPA := Aside0.mk (fun W (h : Two w a b A B cap cap2 W) => ptext_calls a W A cap (by omega) hca h.ra (HT.out.below h.bel))
  have HPB := Aside0.mk (fun W (h : Two w a b A B cap cap2 W) => ptext_calls b W B cap2 (by omega) hcb h.rb (HT.out.below h.bel))
  have HSM := Aside0.mk (fun W (h : Two w a b A B cap cap2 W) => sashref05_Same.calls 1000 _ _ _ _ _ _ A cap a.f3 _ _ _ _ _ _ B cap2 b.f3 (eqB a b) W h.ra hca h.rb hcb (Same_f a b (by omega) 1000 (by omega)))
  have hta : textAns a = (putS (bsOf (bodyL a)), 0) := by unfold textAns; rw [if_pos ta]
  have htb : textAns b = (putS (bsOf (bodyL b)), 0) := by unfold textAns; rw [if_pos tb]
  have hinj := fun h => text_inj ta tb h
  have hsame : a = b → putS (bsOf (bodyL a)) = putS (bsOf (bodyL b)) := fun h => by rw [h]
  rw [hta] at HPA
  rw [htb] at HPB
  rw [ta] at HTA
  rw [tb] at HTB
  generalize putS (bsOf (bodyL a)) = sa at *
  generalize putS (bsOf (bodyL b)) = sb at *
  have hcase : (sa = sb ∧ eqB a b = true) ∨ ((sa.toList == sb.toList) = false ∧ sa ≠ sb ∧ eqB a b = false) := by
   by_cases h : a = b
   ·exact Or.inl ⟨hsame h, eqB_yes h⟩
   ·exact Or.inr ⟨bs_ne (fun e => h (hinj e)), fun e => h (hinj e), eqB_no h⟩
  clear ga gb hla hlb ta tb hta htb hinj hsame
  rcases hcase with ⟨hs, he⟩ | ⟨hs, hs2, he⟩
  ·subst hs
   rw [he] at HSM
   clear he
   go_enter Tryd.func6, Tryd.ntmps6
   go_upto_region 1 with fail
   rw [← HW.out]
   obtain ⟨p0, p1, p2, p3, p4, p5, p6⟩ := H2.out.xa.cells
   obtain ⟨q0, q1, q2, q3, q4, q5, q6⟩ := H2.out.xb.cells
   go_wp2_with fail
   refine HGA.out.mono ?_
   rintro e w3 ⟨rfl, hb⟩
   have H3 := Aside0.mk (H2.out.below hb)
   clear hb
   clear p0 p1 p2 p3 p4 p5 p6 q0 q1 q2 q3 q4 q5 q6
   replace HGB := Aside0.mk (HGB.out _ H3.out)
   obtain ⟨p0, p1, p2, p3, p4, p5, p6⟩ := H3.out.xa.cells
   obtain ⟨q0, q1, q2, q3, q4, q5, q6⟩ := H3.out.xb.cells
   go_wp2_with fail
   refine HGB.out.mono ?_
   rintro e w4 ⟨rfl, hb⟩
   have H4 := Aside0.mk (H3.out.below hb)
   clear hb
   clear p0 p1 p2 p3 p4 p5 p6 q0 q1 q2 q3 q4 q5 q6
   replace HTA := Aside0.mk (HTA.out _ H4.out)
   obtain ⟨p0, p1, p2, p3, p4, p5, p6⟩ := H4.out.xa.cells
   obtain ⟨q0, q1, q2, q3, q4, q5, q6⟩ := H4.out.xb.cells
   go_wp2_with fail
   refine HTA.out.mono ?_
   rintro e w5 ⟨rfl, hb⟩
   have H5 := Aside0.mk (H4.out.below hb)
   clear hb
   clear p0 p1 p2 p3 p4 p5 p6 q0 q1 q2 q3 q4 q5 q6
   replace HTB := Aside0.mk (HTB.out _ H5.out)
   obtain ⟨p0, p1, p2, p3, p4, p5, p6⟩ := H5.out.xa.cells
   obtain ⟨q0, q1, q2, q3, q4, q5, q6⟩ := H5.out.xb.cells
   go_wp2_with fail
   refine HTB.out.mono ?_
   rintro e w6 ⟨rfl, hb⟩
   have H6 := Aside0.mk (H5.out.below hb)
   clear hb
   clear p0 p1 p2 p3 p4 p5 p6 q0 q1 q2 q3 q4 q5 q6
   replace HPA := Aside0.mk (HPA.out _ H6.out)
   obtain ⟨p0, p1, p2, p3, p4, p5, p6⟩ := H6.out.xa.cells
   obtain ⟨q0, q1, q2, q3, q4, q5, q6⟩ := H6.out.xb.cells
   go_wp2_with fail
   refine HPA.out.mono ?_
   rintro e w7 ⟨rfl, hb⟩
   have H7 := Aside0.mk (H6.out.below hb)
   clear hb
   clear p0 p1 p2 p3 p4 p5 p6 q0 q1 q2 q3 q4 q5 q6
   replace HPB := Aside0.mk (HPB.out _ H7.out)
   obtain ⟨p0, p1, p2, p3, p4, p5, p6⟩ := H7.out.xa.cells
   obtain ⟨q0, q1, q2, q3, q4, q5, q6⟩ := H7.out.xb.cells
   go_wp2_with fail
   refine HPB.out.mono ?_
   rintro e w8 ⟨rfl, hb⟩
   have H8 := Aside0.mk (H7.out.below hb)
   clear hb
   clear p0 p1 p2 p3 p4 p5 p6 q0 q1 q2 q3 q4 q5 q6
   replace HSM := Aside0.mk (HSM.out _ H8.out)
   obtain ⟨p0, p1, p2, p3, p4, p5, p6⟩ := H8.out.xa.cells
   obtain ⟨q0, q1, q2, q3, q4, q5, q6⟩ := H8.out.xb.cells
   go_wp2_with fail
   refine HSM.out.mono ?_
   rintro e w9 ⟨rfl, hb⟩
   have H9 := Aside0.mk (H8.out.below hb)
   clear hb
   clear p0 p1 p2 p3 p4 p5 p6 q0 q1 q2 q3 q4 q5 q6
   go_wp2_with fail
   refine (pawake_calls _ (HT.out.below H9.out.bel)).mono ?_
   rintro e wz ⟨rfl, hb⟩
   have HZ := Aside0.mk (H9.out.bel.trans (hb.mono H9.out.bel.size))
   clear hb
   go_wp2
   go_ret
   exact ⟨rfl, HZ.out⟩
  ·rw [he] at HSM
   clear he
   go_enter Tryd.func6, Tryd.ntmps6
   go_upto_region 1 with fail
   rw [← HW.out]
   obtain ⟨p0, p1, p2, p3, p4, p5, p6⟩ := H2.out.xa.cells
   obtain ⟨q0, q1, q2, q3, q4, q5, q6⟩ := H2.out.xb.cells
   go_wp2_with fail
   refine HGA.out.mono ?_
   rintro e w3 ⟨rfl, hb⟩
   have H3 := Aside0.mk (H2.out.below hb)
   clear hb
   clear p0 p1 p2 p3 p4 p5 p6 q0 q1 q2 q3 q4 q5 q6
   replace HGB := Aside0.mk (HGB.out _ H3.out)
   obtain ⟨p0, p1, p2, p3, p4, p5, p6⟩ := H3.out.xa.cells
   obtain ⟨q0, q1, q2, q3, q4, q5, q6⟩ := H3.out.xb.cells
   go_wp2_with fail
   refine HGB.out.mono ?_
   rintro e w4 ⟨rfl, hb⟩
   have H4 := Aside0.mk (H3.out.below hb)
   clear hb
   clear p0 p1 p2 p3 p4 p5 p6 q0 q1 q2 q3 q4 q5 q6
   replace HTA := Aside0.mk (HTA.out _ H4.out)
   obtain ⟨p0, p1, p2, p3, p4, p5, p6⟩ := H4.out.xa.cells
   obtain ⟨q0, q1, q2, q3, q4, q5, q6⟩ := H4.out.xb.cells
   go_wp2_with fail
   refine HTA.out.mono ?_
   rintro e w5 ⟨rfl, hb⟩
   have H5 := Aside0.mk (H4.out.below hb)
   clear hb
   clear p0 p1 p2 p3 p4 p5 p6 q0 q1 q2 q3 q4 q5 q6
   replace HTB := Aside0.mk (HTB.out _ H5.out)
   obtain ⟨p0, p1, p2, p3, p4, p5, p6⟩ := H5.out.xa.cells
   obtain ⟨q0, q1, q2, q3, q4, q5, q6⟩ := H5.out.xb.cells
   go_wp2_with fail
   refine HTB.out.mono ?_
   rintro e w6 ⟨rfl, hb⟩
   have H6 := Aside0.mk (H5.out.below hb)
   clear hb
   clear p0 p1 p2 p3 p4 p5 p6 q0 q1 q2 q3 q4 q5 q6
   replace HPA := Aside0.mk (HPA.out _ H6.out)
   obtain ⟨p0, p1, p2, p3, p4, p5, p6⟩ := H6.out.xa.cells
   obtain ⟨q0, q1, q2, q3, q4, q5, q6⟩ := H6.out.xb.cells
   go_wp2_with fail
   refine HPA.out.mono ?_
   rintro e w7 ⟨rfl, hb⟩
   have H7 := Aside0.mk (H6.out.below hb)
   clear hb
   clear p0 p1 p2 p3 p4 p5 p6 q0 q1 q2 q3 q4 q5 q6
   replace HPB := Aside0.mk (HPB.out _ H7.out)
   obtain ⟨p0, p1, p2, p3, p4, p5, p6⟩ := H7.out.xa.cells
   obtain ⟨q0, q1, q2, q3, q4, q5, q6⟩ := H7.out.xb.cells
   go_wp2_with fail
   refine HPB.out.mono ?_
   rintro e w8 ⟨rfl, hb⟩
   have H8 := Aside0.mk (H7.out.below hb)
   clear hb
   clear p0 p1 p2 p3 p4 p5 p6 q0 q1 q2 q3 q4 q5 q6
   replace HSM := Aside0.mk (HSM.out _ H8.out)
   obtain ⟨p0, p1, p2, p3, p4, p5, p6⟩ := H8.out.xa.cells
   obtain ⟨q0, q1, q2, q3, q4, q5, q6⟩ := H8.out.xb.cells
   go_wp2_with fail
   refine HSM.out.mono ?_
   rintro e w9 ⟨rfl, hb⟩
   have H9 := Aside0.mk (H8.out.below hb)
   clear hb
   clear p0 p1 p2 p3 p4 p5 p6 q0 q1 q2 q3 q4 q5 q6
   go_wp2_with fail
   refine (pawake_calls _ (HT.out.below H9.out.bel)).mono ?_
   rintro e wz ⟨rfl, hb⟩
   have HZ := Aside0.mk (H9.out.bel.trans (hb.mono H9.out.bel.size))
   clear hb
   go_wp2
   go_ret
   exact ⟨rfl, HZ.out⟩
end Go.Proofs.YtakhnigalkjhhaaDoor
