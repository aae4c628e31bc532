/-
  Joined texts: RlnM1, RlnM2, RlnM8, RlnM3, RlnM4.
-/
import Derived.Test.YtmcjfnebkpifnaaGreatDoorRlnMay
import Derived.Deep.RegionHeld3
/-
  The document's ReadLine: the happening of a line, way by way.
-/
namespace Go.Proofs.YtmcjfnebkpifnaaGreatDoor
open Go.RowKit Go.Proofs.YtmcjfnebkpifnaaGreatDoorW.PrintWords Go.Proofs.YtmcjfnebkpifnaaGreatDoorW.PrintLast Go.Proofs.YtmcjfnebkpifnaaGreatDoorW.PrintMore Go.Proofs.YtmcjfnebkpifnaaGreatDoor.PScriptReads
set_option linter.unusedVariables false
set_option linter.unusedSimpArgs false
set_option maxRecDepth 100000


set_option maxHeartbeats 8000000 in
theorem rlnM1_calls (w : World) (s : ByteArray) (hs : s.size ≤ 50000) (i : Nat) (hi0 : 1 ≤ i) (hi : i < 6) (r : List UInt8) (hm : s.data.toList = kindL.getD i [] ++ 32 :: r) (N : Int) (dl rest : List UInt8) (hr : r = dl ++ rest) (hrq : headR (bsOf r) = (N, (dl.length : Int), 0)) (bb : Bool) (hbb : bb = decide (rest = [])) (h15 : i = 1 ∨ i = 5) :
    Calls Tryz.prog 29 #[.string s] w fun e w' => LineIs w ⟨(i : Int) + 1, N, ⟨#[]⟩⟩ bb e w' := by
  obtain ⟨W0, hW0⟩ : ∃ W0, W0 = (w.alloc (.cells #[.int .u8 0, .int .i64 0, .string ⟨#[]⟩] 43)).alloc (.cells #[.int .u8 0, .int .i64 0, .string ⟨#[]⟩] 43) := ⟨_, rfl⟩
  have HR0 : Aside0 (RS w W0 (w.heap.size + 1) Z0) := ⟨by rw [hW0]; exact RS.two_new w⟩
  have HW := Aside0.mk hW0
  have HMT := Aside0.mk hm
  have HA0 : Aside0 (¬ s.data.toList = kindL.getD 0 []) := ⟨no_attach hi hm⟩
  have HNM : Aside0 (∀ k, k < i → ¬ Match s.data.toList k) := ⟨fun k hk h => absurd (match_one (by omega) hi h ⟨r, hm⟩) (by omega)⟩
  have HRL : Aside0 (r.length ≤ 50000) := ⟨by have := match_size hm; omega⟩
  have HHD : Aside0 (∀ W : World, Calls Tryz.prog 53 #[.string (bsOf r)] W fun e w' => e = .returned (.tuple #[.int .i64 N, .int .i64 (dl.length : Int), .int .i64 0]) ∧ Below W.heap.size W w') := ⟨fun W => by
    have h := refHead_calls (bsOf r) (by rw [bs_size]; have := HRL.out; omega) W
    rw [hrq] at h
    exact h.mono fun e w' ⟨q1, q2⟩ => ⟨q1, q2.below⟩⟩
  clear hrq
  have HREST : Aside0 (s.extract ((bsOf (kindL.getD i [])).size + 1 + dl.length) s.size = bsOf rest) := ⟨match_rest2 hm hr⟩
  have HDL : Aside0 (dl.length + rest.length = r.length) := ⟨by rw [hr, List.length_append]⟩
  clear hr
  have HBB := Aside0.mk hbb
  clear hbb
  clear hm
  clear hW0
  go_enter Tryz.func29, Tryz.ntmps29
  go_upto_region 2 with fail
  rw [← HW.out]
  go_wp2_with fail
  with_reducible refine (rwords_calls W0).mono ?_
  rintro e w1 ⟨A, c1, rfl, hc1, hC, hb⟩
  have HR1 := Aside0.mk (HR0.out.below hb)
  have HC1 := Aside0.mk hC
  clear hC hb HR0 HW
  go_wp2
  go_loopw [21] (fun v wr => ∃ j : Nat, j ≤ 6 ∧ v = .int .i64 j ∧ Aside0 (RS w wr (w.heap.size + 1) Z0 ∧ Below w1.heap.size w1 wr ∧ j ≤ i)) (fun v _ => 6 - (intOf v).toNat)
  case atStart => exact ⟨0, by omega, rfl, ⟨HR1.out, Below.refl _ _, by omega⟩⟩
  case round =>
    obtain ⟨j, hj, rfl, HJ⟩ := hrel
    have HB := Aside0.mk HJ.out.2.1
    have hji := HJ.out.2.2
    by_cases hjlt : j < i
    · by_cases h0 : j = 0
      · subst h0
        obtain ⟨w3, hw3⟩ : ∃ w3, w3 = wr.alloc (.cells #[.int .u8 1, .int .i64 0, .string ⟨#[]⟩] 43) := ⟨_, rfl⟩
        have HB3 : Aside0 (Below wr.heap.size wr w3) := ⟨by rw [hw3]; exact below_alloc (Below.refl _ _) _⟩
        have HX3 : Aside0 (RS w w3 wr.heap.size ⟨1, 0, ⟨#[]⟩⟩) := ⟨by rw [hw3]; exact RS.new HJ.out.1.bel HJ.out.1.res ⟨1, 0, ⟨#[]⟩⟩⟩
        have HR3 := Aside0.mk (HJ.out.1.below HB3.out)
        have HC3 := Aside0.mk (Kd.C_below HC1.out (HB.out.trans (HB3.out.mono HB.out.size)))
        have HB13 := Aside0.mk (HB.out.trans (HB3.out.mono HB.out.size))
        have HW3 := Aside0.mk hw3
        clear hw3
        have hcl := word_cell HC3.out 0 (by omega)
        have hcl0 : w3.cell? A = some (.string (bsOf (kindL.getD 0 []))) := by rw [show A.add 0 = A by cases A; rfl] at hcl; exact hcl
        have a1 : ¬ s.toList = (bsOf (kindL.getD 0 [])).toList := by rw [ByteArray.toList_eq, ByteArray.toList_eq, bs_list]; exact HA0.out
        have a2 : (s.toList == (bsOf (kindL.getD 0 [])).toList) = false := beq_eq_false_iff_ne.2 a1
        go_upto_region 7 with fail
        rw [← HW3.out]
        generalize bsOf (kindL.getD 0 []) = kb at *
        go_wp2
        go_roundw
        case rel => exact ⟨1, by omega, by go_num, ⟨HR3.out, HB13.out, by omega⟩⟩
        case measure => simp [intOf]
      · have hnm := HNM.out j hjlt
        have hjz : ((j : Int) == 0) = false := beq_eq_false_iff_ne.2 (by omega)
        have hwk : IntKind.u8.wrap ((j : Int) + 1) = (j : Int) + 1 := by rw [show IntKind.u8.wrap ((j : Int) + 1) = ((j : Int) + 1) % 256 by simp [IntKind.wrap, IntKind.bits, IntKind.signed]]; omega
        have hkw := kw_size j
        have hnm2 : (bsOf (kindL.getD j [])).size + 1 ≤ s.size → _ := not_match hnm
        obtain ⟨w3, hw3⟩ : ∃ w3, w3 = wr.alloc (.cells #[.int .u8 ((j : Int) + 1), .int .i64 0, .string ⟨#[]⟩] 43) := ⟨_, rfl⟩
        have HB3 : Aside0 (Below wr.heap.size wr w3) := ⟨by rw [hw3]; exact below_alloc (Below.refl _ _) _⟩
        have HX3 : Aside0 (RS w w3 wr.heap.size ⟨((j : Int) + 1), 0, ⟨#[]⟩⟩) := ⟨by rw [hw3]; exact RS.new HJ.out.1.bel HJ.out.1.res ⟨((j : Int) + 1), 0, ⟨#[]⟩⟩⟩
        have HR3 := Aside0.mk (HJ.out.1.below HB3.out)
        have HC3 := Aside0.mk (Kd.C_below HC1.out (HB.out.trans (HB3.out.mono HB.out.size)))
        have HB13 := Aside0.mk (HB.out.trans (HB3.out.mono HB.out.size))
        have HW3 := Aside0.mk hw3
        clear hw3
        go_upto_region 7 with fail
        rw [← HW3.out]
        have hcl := word_cell HC3.out j (by omega)
        generalize bsOf (kindL.getD j []) = kb at *
        have z0 : (9223372036854775807 < kb.size + 1) = False := eq_false (by omega)
        have hzz : (kb ++ (⟨#[32]⟩ : ByteArray)).size = kb.size + 1 := by rw [ByteArray.size_append]; rfl
        by_cases hln : s.size < kb.size + 1
        · have l1 : ((s.size : Int) < (kb.size : Int) + 1) = True := eq_true (by omega)
          have l2 : (s.size < kb.size + 1) = True := eq_true hln
          have l3 : decide ((s.size : Int) < (kb.size : Int) + 1) = true := decide_eq_true (by omega)
          clear hnm2 hln
          go_wp2
          go_roundw
          case rel => exact ⟨j + 1, by omega, by go_num, ⟨HR3.out, HB13.out, by omega⟩⟩
          case measure => simp [intOf]; omega
        · have l1 : ((s.size : Int) < (kb.size : Int) + 1) = False := eq_false (by omega)
          have l2 : (s.size < kb.size + 1) = False := eq_false hln
          have l3 : decide ((s.size : Int) < (kb.size : Int) + 1) = false := decide_eq_false (by omega)
          have n1 := hnm2 (by omega)
          have n2 : ((s.extract 0 (kb.size + 1)).toList == (kb ++ (⟨#[32]⟩ : ByteArray)).toList) = false := beq_eq_false_iff_ne.2 n1
          have n3 : ((s.extract 0 (kb.size + 1)).toList != (kb ++ (⟨#[32]⟩ : ByteArray)).toList) = true := bne_iff_ne.2 n1
          have b1 : kb.size + 1 ≤ s.size := by omega
          have b2 : (kb.size : Int) + 1 ≤ (s.size : Int) := by omega
          have b3 : 0 ≤ (kb.size : Int) + 1 := by omega
          have b4 : ((kb.size : Int) + 1).toNat = kb.size + 1 := by omega
          clear hnm2 hln
          go_wp2
          go_roundw
          case rel => exact ⟨j + 1, by omega, by go_num, ⟨HR3.out, HB13.out, by omega⟩⟩
          case measure => simp [intOf]; omega
    · obtain rfl : j = i := by omega
      have hjz : ((j : Int) == 0) = false := beq_eq_false_iff_ne.2 (by omega)
      have hwk : IntKind.u8.wrap ((j : Int) + 1) = (j : Int) + 1 := by rw [show IntKind.u8.wrap ((j : Int) + 1) = ((j : Int) + 1) % 256 by simp [IntKind.wrap, IntKind.bits, IntKind.signed]]; omega
      have hkw := kw_size j
      have hms := match_size HMT.out
      have hmh := match_head HMT.out
      have hmr := match_rest HMT.out
      obtain ⟨w3, hw3⟩ : ∃ w3, w3 = wr.alloc (.cells #[.int .u8 ((j : Int) + 1), .int .i64 0, .string ⟨#[]⟩] 43) := ⟨_, rfl⟩
      have HB3 : Aside0 (Below wr.heap.size wr w3) := ⟨by rw [hw3]; exact below_alloc (Below.refl _ _) _⟩
      have HX3 : Aside0 (RS w w3 wr.heap.size ⟨((j : Int) + 1), 0, ⟨#[]⟩⟩) := ⟨by rw [hw3]; exact RS.new HJ.out.1.bel HJ.out.1.res ⟨((j : Int) + 1), 0, ⟨#[]⟩⟩⟩
      have HR3 := Aside0.mk (HJ.out.1.below HB3.out)
      have HC3 := Aside0.mk (Kd.C_below HC1.out (HB.out.trans (HB3.out.mono HB.out.size)))
      have HB13 := Aside0.mk (HB.out.trans (HB3.out.mono HB.out.size))
      have HW3 := Aside0.mk hw3
      clear hw3
      go_upto_region 7 with fail
      rw [← HW3.out]
      have hcl := word_cell HC3.out j (by omega)
      obtain ⟨kb, hkb⟩ : ∃ kb, kb = bsOf (kindL.getD j []) := ⟨_, rfl⟩
      rw [← hkb] at hkw hms hmh hmr hcl
      have HKB := Aside0.mk hkb
      clear hkb
      obtain ⟨b, hbw⟩ : ∃ b, b = wr.heap.size := ⟨_, rfl⟩
      have HNE : Aside0 (w.heap.size + 1 ≠ b) := ⟨by rw [hbw]; exact Nat.ne_of_lt (blk_lt HJ.out.1.hap)⟩
      rw [← hbw] at HX3 ⊢
      clear hbw
      have z0 : (9223372036854775807 < kb.size + 1) = False := eq_false (by omega)
      have hzz : (kb ++ (⟨#[32]⟩ : ByteArray)).size = kb.size + 1 := by rw [ByteArray.size_append]; rfl
      have l1 : ((s.size : Int) < (kb.size : Int) + 1) = False := eq_false (by omega)
      have l2 : (s.size < kb.size + 1) = False := eq_false (by omega)
      have l3 : decide ((s.size : Int) < (kb.size : Int) + 1) = false := decide_eq_false (by omega)
      have n2 : ((s.extract 0 (kb.size + 1)).toList == (kb ++ (⟨#[32]⟩ : ByteArray)).toList) = true := beq_iff_eq.2 hmh
      have n3 : ((s.extract 0 (kb.size + 1)).toList != (kb ++ (⟨#[32]⟩ : ByteArray)).toList) = false := by rw [bne, n2]; rfl
      have b1 : kb.size + 1 ≤ s.size := by omega
      have b2 : (kb.size : Int) + 1 ≤ (s.size : Int) := by omega
      have b3 : 0 ≤ (kb.size : Int) + 1 := by omega
      have b4 : ((kb.size : Int) + 1).toNat = kb.size + 1 := by omega
      have HMS := Aside0.mk hms
      clear hms
      go_wp2_with fail
      with_reducible refine (HHD.out _).mono ?_
      rintro e w4 ⟨rfl, hb4⟩
      have HR4 := Aside0.mk (HR3.out.below hb4)
      have HX4 := Aside0.mk (HX3.out.below hb4)
      clear hb4 n2 n3 l1 l2 l3 hcl hjz hwk hmh hmr HR3 HX3 HC3 HB3
      have hrs := HREST.out
      rw [← HKB.out] at hrs
      have hdl := HDL.out
      have hrl := HRL.out
      have hms := HMS.out
      obtain ⟨d, hd⟩ : ∃ d, d = dl.length := ⟨_, rfl⟩
      rw [← hd] at hdl hrs ⊢
      have b5 : ((kb.size : Int) + 1 + (d : Int)).toNat = kb.size + 1 + d := by omega
      have b6 : (kb.size : Int) + 1 + (d : Int) ≤ (s.size : Int) := by omega
      have b7 : 0 ≤ (kb.size : Int) + 1 + (d : Int) := by omega
      have b8 : kb.size + 1 + d ≤ s.size := by omega
      clear hms hdl hrl hd
      obtain ⟨c0, c1', c2'⟩ := HX4.out.hap.cells
      obtain ⟨f0, f1, f2⟩ := HX4.out.hap.fro
      simp only at c0 c1' c2'
      go_upto_region 16 with fail
      obtain ⟨w5, hw5⟩ : ∃ w5, w5 = w4.setCell ⟨b, 1, none⟩ (.int .i64 N) := ⟨_, rfl⟩
      have HX5 : Aside0 (RS w w5 b ⟨(j : Int) + 1, N, ⟨#[]⟩⟩) := ⟨by rw [hw5]; exact HX4.out.one N⟩
      have HR5 : Aside0 (RS w w5 (w.heap.size + 1) Z0) := ⟨by rw [hw5]; exact HR4.out.far HNE.out HX4.out.lt _ _⟩
      rw [← hw5]
      clear hw5 HR4 HX4 c0 c1' c2' f0 f1 f2
      have e1 : ((bsOf rest).toList == ([] : List UInt8)) = bb := by rw [ByteArray.toList_eq, bs_list, HBB.out]; cases rest <;> rfl
      have e2 : (bsOf rest).toList.isEmpty = bb := by rw [ByteArray.toList_eq, bs_list, HBB.out]; cases rest <;> rfl
      generalize bsOf rest = rb at *
      rcases h15 with h15 | h15
      · have i1 : ((j : Int) == 1) = true := beq_iff_eq.2 (by omega)
        clear h15
        have HD := Aside0.mk (HX5.out.done (⟨(j : Int) + 1, N, ⟨#[]⟩⟩ : SH))
        obtain ⟨⟨g0, g1, g2⟩, hbz⟩ := HD.out
        simp only at g0 g1 g2 hbz
        obtain ⟨⟨r0, r1, r2⟩, q0, q1, q2⟩ := HX5.out.resF
        obtain ⟨c0, c1', c2'⟩ := HX5.out.hap.cells
        simp only at c0 c1' c2'
        clear HD
        go_wp2
        exact bodyPost_ret (v := .tuple #[.agg #[.int .u8 ((⟨(j : Int) + 1, N, ⟨#[]⟩⟩ : SH)).f0, .int .i64 ((⟨(j : Int) + 1, N, ⟨#[]⟩⟩ : SH)).f1, .string ((⟨(j : Int) + 1, N, ⟨#[]⟩⟩ : SH)).f2], .bool bb]) (by simp [results, Tryz.results29, go_sem, g0, g1, g2]) rfl ⟨rfl, hbz⟩
      · have i1 : ((j : Int) == 1) = false := beq_eq_false_iff_ne.2 (by omega)
        have i5 : ((j : Int) == 5) = true := beq_iff_eq.2 (by omega)
        clear h15
        have HD := Aside0.mk (HX5.out.done (⟨(j : Int) + 1, N, ⟨#[]⟩⟩ : SH))
        obtain ⟨⟨g0, g1, g2⟩, hbz⟩ := HD.out
        simp only at g0 g1 g2 hbz
        obtain ⟨⟨r0, r1, r2⟩, q0, q1, q2⟩ := HX5.out.resF
        obtain ⟨c0, c1', c2'⟩ := HX5.out.hap.cells
        simp only at c0 c1' c2'
        clear HD
        go_wp2
        exact bodyPost_ret (v := .tuple #[.agg #[.int .u8 ((⟨(j : Int) + 1, N, ⟨#[]⟩⟩ : SH)).f0, .int .i64 ((⟨(j : Int) + 1, N, ⟨#[]⟩⟩ : SH)).f1, .string ((⟨(j : Int) + 1, N, ⟨#[]⟩⟩ : SH)).f2], .bool bb]) (by simp [results, Tryz.results29, go_sem, g0, g1, g2]) rfl ⟨rfl, hbz⟩

end Go.Proofs.YtmcjfnebkpifnaaGreatDoor

/-
  The document's ReadLine: the happening of a line, way by way.
-/
namespace Go.Proofs.YtmcjfnebkpifnaaGreatDoor
open Go.RowKit Go.Proofs.YtmcjfnebkpifnaaGreatDoorW.PrintWords Go.Proofs.YtmcjfnebkpifnaaGreatDoorW.PrintLast Go.Proofs.YtmcjfnebkpifnaaGreatDoorW.PrintMore Go.Proofs.YtmcjfnebkpifnaaGreatDoor.PScriptReads
set_option linter.unusedVariables false
set_option linter.unusedSimpArgs false
set_option maxRecDepth 100000


set_option maxHeartbeats 8000000 in
theorem rlnM2_calls (w : World) (s : ByteArray) (hs : s.size ≤ 50000) (i : Nat) (hi0 : 1 ≤ i) (hi : i < 6) (r : List UInt8) (hm : s.data.toList = kindL.getD i [] ++ 32 :: r) (N : Int) (dl rest : List UInt8) (hr : r = dl ++ rest) (hrq : headR (bsOf r) = (N, (dl.length : Int), 0)) (h15 : ¬ (i = 1 ∨ i = 5)) (hbad : rest.length < 2) :
    Calls Tryz.prog 29 #[.string s] w fun e w' => LineNo w e w' := by
  obtain ⟨W0, hW0⟩ : ∃ W0, W0 = (w.alloc (.cells #[.int .u8 0, .int .i64 0, .string ⟨#[]⟩] 43)).alloc (.cells #[.int .u8 0, .int .i64 0, .string ⟨#[]⟩] 43) := ⟨_, rfl⟩
  have HR0 : Aside0 (RS w W0 (w.heap.size + 1) Z0) := ⟨by rw [hW0]; exact RS.two_new w⟩
  have HW := Aside0.mk hW0
  have HMT := Aside0.mk hm
  have HA0 : Aside0 (¬ s.data.toList = kindL.getD 0 []) := ⟨no_attach hi hm⟩
  have HNM : Aside0 (∀ k, k < i → ¬ Match s.data.toList k) := ⟨fun k hk h => absurd (match_one (by omega) hi h ⟨r, hm⟩) (by omega)⟩
  have HRL : Aside0 (r.length ≤ 50000) := ⟨by have := match_size hm; omega⟩
  have HHD : Aside0 (∀ W : World, Calls Tryz.prog 53 #[.string (bsOf r)] W fun e w' => e = .returned (.tuple #[.int .i64 N, .int .i64 (dl.length : Int), .int .i64 0]) ∧ Below W.heap.size W w') := ⟨fun W => by
    have h := refHead_calls (bsOf r) (by rw [bs_size]; have := HRL.out; omega) W
    rw [hrq] at h
    exact h.mono fun e w' ⟨q1, q2⟩ => ⟨q1, q2.below⟩⟩
  clear hrq
  have HREST : Aside0 (s.extract ((bsOf (kindL.getD i [])).size + 1 + dl.length) s.size = bsOf rest) := ⟨match_rest2 hm hr⟩
  have HDL : Aside0 (dl.length + rest.length = r.length) := ⟨by rw [hr, List.length_append]⟩
  clear hr
  clear hm
  clear hW0
  go_enter Tryz.func29, Tryz.ntmps29
  go_upto_region 2 with fail
  rw [← HW.out]
  go_wp2_with fail
  with_reducible refine (rwords_calls W0).mono ?_
  rintro e w1 ⟨A, c1, rfl, hc1, hC, hb⟩
  have HR1 := Aside0.mk (HR0.out.below hb)
  have HC1 := Aside0.mk hC
  clear hC hb HR0 HW
  go_wp2
  go_loopw [21] (fun v wr => ∃ j : Nat, j ≤ 6 ∧ v = .int .i64 j ∧ Aside0 (RS w wr (w.heap.size + 1) Z0 ∧ Below w1.heap.size w1 wr ∧ j ≤ i)) (fun v _ => 6 - (intOf v).toNat)
  case atStart => exact ⟨0, by omega, rfl, ⟨HR1.out, Below.refl _ _, by omega⟩⟩
  case round =>
    obtain ⟨j, hj, rfl, HJ⟩ := hrel
    have HB := Aside0.mk HJ.out.2.1
    have hji := HJ.out.2.2
    by_cases hjlt : j < i
    · by_cases h0 : j = 0
      · subst h0
        obtain ⟨w3, hw3⟩ : ∃ w3, w3 = wr.alloc (.cells #[.int .u8 1, .int .i64 0, .string ⟨#[]⟩] 43) := ⟨_, rfl⟩
        have HB3 : Aside0 (Below wr.heap.size wr w3) := ⟨by rw [hw3]; exact below_alloc (Below.refl _ _) _⟩
        have HX3 : Aside0 (RS w w3 wr.heap.size ⟨1, 0, ⟨#[]⟩⟩) := ⟨by rw [hw3]; exact RS.new HJ.out.1.bel HJ.out.1.res ⟨1, 0, ⟨#[]⟩⟩⟩
        have HR3 := Aside0.mk (HJ.out.1.below HB3.out)
        have HC3 := Aside0.mk (Kd.C_below HC1.out (HB.out.trans (HB3.out.mono HB.out.size)))
        have HB13 := Aside0.mk (HB.out.trans (HB3.out.mono HB.out.size))
        have HW3 := Aside0.mk hw3
        clear hw3
        have hcl := word_cell HC3.out 0 (by omega)
        have hcl0 : w3.cell? A = some (.string (bsOf (kindL.getD 0 []))) := by rw [show A.add 0 = A by cases A; rfl] at hcl; exact hcl
        have a1 : ¬ s.toList = (bsOf (kindL.getD 0 [])).toList := by rw [ByteArray.toList_eq, ByteArray.toList_eq, bs_list]; exact HA0.out
        have a2 : (s.toList == (bsOf (kindL.getD 0 [])).toList) = false := beq_eq_false_iff_ne.2 a1
        go_upto_region 7 with fail
        rw [← HW3.out]
        generalize bsOf (kindL.getD 0 []) = kb at *
        go_wp2
        go_roundw
        case rel => exact ⟨1, by omega, by go_num, ⟨HR3.out, HB13.out, by omega⟩⟩
        case measure => simp [intOf]
      · have hnm := HNM.out j hjlt
        have hjz : ((j : Int) == 0) = false := beq_eq_false_iff_ne.2 (by omega)
        have hwk : IntKind.u8.wrap ((j : Int) + 1) = (j : Int) + 1 := by rw [show IntKind.u8.wrap ((j : Int) + 1) = ((j : Int) + 1) % 256 by simp [IntKind.wrap, IntKind.bits, IntKind.signed]]; omega
        have hkw := kw_size j
        have hnm2 : (bsOf (kindL.getD j [])).size + 1 ≤ s.size → _ := not_match hnm
        obtain ⟨w3, hw3⟩ : ∃ w3, w3 = wr.alloc (.cells #[.int .u8 ((j : Int) + 1), .int .i64 0, .string ⟨#[]⟩] 43) := ⟨_, rfl⟩
        have HB3 : Aside0 (Below wr.heap.size wr w3) := ⟨by rw [hw3]; exact below_alloc (Below.refl _ _) _⟩
        have HX3 : Aside0 (RS w w3 wr.heap.size ⟨((j : Int) + 1), 0, ⟨#[]⟩⟩) := ⟨by rw [hw3]; exact RS.new HJ.out.1.bel HJ.out.1.res ⟨((j : Int) + 1), 0, ⟨#[]⟩⟩⟩
        have HR3 := Aside0.mk (HJ.out.1.below HB3.out)
        have HC3 := Aside0.mk (Kd.C_below HC1.out (HB.out.trans (HB3.out.mono HB.out.size)))
        have HB13 := Aside0.mk (HB.out.trans (HB3.out.mono HB.out.size))
        have HW3 := Aside0.mk hw3
        clear hw3
        go_upto_region 7 with fail
        rw [← HW3.out]
        have hcl := word_cell HC3.out j (by omega)
        generalize bsOf (kindL.getD j []) = kb at *
        have z0 : (9223372036854775807 < kb.size + 1) = False := eq_false (by omega)
        have hzz : (kb ++ (⟨#[32]⟩ : ByteArray)).size = kb.size + 1 := by rw [ByteArray.size_append]; rfl
        by_cases hln : s.size < kb.size + 1
        · have l1 : ((s.size : Int) < (kb.size : Int) + 1) = True := eq_true (by omega)
          have l2 : (s.size < kb.size + 1) = True := eq_true hln
          have l3 : decide ((s.size : Int) < (kb.size : Int) + 1) = true := decide_eq_true (by omega)
          clear hnm2 hln
          go_wp2
          go_roundw
          case rel => exact ⟨j + 1, by omega, by go_num, ⟨HR3.out, HB13.out, by omega⟩⟩
          case measure => simp [intOf]; omega
        · have l1 : ((s.size : Int) < (kb.size : Int) + 1) = False := eq_false (by omega)
          have l2 : (s.size < kb.size + 1) = False := eq_false hln
          have l3 : decide ((s.size : Int) < (kb.size : Int) + 1) = false := decide_eq_false (by omega)
          have n1 := hnm2 (by omega)
          have n2 : ((s.extract 0 (kb.size + 1)).toList == (kb ++ (⟨#[32]⟩ : ByteArray)).toList) = false := beq_eq_false_iff_ne.2 n1
          have n3 : ((s.extract 0 (kb.size + 1)).toList != (kb ++ (⟨#[32]⟩ : ByteArray)).toList) = true := bne_iff_ne.2 n1
          have b1 : kb.size + 1 ≤ s.size := by omega
          have b2 : (kb.size : Int) + 1 ≤ (s.size : Int) := by omega
          have b3 : 0 ≤ (kb.size : Int) + 1 := by omega
          have b4 : ((kb.size : Int) + 1).toNat = kb.size + 1 := by omega
          clear hnm2 hln
          go_wp2
          go_roundw
          case rel => exact ⟨j + 1, by omega, by go_num, ⟨HR3.out, HB13.out, by omega⟩⟩
          case measure => simp [intOf]; omega
    · obtain rfl : j = i := by omega
      have hjz : ((j : Int) == 0) = false := beq_eq_false_iff_ne.2 (by omega)
      have hwk : IntKind.u8.wrap ((j : Int) + 1) = (j : Int) + 1 := by rw [show IntKind.u8.wrap ((j : Int) + 1) = ((j : Int) + 1) % 256 by simp [IntKind.wrap, IntKind.bits, IntKind.signed]]; omega
      have hkw := kw_size j
      have hms := match_size HMT.out
      have hmh := match_head HMT.out
      have hmr := match_rest HMT.out
      obtain ⟨w3, hw3⟩ : ∃ w3, w3 = wr.alloc (.cells #[.int .u8 ((j : Int) + 1), .int .i64 0, .string ⟨#[]⟩] 43) := ⟨_, rfl⟩
      have HB3 : Aside0 (Below wr.heap.size wr w3) := ⟨by rw [hw3]; exact below_alloc (Below.refl _ _) _⟩
      have HX3 : Aside0 (RS w w3 wr.heap.size ⟨((j : Int) + 1), 0, ⟨#[]⟩⟩) := ⟨by rw [hw3]; exact RS.new HJ.out.1.bel HJ.out.1.res ⟨((j : Int) + 1), 0, ⟨#[]⟩⟩⟩
      have HR3 := Aside0.mk (HJ.out.1.below HB3.out)
      have HC3 := Aside0.mk (Kd.C_below HC1.out (HB.out.trans (HB3.out.mono HB.out.size)))
      have HB13 := Aside0.mk (HB.out.trans (HB3.out.mono HB.out.size))
      have HW3 := Aside0.mk hw3
      clear hw3
      go_upto_region 7 with fail
      rw [← HW3.out]
      have hcl := word_cell HC3.out j (by omega)
      obtain ⟨kb, hkb⟩ : ∃ kb, kb = bsOf (kindL.getD j []) := ⟨_, rfl⟩
      rw [← hkb] at hkw hms hmh hmr hcl
      have HKB := Aside0.mk hkb
      clear hkb
      obtain ⟨b, hbw⟩ : ∃ b, b = wr.heap.size := ⟨_, rfl⟩
      have HNE : Aside0 (w.heap.size + 1 ≠ b) := ⟨by rw [hbw]; exact Nat.ne_of_lt (blk_lt HJ.out.1.hap)⟩
      rw [← hbw] at HX3 ⊢
      clear hbw
      have z0 : (9223372036854775807 < kb.size + 1) = False := eq_false (by omega)
      have hzz : (kb ++ (⟨#[32]⟩ : ByteArray)).size = kb.size + 1 := by rw [ByteArray.size_append]; rfl
      have l1 : ((s.size : Int) < (kb.size : Int) + 1) = False := eq_false (by omega)
      have l2 : (s.size < kb.size + 1) = False := eq_false (by omega)
      have l3 : decide ((s.size : Int) < (kb.size : Int) + 1) = false := decide_eq_false (by omega)
      have n2 : ((s.extract 0 (kb.size + 1)).toList == (kb ++ (⟨#[32]⟩ : ByteArray)).toList) = true := beq_iff_eq.2 hmh
      have n3 : ((s.extract 0 (kb.size + 1)).toList != (kb ++ (⟨#[32]⟩ : ByteArray)).toList) = false := by rw [bne, n2]; rfl
      have b1 : kb.size + 1 ≤ s.size := by omega
      have b2 : (kb.size : Int) + 1 ≤ (s.size : Int) := by omega
      have b3 : 0 ≤ (kb.size : Int) + 1 := by omega
      have b4 : ((kb.size : Int) + 1).toNat = kb.size + 1 := by omega
      have HMS := Aside0.mk hms
      clear hms
      go_wp2_with fail
      with_reducible refine (HHD.out _).mono ?_
      rintro e w4 ⟨rfl, hb4⟩
      have HR4 := Aside0.mk (HR3.out.below hb4)
      have HX4 := Aside0.mk (HX3.out.below hb4)
      clear hb4 n2 n3 l1 l2 l3 hcl hjz hwk hmh hmr HR3 HX3 HC3 HB3
      have hrs := HREST.out
      rw [← HKB.out] at hrs
      have hdl := HDL.out
      have hrl := HRL.out
      have hms := HMS.out
      obtain ⟨d, hd⟩ : ∃ d, d = dl.length := ⟨_, rfl⟩
      rw [← hd] at hdl hrs ⊢
      have b5 : ((kb.size : Int) + 1 + (d : Int)).toNat = kb.size + 1 + d := by omega
      have b6 : (kb.size : Int) + 1 + (d : Int) ≤ (s.size : Int) := by omega
      have b7 : 0 ≤ (kb.size : Int) + 1 + (d : Int) := by omega
      have b8 : kb.size + 1 + d ≤ s.size := by omega
      clear hms hdl hrl hd
      obtain ⟨c0, c1', c2'⟩ := HX4.out.hap.cells
      obtain ⟨f0, f1, f2⟩ := HX4.out.hap.fro
      simp only at c0 c1' c2'
      go_upto_region 16 with fail
      obtain ⟨w5, hw5⟩ : ∃ w5, w5 = w4.setCell ⟨b, 1, none⟩ (.int .i64 N) := ⟨_, rfl⟩
      have HX5 : Aside0 (RS w w5 b ⟨(j : Int) + 1, N, ⟨#[]⟩⟩) := ⟨by rw [hw5]; exact HX4.out.one N⟩
      have HR5 : Aside0 (RS w w5 (w.heap.size + 1) Z0) := ⟨by rw [hw5]; exact HR4.out.far HNE.out HX4.out.lt _ _⟩
      rw [← hw5]
      clear hw5 HR4 HX4 c0 c1' c2' f0 f1 f2
      have i1 : ((j : Int) == 1) = false := beq_eq_false_iff_ne.2 (by omega)
      have i5 : ((j : Int) == 5) = false := beq_eq_false_iff_ne.2 (by omega)
      have hz : (bsOf rest).size < 2 := by rw [bs_size]; exact hbad
      generalize bsOf rest = rb at *
      have k1 : ((rb.size : Int) < 2) = True := eq_true (by omega)
      have k2 : (rb.size < 2) = True := eq_true hz
      have k3 : decide ((rb.size : Int) < 2) = true := decide_eq_true (by omega)
      clear hbad h15 hz
      have HD := Aside0.mk (HR5.out.done Z0)
      obtain ⟨⟨g0, g1, g2⟩, hbz⟩ := HD.out
      simp only at g0 g1 g2 hbz
      obtain ⟨⟨r0, r1, r2⟩, q0, q1, q2⟩ := HR5.out.resF
      obtain ⟨c0, c1', c2'⟩ := HR5.out.hap.cells
      simp only at c0 c1' c2'
      clear HD
      go_wp2
      exact bodyPost_ret (v := .tuple #[.agg #[.int .u8 (Z0).f0, .int .i64 (Z0).f1, .string (Z0).f2], .bool false]) (by simp [results, Tryz.results29, go_sem, g0, g1, g2]) rfl ⟨rfl, hbz⟩

end Go.Proofs.YtmcjfnebkpifnaaGreatDoor

/-
  The document's ReadLine: the happening of a line, way by way.
-/
namespace Go.Proofs.YtmcjfnebkpifnaaGreatDoor
open Go.RowKit Go.Proofs.YtmcjfnebkpifnaaGreatDoorW.PrintWords Go.Proofs.YtmcjfnebkpifnaaGreatDoorW.PrintLast Go.Proofs.YtmcjfnebkpifnaaGreatDoorW.PrintMore Go.Proofs.YtmcjfnebkpifnaaGreatDoor.PScriptReads
set_option linter.unusedVariables false
set_option linter.unusedSimpArgs false
set_option maxRecDepth 100000


set_option maxHeartbeats 8000000 in
theorem rlnM8_calls (w : World) (s : ByteArray) (hs : s.size ≤ 50000) (i : Nat) (hi0 : 1 ≤ i) (hi : i < 6) (r : List UInt8) (hm : s.data.toList = kindL.getD i [] ++ 32 :: r) (N : Int) (dl rest : List UInt8) (hr : r = dl ++ rest) (hrq : headR (bsOf r) = (N, (dl.length : Int), 0)) (h15 : ¬ (i = 1 ∨ i = 5)) (c : UInt8) (t : List UInt8) (hct : rest = c :: t) (hc : c ≠ 32) (hlen : ¬ rest.length < 2) :
    Calls Tryz.prog 29 #[.string s] w fun e w' => LineNo w e w' := by
  obtain ⟨W0, hW0⟩ : ∃ W0, W0 = (w.alloc (.cells #[.int .u8 0, .int .i64 0, .string ⟨#[]⟩] 43)).alloc (.cells #[.int .u8 0, .int .i64 0, .string ⟨#[]⟩] 43) := ⟨_, rfl⟩
  have HR0 : Aside0 (RS w W0 (w.heap.size + 1) Z0) := ⟨by rw [hW0]; exact RS.two_new w⟩
  have HW := Aside0.mk hW0
  have HMT := Aside0.mk hm
  have HA0 : Aside0 (¬ s.data.toList = kindL.getD 0 []) := ⟨no_attach hi hm⟩
  have HNM : Aside0 (∀ k, k < i → ¬ Match s.data.toList k) := ⟨fun k hk h => absurd (match_one (by omega) hi h ⟨r, hm⟩) (by omega)⟩
  have HRL : Aside0 (r.length ≤ 50000) := ⟨by have := match_size hm; omega⟩
  have HHD : Aside0 (∀ W : World, Calls Tryz.prog 53 #[.string (bsOf r)] W fun e w' => e = .returned (.tuple #[.int .i64 N, .int .i64 (dl.length : Int), .int .i64 0]) ∧ Below W.heap.size W w') := ⟨fun W => by
    have h := refHead_calls (bsOf r) (by rw [bs_size]; have := HRL.out; omega) W
    rw [hrq] at h
    exact h.mono fun e w' ⟨q1, q2⟩ => ⟨q1, q2.below⟩⟩
  clear hrq
  have HREST : Aside0 (s.extract ((bsOf (kindL.getD i [])).size + 1 + dl.length) s.size = bsOf rest) := ⟨match_rest2 hm hr⟩
  have HDL : Aside0 (dl.length + rest.length = r.length) := ⟨by rw [hr, List.length_append]⟩
  clear hr
  have HCT := Aside0.mk hct
  clear hct
  clear hm
  clear hW0
  go_enter Tryz.func29, Tryz.ntmps29
  go_upto_region 2 with fail
  rw [← HW.out]
  go_wp2_with fail
  with_reducible refine (rwords_calls W0).mono ?_
  rintro e w1 ⟨A, c1, rfl, hc1, hC, hb⟩
  have HR1 := Aside0.mk (HR0.out.below hb)
  have HC1 := Aside0.mk hC
  clear hC hb HR0 HW
  go_wp2
  go_loopw [21] (fun v wr => ∃ j : Nat, j ≤ 6 ∧ v = .int .i64 j ∧ Aside0 (RS w wr (w.heap.size + 1) Z0 ∧ Below w1.heap.size w1 wr ∧ j ≤ i)) (fun v _ => 6 - (intOf v).toNat)
  case atStart => exact ⟨0, by omega, rfl, ⟨HR1.out, Below.refl _ _, by omega⟩⟩
  case round =>
    obtain ⟨j, hj, rfl, HJ⟩ := hrel
    have HB := Aside0.mk HJ.out.2.1
    have hji := HJ.out.2.2
    by_cases hjlt : j < i
    · by_cases h0 : j = 0
      · subst h0
        obtain ⟨w3, hw3⟩ : ∃ w3, w3 = wr.alloc (.cells #[.int .u8 1, .int .i64 0, .string ⟨#[]⟩] 43) := ⟨_, rfl⟩
        have HB3 : Aside0 (Below wr.heap.size wr w3) := ⟨by rw [hw3]; exact below_alloc (Below.refl _ _) _⟩
        have HX3 : Aside0 (RS w w3 wr.heap.size ⟨1, 0, ⟨#[]⟩⟩) := ⟨by rw [hw3]; exact RS.new HJ.out.1.bel HJ.out.1.res ⟨1, 0, ⟨#[]⟩⟩⟩
        have HR3 := Aside0.mk (HJ.out.1.below HB3.out)
        have HC3 := Aside0.mk (Kd.C_below HC1.out (HB.out.trans (HB3.out.mono HB.out.size)))
        have HB13 := Aside0.mk (HB.out.trans (HB3.out.mono HB.out.size))
        have HW3 := Aside0.mk hw3
        clear hw3
        have hcl := word_cell HC3.out 0 (by omega)
        have hcl0 : w3.cell? A = some (.string (bsOf (kindL.getD 0 []))) := by rw [show A.add 0 = A by cases A; rfl] at hcl; exact hcl
        have a1 : ¬ s.toList = (bsOf (kindL.getD 0 [])).toList := by rw [ByteArray.toList_eq, ByteArray.toList_eq, bs_list]; exact HA0.out
        have a2 : (s.toList == (bsOf (kindL.getD 0 [])).toList) = false := beq_eq_false_iff_ne.2 a1
        go_upto_region 7 with fail
        rw [← HW3.out]
        generalize bsOf (kindL.getD 0 []) = kb at *
        go_wp2
        go_roundw
        case rel => exact ⟨1, by omega, by go_num, ⟨HR3.out, HB13.out, by omega⟩⟩
        case measure => simp [intOf]
      · have hnm := HNM.out j hjlt
        have hjz : ((j : Int) == 0) = false := beq_eq_false_iff_ne.2 (by omega)
        have hwk : IntKind.u8.wrap ((j : Int) + 1) = (j : Int) + 1 := by rw [show IntKind.u8.wrap ((j : Int) + 1) = ((j : Int) + 1) % 256 by simp [IntKind.wrap, IntKind.bits, IntKind.signed]]; omega
        have hkw := kw_size j
        have hnm2 : (bsOf (kindL.getD j [])).size + 1 ≤ s.size → _ := not_match hnm
        obtain ⟨w3, hw3⟩ : ∃ w3, w3 = wr.alloc (.cells #[.int .u8 ((j : Int) + 1), .int .i64 0, .string ⟨#[]⟩] 43) := ⟨_, rfl⟩
        have HB3 : Aside0 (Below wr.heap.size wr w3) := ⟨by rw [hw3]; exact below_alloc (Below.refl _ _) _⟩
        have HX3 : Aside0 (RS w w3 wr.heap.size ⟨((j : Int) + 1), 0, ⟨#[]⟩⟩) := ⟨by rw [hw3]; exact RS.new HJ.out.1.bel HJ.out.1.res ⟨((j : Int) + 1), 0, ⟨#[]⟩⟩⟩
        have HR3 := Aside0.mk (HJ.out.1.below HB3.out)
        have HC3 := Aside0.mk (Kd.C_below HC1.out (HB.out.trans (HB3.out.mono HB.out.size)))
        have HB13 := Aside0.mk (HB.out.trans (HB3.out.mono HB.out.size))
        have HW3 := Aside0.mk hw3
        clear hw3
        go_upto_region 7 with fail
        rw [← HW3.out]
        have hcl := word_cell HC3.out j (by omega)
        generalize bsOf (kindL.getD j []) = kb at *
        have z0 : (9223372036854775807 < kb.size + 1) = False := eq_false (by omega)
        have hzz : (kb ++ (⟨#[32]⟩ : ByteArray)).size = kb.size + 1 := by rw [ByteArray.size_append]; rfl
        by_cases hln : s.size < kb.size + 1
        · have l1 : ((s.size : Int) < (kb.size : Int) + 1) = True := eq_true (by omega)
          have l2 : (s.size < kb.size + 1) = True := eq_true hln
          have l3 : decide ((s.size : Int) < (kb.size : Int) + 1) = true := decide_eq_true (by omega)
          clear hnm2 hln
          go_wp2
          go_roundw
          case rel => exact ⟨j + 1, by omega, by go_num, ⟨HR3.out, HB13.out, by omega⟩⟩
          case measure => simp [intOf]; omega
        · have l1 : ((s.size : Int) < (kb.size : Int) + 1) = False := eq_false (by omega)
          have l2 : (s.size < kb.size + 1) = False := eq_false hln
          have l3 : decide ((s.size : Int) < (kb.size : Int) + 1) = false := decide_eq_false (by omega)
          have n1 := hnm2 (by omega)
          have n2 : ((s.extract 0 (kb.size + 1)).toList == (kb ++ (⟨#[32]⟩ : ByteArray)).toList) = false := beq_eq_false_iff_ne.2 n1
          have n3 : ((s.extract 0 (kb.size + 1)).toList != (kb ++ (⟨#[32]⟩ : ByteArray)).toList) = true := bne_iff_ne.2 n1
          have b1 : kb.size + 1 ≤ s.size := by omega
          have b2 : (kb.size : Int) + 1 ≤ (s.size : Int) := by omega
          have b3 : 0 ≤ (kb.size : Int) + 1 := by omega
          have b4 : ((kb.size : Int) + 1).toNat = kb.size + 1 := by omega
          clear hnm2 hln
          go_wp2
          go_roundw
          case rel => exact ⟨j + 1, by omega, by go_num, ⟨HR3.out, HB13.out, by omega⟩⟩
          case measure => simp [intOf]; omega
    · obtain rfl : j = i := by omega
      have hjz : ((j : Int) == 0) = false := beq_eq_false_iff_ne.2 (by omega)
      have hwk : IntKind.u8.wrap ((j : Int) + 1) = (j : Int) + 1 := by rw [show IntKind.u8.wrap ((j : Int) + 1) = ((j : Int) + 1) % 256 by simp [IntKind.wrap, IntKind.bits, IntKind.signed]]; omega
      have hkw := kw_size j
      have hms := match_size HMT.out
      have hmh := match_head HMT.out
      have hmr := match_rest HMT.out
      obtain ⟨w3, hw3⟩ : ∃ w3, w3 = wr.alloc (.cells #[.int .u8 ((j : Int) + 1), .int .i64 0, .string ⟨#[]⟩] 43) := ⟨_, rfl⟩
      have HB3 : Aside0 (Below wr.heap.size wr w3) := ⟨by rw [hw3]; exact below_alloc (Below.refl _ _) _⟩
      have HX3 : Aside0 (RS w w3 wr.heap.size ⟨((j : Int) + 1), 0, ⟨#[]⟩⟩) := ⟨by rw [hw3]; exact RS.new HJ.out.1.bel HJ.out.1.res ⟨((j : Int) + 1), 0, ⟨#[]⟩⟩⟩
      have HR3 := Aside0.mk (HJ.out.1.below HB3.out)
      have HC3 := Aside0.mk (Kd.C_below HC1.out (HB.out.trans (HB3.out.mono HB.out.size)))
      have HB13 := Aside0.mk (HB.out.trans (HB3.out.mono HB.out.size))
      have HW3 := Aside0.mk hw3
      clear hw3
      go_upto_region 7 with fail
      rw [← HW3.out]
      have hcl := word_cell HC3.out j (by omega)
      obtain ⟨kb, hkb⟩ : ∃ kb, kb = bsOf (kindL.getD j []) := ⟨_, rfl⟩
      rw [← hkb] at hkw hms hmh hmr hcl
      have HKB := Aside0.mk hkb
      clear hkb
      obtain ⟨b, hbw⟩ : ∃ b, b = wr.heap.size := ⟨_, rfl⟩
      have HNE : Aside0 (w.heap.size + 1 ≠ b) := ⟨by rw [hbw]; exact Nat.ne_of_lt (blk_lt HJ.out.1.hap)⟩
      rw [← hbw] at HX3 ⊢
      clear hbw
      have z0 : (9223372036854775807 < kb.size + 1) = False := eq_false (by omega)
      have hzz : (kb ++ (⟨#[32]⟩ : ByteArray)).size = kb.size + 1 := by rw [ByteArray.size_append]; rfl
      have l1 : ((s.size : Int) < (kb.size : Int) + 1) = False := eq_false (by omega)
      have l2 : (s.size < kb.size + 1) = False := eq_false (by omega)
      have l3 : decide ((s.size : Int) < (kb.size : Int) + 1) = false := decide_eq_false (by omega)
      have n2 : ((s.extract 0 (kb.size + 1)).toList == (kb ++ (⟨#[32]⟩ : ByteArray)).toList) = true := beq_iff_eq.2 hmh
      have n3 : ((s.extract 0 (kb.size + 1)).toList != (kb ++ (⟨#[32]⟩ : ByteArray)).toList) = false := by rw [bne, n2]; rfl
      have b1 : kb.size + 1 ≤ s.size := by omega
      have b2 : (kb.size : Int) + 1 ≤ (s.size : Int) := by omega
      have b3 : 0 ≤ (kb.size : Int) + 1 := by omega
      have b4 : ((kb.size : Int) + 1).toNat = kb.size + 1 := by omega
      have HMS := Aside0.mk hms
      clear hms
      go_wp2_with fail
      with_reducible refine (HHD.out _).mono ?_
      rintro e w4 ⟨rfl, hb4⟩
      have HR4 := Aside0.mk (HR3.out.below hb4)
      have HX4 := Aside0.mk (HX3.out.below hb4)
      clear hb4 n2 n3 l1 l2 l3 hcl hjz hwk hmh hmr HR3 HX3 HC3 HB3
      have hrs := HREST.out
      rw [← HKB.out] at hrs
      have hdl := HDL.out
      have hrl := HRL.out
      have hms := HMS.out
      obtain ⟨d, hd⟩ : ∃ d, d = dl.length := ⟨_, rfl⟩
      rw [← hd] at hdl hrs ⊢
      have b5 : ((kb.size : Int) + 1 + (d : Int)).toNat = kb.size + 1 + d := by omega
      have b6 : (kb.size : Int) + 1 + (d : Int) ≤ (s.size : Int) := by omega
      have b7 : 0 ≤ (kb.size : Int) + 1 + (d : Int) := by omega
      have b8 : kb.size + 1 + d ≤ s.size := by omega
      clear hms hdl hrl hd
      obtain ⟨c0, c1', c2'⟩ := HX4.out.hap.cells
      obtain ⟨f0, f1, f2⟩ := HX4.out.hap.fro
      simp only at c0 c1' c2'
      go_upto_region 16 with fail
      obtain ⟨w5, hw5⟩ : ∃ w5, w5 = w4.setCell ⟨b, 1, none⟩ (.int .i64 N) := ⟨_, rfl⟩
      have HX5 : Aside0 (RS w w5 b ⟨(j : Int) + 1, N, ⟨#[]⟩⟩) := ⟨by rw [hw5]; exact HX4.out.one N⟩
      have HR5 : Aside0 (RS w w5 (w.heap.size + 1) Z0) := ⟨by rw [hw5]; exact HR4.out.far HNE.out HX4.out.lt _ _⟩
      rw [← hw5]
      clear hw5 HR4 HX4 c0 c1' c2' f0 f1 f2
      have i1 : ((j : Int) == 1) = false := beq_eq_false_iff_ne.2 (by omega)
      have i5 : ((j : Int) == 5) = false := beq_eq_false_iff_ne.2 (by omega)
      have hz : ¬ (bsOf rest).size < 2 := by rw [bs_size]; exact hlen
      have hz0 : 0 < (bsOf rest).size := by omega
      have hb0 : ((bsOf rest)[0]'hz0) = c := by have h := HCT.out; subst h; rfl
      generalize bsOf rest = rb at *
      have k1 : ((rb.size : Int) < 2) = False := eq_false (by omega)
      have k2 : (rb.size < 2) = False := eq_false hz
      have k3 : decide ((rb.size : Int) < 2) = false := decide_eq_false (by omega)
      have hz1 : (0 : Int) < (rb.size : Int) := by omega
      have c1 : ¬ ((rb[0].toNat : Int) = 32) := by rw [hb0]; exact fun h => hc ((byte_is c 32 (by decide)).1 h)
      have c2 : ((rb[0].toNat : Int) == 32) = false := beq_eq_false_iff_ne.2 c1
      have c3 : ((rb[0].toNat : Int) != 32) = true := bne_iff_ne.2 c1
      clear h15 hlen hb0
      have HD := Aside0.mk (HR5.out.done Z0)
      obtain ⟨⟨g0, g1, g2⟩, hbz⟩ := HD.out
      simp only at g0 g1 g2 hbz
      obtain ⟨⟨r0, r1, r2⟩, q0, q1, q2⟩ := HR5.out.resF
      obtain ⟨c0, c1', c2'⟩ := HR5.out.hap.cells
      simp only at c0 c1' c2'
      clear HD
      go_wp2
      exact bodyPost_ret (v := .tuple #[.agg #[.int .u8 (Z0).f0, .int .i64 (Z0).f1, .string (Z0).f2], .bool false]) (by simp [results, Tryz.results29, go_sem, g0, g1, g2]) rfl ⟨rfl, hbz⟩

end Go.Proofs.YtmcjfnebkpifnaaGreatDoor

/-
  The document's ReadLine: the happening of a line, way by way.
-/
namespace Go.Proofs.YtmcjfnebkpifnaaGreatDoor
open Go.RowKit Go.Proofs.YtmcjfnebkpifnaaGreatDoorW.PrintWords Go.Proofs.YtmcjfnebkpifnaaGreatDoorW.PrintLast Go.Proofs.YtmcjfnebkpifnaaGreatDoorW.PrintMore Go.Proofs.YtmcjfnebkpifnaaGreatDoor.PScriptReads
set_option linter.unusedVariables false
set_option linter.unusedSimpArgs false
set_option maxRecDepth 100000


set_option maxHeartbeats 8000000 in
theorem rlnM3_calls (w : World) (s : ByteArray) (hs : s.size ≤ 50000) (i : Nat) (hi0 : 1 ≤ i) (hi : i < 6) (r : List UInt8) (hm : s.data.toList = kindL.getD i [] ++ 32 :: r) (N : Int) (dl rest : List UInt8) (hr : r = dl ++ rest) (hrq : headR (bsOf r) = (N, (dl.length : Int), 0)) (h15 : ¬ (i = 1 ∨ i = 5)) (t : List UInt8) (hct : rest = 32 :: t) (ht0 : t ≠ []) (h2 : i = 2) (htn : t = ([110, 111, 110, 101] : List UInt8)) :
    Calls Tryz.prog 29 #[.string s] w fun e w' => LineIs w ⟨(i : Int) + 1, N, ⟨#[]⟩⟩ true e w' := by
  obtain ⟨W0, hW0⟩ : ∃ W0, W0 = (w.alloc (.cells #[.int .u8 0, .int .i64 0, .string ⟨#[]⟩] 43)).alloc (.cells #[.int .u8 0, .int .i64 0, .string ⟨#[]⟩] 43) := ⟨_, rfl⟩
  have HR0 : Aside0 (RS w W0 (w.heap.size + 1) Z0) := ⟨by rw [hW0]; exact RS.two_new w⟩
  have HW := Aside0.mk hW0
  have HMT := Aside0.mk hm
  have HA0 : Aside0 (¬ s.data.toList = kindL.getD 0 []) := ⟨no_attach hi hm⟩
  have HNM : Aside0 (∀ k, k < i → ¬ Match s.data.toList k) := ⟨fun k hk h => absurd (match_one (by omega) hi h ⟨r, hm⟩) (by omega)⟩
  have HRL : Aside0 (r.length ≤ 50000) := ⟨by have := match_size hm; omega⟩
  have HHD : Aside0 (∀ W : World, Calls Tryz.prog 53 #[.string (bsOf r)] W fun e w' => e = .returned (.tuple #[.int .i64 N, .int .i64 (dl.length : Int), .int .i64 0]) ∧ Below W.heap.size W w') := ⟨fun W => by
    have h := refHead_calls (bsOf r) (by rw [bs_size]; have := HRL.out; omega) W
    rw [hrq] at h
    exact h.mono fun e w' ⟨q1, q2⟩ => ⟨q1, q2.below⟩⟩
  clear hrq
  have HREST : Aside0 (s.extract ((bsOf (kindL.getD i [])).size + 1 + dl.length) s.size = bsOf rest) := ⟨match_rest2 hm hr⟩
  have HDL : Aside0 (dl.length + rest.length = r.length) := ⟨by rw [hr, List.length_append]⟩
  clear hr
  have HCT := Aside0.mk hct
  clear hct
  have H2 := Aside0.mk h2
  clear h2
  have HTN := Aside0.mk htn
  clear htn
  clear hm
  clear hW0
  go_enter Tryz.func29, Tryz.ntmps29
  go_upto_region 2 with fail
  rw [← HW.out]
  go_wp2_with fail
  with_reducible refine (rwords_calls W0).mono ?_
  rintro e w1 ⟨A, c1, rfl, hc1, hC, hb⟩
  have HR1 := Aside0.mk (HR0.out.below hb)
  have HC1 := Aside0.mk hC
  clear hC hb HR0 HW
  go_wp2
  go_loopw [21] (fun v wr => ∃ j : Nat, j ≤ 6 ∧ v = .int .i64 j ∧ Aside0 (RS w wr (w.heap.size + 1) Z0 ∧ Below w1.heap.size w1 wr ∧ j ≤ i)) (fun v _ => 6 - (intOf v).toNat)
  case atStart => exact ⟨0, by omega, rfl, ⟨HR1.out, Below.refl _ _, by omega⟩⟩
  case round =>
    obtain ⟨j, hj, rfl, HJ⟩ := hrel
    have HB := Aside0.mk HJ.out.2.1
    have hji := HJ.out.2.2
    by_cases hjlt : j < i
    · by_cases h0 : j = 0
      · subst h0
        obtain ⟨w3, hw3⟩ : ∃ w3, w3 = wr.alloc (.cells #[.int .u8 1, .int .i64 0, .string ⟨#[]⟩] 43) := ⟨_, rfl⟩
        have HB3 : Aside0 (Below wr.heap.size wr w3) := ⟨by rw [hw3]; exact below_alloc (Below.refl _ _) _⟩
        have HX3 : Aside0 (RS w w3 wr.heap.size ⟨1, 0, ⟨#[]⟩⟩) := ⟨by rw [hw3]; exact RS.new HJ.out.1.bel HJ.out.1.res ⟨1, 0, ⟨#[]⟩⟩⟩
        have HR3 := Aside0.mk (HJ.out.1.below HB3.out)
        have HC3 := Aside0.mk (Kd.C_below HC1.out (HB.out.trans (HB3.out.mono HB.out.size)))
        have HB13 := Aside0.mk (HB.out.trans (HB3.out.mono HB.out.size))
        have HW3 := Aside0.mk hw3
        clear hw3
        have hcl := word_cell HC3.out 0 (by omega)
        have hcl0 : w3.cell? A = some (.string (bsOf (kindL.getD 0 []))) := by rw [show A.add 0 = A by cases A; rfl] at hcl; exact hcl
        have a1 : ¬ s.toList = (bsOf (kindL.getD 0 [])).toList := by rw [ByteArray.toList_eq, ByteArray.toList_eq, bs_list]; exact HA0.out
        have a2 : (s.toList == (bsOf (kindL.getD 0 [])).toList) = false := beq_eq_false_iff_ne.2 a1
        go_upto_region 7 with fail
        rw [← HW3.out]
        generalize bsOf (kindL.getD 0 []) = kb at *
        go_wp2
        go_roundw
        case rel => exact ⟨1, by omega, by go_num, ⟨HR3.out, HB13.out, by omega⟩⟩
        case measure => simp [intOf]
      · have hnm := HNM.out j hjlt
        have hjz : ((j : Int) == 0) = false := beq_eq_false_iff_ne.2 (by omega)
        have hwk : IntKind.u8.wrap ((j : Int) + 1) = (j : Int) + 1 := by rw [show IntKind.u8.wrap ((j : Int) + 1) = ((j : Int) + 1) % 256 by simp [IntKind.wrap, IntKind.bits, IntKind.signed]]; omega
        have hkw := kw_size j
        have hnm2 : (bsOf (kindL.getD j [])).size + 1 ≤ s.size → _ := not_match hnm
        obtain ⟨w3, hw3⟩ : ∃ w3, w3 = wr.alloc (.cells #[.int .u8 ((j : Int) + 1), .int .i64 0, .string ⟨#[]⟩] 43) := ⟨_, rfl⟩
        have HB3 : Aside0 (Below wr.heap.size wr w3) := ⟨by rw [hw3]; exact below_alloc (Below.refl _ _) _⟩
        have HX3 : Aside0 (RS w w3 wr.heap.size ⟨((j : Int) + 1), 0, ⟨#[]⟩⟩) := ⟨by rw [hw3]; exact RS.new HJ.out.1.bel HJ.out.1.res ⟨((j : Int) + 1), 0, ⟨#[]⟩⟩⟩
        have HR3 := Aside0.mk (HJ.out.1.below HB3.out)
        have HC3 := Aside0.mk (Kd.C_below HC1.out (HB.out.trans (HB3.out.mono HB.out.size)))
        have HB13 := Aside0.mk (HB.out.trans (HB3.out.mono HB.out.size))
        have HW3 := Aside0.mk hw3
        clear hw3
        go_upto_region 7 with fail
        rw [← HW3.out]
        have hcl := word_cell HC3.out j (by omega)
        generalize bsOf (kindL.getD j []) = kb at *
        have z0 : (9223372036854775807 < kb.size + 1) = False := eq_false (by omega)
        have hzz : (kb ++ (⟨#[32]⟩ : ByteArray)).size = kb.size + 1 := by rw [ByteArray.size_append]; rfl
        by_cases hln : s.size < kb.size + 1
        · have l1 : ((s.size : Int) < (kb.size : Int) + 1) = True := eq_true (by omega)
          have l2 : (s.size < kb.size + 1) = True := eq_true hln
          have l3 : decide ((s.size : Int) < (kb.size : Int) + 1) = true := decide_eq_true (by omega)
          clear hnm2 hln
          go_wp2
          go_roundw
          case rel => exact ⟨j + 1, by omega, by go_num, ⟨HR3.out, HB13.out, by omega⟩⟩
          case measure => simp [intOf]; omega
        · have l1 : ((s.size : Int) < (kb.size : Int) + 1) = False := eq_false (by omega)
          have l2 : (s.size < kb.size + 1) = False := eq_false hln
          have l3 : decide ((s.size : Int) < (kb.size : Int) + 1) = false := decide_eq_false (by omega)
          have n1 := hnm2 (by omega)
          have n2 : ((s.extract 0 (kb.size + 1)).toList == (kb ++ (⟨#[32]⟩ : ByteArray)).toList) = false := beq_eq_false_iff_ne.2 n1
          have n3 : ((s.extract 0 (kb.size + 1)).toList != (kb ++ (⟨#[32]⟩ : ByteArray)).toList) = true := bne_iff_ne.2 n1
          have b1 : kb.size + 1 ≤ s.size := by omega
          have b2 : (kb.size : Int) + 1 ≤ (s.size : Int) := by omega
          have b3 : 0 ≤ (kb.size : Int) + 1 := by omega
          have b4 : ((kb.size : Int) + 1).toNat = kb.size + 1 := by omega
          clear hnm2 hln
          go_wp2
          go_roundw
          case rel => exact ⟨j + 1, by omega, by go_num, ⟨HR3.out, HB13.out, by omega⟩⟩
          case measure => simp [intOf]; omega
    · obtain rfl : j = i := by omega
      have hjz : ((j : Int) == 0) = false := beq_eq_false_iff_ne.2 (by omega)
      have hwk : IntKind.u8.wrap ((j : Int) + 1) = (j : Int) + 1 := by rw [show IntKind.u8.wrap ((j : Int) + 1) = ((j : Int) + 1) % 256 by simp [IntKind.wrap, IntKind.bits, IntKind.signed]]; omega
      have hkw := kw_size j
      have hms := match_size HMT.out
      have hmh := match_head HMT.out
      have hmr := match_rest HMT.out
      obtain ⟨w3, hw3⟩ : ∃ w3, w3 = wr.alloc (.cells #[.int .u8 ((j : Int) + 1), .int .i64 0, .string ⟨#[]⟩] 43) := ⟨_, rfl⟩
      have HB3 : Aside0 (Below wr.heap.size wr w3) := ⟨by rw [hw3]; exact below_alloc (Below.refl _ _) _⟩
      have HX3 : Aside0 (RS w w3 wr.heap.size ⟨((j : Int) + 1), 0, ⟨#[]⟩⟩) := ⟨by rw [hw3]; exact RS.new HJ.out.1.bel HJ.out.1.res ⟨((j : Int) + 1), 0, ⟨#[]⟩⟩⟩
      have HR3 := Aside0.mk (HJ.out.1.below HB3.out)
      have HC3 := Aside0.mk (Kd.C_below HC1.out (HB.out.trans (HB3.out.mono HB.out.size)))
      have HB13 := Aside0.mk (HB.out.trans (HB3.out.mono HB.out.size))
      have HW3 := Aside0.mk hw3
      clear hw3
      go_upto_region 7 with fail
      rw [← HW3.out]
      have hcl := word_cell HC3.out j (by omega)
      obtain ⟨kb, hkb⟩ : ∃ kb, kb = bsOf (kindL.getD j []) := ⟨_, rfl⟩
      rw [← hkb] at hkw hms hmh hmr hcl
      have HKB := Aside0.mk hkb
      clear hkb
      obtain ⟨b, hbw⟩ : ∃ b, b = wr.heap.size := ⟨_, rfl⟩
      have HNE : Aside0 (w.heap.size + 1 ≠ b) := ⟨by rw [hbw]; exact Nat.ne_of_lt (blk_lt HJ.out.1.hap)⟩
      rw [← hbw] at HX3 ⊢
      clear hbw
      have z0 : (9223372036854775807 < kb.size + 1) = False := eq_false (by omega)
      have hzz : (kb ++ (⟨#[32]⟩ : ByteArray)).size = kb.size + 1 := by rw [ByteArray.size_append]; rfl
      have l1 : ((s.size : Int) < (kb.size : Int) + 1) = False := eq_false (by omega)
      have l2 : (s.size < kb.size + 1) = False := eq_false (by omega)
      have l3 : decide ((s.size : Int) < (kb.size : Int) + 1) = false := decide_eq_false (by omega)
      have n2 : ((s.extract 0 (kb.size + 1)).toList == (kb ++ (⟨#[32]⟩ : ByteArray)).toList) = true := beq_iff_eq.2 hmh
      have n3 : ((s.extract 0 (kb.size + 1)).toList != (kb ++ (⟨#[32]⟩ : ByteArray)).toList) = false := by rw [bne, n2]; rfl
      have b1 : kb.size + 1 ≤ s.size := by omega
      have b2 : (kb.size : Int) + 1 ≤ (s.size : Int) := by omega
      have b3 : 0 ≤ (kb.size : Int) + 1 := by omega
      have b4 : ((kb.size : Int) + 1).toNat = kb.size + 1 := by omega
      have HMS := Aside0.mk hms
      clear hms
      go_wp2_with fail
      with_reducible refine (HHD.out _).mono ?_
      rintro e w4 ⟨rfl, hb4⟩
      have HR4 := Aside0.mk (HR3.out.below hb4)
      have HX4 := Aside0.mk (HX3.out.below hb4)
      clear hb4 n2 n3 l1 l2 l3 hcl hjz hwk hmh hmr HR3 HX3 HC3 HB3
      have hrs := HREST.out
      rw [← HKB.out] at hrs
      have hdl := HDL.out
      have hrl := HRL.out
      have hms := HMS.out
      obtain ⟨d, hd⟩ : ∃ d, d = dl.length := ⟨_, rfl⟩
      rw [← hd] at hdl hrs ⊢
      have b5 : ((kb.size : Int) + 1 + (d : Int)).toNat = kb.size + 1 + d := by omega
      have b6 : (kb.size : Int) + 1 + (d : Int) ≤ (s.size : Int) := by omega
      have b7 : 0 ≤ (kb.size : Int) + 1 + (d : Int) := by omega
      have b8 : kb.size + 1 + d ≤ s.size := by omega
      clear hms hdl hrl hd
      obtain ⟨c0, c1', c2'⟩ := HX4.out.hap.cells
      obtain ⟨f0, f1, f2⟩ := HX4.out.hap.fro
      simp only at c0 c1' c2'
      go_upto_region 16 with fail
      obtain ⟨w5, hw5⟩ : ∃ w5, w5 = w4.setCell ⟨b, 1, none⟩ (.int .i64 N) := ⟨_, rfl⟩
      have HX5 : Aside0 (RS w w5 b ⟨(j : Int) + 1, N, ⟨#[]⟩⟩) := ⟨by rw [hw5]; exact HX4.out.one N⟩
      have HR5 : Aside0 (RS w w5 (w.heap.size + 1) Z0) := ⟨by rw [hw5]; exact HR4.out.far HNE.out HX4.out.lt _ _⟩
      rw [← hw5]
      clear hw5 HR4 HX4 c0 c1' c2' f0 f1 f2
      have i1 : ((j : Int) == 1) = false := beq_eq_false_iff_ne.2 (by omega)
      have i5 : ((j : Int) == 5) = false := beq_eq_false_iff_ne.2 (by omega)
      have hz : (bsOf rest).size = t.length + 1 := by rw [HCT.out, bs_size]; rfl
      have htp : 1 ≤ t.length := List.length_pos_iff.2 ht0
      have hz0 : 0 < (bsOf rest).size := by omega
      have hb0 : ((bsOf rest)[0]'hz0) = 32 := by have h := HCT.out; subst h; rfl
      have hrx : (bsOf rest).extract 1 (bsOf rest).size = bsOf t := by rw [ext_list, bs_list, bs_size, HCT.out]; simp
      have htl : t.length ≤ 50000 := by have h1 := HDL.out; have h2 := HRL.out; rw [HCT.out, List.length_cons] at h1; omega
      generalize bsOf rest = rb at *
      have k0 : ¬ rb.size < 2 := by omega
      have k1 : ((rb.size : Int) < 2) = False := eq_false (by omega)
      have k2 : (rb.size < 2) = False := eq_false k0
      have k3 : decide ((rb.size : Int) < 2) = false := decide_eq_false (by omega)
      have hz1 : (0 : Int) < (rb.size : Int) := by omega
      have hz2 : (1 : Int) ≤ (rb.size : Int) := by omega
      have hz3 : 1 ≤ rb.size := by omega
      have c1 : ((rb[0].toNat : Int) = 32) := by rw [hb0]; rfl
      have c2 : ((rb[0].toNat : Int) == 32) = true := beq_iff_eq.2 c1
      have c3 : ((rb[0].toNat : Int) != 32) = false := by rw [bne, c2]; rfl
      clear hb0 hz k0
      go_upto_region 22 with fail
      clear c1 c2 c3 k1 k2 k3 hz1 hz2 hz3 hrx i1 i5
      have h2 := H2.out
      have i2 : ((j : Int) == 2) = true := beq_iff_eq.2 (by omega)
      clear h2
      have e1 : (bsOf t).toList = ([110, 111, 110, 101] : List UInt8) := by rw [ByteArray.toList_eq, bs_list]; exact HTN.out
      have e2 : ((bsOf t).toList == ([110, 111, 110, 101] : List UInt8)) = true := beq_iff_eq.2 e1
      generalize bsOf t = tb at *
      clear h15
      have HD := Aside0.mk (HX5.out.done (⟨(j : Int) + 1, N, ⟨#[]⟩⟩ : SH))
      obtain ⟨⟨g0, g1, g2⟩, hbz⟩ := HD.out
      simp only at g0 g1 g2 hbz
      obtain ⟨⟨r0, r1, r2⟩, q0, q1, q2⟩ := HX5.out.resF
      obtain ⟨c0, c1', c2'⟩ := HX5.out.hap.cells
      simp only at c0 c1' c2'
      clear HD
      go_wp2
      exact bodyPost_ret (v := .tuple #[.agg #[.int .u8 ((⟨(j : Int) + 1, N, ⟨#[]⟩⟩ : SH)).f0, .int .i64 ((⟨(j : Int) + 1, N, ⟨#[]⟩⟩ : SH)).f1, .string ((⟨(j : Int) + 1, N, ⟨#[]⟩⟩ : SH)).f2], .bool true]) (by simp [results, Tryz.results29, go_sem, g0, g1, g2]) rfl ⟨rfl, hbz⟩

end Go.Proofs.YtmcjfnebkpifnaaGreatDoor

/-
  The document's ReadLine: the happening of a line, way by way.
-/
namespace Go.Proofs.YtmcjfnebkpifnaaGreatDoor
open Go.RowKit Go.Proofs.YtmcjfnebkpifnaaGreatDoorW.PrintWords Go.Proofs.YtmcjfnebkpifnaaGreatDoorW.PrintLast Go.Proofs.YtmcjfnebkpifnaaGreatDoorW.PrintMore Go.Proofs.YtmcjfnebkpifnaaGreatDoor.PScriptReads
set_option linter.unusedVariables false
set_option linter.unusedSimpArgs false
set_option maxRecDepth 100000


set_option maxHeartbeats 8000000 in
theorem rlnM4_calls (w : World) (s : ByteArray) (hs : s.size ≤ 50000) (i : Nat) (hi0 : 1 ≤ i) (hi : i < 6) (r : List UInt8) (hm : s.data.toList = kindL.getD i [] ++ 32 :: r) (N : Int) (dl rest : List UInt8) (hr : r = dl ++ rest) (hrq : headR (bsOf r) = (N, (dl.length : Int), 0)) (h15 : ¬ (i = 1 ∨ i = 5)) (t : List UInt8) (hct : rest = 32 :: t) (ht0 : t ≠ []) (h2 : i = 2) (htn : ¬ t = ([110, 111, 110, 101] : List UInt8)) (hodd : t.length % 2 = 1) :
    Calls Tryz.prog 29 #[.string s] w fun e w' => LineNo w e w' := by
  obtain ⟨W0, hW0⟩ : ∃ W0, W0 = (w.alloc (.cells #[.int .u8 0, .int .i64 0, .string ⟨#[]⟩] 43)).alloc (.cells #[.int .u8 0, .int .i64 0, .string ⟨#[]⟩] 43) := ⟨_, rfl⟩
  have HR0 : Aside0 (RS w W0 (w.heap.size + 1) Z0) := ⟨by rw [hW0]; exact RS.two_new w⟩
  have HW := Aside0.mk hW0
  have HMT := Aside0.mk hm
  have HA0 : Aside0 (¬ s.data.toList = kindL.getD 0 []) := ⟨no_attach hi hm⟩
  have HNM : Aside0 (∀ k, k < i → ¬ Match s.data.toList k) := ⟨fun k hk h => absurd (match_one (by omega) hi h ⟨r, hm⟩) (by omega)⟩
  have HRL : Aside0 (r.length ≤ 50000) := ⟨by have := match_size hm; omega⟩
  have HHD : Aside0 (∀ W : World, Calls Tryz.prog 53 #[.string (bsOf r)] W fun e w' => e = .returned (.tuple #[.int .i64 N, .int .i64 (dl.length : Int), .int .i64 0]) ∧ Below W.heap.size W w') := ⟨fun W => by
    have h := refHead_calls (bsOf r) (by rw [bs_size]; have := HRL.out; omega) W
    rw [hrq] at h
    exact h.mono fun e w' ⟨q1, q2⟩ => ⟨q1, q2.below⟩⟩
  clear hrq
  have HREST : Aside0 (s.extract ((bsOf (kindL.getD i [])).size + 1 + dl.length) s.size = bsOf rest) := ⟨match_rest2 hm hr⟩
  have HDL : Aside0 (dl.length + rest.length = r.length) := ⟨by rw [hr, List.length_append]⟩
  clear hr
  have HCT := Aside0.mk hct
  clear hct
  have H2 := Aside0.mk h2
  clear h2
  have HTN := Aside0.mk htn
  clear htn
  have HOD := Aside0.mk hodd
  clear hodd
  clear hm
  clear hW0
  go_enter Tryz.func29, Tryz.ntmps29
  go_upto_region 2 with fail
  rw [← HW.out]
  go_wp2_with fail
  with_reducible refine (rwords_calls W0).mono ?_
  rintro e w1 ⟨A, c1, rfl, hc1, hC, hb⟩
  have HR1 := Aside0.mk (HR0.out.below hb)
  have HC1 := Aside0.mk hC
  clear hC hb HR0 HW
  go_wp2
  go_loopw [21] (fun v wr => ∃ j : Nat, j ≤ 6 ∧ v = .int .i64 j ∧ Aside0 (RS w wr (w.heap.size + 1) Z0 ∧ Below w1.heap.size w1 wr ∧ j ≤ i)) (fun v _ => 6 - (intOf v).toNat)
  case atStart => exact ⟨0, by omega, rfl, ⟨HR1.out, Below.refl _ _, by omega⟩⟩
  case round =>
    obtain ⟨j, hj, rfl, HJ⟩ := hrel
    have HB := Aside0.mk HJ.out.2.1
    have hji := HJ.out.2.2
    by_cases hjlt : j < i
    · by_cases h0 : j = 0
      · subst h0
        obtain ⟨w3, hw3⟩ : ∃ w3, w3 = wr.alloc (.cells #[.int .u8 1, .int .i64 0, .string ⟨#[]⟩] 43) := ⟨_, rfl⟩
        have HB3 : Aside0 (Below wr.heap.size wr w3) := ⟨by rw [hw3]; exact below_alloc (Below.refl _ _) _⟩
        have HX3 : Aside0 (RS w w3 wr.heap.size ⟨1, 0, ⟨#[]⟩⟩) := ⟨by rw [hw3]; exact RS.new HJ.out.1.bel HJ.out.1.res ⟨1, 0, ⟨#[]⟩⟩⟩
        have HR3 := Aside0.mk (HJ.out.1.below HB3.out)
        have HC3 := Aside0.mk (Kd.C_below HC1.out (HB.out.trans (HB3.out.mono HB.out.size)))
        have HB13 := Aside0.mk (HB.out.trans (HB3.out.mono HB.out.size))
        have HW3 := Aside0.mk hw3
        clear hw3
        have hcl := word_cell HC3.out 0 (by omega)
        have hcl0 : w3.cell? A = some (.string (bsOf (kindL.getD 0 []))) := by rw [show A.add 0 = A by cases A; rfl] at hcl; exact hcl
        have a1 : ¬ s.toList = (bsOf (kindL.getD 0 [])).toList := by rw [ByteArray.toList_eq, ByteArray.toList_eq, bs_list]; exact HA0.out
        have a2 : (s.toList == (bsOf (kindL.getD 0 [])).toList) = false := beq_eq_false_iff_ne.2 a1
        go_upto_region 7 with fail
        rw [← HW3.out]
        generalize bsOf (kindL.getD 0 []) = kb at *
        go_wp2
        go_roundw
        case rel => exact ⟨1, by omega, by go_num, ⟨HR3.out, HB13.out, by omega⟩⟩
        case measure => simp [intOf]
      · have hnm := HNM.out j hjlt
        have hjz : ((j : Int) == 0) = false := beq_eq_false_iff_ne.2 (by omega)
        have hwk : IntKind.u8.wrap ((j : Int) + 1) = (j : Int) + 1 := by rw [show IntKind.u8.wrap ((j : Int) + 1) = ((j : Int) + 1) % 256 by simp [IntKind.wrap, IntKind.bits, IntKind.signed]]; omega
        have hkw := kw_size j
        have hnm2 : (bsOf (kindL.getD j [])).size + 1 ≤ s.size → _ := not_match hnm
        obtain ⟨w3, hw3⟩ : ∃ w3, w3 = wr.alloc (.cells #[.int .u8 ((j : Int) + 1), .int .i64 0, .string ⟨#[]⟩] 43) := ⟨_, rfl⟩
        have HB3 : Aside0 (Below wr.heap.size wr w3) := ⟨by rw [hw3]; exact below_alloc (Below.refl _ _) _⟩
        have HX3 : Aside0 (RS w w3 wr.heap.size ⟨((j : Int) + 1), 0, ⟨#[]⟩⟩) := ⟨by rw [hw3]; exact RS.new HJ.out.1.bel HJ.out.1.res ⟨((j : Int) + 1), 0, ⟨#[]⟩⟩⟩
        have HR3 := Aside0.mk (HJ.out.1.below HB3.out)
        have HC3 := Aside0.mk (Kd.C_below HC1.out (HB.out.trans (HB3.out.mono HB.out.size)))
        have HB13 := Aside0.mk (HB.out.trans (HB3.out.mono HB.out.size))
        have HW3 := Aside0.mk hw3
        clear hw3
        go_upto_region 7 with fail
        rw [← HW3.out]
        have hcl := word_cell HC3.out j (by omega)
        generalize bsOf (kindL.getD j []) = kb at *
        have z0 : (9223372036854775807 < kb.size + 1) = False := eq_false (by omega)
        have hzz : (kb ++ (⟨#[32]⟩ : ByteArray)).size = kb.size + 1 := by rw [ByteArray.size_append]; rfl
        by_cases hln : s.size < kb.size + 1
        · have l1 : ((s.size : Int) < (kb.size : Int) + 1) = True := eq_true (by omega)
          have l2 : (s.size < kb.size + 1) = True := eq_true hln
          have l3 : decide ((s.size : Int) < (kb.size : Int) + 1) = true := decide_eq_true (by omega)
          clear hnm2 hln
          go_wp2
          go_roundw
          case rel => exact ⟨j + 1, by omega, by go_num, ⟨HR3.out, HB13.out, by omega⟩⟩
          case measure => simp [intOf]; omega
        · have l1 : ((s.size : Int) < (kb.size : Int) + 1) = False := eq_false (by omega)
          have l2 : (s.size < kb.size + 1) = False := eq_false hln
          have l3 : decide ((s.size : Int) < (kb.size : Int) + 1) = false := decide_eq_false (by omega)
          have n1 := hnm2 (by omega)
          have n2 : ((s.extract 0 (kb.size + 1)).toList == (kb ++ (⟨#[32]⟩ : ByteArray)).toList) = false := beq_eq_false_iff_ne.2 n1
          have n3 : ((s.extract 0 (kb.size + 1)).toList != (kb ++ (⟨#[32]⟩ : ByteArray)).toList) = true := bne_iff_ne.2 n1
          have b1 : kb.size + 1 ≤ s.size := by omega
          have b2 : (kb.size : Int) + 1 ≤ (s.size : Int) := by omega
          have b3 : 0 ≤ (kb.size : Int) + 1 := by omega
          have b4 : ((kb.size : Int) + 1).toNat = kb.size + 1 := by omega
          clear hnm2 hln
          go_wp2
          go_roundw
          case rel => exact ⟨j + 1, by omega, by go_num, ⟨HR3.out, HB13.out, by omega⟩⟩
          case measure => simp [intOf]; omega
    · obtain rfl : j = i := by omega
      have hjz : ((j : Int) == 0) = false := beq_eq_false_iff_ne.2 (by omega)
      have hwk : IntKind.u8.wrap ((j : Int) + 1) = (j : Int) + 1 := by rw [show IntKind.u8.wrap ((j : Int) + 1) = ((j : Int) + 1) % 256 by simp [IntKind.wrap, IntKind.bits, IntKind.signed]]; omega
      have hkw := kw_size j
      have hms := match_size HMT.out
      have hmh := match_head HMT.out
      have hmr := match_rest HMT.out
      obtain ⟨w3, hw3⟩ : ∃ w3, w3 = wr.alloc (.cells #[.int .u8 ((j : Int) + 1), .int .i64 0, .string ⟨#[]⟩] 43) := ⟨_, rfl⟩
      have HB3 : Aside0 (Below wr.heap.size wr w3) := ⟨by rw [hw3]; exact below_alloc (Below.refl _ _) _⟩
      have HX3 : Aside0 (RS w w3 wr.heap.size ⟨((j : Int) + 1), 0, ⟨#[]⟩⟩) := ⟨by rw [hw3]; exact RS.new HJ.out.1.bel HJ.out.1.res ⟨((j : Int) + 1), 0, ⟨#[]⟩⟩⟩
      have HR3 := Aside0.mk (HJ.out.1.below HB3.out)
      have HC3 := Aside0.mk (Kd.C_below HC1.out (HB.out.trans (HB3.out.mono HB.out.size)))
      have HB13 := Aside0.mk (HB.out.trans (HB3.out.mono HB.out.size))
      have HW3 := Aside0.mk hw3
      clear hw3
      go_upto_region 7 with fail
      rw [← HW3.out]
      have hcl := word_cell HC3.out j (by omega)
      obtain ⟨kb, hkb⟩ : ∃ kb, kb = bsOf (kindL.getD j []) := ⟨_, rfl⟩
      rw [← hkb] at hkw hms hmh hmr hcl
      have HKB := Aside0.mk hkb
      clear hkb
      obtain ⟨b, hbw⟩ : ∃ b, b = wr.heap.size := ⟨_, rfl⟩
      have HNE : Aside0 (w.heap.size + 1 ≠ b) := ⟨by rw [hbw]; exact Nat.ne_of_lt (blk_lt HJ.out.1.hap)⟩
      rw [← hbw] at HX3 ⊢
      clear hbw
      have z0 : (9223372036854775807 < kb.size + 1) = False := eq_false (by omega)
      have hzz : (kb ++ (⟨#[32]⟩ : ByteArray)).size = kb.size + 1 := by rw [ByteArray.size_append]; rfl
      have l1 : ((s.size : Int) < (kb.size : Int) + 1) = False := eq_false (by omega)
      have l2 : (s.size < kb.size + 1) = False := eq_false (by omega)
      have l3 : decide ((s.size : Int) < (kb.size : Int) + 1) = false := decide_eq_false (by omega)
      have n2 : ((s.extract 0 (kb.size + 1)).toList == (kb ++ (⟨#[32]⟩ : ByteArray)).toList) = true := beq_iff_eq.2 hmh
      have n3 : ((s.extract 0 (kb.size + 1)).toList != (kb ++ (⟨#[32]⟩ : ByteArray)).toList) = false := by rw [bne, n2]; rfl
      have b1 : kb.size + 1 ≤ s.size := by omega
      have b2 : (kb.size : Int) + 1 ≤ (s.size : Int) := by omega
      have b3 : 0 ≤ (kb.size : Int) + 1 := by omega
      have b4 : ((kb.size : Int) + 1).toNat = kb.size + 1 := by omega
      have HMS := Aside0.mk hms
      clear hms
      go_wp2_with fail
      with_reducible refine (HHD.out _).mono ?_
      rintro e w4 ⟨rfl, hb4⟩
      have HR4 := Aside0.mk (HR3.out.below hb4)
      have HX4 := Aside0.mk (HX3.out.below hb4)
      clear hb4 n2 n3 l1 l2 l3 hcl hjz hwk hmh hmr HR3 HX3 HC3 HB3
      have hrs := HREST.out
      rw [← HKB.out] at hrs
      have hdl := HDL.out
      have hrl := HRL.out
      have hms := HMS.out
      obtain ⟨d, hd⟩ : ∃ d, d = dl.length := ⟨_, rfl⟩
      rw [← hd] at hdl hrs ⊢
      have b5 : ((kb.size : Int) + 1 + (d : Int)).toNat = kb.size + 1 + d := by omega
      have b6 : (kb.size : Int) + 1 + (d : Int) ≤ (s.size : Int) := by omega
      have b7 : 0 ≤ (kb.size : Int) + 1 + (d : Int) := by omega
      have b8 : kb.size + 1 + d ≤ s.size := by omega
      clear hms hdl hrl hd
      obtain ⟨c0, c1', c2'⟩ := HX4.out.hap.cells
      obtain ⟨f0, f1, f2⟩ := HX4.out.hap.fro
      simp only at c0 c1' c2'
      go_upto_region 16 with fail
      obtain ⟨w5, hw5⟩ : ∃ w5, w5 = w4.setCell ⟨b, 1, none⟩ (.int .i64 N) := ⟨_, rfl⟩
      have HX5 : Aside0 (RS w w5 b ⟨(j : Int) + 1, N, ⟨#[]⟩⟩) := ⟨by rw [hw5]; exact HX4.out.one N⟩
      have HR5 : Aside0 (RS w w5 (w.heap.size + 1) Z0) := ⟨by rw [hw5]; exact HR4.out.far HNE.out HX4.out.lt _ _⟩
      rw [← hw5]
      clear hw5 HR4 HX4 c0 c1' c2' f0 f1 f2
      have i1 : ((j : Int) == 1) = false := beq_eq_false_iff_ne.2 (by omega)
      have i5 : ((j : Int) == 5) = false := beq_eq_false_iff_ne.2 (by omega)
      have hz : (bsOf rest).size = t.length + 1 := by rw [HCT.out, bs_size]; rfl
      have htp : 1 ≤ t.length := List.length_pos_iff.2 ht0
      have hz0 : 0 < (bsOf rest).size := by omega
      have hb0 : ((bsOf rest)[0]'hz0) = 32 := by have h := HCT.out; subst h; rfl
      have hrx : (bsOf rest).extract 1 (bsOf rest).size = bsOf t := by rw [ext_list, bs_list, bs_size, HCT.out]; simp
      have htl : t.length ≤ 50000 := by have h1 := HDL.out; have h2 := HRL.out; rw [HCT.out, List.length_cons] at h1; omega
      generalize bsOf rest = rb at *
      have k0 : ¬ rb.size < 2 := by omega
      have k1 : ((rb.size : Int) < 2) = False := eq_false (by omega)
      have k2 : (rb.size < 2) = False := eq_false k0
      have k3 : decide ((rb.size : Int) < 2) = false := decide_eq_false (by omega)
      have hz1 : (0 : Int) < (rb.size : Int) := by omega
      have hz2 : (1 : Int) ≤ (rb.size : Int) := by omega
      have hz3 : 1 ≤ rb.size := by omega
      have c1 : ((rb[0].toNat : Int) = 32) := by rw [hb0]; rfl
      have c2 : ((rb[0].toNat : Int) == 32) = true := beq_iff_eq.2 c1
      have c3 : ((rb[0].toNat : Int) != 32) = false := by rw [bne, c2]; rfl
      clear hb0 hz k0
      go_upto_region 22 with fail
      clear c1 c2 c3 k1 k2 k3 hz1 hz2 hz3 hrx i1 i5
      have h2 := H2.out
      have i2 : ((j : Int) == 2) = true := beq_iff_eq.2 (by omega)
      clear h2
      have e1 : ¬ (bsOf t).toList = ([110, 111, 110, 101] : List UInt8) := by rw [ByteArray.toList_eq, bs_list]; exact HTN.out
      have e2 : ((bsOf t).toList == ([110, 111, 110, 101] : List UInt8)) = false := beq_eq_false_iff_ne.2 e1
      have hts : (bsOf t).size = t.length := bs_size t
      have o1 : Int.tmod ((bsOf t).size : Int) 2 = 1 := by rw [Int.tmod_eq_emod_of_nonneg (by omega), hts]; have := HOD.out; omega
      generalize bsOf t = tb at *
      clear h15 hts htl htp ht0
      have HD := Aside0.mk (HR5.out.done Z0)
      obtain ⟨⟨g0, g1, g2⟩, hbz⟩ := HD.out
      simp only at g0 g1 g2 hbz
      obtain ⟨⟨r0, r1, r2⟩, q0, q1, q2⟩ := HR5.out.resF
      obtain ⟨c0, c1', c2'⟩ := HR5.out.hap.cells
      simp only at c0 c1' c2'
      clear HD
      go_wp2
      exact bodyPost_ret (v := .tuple #[.agg #[.int .u8 (Z0).f0, .int .i64 (Z0).f1, .string (Z0).f2], .bool false]) (by simp [results, Tryz.results29, go_sem, g0, g1, g2]) rfl ⟨rfl, hbz⟩

end Go.Proofs.YtmcjfnebkpifnaaGreatDoor
