/-
  The document's ReadLine: the happening of a line, way by way.
-/
import Derived.Test.YtmcjfnebkpifnaaGreatDoorRlnMay
import Derived.Deep.RegionHeld3
namespace Go.Proofs.YtmcjfnebkpifnaaGreatDoor
open Go.RowKit Go.Proofs.YtmcjfnebkpifnaaGreatDoorW.PrintWords Go.Proofs.YtmcjfnebkpifnaaGreatDoorW.PrintLast Go.Proofs.YtmcjfnebkpifnaaGreatDoorW.PrintMore Go.Proofs.YtmcjfnebkpifnaaGreatDoor.PScriptReads
set_option linter.unusedVariables false
set_option linter.unusedSimpArgs false
set_option maxRecDepth 100000


set_option maxHeartbeats 8000000 in
theorem rlnM5_calls (w : World) (s : ByteArray) (hs : s.size ≤ 50000) (i : Nat) (hi0 : 1 ≤ i) (hi : i < 6) (r : List UInt8) (hm : s.data.toList = kindL.getD i [] ++ 32 :: r) (N : Int) (dl rest : List UInt8) (hr : r = dl ++ rest) (hrq : headR (bsOf r) = (N, (dl.length : Int), 0)) (h15 : ¬ (i = 1 ∨ i = 5)) (t : List UInt8) (hct : rest = 32 :: t) (ht0 : t ≠ []) (h2 : i = 2) (htn : ¬ t = ([110, 111, 110, 101] : List UInt8)) (hev : t.length % 2 = 0) (U : Option (List UInt8)) (hU : U = hexUl t) :
    Calls Tryz.prog 29 #[.string s] w fun e w' => LineOpt w ((i : Int) + 1) N U e w' := by
  obtain ⟨W0, hW0⟩ : ∃ W0, W0 = (w.alloc (.cells #[.int .u8 0, .int .i64 0, .string ⟨#[]⟩] 43)).alloc (.cells #[.int .u8 0, .int .i64 0, .string ⟨#[]⟩] 43) := ⟨_, rfl⟩
  have HR0 : Aside0 (RS w W0 (w.heap.size + 1) Z0) := ⟨by rw [hW0]; exact RS.two_new w⟩
  have HW := Aside0.mk hW0
  have HMT := Aside0.mk hm
  have HA0 : Aside0 (¬ s.data.toList = kindL.getD 0 []) := ⟨no_attach hi hm⟩
  have HNM : Aside0 (∀ k, k < i → ¬ Match s.data.toList k) := ⟨fun k hk h => absurd (match_one (by omega) hi h ⟨r, hm⟩) (by omega)⟩
  have HRL : Aside0 (r.length ≤ 50000) := ⟨by have := match_size hm; omega⟩
  have HHD : Aside0 (∀ W : World, Calls Tryz.prog 53 #[.string (bsOf r)] W fun e w' => e = .returned (.tuple #[.int .i64 N, .int .i64 (dl.length : Int), .int .i64 0]) ∧ Below W.heap.size W w') := ⟨fun W => by
    have h := refHead_calls (bsOf r) (by rw [bs_size]; have := HRL.out; omega) W
    rw [hrq] at h
    exact h.mono fun e w' ⟨q1, q2⟩ => ⟨q1, q2.below⟩⟩
  clear hrq
  have HREST : Aside0 (s.extract ((bsOf (kindL.getD i [])).size + 1 + dl.length) s.size = bsOf rest) := ⟨match_rest2 hm hr⟩
  have HDL : Aside0 (dl.length + rest.length = r.length) := ⟨by rw [hr, List.length_append]⟩
  clear hr
  have HCT := Aside0.mk hct
  clear hct
  have H2 := Aside0.mk h2
  clear h2
  have HTN := Aside0.mk htn
  clear htn
  have HOD := Aside0.mk hev
  have HUU := Aside0.mk hU
  clear hev hU
  clear hm
  clear hW0
  go_enter Tryz.func29, Tryz.ntmps29
  go_upto_region 2 with fail
  rw [← HW.out]
  go_wp2_with fail
  with_reducible refine (rwords_calls W0).mono ?_
  rintro e w1 ⟨A, c1, rfl, hc1, hC, hb⟩
  have HR1 := Aside0.mk (HR0.out.below hb)
  have HC1 := Aside0.mk hC
  clear hC hb HR0 HW
  go_wp2
  go_loopw [21] (fun v wr => ∃ j : Nat, j ≤ 6 ∧ v = .int .i64 j ∧ Aside0 (RS w wr (w.heap.size + 1) Z0 ∧ Below w1.heap.size w1 wr ∧ j ≤ i)) (fun v _ => 6 - (intOf v).toNat)
  case atStart => exact ⟨0, by omega, rfl, ⟨HR1.out, Below.refl _ _, by omega⟩⟩
  case round =>
    obtain ⟨j, hj, rfl, HJ⟩ := hrel
    have HB := Aside0.mk HJ.out.2.1
    have hji := HJ.out.2.2
    by_cases hjlt : j < i
    · by_cases h0 : j = 0
      · subst h0
        obtain ⟨w3, hw3⟩ : ∃ w3, w3 = wr.alloc (.cells #[.int .u8 1, .int .i64 0, .string ⟨#[]⟩] 43) := ⟨_, rfl⟩
        have HB3 : Aside0 (Below wr.heap.size wr w3) := ⟨by rw [hw3]; exact below_alloc (Below.refl _ _) _⟩
        have HX3 : Aside0 (RS w w3 wr.heap.size ⟨1, 0, ⟨#[]⟩⟩) := ⟨by rw [hw3]; exact RS.new HJ.out.1.bel HJ.out.1.res ⟨1, 0, ⟨#[]⟩⟩⟩
        have HR3 := Aside0.mk (HJ.out.1.below HB3.out)
        have HC3 := Aside0.mk (Kd.C_below HC1.out (HB.out.trans (HB3.out.mono HB.out.size)))
        have HB13 := Aside0.mk (HB.out.trans (HB3.out.mono HB.out.size))
        have HW3 := Aside0.mk hw3
        clear hw3
        have hcl := word_cell HC3.out 0 (by omega)
        have hcl0 : w3.cell? A = some (.string (bsOf (kindL.getD 0 []))) := by rw [show A.add 0 = A by cases A; rfl] at hcl; exact hcl
        have a1 : ¬ s.toList = (bsOf (kindL.getD 0 [])).toList := by rw [ByteArray.toList_eq, ByteArray.toList_eq, bs_list]; exact HA0.out
        have a2 : (s.toList == (bsOf (kindL.getD 0 [])).toList) = false := beq_eq_false_iff_ne.2 a1
        go_upto_region 7 with fail
        rw [← HW3.out]
        generalize bsOf (kindL.getD 0 []) = kb at *
        go_wp2
        go_roundw
        case rel => exact ⟨1, by omega, by go_num, ⟨HR3.out, HB13.out, by omega⟩⟩
        case measure => simp [intOf]
      · have hnm := HNM.out j hjlt
        have hjz : ((j : Int) == 0) = false := beq_eq_false_iff_ne.2 (by omega)
        have hwk : IntKind.u8.wrap ((j : Int) + 1) = (j : Int) + 1 := by rw [show IntKind.u8.wrap ((j : Int) + 1) = ((j : Int) + 1) % 256 by simp [IntKind.wrap, IntKind.bits, IntKind.signed]]; omega
        have hkw := kw_size j
        have hnm2 : (bsOf (kindL.getD j [])).size + 1 ≤ s.size → _ := not_match hnm
        obtain ⟨w3, hw3⟩ : ∃ w3, w3 = wr.alloc (.cells #[.int .u8 ((j : Int) + 1), .int .i64 0, .string ⟨#[]⟩] 43) := ⟨_, rfl⟩
        have HB3 : Aside0 (Below wr.heap.size wr w3) := ⟨by rw [hw3]; exact below_alloc (Below.refl _ _) _⟩
        have HX3 : Aside0 (RS w w3 wr.heap.size ⟨((j : Int) + 1), 0, ⟨#[]⟩⟩) := ⟨by rw [hw3]; exact RS.new HJ.out.1.bel HJ.out.1.res ⟨((j : Int) + 1), 0, ⟨#[]⟩⟩⟩
        have HR3 := Aside0.mk (HJ.out.1.below HB3.out)
        have HC3 := Aside0.mk (Kd.C_below HC1.out (HB.out.trans (HB3.out.mono HB.out.size)))
        have HB13 := Aside0.mk (HB.out.trans (HB3.out.mono HB.out.size))
        have HW3 := Aside0.mk hw3
        clear hw3
        go_upto_region 7 with fail
        rw [← HW3.out]
        have hcl := word_cell HC3.out j (by omega)
        generalize bsOf (kindL.getD j []) = kb at *
        have z0 : (9223372036854775807 < kb.size + 1) = False := eq_false (by omega)
        have hzz : (kb ++ (⟨#[32]⟩ : ByteArray)).size = kb.size + 1 := by rw [ByteArray.size_append]; rfl
        by_cases hln : s.size < kb.size + 1
        · have l1 : ((s.size : Int) < (kb.size : Int) + 1) = True := eq_true (by omega)
          have l2 : (s.size < kb.size + 1) = True := eq_true hln
          have l3 : decide ((s.size : Int) < (kb.size : Int) + 1) = true := decide_eq_true (by omega)
          clear hnm2 hln
          go_wp2
          go_roundw
          case rel => exact ⟨j + 1, by omega, by go_num, ⟨HR3.out, HB13.out, by omega⟩⟩
          case measure => simp [intOf]; omega
        · have l1 : ((s.size : Int) < (kb.size : Int) + 1) = False := eq_false (by omega)
          have l2 : (s.size < kb.size + 1) = False := eq_false hln
          have l3 : decide ((s.size : Int) < (kb.size : Int) + 1) = false := decide_eq_false (by omega)
          have n1 := hnm2 (by omega)
          have n2 : ((s.extract 0 (kb.size + 1)).toList == (kb ++ (⟨#[32]⟩ : ByteArray)).toList) = false := beq_eq_false_iff_ne.2 n1
          have n3 : ((s.extract 0 (kb.size + 1)).toList != (kb ++ (⟨#[32]⟩ : ByteArray)).toList) = true := bne_iff_ne.2 n1
          have b1 : kb.size + 1 ≤ s.size := by omega
          have b2 : (kb.size : Int) + 1 ≤ (s.size : Int) := by omega
          have b3 : 0 ≤ (kb.size : Int) + 1 := by omega
          have b4 : ((kb.size : Int) + 1).toNat = kb.size + 1 := by omega
          clear hnm2 hln
          go_wp2
          go_roundw
          case rel => exact ⟨j + 1, by omega, by go_num, ⟨HR3.out, HB13.out, by omega⟩⟩
          case measure => simp [intOf]; omega
    · obtain rfl : j = i := by omega
      have hjz : ((j : Int) == 0) = false := beq_eq_false_iff_ne.2 (by omega)
      have hwk : IntKind.u8.wrap ((j : Int) + 1) = (j : Int) + 1 := by rw [show IntKind.u8.wrap ((j : Int) + 1) = ((j : Int) + 1) % 256 by simp [IntKind.wrap, IntKind.bits, IntKind.signed]]; omega
      have hkw := kw_size j
      have hms := match_size HMT.out
      have hmh := match_head HMT.out
      have hmr := match_rest HMT.out
      obtain ⟨w3, hw3⟩ : ∃ w3, w3 = wr.alloc (.cells #[.int .u8 ((j : Int) + 1), .int .i64 0, .string ⟨#[]⟩] 43) := ⟨_, rfl⟩
      have HB3 : Aside0 (Below wr.heap.size wr w3) := ⟨by rw [hw3]; exact below_alloc (Below.refl _ _) _⟩
      have HX3 : Aside0 (RS w w3 wr.heap.size ⟨((j : Int) + 1), 0, ⟨#[]⟩⟩) := ⟨by rw [hw3]; exact RS.new HJ.out.1.bel HJ.out.1.res ⟨((j : Int) + 1), 0, ⟨#[]⟩⟩⟩
      have HR3 := Aside0.mk (HJ.out.1.below HB3.out)
      have HC3 := Aside0.mk (Kd.C_below HC1.out (HB.out.trans (HB3.out.mono HB.out.size)))
      have HB13 := Aside0.mk (HB.out.trans (HB3.out.mono HB.out.size))
      have HW3 := Aside0.mk hw3
      clear hw3
      go_upto_region 7 with fail
      rw [← HW3.out]
      have hcl := word_cell HC3.out j (by omega)
      obtain ⟨kb, hkb⟩ : ∃ kb, kb = bsOf (kindL.getD j []) := ⟨_, rfl⟩
      rw [← hkb] at hkw hms hmh hmr hcl
      have HKB := Aside0.mk hkb
      clear hkb
      obtain ⟨b, hbw⟩ : ∃ b, b = wr.heap.size := ⟨_, rfl⟩
      have HNE : Aside0 (w.heap.size + 1 ≠ b) := ⟨by rw [hbw]; exact Nat.ne_of_lt (blk_lt HJ.out.1.hap)⟩
      rw [← hbw] at HX3 ⊢
      clear hbw
      have z0 : (9223372036854775807 < kb.size + 1) = False := eq_false (by omega)
      have hzz : (kb ++ (⟨#[32]⟩ : ByteArray)).size = kb.size + 1 := by rw [ByteArray.size_append]; rfl
      have l1 : ((s.size : Int) < (kb.size : Int) + 1) = False := eq_false (by omega)
      have l2 : (s.size < kb.size + 1) = False := eq_false (by omega)
      have l3 : decide ((s.size : Int) < (kb.size : Int) + 1) = false := decide_eq_false (by omega)
      have n2 : ((s.extract 0 (kb.size + 1)).toList == (kb ++ (⟨#[32]⟩ : ByteArray)).toList) = true := beq_iff_eq.2 hmh
      have n3 : ((s.extract 0 (kb.size + 1)).toList != (kb ++ (⟨#[32]⟩ : ByteArray)).toList) = false := by rw [bne, n2]; rfl
      have b1 : kb.size + 1 ≤ s.size := by omega
      have b2 : (kb.size : Int) + 1 ≤ (s.size : Int) := by omega
      have b3 : 0 ≤ (kb.size : Int) + 1 := by omega
      have b4 : ((kb.size : Int) + 1).toNat = kb.size + 1 := by omega
      have HMS := Aside0.mk hms
      clear hms
      go_wp2_with fail
      with_reducible refine (HHD.out _).mono ?_
      rintro e w4 ⟨rfl, hb4⟩
      have HR4 := Aside0.mk (HR3.out.below hb4)
      have HX4 := Aside0.mk (HX3.out.below hb4)
      clear hb4 n2 n3 l1 l2 l3 hcl hjz hwk hmh hmr HR3 HX3 HC3 HB3
      have hrs := HREST.out
      rw [← HKB.out] at hrs
      have hdl := HDL.out
      have hrl := HRL.out
      have hms := HMS.out
      obtain ⟨d, hd⟩ : ∃ d, d = dl.length := ⟨_, rfl⟩
      rw [← hd] at hdl hrs ⊢
      have b5 : ((kb.size : Int) + 1 + (d : Int)).toNat = kb.size + 1 + d := by omega
      have b6 : (kb.size : Int) + 1 + (d : Int) ≤ (s.size : Int) := by omega
      have b7 : 0 ≤ (kb.size : Int) + 1 + (d : Int) := by omega
      have b8 : kb.size + 1 + d ≤ s.size := by omega
      clear hms hdl hrl hd
      obtain ⟨c0, c1', c2'⟩ := HX4.out.hap.cells
      obtain ⟨f0, f1, f2⟩ := HX4.out.hap.fro
      simp only at c0 c1' c2'
      go_upto_region 16 with fail
      obtain ⟨w5, hw5⟩ : ∃ w5, w5 = w4.setCell ⟨b, 1, none⟩ (.int .i64 N) := ⟨_, rfl⟩
      have HX5 : Aside0 (RS w w5 b ⟨(j : Int) + 1, N, ⟨#[]⟩⟩) := ⟨by rw [hw5]; exact HX4.out.one N⟩
      have HR5 : Aside0 (RS w w5 (w.heap.size + 1) Z0) := ⟨by rw [hw5]; exact HR4.out.far HNE.out HX4.out.lt _ _⟩
      rw [← hw5]
      clear hw5 HR4 HX4 c0 c1' c2' f0 f1 f2
      have i1 : ((j : Int) == 1) = false := beq_eq_false_iff_ne.2 (by omega)
      have i5 : ((j : Int) == 5) = false := beq_eq_false_iff_ne.2 (by omega)
      have hz : (bsOf rest).size = t.length + 1 := by rw [HCT.out, bs_size]; rfl
      have htp : 1 ≤ t.length := List.length_pos_iff.2 ht0
      have hz0 : 0 < (bsOf rest).size := by omega
      have hb0 : ((bsOf rest)[0]'hz0) = 32 := by have h := HCT.out; subst h; rfl
      have hrx : (bsOf rest).extract 1 (bsOf rest).size = bsOf t := by rw [ext_list, bs_list, bs_size, HCT.out]; simp
      have htl : t.length ≤ 50000 := by have h1 := HDL.out; have h2 := HRL.out; rw [HCT.out, List.length_cons] at h1; omega
      generalize bsOf rest = rb at *
      have k0 : ¬ rb.size < 2 := by omega
      have k1 : ((rb.size : Int) < 2) = False := eq_false (by omega)
      have k2 : (rb.size < 2) = False := eq_false k0
      have k3 : decide ((rb.size : Int) < 2) = false := decide_eq_false (by omega)
      have hz1 : (0 : Int) < (rb.size : Int) := by omega
      have hz2 : (1 : Int) ≤ (rb.size : Int) := by omega
      have hz3 : 1 ≤ rb.size := by omega
      have c1 : ((rb[0].toNat : Int) = 32) := by rw [hb0]; rfl
      have c2 : ((rb[0].toNat : Int) == 32) = true := beq_iff_eq.2 c1
      have c3 : ((rb[0].toNat : Int) != 32) = false := by rw [bne, c2]; rfl
      clear hb0 hz k0
      go_upto_region 22 with fail
      clear c1 c2 c3 k1 k2 k3 hz1 hz2 hz3 hrx i1 i5
      have h2 := H2.out
      have i2 : ((j : Int) == 2) = true := beq_iff_eq.2 (by omega)
      clear h2
      have e1 : ¬ (bsOf t).toList = ([110, 111, 110, 101] : List UInt8) := by rw [ByteArray.toList_eq, bs_list]; exact HTN.out
      have e2 : ((bsOf t).toList == ([110, 111, 110, 101] : List UInt8)) = false := beq_eq_false_iff_ne.2 e1
      have hts : (bsOf t).size = t.length := bs_size t
      have o1 : Int.tmod ((bsOf t).size : Int) 2 = 0 := by rw [Int.tmod_eq_emod_of_nonneg (by omega), hts]; have := HOD.out; omega
      have HX2 := Aside0.mk (hexUl_two t)
      have HEX : Aside0 (∀ k (h : k < t.length), (bsOf t).extract k (k + 1) = bsOf [t[k]]) := ⟨fun k h => by apply bs_ext; rw [bs_list, ext_list, bs_list, bs_list, Nat.add_sub_cancel_left, List.drop_eq_getElem_cons h]; rfl⟩
      have HU0 : Aside0 (U = (hexUl (t.drop 0)).map (fun q => [] ++ q)) := ⟨by rw [HUU.out, List.drop_zero]; cases hexUl t <;> rfl⟩
      have HTS := Aside0.mk hts
      have htz : (bsOf t).size ≤ 50000 := by omega
      generalize bsOf t = tb at *
      have htt : tb.size % 2 = 0 := by have := HOD.out; omega
      clear h15 hts htl htp ht0
      go_upto_region 28 with fail
      clear o1 e1 e2 i2
      go_loopw [13] (fun v wr => ∃ k : Nat, k ≤ tb.size ∧ v = .int .i64 k ∧ ∃ out : List UInt8, out.length ≤ k ∧ k % 2 = 0 ∧ Aside0 (RS w wr b ⟨(j : Int) + 1, N, bsOf out⟩ ∧ RS w wr (w.heap.size + 1) Z0 ∧ U = (hexUl (t.drop k)).map (fun q => out ++ q))) (fun v _ => tb.size - (intOf v).toNat)
      case atStart => exact ⟨0, by omega, rfl, [], by simp, by omega, ⟨HX5.out, HR5.out, HU0.out⟩⟩
      case round =>
        obtain ⟨k, hk, rfl, out, hol, hk2, HI⟩ := hrel
        by_cases hlt : k < tb.size
        · have hk1 : k + 1 < t.length := by have := HTS.out; omega
          have hx1 := HEX.out k (by omega)
          have hx2 := HEX.out (k + 1) hk1
          have hun := HX2.out k hk1
          have hI3 := HI.out.2.2
          rw [hun] at hI3
          generalize t[k] = ca at *
          generalize t[k + 1] = cb at *
          have HDA : Aside0 (∀ W : World, Below wr.heap.size wr W → Calls Tryz.prog 54 #[.string (tb.extract k (k + 1))] W fun e w' => e = .returned (.int .i64 (digI ca)) ∧ Below wr.heap.size wr w') := ⟨fun W hb => by
            rw [hx1]
            exact (digit_calls ca W).mono fun e w' ⟨q1, q2⟩ => ⟨q1, hb.trans (q2.mono hb.size)⟩⟩
          have HDB : Aside0 (∀ W : World, Below wr.heap.size wr W → Calls Tryz.prog 54 #[.string (tb.extract (k + 1) (k + 2))] W fun e w' => e = .returned (.int .i64 (digI cb)) ∧ Below wr.heap.size wr w') := ⟨fun W hb => by
            rw [hx2]
            exact (digit_calls cb W).mono fun e w' ⟨q1, q2⟩ => ⟨q1, hb.trans (q2.mono hb.size)⟩⟩
          have HPS := Aside0.mk (hexPl_some ca cb)
          have HPN := Aside0.mk (hexPl_none ca cb)
          have hra := digI_range ca
          have hrb := digI_range cb
          obtain ⟨p, hp⟩ : ∃ p, p = hexPl ca cb := ⟨_, rfl⟩
          rw [← hp] at hI3
          have HP := Aside0.mk hp
          have HI3 := Aside0.mk hI3
          have hbd : Below wr.heap.size wr wr.drew := below_drew (Below.refl _ _)
          obtain ⟨da, hda⟩ : ∃ d, d = digI ca := ⟨_, rfl⟩
          obtain ⟨db, hdb⟩ : ∃ d, d = digI cb := ⟨_, rfl⟩
          rw [← hda] at HDA HPS HPN hra
          rw [← hdb] at HDB HPS HPN hrb
          have g1 : IntKind.i64.wrap ((k : Int) + 1) = (k : Int) + 1 := by rw [i64_w]; unfold wrap64; omega
          have g2 : IntKind.i64.wrap ((k : Int) + 2) = (k : Int) + 2 := by rw [i64_w]; unfold wrap64; omega
          have g3 : ((k : Int) + 1).toNat = k + 1 := by omega
          have g4 : ((k : Int) + 2).toNat = k + 2 := by omega
          have g5 : 0 ≤ (k : Int) + 1 := by omega
          have g6 : (k : Int) + 1 ≤ (tb.size : Int) := by omega
          have g7 : (k : Int) + 2 ≤ (tb.size : Int) := by omega
          have g8 : (0 : Int) ≤ (k : Int) := by omega
          have g9 : (k : Int) ≤ (k : Int) + 1 := by omega
          have g10 : (k : Int) + 1 ≤ (k : Int) + 2 := by omega
          have g11 : k + 1 ≤ tb.size := by omega
          have g12 : k + 2 ≤ tb.size := by omega
          clear hx1 hx2 hun hI3 hp hk1 hda hdb
          go_upto_region 30 with fail
          go_region_held3 (fun _ => True) (first | trivial)
            (first
              | (go_at_call 54; with_reducible refine (HDA.out _ (by assumption)).mono ?_; rintro ev wa ⟨rfl, hba⟩)
              | (go_at_call 54; with_reducible refine (HDB.out _ (by assumption)).mono ?_; rintro ev wb ⟨rfl, hbb⟩))
          clear g1 g2 g3 g4 g5 g6 g7 g8 g9 g10 g11 g12
          have HXb := Aside0.mk (HI.out.1.below hbb)
          have HRb := Aside0.mk (HI.out.2.1.below hbb)
          clear hba hbb hbd
          cases p with
          | none =>
            have hU : U = none := HI3.out
            have HUN := Aside0.mk hU
            have hn := HPN.out HP.out.symm
            have n1 : (decide (da < 0) || decide (db < 0)) = true := by rcases hn with h | h <;> simp [h]
            by_cases hna : da < 0
            · have n2 : decide (da < 0) = true := decide_eq_true hna
              clear hU hn
              have HD := Aside0.mk (HRb.out.done Z0)
              obtain ⟨⟨g0, g1, g2⟩, hbz⟩ := HD.out
              simp only at g0 g1 g2 hbz
              obtain ⟨⟨r0, r1, r2⟩, q0, q1, q2⟩ := HRb.out.resF
              obtain ⟨c0, c1', c2'⟩ := HRb.out.hap.cells
              simp only at c0 c1' c2'
              clear HD
              go_wp2
              exact bodyPost_ret (v := .tuple #[.agg #[.int .u8 (Z0).f0, .int .i64 (Z0).f1, .string (Z0).f2], .bool false]) (by simp [results, Tryz.results29, go_sem, g0, g1, g2]) rfl (by rw [HUN.out]; exact ⟨rfl, hbz⟩)
            · have n2 : decide (da < 0) = false := decide_eq_false hna
              have n3 : db < 0 := by omega
              have n4 : decide (db < 0) = true := decide_eq_true n3
              clear hU hn n1
              have HD := Aside0.mk (HRb.out.done Z0)
              obtain ⟨⟨g0, g1, g2⟩, hbz⟩ := HD.out
              simp only at g0 g1 g2 hbz
              obtain ⟨⟨r0, r1, r2⟩, q0, q1, q2⟩ := HRb.out.resF
              obtain ⟨c0, c1', c2'⟩ := HRb.out.hap.cells
              simp only at c0 c1' c2'
              clear HD
              go_wp2
              exact bodyPost_ret (v := .tuple #[.agg #[.int .u8 (Z0).f0, .int .i64 (Z0).f1, .string (Z0).f2], .bool false]) (by simp [results, Tryz.results29, go_sem, g0, g1, g2]) rfl (by rw [HUN.out]; exact ⟨rfl, hbz⟩)
          | some x =>
            obtain ⟨p1, p2, p3⟩ := HPS.out x HP.out.symm
            have n1 : decide (da < 0) = false := decide_eq_false (by omega)
            have n2 : decide (db < 0) = false := decide_eq_false (by omega)
            have n3 : ¬ da < 0 := by omega
            have n4 : ¬ db < 0 := by omega
            have hx256 := UInt8.toNat_lt x
            have m1 : IntKind.i64.wrap (16 * da) = 16 * da := by rw [i64_w]; unfold wrap64; omega
            have m2 : IntKind.i64.wrap (16 * da + db) = (x.toNat : Int) := by rw [i64_w, p3]; unfold wrap64; omega
            have m3 : IntKind.u8.wrap (16 * da + db) = (x.toNat : Int) := by rw [p3]; exact wrap_u8 x
            have HIN : Aside0 (U = (hexUl (t.drop (k + 2))).map (fun q => (out ++ [x]) ++ q)) := ⟨by
              rw [HI3.out, Option.map_map]
              congr 1
              funext q
              simp⟩
            have hcv : (convert 47 9 (.slice (some ⟨wb.heap.size, 0, none⟩) 1 1)).run Tryz.prog (wb.alloc (.cells #[.int .u8 (x.toNat : Int)] 5)) = .ok (.string (bsOf [x])) (wb.alloc (.cells #[.int .u8 (x.toNat : Int)] 5)) := by
              have h : (convert 47 9 (.slice (some ⟨wb.heap.size, 0, none⟩) 1 1)).run Tryz.prog (wb.alloc (.cells #[.int .u8 (x.toNat : Int)] 5)) = .ok (.string (strOfNums [(x.toNat : Int)])) (wb.alloc (.cells #[.int .u8 (x.toNat : Int)] 5)) := own_string Tryz.underlying47 Tryz.underlying5 Tryz.underlying9 (own_lit_of (enc := Value.int .u8) wb wb.heap.size 5 [(x.toNat : Int)] (Nat.le_refl _) (by simp))
              rw [h, show strOfNums [(x.toNat : Int)] = bsOf [x] from nums_of [x]]
            have hbo : (bsOf out).size = out.length := bs_size out
            have hbx : (bsOf [x]).size = 1 := rfl
            have hcat : bsOf out ++ bsOf [x] = bsOf (out ++ [x]) := bs_app _ _
            obtain ⟨ob, hob⟩ : ∃ ob, ob = bsOf out := ⟨_, rfl⟩
            obtain ⟨xb, hxb⟩ : ∃ xb, xb = bsOf [x] := ⟨_, rfl⟩
            rw [← hob, ← hxb] at hcat
            rw [← hob] at hbo HXb
            rw [← hxb] at hbx hcv
            have z1 : (9223372036854775807 < ob.size + xb.size) = False := eq_false (by omega)
            have z2 : (9223372036854775807 < ob.size + 1) = False := eq_false (by omega)
            have HCA := Aside0.mk hcat
            clear hbo hob hxb hcat
            have HBA : Aside0 (Below wb.heap.size wb (wb.alloc (.cells #[.int .u8 (x.toNat : Int)] 5))) := ⟨below_alloc (Below.refl _ _) _⟩
            have HXc := Aside0.mk (HXb.out.below HBA.out)
            have HRc := Aside0.mk (HRb.out.below HBA.out)
            obtain ⟨c0, c1', c2'⟩ := HXb.out.hap.cells
            obtain ⟨d0, d1', d2'⟩ := HXc.out.hap.cells
            obtain ⟨f0, f1, f2⟩ := HXc.out.hap.fro
            simp only at c0 c1' c2' d0 d1' d2'
            go_upto_region 29 with fail
            obtain ⟨wd, hwd⟩ : ∃ wd, wd = (wb.alloc (.cells #[.int .u8 (x.toNat : Int)] 5)).setCell ⟨b, 2, none⟩ (.string (ob ++ xb)) := ⟨_, rfl⟩
            have HXd : Aside0 (RS w wd b ⟨(j : Int) + 1, N, bsOf (out ++ [x])⟩) := ⟨by rw [hwd, HCA.out]; exact HXc.out.two _⟩
            have HRd : Aside0 (RS w wd (w.heap.size + 1) Z0) := ⟨by rw [hwd]; exact HRc.out.far HNE.out HXc.out.lt _ _⟩
            rw [← hwd]
            clear hwd c0 c1' c2' d0 d1' d2' f0 f1 f2 hcv m1 m2 m3 p3
            go_wp2
            go_roundw
            case rel => exact ⟨k + 2, by omega, by go_num, out ++ [x], by rw [List.length_append, List.length_singleton]; omega, by omega, ⟨HXd.out, HRd.out, HIN.out⟩⟩
            case measure => simp [intOf]; omega
        · have hI3 := HI.out.2.2
          rw [List.drop_eq_nil_of_le (by have := HTS.out; omega)] at hI3
          have hU : U = some (out ++ []) := hI3
          rw [List.append_nil] at hU
          have HXe := Aside0.mk HI.out.1
          have HUS := Aside0.mk hU
          clear hI3 hU
          have HD := Aside0.mk (HXe.out.done (⟨(j : Int) + 1, N, bsOf out⟩ : SH))
          obtain ⟨⟨g0, g1, g2⟩, hbz⟩ := HD.out
          simp only at g0 g1 g2 hbz
          obtain ⟨⟨r0, r1, r2⟩, q0, q1, q2⟩ := HXe.out.resF
          obtain ⟨c0, c1', c2'⟩ := HXe.out.hap.cells
          simp only at c0 c1' c2'
          clear HD
          go_wp2
          exact bodyPost_ret (v := .tuple #[.agg #[.int .u8 ((⟨(j : Int) + 1, N, bsOf out⟩ : SH)).f0, .int .i64 ((⟨(j : Int) + 1, N, bsOf out⟩ : SH)).f1, .string ((⟨(j : Int) + 1, N, bsOf out⟩ : SH)).f2], .bool true]) (by simp [results, Tryz.results29, go_sem, g0, g1, g2]) rfl (by rw [HUS.out]; exact ⟨rfl, hbz⟩)

end Go.Proofs.YtmcjfnebkpifnaaGreatDoor
