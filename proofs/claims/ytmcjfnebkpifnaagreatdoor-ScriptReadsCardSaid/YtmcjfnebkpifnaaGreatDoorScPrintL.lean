/-
  script.Print: what it returns (of a text of 60000 bytes at most).
-/
import Derived.Test.YtmcjfnebkpifnaaGreatDoorScTop
namespace Go.Proofs.YtmcjfnebkpifnaaGreatDoor
open Go.RowKit Go.Proofs.YtmcjfnebkpifnaaGreatDoorW.PrintWords Go.Proofs.YtmcjfnebkpifnaaGreatDoorW.PrintLast Go.Proofs.YtmcjfnebkpifnaaGreatDoorW.PrintMore Go.Proofs.YtmcjfnebkpifnaaGreatDoor.PScriptReads
set_option linter.unusedVariables false
set_option linter.unusedSimpArgs false
set_option maxRecDepth 100000

set_option maxHeartbeats 2000000 in
theorem bstr_none (B b : Nat) (w : World) (c1' : w.cell? ⟨b, 1, none⟩ = some (.slice none 0 0)) :
    Calls Tryz.prog 20 #[.pointer (some ⟨b, 0, none⟩)] w fun e w' => e = .returned (.string (bsOf [])) ∧ Below B w w' := by
  have c1 : w.drew.cell? ⟨b, 1, none⟩ = some (.slice none 0 0) := c1'
  have hSD : (Builtin.unsafeSliceData_ #[47] 75 #[.slice none 0 0]).run Tryz.prog w.drew = .ok (.pointer none) w.drew := by
    rfl
  have hUS : (Builtin.unsafeString_ #[75, 3] 9 #[.pointer none, .int .i64 0]).run Tryz.prog w.drew = .ok (.string (bsOf [])) w.drew := by
    rfl
  have HB : Aside0 (Below B w w.drew) := ⟨Below.drew (Below.refl B w)⟩
  have mixed : Tryz.prog.follows Departure.mixedOrders = true := by kernel_rfl
  go_enter Tryz.func20, Tryz.ntmps20
  go_wp2
  go_region_o
  all_goals (go_wp2; go_ret; exact ⟨rfl, HB.out⟩)

set_option maxHeartbeats 8000000 in
theorem print_calls (A : Option Addr) (c : Nat) (l : List SH) (w : World) (hr : Kd.C k43 w A l.length l) (hl : l.length ≤ 2000) (hs : ∀ x ∈ l, x.f2.size ≤ 50000) (htl : (textL l).length ≤ 60000) (hT : NumT w) :
    Calls Tryz.prog 8 #[.slice A l.length c] w fun e w' => e = .returned (.tuple #[.string (bsOf (if l.all mayB then textL l else [])), .int .i64 (if l.all mayB then 0 else 1)]) ∧ Below w.heap.size w w' := by
  have HM := Aside0.mk (mayp_calls A c l w (by omega) hr)
  have HT := Aside0.mk hT
  have HR := Aside0.mk hr
  have HTL := Aside0.mk htl
  have HS := Aside0.mk hs
  have HALL : Aside0 (∀ b, l.all mayB = b → b = true → ∀ x ∈ l, mayB x = true) := ⟨fun b hb ht => by rw [ht] at hb; exact List.all_eq_true.1 hb⟩
  obtain ⟨n, hN⟩ : ∃ n, n = l.length := ⟨_, rfl⟩
  rw [← hN] at hl HM HR ⊢
  have HN := Aside0.mk hN
  clear hr hT hs hN htl
  cases hm : l.all mayB with
  | false =>
    rw [hm] at HM
    clear hm HALL
    go_enter Tryz.func8, Tryz.ntmps8
    go_wp2_with fail
    with_reducible refine HM.out.mono ?_
    rintro e w1 ⟨rfl, hb⟩
    have HB := Aside0.mk hb
    clear hb
    go_wp2
    go_ret2
    exact ⟨rfl, HB.out⟩
  | true =>
    rw [hm] at HM
    have HAM := Aside0.mk (HALL.out true hm rfl)
    clear hm HALL
    go_enter Tryz.func8, Tryz.ntmps8
    go_wp2_with fail
    with_reducible refine HM.out.mono ?_
    rintro e w1 ⟨rfl, hb⟩
    have HB := Aside0.mk hb
    have HTX := Aside0.mk (TextIs.new w1)
    have HCE : Aside0 ((w1.alloc (.cells #[.pointer none, .slice none 0 0] 49)).cell? ⟨w1.heap.size, 1, none⟩ = some (.slice none 0 0)) := ⟨by rw [Lib.cell_of_heap (heap_alloc_new w1 _)]; rfl⟩
    have HW0 : Aside0 (Below w1.heap.size w1 (w1.alloc (.cells #[.pointer none, .slice none 0 0] 49))) := ⟨below_alloc (Below.refl _ _) _⟩
    clear hb HM
    go_wp2
    go_loopw [12] (fun i wr => ∃ j : Nat, j ≤ n ∧ i = .int .i64 j ∧ Aside0 (TextIs w1.heap.size w1.heap.size (textL (l.take j)) wr ∧ Below w1.heap.size w1 wr ∧ (j = 0 → wr.cell? ⟨w1.heap.size, 1, none⟩ = some (.slice none 0 0)))) (fun i _ => n - (intOf i).toNat)
    case atStart => exact ⟨0, by omega, rfl, ⟨HTX.out, HW0.out, fun _ => HCE.out⟩⟩
    case round =>
      obtain ⟨j, hj, rfl, HJ⟩ := hrel
      have hsr := HJ.out.2.1.size
      by_cases hlt : j < n
      · have hjl : j < l.length := by have := HN.out; omega
        have hbw : Below w.heap.size w wr := HB.out.trans (HJ.out.2.1.mono HB.out.size)
        obtain ⟨ad, rfl, g0, g1, g2⟩ := at_T43 (Kd.C_below HR.out hbw) (j : Int) (by omega) (by omega)
        have HTK := Aside0.mk (textL_take l j hjl)
        have hjj : ((j : Int)).toNat = j := by omega
        have hx : rd_T43 l (j : Int) = l.getD j z43 := by unfold rd_T43; rw [hjj]
        rw [hx, hjj] at g0 g1 g2
        have hmem : l.getD j z43 ∈ l := by
          rw [List.getD_eq_getElem?_getD, List.getElem?_eq_getElem hjl]
          exact List.getElem_mem _
        have HSX := Aside0.mk (HS.out _ hmem)
        have HL := Aside0.mk (fun (W : World) (k : NumT W) => line_calls W (l.getD j z43) (HAM.out _ hmem) (HS.out _ hmem) k)
        have HLL := Aside0.mk (lineB_len (l.getD j z43))
        have HTJ : Aside0 ((textL (l.take j)).length ≤ 60000) := ⟨by
          have e := congrArg List.length (textL_app (l.take j) (l.drop j))
          rw [List.take_append_drop, List.length_append] at e
          have := HTL.out
          omega⟩
        have HBW := Aside0.mk hbw
        generalize l.getD j z43 = x at *
        have z0 : (9223372036854775807 < (bsOf (lineB x)).size + 1) = False := eq_false (by rw [bs_size]; have := HLL.out; have := HSX.out; omega)
        have hxb : Aside0 (Below wr.heap.size wr (wr.alloc (.cells #[.int .u8 x.f0, .int .i64 x.f1, .string x.f2] 43))) := ⟨below_alloc (Below.refl _ _) _⟩
        clear hmem hx hbw hjj
        go_wp2_with fail
        with_reducible refine (HL.out _ (HT.out.below (HBW.out.trans (hxb.out.mono (Nat.le_trans (by have := HB.out.size; omega) hsr))))).mono ?_
        rintro e w2 ⟨rfl, hb⟩
        have HB2 : Aside0 (Below wr.heap.size wr w2) := ⟨hxb.out.trans (hb.mono (by simp))⟩
        have HLE : Aside0 (bsOf (lineB x) ++ (⟨#[10]⟩ : ByteArray) = bsOf (lineB x ++ [10])) := ⟨bs_app _ [10]⟩
        clear hb
        have HWS := Aside0.mk (wstr_calls w1.heap.size w1.heap.size (textL (l.take j)) (bsOf (lineB x) ++ (⟨#[10]⟩ : ByteArray)) w2 (HJ.out.1.below HB2.out) (by rw [HLE.out, bs_size, List.length_append, List.length_singleton]; have := HTJ.out; have := HLL.out; have := HSX.out; omega) (Nat.le_trans hsr HB2.out.size))
        go_wp2_with fail
        with_reducible refine HWS.out.mono ?_
        rintro e w3 ⟨rfl, h3, hb3, _⟩
        rw [HLE.out, bs_list, ← HTK.out] at h3
        have HX3 : Aside0 (TextIs w1.heap.size w1.heap.size (textL (l.take (j + 1))) w3 ∧ Below w1.heap.size w1 w3) := ⟨Or.inr h3, (HJ.out.2.1.trans (HB2.out.mono hsr)).trans hb3⟩
        clear h3 hb3
        go_wp2
        go_roundw
        case rel => exact ⟨j + 1, by omega, by go_num, ⟨HX3.out.1, HX3.out.2, fun h => by omega⟩⟩
        case measure => simp [intOf]; omega
      · have hjn : j = n := by omega
        have hR := HJ.out
        rw [List.take_of_length_le (by have := HN.out; omega)] at hR
        have HLN := Aside0.mk (blen_calls w1.heap.size w1.heap.size (textL l) wr hR.1)
        have hgt : (262144 < ((textL l).length : Int)) = False := eq_false (by have := HTL.out; omega)
        have hST : Calls Tryz.prog 20 #[.pointer (some ⟨w1.heap.size, 0, none⟩)] wr fun e w' => e = .returned (.string (bsOf (textL l))) ∧ Below w1.heap.size wr w' := by
          by_cases h0 : textL l = []
          · have hn0 : n = 0 := by
              have hn := HN.out
              cases l with
              | nil => exact hn
              | cons x l => simp [textL] at h0
            rw [h0]
            exact bstr_none _ _ wr (hR.2.2 (by omega))
          · exact bstr_calls _ _ _ wr hR.1 h0
        have HST := Aside0.mk hST
        have HBR := Aside0.mk hR.2.1
        clear hR hST
        go_wp2_with fail
        with_reducible refine HLN.out.mono ?_
        rintro e w2 ⟨rfl, rfl⟩
        go_wp2_with fail
        with_reducible refine HST.out.mono ?_
        rintro e w3 ⟨rfl, hb⟩
        have HB3 := Aside0.mk (HB.out.trans ((HBR.out.trans hb).mono HB.out.size))
        clear hb
        go_wp2
        go_ret2
        exact ⟨rfl, HB3.out⟩
end Go.Proofs.YtmcjfnebkpifnaaGreatDoor
