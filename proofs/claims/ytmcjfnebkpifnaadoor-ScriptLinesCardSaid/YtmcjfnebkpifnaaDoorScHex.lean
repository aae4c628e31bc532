/- Printed texts of this seat, cut to what is used. -/
import Derived.Test.YtmcjfnebkpifnaaDoorScPure
import Derived.Test.YtmcjfnebkpifnaaDoorScBuild
namespace Go.Proofs.YtmcjfnebkpifnaaDoor
open Go.RowKit Go.Proofs.YtmcjfnebkpifnaaDoorW.PrintWords Go.Proofs.YtmcjfnebkpifnaaDoorW.PrintLast Go.Proofs.YtmcjfnebkpifnaaDoorW.PrintMore Go.Proofs.YtmcjfnebkpifnaaDoor.PScriptLines
set_option linter.unusedVariables false
set_option linter.unusedSimpArgs false
set_option maxRecDepth 100000

theorem TextIs.below {B b : Nat} {l : List UInt8} {w w' : World} (h : TextIs B b l w) (hb : Below w.heap.size w w') : TextIs B b l w' := by
  have k : ∀ p, TextAt B b p l w → TextAt B b p l w' := fun p ⟨h1, v, h2, h3, h4⟩ => ⟨h1, v, (hb.block b (blk_lt h2)).trans h2, h3.kept (row := none) ⟨hb.os, hb.tape, hb.output, hb.size, fun i hi _ => hb.block i hi⟩ (Classical.em _), h4⟩
  exact h.imp (k _) (k _)
theorem TextIs.new (w : World) : TextIs w.heap.size w.heap.size [] (w.alloc (.cells #[.pointer none, .slice none 0 0] 80)) :=
  Or.inl ⟨Nat.le_refl _, .slice none 0 0, heap_alloc_new w _, own_nil _ _ _ _, by simp [Value.ownBlock]⟩
theorem hex_drop (b : UInt8) : (hex4 (b.toNat : Int)).extract 2 4 = bsOf (hex2 b) := by
  apply bs_ext
  rw [bs_list]
  rfl
set_option maxHeartbeats 4000000 in
theorem shex_calls (s : ByteArray) (w : World) (hs : s.size ≤ 1000) (hT : NumT w) :
    Calls Tryd.prog 59 #[.string s] w fun e w' => e = .returned (.string (bsOf (hexL s.data.toList))) ∧ Below w.heap.size w w' := by
  have hln : s.data.toList.length = s.size := by simp
  by_cases h : s.data.toList = []
  · have e0 : s.toList = [] := by rw [ByteArray.toList_eq]; exact h
    have e1 : hexL s.data.toList = [110, 111, 110, 101] := by unfold hexL; rw [if_pos h]
    rw [e1]
    have e2 : (s.toList == ([] : List UInt8)) = true := by rw [e0]; rfl
    clear hT e1 h e0 hln
    go_enter Tryd.func59, Tryd.ntmps59
    go_wp2
    go_ret
    exact ⟨rfl, Below.refl _ _⟩
  · have e1 : hexL s.data.toList = s.data.toList.flatMap hex2 := by unfold hexL; rw [if_neg h]
    rw [e1]
    have e2 : (s.toList == ([] : List UInt8)) = false := by
      rw [ByteArray.toList_eq]
      cases hq : s.data.toList with
      | nil => exact absurd hq h
      | cons x l => rfl
    have HNE : Aside0 (s.data.toList.flatMap hex2 ≠ []) := ⟨fun hq => by
      have := congrArg List.length hq
      rw [hexF_len] at this
      cases hq2 : s.data.toList with
      | nil => exact h hq2
      | cons x l => rw [hq2] at this; simp at this⟩
    have HT := Aside0.mk hT
    have HLN := Aside0.mk hln
    have HTX := Aside0.mk (TextIs.new w)
    have HW0 : Aside0 (Below w.heap.size w (w.alloc (.cells #[.pointer none, .slice none 0 0] 80))) := ⟨below_alloc (Below.refl _ _) _⟩
    clear hT e1 h hln
    go_enter Tryd.func59, Tryd.ntmps59
    go_wp2
    go_loopw [9] (fun i wr => ∃ j : Nat, j ≤ s.size ∧ i = .int .i64 j ∧ Aside0 (TextIs w.heap.size w.heap.size ((s.data.toList.take j).flatMap hex2) wr ∧ Below w.heap.size w wr)) (fun i _ => s.size - (intOf i).toNat)
    case atStart => exact ⟨0, by omega, rfl, ⟨HTX.out, HW0.out⟩⟩
    case round =>
      obtain ⟨j, hj, rfl, HR⟩ := hrel
      have hsr := HR.out.2.size
      by_cases hlt : j < s.size
      · have hjl : j < s.data.toList.length := by have := HLN.out; omega
        have HTK := Aside0.mk (hexF_take s.data.toList j hjl)
        obtain ⟨b, hb⟩ : ∃ b, b = s.data.toList[j] := ⟨_, rfl⟩
        rw [← hb] at HTK
        have hb2 : s[j] = b := by rw [hb]; rfl
        have hbr : b.toNat < 256 := b.toNat_lt
        have HHX := Aside0.mk (hex_calls (b.toNat : Int) (by omega) (by omega) wr (HT.out.below HR.out.2))
        have HTL : Aside0 (((s.data.toList.take j).flatMap hex2).length ≤ 2000) := ⟨by rw [hexF_len, List.length_take]; have := HLN.out; omega⟩
        clear hb
        go_wp2_with fail
        with_reducible refine HHX.out.mono ?_
        rintro e w2 ⟨rfl, hbx⟩
        have hz4 : (hex4 (b.toNat : Int)).size = 4 := rfl
        have hex := hex_drop b
        have HWS := Aside0.mk (wstr_calls w.heap.size w.heap.size ((s.data.toList.take j).flatMap hex2) (bsOf (hex2 b)) w2 (HR.out.1.below hbx) (by rw [bs_size, hex2_len]; have := HTL.out; omega) (Nat.le_trans hsr hbx.size))
        have HB2 := Aside0.mk (HR.out.2.trans (hbx.mono hsr))
        generalize hex4 (b.toNat : Int) = x4 at *
        clear hbx HHX
        go_wp2_with fail
        with_reducible refine HWS.out.mono ?_
        rintro e w3 ⟨rfl, h3, hb3, _⟩
        rw [bs_list, ← HTK.out] at h3
        have HX3 : Aside0 (TextIs w.heap.size w.heap.size ((s.data.toList.take (j + 1)).flatMap hex2) w3 ∧ Below w.heap.size w w3) := ⟨Or.inr h3, HB2.out.trans hb3⟩
        clear h3 hb3
        go_wp2
        go_roundw
        case rel => exact ⟨j + 1, by omega, by go_num, HX3⟩
        case measure => simp [intOf]; omega
      · have hjn : j = s.size := by omega
        have hR := HR.out
        rw [List.take_of_length_le (by have := HLN.out; omega)] at hR
        have HST := Aside0.mk (bstr_calls w.heap.size w.heap.size (s.data.toList.flatMap hex2) wr hR.1 HNE.out)
        have HBR := Aside0.mk hR.2
        clear hR
        go_wp2_with fail
        with_reducible refine HST.out.mono ?_
        rintro e w3 ⟨rfl, hb⟩
        have HB3 := Aside0.mk (HBR.out.trans hb)
        clear hb
        go_wp2
        go_ret
        exact ⟨rfl, HB3.out⟩
end Go.Proofs.YtmcjfnebkpifnaaDoor
