/-
  SumLong: the walk.
-/
import Derived.Test.YtlnipkhdaikdkaaDoorSuLaws
namespace Go.Proofs.YtlnipkhdaikdkaaDoor
open Go.RowKit Go.Proofs.YtlnipkhdaikdkaaDoorW.PrintWords Go.Proofs.YtlnipkhdaikdkaaDoorW.PrintLast Go.Proofs.YtlnipkhdaikdkaaDoorW.PrintMore
set_option linter.unusedVariables false

theorem linfoB : (Tryd.prog.info? 5).map (fun i => (i.zero, i.size, i.bytes)) = some (some (.int .u8 0), 1, 1) := by kernel_rfl
theorem zeros_conv (w : World) (N : Nat) : ∃ z : ByteArray, z.size = N ∧ (convert 50 9 (.slice (some ⟨w.heap.size, 0, none⟩) N N)).run Tryd.prog (w.alloc (.cells (madeCells #[Value.int .u8 0] N) 5)) = .ok (.string z) (w.alloc (.cells (madeCells #[Value.int .u8 0] N) 5)) := by
  refine ⟨⟨(List.replicate N (0 : UInt8)).toArray⟩, by show (List.replicate N (0 : UInt8)).toArray.size = N; simp, ?_⟩
  have h := run_convert_bytes_back (P := Tryd.prog) (w.alloc (.cells (madeCells #[Value.int .u8 0] N) 5)) 50 9 5 ⟨w.heap.size, 0, none⟩ N (List.replicate N (0 : UInt8)) Tryd.underlying50 Tryd.underlying5 Tryd.underlying9 (fun j hj => by
    have hj' : j < N := by simpa using hj
    rw [add_plain, made_cell]
    unfold madeCells
    simp [hj', Nat.mod_one])
  rw [List.length_replicate] at h
  exact h
theorem cut_long (s : ByteArray) (h : 65535 < s.size) : cutR s = (⟨#[]⟩, 3) := by unfold cutR; rw [if_pos h]
set_option maxRecDepth 100000 in
set_option maxHeartbeats 4000000 in
theorem sumLong_calls (m : Int) (hm : 0 ≤ m ∧ m < 256) (w : World) (hT : NumT w) (hE : NumE w) :
    Calls Tryd.prog 11 #[.int .u8 m] w fun e w' => e = .returned (.bool true) ∧ Below w.heap.size w w' := by
  obtain ⟨N, hN⟩ : ∃ N : Nat, (65528 + m % 6 : Int) = N := ⟨(65528 + m % 6).toNat, by omega⟩
  have hN1 : 65528 ≤ N ∧ N ≤ 65533 := by omega
  have hmk := print_make_of (P := Tryd.prog) 50 5 (.int .u8 0) 1 Tryd.underlying50 linfoB rfl (by decide) N (by omega)
  obtain ⟨z, hz, hcv⟩ := zeros_conv w N
  have hps : (putS z).size = z.size + 5 := headed_size (sumL 0 z.data.toList) z
  have HP := Aside0.mk (refPut_calls z (by omega))
  have HC := cut_calls (putS z) (by omega)
  have HT := Aside0.mk hT
  have HE := Aside0.mk hE
  have HB : Aside0 (Below w.heap.size w (w.alloc (.cells (madeCells #[Value.int .u8 0] N) 5))) := ⟨below_alloc (Below.refl _ _) _⟩
  by_cases hN2 : N ≤ 65530
  · rw [cut_put z (by omega)] at HC
    replace HC := Aside0.mk HC
    have hp1 : (putS z).size ≤ 65535 := by omega
    generalize putS z = p at *
    have hzz : (z.size : Int) = (N : Int) := by omega
    clear hT hE hN1 hps hN2 hz
    go_enter Tryd.func11, Tryd.ntmps11
    go_wp2_with fail
    with_reducible refine (HP.out _).mono ?_
    rintro e w1 ⟨rfl, hb⟩
    replace HB := Aside0.mk (HB.out.trans (hb.mono HB.out.size))
    clear hb
    go_wp2_with fail
    with_reducible refine (HC.out _ (HT.out.below HB.out) (HE.out.below HB.out)).mono ?_
    rintro e w2 ⟨rfl, hb⟩
    replace HB := Aside0.mk (HB.out.trans (hb.mono HB.out.size))
    clear hb
    go_wp2_with fail
    with_reducible refine (awake_calls _ (HT.out.below HB.out)).mono ?_
    rintro e w3 ⟨rfl, hb⟩
    replace HB := Aside0.mk (HB.out.trans (hb.mono HB.out.size))
    clear hb
    go_wp2
    go_ret
    exact ⟨rfl, HB.out⟩
  · rw [cut_long _ (by omega)] at HC
    replace HC := Aside0.mk HC
    have hp1 : 65535 < (putS z).size := by omega
    generalize putS z = p at *
    clear hT hE hN1 hps hN2 hz
    go_enter Tryd.func11, Tryd.ntmps11
    go_wp2_with fail
    with_reducible refine (HP.out _).mono ?_
    rintro e w1 ⟨rfl, hb⟩
    replace HB := Aside0.mk (HB.out.trans (hb.mono HB.out.size))
    clear hb
    go_wp2_with fail
    with_reducible refine (HC.out _ (HT.out.below HB.out) (HE.out.below HB.out)).mono ?_
    rintro e w2 ⟨rfl, hb⟩
    replace HB := Aside0.mk (HB.out.trans (hb.mono HB.out.size))
    clear hb
    go_wp2_with fail
    with_reducible refine (awake_calls _ (HT.out.below HB.out)).mono ?_
    rintro e w3 ⟨rfl, hb⟩
    replace HB := Aside0.mk (HB.out.trans (hb.mono HB.out.size))
    clear hb
    go_wp2
    go_ret
    exact ⟨rfl, HB.out⟩
end Go.Proofs.YtlnipkhdaikdkaaDoor
