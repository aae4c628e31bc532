/-
  WordsLong: the walk.
-/
import Derived.Test.YtelmmcjlhjahcaaDoorWoLaw
namespace Go.Proofs.YtelmmcjlhjahcaaDoor
open Go.RowKit Go.Proofs.YtelmmcjlhjahcaaDoorW.PrintWords Go.Proofs.YtelmmcjlhjahcaaDoorW.PrintLast Go.Proofs.YtelmmcjlhjahcaaDoorW.PrintMore Go.Proofs.YtelmmcjlhjahcaaDoor.PWordsCut
set_option linter.unusedVariables false
set_option linter.unusedSimpArgs false
set_option maxRecDepth 100000

set_option maxHeartbeats 4000000 in
theorem cut_long (w : World) (s : ByteArray) (hs : 4096 < s.size) : Calls Tryd.prog 23 #[.string s] w fun e w' => ∃ ev, e = .returned (.tuple #[.slice none 0 0, ev]) ∧ CutErr w' w.heap.size ev 3 0 ∧ Below w.heap.size w w' := by
  have h4096 : decide ((s.size : Int) > 4096) = true := by simp; omega
  obtain ⟨W1, hW1⟩ : ∃ W1, W1 = w.alloc (.cells #[.int .i64 3, .int .i64 0] 81) := ⟨_, rfl⟩
  obtain ⟨W2, hW2⟩ : ∃ W2, W2 = W1.alloc (.cells #[.string ⟨#[108, 105, 110, 101]⟩] 9) := ⟨_, rfl⟩
  have hC : Kd.string.C W2 (some ⟨W1.heap.size, 0, none⟩) 1 [(⟨#[108, 105, 110, 101]⟩ : ByteArray)] := by rw [hW2]; exact litC W1 9 [(⟨#[108, 105, 110, 101]⟩ : ByteArray)] (by decide)
  have e1 : W1.heap.size = w.heap.size + 1 := by rw [hW1]; simp
  rw [e1] at hC
  have hI := in_calls 77 (.pointer (some ⟨w.heap.size, 0, none⟩)) ⟨w.heap.size + 1, 0, none⟩ 1 1 [(⟨#[108, 105, 110, 101]⟩ : ByteArray)] W2 rfl (by decide) (Nat.le_refl _) (by decide) hC
  have B1 : Below w.heap.size w W1 := by rw [hW1]; exact below_alloc (Below.refl _ _) _
  have B2 : Below w.heap.size w W2 := by rw [hW2]; exact below_alloc B1 _
  have hf1 : W1.heap[w.heap.size]? = some (.cells #[.int .i64 3, .int .i64 0] 81 (0, 0)) := by rw [hW1]; exact heap_alloc_new w _
  have hf2 : W2.heap[w.heap.size]? = some (.cells #[.int .i64 3, .int .i64 0] 81 (0, 0)) := by rw [hW2]; exact blk_alloc hf1 _
  have HI : Aside0 (Calls Tryd.prog 20 #[.iface 77 (.pointer (some ⟨w.heap.size, 0, none⟩)), .slice (some ⟨w.heap.size + 1, 0, none⟩) 1 1] W2 fun e w' => ∃ g, e = .returned (.iface 83 (.pointer (some ⟨g, 0, none⟩))) ∧ CutErr w' w.heap.size (.iface 83 (.pointer (some ⟨g, 0, none⟩))) 3 0 ∧ Below w.heap.size w w') :=
    ⟨hI.mono fun e w' ⟨g, he, hin, hb⟩ => ⟨g, he, ⟨g, w.heap.size, rfl, ⟨Nat.le_trans B2.size hin.1, by obtain ⟨_, v', h3, h4⟩ := hin; exact ⟨v', h3, Kd.R_lower h4 B2.size⟩⟩, Nat.le_refl _, (hb.block _ (blk_lt hf2)).trans hf2⟩, B2.trans (hb.mono B2.size)⟩⟩
  clear hC hI B1 B2 hf1 hf2 e1 hs
  subst hW2
  subst hW1
  go_enter Tryd.func23, Tryd.ntmps23
  go_wp2_with fail
  refine (new_calls 3 0 _ rfl).mono ?_
  rintro e w' ⟨rfl, rfl⟩
  go_wp2_with fail
  with_reducible refine HI.out.mono ?_
  rintro e w' ⟨g, rfl, hE⟩
  replace hE := Aside0.mk hE
  go_wp2
  go_ret2
  exact ⟨_, rfl, hE.out.1, hE.out.2⟩

/-- So many letters a, then zeros. -/
def asZ (k N : Nat) : Array Value := (List.replicate k (Value.int .u8 97) ++ List.replicate (N - k) (Value.int .u8 0)).toArray
theorem asZ_set (k N : Nat) (h : k < N) : (asZ k N).setIfInBounds k (.int .u8 97) = asZ (k + 1) N := by
  unfold asZ
  rw [List.setIfInBounds_toArray]
  congr 1
  have e : N - k = (N - (k + 1)) + 1 := by omega
  rw [e, List.replicate_succ, List.set_append_right _ _ (by simp), List.length_replicate, Nat.sub_self, List.set_cons_zero, List.replicate_succ', List.append_assoc]
  simp
theorem asZ_made (N : Nat) : madeCells #[.int .u8 0] N = asZ 0 N := by
  unfold asZ madeCells
  apply Array.ext
  · simp
  · intro j h1 h2
    simp [Nat.mod_one]
theorem asZ_at (k N : Nat) (h : k < N) : ∃ v, (asZ k N)[k]? = some v := by
  refine ⟨(asZ k N)[k]'(by simp [asZ]; omega), ?_⟩
  exact Array.getElem?_eq_getElem _
theorem asZ_C (w : World) (g N : Nat) (hN : N ≤ 100000) (h : w.heap[g]? = some (.cells (asZ N N) 5 (0, 0))) : (Kd.int .u8).C w (some ⟨g, 0, none⟩) N (List.replicate N 97) := by
  refine ⟨by simp, by omega, fun _ => ⟨_, rfl, fun j p hj => ?_⟩⟩
  obtain ⟨hj1, hj2⟩ := List.getElem?_eq_some_iff.1 hj
  have hjN : j < N := by simpa using hj1
  obtain rfl : 97 = p := by simpa using hj2
  refine ⟨[.int .u8 97], rfl, rfl, fun i u hu => ?_⟩
  have hi : i = 0 := by
    have := (List.getElem?_eq_some_iff.1 hu).1
    simpa using this
  subst hi
  have hu' : Value.int .u8 97 = u := by simpa using hu
  subst hu'
  have e1 : (Kd.int .u8).sz = 1 := rfl
  rw [e1, Nat.mul_one, Nat.add_zero, add_plain, cell_of_row _ _ _ _ _ _ h]
  simp [asZ, hjN]
theorem infoB : (Tryd.prog.info? 5).map (fun i => (i.zero, i.size, i.bytes)) = some (some (.int .u8 0), 1, 1) := by kernel_rfl

/-- The line of letters a: one command of one word. -/
theorem cut_as (N i : Nat) : ∀ (c : CS), cutL i (List.replicate N 97) (-1) c = (-1, { c with word := c.word ++ List.replicate N 97, begun := c.begun || decide (0 < N) }) := by
  induction N generalizing i with
  | zero => intro c; simp [cutL_nil]
  | succ N ih =>
    intro c
    rw [List.replicate_succ, cutL_out _ _ _ _ _ (by decide) (by decide) (by decide), ih]
    simp [CS.plainW, CS.putW, List.replicate_succ]

set_option maxHeartbeats 4000000 in
theorem long_calls (w : World) (m : Int) (hm : 0 ≤ m ∧ m ≤ 255) (hg : As.ErrT w) :
    Calls Tryd.prog 5 #[.int .u8 m] w fun e w' => e = .returned (.bool true) ∧ Below w.heap.size w w' := by
  obtain ⟨N, hN⟩ : ∃ N : Nat, (4093 + m % 8 : Int) = N := ⟨(4093 + m % 8).toNat, by omega⟩
  have hN1 : 4093 ≤ N ∧ N ≤ 4100 := by omega
  have hmk := print_make_of (P := Tryd.prog) 44 5 (.int .u8 0) 1 Tryd.underlying44 infoB rfl (by decide) N (by omega)
  rw [asZ_made] at hmk
  have HB0 : Aside0 (Below w.heap.size w (w.alloc (.cells (asZ 0 N) 5))) := ⟨below_alloc (Below.refl _ _) _⟩
  have HH0 : Aside0 ((w.alloc (.cells (asZ 0 N) 5)).heap[w.heap.size]? = some (.cells (asZ 0 N) 5 (0, 0))) := ⟨heap_alloc_new w _⟩
  have HG := Aside0.mk hg
  have HN1 := Aside0.mk hN1
  clear hg hN1
  go_enter Tryd.func5, Tryd.ntmps5
  go_wp2
  clear hmk
  go_loopw [4] (fun i wr => ∃ k : Nat, i = .int .i64 k ∧ k ≤ N ∧ Aside0 (wr.heap[w.heap.size]? = some (.cells (asZ k N) 5 (0, 0)) ∧ Below w.heap.size w wr)) (fun i _ => N - (intOf i).toNat)
  case atStart => exact ⟨0, rfl, Nat.zero_le _, ⟨HH0.out, HB0.out⟩⟩
  case round =>
    obtain ⟨k, rfl, hk, HM⟩ := hrel
    by_cases hlt : k < N
    · obtain ⟨v, hv⟩ := asZ_at k N hlt
      have c0 : wr.cell? ⟨w.heap.size, k, none⟩ = some v := (blk_cell HM.out.1 k).trans hv
      have f0 : wr.frozen? ⟨w.heap.size, k, none⟩ = false := blk_frozen HM.out.1 k
      have hs := blk_set HM.out.1 k (.int .u8 97)
      rw [asZ_set k N hlt] at hs
      have HS := Aside0.mk (And.intro hs (HM.out.2.setCell (p := ⟨w.heap.size, k, none⟩) (Nat.le_refl _) (.int .u8 97)))
      clear hs hv
      go_wp2
      go_roundw
      case rel => exact ⟨k + 1, by go_num, by omega, HS⟩
      case measure => simp [intOf]; omega
    · have hkn : k = N := by omega
      subst hkn
      obtain ⟨s, hs⟩ : ∃ s, s = strOfNums (List.replicate k 97) := ⟨_, rfl⟩
      have hsz : s.size = k := by rw [hs]; simp [strOfNums, ByteArray.size]
      have hdt : s.data.toList = List.replicate k 97 := by rw [hs]; simp [strOfNums]
      have hC := asZ_C wr w.heap.size k (by have := HN1.out; omega) HM.out.1
      have hcv : (convert 44 9 (.slice (some ⟨w.heap.size, 0, none⟩) k k)).run Tryd.prog wr = .ok (.string s) wr := by
        rw [hs]; exact Kd.C_string Tryd.underlying44 Tryd.underlying5 Tryd.underlying9 hC
      have HG2 : Aside0 (As.ErrT wr) := ⟨HG.out.below HM.out.2⟩
      have HB := Aside0.mk HM.out.2
      by_cases h4 : 4096 < k
      · have t4 : decide ((k : Int) > 4096) = true := by simp; omega
        have HCL := Aside0.mk (cut_long wr s (by omega))
        clear hC hs hdt HM hlt hk h4 hN HN1 HH0 HB0
        go_wp2_with fail
        with_reducible refine HCL.out.mono ?_
        rintro e w2 ⟨ev, rfl, hE, hb2⟩
        obtain ⟨xs, hev⟩ := hE.ev
        obtain ⟨ut, ux, rfl⟩ := As.EV_iface hev
        have HCO : Aside0 (Calls Tryd.prog 16 #[.iface ut ux] w2 fun e w' => e = .returned (.int .i64 3) ∧ Below w2.heap.size w2 w') := Aside0.mk (As.code_calls _ xs _ w2 hev (HG2.out.below hb2))
        replace HB := Aside0.mk (HB.out.trans (hb2.mono HB.out.size))
        clear hE hev hb2 HCL hcv
        go_wp2_with fail
        with_reducible refine HCO.out.mono ?_
        rintro e w3 ⟨rfl, hb3⟩
        replace HB := Aside0.mk (HB.out.trans (hb3.mono HB.out.size))
        clear hb3 HCO
        go_wp2_with fail
        refine (awake_calls _).mono ?_
        rintro e w4 ⟨rfl, hb4⟩
        replace HB := Aside0.mk (HB.out.trans (hb4.mono HB.out.size))
        clear hb4
        go_wp2
        go_ret
        exact ⟨rfl, HB.out⟩
      · have t4 : decide ((k : Int) > 4096) = false := by simp; omega
        have hcc := cut_calls s wr (by omega)
        rw [hdt, cut_as] at hcc
        have hcm : ({ CS.init with word := CS.init.word ++ List.replicate k 97, begun := CS.init.begun || decide (0 < k) } : CS).commandW.cmds = [[s]] := by
          have h0 : 0 < k := by have := HN1.out; omega
          simp [CS.init, CS.commandW, CS.endW, CS.flushW, h0, hs]
        rw [hcm] at hcc
        have HCC := Aside0.mk hcc
        have HSZ := Aside0.mk hsz
        clear hcc hcm hC hs hdt HM hlt hk h4 hN HN1 HH0 HB0 hsz
        go_wp2_with fail
        with_reducible refine HCC.out.mono ?_
        rintro e w2 ⟨hb2, _, h3⟩
        obtain ⟨A1, n1, c1, rfl, hR, _⟩ := h3 (by decide)
        obtain ⟨hn1, hc1, hC1⟩ := Kd.R_reads' hR
        have hn1' : n1 = 1 := hn1
        subst hn1'
        obtain ⟨ad, A', c', rfl, hcell, hc', hr'⟩ := rows_at hC1 0 Nat.zero_lt_one
        have hr2 : Kd.string.C w2 A' 1 [s] := hr'
        obtain ⟨ad2, e2, hst0⟩ := Kd.at_string hr2 0 (by decide) (by decide)
        subst e2
        have hst : w2.cell? (ad2.add 0) = some (.string s) := hst0
        have hcell0 : w2.cell? (ad.add 0) = some (.slice (some ad2) 1 c') := hcell
        have hsz2 : ((s.size : Int) == (k : Int)) = true := by rw [HSZ.out]; simp
        have hcellz : w2.cell? ad = some (.slice (some ad2) 1 c') := by simpa [Addr.add] using hcell0
        have hstz : w2.cell? ad2 = some (.string s) := by simpa [Addr.add] using hst
        replace HB := Aside0.mk (HB.out.trans (hb2.mono HB.out.size))
        clear hb2 h3 hR hn1 hc1 hC1 hcell hc' hr' hr2 hst0 HCC hcv
        go_wp2_with fail
        refine (awake_calls _).mono ?_
        rintro e w4 ⟨rfl, hb4⟩
        replace HB := Aside0.mk (HB.out.trans (hb4.mono HB.out.size))
        clear hb4
        go_wp2
        go_ret
        exact ⟨rfl, HB.out⟩
end Go.Proofs.YtelmmcjlhjahcaaDoor
