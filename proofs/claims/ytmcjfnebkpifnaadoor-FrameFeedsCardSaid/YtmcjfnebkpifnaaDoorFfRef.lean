/-
  The document's decoder: the walk of sashref23.D.Feed.
-/
import Derived.Test.YtmcjfnebkpifnaaDoorFfPure
namespace Go.Proofs.YtmcjfnebkpifnaaDoor
open Go.RowKit Go.Proofs.YtmcjfnebkpifnaaDoorW.PrintWords Go.Proofs.YtmcjfnebkpifnaaDoorW.PrintLast Go.Proofs.YtmcjfnebkpifnaaDoorW.PrintMore Go.Proofs.YtmcjfnebkpifnaaDoor.PFrameFeeds
set_option linter.unusedVariables false
set_option linter.unusedSimpArgs false
set_option maxRecDepth 100000

theorem rfeed_over (w : World) (A : Option Addr) (n c : Nat) (F : Int) (B : Option Addr) (m d : Nat) :
    Calls Tryd.prog 13 #[.agg #[.slice A n c, .int .i64 F, .bool true], .slice B m d] w fun e w' => Below w.heap.size w w' ∧ ∃ k, e = .returned (.tuple #[.agg #[.slice A n c, .int .i64 F, .bool true], .slice (some ⟨k, 0, none⟩) 0 0, .int .i64 10, .int .i64 0]) := by
  go_enter Tryd.func13, Tryd.ntmps13
  go_wp2
  exact bodyPost_ret (v := .tuple #[.agg #[.slice A n c, .int .i64 F, .bool true], .slice (some ⟨w.heap.size + 1 + 1, 0, none⟩) 0 0, .int .i64 10, .int .i64 0]) (by simp [results, Tryd.results13, go_sem]) rfl ⟨below_alloc (below_alloc (below_alloc (Below.refl _ _) _) _) _, _, rfl⟩

theorem lit_ints (W : World) (base : Nat) (e : Nat) (xs : List Int) (hb : base ≤ W.heap.size) (hm : xs.length ≤ 100000) : (Kd.int .u8).R e (W.alloc (.cells (encs (Value.int .u8) xs).toArray e)) base (fun _ => True) (.slice (some ⟨W.heap.size, 0, none⟩) xs.length xs.length) xs :=
  Kd.R_of_own (own_lit_of W base e xs hb (by omega)) (fun _ _ => trivial)

theorem D_stored {w wr : World} {A : Option Addr} {n c : Nat} {F : Int} {A8 : Option Addr} {n8 c8 : Nat} {fs : List S63} {A6 : Option Addr} {m6 c6 : Nat} {all : List Int} (v0 : Value) (v1 : Int) (v2 : Bool)
    (hx : wr.heap[w.heap.size]? = some (.cells #[.slice A n c, .int .i64 F, .bool false] 29 (0, 0))) (hz : wr.heap[w.heap.size + 1]? = some (.cells #[.slice none 0 0, .int .i64 0, .bool false] 29 (0, 0)))
    (hb : Below w.heap.size w wr) (hO : (k63).R 63 wr w.heap.size (fun _ => True) (.slice A8 n8 c8) fs) (hA : (Kd.int .u8).R 5 wr w.heap.size (fun _ => True) (.slice A6 m6 c6) all) :
    ∃ W, W = ((wr.setCell ⟨w.heap.size + 1, 0, none⟩ v0).setCell ⟨w.heap.size + 1, 1, none⟩ (.int .i64 v1)).setCell ⟨w.heap.size + 1, 2, none⟩ (.bool v2) ∧
      (W.cell? ⟨w.heap.size + 1, 0, none⟩ = some v0 ∧ W.cell? ⟨w.heap.size + 1, 1, none⟩ = some (.int .i64 v1) ∧ W.cell? ⟨w.heap.size + 1, 2, none⟩ = some (.bool v2)) ∧ W.cell? ⟨w.heap.size, 1, none⟩ = some (.int .i64 F) ∧
      Below w.heap.size w W ∧ (Kd.int .u8).R 5 W w.heap.size (fun _ => True) (.slice A6 m6 c6) all ∧ (k63).R 63 W w.heap.size (fun _ => True) (.slice A8 n8 c8) fs := by
  have k1 := blk_set hz 0 v0
  have k2 := blk_set k1 1 (.int .i64 v1)
  have k3 := blk_set k2 2 (.bool v2)
  have hx3 : (((wr.setCell ⟨w.heap.size + 1, 0, none⟩ v0).setCell ⟨w.heap.size + 1, 1, none⟩ (.int .i64 v1)).setCell ⟨w.heap.size + 1, 2, none⟩ (.bool v2)).heap[w.heap.size]? = some (.cells #[.slice A n c, .int .i64 F, .bool false] 29 (0, 0)) := by
    rw [Below.heap_setCell _ _ _ _ (by simp), Below.heap_setCell _ _ _ _ (by simp), Below.heap_setCell _ _ _ _ (by simp)]
    exact hx
  refine ⟨_, rfl, ⟨by rw [blk_cell k3]; rfl, by rw [blk_cell k3]; rfl, by rw [blk_cell k3]; rfl⟩, by rw [blk_cell hx3]; rfl, ((hb.setCell (Nat.le_succ _) _).setCell (Nat.le_succ _) _).setCell (Nat.le_succ _) _, ?_, ?_⟩
  · exact Kd.R_set (Kd.R_set (Kd.R_set hA hz (by decide) _ _) k1 (by decide) _ _) k2 (by decide) _ _
  · exact Kd.R_set (Kd.R_set (Kd.R_set hO hz (by decide) _ _) k1 (by decide) _ _) k2 (by decide) _ _

theorem body_cut (w : World) (A : Option Addr) (tot c : Nat) (left : List Int) (N : Int) (hC : (Kd.int .u8).C w A tot left) (hc : tot ≤ c) (h0 : 0 ≤ N) (h1 : 5 + N ≤ (tot : Int)) :
    ∃ X, (∀ W : World, (Instr.slice 27 (.slice A tot c) (some (.int .i64 5)) (some (.int .i64 (5 + N))) none).run Tryd.prog W = .ok (.slice X N.toNat (c - 5)) W) ∧ (Kd.int .u8).C w X N.toNat ((left.drop 5).take N.toNat) := by
  have hlen := Kd.C_len hC
  subst hlen
  have hD := Kd.C_drop (m := 5) (c := c) hC (by omega) hc
  have hT := Kd.C_take (m := N.toNat) hD (by rw [List.length_drop]; omega)
  have e : ((left.drop 5).take N.toNat).length = N.toNat := by rw [List.length_take, List.length_drop]; omega
  rw [e] at hT
  refine ⟨_, fun W => ?_, hT⟩
  obtain ⟨i0, hi, hz⟩ := Option.map_eq_some_iff.1 (show (Tryd.prog.info? 5).map (fun i => i.size) = some 1 by kernel_rfl)
  have h := cut_mid (P := Tryd.prog) 27 5 .i64 .i64 Tryd.underlying27 hi 1 hz A left.length c 5 (5 + N) (by omega) (by omega) (by omega) hc W
  have e1 : (5 + N).toNat - (5 : Int).toNat = N.toNat := by omega
  have e2 : (5 : Int).toNat = 5 := rfl
  rw [e1, e2] at h
  exact h

set_option maxHeartbeats 16000000 in
theorem rfeed_calls (w : World) (A : Option Addr) (n c : Nat) (F : Int) (B : Option Addr) (m d : Nat) (bs xs : List Int) (hA : (Kd.int .u8).C w A n bs) (hB : (Kd.int .u8).C w B m xs) (hn : n ≤ c) (hm : m ≤ d)
    (hF0 : 0 ≤ F) (hF1 : F ≤ 1000000000) (hl : (bs ++ xs).length ≤ 100000) (hby : Bytes (bs ++ xs)) (k : Nat) (hk : (bs ++ xs).length < k) :
    Calls Tryd.prog 13 #[.agg #[.slice A n c, .int .i64 F, .bool false], .slice B m d] w fun e w' => Below w.heap.size w w' ∧ ∃ A2 n2 c2 v, e = .returned (.tuple #[.agg #[.slice A2 n2 c2, .int .i64 (refF k F (bs ++ xs)).d.fed, .bool (refF k F (bs ++ xs)).d.over], v, .int .i64 (refF k F (bs ++ xs)).no, .int .i64 (refF k F (bs ++ xs)).at_]) ∧
      (Kd.int .u8).C w' A2 n2 (refF k F (bs ++ xs)).d.bytes ∧ n2 ≤ c2 ∧ (∀ a', A2 = some a' → w.heap.size ≤ a'.block) ∧ (k63).R 63 w' w.heap.size (fun _ => True) v (refF k F (bs ++ xs)).frames := by
  have hln := Kd.C_len hA
  have hlm := Kd.C_len hB
  rw [List.length_append] at hl
  obtain ⟨q, hq⟩ : ∃ q, q = refF k F (bs ++ xs) := ⟨_, rfl⟩
  rw [← hq]
  have HQ := Aside0.mk hq
  have HBY := Aside0.mk hby
  have HK := Aside0.mk hk
  obtain ⟨w2, hw2⟩ : ∃ w2, w2 = (w.alloc (.cells #[.slice A n c, .int .i64 F, .bool false] 29)).alloc (.cells #[.slice none 0 0, .int .i64 0, .bool false] 29) := ⟨_, rfl⟩
  have hb2 : Below w.heap.size w w2 := by rw [hw2]; exact below_alloc (below_alloc (Below.refl _ _) _) _
  have hs2 : w2.heap.size = w.heap.size + 2 := by rw [hw2]; simp
  have hx2 : w2.heap[w.heap.size]? = some (.cells #[.slice A n c, .int .i64 F, .bool false] 29 (0, 0)) := by
    rw [hw2, Below.heap_alloc _ _ _ (by simp)]; exact heap_alloc_new w _
  have hz2 : w2.heap[w.heap.size + 1]? = some (.cells #[.slice none 0 0, .int .i64 0, .bool false] 29 (0, 0)) := by
    have := heap_alloc_new (w.alloc (.cells #[.slice A n c, .int .i64 F, .bool false] 29)) (.cells #[.slice none 0 0, .int .i64 0, .bool false] 29)
    rw [hw2]
    simpa using this
  have HA2 := Aside0.mk (Kd.C_below hA hb2)
  have HB2 := Aside0.mk (Kd.C_below hB hb2)
  have HBB2 := Aside0.mk hb2
  have HX2 := Aside0.mk hx2
  have HZ2 := Aside0.mk hz2
  have HW2 := Aside0.mk hw2
  clear hA hB hq hby hk hb2 hx2 hz2 hw2
  go_enter Tryd.func13, Tryd.ntmps13
  go_wp2_with ((with_reducible refine gate_dst (N := 13) rfl ?_); refine Aside0.out ?zz)
  refine ⟨?_⟩
  rw [← HW2.out]
  refine Kd.R_lit k63 (w0 := w2) w2.heap.size 63 ?hg (N := 13) ?hd (xs := ([] : List S63)) (inner := []) (ok := fun _ => True) (okp := fun _ => False) ?hr ?hp (fun _ _ => trivial) trivial (Below.refl _ _) (Nat.le_refl _) (by simp) ?_
  case hd => rfl
  case hg => rfl
  case hp => exact Reps.none _ _
  case hr => first | (go_simp; done) | (go_simp; rfl)
  intro v3 w3 ho hb3 hg_ hnew_
  obtain ⟨A3, n3, c3, rfl⟩ := sl_of_R ho
  have RO := Aside0.mk (Kd.R_lower ho (show w.heap.size ≤ w2.heap.size by omega))
  have HB3 := Aside0.mk (HBB2.out.trans (hb3.mono HBB2.out.size))
  have HX3 := Aside0.mk ((hb3.block _ (blk_lt HX2.out)).trans HX2.out)
  have HZ3 := Aside0.mk ((hb3.block _ (blk_lt HZ2.out)).trans HZ2.out)
  have HA3 := Aside0.mk (Kd.C_below HA2.out hb3)
  have HC3 := Aside0.mk (Kd.C_below HB2.out hb3)
  have c0 : w3.cell? ⟨w.heap.size, 0, none⟩ = some (.slice A n c) := by rw [blk_cell HX3.out]; rfl
  have c2 : w3.cell? ⟨w.heap.size, 2, none⟩ = some (.bool false) := by rw [blk_cell HX3.out]; rfl
  have hs3 := HB3.out.size
  clear ho hb3 hg_ hnew_ HA2 HB2 HX2 HZ2 HW2 HBB2 hs2
  have hb4 : Below w3.heap.size w3 (w3.alloc (.cells #[] 5)) := below_alloc (Below.refl _ _) _
  have RB : Aside0 ((Kd.int .u8).R 5 (w3.alloc (.cells #[] 5)) w3.heap.size (fun _ => True) (.slice (some ⟨w3.heap.size, 0, none⟩) 0 0) []) := ⟨lit_ints w3 w3.heap.size 5 [] (Nat.le_refl _) (by simp)⟩
  have H4 := Aside0.mk hb4
  have HA4 := Aside0.mk (Kd.C_below HA3.out hb4)
  have c4 : (w3.alloc (.cells #[] 5)).cell? ⟨w.heap.size, 0, none⟩ = some (.slice A n c) := pw_cell_below hb4 c0
  have hs4 := hb4.size
  clear hb4
  go_wp2_with (at_builtin; refine Kd.R_append_row (Value.int .u8) 0 (w0 := w3) w3.heap.size rfl (.tmp 18) (.tmp 20) 27 5 (.int .u8 0) 1 rfl Tryd.underlying27 infoB rfl (by decide) (.slice (some ⟨w3.heap.size, 0, none⟩) 0 0) [] bs A n c (fun _ => True) rfl rfl (fun _ _ => trivial) RB.out HA4.out H4.out hs4 (by simp only [List.length_nil]; omega) ?_)
  intro v5 w5 ho hb5 _ _
  obtain ⟨A5, n5, c5, rfl⟩ := sl_of_R ho
  replace ho : (Kd.int .u8).R 5 w5 w3.heap.size (fun _ => True) (.slice A5 n5 c5) bs := ho
  have RB5 := Aside0.mk ho
  have H5 := Aside0.mk hb5
  have HC5 := Aside0.mk (Kd.C_below HC3.out hb5)
  have hs5 := hb5.size
  clear ho hb5 RB H4 HA4 c0 c4 hs4
  go_wp2_with (at_builtin; refine Kd.R_append_row (Value.int .u8) 0 (w0 := w3) w3.heap.size rfl (.tmp 21) (.tmp 22) 27 5 (.int .u8 0) 1 rfl Tryd.underlying27 infoB rfl (by decide) (.slice A5 n5 c5) bs xs B m d (fun _ => True) rfl rfl (fun _ _ => trivial) RB5.out HC5.out H5.out hs5 (by omega) ?_)
  intro v6 w6 ho hb6 _ _
  obtain ⟨A6, n6, c6, rfl⟩ := sl_of_R ho
  obtain ⟨hn6, hc6, hC6⟩ := Kd.R_reads' ho
  have HALL := Aside0.mk (Kd.R_lower ho hs3)
  have H6 := Aside0.mk (HB3.out.trans (hb6.mono hs3))
  have HX6 := Aside0.mk ((hb6.block _ (blk_lt HX3.out)).trans HX3.out)
  have HZ6 := Aside0.mk ((hb6.block _ (blk_lt HZ3.out)).trans HZ3.out)
  have RO6 := Aside0.mk (Kd.R_below RO.out hb6)
  obtain ⟨all, hall⟩ : ∃ all, all = bs ++ xs := ⟨_, rfl⟩
  rw [← List.length_append, ← hall] at hl
  rw [← hall] at hn6 HQ HBY HK HALL
  subst hn6
  clear ho hb6 hC6 hall RB5 H5 HC5 hs5 HX3 HZ3 HA3 HC3 RO hln hlm c2
  go_wp2
  go_loopw [8, 10] (fun v i wr => ∃ (a : Nat) (kq : Nat) (A8 : Option Addr) (n8 c8 : Nat) (fs : List S63), i = .int .i64 a ∧ v = .slice A8 n8 c8 ∧ a ≤ all.length ∧ Aside0 (all.length - a < kq ∧ fs.length ≤ a ∧ RF.front fs (refF kq (F + a) (all.drop a)) = q) ∧
      Aside0 ((k63).R 63 wr w.heap.size (fun _ => True) (.slice A8 n8 c8) fs) ∧ Aside0 ((Kd.int .u8).R 5 wr w.heap.size (fun _ => True) (.slice A6 all.length c6) all) ∧
      Aside0 (wr.heap[w.heap.size]? = some (.cells #[.slice A n c, .int .i64 F, .bool false] 29 (0, 0)) ∧ wr.heap[w.heap.size + 1]? = some (.cells #[.slice none 0 0, .int .i64 0, .bool false] 29 (0, 0))) ∧ Aside0 (Below w.heap.size w wr)) (fun _ i _ => all.length - (intOf i).toNat)
  case atStart => exact ⟨0, k, A3, n3, c3, [], rfl, rfl, by omega, ⟨by have := HK.out; omega, by simp, by rw [HQ.out, RF.front_nil]; simp⟩, RO6, HALL, ⟨HX6.out, HZ6.out⟩, H6⟩
  case round =>
    obtain ⟨a, kq, A8, n8, c8, fs, rfl, rfl, ha, HP, HO8, HAL, HXZ, HBw⟩ := hrel
    obtain ⟨i0, hi0⟩ : ∃ i0, Tryd.prog.info? 5 = some i0 ∧ i0.size = 1 := by
      have h := infoB
      cases hq : Tryd.prog.info? 5 with
      | none => rw [hq] at h; cases h
      | some i => rw [hq] at h; refine ⟨i, rfl, ?_⟩; simp at h; exact h.2.1
    have hcut := cut_from (P := Tryd.prog) 27 5 .i64 Tryd.underlying27 hi0.1 1 hi0.2 A6 all.length c6 (a : Int) (by omega) (by omega)
    rw [Int.toNat_natCast] at hcut
    have hCL := Kd.C_drop (Kd.R_reads' HAL.out).2.2 ha hc6
    obtain ⟨left, hleft⟩ : ∃ left, left = all.drop a := ⟨_, rfl⟩
    have hll : left.length = all.length - a := by rw [hleft, List.length_drop]
    rw [← hleft] at hCL
    obtain ⟨AL, hAL⟩ : ∃ AL, AL = (if c6 = a then A6 else A6.map (·.add (a * 1))) := ⟨_, rfl⟩
    obtain ⟨nL, hnL⟩ : ∃ nL, nL = all.length - a := ⟨_, rfl⟩
    obtain ⟨cL, hcL⟩ : ∃ cL, cL = c6 - a := ⟨_, rfl⟩
    replace hCL : (Kd.int .u8).C wr AL nL left := by rw [hAL, hnL, ← hll]; exact hCL
    have HCW : Aside0 (∀ W, (Kd.int .u8).C W A6 all.length all → (Kd.int .u8).C W AL nL left) := ⟨fun W h => by
      have h2 := Kd.C_drop h ha hc6
      rw [← hleft] at h2
      rw [hAL, hnL, ← hll]
      exact h2⟩
    rw [← hAL, ← hnL, ← hcL] at hcut
    have HCL := Aside0.mk hCL
    have HLE := Aside0.mk hleft
    have hcap : nL ≤ cL := by omega
    have hnl : left.length = nL := by omega
    have HNL := Aside0.mk hnL
    have c0 : wr.cell? ⟨w.heap.size, 1, none⟩ = some (.int .i64 F) := by rw [blk_cell HXZ.out.1]; rfl
    have HADL : Aside0 (∀ a', AL = some a' → w.heap.size ≤ a'.block) := ⟨fun a' ha' => by
      rw [hAL] at ha'
      have hb0 : ∀ x, A6 = some x → w.heap.size ≤ x.block := fun x hx => Kd.R_base HAL.out x.block (by rw [hx]; rfl)
      by_cases hca : c6 = a
      · rw [if_pos hca] at ha'; exact hb0 a' ha'
      · rw [if_neg hca] at ha'
        obtain ⟨x, hx, rfl⟩ := Option.map_eq_some_iff.1 ha'
        rw [add_block]
        exact hb0 x hx⟩
    clear hAL hcL hCL hll hi0 hleft hnL
    have f0 : wr.frozen? ⟨w.heap.size + 1, 0, none⟩ = false := blk_frozen HXZ.out.2 0
    have f1 : wr.frozen? ⟨w.heap.size + 1, 1, none⟩ = false := blk_frozen HXZ.out.2 1
    have f2 : wr.frozen? ⟨w.heap.size + 1, 2, none⟩ = false := blk_frozen HXZ.out.2 2
    have d0 : wr.cell? ⟨w.heap.size + 1, 0, none⟩ = some (.slice none 0 0) := by rw [blk_cell HXZ.out.2]; rfl
    have d1 : wr.cell? ⟨w.heap.size + 1, 1, none⟩ = some (.int .i64 0) := by rw [blk_cell HXZ.out.2]; rfl
    have d2 : wr.cell? ⟨w.heap.size + 1, 2, none⟩ = some (.bool false) := by rw [blk_cell HXZ.out.2]; rfl
    have hwa : IntKind.i64.wrap (F + (a : Int)) = F + (a : Int) := by rw [i64_w]; unfold wrap64; omega
    have fin : Aside0 (∀ v1 : Int, (∃ W, W = ((wr.setCell ⟨w.heap.size + 1, 0, none⟩ (.slice AL nL cL)).setCell ⟨w.heap.size + 1, 1, none⟩ (.int .i64 v1)).setCell ⟨w.heap.size + 1, 2, none⟩ (.bool false) ∧ W.heap[w.heap.size + 1]? = some (.cells #[.slice AL nL cL, .int .i64 v1, .bool false] 29 (0, 0)) ∧ Below w.heap.size w W ∧ (Kd.int .u8).C W AL nL left ∧ (k63).R 63 W w.heap.size (fun _ => True) (.slice A8 n8 c8) fs)) := ⟨fun v1 => by
      have k1 := blk_set HXZ.out.2 0 (.slice AL nL cL)
      have k2 := blk_set k1 1 (.int .i64 v1)
      have k3 := blk_set k2 2 (.bool false)
      refine ⟨_, rfl, k3, ((HBw.out.setCell (Nat.le_succ _) _).setCell (Nat.le_succ _) _).setCell (Nat.le_succ _) _, ?_, Kd.R_set (Kd.R_set (Kd.R_set HO8.out HXZ.out.2 (by decide) _ _) k1 (by decide) _ _) k2 (by decide) _ _⟩
      have hR := Kd.R_set (Kd.R_set (Kd.R_set HAL.out HXZ.out.2 (by decide) 0 (.slice AL nL cL)) k1 (by decide) 1 (.int .i64 v1)) k2 (by decide) 2 (.bool false)
      exact HCW.out _ (Kd.R_reads' hR).2.2⟩
    by_cases h0 : left = []
    · have hz : nL = 0 := by rw [← hnl, h0]; rfl
      subst hz
      obtain ⟨W, hW, hW1, hW2, hW3, hW4⟩ := fin.out (F + (a : Int))
      have HQW : Aside0 (q = ⟨⟨left, F + a, false⟩, fs, 0, 0⟩) := ⟨by
        rw [← HP.out.2.2, ← HLE.out, refF_wait _ _ _ (by rw [h0]; exact Wt.nil)]; simp [RF.front]⟩
      have e0 : W.cell? ⟨w.heap.size + 1, 0, none⟩ = some (.slice AL 0 cL) := by rw [blk_cell hW1]; rfl
      have e1 : W.cell? ⟨w.heap.size + 1, 1, none⟩ = some (.int .i64 (F + (a : Int))) := by rw [blk_cell hW1]; rfl
      have e2 : W.cell? ⟨w.heap.size + 1, 2, none⟩ = some (.bool false) := by rw [blk_cell hW1]; rfl
      have HF := Aside0.mk (And.intro hW2 (And.intro hW3 hW4))
      have HWW := Aside0.mk hW
      clear hW hW1 hW2 hW3 hW4 fin
      go_wp2
      rw [← HWW.out]
      exact bodyPost_ret (v := .tuple #[.agg #[.slice AL 0 cL, .int .i64 (F + (a : Int)), .bool false], .slice A8 n8 c8, .int .i64 0, .int .i64 0]) (by simp [results, Tryd.results13, go_sem, e0, e1, e2]) rfl
        ⟨HF.out.1, AL, 0, cL, _, by rw [HQW.out], by rw [HQW.out]; exact HF.out.2.1, hcap, HADL.out, by rw [HQW.out]; exact HF.out.2.2⟩
    · have hlp : 0 < nL := by
        cases left with
        | nil => exact absurd rfl h0
        | cons x l => rw [← hnl]; simp
      obtain ⟨ad, hAL, hcell⟩ := Kd.at_int HCL.out 0 (by omega) (by omega)
      subst hAL
      obtain ⟨b0, hb0⟩ : ∃ b0, b0 = left.getD 0 0 := ⟨_, rfl⟩
      have h0c : wr.cell? ad = some (.int .u8 b0) := by
        have e1 : ad.add (0 : Int).toNat = ad := by cases ad; simp [Addr.add]
        rw [e1] at hcell
        rw [hcell, hb0]; rfl
      have HB0 := Aside0.mk hb0
      clear hcell hb0
      obtain ⟨WO, hW⟩ : ∃ WO, WO = ((wr.setCell ⟨w.heap.size + 1, 0, none⟩ (.slice none 0 0)).setCell ⟨w.heap.size + 1, 1, none⟩ (.int .i64 0)).setCell ⟨w.heap.size + 1, 2, none⟩ (.bool true) := ⟨_, rfl⟩
      have hz3 : WO.heap[w.heap.size + 1]? = some (.cells #[.slice none 0 0, .int .i64 0, .bool true] 29 (0, 0)) := by
        rw [hW]
        exact blk_set (blk_set (blk_set HXZ.out.2 0 (.slice none 0 0)) 1 (.int .i64 0)) 2 (.bool true)
      have hx3 : WO.heap[w.heap.size]? = some (.cells #[.slice A n c, .int .i64 F, .bool false] 29 (0, 0)) := by
        rw [hW, Below.heap_setCell _ _ _ _ (by simp), Below.heap_setCell _ _ _ _ (by simp), Below.heap_setCell _ _ _ _ (by simp)]
        exact HXZ.out.1
      have cW : WO.cell? ⟨w.heap.size, 1, none⟩ = some (.int .i64 F) := by rw [blk_cell hx3]; rfl
      have g0 : WO.cell? ⟨w.heap.size + 1, 0, none⟩ = some (.slice none 0 0) := by rw [blk_cell hz3]; rfl
      have g1 : WO.cell? ⟨w.heap.size + 1, 1, none⟩ = some (.int .i64 0) := by rw [blk_cell hz3]; rfl
      have g2 : WO.cell? ⟨w.heap.size + 1, 2, none⟩ = some (.bool true) := by rw [blk_cell hz3]; rfl
      have hWB : Below w.heap.size w WO := by
        rw [hW]; exact ((HBw.out.setCell (Nat.le_succ _) _).setCell (Nat.le_succ _) _).setCell (Nat.le_succ _) _
      have hWR : (k63).R 63 WO w.heap.size (fun _ => True) (.slice A8 n8 c8) fs := by
        rw [hW]
        exact Kd.R_set (Kd.R_set (Kd.R_set HO8.out HXZ.out.2 (by decide) _ _) (blk_set HXZ.out.2 0 _) (by decide) _ _) (blk_set (blk_set HXZ.out.2 0 _) 1 _) (by decide) _ _
      have HFB := Aside0.mk (And.intro hWB hWR)
      have HWW := Aside0.mk hW
      rw [hW] at cW
      clear hz3 hx3 hWB hWR hW
      by_cases hbad : b0 < 1 ∨ 2 < b0
      · have HQB : Aside0 (q = ⟨⟨[], 0, true⟩, fs, 2, F + a⟩) := ⟨by
          obtain ⟨kq, rfl⟩ : ∃ k', kq = k' + 1 := ⟨kq - 1, by have := HP.out.1; omega⟩
          rw [← HP.out.2.2, ← HLE.out, refF, if_pos (show rBad left from ⟨h0, by rw [← HB0.out]; exact hbad⟩)]; simp [RF.front]⟩
        have hlb : decide ((0 : Int) < (nL : Int)) = true := decide_eq_true (by omega)
        have hlp' : (0 : Int) < (nL : Int) := by omega
        have hbh : b0 < 1 ∨ (¬ b0 < 1 ∧ 2 < b0) := by omega
        rcases hbh with hx | ⟨hx, hy⟩
        · have hxb : decide (b0 < 1) = true := decide_eq_true hx
          clear hbad fin
          go_upto_region 8 with (fail)
          go_region_held3 (fun W => W.cell? ⟨w.heap.size, 1, none⟩ = some (.int .i64 F)) (first | exact c0 | exact cW) (first | fail)
          go_wp2
          rw [← HWW.out]
          exact bodyPost_ret (v := .tuple #[.agg #[.slice none 0 0, .int .i64 0, .bool true], .slice A8 n8 c8, .int .i64 2, .int .i64 (F + (a : Int))]) (by simp [results, Tryd.results13, go_sem, (show WO.drew.cell? ⟨w.heap.size + 1, 0, none⟩ = some (.slice none 0 0) from g0), (show WO.drew.cell? ⟨w.heap.size + 1, 1, none⟩ = some (.int .i64 0) from g1), (show WO.drew.cell? ⟨w.heap.size + 1, 2, none⟩ = some (.bool true) from g2)]) rfl
            ⟨below_drew HFB.out.1, none, 0, 0, _, by rw [HQB.out], by rw [HQB.out]; exact Kd.C_nil _ _, Nat.le_refl _, nofun, by rw [HQB.out]; exact Kd.R_drew HFB.out.2⟩
        · have hxb : decide (b0 < 1) = false := decide_eq_false hx
          have hyb : decide (2 < b0) = true := decide_eq_true hy
          clear hbad fin
          go_upto_region 8 with (fail)
          go_region_held3 (fun W => W.cell? ⟨w.heap.size, 1, none⟩ = some (.int .i64 F)) (first | exact c0 | exact cW) (first | fail)
          go_wp2
          rw [← HWW.out]
          exact bodyPost_ret (v := .tuple #[.agg #[.slice none 0 0, .int .i64 0, .bool true], .slice A8 n8 c8, .int .i64 2, .int .i64 (F + (a : Int))]) (by simp [results, Tryd.results13, go_sem, (show WO.drew.cell? ⟨w.heap.size + 1, 0, none⟩ = some (.slice none 0 0) from g0), (show WO.drew.cell? ⟨w.heap.size + 1, 1, none⟩ = some (.int .i64 0) from g1), (show WO.drew.cell? ⟨w.heap.size + 1, 2, none⟩ = some (.bool true) from g2)]) rfl
            ⟨below_drew HFB.out.1, none, 0, 0, _, by rw [HQB.out], by rw [HQB.out]; exact Kd.C_nil _ _, Nat.le_refl _, nofun, by rw [HQB.out]; exact Kd.R_drew HFB.out.2⟩
      · have hx : ¬ b0 < 1 := fun h => hbad (Or.inl h)
        have hy : ¬ 2 < b0 := fun h => hbad (Or.inr h)
        have hxb : decide (b0 < 1) = false := decide_eq_false hx
        have hyb : decide (2 < b0) = false := decide_eq_false hy
        have hb12 : left.getD 0 0 = 1 ∨ left.getD 0 0 = 2 := by rw [← HB0.out]; omega
        clear hbad
        by_cases h5 : nL < 5
        · have hWt : Wt left := ⟨fun _ => hb12, fun h => absurd h (by omega)⟩
          have h5b : decide ((nL : Int) < 5) = true := decide_eq_true (by omega)
          clear hb12 hx hy
          obtain ⟨W, hW, hW1, hW2, hW3, hW4⟩ := fin.out (F + (a : Int))
          have HQW : Aside0 (q = ⟨⟨left, F + a, false⟩, fs, 0, 0⟩) := ⟨by
            rw [← HP.out.2.2, ← HLE.out, refF_wait _ _ _ hWt]; simp [RF.front]⟩
          have e0 : W.cell? ⟨w.heap.size + 1, 0, none⟩ = some (.slice (some ad) nL cL) := by rw [blk_cell hW1]; rfl
          have e1 : W.cell? ⟨w.heap.size + 1, 1, none⟩ = some (.int .i64 (F + (a : Int))) := by rw [blk_cell hW1]; rfl
          have e2 : W.cell? ⟨w.heap.size + 1, 2, none⟩ = some (.bool false) := by rw [blk_cell hW1]; rfl
          have HF := Aside0.mk (And.intro hW2 (And.intro hW3 hW4))
          have HWV := Aside0.mk hW
          clear hW hW1 hW2 hW3 hW4 fin cW hWt
          go_wp2
          rw [← HWV.out]
          exact bodyPost_ret (v := .tuple #[.agg #[.slice (some ad) nL cL, .int .i64 (F + (a : Int)), .bool false], .slice A8 n8 c8, .int .i64 0, .int .i64 0]) (by simp [results, Tryd.results13, go_sem, e0, e1, e2]) rfl
            ⟨HF.out.1, some ad, nL, cL, _, by rw [HQW.out], by rw [HQW.out]; exact HF.out.2.1, hcap, HADL.out, by rw [HQW.out]; exact HF.out.2.2⟩
        · have h5b : decide ((nL : Int) < 5) = false := decide_eq_false (by omega)
          have p1 : (1 : Int) < (nL : Int) := by omega
          have p2 : (2 : Int) < (nL : Int) := by omega
          have p3 : (3 : Int) < (nL : Int) := by omega
          have p4 : (4 : Int) < (nL : Int) := by omega
          have HBL : Aside0 (Bytes left) := ⟨fun x hx => HBY.out x (by rw [HLE.out] at hx; exact List.mem_of_mem_drop hx)⟩
          obtain ⟨ad1, hA1, hcell1⟩ := Kd.at_int HCL.out 1 (by omega) (by omega)
          injection hA1 with hA1
          subst hA1
          obtain ⟨b1, hb1⟩ : ∃ b1, b1 = left.getD 1 0 := ⟨_, rfl⟩
          have q1 : wr.cell? ⟨ad.block, ad.off + 1, none⟩ = some (.int .u8 b1) := by
            have e1 : ad.add (1 : Int).toNat = ⟨ad.block, ad.off + 1, none⟩ := by unfold Addr.add; rfl
            rw [e1] at hcell1
            rw [hcell1, hb1]; rfl
          have hr1 : 0 ≤ b1 ∧ b1 ≤ 255 := by rw [hb1]; exact HBL.out.getD 1
          have hw1 : IntKind.i64.wrap b1 = b1 := by rw [i64_w]; unfold wrap64; omega
          obtain ⟨ad2, hA2, hcell2⟩ := Kd.at_int HCL.out 2 (by omega) (by omega)
          injection hA2 with hA2
          subst hA2
          obtain ⟨b2, hb2⟩ : ∃ b2, b2 = left.getD 2 0 := ⟨_, rfl⟩
          have q2 : wr.cell? ⟨ad.block, ad.off + 2, none⟩ = some (.int .u8 b2) := by
            have e1 : ad.add (2 : Int).toNat = ⟨ad.block, ad.off + 2, none⟩ := by unfold Addr.add; rfl
            rw [e1] at hcell2
            rw [hcell2, hb2]; rfl
          have hr2 : 0 ≤ b2 ∧ b2 ≤ 255 := by rw [hb2]; exact HBL.out.getD 2
          have hw2 : IntKind.i64.wrap b2 = b2 := by rw [i64_w]; unfold wrap64; omega
          obtain ⟨ad3, hA3, hcell3⟩ := Kd.at_int HCL.out 3 (by omega) (by omega)
          injection hA3 with hA3
          subst hA3
          obtain ⟨b3, hb3⟩ : ∃ b3, b3 = left.getD 3 0 := ⟨_, rfl⟩
          have q3 : wr.cell? ⟨ad.block, ad.off + 3, none⟩ = some (.int .u8 b3) := by
            have e1 : ad.add (3 : Int).toNat = ⟨ad.block, ad.off + 3, none⟩ := by unfold Addr.add; rfl
            rw [e1] at hcell3
            rw [hcell3, hb3]; rfl
          have hr3 : 0 ≤ b3 ∧ b3 ≤ 255 := by rw [hb3]; exact HBL.out.getD 3
          have hw3 : IntKind.i64.wrap b3 = b3 := by rw [i64_w]; unfold wrap64; omega
          obtain ⟨ad4, hA4, hcell4⟩ := Kd.at_int HCL.out 4 (by omega) (by omega)
          injection hA4 with hA4
          subst hA4
          obtain ⟨b4, hb4⟩ : ∃ b4, b4 = left.getD 4 0 := ⟨_, rfl⟩
          have q4 : wr.cell? ⟨ad.block, ad.off + 4, none⟩ = some (.int .u8 b4) := by
            have e1 : ad.add (4 : Int).toNat = ⟨ad.block, ad.off + 4, none⟩ := by unfold Addr.add; rfl
            rw [e1] at hcell4
            rw [hcell4, hb4]; rfl
          have hr4 : 0 ≤ b4 ∧ b4 ≤ 255 := by rw [hb4]; exact HBL.out.getD 4
          have hw4 : IntKind.i64.wrap b4 = b4 := by rw [i64_w]; unfold wrap64; omega
          have HN : Aside0 (frNum left = ((b1 * 256 + b2) * 256 + b3) * 256 + b4) := ⟨by
            have e : frNum left = (((0 * 256 + left.getD 1 0) * 256 + left.getD 2 0) * 256 + left.getD 3 0) * 256 + left.getD 4 0 := rfl
            rw [e, ← hb1, ← hb2, ← hb3, ← hb4]; omega⟩
          have k1 : IntKind.i64.wrap (b1 * 256) = b1 * 256 := by rw [i64_w]; unfold wrap64; omega
          have k2 : IntKind.i64.wrap (b1 * 256 + b2) = b1 * 256 + b2 := by rw [i64_w]; unfold wrap64; omega
          have k3 : IntKind.i64.wrap ((b1 * 256 + b2) * 256) = (b1 * 256 + b2) * 256 := by rw [i64_w]; unfold wrap64; omega
          have k4 : IntKind.i64.wrap ((b1 * 256 + b2) * 256 + b3) = (b1 * 256 + b2) * 256 + b3 := by rw [i64_w]; unfold wrap64; omega
          have k5 : IntKind.i64.wrap (((b1 * 256 + b2) * 256 + b3) * 256) = ((b1 * 256 + b2) * 256 + b3) * 256 := by rw [i64_w]; unfold wrap64; omega
          have k6 : IntKind.i64.wrap (((b1 * 256 + b2) * 256 + b3) * 256 + b4) = ((b1 * 256 + b2) * 256 + b3) * 256 + b4 := by rw [i64_w]; unfold wrap64; omega
          have HRG : Aside0 (0 ≤ ((b1 * 256 + b2) * 256 + b3) * 256 + b4 ∧ ((b1 * 256 + b2) * 256 + b3) * 256 + b4 < 4294967296) := ⟨by omega⟩
          clear hcell1 hcell2 hcell3 hcell4 hb1 hb2 hb3 hb4 hx hy
          go_upto_region 11 with (fail)
          go_region_held3 (fun W => W.cell? ⟨ad.block, ad.off + 1, none⟩ = some (.int .u8 b1) ∧ W.cell? ⟨ad.block, ad.off + 2, none⟩ = some (.int .u8 b2) ∧ W.cell? ⟨ad.block, ad.off + 3, none⟩ = some (.int .u8 b3) ∧ W.cell? ⟨ad.block, ad.off + 4, none⟩ = some (.int .u8 b4)) (first | exact ⟨q1, q2, q3, q4⟩) (first | fail)
          obtain ⟨w8, hw8⟩ : ∃ w8, w8 = wr.drew := ⟨_, rfl⟩
          rw [← hw8]
          have HX8 : Aside0 (w8.heap[w.heap.size]? = some (.cells #[.slice A n c, .int .i64 F, .bool false] 29 (0, 0))) := ⟨by rw [hw8]; exact HXZ.out.1⟩
          have HZ8 : Aside0 (w8.heap[w.heap.size + 1]? = some (.cells #[.slice none 0 0, .int .i64 0, .bool false] 29 (0, 0))) := ⟨by rw [hw8]; exact HXZ.out.2⟩
          have HB8 : Aside0 (Below w.heap.size w w8) := ⟨by rw [hw8]; exact below_drew HBw.out⟩
          have HO9 : Aside0 ((k63).R 63 w8 w.heap.size (fun _ => True) (.slice A8 n8 c8) fs) := ⟨by rw [hw8]; exact Kd.R_drew HO8.out⟩
          have HA9 : Aside0 ((Kd.int .u8).R 5 w8 w.heap.size (fun _ => True) (.slice A6 all.length c6) all) := ⟨by rw [hw8]; exact Kd.R_drew HAL.out⟩
          have HC9 : Aside0 ((Kd.int .u8).C w8 (some ad) nL left) := ⟨by rw [hw8]; exact Kd.C_below HCL.out (below_drew (Below.refl _ _))⟩
          have h0d : w8.cell? ad = some (.int .u8 b0) := by rw [hw8]; exact h0c
          clear c0 d0 d1 d2 f0 f1 f2 q1 q2 q3 q4 h0c fin g0 g1 g2 HFB HWW cW HXZ HBw HO8 HAL HCL hw8
          have c0 : w8.cell? ⟨w.heap.size, 1, none⟩ = some (.int .i64 F) := by rw [blk_cell HX8.out]; rfl
          have d0 : w8.cell? ⟨w.heap.size + 1, 0, none⟩ = some (.slice none 0 0) := by rw [blk_cell HZ8.out]; rfl
          have d1 : w8.cell? ⟨w.heap.size + 1, 1, none⟩ = some (.int .i64 0) := by rw [blk_cell HZ8.out]; rfl
          have d2 : w8.cell? ⟨w.heap.size + 1, 2, none⟩ = some (.bool false) := by rw [blk_cell HZ8.out]; rfl
          have f0 : w8.frozen? ⟨w.heap.size + 1, 0, none⟩ = false := blk_frozen HZ8.out 0
          have f1 : w8.frozen? ⟨w.heap.size + 1, 1, none⟩ = false := blk_frozen HZ8.out 1
          have f2 : w8.frozen? ⟨w.heap.size + 1, 2, none⟩ = false := blk_frozen HZ8.out 2
          clear k1 k2 k3 k4 k5 k6 hw1 hw2 hw3 hw4
          generalize ((b1 * 256 + b2) * 256 + b3) * 256 + b4 = N at *
          have hnb : ¬ rBad left := fun h => by have := h.2; omega
          obtain ⟨kq, rfl⟩ : ∃ k', kq = k' + 1 := ⟨kq - 1, by have := HP.out.1; omega⟩
          by_cases hbig : 65535 < N
          · have HQB : Aside0 (q = ⟨⟨[], 0, true⟩, fs, 3, F + a + 4⟩) := ⟨by
              rw [← HP.out.2.2, ← HLE.out, refF, if_neg hnb, if_neg (by omega), if_pos (by rw [HN.out]; exact hbig)]; simp [RF.front]⟩
            have hbb : decide (65535 < N) = true := decide_eq_true hbig
            have hwb : IntKind.i64.wrap (F + (a : Int) + 4) = F + (a : Int) + 4 := by rw [i64_w]; unfold wrap64; omega
            obtain ⟨W, hW, ⟨g0, g1, g2⟩, cW, hWB, hWA, hWR⟩ := D_stored (.slice none 0 0) 0 true HX8.out HZ8.out HB8.out HO9.out HA9.out
            have HFB := Aside0.mk (And.intro hWB hWR)
            have HWW := Aside0.mk hW
            rw [hW] at cW
            clear hW hWB hWA hWR hbig
            go_upto_region 13 with (fail)
            go_region_held3 (fun W => W.cell? ⟨w.heap.size, 1, none⟩ = some (.int .i64 F)) (first | exact c0 | exact cW) (first | fail)
            go_wp2
            rw [← HWW.out]
            exact bodyPost_ret (v := .tuple #[.agg #[.slice none 0 0, .int .i64 0, .bool true], .slice A8 n8 c8, .int .i64 3, .int .i64 (F + (a : Int) + 4)]) (by simp [results, Tryd.results13, go_sem, (show W.drew.cell? ⟨w.heap.size + 1, 0, none⟩ = some (.slice none 0 0) from g0), (show W.drew.cell? ⟨w.heap.size + 1, 1, none⟩ = some (.int .i64 0) from g1), (show W.drew.cell? ⟨w.heap.size + 1, 2, none⟩ = some (.bool true) from g2)]) rfl
              ⟨below_drew HFB.out.1, none, 0, 0, _, by rw [HQB.out], by rw [HQB.out]; exact Kd.C_nil _ _, Nat.le_refl _, nofun, by rw [HQB.out]; exact Kd.R_drew HFB.out.2⟩
          · have hbb : decide (65535 < N) = false := decide_eq_false hbig
            have hwn : IntKind.i64.wrap (5 + N) = 5 + N := by rw [i64_w]; unfold wrap64; have := HRG.out; omega
            have hNr := HRG.out
            by_cases hsh : (nL : Int) < 5 + N
            · have hWt : Wt left := ⟨fun _ => hb12, fun _ => ⟨by rw [HN.out]; omega, by rw [HN.out, hnl]; exact hsh⟩⟩
              have HQW : Aside0 (q = ⟨⟨left, F + a, false⟩, fs, 0, 0⟩) := ⟨by
                rw [← HP.out.2.2, ← HLE.out, refF_wait _ _ _ hWt]; simp [RF.front]⟩
              have hshb : decide ((nL : Int) < 5 + N) = true := decide_eq_true hsh
              obtain ⟨W, hW, ⟨g0, g1, g2⟩, cW, hWB, hWA, hWR⟩ := D_stored (.slice (some ad) nL cL) (F + (a : Int)) false HX8.out HZ8.out HB8.out HO9.out HA9.out
              have HFB := Aside0.mk (And.intro hWB (And.intro (HCW.out W (Kd.R_reads' hWA).2.2) hWR))
              have HWW := Aside0.mk hW
              clear hW hWB hWA hWR cW hWt hbig hsh
              go_wp2
              rw [← HWW.out]
              exact bodyPost_ret (v := .tuple #[.agg #[.slice (some ad) nL cL, .int .i64 (F + (a : Int)), .bool false], .slice A8 n8 c8, .int .i64 0, .int .i64 0]) (by simp [results, Tryd.results13, go_sem, g0, g1, g2]) rfl
                ⟨HFB.out.1, some ad, nL, cL, _, by rw [HQW.out], by rw [HQW.out]; exact HFB.out.2.1, hcap, HADL.out, by rw [HQW.out]; exact HFB.out.2.2⟩
            · have hshb : decide ((nL : Int) < 5 + N) = false := decide_eq_false hsh
              obtain ⟨X, hslice, hXC⟩ := body_cut w8 (some ad) nL cL left N HC9.out hcap hNr.1 (by omega)
              have hconv : (convert 27 9 (.slice X N.toNat (cL - 5))).run Tryd.prog w8 = .ok (.string (strOfNums ((left.drop 5).take N.toNat))) w8 := Kd.C_string Tryd.underlying27 Tryd.underlying5 Tryd.underlying9 hXC
              have hlp' : (0 : Int) < (nL : Int) := by omega
              obtain ⟨body, hbody⟩ : ∃ body, body = strOfNums ((left.drop 5).take N.toNat) := ⟨_, rfl⟩
              rw [← hbody] at hconv
              have hcvd : (convert 27 9 (.slice X N.toNat (cL - 5))).run Tryd.prog w8.drew = .ok (.string body) w8.drew := by
                rw [hbody]; exact Kd.C_string Tryd.underlying27 Tryd.underlying5 Tryd.underlying9 (Kd.C_below hXC (below_drew (Below.refl _ _)))
              have hcva : ∀ o, (convert 27 9 (.slice X N.toNat (cL - 5))).run Tryd.prog (w8.drew.alloc o) = .ok (.string body) (w8.drew.alloc o) := fun o => by
                rw [hbody]; exact Kd.C_string Tryd.underlying27 Tryd.underlying5 Tryd.underlying9 (Kd.C_alloc (Kd.C_below hXC (below_drew (Below.refl _ _))) o)
              have hFM : (k63).M w8.drew w.heap.size (fun _ => False) ⟨b0, body⟩ [.int .u8 b0, .string body] := k63_mkM _ _ _ ⟨b0, body⟩
              have RO8d := Aside0.mk (Kd.R_drew HO9.out)
              have HB8d : Aside0 (Below w.heap.size w w8.drew) := ⟨below_drew HB8.out⟩
              have HS8d : w.heap.size ≤ w8.drew.heap.size := HB8.out.size
              have hfl := HP.out.2.1
              have HBO := Aside0.mk hbody
              clear hbody hXC c0 d0 d1 d2 f0 f1 f2 hconv
              go_upto_region 16 with (fail)
              refine start_ (n := 13) (S := fun w' => w'.cell? ad = some (.int .u8 b0) ∧ (convert 27 9 (.slice X N.toNat (cL - 5))).run Tryd.prog w' = .ok (.string body) w') (ds := [11]) #[false, false, false, false, false, false, false, false, false, false, false, false, false] (by kernel_rfl) rfl rfl ⟨h0d, hcvd⟩ (fun hHeld => ?_)
              refine pure_ (i := 0) (N := some 101) (v := ?_) (a' := ?_) #[true, false, false, false, false, false, false, false, false, false, false, false, false] rfl rfl (by kernel_rfl) (fun _ _ _ h => h) (Or.inl ⟨by rfl, ?_⟩) ?_ ?_
              rotate_left
              · intro w'
                go_simp
                with_reducible rfl
              rotate_left
              · simp only [Act.put, List.setIfInBounds_toArray, List.set_cons_zero, List.set_cons_succ, i64_w, i32_w]
                rfl
              refine pure_ (i := 1) (N := some 102) (v := ?_) (a' := ?_) #[true, true, false, false, false, false, false, false, false, false, false, false, false] rfl rfl (by kernel_rfl) (fun _ _ _ h => h) (Or.inl ⟨by rfl, ?_⟩) ?_ ?_
              rotate_left
              · intro w'
                go_simp
                with_reducible rfl
              rotate_left
              · simp only [Act.put, List.setIfInBounds_toArray, List.set_cons_zero, List.set_cons_succ, i64_w, i32_w]
                rfl
              refine pure_ (i := 2) (N := some 103) (v := ?_) (a' := ?_) #[true, true, true, false, false, false, false, false, false, false, false, false, false] rfl rfl (by kernel_rfl) (fun _ _ _ h => h) (Or.inl ⟨by rfl, ?_⟩) ?_ ?_
              rotate_left
              · intro w'
                go_simp
                with_reducible rfl
              rotate_left
              · simp only [Act.put, List.setIfInBounds_toArray, List.set_cons_zero, List.set_cons_succ, i64_w, i32_w]
                rfl
              refine pure_ (i := 4) (N := some 105) (v := ?_) (a' := ?_) #[true, true, true, false, true, false, false, false, false, false, false, false, false] rfl rfl (by kernel_rfl) (fun _ _ _ h => h) (Or.inl ⟨by rfl, ?_⟩) ?_ ?_
              rotate_left
              · intro w'
                go_simp
                with_reducible rfl
              rotate_left
              · simp only [Act.put, List.setIfInBounds_toArray, List.set_cons_zero, List.set_cons_succ, i64_w, i32_w]
                rfl
              refine pure_ (i := 5) (N := some 106) (v := ?_) (a' := ?_) #[true, true, true, false, true, true, false, false, false, false, false, false, false] rfl rfl (by kernel_rfl) (fun _ _ _ h => h) (Or.inl ⟨by rfl, ?_⟩) ?_ ?_
              rotate_left
              · intro w'
                go_simp
                with_reducible rfl
              rotate_left
              · simp only [Act.put, List.setIfInBounds_toArray, List.set_cons_zero, List.set_cons_succ, i64_w, i32_w]
                rfl
              refine pure_ (i := 6) (N := some 107) (v := ?_) (a' := ?_) #[true, true, true, false, true, true, true, false, false, false, false, false, false] rfl rfl (by kernel_rfl) (fun _ _ _ h => h) (Or.inl ⟨by rfl, ?_⟩) ?_ ?_
              rotate_left
              · intro w'
                go_simp
                with_reducible rfl
              rotate_left
              · simp only [Act.put, List.setIfInBounds_toArray, List.set_cons_zero, List.set_cons_succ, i64_w, i32_w]
                rfl
              refine pure_ (i := 7) (N := some 108) (v := ?_) (a' := ?_) #[true, true, true, false, true, true, true, true, false, false, false, false, false] rfl rfl (by kernel_rfl) (fun _ _ _ h => h) (Or.inl ⟨by rfl, ?_⟩) ?_ ?_
              rotate_left
              · intro w'
                go_simp
                with_reducible rfl
              rotate_left
              · simp only [Act.put, List.setIfInBounds_toArray, List.set_cons_zero, List.set_cons_succ, i64_w, i32_w]
                rfl
              refine take_ (i := 3) (N := some 104) (v := ?_) (a' := ?_) #[true, true, true, true, true, true, true, true, false, false, false, false, false] rfl rfl (by kernel_rfl) (fun _ _ _ h => h) (Or.inl ⟨by rfl, ?_⟩) hHeld ?_ ?_
              rotate_left
              · rintro w' ⟨s0, s1⟩
                go_simp
                with_reducible rfl
              rotate_left
              · simp only [Act.put, List.setIfInBounds_toArray, List.set_cons_zero, List.set_cons_succ, i64_w, i32_w]
                rfl
              refine take_ (i := 8) (N := some 109) (v := ?_) (a' := ?_) #[true, true, true, true, true, true, true, true, true, false, false, false, false] rfl rfl (by kernel_rfl) (fun _ _ _ h => h) (Or.inl ⟨by rfl, ?_⟩) hHeld ?_ ?_
              rotate_left
              · rintro w' ⟨s0, s1⟩
                go_simp
                with_reducible rfl
              rotate_left
              · simp only [Act.put, List.setIfInBounds_toArray, List.set_cons_zero, List.set_cons_succ, i64_w, i32_w]
                rfl
              refine pure_ (i := 9) (N := some 110) (v := ?_) (a' := ?_) #[true, true, true, true, true, true, true, true, true, true, false, false, false] rfl rfl (by kernel_rfl) (fun _ _ _ h => h) (Or.inl ⟨by rfl, ?_⟩) ?_ ?_
              rotate_left
              · intro w'
                go_simp
                with_reducible rfl
              rotate_left
              · simp only [Act.put, List.setIfInBounds_toArray, List.set_cons_zero, List.set_cons_succ, i64_w, i32_w]
                rfl
              refine one_ (i := 10) (N := some 111) #[true, true, true, true, true, true, true, true, true, true, true, false, false] rfl rfl (by kernel_rfl) (by decide) (fun K hK => ?_)
              refine value_ (w1 := ?_) (v := ?_) (by rfl) rfl ?_ ?_
              rotate_left 2
              · go_simp
                constructor
                · rfl
                · rfl
              refine hK.out _ _ ⟨(pw_cell_below (below_alloc (Below.refl _ _) _) h0d), (hcva _)⟩ (fun hHeld => ?_)
              clear hK K
              refine norm_ (a' := ?_) ?_ ?_
              rotate_left
              · show Act.put _ (some 111) _ = _
                simp only [Act.put, List.setIfInBounds_toArray, List.set_cons_zero, List.set_cons_succ, i64_w, i32_w]
                rfl
              refine last_ (i := 11) (N := some 112) #[true, true, true, true, true, true, true, true, true, true, true, true, false] rfl rfl (by kernel_rfl) (by decide) (fun K hK => ?_)
              refine Kd.R_append_step k63 (w0 := w) w.heap.size (by rfl) (.tmp 101) (.tmp 111) 30 63 (.agg #[.int .u8 0, .string ByteArray.empty]) 24 rfl Tryd.underlying30 infoF rfl (by decide) (by decide) (.slice A8 n8 c8) fs ⟨b0, body⟩ [.int .u8 b0, .string body] (fun _ => True) (fun _ => False) rfl rfl hFM (fun _ h => h.elim) (fun _ _ => trivial) RO8d.out HB8d.out HS8d (by omega) ?_
              intro v1 w9 ho hb hgr hat
              have hneX := Kd.R_ne RO8d.out (show w8.drew.heap[w.heap.size]? = _ from HX8.out) (by decide)
              have hneZ := Kd.R_ne RO8d.out (show w8.drew.heap[w.heap.size + 1]? = _ from HZ8.out) (by decide)
              have HX9 := Aside0.mk (blk_grown (show w8.drew.heap[w.heap.size]? = _ from HX8.out) hgr hneX)
              have HZ9 := Aside0.mk (blk_grown (show w8.drew.heap[w.heap.size + 1]? = _ from HZ8.out) hgr hneZ)
              have HAL9 := Aside0.mk (Kd.R_over (Kd.R_drew HA9.out) RO8d.out (by decide) hgr)
              obtain ⟨A9, n9, c9, rfl⟩ := sl_of_R ho
              have RO9 := Aside0.mk ho
              have HB9 := Aside0.mk hb
              clear ho hb hgr hat hneX hneZ
              refine hK.out _ _ ?_
              clear hK K
              refine norm_ (a' := ?_) ?_ ?_
              rotate_left
              · show Act.put _ (some 112) _ = _
                simp only [Act.put, List.setIfInBounds_toArray, List.set_cons_zero, List.set_cons_succ, i64_w, i32_w]
                rfl
              refine pure_ (i := 12) (N := some 8) (v := ?_) (a' := ?_) #[true, true, true, true, true, true, true, true, true, true, true, true, true] rfl rfl (by kernel_rfl) (fun _ _ _ h => h) (Or.inl ⟨by rfl, ?_⟩) ?_ ?_
              rotate_left
              · intro w'
                go_simp
                with_reducible rfl
              rotate_left
              · simp only [Act.put, List.setIfInBounds_toArray, List.set_cons_zero, List.set_cons_succ, i64_w, i32_w]
                rfl
              refine done_ (by kernel_rfl) ?_
              have hNN : ((N.toNat : Nat) : Int) = N := by omega
              have HQ2 : Aside0 (RF.front (fs ++ [⟨b0, body⟩]) (refF kq (F + ((a + 5 + N.toNat : Nat) : Int)) (all.drop (a + 5 + N.toNat))) = q) := ⟨by
                have hfr : rFrame left = (⟨b0, body⟩ : S63) := by unfold rFrame; rw [HN.out, ← HB0.out, ← HBO.out]
                have hd : left.drop (5 + (frNum left).toNat) = all.drop (a + 5 + N.toNat) := by rw [HN.out, HLE.out, List.drop_drop]; congr 1; omega
                have hF : F + (a : Int) + 5 + frNum left = F + ((a + 5 + N.toNat : Nat) : Int) := by rw [HN.out]; push_cast; omega
                have h := HP.out.2.2
                rw [← HLE.out, refF, if_neg hnb, if_neg (by omega), if_neg (by rw [HN.out]; exact hbig), if_neg (by rw [HN.out, hnl]; exact hsh), hfr, hd, hF, RF.front_front] at h
                exact h⟩
              have hla := HNL.out
              have hwa1 : IntKind.i64.wrap ((a : Int) + 5) = (a : Int) + 5 := by rw [i64_w]; unfold wrap64; omega
              have hwa2 : IntKind.i64.wrap ((a : Int) + 5 + N) = (a : Int) + 5 + N := by rw [i64_w]; unfold wrap64; omega
              have HFL : Aside0 ((fs ++ [(⟨b0, body⟩ : S63)]).length ≤ a + 5 + N.toNat ∧ all.length - (a + 5 + N.toNat) < kq ∧ a + 5 + N.toNat ≤ all.length) := ⟨by
                have := HP.out
                refine ⟨by rw [List.length_append, List.length_singleton]; omega, by omega, by omega⟩⟩
              clear hsh hbig hb12 hla
              go_wp2
              go_roundw
              case rel => exact ⟨a + 5 + N.toNat, kq, A9, n9, c9, fs ++ [⟨b0, body⟩], by push_cast; rw [hNN]; first | rfl | (congr 1; omega), rfl, HFL.out.2.2, ⟨HFL.out.2.1, HFL.out.1, HQ2.out⟩, RO9, HAL9, ⟨HX9.out, HZ9.out⟩, HB9⟩
              case measure => have := HFL.out.2.2; simp [intOf]; omega
end Go.Proofs.YtmcjfnebkpifnaaDoor
