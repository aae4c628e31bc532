/-
  Joined texts: PsWhole2, PsWhole3.
-/
import Derived.Test.YtkobpbbegalfpaaGreatDoorPsWhole
/-
 The reader reads a whole body, of which a cell is read.
-/
namespace Go.Proofs.YtkobpbbegalfpaaGreatDoor
open Go.RowKit Go.Proofs.YtkobpbbegalfpaaGreatDoorW.PrintWords Go.Proofs.YtkobpbbegalfpaaGreatDoorW.PrintLast Go.Proofs.YtkobpbbegalfpaaGreatDoorW.PrintMore Go.Proofs.YtkobpbbegalfpaaGreatDoor.PParseBodies
set_option linter.unusedVariables false
set_option linter.unusedSimpArgs false
set_option maxRecDepth 100000

abbrev cellV (x : SC) (v : Value) : Array Value := #[.int .u8 x.f0, .int .i64 x.f1.f0, .int .i64 x.f1.f1, .int .i64 x.f1.f2, .int .i64 x.f1.f3, .int .i64 x.f2, v]
abbrev PutC (W : World) (n : Nat) (x : SC) (v : Value) : World := (((((((W.setCell ⟨n, 0, none⟩ (.int .u8 x.f0)).setCell ⟨n, 1, none⟩ (.int .i64 x.f1.f0)).setCell ⟨n, 2, none⟩ (.int .i64 x.f1.f1)).setCell ⟨n, 3, none⟩ (.int .i64 x.f1.f2)).setCell ⟨n, 4, none⟩ (.int .i64 x.f1.f3)).setCell ⟨n, 5, none⟩ (.int .i64 x.f2)).setCell ⟨n, 6, none⟩ (v))
theorem put_c {W : World} {n : Nat} (x : SC) (v : Value) (h : W.heap[n]? = some (.cells zeroA 27 (0, 0))) : (PutC W n x v).heap[n]? = some (.cells (cellV x v) 27 (0, 0)) := (blk_set (blk_set (blk_set (blk_set (blk_set (blk_set (blk_set h 0 (.int .u8 x.f0)) 1 (.int .i64 x.f1.f0)) 2 (.int .i64 x.f1.f1)) 3 (.int .i64 x.f1.f2)) 4 (.int .i64 x.f1.f3)) 5 (.int .i64 x.f2)) 6 (v))
theorem put_far {W : World} {n g : Nat} {t : TypeId} {cs : Array Value} (x : SC) (v : Value) (h : W.heap[g]? = some (.cells cs t (0, 0))) (h1 : g ≠ n) : (PutC W n x v).heap[g]? = some (.cells cs t (0, 0)) := (blk_far (blk_far (blk_far (blk_far (blk_far (blk_far (blk_far h (p := ⟨n, 0, none⟩) h1 (.int .u8 x.f0)) (p := ⟨n, 1, none⟩) h1 (.int .i64 x.f1.f0)) (p := ⟨n, 2, none⟩) h1 (.int .i64 x.f1.f1)) (p := ⟨n, 3, none⟩) h1 (.int .i64 x.f1.f2)) (p := ⟨n, 4, none⟩) h1 (.int .i64 x.f1.f3)) (p := ⟨n, 5, none⟩) h1 (.int .i64 x.f2)) (p := ⟨n, 6, none⟩) h1 (v))
/-- .. what stands behind a cell that is read. -/
structure WGd (w W : World) (b : Nat) (s : ByteArray) (off : Int) (j : Nat) (x : SC) (v : Value) : Prop where
 st : Step w b (j : Int) W
 rd : RdA W b s j off
 res : W.heap[w.heap.size]? = some (.cells (cellV x v) 27 (0, 0))
 err : W.heap[w.heap.size + 1]? = some (.cells #[.nilIface] 29 (0, 0))
 kids : Kd.R k27 27 W (w.heap.size + 2) (fun _ => True) v x.f3
theorem WGd.put {w W : World} {b : Nat} {s : ByteArray} {off i0 : Int} {j : Nat} {x : SC} {v : Value} (k : RdA w b s i0 off) (h1 : Step w b (j : Int) W) (h2 : RdA W b s j off) (h3 : W.heap[w.heap.size]? = some (.cells zeroA 27 (0, 0))) (h4 : W.heap[w.heap.size + 1]? = some (.cells #[.nilIface] 29 (0, 0)))
  (h5 : Kd.R k27 27 W (w.heap.size + 2) (fun _ => True) v x.f3) : WGd w (PutC W w.heap.size x v) b s off j x v :=
 ⟨step7 h1 _ _ _ _ _ _ _, put_far x v h2 (Nat.ne_of_lt k.lt), put_c x v h3, put_far x v h4 (by omega), R_set7 h5 (by omega) _ _ _ _ _ _ _⟩
theorem WGd.below {w W W' : World} {b : Nat} {s : ByteArray} {off : Int} {j : Nat} {x : SC} {v : Value} (p : WGd w W b s off j x v) (h : Below W.heap.size W W') : WGd w W' b s off j x v :=
 ⟨Below.trans p.st (h.mono p.st.size), p.rd.below h, (h.block _ (blk_lt p.res)).trans p.res, (h.block _ (blk_lt p.err)).trans p.err, Kd.R_below p.kids h⟩
set_option maxHeartbeats 8000000 in
theorem whole_rest (hd : ByteArray → Int × Int × Int) (I : World → Prop) (w : World) (b : Nat) (s : ByteArray) (m : Nat) (off : Int) (hs : s.size ≤ 100000) (ho : 0 ≤ off ∧ off ≤ 1000) (hb : HeadB hd) (hc : HeadC hd b I) (hI : I w) (k : RdA w b s ((0 : Nat) : Int) off)
  (p : SC × Nat) (hr : cellP hd s m 0 1 = some (.ok p)) (hp : p.2 < s.size) :
  Calls Tryz.prog 27 #[.pointer (some ⟨b, 0, none⟩)] w (BadPost w b 2 (off + p.2)) := by
 have hmf : ∀ (fn : Fn) (first cap : Array Value) (w : World), (Instr.makeFunc fn first cap).run Tryz.prog w = .ok (.func fn first cap) w := fun _ _ _ _ => rfl
 obtain ⟨W0, hW0⟩ : ∃ W0, W0 = (w.alloc (.cells zeroA 27)).alloc (.cells #[.nilIface] 29) := ⟨_, rfl⟩
 have HP0 : Aside0 (WSt w W0 b s off 0 zeroA) := ⟨by rw [hW0]; exact WSt.new k⟩
 have HK := Aside0.mk k
 have HI0 : Aside0 (I W0) := ⟨hc.step hI HP0.out.st⟩
 have HW := Aside0.mk hW0
 have HN : Aside0 (Calls Tryz.prog 47 #[.pointer (some ⟨b, 0, none⟩), .int .i64 1] W0 (CellPost W0 b off (.ok p))) := ⟨cell_calls hd I W0 b s 0 1 m off hs ho (Nat.zero_le _) (by decide) hb hc HI0.out HP0.out.rd _ hr⟩
 clear hW0 k hI hr
 go_enter_defers Tryz.func27, Tryz.ntmps27
 go_wp2_with fail
 rw [← HW.out]
 with_reducible refine HN.out.mono ?_
 rintro e w1 ⟨v, rfl, hR, hst⟩
 obtain ⟨h1, h2, h3⟩ := HP0.out.step HK.out hst
 have HRD := Aside0.mk (hst.rd HP0.out.rd)
 have HS := Aside0.mk h1
 have H2 := Aside0.mk h2
 have H3 := Aside0.mk h3
 obtain ⟨A, cp, rfl⟩ := Kd.R_slice hR
 obtain ⟨c0, c1, c2⟩ := HRD.out.cells
 have y0 : w1.cell? ⟨w.heap.size, 0, none⟩ = some (.int .u8 0) := by simp [World.cell?, h2]
 have f0 := blk_frozen h2 0
 have y1 : w1.cell? ⟨w.heap.size, 1, none⟩ = some (.int .i64 0) := by simp [World.cell?, h2]
 have f1 := blk_frozen h2 1
 have y2 : w1.cell? ⟨w.heap.size, 2, none⟩ = some (.int .i64 0) := by simp [World.cell?, h2]
 have f2 := blk_frozen h2 2
 have y3 : w1.cell? ⟨w.heap.size, 3, none⟩ = some (.int .i64 0) := by simp [World.cell?, h2]
 have f3 := blk_frozen h2 3
 have y4 : w1.cell? ⟨w.heap.size, 4, none⟩ = some (.int .i64 0) := by simp [World.cell?, h2]
 have f4 := blk_frozen h2 4
 have y5 : w1.cell? ⟨w.heap.size, 5, none⟩ = some (.int .i64 0) := by simp [World.cell?, h2]
 have f5 := blk_frozen h2 5
 have y6 : w1.cell? ⟨w.heap.size, 6, none⟩ = some (.slice none 0 0) := by simp [World.cell?, h2]
 have f6 := blk_frozen h2 6
 clear hst h1 h2 h3
 have hsz0 : W0.heap.size = w.heap.size + 2 := by rw [HW.out]; simp
 rw [hsz0] at hR
 have HD1 := Aside0.mk (WGd.put (x := p.1) (v := .slice A p.1.f3.length cp) HK.out HS.out HRD.out H2.out H3.out hR)
 have HPI : Aside0 ((p.2 : Int) < (s.size : Int)) := ⟨by omega⟩
 clear hR
 go_upto_region 3 with fail
 obtain ⟨W1, hW1⟩ : ∃ W1, W1 = (((((((w1.setCell ⟨w.heap.size, 0, none⟩ (.int .u8 p.1.f0)).setCell ⟨w.heap.size, 1, none⟩ (.int .i64 p.1.f1.f0)).setCell ⟨w.heap.size, 2, none⟩ (.int .i64 p.1.f1.f1)).setCell ⟨w.heap.size, 3, none⟩ (.int .i64 p.1.f1.f2)).setCell ⟨w.heap.size, 4, none⟩ (.int .i64 p.1.f1.f3)).setCell ⟨w.heap.size, 5, none⟩ (.int .i64 p.1.f2)).setCell ⟨w.heap.size, 6, none⟩ (.slice A p.1.f3.length cp)) := ⟨_, rfl⟩
 have HD1 : Aside0 (WGd w W1 b s off p.2 p.1 (.slice A p.1.f3.length cp)) := ⟨by rw [hW1]; exact HD1.out⟩
 rw [← hW1]
 clear hW1
 obtain ⟨c0, c1, c2⟩ := HD1.out.rd.cells
 have hpi := HPI.out
 clear y0 y1 y2 y3 y4 y5 y6 f0 f1 f2 f3 f4 f5 f6
 go_quiet (fail)
 go_wp2_with fail
 have HD2 := Aside0.mk (HD1.out.below (pw_below_drewN (Below.refl _ _) nq))
 have hsz2 : w.heap.size + 2 ≤ (W1.drewN nq).heap.size := blk_lt HD2.out.err
 have hw : IntKind.i64.wrap (off + (p.2 : Int)) = off + (p.2 : Int) := by rw [i64_w]; unfold wrap64; omega
 with_reducible refine (fail_calls (W1.drewN nq) b s p.2 off 2 p.2 (by decide) hw HD2.out.rd).mono ?_
 rintro e w2 ⟨⟨g, rfl, hg, hg2⟩, hb2⟩
 have HD9 := Aside0.mk (HD2.out.below hb2)
 have HG : Aside0 (w.heap.size + 2 ≤ g ∧ w2.heap[g]? = some (.cells #[.int .i64 2, .int .i64 (off + (p.2 : Int))] 84 (0, 0))) := ⟨Nat.le_trans hsz2 hg, hg2⟩
 clear hw hg hg2 hb2
 refine leaves_cons (f := 46) (args := #[.pointer (some ⟨w.heap.size, 0, none⟩), .pointer (some ⟨w.heap.size + 1, 0, none⟩)]) (by simp) (by simp [go_sem]) ?_
 refine (catch_panicking w.heap.size (w.heap.size + 1) g w2 _ _ (by rfl) HD9.out.res HD9.out.err (by omega)).mono ?_
 rintro e u' w'' ⟨rfl, rfl, w3, g', hb3, hin, rfl⟩
 have HCC := Aside0.mk (caught_c (g' := g') (eb := w.heap.size + 1) ((hb3.block _ (blk_lt HD9.out.res)).trans HD9.out.res) (by omega) rfl)
 have HEE := Aside0.mk (caught_e (g' := g') (cb := w.heap.size) ((hb3.block _ (blk_lt HD9.out.err)).trans HD9.out.err) (by omega))
 have HSZ := HD9.out.st.size
 have hlt : w.heap.size + 1 < w2.heap.size := blk_lt HD9.out.err
 have HII := Aside0.mk (caught_in (g' := g') (cb := w.heap.size) (eb := w.heap.size + 1) hin (by omega) hlt)
 have HFF := Aside0.mk (caught_far (g' := g') (cb := w.heap.size) (eb := w.heap.size + 1) ((hb3.block _ (blk_lt HG.out.2)).trans HG.out.2) (by have := HG.out.1; omega) (by have := HG.out.1; omega))
 have HTT : Aside0 (Step w b _ (CaughtW w3 w.heap.size (w.heap.size + 1) g')) := ⟨caught_st (Below.trans HD9.out.st (hb3.mono HD9.out.st.size)) (Nat.le_refl _) (Nat.le_succ _)⟩
 generalize CaughtW w3 w.heap.size (w.heap.size + 1) g' = WF at *
 have hc1 := HCC.out
 have he1 := HEE.out
 have z0 : WF.cell? ⟨w.heap.size + 1, 0, none⟩ = some (.iface 78 (.pointer (some ⟨g', 0, none⟩))) := by simp [World.cell?, he1]
 have y0 : WF.cell? ⟨w.heap.size, 0, none⟩ = some (.int .u8 0) := by simp [World.cell?, hc1]
 have y1 : WF.cell? ⟨w.heap.size, 1, none⟩ = some (.int .i64 0) := by simp [World.cell?, hc1]
 have y2 : WF.cell? ⟨w.heap.size, 2, none⟩ = some (.int .i64 0) := by simp [World.cell?, hc1]
 have y3 : WF.cell? ⟨w.heap.size, 3, none⟩ = some (.int .i64 0) := by simp [World.cell?, hc1]
 have y4 : WF.cell? ⟨w.heap.size, 4, none⟩ = some (.int .i64 0) := by simp [World.cell?, hc1]
 have y5 : WF.cell? ⟨w.heap.size, 5, none⟩ = some (.int .i64 0) := by simp [World.cell?, hc1]
 have y6 : WF.cell? ⟨w.heap.size, 6, none⟩ = some (.slice none 0 0) := by simp [World.cell?, hc1]
 clear hc1 he1 hin hb3
 have key : BadPost w b 2 (off + (p.2 : Int)) (.returned (.tuple #[.agg zeroA, .iface 78 (.pointer (some ⟨g', 0, none⟩))])) WF :=
  ⟨g', g, rfl, ⟨Nat.le_trans HSZ HII.out.1, by obtain ⟨_, v, q1, q2⟩ := HII.out; exact ⟨v, q1, Kd.R_lower q2 HSZ⟩⟩, HFF.out, _, HTT.out⟩
 have HKEY := Aside0.mk key
 clear key
 simp [Leaves, settle, results, Tryz.results27, go_sem, y0, y1, y2, y3, y4, y5, y6, z0]
 exact HKEY.out
end Go.Proofs.YtkobpbbegalfpaaGreatDoor

/-
 The reader reads a whole body, whose cell may not be.
-/
namespace Go.Proofs.YtkobpbbegalfpaaGreatDoor
open Go.RowKit Go.Proofs.YtkobpbbegalfpaaGreatDoorW.PrintWords Go.Proofs.YtkobpbbegalfpaaGreatDoorW.PrintLast Go.Proofs.YtkobpbbegalfpaaGreatDoorW.PrintMore Go.Proofs.YtkobpbbegalfpaaGreatDoor.PParseBodies
set_option linter.unusedVariables false
set_option linter.unusedSimpArgs false
set_option maxRecDepth 100000

set_option maxHeartbeats 8000000 in
theorem whole_may (hd : ByteArray → Int × Int × Int) (I : World → Prop) (w : World) (b : Nat) (s : ByteArray) (m : Nat) (off : Int) (hs : s.size ≤ 100000) (ho : 0 ≤ off ∧ off ≤ 1000) (hb : HeadB hd) (hc : HeadC hd b I) (hI : I w) (k : RdA w b s ((0 : Nat) : Int) off)
  (p : SC × Nat) (hr : cellP hd s m 0 1 = some (.ok p)) (hp : p.2 = s.size) (HMAY : ∀ W A, Kd.C k27 W (some A) 1 [p.1] → Calls Tryz.prog 49 #[.slice (some A) 1 1] W fun e w' => e = .returned (.bool false) ∧ Below W.heap.size W w') :
  Calls Tryz.prog 27 #[.pointer (some ⟨b, 0, none⟩)] w (BadPost w b 1 0) := by
 have hmf : ∀ (fn : Fn) (first cap : Array Value) (w : World), (Instr.makeFunc fn first cap).run Tryz.prog w = .ok (.func fn first cap) w := fun _ _ _ _ => rfl
 obtain ⟨W0, hW0⟩ : ∃ W0, W0 = (w.alloc (.cells zeroA 27)).alloc (.cells #[.nilIface] 29) := ⟨_, rfl⟩
 have HP0 : Aside0 (WSt w W0 b s off 0 zeroA) := ⟨by rw [hW0]; exact WSt.new k⟩
 have HK := Aside0.mk k
 have HMM := Aside0.mk HMAY
 have HI0 : Aside0 (I W0) := ⟨hc.step hI HP0.out.st⟩
 have HW := Aside0.mk hW0
 have HN : Aside0 (Calls Tryz.prog 47 #[.pointer (some ⟨b, 0, none⟩), .int .i64 1] W0 (CellPost W0 b off (.ok p))) := ⟨cell_calls hd I W0 b s 0 1 m off hs ho (Nat.zero_le _) (by decide) hb hc HI0.out HP0.out.rd _ hr⟩
 clear hW0 k hI hr HMAY
 go_enter_defers Tryz.func27, Tryz.ntmps27
 go_wp2_with fail
 rw [← HW.out]
 with_reducible refine HN.out.mono ?_
 rintro e w1 ⟨v, rfl, hR, hst⟩
 obtain ⟨h1, h2, h3⟩ := HP0.out.step HK.out hst
 have HRD := Aside0.mk (hst.rd HP0.out.rd)
 have HS := Aside0.mk h1
 have H2 := Aside0.mk h2
 have H3 := Aside0.mk h3
 obtain ⟨A, cp, rfl⟩ := Kd.R_slice hR
 obtain ⟨c0, c1, c2⟩ := HRD.out.cells
 have y0 : w1.cell? ⟨w.heap.size, 0, none⟩ = some (.int .u8 0) := by simp [World.cell?, h2]
 have f0 := blk_frozen h2 0
 have y1 : w1.cell? ⟨w.heap.size, 1, none⟩ = some (.int .i64 0) := by simp [World.cell?, h2]
 have f1 := blk_frozen h2 1
 have y2 : w1.cell? ⟨w.heap.size, 2, none⟩ = some (.int .i64 0) := by simp [World.cell?, h2]
 have f2 := blk_frozen h2 2
 have y3 : w1.cell? ⟨w.heap.size, 3, none⟩ = some (.int .i64 0) := by simp [World.cell?, h2]
 have f3 := blk_frozen h2 3
 have y4 : w1.cell? ⟨w.heap.size, 4, none⟩ = some (.int .i64 0) := by simp [World.cell?, h2]
 have f4 := blk_frozen h2 4
 have y5 : w1.cell? ⟨w.heap.size, 5, none⟩ = some (.int .i64 0) := by simp [World.cell?, h2]
 have f5 := blk_frozen h2 5
 have y6 : w1.cell? ⟨w.heap.size, 6, none⟩ = some (.slice none 0 0) := by simp [World.cell?, h2]
 have f6 := blk_frozen h2 6
 clear hst h1 h2 h3
 have hsz0 : W0.heap.size = w.heap.size + 2 := by rw [HW.out]; simp
 rw [hsz0] at hR
 have HD1 := Aside0.mk (WGd.put (x := p.1) (v := .slice A p.1.f3.length cp) HK.out HS.out HRD.out H2.out H3.out hR)
 have HPI : Aside0 (((p.2 : Int) < (s.size : Int)) = False ∧ decide ((p.2 : Int) < (s.size : Int)) = false) := ⟨eq_false (by omega), decide_eq_false (by omega)⟩
 clear hR
 go_upto_region 3 with fail
 obtain ⟨W1, hW1⟩ : ∃ W1, W1 = (((((((w1.setCell ⟨w.heap.size, 0, none⟩ (.int .u8 p.1.f0)).setCell ⟨w.heap.size, 1, none⟩ (.int .i64 p.1.f1.f0)).setCell ⟨w.heap.size, 2, none⟩ (.int .i64 p.1.f1.f1)).setCell ⟨w.heap.size, 3, none⟩ (.int .i64 p.1.f1.f2)).setCell ⟨w.heap.size, 4, none⟩ (.int .i64 p.1.f1.f3)).setCell ⟨w.heap.size, 5, none⟩ (.int .i64 p.1.f2)).setCell ⟨w.heap.size, 6, none⟩ (.slice A p.1.f3.length cp)) := ⟨_, rfl⟩
 have HD1 : Aside0 (WGd w W1 b s off p.2 p.1 (.slice A p.1.f3.length cp)) := ⟨by rw [hW1]; exact HD1.out⟩
 rw [← hW1]
 clear hW1
 obtain ⟨c0, c1, c2⟩ := HD1.out.rd.cells
 obtain ⟨hpi, hpi2⟩ := HPI.out
 clear y0 y1 y2 y3 y4 y5 y6 f0 f1 f2 f3 f4 f5 f6
 go_quiet (fail)
 go_upto_region 5 with fail
 have HD2 := Aside0.mk (HD1.out.below (pw_below_drewN (Below.refl _ _) nq))
 generalize W1.drewN nq = W2 at *
 have hcc := HD2.out.res
 have y0 : W2.cell? ⟨w.heap.size, 0, none⟩ = some (.int .u8 p.1.f0) := by simp [World.cell?, hcc]
 have y1 : W2.cell? ⟨w.heap.size, 1, none⟩ = some (.int .i64 p.1.f1.f0) := by simp [World.cell?, hcc]
 have y2 : W2.cell? ⟨w.heap.size, 2, none⟩ = some (.int .i64 p.1.f1.f1) := by simp [World.cell?, hcc]
 have y3 : W2.cell? ⟨w.heap.size, 3, none⟩ = some (.int .i64 p.1.f1.f2) := by simp [World.cell?, hcc]
 have y4 : W2.cell? ⟨w.heap.size, 4, none⟩ = some (.int .i64 p.1.f1.f3) := by simp [World.cell?, hcc]
 have y5 : W2.cell? ⟨w.heap.size, 5, none⟩ = some (.int .i64 p.1.f2) := by simp [World.cell?, hcc]
 have y6 : W2.cell? ⟨w.heap.size, 6, none⟩ = some (.slice A p.1.f3.length cp) := by simp [World.cell?, hcc]
 clear hcc
 obtain ⟨W3, hW3⟩ : ∃ W3, W3 = W2.alloc (.cells #[.int .u8 p.1.f0, .int .i64 p.1.f1.f0, .int .i64 p.1.f1.f1, .int .i64 p.1.f1.f2, .int .i64 p.1.f1.f3, .int .i64 p.1.f2, .slice A p.1.f3.length cp] 27) := ⟨_, rfl⟩
 have HD3 : Aside0 (WGd w W3 b s off p.2 p.1 (.slice A p.1.f3.length cp)) := ⟨by rw [hW3]; exact HD2.out.below (below_alloc (Below.refl _ _) _)⟩
 have HMC : Aside0 (Calls Tryz.prog 49 #[.slice (some ⟨W2.heap.size, 0, none⟩) 1 1] W3 fun e w' => e = .returned (.bool false) ∧ Below W3.heap.size W3 w') := ⟨HMM.out W3 _ (by rw [hW3]; exact (Kd.R_reads' (R_one (Nat.zero_le _) p.1 (Kd.R_lower HD2.out.kids (Nat.zero_le _)))).2.2)⟩
 have HW3 := Aside0.mk hW3
 clear hW3
 go_wp2_with fail
 rw [← HW3.out]
 with_reducible refine HMC.out.mono ?_
 rintro e w4 ⟨rfl, hb4⟩
 have HD4 := Aside0.mk (HD3.out.below hb4)
 clear hb4
 go_wp2_with fail
 with_reducible refine (new_calls 1 0 w4 (by decide)).mono ?_
 rintro e w5 ⟨rfl, rfl⟩
 obtain ⟨W5, hW5⟩ : ∃ W5, W5 = w4.alloc (.cells #[.int .i64 1, .int .i64 0] 84) := ⟨_, rfl⟩
 have HD9 : Aside0 (WGd w W5 b s off p.2 p.1 (.slice A p.1.f3.length cp)) := ⟨by rw [hW5]; exact HD4.out.below (below_alloc (Below.refl _ _) _)⟩
 obtain ⟨g, hgg⟩ : ∃ g, g = w4.heap.size := ⟨_, rfl⟩
 have HG : Aside0 (w.heap.size + 2 ≤ g ∧ W5.heap[g]? = some (.cells #[.int .i64 1, .int .i64 0] 84 (0, 0))) := ⟨by rw [hgg]; exact blk_lt HD4.out.err, by rw [hW5, hgg]; exact heap_alloc_new w4 _⟩
 go_wp2
 rw [← hW5, ← hgg]
 clear hW5 hgg
 refine leaves_cons (f := 46) (args := #[.pointer (some ⟨w.heap.size, 0, none⟩), .pointer (some ⟨w.heap.size + 1, 0, none⟩)]) (by simp) (by simp [go_sem]) ?_
 refine (catch_panicking w.heap.size (w.heap.size + 1) g W5 _ _ (by rfl) HD9.out.res HD9.out.err (by omega)).mono ?_
 rintro e u' w'' ⟨rfl, rfl, w3, g', hb3, hin, rfl⟩
 have HCC := Aside0.mk (caught_c (g' := g') (eb := w.heap.size + 1) ((hb3.block _ (blk_lt HD9.out.res)).trans HD9.out.res) (by omega) rfl)
 have HEE := Aside0.mk (caught_e (g' := g') (cb := w.heap.size) ((hb3.block _ (blk_lt HD9.out.err)).trans HD9.out.err) (by omega))
 have HSZ := HD9.out.st.size
 have hlt : w.heap.size + 1 < W5.heap.size := blk_lt HD9.out.err
 have HII := Aside0.mk (caught_in (g' := g') (cb := w.heap.size) (eb := w.heap.size + 1) hin (by omega) hlt)
 have HFF := Aside0.mk (caught_far (g' := g') (cb := w.heap.size) (eb := w.heap.size + 1) ((hb3.block _ (blk_lt HG.out.2)).trans HG.out.2) (by have := HG.out.1; omega) (by have := HG.out.1; omega))
 have HTT : Aside0 (Step w b _ (CaughtW w3 w.heap.size (w.heap.size + 1) g')) := ⟨caught_st (Below.trans HD9.out.st (hb3.mono HD9.out.st.size)) (Nat.le_refl _) (Nat.le_succ _)⟩
 generalize CaughtW w3 w.heap.size (w.heap.size + 1) g' = WF at *
 have hc1 := HCC.out
 have he1 := HEE.out
 have z0 : WF.cell? ⟨w.heap.size + 1, 0, none⟩ = some (.iface 78 (.pointer (some ⟨g', 0, none⟩))) := by simp [World.cell?, he1]
 have y0 : WF.cell? ⟨w.heap.size, 0, none⟩ = some (.int .u8 0) := by simp [World.cell?, hc1]
 have y1 : WF.cell? ⟨w.heap.size, 1, none⟩ = some (.int .i64 0) := by simp [World.cell?, hc1]
 have y2 : WF.cell? ⟨w.heap.size, 2, none⟩ = some (.int .i64 0) := by simp [World.cell?, hc1]
 have y3 : WF.cell? ⟨w.heap.size, 3, none⟩ = some (.int .i64 0) := by simp [World.cell?, hc1]
 have y4 : WF.cell? ⟨w.heap.size, 4, none⟩ = some (.int .i64 0) := by simp [World.cell?, hc1]
 have y5 : WF.cell? ⟨w.heap.size, 5, none⟩ = some (.int .i64 0) := by simp [World.cell?, hc1]
 have y6 : WF.cell? ⟨w.heap.size, 6, none⟩ = some (.slice none 0 0) := by simp [World.cell?, hc1]
 clear hc1 he1 hin hb3
 have key : BadPost w b 1 0 (.returned (.tuple #[.agg zeroA, .iface 78 (.pointer (some ⟨g', 0, none⟩))])) WF :=
  ⟨g', g, rfl, ⟨Nat.le_trans HSZ HII.out.1, by obtain ⟨_, v, q1, q2⟩ := HII.out; exact ⟨v, q1, Kd.R_lower q2 HSZ⟩⟩, HFF.out, _, HTT.out⟩
 have HKEY := Aside0.mk key
 clear key
 simp [Leaves, settle, results, Tryz.results27, go_sem, y0, y1, y2, y3, y4, y5, y6, z0]
 exact HKEY.out
end Go.Proofs.YtkobpbbegalfpaaGreatDoor
