/-
  Joined texts: PsWhole3, PsWhole4, PsWhole5.
-/
import Derived.Test.YtkobpbbegalfpaaGreatDoorPsWhole2
/-
 The reader reads a whole body, whose cell may not be.
-/
namespace Go.Proofs.YtkobpbbegalfpaaGreatDoor
open Go.RowKit Go.Proofs.YtkobpbbegalfpaaGreatDoorW.PrintWords Go.Proofs.YtkobpbbegalfpaaGreatDoorW.PrintLast Go.Proofs.YtkobpbbegalfpaaGreatDoorW.PrintMore Go.Proofs.YtkobpbbegalfpaaGreatDoor.PParseBodies
set_option linter.unusedVariables false
set_option linter.unusedSimpArgs false
set_option maxRecDepth 100000

set_option maxHeartbeats 8000000 in
theorem whole_may (hd : ByteArray → Int × Int × Int) (I : World → Prop) (w : World) (b : Nat) (s : ByteArray) (m : Nat) (off : Int) (hs : s.size ≤ 100000) (ho : 0 ≤ off ∧ off ≤ 1000) (hb : HeadB hd) (hc : HeadC hd b I) (hI : I w) (k : RdA w b s ((0 : Nat) : Int) off)
  (p : SC × Nat) (hr : cellP hd s m 0 1 = some (.ok p)) (hp : p.2 = s.size) (HMAY : ∀ W A, Kd.C k27 W (some A) 1 [p.1] → Calls Tryz.prog 49 #[.slice (some A) 1 1] W fun e w' => e = .returned (.bool false) ∧ Below W.heap.size W w') :
  Calls Tryz.prog 27 #[.pointer (some ⟨b, 0, none⟩)] w (BadPost w b 1 0) := by
 have hmf : ∀ (fn : Fn) (first cap : Array Value) (w : World), (Instr.makeFunc fn first cap).run Tryz.prog w = .ok (.func fn first cap) w := fun _ _ _ _ => rfl
 obtain ⟨W0, hW0⟩ : ∃ W0, W0 = (w.alloc (.cells zeroA 27)).alloc (.cells #[.nilIface] 29) := ⟨_, rfl⟩
 have HP0 : Aside0 (WSt w W0 b s off 0 zeroA) := ⟨by rw [hW0]; exact WSt.new k⟩
 have HK := Aside0.mk k
 have HMM := Aside0.mk HMAY
 have HI0 : Aside0 (I W0) := ⟨hc.step hI HP0.out.st⟩
 have HW := Aside0.mk hW0
 have HN : Aside0 (Calls Tryz.prog 47 #[.pointer (some ⟨b, 0, none⟩), .int .i64 1] W0 (CellPost W0 b off (.ok p))) := ⟨cell_calls hd I W0 b s 0 1 m off hs ho (Nat.zero_le _) (by decide) hb hc HI0.out HP0.out.rd _ hr⟩
 clear hW0 k hI hr HMAY
 go_enter_defers Tryz.func27, Tryz.ntmps27
 go_wp2_with fail
 rw [← HW.out]
 with_reducible refine HN.out.mono ?_
 rintro e w1 ⟨v, rfl, hR, hst⟩
 obtain ⟨h1, h2, h3⟩ := HP0.out.step HK.out hst
 have HRD := Aside0.mk (hst.rd HP0.out.rd)
 have HS := Aside0.mk h1
 have H2 := Aside0.mk h2
 have H3 := Aside0.mk h3
 obtain ⟨A, cp, rfl⟩ := Kd.R_slice hR
 obtain ⟨c0, c1, c2⟩ := HRD.out.cells
 have y0 : w1.cell? ⟨w.heap.size, 0, none⟩ = some (.int .u8 0) := by simp [World.cell?, h2]
 have f0 := blk_frozen h2 0
 have y1 : w1.cell? ⟨w.heap.size, 1, none⟩ = some (.int .i64 0) := by simp [World.cell?, h2]
 have f1 := blk_frozen h2 1
 have y2 : w1.cell? ⟨w.heap.size, 2, none⟩ = some (.int .i64 0) := by simp [World.cell?, h2]
 have f2 := blk_frozen h2 2
 have y3 : w1.cell? ⟨w.heap.size, 3, none⟩ = some (.int .i64 0) := by simp [World.cell?, h2]
 have f3 := blk_frozen h2 3
 have y4 : w1.cell? ⟨w.heap.size, 4, none⟩ = some (.int .i64 0) := by simp [World.cell?, h2]
 have f4 := blk_frozen h2 4
 have y5 : w1.cell? ⟨w.heap.size, 5, none⟩ = some (.int .i64 0) := by simp [World.cell?, h2]
 have f5 := blk_frozen h2 5
 have y6 : w1.cell? ⟨w.heap.size, 6, none⟩ = some (.slice none 0 0) := by simp [World.cell?, h2]
 have f6 := blk_frozen h2 6
 clear hst h1 h2 h3
 have hsz0 : W0.heap.size = w.heap.size + 2 := by rw [HW.out]; simp
 rw [hsz0] at hR
 have HD1 := Aside0.mk (WGd.put (x := p.1) (v := .slice A p.1.f3.length cp) HK.out HS.out HRD.out H2.out H3.out hR)
 have HPI : Aside0 (((p.2 : Int) < (s.size : Int)) = False ∧ decide ((p.2 : Int) < (s.size : Int)) = false) := ⟨eq_false (by omega), decide_eq_false (by omega)⟩
 clear hR
 go_upto_region 3 with fail
 obtain ⟨W1, hW1⟩ : ∃ W1, W1 = (((((((w1.setCell ⟨w.heap.size, 0, none⟩ (.int .u8 p.1.f0)).setCell ⟨w.heap.size, 1, none⟩ (.int .i64 p.1.f1.f0)).setCell ⟨w.heap.size, 2, none⟩ (.int .i64 p.1.f1.f1)).setCell ⟨w.heap.size, 3, none⟩ (.int .i64 p.1.f1.f2)).setCell ⟨w.heap.size, 4, none⟩ (.int .i64 p.1.f1.f3)).setCell ⟨w.heap.size, 5, none⟩ (.int .i64 p.1.f2)).setCell ⟨w.heap.size, 6, none⟩ (.slice A p.1.f3.length cp)) := ⟨_, rfl⟩
 have HD1 : Aside0 (WGd w W1 b s off p.2 p.1 (.slice A p.1.f3.length cp)) := ⟨by rw [hW1]; exact HD1.out⟩
 rw [← hW1]
 clear hW1
 obtain ⟨c0, c1, c2⟩ := HD1.out.rd.cells
 obtain ⟨hpi, hpi2⟩ := HPI.out
 clear y0 y1 y2 y3 y4 y5 y6 f0 f1 f2 f3 f4 f5 f6
 go_quiet (fail)
 go_upto_region 5 with fail
 have HD2 := Aside0.mk (HD1.out.below (pw_below_drewN (Below.refl _ _) nq))
 generalize W1.drewN nq = W2 at *
 have hcc := HD2.out.res
 have y0 : W2.cell? ⟨w.heap.size, 0, none⟩ = some (.int .u8 p.1.f0) := by simp [World.cell?, hcc]
 have y1 : W2.cell? ⟨w.heap.size, 1, none⟩ = some (.int .i64 p.1.f1.f0) := by simp [World.cell?, hcc]
 have y2 : W2.cell? ⟨w.heap.size, 2, none⟩ = some (.int .i64 p.1.f1.f1) := by simp [World.cell?, hcc]
 have y3 : W2.cell? ⟨w.heap.size, 3, none⟩ = some (.int .i64 p.1.f1.f2) := by simp [World.cell?, hcc]
 have y4 : W2.cell? ⟨w.heap.size, 4, none⟩ = some (.int .i64 p.1.f1.f3) := by simp [World.cell?, hcc]
 have y5 : W2.cell? ⟨w.heap.size, 5, none⟩ = some (.int .i64 p.1.f2) := by simp [World.cell?, hcc]
 have y6 : W2.cell? ⟨w.heap.size, 6, none⟩ = some (.slice A p.1.f3.length cp) := by simp [World.cell?, hcc]
 clear hcc
 obtain ⟨W3, hW3⟩ : ∃ W3, W3 = W2.alloc (.cells #[.int .u8 p.1.f0, .int .i64 p.1.f1.f0, .int .i64 p.1.f1.f1, .int .i64 p.1.f1.f2, .int .i64 p.1.f1.f3, .int .i64 p.1.f2, .slice A p.1.f3.length cp] 27) := ⟨_, rfl⟩
 have HD3 : Aside0 (WGd w W3 b s off p.2 p.1 (.slice A p.1.f3.length cp)) := ⟨by rw [hW3]; exact HD2.out.below (below_alloc (Below.refl _ _) _)⟩
 have HMC : Aside0 (Calls Tryz.prog 49 #[.slice (some ⟨W2.heap.size, 0, none⟩) 1 1] W3 fun e w' => e = .returned (.bool false) ∧ Below W3.heap.size W3 w') := ⟨HMM.out W3 _ (by rw [hW3]; exact (Kd.R_reads' (R_one (Nat.zero_le _) p.1 (Kd.R_lower HD2.out.kids (Nat.zero_le _)))).2.2)⟩
 have HW3 := Aside0.mk hW3
 clear hW3
 go_wp2_with fail
 rw [← HW3.out]
 with_reducible refine HMC.out.mono ?_
 rintro e w4 ⟨rfl, hb4⟩
 have HD4 := Aside0.mk (HD3.out.below hb4)
 clear hb4
 go_wp2_with fail
 with_reducible refine (new_calls 1 0 w4 (by decide)).mono ?_
 rintro e w5 ⟨rfl, rfl⟩
 obtain ⟨W5, hW5⟩ : ∃ W5, W5 = w4.alloc (.cells #[.int .i64 1, .int .i64 0] 84) := ⟨_, rfl⟩
 have HD9 : Aside0 (WGd w W5 b s off p.2 p.1 (.slice A p.1.f3.length cp)) := ⟨by rw [hW5]; exact HD4.out.below (below_alloc (Below.refl _ _) _)⟩
 obtain ⟨g, hgg⟩ : ∃ g, g = w4.heap.size := ⟨_, rfl⟩
 have HG : Aside0 (w.heap.size + 2 ≤ g ∧ W5.heap[g]? = some (.cells #[.int .i64 1, .int .i64 0] 84 (0, 0))) := ⟨by rw [hgg]; exact blk_lt HD4.out.err, by rw [hW5, hgg]; exact heap_alloc_new w4 _⟩
 go_wp2
 rw [← hW5, ← hgg]
 clear hW5 hgg
 refine leaves_cons (f := 46) (args := #[.pointer (some ⟨w.heap.size, 0, none⟩), .pointer (some ⟨w.heap.size + 1, 0, none⟩)]) (by simp) (by simp [go_sem]) ?_
 refine (catch_panicking w.heap.size (w.heap.size + 1) g W5 _ _ (by rfl) HD9.out.res HD9.out.err (by omega)).mono ?_
 rintro e u' w'' ⟨rfl, rfl, w3, g', hb3, hin, rfl⟩
 have HCC := Aside0.mk (caught_c (g' := g') (eb := w.heap.size + 1) ((hb3.block _ (blk_lt HD9.out.res)).trans HD9.out.res) (by omega) rfl)
 have HEE := Aside0.mk (caught_e (g' := g') (cb := w.heap.size) ((hb3.block _ (blk_lt HD9.out.err)).trans HD9.out.err) (by omega))
 have HSZ := HD9.out.st.size
 have hlt : w.heap.size + 1 < W5.heap.size := blk_lt HD9.out.err
 have HII := Aside0.mk (caught_in (g' := g') (cb := w.heap.size) (eb := w.heap.size + 1) hin (by omega) hlt)
 have HFF := Aside0.mk (caught_far (g' := g') (cb := w.heap.size) (eb := w.heap.size + 1) ((hb3.block _ (blk_lt HG.out.2)).trans HG.out.2) (by have := HG.out.1; omega) (by have := HG.out.1; omega))
 have HTT : Aside0 (Step w b _ (CaughtW w3 w.heap.size (w.heap.size + 1) g')) := ⟨caught_st (Below.trans HD9.out.st (hb3.mono HD9.out.st.size)) (Nat.le_refl _) (Nat.le_succ _)⟩
 generalize CaughtW w3 w.heap.size (w.heap.size + 1) g' = WF at *
 have hc1 := HCC.out
 have he1 := HEE.out
 have z0 : WF.cell? ⟨w.heap.size + 1, 0, none⟩ = some (.iface 78 (.pointer (some ⟨g', 0, none⟩))) := by simp [World.cell?, he1]
 have y0 : WF.cell? ⟨w.heap.size, 0, none⟩ = some (.int .u8 0) := by simp [World.cell?, hc1]
 have y1 : WF.cell? ⟨w.heap.size, 1, none⟩ = some (.int .i64 0) := by simp [World.cell?, hc1]
 have y2 : WF.cell? ⟨w.heap.size, 2, none⟩ = some (.int .i64 0) := by simp [World.cell?, hc1]
 have y3 : WF.cell? ⟨w.heap.size, 3, none⟩ = some (.int .i64 0) := by simp [World.cell?, hc1]
 have y4 : WF.cell? ⟨w.heap.size, 4, none⟩ = some (.int .i64 0) := by simp [World.cell?, hc1]
 have y5 : WF.cell? ⟨w.heap.size, 5, none⟩ = some (.int .i64 0) := by simp [World.cell?, hc1]
 have y6 : WF.cell? ⟨w.heap.size, 6, none⟩ = some (.slice none 0 0) := by simp [World.cell?, hc1]
 clear hc1 he1 hin hb3
 have key : BadPost w b 1 0 (.returned (.tuple #[.agg zeroA, .iface 78 (.pointer (some ⟨g', 0, none⟩))])) WF :=
  ⟨g', g, rfl, ⟨Nat.le_trans HSZ HII.out.1, by obtain ⟨_, v, q1, q2⟩ := HII.out; exact ⟨v, q1, Kd.R_lower q2 HSZ⟩⟩, HFF.out, _, HTT.out⟩
 have HKEY := Aside0.mk key
 clear key
 simp [Leaves, settle, results, Tryz.results27, go_sem, y0, y1, y2, y3, y4, y5, y6, z0]
 exact HKEY.out
end Go.Proofs.YtkobpbbegalfpaaGreatDoor

/-
 The reader reads a whole body, whose cell may be.
-/
namespace Go.Proofs.YtkobpbbegalfpaaGreatDoor
open Go.RowKit Go.Proofs.YtkobpbbegalfpaaGreatDoorW.PrintWords Go.Proofs.YtkobpbbegalfpaaGreatDoorW.PrintLast Go.Proofs.YtkobpbbegalfpaaGreatDoorW.PrintMore Go.Proofs.YtkobpbbegalfpaaGreatDoor.PParseBodies
set_option linter.unusedVariables false
set_option linter.unusedSimpArgs false
set_option maxRecDepth 100000

set_option maxHeartbeats 8000000 in
theorem whole_tiles (hd : ByteArray → Int × Int × Int) (I : World → Prop) (w : World) (b : Nat) (s : ByteArray) (m : Nat) (off : Int) (hs : s.size ≤ 100000) (ho : 0 ≤ off ∧ off ≤ 1000) (hb : HeadB hd) (hc : HeadC hd b I) (hI : I w) (k : RdA w b s ((0 : Nat) : Int) off)
  (p : SC × Nat) (hr : cellP hd s m 0 1 = some (.ok p)) (hp : p.2 = s.size) (HMAY : ∀ W A, Kd.C k27 W (some A) 1 [p.1] → Calls Tryz.prog 49 #[.slice (some A) 1 1] W fun e w' => e = .returned (.bool true) ∧ Below W.heap.size W w') (HTIL : ∀ W A, Kd.C k27 W (some A) 1 [p.1] → Calls Tryz.prog 50 #[.slice (some A) 1 1] W fun e w' => e = .returned (.bool false) ∧ Below W.heap.size W w') :
  Calls Tryz.prog 27 #[.pointer (some ⟨b, 0, none⟩)] w (BadPost w b 5 0) := by
 have hmf : ∀ (fn : Fn) (first cap : Array Value) (w : World), (Instr.makeFunc fn first cap).run Tryz.prog w = .ok (.func fn first cap) w := fun _ _ _ _ => rfl
 obtain ⟨W0, hW0⟩ : ∃ W0, W0 = (w.alloc (.cells zeroA 27)).alloc (.cells #[.nilIface] 29) := ⟨_, rfl⟩
 have HP0 : Aside0 (WSt w W0 b s off 0 zeroA) := ⟨by rw [hW0]; exact WSt.new k⟩
 have HK := Aside0.mk k
 have HMM := Aside0.mk HMAY
 have HTL := Aside0.mk HTIL
 have HI0 : Aside0 (I W0) := ⟨hc.step hI HP0.out.st⟩
 have HW := Aside0.mk hW0
 have HN : Aside0 (Calls Tryz.prog 47 #[.pointer (some ⟨b, 0, none⟩), .int .i64 1] W0 (CellPost W0 b off (.ok p))) := ⟨cell_calls hd I W0 b s 0 1 m off hs ho (Nat.zero_le _) (by decide) hb hc HI0.out HP0.out.rd _ hr⟩
 clear hW0 k hI hr HMAY HTIL
 go_enter_defers Tryz.func27, Tryz.ntmps27
 go_wp2_with fail
 rw [← HW.out]
 with_reducible refine HN.out.mono ?_
 rintro e w1 ⟨v, rfl, hR, hst⟩
 obtain ⟨h1, h2, h3⟩ := HP0.out.step HK.out hst
 have HRD := Aside0.mk (hst.rd HP0.out.rd)
 have HS := Aside0.mk h1
 have H2 := Aside0.mk h2
 have H3 := Aside0.mk h3
 obtain ⟨A, cp, rfl⟩ := Kd.R_slice hR
 obtain ⟨c0, c1, c2⟩ := HRD.out.cells
 have y0 : w1.cell? ⟨w.heap.size, 0, none⟩ = some (.int .u8 0) := by simp [World.cell?, h2]
 have f0 := blk_frozen h2 0
 have y1 : w1.cell? ⟨w.heap.size, 1, none⟩ = some (.int .i64 0) := by simp [World.cell?, h2]
 have f1 := blk_frozen h2 1
 have y2 : w1.cell? ⟨w.heap.size, 2, none⟩ = some (.int .i64 0) := by simp [World.cell?, h2]
 have f2 := blk_frozen h2 2
 have y3 : w1.cell? ⟨w.heap.size, 3, none⟩ = some (.int .i64 0) := by simp [World.cell?, h2]
 have f3 := blk_frozen h2 3
 have y4 : w1.cell? ⟨w.heap.size, 4, none⟩ = some (.int .i64 0) := by simp [World.cell?, h2]
 have f4 := blk_frozen h2 4
 have y5 : w1.cell? ⟨w.heap.size, 5, none⟩ = some (.int .i64 0) := by simp [World.cell?, h2]
 have f5 := blk_frozen h2 5
 have y6 : w1.cell? ⟨w.heap.size, 6, none⟩ = some (.slice none 0 0) := by simp [World.cell?, h2]
 have f6 := blk_frozen h2 6
 clear hst h1 h2 h3
 have hsz0 : W0.heap.size = w.heap.size + 2 := by rw [HW.out]; simp
 rw [hsz0] at hR
 have HD1 := Aside0.mk (WGd.put (x := p.1) (v := .slice A p.1.f3.length cp) HK.out HS.out HRD.out H2.out H3.out hR)
 have HPI : Aside0 (((p.2 : Int) < (s.size : Int)) = False ∧ decide ((p.2 : Int) < (s.size : Int)) = false) := ⟨eq_false (by omega), decide_eq_false (by omega)⟩
 clear hR
 go_upto_region 3 with fail
 obtain ⟨W1, hW1⟩ : ∃ W1, W1 = (((((((w1.setCell ⟨w.heap.size, 0, none⟩ (.int .u8 p.1.f0)).setCell ⟨w.heap.size, 1, none⟩ (.int .i64 p.1.f1.f0)).setCell ⟨w.heap.size, 2, none⟩ (.int .i64 p.1.f1.f1)).setCell ⟨w.heap.size, 3, none⟩ (.int .i64 p.1.f1.f2)).setCell ⟨w.heap.size, 4, none⟩ (.int .i64 p.1.f1.f3)).setCell ⟨w.heap.size, 5, none⟩ (.int .i64 p.1.f2)).setCell ⟨w.heap.size, 6, none⟩ (.slice A p.1.f3.length cp)) := ⟨_, rfl⟩
 have HD1 : Aside0 (WGd w W1 b s off p.2 p.1 (.slice A p.1.f3.length cp)) := ⟨by rw [hW1]; exact HD1.out⟩
 rw [← hW1]
 clear hW1
 obtain ⟨c0, c1, c2⟩ := HD1.out.rd.cells
 obtain ⟨hpi, hpi2⟩ := HPI.out
 clear y0 y1 y2 y3 y4 y5 y6 f0 f1 f2 f3 f4 f5 f6
 go_quiet (fail)
 go_upto_region 5 with fail
 have HD2 := Aside0.mk (HD1.out.below (pw_below_drewN (Below.refl _ _) nq))
 generalize W1.drewN nq = W2 at *
 have hcc := HD2.out.res
 have y0 : W2.cell? ⟨w.heap.size, 0, none⟩ = some (.int .u8 p.1.f0) := by simp [World.cell?, hcc]
 have y1 : W2.cell? ⟨w.heap.size, 1, none⟩ = some (.int .i64 p.1.f1.f0) := by simp [World.cell?, hcc]
 have y2 : W2.cell? ⟨w.heap.size, 2, none⟩ = some (.int .i64 p.1.f1.f1) := by simp [World.cell?, hcc]
 have y3 : W2.cell? ⟨w.heap.size, 3, none⟩ = some (.int .i64 p.1.f1.f2) := by simp [World.cell?, hcc]
 have y4 : W2.cell? ⟨w.heap.size, 4, none⟩ = some (.int .i64 p.1.f1.f3) := by simp [World.cell?, hcc]
 have y5 : W2.cell? ⟨w.heap.size, 5, none⟩ = some (.int .i64 p.1.f2) := by simp [World.cell?, hcc]
 have y6 : W2.cell? ⟨w.heap.size, 6, none⟩ = some (.slice A p.1.f3.length cp) := by simp [World.cell?, hcc]
 clear hcc
 obtain ⟨W3, hW3⟩ : ∃ W3, W3 = W2.alloc (.cells #[.int .u8 p.1.f0, .int .i64 p.1.f1.f0, .int .i64 p.1.f1.f1, .int .i64 p.1.f1.f2, .int .i64 p.1.f1.f3, .int .i64 p.1.f2, .slice A p.1.f3.length cp] 27) := ⟨_, rfl⟩
 have HD3 : Aside0 (WGd w W3 b s off p.2 p.1 (.slice A p.1.f3.length cp)) := ⟨by rw [hW3]; exact HD2.out.below (below_alloc (Below.refl _ _) _)⟩
 have HMC : Aside0 (Calls Tryz.prog 49 #[.slice (some ⟨W2.heap.size, 0, none⟩) 1 1] W3 fun e w' => e = .returned (.bool true) ∧ Below W3.heap.size W3 w') := ⟨HMM.out W3 _ (by rw [hW3]; exact (Kd.R_reads' (R_one (Nat.zero_le _) p.1 (Kd.R_lower HD2.out.kids (Nat.zero_le _)))).2.2)⟩
 have HW3 := Aside0.mk hW3
 clear hW3
 go_wp2_with fail
 rw [← HW3.out]
 with_reducible refine HMC.out.mono ?_
 rintro e w4 ⟨rfl, hb4⟩
 have HD4 := Aside0.mk (HD3.out.below hb4)
 clear hb4
 have hcc := HD4.out.res
 clear y0 y1 y2 y3 y4 y5 y6
 have y0 : w4.cell? ⟨w.heap.size, 0, none⟩ = some (.int .u8 p.1.f0) := by simp [World.cell?, hcc]
 have y1 : w4.cell? ⟨w.heap.size, 1, none⟩ = some (.int .i64 p.1.f1.f0) := by simp [World.cell?, hcc]
 have y2 : w4.cell? ⟨w.heap.size, 2, none⟩ = some (.int .i64 p.1.f1.f1) := by simp [World.cell?, hcc]
 have y3 : w4.cell? ⟨w.heap.size, 3, none⟩ = some (.int .i64 p.1.f1.f2) := by simp [World.cell?, hcc]
 have y4 : w4.cell? ⟨w.heap.size, 4, none⟩ = some (.int .i64 p.1.f1.f3) := by simp [World.cell?, hcc]
 have y5 : w4.cell? ⟨w.heap.size, 5, none⟩ = some (.int .i64 p.1.f2) := by simp [World.cell?, hcc]
 have y6 : w4.cell? ⟨w.heap.size, 6, none⟩ = some (.slice A p.1.f3.length cp) := by simp [World.cell?, hcc]
 clear hcc
 obtain ⟨W5, hW5⟩ : ∃ W5, W5 = w4.alloc (.cells #[.int .u8 p.1.f0, .int .i64 p.1.f1.f0, .int .i64 p.1.f1.f1, .int .i64 p.1.f1.f2, .int .i64 p.1.f1.f3, .int .i64 p.1.f2, .slice A p.1.f3.length cp] 27) := ⟨_, rfl⟩
 have HD5 : Aside0 (WGd w W5 b s off p.2 p.1 (.slice A p.1.f3.length cp)) := ⟨by rw [hW5]; exact HD4.out.below (below_alloc (Below.refl _ _) _)⟩
 have HTC : Aside0 (Calls Tryz.prog 50 #[.slice (some ⟨w4.heap.size, 0, none⟩) 1 1] W5 fun e w' => e = .returned (.bool false) ∧ Below W5.heap.size W5 w') := ⟨HTL.out W5 _ (by rw [hW5]; exact (Kd.R_reads' (R_one (Nat.zero_le _) p.1 (Kd.R_lower HD4.out.kids (Nat.zero_le _)))).2.2)⟩
 have HW5 := Aside0.mk hW5
 clear hW5
 go_wp2_with fail
 rw [← HW5.out]
 with_reducible refine HTC.out.mono ?_
 rintro e w6 ⟨rfl, hb6⟩
 have HD6 := Aside0.mk (HD5.out.below hb6)
 clear hb6
 go_wp2_with fail
 with_reducible refine (new_calls 5 0 w6 (by decide)).mono ?_
 rintro e w7 ⟨rfl, rfl⟩
 obtain ⟨W7, hW7⟩ : ∃ W7, W7 = w6.alloc (.cells #[.int .i64 5, .int .i64 0] 84) := ⟨_, rfl⟩
 have HD9 : Aside0 (WGd w W7 b s off p.2 p.1 (.slice A p.1.f3.length cp)) := ⟨by rw [hW7]; exact HD6.out.below (below_alloc (Below.refl _ _) _)⟩
 obtain ⟨g, hgg⟩ : ∃ g, g = w6.heap.size := ⟨_, rfl⟩
 have HG : Aside0 (w.heap.size + 2 ≤ g ∧ W7.heap[g]? = some (.cells #[.int .i64 5, .int .i64 0] 84 (0, 0))) := ⟨by rw [hgg]; exact blk_lt HD6.out.err, by rw [hW7, hgg]; exact heap_alloc_new w6 _⟩
 clear y0 y1 y2 y3 y4 y5 y6
 go_wp2
 rw [← hW7, ← hgg]
 clear hW7 hgg
 refine leaves_cons (f := 46) (args := #[.pointer (some ⟨w.heap.size, 0, none⟩), .pointer (some ⟨w.heap.size + 1, 0, none⟩)]) (by simp) (by simp [go_sem]) ?_
 refine (catch_panicking w.heap.size (w.heap.size + 1) g W7 _ _ (by rfl) HD9.out.res HD9.out.err (by omega)).mono ?_
 rintro e u' w'' ⟨rfl, rfl, w3, g', hb3, hin, rfl⟩
 have HCC := Aside0.mk (caught_c (g' := g') (eb := w.heap.size + 1) ((hb3.block _ (blk_lt HD9.out.res)).trans HD9.out.res) (by omega) rfl)
 have HEE := Aside0.mk (caught_e (g' := g') (cb := w.heap.size) ((hb3.block _ (blk_lt HD9.out.err)).trans HD9.out.err) (by omega))
 have HSZ := HD9.out.st.size
 have hlt : w.heap.size + 1 < W7.heap.size := blk_lt HD9.out.err
 have HII := Aside0.mk (caught_in (g' := g') (cb := w.heap.size) (eb := w.heap.size + 1) hin (by omega) hlt)
 have HFF := Aside0.mk (caught_far (g' := g') (cb := w.heap.size) (eb := w.heap.size + 1) ((hb3.block _ (blk_lt HG.out.2)).trans HG.out.2) (by have := HG.out.1; omega) (by have := HG.out.1; omega))
 have HTT : Aside0 (Step w b _ (CaughtW w3 w.heap.size (w.heap.size + 1) g')) := ⟨caught_st (Below.trans HD9.out.st (hb3.mono HD9.out.st.size)) (Nat.le_refl _) (Nat.le_succ _)⟩
 generalize CaughtW w3 w.heap.size (w.heap.size + 1) g' = WF at *
 have hc1 := HCC.out
 have he1 := HEE.out
 have z0 : WF.cell? ⟨w.heap.size + 1, 0, none⟩ = some (.iface 78 (.pointer (some ⟨g', 0, none⟩))) := by simp [World.cell?, he1]
 have y0 : WF.cell? ⟨w.heap.size, 0, none⟩ = some (.int .u8 0) := by simp [World.cell?, hc1]
 have y1 : WF.cell? ⟨w.heap.size, 1, none⟩ = some (.int .i64 0) := by simp [World.cell?, hc1]
 have y2 : WF.cell? ⟨w.heap.size, 2, none⟩ = some (.int .i64 0) := by simp [World.cell?, hc1]
 have y3 : WF.cell? ⟨w.heap.size, 3, none⟩ = some (.int .i64 0) := by simp [World.cell?, hc1]
 have y4 : WF.cell? ⟨w.heap.size, 4, none⟩ = some (.int .i64 0) := by simp [World.cell?, hc1]
 have y5 : WF.cell? ⟨w.heap.size, 5, none⟩ = some (.int .i64 0) := by simp [World.cell?, hc1]
 have y6 : WF.cell? ⟨w.heap.size, 6, none⟩ = some (.slice none 0 0) := by simp [World.cell?, hc1]
 clear hc1 he1 hin hb3
 have key : BadPost w b 5 0 (.returned (.tuple #[.agg zeroA, .iface 78 (.pointer (some ⟨g', 0, none⟩))])) WF :=
  ⟨g', g, rfl, ⟨Nat.le_trans HSZ HII.out.1, by obtain ⟨_, v, q1, q2⟩ := HII.out; exact ⟨v, q1, Kd.R_lower q2 HSZ⟩⟩, HFF.out, _, HTT.out⟩
 have HKEY := Aside0.mk key
 clear key
 simp [Leaves, settle, results, Tryz.results27, go_sem, y0, y1, y2, y3, y4, y5, y6, z0]
 exact HKEY.out
end Go.Proofs.YtkobpbbegalfpaaGreatDoor

/-
 The reader reads a whole body, that is good.
-/
namespace Go.Proofs.YtkobpbbegalfpaaGreatDoor
open Go.RowKit Go.Proofs.YtkobpbbegalfpaaGreatDoorW.PrintWords Go.Proofs.YtkobpbbegalfpaaGreatDoorW.PrintLast Go.Proofs.YtkobpbbegalfpaaGreatDoorW.PrintMore Go.Proofs.YtkobpbbegalfpaaGreatDoor.PParseBodies
set_option linter.unusedVariables false
set_option linter.unusedSimpArgs false
set_option maxRecDepth 100000

/-- What a body that can be read comes to. -/
def GoodPost (w : World) (b : Nat) (x : SC) (e : Ending) (w' : World) : Prop :=
 ∃ v, e = .returned (.tuple #[.agg (cellV x v), .nilIface]) ∧ Kd.R k27 27 w' w.heap.size (fun _ => True) v x.f3 ∧ ∃ j, Step w b j w'
set_option maxHeartbeats 8000000 in
theorem whole_good (hd : ByteArray → Int × Int × Int) (I : World → Prop) (w : World) (b : Nat) (s : ByteArray) (m : Nat) (off : Int) (hs : s.size ≤ 100000) (ho : 0 ≤ off ∧ off ≤ 1000) (hb : HeadB hd) (hc : HeadC hd b I) (hI : I w) (k : RdA w b s ((0 : Nat) : Int) off)
  (p : SC × Nat) (hr : cellP hd s m 0 1 = some (.ok p)) (hp : p.2 = s.size) (HMAY : ∀ W A, Kd.C k27 W (some A) 1 [p.1] → Calls Tryz.prog 49 #[.slice (some A) 1 1] W fun e w' => e = .returned (.bool true) ∧ Below W.heap.size W w') (HTIL : ∀ W A, Kd.C k27 W (some A) 1 [p.1] → Calls Tryz.prog 50 #[.slice (some A) 1 1] W fun e w' => e = .returned (.bool true) ∧ Below W.heap.size W w') :
  Calls Tryz.prog 27 #[.pointer (some ⟨b, 0, none⟩)] w (GoodPost w b p.1) := by
 have hmf : ∀ (fn : Fn) (first cap : Array Value) (w : World), (Instr.makeFunc fn first cap).run Tryz.prog w = .ok (.func fn first cap) w := fun _ _ _ _ => rfl
 obtain ⟨W0, hW0⟩ : ∃ W0, W0 = (w.alloc (.cells zeroA 27)).alloc (.cells #[.nilIface] 29) := ⟨_, rfl⟩
 have HP0 : Aside0 (WSt w W0 b s off 0 zeroA) := ⟨by rw [hW0]; exact WSt.new k⟩
 have HK := Aside0.mk k
 have HMM := Aside0.mk HMAY
 have HTL := Aside0.mk HTIL
 have HI0 : Aside0 (I W0) := ⟨hc.step hI HP0.out.st⟩
 have HW := Aside0.mk hW0
 have HN : Aside0 (Calls Tryz.prog 47 #[.pointer (some ⟨b, 0, none⟩), .int .i64 1] W0 (CellPost W0 b off (.ok p))) := ⟨cell_calls hd I W0 b s 0 1 m off hs ho (Nat.zero_le _) (by decide) hb hc HI0.out HP0.out.rd _ hr⟩
 clear hW0 k hI hr HMAY HTIL
 go_enter_defers Tryz.func27, Tryz.ntmps27
 go_wp2_with fail
 rw [← HW.out]
 with_reducible refine HN.out.mono ?_
 rintro e w1 ⟨v, rfl, hR, hst⟩
 obtain ⟨h1, h2, h3⟩ := HP0.out.step HK.out hst
 have HRD := Aside0.mk (hst.rd HP0.out.rd)
 have HS := Aside0.mk h1
 have H2 := Aside0.mk h2
 have H3 := Aside0.mk h3
 obtain ⟨A, cp, rfl⟩ := Kd.R_slice hR
 obtain ⟨c0, c1, c2⟩ := HRD.out.cells
 have y0 : w1.cell? ⟨w.heap.size, 0, none⟩ = some (.int .u8 0) := by simp [World.cell?, h2]
 have f0 := blk_frozen h2 0
 have y1 : w1.cell? ⟨w.heap.size, 1, none⟩ = some (.int .i64 0) := by simp [World.cell?, h2]
 have f1 := blk_frozen h2 1
 have y2 : w1.cell? ⟨w.heap.size, 2, none⟩ = some (.int .i64 0) := by simp [World.cell?, h2]
 have f2 := blk_frozen h2 2
 have y3 : w1.cell? ⟨w.heap.size, 3, none⟩ = some (.int .i64 0) := by simp [World.cell?, h2]
 have f3 := blk_frozen h2 3
 have y4 : w1.cell? ⟨w.heap.size, 4, none⟩ = some (.int .i64 0) := by simp [World.cell?, h2]
 have f4 := blk_frozen h2 4
 have y5 : w1.cell? ⟨w.heap.size, 5, none⟩ = some (.int .i64 0) := by simp [World.cell?, h2]
 have f5 := blk_frozen h2 5
 have y6 : w1.cell? ⟨w.heap.size, 6, none⟩ = some (.slice none 0 0) := by simp [World.cell?, h2]
 have f6 := blk_frozen h2 6
 clear hst h1 h2 h3
 have hsz0 : W0.heap.size = w.heap.size + 2 := by rw [HW.out]; simp
 rw [hsz0] at hR
 have HD1 := Aside0.mk (WGd.put (x := p.1) (v := .slice A p.1.f3.length cp) HK.out HS.out HRD.out H2.out H3.out hR)
 have HPI : Aside0 (((p.2 : Int) < (s.size : Int)) = False ∧ decide ((p.2 : Int) < (s.size : Int)) = false) := ⟨eq_false (by omega), decide_eq_false (by omega)⟩
 clear hR
 go_upto_region 3 with fail
 obtain ⟨W1, hW1⟩ : ∃ W1, W1 = (((((((w1.setCell ⟨w.heap.size, 0, none⟩ (.int .u8 p.1.f0)).setCell ⟨w.heap.size, 1, none⟩ (.int .i64 p.1.f1.f0)).setCell ⟨w.heap.size, 2, none⟩ (.int .i64 p.1.f1.f1)).setCell ⟨w.heap.size, 3, none⟩ (.int .i64 p.1.f1.f2)).setCell ⟨w.heap.size, 4, none⟩ (.int .i64 p.1.f1.f3)).setCell ⟨w.heap.size, 5, none⟩ (.int .i64 p.1.f2)).setCell ⟨w.heap.size, 6, none⟩ (.slice A p.1.f3.length cp)) := ⟨_, rfl⟩
 have HD1 : Aside0 (WGd w W1 b s off p.2 p.1 (.slice A p.1.f3.length cp)) := ⟨by rw [hW1]; exact HD1.out⟩
 rw [← hW1]
 clear hW1
 obtain ⟨c0, c1, c2⟩ := HD1.out.rd.cells
 obtain ⟨hpi, hpi2⟩ := HPI.out
 clear y0 y1 y2 y3 y4 y5 y6 f0 f1 f2 f3 f4 f5 f6
 go_quiet (fail)
 go_upto_region 5 with fail
 have HD2 := Aside0.mk (HD1.out.below (pw_below_drewN (Below.refl _ _) nq))
 generalize W1.drewN nq = W2 at *
 have hcc := HD2.out.res
 have y0 : W2.cell? ⟨w.heap.size, 0, none⟩ = some (.int .u8 p.1.f0) := by simp [World.cell?, hcc]
 have y1 : W2.cell? ⟨w.heap.size, 1, none⟩ = some (.int .i64 p.1.f1.f0) := by simp [World.cell?, hcc]
 have y2 : W2.cell? ⟨w.heap.size, 2, none⟩ = some (.int .i64 p.1.f1.f1) := by simp [World.cell?, hcc]
 have y3 : W2.cell? ⟨w.heap.size, 3, none⟩ = some (.int .i64 p.1.f1.f2) := by simp [World.cell?, hcc]
 have y4 : W2.cell? ⟨w.heap.size, 4, none⟩ = some (.int .i64 p.1.f1.f3) := by simp [World.cell?, hcc]
 have y5 : W2.cell? ⟨w.heap.size, 5, none⟩ = some (.int .i64 p.1.f2) := by simp [World.cell?, hcc]
 have y6 : W2.cell? ⟨w.heap.size, 6, none⟩ = some (.slice A p.1.f3.length cp) := by simp [World.cell?, hcc]
 clear hcc
 obtain ⟨W3, hW3⟩ : ∃ W3, W3 = W2.alloc (.cells #[.int .u8 p.1.f0, .int .i64 p.1.f1.f0, .int .i64 p.1.f1.f1, .int .i64 p.1.f1.f2, .int .i64 p.1.f1.f3, .int .i64 p.1.f2, .slice A p.1.f3.length cp] 27) := ⟨_, rfl⟩
 have HD3 : Aside0 (WGd w W3 b s off p.2 p.1 (.slice A p.1.f3.length cp)) := ⟨by rw [hW3]; exact HD2.out.below (below_alloc (Below.refl _ _) _)⟩
 have HMC : Aside0 (Calls Tryz.prog 49 #[.slice (some ⟨W2.heap.size, 0, none⟩) 1 1] W3 fun e w' => e = .returned (.bool true) ∧ Below W3.heap.size W3 w') := ⟨HMM.out W3 _ (by rw [hW3]; exact (Kd.R_reads' (R_one (Nat.zero_le _) p.1 (Kd.R_lower HD2.out.kids (Nat.zero_le _)))).2.2)⟩
 have HW3 := Aside0.mk hW3
 clear hW3
 go_wp2_with fail
 rw [← HW3.out]
 with_reducible refine HMC.out.mono ?_
 rintro e w4 ⟨rfl, hb4⟩
 have HD4 := Aside0.mk (HD3.out.below hb4)
 clear hb4
 have hcc := HD4.out.res
 clear y0 y1 y2 y3 y4 y5 y6
 have y0 : w4.cell? ⟨w.heap.size, 0, none⟩ = some (.int .u8 p.1.f0) := by simp [World.cell?, hcc]
 have y1 : w4.cell? ⟨w.heap.size, 1, none⟩ = some (.int .i64 p.1.f1.f0) := by simp [World.cell?, hcc]
 have y2 : w4.cell? ⟨w.heap.size, 2, none⟩ = some (.int .i64 p.1.f1.f1) := by simp [World.cell?, hcc]
 have y3 : w4.cell? ⟨w.heap.size, 3, none⟩ = some (.int .i64 p.1.f1.f2) := by simp [World.cell?, hcc]
 have y4 : w4.cell? ⟨w.heap.size, 4, none⟩ = some (.int .i64 p.1.f1.f3) := by simp [World.cell?, hcc]
 have y5 : w4.cell? ⟨w.heap.size, 5, none⟩ = some (.int .i64 p.1.f2) := by simp [World.cell?, hcc]
 have y6 : w4.cell? ⟨w.heap.size, 6, none⟩ = some (.slice A p.1.f3.length cp) := by simp [World.cell?, hcc]
 clear hcc
 obtain ⟨W5, hW5⟩ : ∃ W5, W5 = w4.alloc (.cells #[.int .u8 p.1.f0, .int .i64 p.1.f1.f0, .int .i64 p.1.f1.f1, .int .i64 p.1.f1.f2, .int .i64 p.1.f1.f3, .int .i64 p.1.f2, .slice A p.1.f3.length cp] 27) := ⟨_, rfl⟩
 have HD5 : Aside0 (WGd w W5 b s off p.2 p.1 (.slice A p.1.f3.length cp)) := ⟨by rw [hW5]; exact HD4.out.below (below_alloc (Below.refl _ _) _)⟩
 have HTC : Aside0 (Calls Tryz.prog 50 #[.slice (some ⟨w4.heap.size, 0, none⟩) 1 1] W5 fun e w' => e = .returned (.bool true) ∧ Below W5.heap.size W5 w') := ⟨HTL.out W5 _ (by rw [hW5]; exact (Kd.R_reads' (R_one (Nat.zero_le _) p.1 (Kd.R_lower HD4.out.kids (Nat.zero_le _)))).2.2)⟩
 have HW5 := Aside0.mk hW5
 clear hW5
 go_wp2_with fail
 rw [← HW5.out]
 with_reducible refine HTC.out.mono ?_
 rintro e w6 ⟨rfl, hb6⟩
 have HD6 := Aside0.mk (HD5.out.below hb6)
 clear hb6
 have hcc := HD6.out.res
 have hee := HD6.out.err
 clear y0 y1 y2 y3 y4 y5 y6
 have y0 : w6.cell? ⟨w.heap.size, 0, none⟩ = some (.int .u8 p.1.f0) := by simp [World.cell?, hcc]
 have f0 := blk_frozen hcc 0
 have y1 : w6.cell? ⟨w.heap.size, 1, none⟩ = some (.int .i64 p.1.f1.f0) := by simp [World.cell?, hcc]
 have f1 := blk_frozen hcc 1
 have y2 : w6.cell? ⟨w.heap.size, 2, none⟩ = some (.int .i64 p.1.f1.f1) := by simp [World.cell?, hcc]
 have f2 := blk_frozen hcc 2
 have y3 : w6.cell? ⟨w.heap.size, 3, none⟩ = some (.int .i64 p.1.f1.f2) := by simp [World.cell?, hcc]
 have f3 := blk_frozen hcc 3
 have y4 : w6.cell? ⟨w.heap.size, 4, none⟩ = some (.int .i64 p.1.f1.f3) := by simp [World.cell?, hcc]
 have f4 := blk_frozen hcc 4
 have y5 : w6.cell? ⟨w.heap.size, 5, none⟩ = some (.int .i64 p.1.f2) := by simp [World.cell?, hcc]
 have f5 := blk_frozen hcc 5
 have y6 : w6.cell? ⟨w.heap.size, 6, none⟩ = some (.slice A p.1.f3.length cp) := by simp [World.cell?, hcc]
 have f6 := blk_frozen hcc 6
 have z0 : w6.cell? ⟨w.heap.size + 1, 0, none⟩ = some .nilIface := by simp [World.cell?, hee]
 have z1 := blk_frozen hee 0
 clear hcc hee
 go_wp2
 refine leaves_cons (f := 46) (args := #[.pointer (some ⟨w.heap.size, 0, none⟩), .pointer (some ⟨w.heap.size + 1, 0, none⟩)]) (by simp) (by simp [go_sem]) ?_
 refine (catch_idle _ _ _).mono ?_
 rintro e u' w'' ⟨rfl, rfl, rfl⟩
 have key : GoodPost w b p.1 (.returned (.tuple #[.agg (cellV p.1 (.slice A p.1.f3.length cp)), .nilIface])) ((((((((w6.setCell ⟨w.heap.size, 0, none⟩ (.int .u8 p.1.f0)).setCell ⟨w.heap.size, 1, none⟩ (.int .i64 p.1.f1.f0)).setCell ⟨w.heap.size, 2, none⟩ (.int .i64 p.1.f1.f1)).setCell ⟨w.heap.size, 3, none⟩ (.int .i64 p.1.f1.f2)).setCell ⟨w.heap.size, 4, none⟩ (.int .i64 p.1.f1.f3)).setCell ⟨w.heap.size, 5, none⟩ (.int .i64 p.1.f2)).setCell ⟨w.heap.size, 6, none⟩ (.slice A p.1.f3.length cp)).setCell ⟨w.heap.size + 1, 0, none⟩ .nilIface) :=
  ⟨_, rfl, Kd.R_lower (R_setS (R_set7 HD6.out.kids (by omega) _ _ _ _ _ _ _) (p := ⟨w.heap.size + 1, 0, none⟩) (Nat.lt_succ_self _) _) (by omega), _, Below.setCell (step7 HD6.out.st _ _ _ _ _ _ _) (p := ⟨w.heap.size + 1, 0, none⟩) (Nat.le_succ _) _⟩
 have HKEY := Aside0.mk key
 clear key
 simp [Leaves, settle, results, Tryz.results27, go_sem, y0, y1, y2, y3, y4, y5, y6, z0]
 exact HKEY.out
end Go.Proofs.YtkobpbbegalfpaaGreatDoor
