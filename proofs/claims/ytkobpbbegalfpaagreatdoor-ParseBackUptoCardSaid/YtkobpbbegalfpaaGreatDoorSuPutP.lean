/-
  Joined texts: PsWhole3, PsWhole4, PsWhole5, PsAns, PsBody, PsText, HexPureP, SuPutP.
-/
import Derived.Test.YtkobpbbegalfpaaGreatDoorPsWhole2
import Derived.Test.YtkobpbbegalfpaaGreatDoorPsTot
import Derived.Test.YtkobpbbegalfpaaGreatDoorPParseBodiesx4
import Derived.Test.YtkobpbbegalfpaaGreatDoorNuUint
namespace Go.Proofs.YtkobpbbegalfpaaGreatDoor
open Go.RowKit YtkobpbbegalfpaaGreatDoorW.PrintWords YtkobpbbegalfpaaGreatDoorW.PrintLast YtkobpbbegalfpaaGreatDoorW.PrintMore PParseBodies
set_option linter.unusedVariables false
set_option linter.unusedSimpArgs false
set_option maxRecDepth 100000
set_option maxHeartbeats 8000000 in
theorem whole_may (hd : ByteArray → Int × Int × Int) (I : World → Prop) (w : World) (b : Nat) (s : ByteArray) (m : Nat) (off : Int) (hs : s.size ≤ 100000) (ho : 0 ≤ off ∧ off ≤ 1000) (hb : HeadB hd) (hc : HeadC hd b I) (hI : I w) (k : RdA w b s ((0 : Nat) : Int) off)
  (p : SC × Nat) (hr : cellP hd s m 0 1 = some (.ok p)) (hp : p.2 = s.size) (HMAY : ∀ W A, Kd.C k27 W (some A) 1 [p.1] → Calls Tryz.prog 49 #[.slice (some A) 1 1] W fun e w' => e = .returned (.bool false) ∧ Below W.heap.size W w') :
  Calls Tryz.prog 27 #[.pointer (some ⟨b, 0, none⟩)] w (BadPost w b 1 0) := by
 have hmf : ∀ (fn : Fn) (first cap : Array Value) (w : World), (Instr.makeFunc fn first cap).run Tryz.prog w = .ok (.func fn first cap) w := fun _ _ _ _ => rfl
 obtain ⟨W0, hW0⟩ : ∃ W0, W0 = (w.alloc (.cells zeroA 27)).alloc (.cells #[.nilIface] 29) := ⟨_, rfl⟩
 have HP0 : Aside0 (WSt w W0 b s off 0 zeroA) := ⟨by rw [hW0]; exact WSt.new k⟩
 have HK := ak k
 have HMM := ak HMAY
 have HI0 : Aside0 (I W0) := ⟨hc.step hI HP0.out.st⟩
 have HW := ak hW0
 have HN : Aside0 (Calls Tryz.prog 47 #[.pointer (some ⟨b, 0, none⟩), .int .i64 1] W0 (CellPost W0 b off (.ok p))) := ⟨cell_calls hd I W0 b s 0 1 m off hs ho (Nat.zero_le _) (by decide) hb hc HI0.out HP0.out.rd _ hr⟩
 clear hW0 k hI hr HMAY
 go_enter_defers Tryz.func27, Tryz.ntmps27
 go_wp2_with fail
 rw [← HW.out]
 with_reducible refine HN.out.mono ?_
 rintro e w1 ⟨v, rfl, hR, hst⟩
 obtain ⟨h1, h2, h3⟩ := HP0.out.step HK.out hst
 have HRD := ak (hst.rd HP0.out.rd)
 have HS := ak h1
 have H2 := ak h2
 have H3 := ak h3
 obtain ⟨A, cp, rfl⟩ := Kd.R_slice hR
 obtain ⟨c0, c1, c2⟩ := HRD.out.cells
 have y0 : w1.cell? ⟨w.heap.size, 0, none⟩ = some (.int .u8 0) := by simp [World.cell?, h2]
 have f0 := blk_frozen h2 0
 have y1 : w1.cell? ⟨w.heap.size, 1, none⟩ = some (.int .i64 0) := by simp [World.cell?, h2]
 have f1 := blk_frozen h2 1
 have y2 : w1.cell? ⟨w.heap.size, 2, none⟩ = some (.int .i64 0) := by simp [World.cell?, h2]
 have f2 := blk_frozen h2 2
 have y3 : w1.cell? ⟨w.heap.size, 3, none⟩ = some (.int .i64 0) := by simp [World.cell?, h2]
 have f3 := blk_frozen h2 3
 have y4 : w1.cell? ⟨w.heap.size, 4, none⟩ = some (.int .i64 0) := by simp [World.cell?, h2]
 have f4 := blk_frozen h2 4
 have y5 : w1.cell? ⟨w.heap.size, 5, none⟩ = some (.int .i64 0) := by simp [World.cell?, h2]
 have f5 := blk_frozen h2 5
 have y6 : w1.cell? ⟨w.heap.size, 6, none⟩ = some (.slice none 0 0) := by simp [World.cell?, h2]
 have f6 := blk_frozen h2 6
 clear hst h1 h2 h3
 have hsz0 : W0.heap.size = w.heap.size + 2 := by rw [HW.out]; simp
 rw [hsz0] at hR
 have HD1 := ak (WGd.put (x := p.1) (v := .slice A p.1.f3.length cp) HK.out HS.out HRD.out H2.out H3.out hR)
 have HPI : Aside0 (((p.2 : Int) < (s.size : Int)) = False ∧ decide ((p.2 : Int) < (s.size : Int)) = false) := ⟨eq_false (by omega), decide_eq_false (by omega)⟩
 clear hR
 go_upto_region 3 with fail
 obtain ⟨W1, hW1⟩ : ∃ W1, W1 = (((((((w1.setCell ⟨w.heap.size, 0, none⟩ (.int .u8 p.1.f0)).setCell ⟨w.heap.size, 1, none⟩ (.int .i64 p.1.f1.f0)).setCell ⟨w.heap.size, 2, none⟩ (.int .i64 p.1.f1.f1)).setCell ⟨w.heap.size, 3, none⟩ (.int .i64 p.1.f1.f2)).setCell ⟨w.heap.size, 4, none⟩ (.int .i64 p.1.f1.f3)).setCell ⟨w.heap.size, 5, none⟩ (.int .i64 p.1.f2)).setCell ⟨w.heap.size, 6, none⟩ (.slice A p.1.f3.length cp)) := ⟨_, rfl⟩
 have HD1 : Aside0 (WGd w W1 b s off p.2 p.1 (.slice A p.1.f3.length cp)) := ⟨by rw [hW1]; exact HD1.out⟩
 rw [← hW1]
 clear hW1
 obtain ⟨c0, c1, c2⟩ := HD1.out.rd.cells
 obtain ⟨hpi, hpi2⟩ := HPI.out
 clear y0 y1 y2 y3 y4 y5 y6 f0 f1 f2 f3 f4 f5 f6
 go_quiet (fail)
 go_upto_region 5 with fail
 have HD2 := ak (HD1.out.below (pw_below_drewN (Below.refl _ _) nq))
 generalize W1.drewN nq = W2 at *
 have hcc := HD2.out.res
 have y0 : W2.cell? ⟨w.heap.size, 0, none⟩ = some (.int .u8 p.1.f0) := by simp [World.cell?, hcc]
 have y1 : W2.cell? ⟨w.heap.size, 1, none⟩ = some (.int .i64 p.1.f1.f0) := by simp [World.cell?, hcc]
 have y2 : W2.cell? ⟨w.heap.size, 2, none⟩ = some (.int .i64 p.1.f1.f1) := by simp [World.cell?, hcc]
 have y3 : W2.cell? ⟨w.heap.size, 3, none⟩ = some (.int .i64 p.1.f1.f2) := by simp [World.cell?, hcc]
 have y4 : W2.cell? ⟨w.heap.size, 4, none⟩ = some (.int .i64 p.1.f1.f3) := by simp [World.cell?, hcc]
 have y5 : W2.cell? ⟨w.heap.size, 5, none⟩ = some (.int .i64 p.1.f2) := by simp [World.cell?, hcc]
 have y6 : W2.cell? ⟨w.heap.size, 6, none⟩ = some (.slice A p.1.f3.length cp) := by simp [World.cell?, hcc]
 clear hcc
 obtain ⟨W3, hW3⟩ : ∃ W3, W3 = W2.alloc (.cells #[.int .u8 p.1.f0, .int .i64 p.1.f1.f0, .int .i64 p.1.f1.f1, .int .i64 p.1.f1.f2, .int .i64 p.1.f1.f3, .int .i64 p.1.f2, .slice A p.1.f3.length cp] 27) := ⟨_, rfl⟩
 have HD3 : Aside0 (WGd w W3 b s off p.2 p.1 (.slice A p.1.f3.length cp)) := ⟨by rw [hW3]; exact HD2.out.below (below_alloc (Below.refl _ _) _)⟩
 have HMC : Aside0 (Calls Tryz.prog 49 #[.slice (some ⟨W2.heap.size, 0, none⟩) 1 1] W3 fun e w' => e = .returned (.bool false) ∧ Below W3.heap.size W3 w') := ⟨HMM.out W3 _ (by rw [hW3]; exact (Kd.R_reads' (R_one (Nat.zero_le _) p.1 (Kd.R_lower HD2.out.kids (Nat.zero_le _)))).2.2)⟩
 have HW3 := ak hW3
 clear hW3
 go_wp2_with fail
 rw [← HW3.out]
 with_reducible refine HMC.out.mono ?_
 rintro e w4 ⟨rfl, hb4⟩
 have HD4 := ak (HD3.out.below hb4)
 clear hb4
 go_wp2_with fail
 with_reducible refine (new_calls 1 0 w4 (by decide)).mono ?_
 rintro e w5 ⟨rfl, rfl⟩
 obtain ⟨W5, hW5⟩ : ∃ W5, W5 = w4.alloc (.cells #[.int .i64 1, .int .i64 0] 84) := ⟨_, rfl⟩
 have HD9 : Aside0 (WGd w W5 b s off p.2 p.1 (.slice A p.1.f3.length cp)) := ⟨by rw [hW5]; exact HD4.out.below (below_alloc (Below.refl _ _) _)⟩
 obtain ⟨g, hgg⟩ : ∃ g, g = w4.heap.size := ⟨_, rfl⟩
 have HG : Aside0 (w.heap.size + 2 ≤ g ∧ W5.heap[g]? = some (.cells #[.int .i64 1, .int .i64 0] 84 (0, 0))) := ⟨by rw [hgg]; exact blk_lt HD4.out.err, by rw [hW5, hgg]; exact heap_alloc_new w4 _⟩
 go_wp2
 rw [← hW5, ← hgg]
 clear hW5 hgg
 refine leaves_cons (f := 46) (args := #[.pointer (some ⟨w.heap.size, 0, none⟩), .pointer (some ⟨w.heap.size + 1, 0, none⟩)]) (by simp) (by simp [go_sem]) ?_
 refine (catch_panicking w.heap.size (w.heap.size + 1) g W5 _ _ (by rfl) HD9.out.res HD9.out.err (by omega)).mono ?_
 rintro e u' w'' ⟨rfl, rfl, w3, g', hb3, hin, rfl⟩
 have HCC := ak (caught_c (g' := g') (eb := w.heap.size + 1) ((hb3.block _ (blk_lt HD9.out.res)).trans HD9.out.res) (by omega) rfl)
 have HEE := ak (caught_e (g' := g') (cb := w.heap.size) ((hb3.block _ (blk_lt HD9.out.err)).trans HD9.out.err) (by omega))
 have HSZ := HD9.out.st.size
 have hlt : w.heap.size + 1 < W5.heap.size := blk_lt HD9.out.err
 have HII := ak (caught_in (g' := g') (cb := w.heap.size) (eb := w.heap.size + 1) hin (by omega) hlt)
 have HFF := ak (caught_far (g' := g') (cb := w.heap.size) (eb := w.heap.size + 1) ((hb3.block _ (blk_lt HG.out.2)).trans HG.out.2) (by have := HG.out.1; omega) (by have := HG.out.1; omega))
 have HTT : Aside0 (Step w b _ (CaughtW w3 w.heap.size (w.heap.size + 1) g')) := ⟨caught_st (Below.trans HD9.out.st (hb3.mono HD9.out.st.size)) (Nat.le_refl _) (Nat.le_succ _)⟩
 generalize CaughtW w3 w.heap.size (w.heap.size + 1) g' = WF at *
 have hc1 := HCC.out
 have he1 := HEE.out
 have z0 : WF.cell? ⟨w.heap.size + 1, 0, none⟩ = some (.iface 78 (.pointer (some ⟨g', 0, none⟩))) := by simp [World.cell?, he1]
 have y0 : WF.cell? ⟨w.heap.size, 0, none⟩ = some (.int .u8 0) := by simp [World.cell?, hc1]
 have y1 : WF.cell? ⟨w.heap.size, 1, none⟩ = some (.int .i64 0) := by simp [World.cell?, hc1]
 have y2 : WF.cell? ⟨w.heap.size, 2, none⟩ = some (.int .i64 0) := by simp [World.cell?, hc1]
 have y3 : WF.cell? ⟨w.heap.size, 3, none⟩ = some (.int .i64 0) := by simp [World.cell?, hc1]
 have y4 : WF.cell? ⟨w.heap.size, 4, none⟩ = some (.int .i64 0) := by simp [World.cell?, hc1]
 have y5 : WF.cell? ⟨w.heap.size, 5, none⟩ = some (.int .i64 0) := by simp [World.cell?, hc1]
 have y6 : WF.cell? ⟨w.heap.size, 6, none⟩ = some (.slice none 0 0) := by simp [World.cell?, hc1]
 clear hc1 he1 hin hb3
 have key : BadPost w b 1 0 (.returned (.tuple #[.agg zeroA, .iface 78 (.pointer (some ⟨g', 0, none⟩))])) WF :=
  ⟨g', g, rfl, ⟨Nat.le_trans HSZ HII.out.1, by obtain ⟨_, v, q1, q2⟩ := HII.out; exact ⟨v, q1, Kd.R_lower q2 HSZ⟩⟩, HFF.out, _, HTT.out⟩
 have HKEY := ak key
 clear key
 simp [Leaves, settle, results, Tryz.results27, go_sem, y0, y1, y2, y3, y4, y5, y6, z0]
 exact HKEY.out
set_option maxHeartbeats 8000000 in
theorem whole_tiles (hd : ByteArray → Int × Int × Int) (I : World → Prop) (w : World) (b : Nat) (s : ByteArray) (m : Nat) (off : Int) (hs : s.size ≤ 100000) (ho : 0 ≤ off ∧ off ≤ 1000) (hb : HeadB hd) (hc : HeadC hd b I) (hI : I w) (k : RdA w b s ((0 : Nat) : Int) off)
  (p : SC × Nat) (hr : cellP hd s m 0 1 = some (.ok p)) (hp : p.2 = s.size) (HMAY : ∀ W A, Kd.C k27 W (some A) 1 [p.1] → Calls Tryz.prog 49 #[.slice (some A) 1 1] W fun e w' => e = .returned (.bool true) ∧ Below W.heap.size W w') (HTIL : ∀ W A, Kd.C k27 W (some A) 1 [p.1] → Calls Tryz.prog 50 #[.slice (some A) 1 1] W fun e w' => e = .returned (.bool false) ∧ Below W.heap.size W w') :
  Calls Tryz.prog 27 #[.pointer (some ⟨b, 0, none⟩)] w (BadPost w b 5 0) := by
 have hmf : ∀ (fn : Fn) (first cap : Array Value) (w : World), (Instr.makeFunc fn first cap).run Tryz.prog w = .ok (.func fn first cap) w := fun _ _ _ _ => rfl
 obtain ⟨W0, hW0⟩ : ∃ W0, W0 = (w.alloc (.cells zeroA 27)).alloc (.cells #[.nilIface] 29) := ⟨_, rfl⟩
 have HP0 : Aside0 (WSt w W0 b s off 0 zeroA) := ⟨by rw [hW0]; exact WSt.new k⟩
 have HK := ak k
 have HMM := ak HMAY
 have HTL := ak HTIL
 have HI0 : Aside0 (I W0) := ⟨hc.step hI HP0.out.st⟩
 have HW := ak hW0
 have HN : Aside0 (Calls Tryz.prog 47 #[.pointer (some ⟨b, 0, none⟩), .int .i64 1] W0 (CellPost W0 b off (.ok p))) := ⟨cell_calls hd I W0 b s 0 1 m off hs ho (Nat.zero_le _) (by decide) hb hc HI0.out HP0.out.rd _ hr⟩
 clear hW0 k hI hr HMAY HTIL
 go_enter_defers Tryz.func27, Tryz.ntmps27
 go_wp2_with fail
 rw [← HW.out]
 with_reducible refine HN.out.mono ?_
 rintro e w1 ⟨v, rfl, hR, hst⟩
 obtain ⟨h1, h2, h3⟩ := HP0.out.step HK.out hst
 have HRD := ak (hst.rd HP0.out.rd)
 have HS := ak h1
 have H2 := ak h2
 have H3 := ak h3
 obtain ⟨A, cp, rfl⟩ := Kd.R_slice hR
 obtain ⟨c0, c1, c2⟩ := HRD.out.cells
 have y0 : w1.cell? ⟨w.heap.size, 0, none⟩ = some (.int .u8 0) := by simp [World.cell?, h2]
 have f0 := blk_frozen h2 0
 have y1 : w1.cell? ⟨w.heap.size, 1, none⟩ = some (.int .i64 0) := by simp [World.cell?, h2]
 have f1 := blk_frozen h2 1
 have y2 : w1.cell? ⟨w.heap.size, 2, none⟩ = some (.int .i64 0) := by simp [World.cell?, h2]
 have f2 := blk_frozen h2 2
 have y3 : w1.cell? ⟨w.heap.size, 3, none⟩ = some (.int .i64 0) := by simp [World.cell?, h2]
 have f3 := blk_frozen h2 3
 have y4 : w1.cell? ⟨w.heap.size, 4, none⟩ = some (.int .i64 0) := by simp [World.cell?, h2]
 have f4 := blk_frozen h2 4
 have y5 : w1.cell? ⟨w.heap.size, 5, none⟩ = some (.int .i64 0) := by simp [World.cell?, h2]
 have f5 := blk_frozen h2 5
 have y6 : w1.cell? ⟨w.heap.size, 6, none⟩ = some (.slice none 0 0) := by simp [World.cell?, h2]
 have f6 := blk_frozen h2 6
 clear hst h1 h2 h3
 have hsz0 : W0.heap.size = w.heap.size + 2 := by rw [HW.out]; simp
 rw [hsz0] at hR
 have HD1 := ak (WGd.put (x := p.1) (v := .slice A p.1.f3.length cp) HK.out HS.out HRD.out H2.out H3.out hR)
 have HPI : Aside0 (((p.2 : Int) < (s.size : Int)) = False ∧ decide ((p.2 : Int) < (s.size : Int)) = false) := ⟨eq_false (by omega), decide_eq_false (by omega)⟩
 clear hR
 go_upto_region 3 with fail
 obtain ⟨W1, hW1⟩ : ∃ W1, W1 = (((((((w1.setCell ⟨w.heap.size, 0, none⟩ (.int .u8 p.1.f0)).setCell ⟨w.heap.size, 1, none⟩ (.int .i64 p.1.f1.f0)).setCell ⟨w.heap.size, 2, none⟩ (.int .i64 p.1.f1.f1)).setCell ⟨w.heap.size, 3, none⟩ (.int .i64 p.1.f1.f2)).setCell ⟨w.heap.size, 4, none⟩ (.int .i64 p.1.f1.f3)).setCell ⟨w.heap.size, 5, none⟩ (.int .i64 p.1.f2)).setCell ⟨w.heap.size, 6, none⟩ (.slice A p.1.f3.length cp)) := ⟨_, rfl⟩
 have HD1 : Aside0 (WGd w W1 b s off p.2 p.1 (.slice A p.1.f3.length cp)) := ⟨by rw [hW1]; exact HD1.out⟩
 rw [← hW1]
 clear hW1
 obtain ⟨c0, c1, c2⟩ := HD1.out.rd.cells
 obtain ⟨hpi, hpi2⟩ := HPI.out
 clear y0 y1 y2 y3 y4 y5 y6 f0 f1 f2 f3 f4 f5 f6
 go_quiet (fail)
 go_upto_region 5 with fail
 have HD2 := ak (HD1.out.below (pw_below_drewN (Below.refl _ _) nq))
 generalize W1.drewN nq = W2 at *
 have hcc := HD2.out.res
 have y0 : W2.cell? ⟨w.heap.size, 0, none⟩ = some (.int .u8 p.1.f0) := by simp [World.cell?, hcc]
 have y1 : W2.cell? ⟨w.heap.size, 1, none⟩ = some (.int .i64 p.1.f1.f0) := by simp [World.cell?, hcc]
 have y2 : W2.cell? ⟨w.heap.size, 2, none⟩ = some (.int .i64 p.1.f1.f1) := by simp [World.cell?, hcc]
 have y3 : W2.cell? ⟨w.heap.size, 3, none⟩ = some (.int .i64 p.1.f1.f2) := by simp [World.cell?, hcc]
 have y4 : W2.cell? ⟨w.heap.size, 4, none⟩ = some (.int .i64 p.1.f1.f3) := by simp [World.cell?, hcc]
 have y5 : W2.cell? ⟨w.heap.size, 5, none⟩ = some (.int .i64 p.1.f2) := by simp [World.cell?, hcc]
 have y6 : W2.cell? ⟨w.heap.size, 6, none⟩ = some (.slice A p.1.f3.length cp) := by simp [World.cell?, hcc]
 clear hcc
 obtain ⟨W3, hW3⟩ : ∃ W3, W3 = W2.alloc (.cells #[.int .u8 p.1.f0, .int .i64 p.1.f1.f0, .int .i64 p.1.f1.f1, .int .i64 p.1.f1.f2, .int .i64 p.1.f1.f3, .int .i64 p.1.f2, .slice A p.1.f3.length cp] 27) := ⟨_, rfl⟩
 have HD3 : Aside0 (WGd w W3 b s off p.2 p.1 (.slice A p.1.f3.length cp)) := ⟨by rw [hW3]; exact HD2.out.below (below_alloc (Below.refl _ _) _)⟩
 have HMC : Aside0 (Calls Tryz.prog 49 #[.slice (some ⟨W2.heap.size, 0, none⟩) 1 1] W3 fun e w' => e = .returned (.bool true) ∧ Below W3.heap.size W3 w') := ⟨HMM.out W3 _ (by rw [hW3]; exact (Kd.R_reads' (R_one (Nat.zero_le _) p.1 (Kd.R_lower HD2.out.kids (Nat.zero_le _)))).2.2)⟩
 have HW3 := ak hW3
 clear hW3
 go_wp2_with fail
 rw [← HW3.out]
 with_reducible refine HMC.out.mono ?_
 rintro e w4 ⟨rfl, hb4⟩
 have HD4 := ak (HD3.out.below hb4)
 clear hb4
 have hcc := HD4.out.res
 clear y0 y1 y2 y3 y4 y5 y6
 have y0 : w4.cell? ⟨w.heap.size, 0, none⟩ = some (.int .u8 p.1.f0) := by simp [World.cell?, hcc]
 have y1 : w4.cell? ⟨w.heap.size, 1, none⟩ = some (.int .i64 p.1.f1.f0) := by simp [World.cell?, hcc]
 have y2 : w4.cell? ⟨w.heap.size, 2, none⟩ = some (.int .i64 p.1.f1.f1) := by simp [World.cell?, hcc]
 have y3 : w4.cell? ⟨w.heap.size, 3, none⟩ = some (.int .i64 p.1.f1.f2) := by simp [World.cell?, hcc]
 have y4 : w4.cell? ⟨w.heap.size, 4, none⟩ = some (.int .i64 p.1.f1.f3) := by simp [World.cell?, hcc]
 have y5 : w4.cell? ⟨w.heap.size, 5, none⟩ = some (.int .i64 p.1.f2) := by simp [World.cell?, hcc]
 have y6 : w4.cell? ⟨w.heap.size, 6, none⟩ = some (.slice A p.1.f3.length cp) := by simp [World.cell?, hcc]
 clear hcc
 obtain ⟨W5, hW5⟩ : ∃ W5, W5 = w4.alloc (.cells #[.int .u8 p.1.f0, .int .i64 p.1.f1.f0, .int .i64 p.1.f1.f1, .int .i64 p.1.f1.f2, .int .i64 p.1.f1.f3, .int .i64 p.1.f2, .slice A p.1.f3.length cp] 27) := ⟨_, rfl⟩
 have HD5 : Aside0 (WGd w W5 b s off p.2 p.1 (.slice A p.1.f3.length cp)) := ⟨by rw [hW5]; exact HD4.out.below (below_alloc (Below.refl _ _) _)⟩
 have HTC : Aside0 (Calls Tryz.prog 50 #[.slice (some ⟨w4.heap.size, 0, none⟩) 1 1] W5 fun e w' => e = .returned (.bool false) ∧ Below W5.heap.size W5 w') := ⟨HTL.out W5 _ (by rw [hW5]; exact (Kd.R_reads' (R_one (Nat.zero_le _) p.1 (Kd.R_lower HD4.out.kids (Nat.zero_le _)))).2.2)⟩
 have HW5 := ak hW5
 clear hW5
 go_wp2_with fail
 rw [← HW5.out]
 with_reducible refine HTC.out.mono ?_
 rintro e w6 ⟨rfl, hb6⟩
 have HD6 := ak (HD5.out.below hb6)
 clear hb6
 go_wp2_with fail
 with_reducible refine (new_calls 5 0 w6 (by decide)).mono ?_
 rintro e w7 ⟨rfl, rfl⟩
 obtain ⟨W7, hW7⟩ : ∃ W7, W7 = w6.alloc (.cells #[.int .i64 5, .int .i64 0] 84) := ⟨_, rfl⟩
 have HD9 : Aside0 (WGd w W7 b s off p.2 p.1 (.slice A p.1.f3.length cp)) := ⟨by rw [hW7]; exact HD6.out.below (below_alloc (Below.refl _ _) _)⟩
 obtain ⟨g, hgg⟩ : ∃ g, g = w6.heap.size := ⟨_, rfl⟩
 have HG : Aside0 (w.heap.size + 2 ≤ g ∧ W7.heap[g]? = some (.cells #[.int .i64 5, .int .i64 0] 84 (0, 0))) := ⟨by rw [hgg]; exact blk_lt HD6.out.err, by rw [hW7, hgg]; exact heap_alloc_new w6 _⟩
 clear y0 y1 y2 y3 y4 y5 y6
 go_wp2
 rw [← hW7, ← hgg]
 clear hW7 hgg
 refine leaves_cons (f := 46) (args := #[.pointer (some ⟨w.heap.size, 0, none⟩), .pointer (some ⟨w.heap.size + 1, 0, none⟩)]) (by simp) (by simp [go_sem]) ?_
 refine (catch_panicking w.heap.size (w.heap.size + 1) g W7 _ _ (by rfl) HD9.out.res HD9.out.err (by omega)).mono ?_
 rintro e u' w'' ⟨rfl, rfl, w3, g', hb3, hin, rfl⟩
 have HCC := ak (caught_c (g' := g') (eb := w.heap.size + 1) ((hb3.block _ (blk_lt HD9.out.res)).trans HD9.out.res) (by omega) rfl)
 have HEE := ak (caught_e (g' := g') (cb := w.heap.size) ((hb3.block _ (blk_lt HD9.out.err)).trans HD9.out.err) (by omega))
 have HSZ := HD9.out.st.size
 have hlt : w.heap.size + 1 < W7.heap.size := blk_lt HD9.out.err
 have HII := ak (caught_in (g' := g') (cb := w.heap.size) (eb := w.heap.size + 1) hin (by omega) hlt)
 have HFF := ak (caught_far (g' := g') (cb := w.heap.size) (eb := w.heap.size + 1) ((hb3.block _ (blk_lt HG.out.2)).trans HG.out.2) (by have := HG.out.1; omega) (by have := HG.out.1; omega))
 have HTT : Aside0 (Step w b _ (CaughtW w3 w.heap.size (w.heap.size + 1) g')) := ⟨caught_st (Below.trans HD9.out.st (hb3.mono HD9.out.st.size)) (Nat.le_refl _) (Nat.le_succ _)⟩
 generalize CaughtW w3 w.heap.size (w.heap.size + 1) g' = WF at *
 have hc1 := HCC.out
 have he1 := HEE.out
 have z0 : WF.cell? ⟨w.heap.size + 1, 0, none⟩ = some (.iface 78 (.pointer (some ⟨g', 0, none⟩))) := by simp [World.cell?, he1]
 have y0 : WF.cell? ⟨w.heap.size, 0, none⟩ = some (.int .u8 0) := by simp [World.cell?, hc1]
 have y1 : WF.cell? ⟨w.heap.size, 1, none⟩ = some (.int .i64 0) := by simp [World.cell?, hc1]
 have y2 : WF.cell? ⟨w.heap.size, 2, none⟩ = some (.int .i64 0) := by simp [World.cell?, hc1]
 have y3 : WF.cell? ⟨w.heap.size, 3, none⟩ = some (.int .i64 0) := by simp [World.cell?, hc1]
 have y4 : WF.cell? ⟨w.heap.size, 4, none⟩ = some (.int .i64 0) := by simp [World.cell?, hc1]
 have y5 : WF.cell? ⟨w.heap.size, 5, none⟩ = some (.int .i64 0) := by simp [World.cell?, hc1]
 have y6 : WF.cell? ⟨w.heap.size, 6, none⟩ = some (.slice none 0 0) := by simp [World.cell?, hc1]
 clear hc1 he1 hin hb3
 have key : BadPost w b 5 0 (.returned (.tuple #[.agg zeroA, .iface 78 (.pointer (some ⟨g', 0, none⟩))])) WF :=
  ⟨g', g, rfl, ⟨Nat.le_trans HSZ HII.out.1, by obtain ⟨_, v, q1, q2⟩ := HII.out; exact ⟨v, q1, Kd.R_lower q2 HSZ⟩⟩, HFF.out, _, HTT.out⟩
 have HKEY := ak key
 clear key
 simp [Leaves, settle, results, Tryz.results27, go_sem, y0, y1, y2, y3, y4, y5, y6, z0]
 exact HKEY.out
def GoodPost (w : World) (b : Nat) (x : SC) (e : Ending) (w' : World) : Prop :=
 ∃ v, e = .returned (.tuple #[.agg (cellV x v), .nilIface]) ∧ Kd.R k27 27 w' w.heap.size (fun _ => True) v x.f3 ∧ ∃ j, Step w b j w'
set_option maxHeartbeats 8000000 in
theorem whole_good (hd : ByteArray → Int × Int × Int) (I : World → Prop) (w : World) (b : Nat) (s : ByteArray) (m : Nat) (off : Int) (hs : s.size ≤ 100000) (ho : 0 ≤ off ∧ off ≤ 1000) (hb : HeadB hd) (hc : HeadC hd b I) (hI : I w) (k : RdA w b s ((0 : Nat) : Int) off)
  (p : SC × Nat) (hr : cellP hd s m 0 1 = some (.ok p)) (hp : p.2 = s.size) (HMAY : ∀ W A, Kd.C k27 W (some A) 1 [p.1] → Calls Tryz.prog 49 #[.slice (some A) 1 1] W fun e w' => e = .returned (.bool true) ∧ Below W.heap.size W w') (HTIL : ∀ W A, Kd.C k27 W (some A) 1 [p.1] → Calls Tryz.prog 50 #[.slice (some A) 1 1] W fun e w' => e = .returned (.bool true) ∧ Below W.heap.size W w') :
  Calls Tryz.prog 27 #[.pointer (some ⟨b, 0, none⟩)] w (GoodPost w b p.1) := by
 have hmf : ∀ (fn : Fn) (first cap : Array Value) (w : World), (Instr.makeFunc fn first cap).run Tryz.prog w = .ok (.func fn first cap) w := fun _ _ _ _ => rfl
 obtain ⟨W0, hW0⟩ : ∃ W0, W0 = (w.alloc (.cells zeroA 27)).alloc (.cells #[.nilIface] 29) := ⟨_, rfl⟩
 have HP0 : Aside0 (WSt w W0 b s off 0 zeroA) := ⟨by rw [hW0]; exact WSt.new k⟩
 have HK := ak k
 have HMM := ak HMAY
 have HTL := ak HTIL
 have HI0 : Aside0 (I W0) := ⟨hc.step hI HP0.out.st⟩
 have HW := ak hW0
 have HN : Aside0 (Calls Tryz.prog 47 #[.pointer (some ⟨b, 0, none⟩), .int .i64 1] W0 (CellPost W0 b off (.ok p))) := ⟨cell_calls hd I W0 b s 0 1 m off hs ho (Nat.zero_le _) (by decide) hb hc HI0.out HP0.out.rd _ hr⟩
 clear hW0 k hI hr HMAY HTIL
 go_enter_defers Tryz.func27, Tryz.ntmps27
 go_wp2_with fail
 rw [← HW.out]
 with_reducible refine HN.out.mono ?_
 rintro e w1 ⟨v, rfl, hR, hst⟩
 obtain ⟨h1, h2, h3⟩ := HP0.out.step HK.out hst
 have HRD := ak (hst.rd HP0.out.rd)
 have HS := ak h1
 have H2 := ak h2
 have H3 := ak h3
 obtain ⟨A, cp, rfl⟩ := Kd.R_slice hR
 obtain ⟨c0, c1, c2⟩ := HRD.out.cells
 have y0 : w1.cell? ⟨w.heap.size, 0, none⟩ = some (.int .u8 0) := by simp [World.cell?, h2]
 have f0 := blk_frozen h2 0
 have y1 : w1.cell? ⟨w.heap.size, 1, none⟩ = some (.int .i64 0) := by simp [World.cell?, h2]
 have f1 := blk_frozen h2 1
 have y2 : w1.cell? ⟨w.heap.size, 2, none⟩ = some (.int .i64 0) := by simp [World.cell?, h2]
 have f2 := blk_frozen h2 2
 have y3 : w1.cell? ⟨w.heap.size, 3, none⟩ = some (.int .i64 0) := by simp [World.cell?, h2]
 have f3 := blk_frozen h2 3
 have y4 : w1.cell? ⟨w.heap.size, 4, none⟩ = some (.int .i64 0) := by simp [World.cell?, h2]
 have f4 := blk_frozen h2 4
 have y5 : w1.cell? ⟨w.heap.size, 5, none⟩ = some (.int .i64 0) := by simp [World.cell?, h2]
 have f5 := blk_frozen h2 5
 have y6 : w1.cell? ⟨w.heap.size, 6, none⟩ = some (.slice none 0 0) := by simp [World.cell?, h2]
 have f6 := blk_frozen h2 6
 clear hst h1 h2 h3
 have hsz0 : W0.heap.size = w.heap.size + 2 := by rw [HW.out]; simp
 rw [hsz0] at hR
 have HD1 := ak (WGd.put (x := p.1) (v := .slice A p.1.f3.length cp) HK.out HS.out HRD.out H2.out H3.out hR)
 have HPI : Aside0 (((p.2 : Int) < (s.size : Int)) = False ∧ decide ((p.2 : Int) < (s.size : Int)) = false) := ⟨eq_false (by omega), decide_eq_false (by omega)⟩
 clear hR
 go_upto_region 3 with fail
 obtain ⟨W1, hW1⟩ : ∃ W1, W1 = (((((((w1.setCell ⟨w.heap.size, 0, none⟩ (.int .u8 p.1.f0)).setCell ⟨w.heap.size, 1, none⟩ (.int .i64 p.1.f1.f0)).setCell ⟨w.heap.size, 2, none⟩ (.int .i64 p.1.f1.f1)).setCell ⟨w.heap.size, 3, none⟩ (.int .i64 p.1.f1.f2)).setCell ⟨w.heap.size, 4, none⟩ (.int .i64 p.1.f1.f3)).setCell ⟨w.heap.size, 5, none⟩ (.int .i64 p.1.f2)).setCell ⟨w.heap.size, 6, none⟩ (.slice A p.1.f3.length cp)) := ⟨_, rfl⟩
 have HD1 : Aside0 (WGd w W1 b s off p.2 p.1 (.slice A p.1.f3.length cp)) := ⟨by rw [hW1]; exact HD1.out⟩
 rw [← hW1]
 clear hW1
 obtain ⟨c0, c1, c2⟩ := HD1.out.rd.cells
 obtain ⟨hpi, hpi2⟩ := HPI.out
 clear y0 y1 y2 y3 y4 y5 y6 f0 f1 f2 f3 f4 f5 f6
 go_quiet (fail)
 go_upto_region 5 with fail
 have HD2 := ak (HD1.out.below (pw_below_drewN (Below.refl _ _) nq))
 generalize W1.drewN nq = W2 at *
 have hcc := HD2.out.res
 have y0 : W2.cell? ⟨w.heap.size, 0, none⟩ = some (.int .u8 p.1.f0) := by simp [World.cell?, hcc]
 have y1 : W2.cell? ⟨w.heap.size, 1, none⟩ = some (.int .i64 p.1.f1.f0) := by simp [World.cell?, hcc]
 have y2 : W2.cell? ⟨w.heap.size, 2, none⟩ = some (.int .i64 p.1.f1.f1) := by simp [World.cell?, hcc]
 have y3 : W2.cell? ⟨w.heap.size, 3, none⟩ = some (.int .i64 p.1.f1.f2) := by simp [World.cell?, hcc]
 have y4 : W2.cell? ⟨w.heap.size, 4, none⟩ = some (.int .i64 p.1.f1.f3) := by simp [World.cell?, hcc]
 have y5 : W2.cell? ⟨w.heap.size, 5, none⟩ = some (.int .i64 p.1.f2) := by simp [World.cell?, hcc]
 have y6 : W2.cell? ⟨w.heap.size, 6, none⟩ = some (.slice A p.1.f3.length cp) := by simp [World.cell?, hcc]
 clear hcc
 obtain ⟨W3, hW3⟩ : ∃ W3, W3 = W2.alloc (.cells #[.int .u8 p.1.f0, .int .i64 p.1.f1.f0, .int .i64 p.1.f1.f1, .int .i64 p.1.f1.f2, .int .i64 p.1.f1.f3, .int .i64 p.1.f2, .slice A p.1.f3.length cp] 27) := ⟨_, rfl⟩
 have HD3 : Aside0 (WGd w W3 b s off p.2 p.1 (.slice A p.1.f3.length cp)) := ⟨by rw [hW3]; exact HD2.out.below (below_alloc (Below.refl _ _) _)⟩
 have HMC : Aside0 (Calls Tryz.prog 49 #[.slice (some ⟨W2.heap.size, 0, none⟩) 1 1] W3 fun e w' => e = .returned (.bool true) ∧ Below W3.heap.size W3 w') := ⟨HMM.out W3 _ (by rw [hW3]; exact (Kd.R_reads' (R_one (Nat.zero_le _) p.1 (Kd.R_lower HD2.out.kids (Nat.zero_le _)))).2.2)⟩
 have HW3 := ak hW3
 clear hW3
 go_wp2_with fail
 rw [← HW3.out]
 with_reducible refine HMC.out.mono ?_
 rintro e w4 ⟨rfl, hb4⟩
 have HD4 := ak (HD3.out.below hb4)
 clear hb4
 have hcc := HD4.out.res
 clear y0 y1 y2 y3 y4 y5 y6
 have y0 : w4.cell? ⟨w.heap.size, 0, none⟩ = some (.int .u8 p.1.f0) := by simp [World.cell?, hcc]
 have y1 : w4.cell? ⟨w.heap.size, 1, none⟩ = some (.int .i64 p.1.f1.f0) := by simp [World.cell?, hcc]
 have y2 : w4.cell? ⟨w.heap.size, 2, none⟩ = some (.int .i64 p.1.f1.f1) := by simp [World.cell?, hcc]
 have y3 : w4.cell? ⟨w.heap.size, 3, none⟩ = some (.int .i64 p.1.f1.f2) := by simp [World.cell?, hcc]
 have y4 : w4.cell? ⟨w.heap.size, 4, none⟩ = some (.int .i64 p.1.f1.f3) := by simp [World.cell?, hcc]
 have y5 : w4.cell? ⟨w.heap.size, 5, none⟩ = some (.int .i64 p.1.f2) := by simp [World.cell?, hcc]
 have y6 : w4.cell? ⟨w.heap.size, 6, none⟩ = some (.slice A p.1.f3.length cp) := by simp [World.cell?, hcc]
 clear hcc
 obtain ⟨W5, hW5⟩ : ∃ W5, W5 = w4.alloc (.cells #[.int .u8 p.1.f0, .int .i64 p.1.f1.f0, .int .i64 p.1.f1.f1, .int .i64 p.1.f1.f2, .int .i64 p.1.f1.f3, .int .i64 p.1.f2, .slice A p.1.f3.length cp] 27) := ⟨_, rfl⟩
 have HD5 : Aside0 (WGd w W5 b s off p.2 p.1 (.slice A p.1.f3.length cp)) := ⟨by rw [hW5]; exact HD4.out.below (below_alloc (Below.refl _ _) _)⟩
 have HTC : Aside0 (Calls Tryz.prog 50 #[.slice (some ⟨w4.heap.size, 0, none⟩) 1 1] W5 fun e w' => e = .returned (.bool true) ∧ Below W5.heap.size W5 w') := ⟨HTL.out W5 _ (by rw [hW5]; exact (Kd.R_reads' (R_one (Nat.zero_le _) p.1 (Kd.R_lower HD4.out.kids (Nat.zero_le _)))).2.2)⟩
 have HW5 := ak hW5
 clear hW5
 go_wp2_with fail
 rw [← HW5.out]
 with_reducible refine HTC.out.mono ?_
 rintro e w6 ⟨rfl, hb6⟩
 have HD6 := ak (HD5.out.below hb6)
 clear hb6
 have hcc := HD6.out.res
 have hee := HD6.out.err
 clear y0 y1 y2 y3 y4 y5 y6
 have y0 : w6.cell? ⟨w.heap.size, 0, none⟩ = some (.int .u8 p.1.f0) := by simp [World.cell?, hcc]
 have f0 := blk_frozen hcc 0
 have y1 : w6.cell? ⟨w.heap.size, 1, none⟩ = some (.int .i64 p.1.f1.f0) := by simp [World.cell?, hcc]
 have f1 := blk_frozen hcc 1
 have y2 : w6.cell? ⟨w.heap.size, 2, none⟩ = some (.int .i64 p.1.f1.f1) := by simp [World.cell?, hcc]
 have f2 := blk_frozen hcc 2
 have y3 : w6.cell? ⟨w.heap.size, 3, none⟩ = some (.int .i64 p.1.f1.f2) := by simp [World.cell?, hcc]
 have f3 := blk_frozen hcc 3
 have y4 : w6.cell? ⟨w.heap.size, 4, none⟩ = some (.int .i64 p.1.f1.f3) := by simp [World.cell?, hcc]
 have f4 := blk_frozen hcc 4
 have y5 : w6.cell? ⟨w.heap.size, 5, none⟩ = some (.int .i64 p.1.f2) := by simp [World.cell?, hcc]
 have f5 := blk_frozen hcc 5
 have y6 : w6.cell? ⟨w.heap.size, 6, none⟩ = some (.slice A p.1.f3.length cp) := by simp [World.cell?, hcc]
 have f6 := blk_frozen hcc 6
 have z0 : w6.cell? ⟨w.heap.size + 1, 0, none⟩ = some .nilIface := by simp [World.cell?, hee]
 have z1 := blk_frozen hee 0
 clear hcc hee
 go_wp2
 refine leaves_cons (f := 46) (args := #[.pointer (some ⟨w.heap.size, 0, none⟩), .pointer (some ⟨w.heap.size + 1, 0, none⟩)]) (by simp) (by simp [go_sem]) ?_
 refine (catch_idle _ _ _).mono ?_
 rintro e u' w'' ⟨rfl, rfl, rfl⟩
 have key : GoodPost w b p.1 (.returned (.tuple #[.agg (cellV p.1 (.slice A p.1.f3.length cp)), .nilIface])) ((((((((w6.setCell ⟨w.heap.size, 0, none⟩ (.int .u8 p.1.f0)).setCell ⟨w.heap.size, 1, none⟩ (.int .i64 p.1.f1.f0)).setCell ⟨w.heap.size, 2, none⟩ (.int .i64 p.1.f1.f1)).setCell ⟨w.heap.size, 3, none⟩ (.int .i64 p.1.f1.f2)).setCell ⟨w.heap.size, 4, none⟩ (.int .i64 p.1.f1.f3)).setCell ⟨w.heap.size, 5, none⟩ (.int .i64 p.1.f2)).setCell ⟨w.heap.size, 6, none⟩ (.slice A p.1.f3.length cp)).setCell ⟨w.heap.size + 1, 0, none⟩ .nilIface) :=
  ⟨_, rfl, Kd.R_lower (R_setS (R_set7 HD6.out.kids (by omega) _ _ _ _ _ _ _) (p := ⟨w.heap.size + 1, 0, none⟩) (Nat.lt_succ_self _) _) (by omega), _, Below.setCell (step7 HD6.out.st _ _ _ _ _ _ _) (p := ⟨w.heap.size + 1, 0, none⟩) (Nat.le_succ _) _⟩
 have HKEY := ak key
 clear key
 simp [Leaves, settle, results, Tryz.results27, go_sem, y0, y1, y2, y3, y4, y5, y6, z0]
 exact HKEY.out
def wholeP (s : ByteArray) (may til : SC → Bool) (off : Int) : Except (Int × Nat) (SC × Nat) → Except (Int × Int) SC
 | .error q => .error (q.1, off + q.2)
 | .ok p => if p.2 < s.size then .error (2, off + p.2) else if may p.1 = false then .error (1, 0) else if til p.1 = false then .error (5, 0) else .ok p.1
def WholePost (w : World) (b : Nat) (e : Ending) (w' : World) : Except (Int × Int) SC → Prop
 | .error q => BadPost w b q.1 q.2 e w'
 | .ok x => GoodPost w b x e w'
theorem whole_calls (hd : ByteArray → Int × Int × Int) (I : World → Prop) (w : World) (b : Nat) (s : ByteArray) (m : Nat) (off : Int) (hs : s.size ≤ 100000) (ho : 0 ≤ off ∧ off ≤ 1000) (hb : HeadB hd) (hc : HeadC hd b I) (hI : I w) (k : RdA w b s ((0 : Nat) : Int) off)
  (r : Except (Int × Nat) (SC × Nat)) (hr : cellP hd s m 0 1 = some r) (may til : SC → Bool)
  (HMAY : ∀ p, r = .ok p → ∀ W A, Kd.C k27 W (some A) 1 [p.1] → Calls Tryz.prog 49 #[.slice (some A) 1 1] W fun e w' => e = .returned (.bool (may p.1)) ∧ Below W.heap.size W w')
  (HTIL : ∀ p, r = .ok p → may p.1 = true → ∀ W A, Kd.C k27 W (some A) 1 [p.1] → Calls Tryz.prog 50 #[.slice (some A) 1 1] W fun e w' => e = .returned (.bool (til p.1)) ∧ Below W.heap.size W w') :
  Calls Tryz.prog 27 #[.pointer (some ⟨b, 0, none⟩)] w fun e w' => WholePost w b e w' (wholeP s may til off r) := by
 cases r with
 | error q => exact whole_bad hd I w b s m off hs ho hb hc hI k q hr
 | ok p =>
  have hM := HMAY p rfl
  have hT := HTIL p rfl
  have hle := ((places hd hb s m).1 0 1 p (Nat.zero_le _) hr).2
  by_cases h1 : p.2 < s.size
  ·have e : wholeP s may til off (.ok p) = .error (2, off + p.2) := if_pos h1
   rw [e]
   exact whole_rest hd I w b s m off hs ho hb hc hI k p hr h1
  ·have h1' : p.2 = s.size := by omega
   cases h2 : may p.1 with
   | false =>
    rw [h2] at hM
    have e : wholeP s may til off (.ok p) = .error (1, 0) := by simp [wholeP, h1, h2]
    rw [e]
    exact whole_may hd I w b s m off hs ho hb hc hI k p hr h1' hM
   | true =>
    have hT := hT h2
    rw [h2] at hM
    cases h3 : til p.1 with
    | false =>
     rw [h3] at hT
     have e : wholeP s may til off (.ok p) = .error (5, 0) := by simp [wholeP, h1, h2, h3]
     rw [e]
     exact whole_tiles hd I w b s m off hs ho hb hc hI k p hr h1' hM hT
    | true =>
     rw [h3] at hT
     have e : wholeP s may til off (.ok p) = .ok p.1 := by simp [wholeP, h1, h2, h3]
     rw [e]
     exact whole_good hd I w b s m off hs ho hb hc hI k p hr h1' hM hT
def ReadPost (w : World) (e : Ending) (w' : World) : Except (Int × Int) SC → Prop
 | .error q => ∃ g' g, e = .returned (.tuple #[.agg zeroA, .iface 78 (.pointer (some ⟨g', 0, none⟩))]) ∧ Inside w' w.heap.size g' (.iface 82 (.pointer (some ⟨g, 0, none⟩))) [layB] ∧ w'.heap[g]? = some (.cells #[.int .i64 q.1, .int .i64 q.2] 84 (0, 0)) ∧ Below w.heap.size w w'
 | .ok x => ∃ v, e = .returned (.tuple #[.agg (cellV x v), .nilIface]) ∧ Kd.R k27 27 w' w.heap.size (fun _ => True) v x.f3 ∧ Below w.heap.size w w'
theorem set_above {w W : World} {b : Nat} {v : Value} (h : Below w.heap.size w W) (hb : w.heap.size ≤ b) : Below w.heap.size w (W.setCell ⟨b, 1, none⟩ v) := Below.setCell h (p := ⟨b, 1, none⟩) hb v
set_option maxHeartbeats 8000000 in
theorem text_ok (w : World) (s cb : ByteArray) (R : Except (Int × Int) SC)
  (HCUT : ∀ W, Below w.heap.size w W → Calls Tryz.prog 29 #[.string s] W fun e w' => e = .returned (.tuple #[.string cb, .int .i64 0]) ∧ Below W.heap.size W w')
  (HWH : ∀ W b, Below w.heap.size w W → w.heap.size ≤ b → RdA W b cb 0 5 → Calls Tryz.prog 27 #[.pointer (some ⟨b, 0, none⟩)] W fun e w' => WholePost W b e w' R) :
  Calls Tryz.prog 11 #[.string s] w fun e w' => ReadPost w e w' R := by
 obtain ⟨W0, hW0⟩ : ∃ W0, W0 = w.alloc (.cells zeroA 27) := ⟨_, rfl⟩
 have HB0 : Aside0 (Below w.heap.size w W0) := ⟨by rw [hW0]; exact below_alloc (Below.refl _ _) _⟩
 have HR0 : Aside0 (W0.heap[w.heap.size]? = some (.cells zeroA 27 (0, 0))) := ⟨by rw [hW0]; exact heap_alloc_new w _⟩
 have HC := ak (HCUT W0 HB0.out)
 have HWW := ak HWH
 have HW0 := ak hW0
 clear hW0 HCUT HWH
 go_enter Tryz.func11, Tryz.ntmps11
 go_wp2_with fail
 rw [← HW0.out]
 with_reducible refine HC.out.mono ?_
 rintro e w1 ⟨rfl, hb1⟩
 obtain ⟨b, hbe⟩ : ∃ b, b = w1.heap.size := ⟨_, rfl⟩
 obtain ⟨W1, hW1⟩ : ∃ W1, W1 = w1.alloc (.cells #[.string cb, .int .i64 0, .int .i64 5] 56) := ⟨_, rfl⟩
 have HB1 : Aside0 (Below w.heap.size w W1) := ⟨by rw [hW1]; exact Below.alloc (HB0.out.trans (hb1.mono HB0.out.size)) (Nat.le_trans HB0.out.size hb1.size) _⟩
 have hr1 := (hb1.block _ (blk_lt HR0.out)).trans HR0.out
 have HNB : Aside0 (w.heap.size < b) := ⟨by rw [hbe]; exact blk_lt hr1⟩
 have HRD : Aside0 (RdA W1 b cb 0 5) := ⟨by rw [hW1, hbe]; exact heap_alloc_new w1 _⟩
 have HRS : Aside0 (W1.heap[w.heap.size]? = some (.cells zeroA 27 (0, 0))) := ⟨by rw [hW1]; exact blk_alloc hr1 _⟩
 have HN := ak (HWW.out W1 b HB1.out (Nat.le_of_lt HNB.out) HRD.out)
 clear hr1 hb1 HC
 go_wp2_with fail
 rw [← hbe, ← hW1]
 clear hbe hW1
 with_reducible refine HN.out.mono ?_
 rintro e w2 h2
 cases R with
 | error q =>
  obtain ⟨g', g, rfl, hin, hg, jj, hst⟩ := h2
  have hres := (hst.block _ (blk_lt HRS.out)).trans ((Below.heap_setCell W1 ⟨b, 1, none⟩ _ _ (Nat.ne_of_lt HNB.out)).trans HRS.out)
  have HBW : Aside0 (Below w.heap.size w w2) := ⟨Below.trans (set_above HB1.out (Nat.le_of_lt HNB.out)) (Below.mono hst HB1.out.size)⟩
  have HIN := ak hin
  have HG := ak hg
  have hlt : w.heap.size < W1.heap.size := blk_lt HRS.out
  have hgn : g ≠ w.heap.size := by
   rintro rfl
   rw [hres] at hg
   simp at hg
  have y0 : w2.cell? ⟨w.heap.size, 0, none⟩ = some (.int .u8 0) := by simp [World.cell?, hres]
  have f0 := blk_frozen hres 0
  have y1 : w2.cell? ⟨w.heap.size, 1, none⟩ = some (.int .i64 0) := by simp [World.cell?, hres]
  have f1 := blk_frozen hres 1
  have y2 : w2.cell? ⟨w.heap.size, 2, none⟩ = some (.int .i64 0) := by simp [World.cell?, hres]
  have f2 := blk_frozen hres 2
  have y3 : w2.cell? ⟨w.heap.size, 3, none⟩ = some (.int .i64 0) := by simp [World.cell?, hres]
  have f3 := blk_frozen hres 3
  have y4 : w2.cell? ⟨w.heap.size, 4, none⟩ = some (.int .i64 0) := by simp [World.cell?, hres]
  have f4 := blk_frozen hres 4
  have y5 : w2.cell? ⟨w.heap.size, 5, none⟩ = some (.int .i64 0) := by simp [World.cell?, hres]
  have f5 := blk_frozen hres 5
  have y6 : w2.cell? ⟨w.heap.size, 6, none⟩ = some (.slice none 0 0) := by simp [World.cell?, hres]
  have f6 := blk_frozen hres 6
  clear hres hg hin hst
  go_wp2
  refine bodyPost_ret (v := .tuple #[.agg zeroA, .iface 78 (.pointer (some ⟨g', 0, none⟩))]) (by simp [results, Tryz.results11, go_sem, y0, y1, y2, y3, y4, y5, y6]) rfl ?_
  refine ⟨g', g, rfl, ?_, (blk_far (blk_far (blk_far (blk_far (blk_far (blk_far (blk_far HG.out (p := ⟨w.heap.size, 0, none⟩) hgn (.int .u8 0)) (p := ⟨w.heap.size, 1, none⟩) hgn (.int .i64 0)) (p := ⟨w.heap.size, 2, none⟩) hgn (.int .i64 0)) (p := ⟨w.heap.size, 3, none⟩) hgn (.int .i64 0)) (p := ⟨w.heap.size, 4, none⟩) hgn (.int .i64 0)) (p := ⟨w.heap.size, 5, none⟩) hgn (.int .i64 0)) (p := ⟨w.heap.size, 6, none⟩) hgn (.slice none 0 0)), (((((((HBW.out.setCell (p := ⟨w.heap.size, 0, none⟩) (Nat.le_refl _) _).setCell (p := ⟨w.heap.size, 1, none⟩) (Nat.le_refl _) _).setCell (p := ⟨w.heap.size, 2, none⟩) (Nat.le_refl _) _).setCell (p := ⟨w.heap.size, 3, none⟩) (Nat.le_refl _) _).setCell (p := ⟨w.heap.size, 4, none⟩) (Nat.le_refl _) _).setCell (p := ⟨w.heap.size, 5, none⟩) (Nat.le_refl _) _).setCell (p := ⟨w.heap.size, 6, none⟩) (Nat.le_refl _) _)⟩
  have hI := (ins_set (ins_set (ins_set (ins_set (ins_set (ins_set (ins_set HIN.out (p := ⟨w.heap.size, 0, none⟩) hlt (.int .u8 0)) (p := ⟨w.heap.size, 1, none⟩) hlt (.int .i64 0)) (p := ⟨w.heap.size, 2, none⟩) hlt (.int .i64 0)) (p := ⟨w.heap.size, 3, none⟩) hlt (.int .i64 0)) (p := ⟨w.heap.size, 4, none⟩) hlt (.int .i64 0)) (p := ⟨w.heap.size, 5, none⟩) hlt (.int .i64 0)) (p := ⟨w.heap.size, 6, none⟩) hlt (.slice none 0 0))
  exact ⟨Nat.le_trans (Nat.le_of_lt hlt) hI.1, by obtain ⟨_, v, q1, q2⟩ := hI; exact ⟨v, q1, Kd.R_lower q2 (Nat.le_of_lt hlt)⟩⟩
 | ok x =>
  obtain ⟨v, rfl, hR, jj, hst⟩ := h2
  have hres := (hst.block _ (blk_lt HRS.out)).trans ((Below.heap_setCell W1 ⟨b, 1, none⟩ _ _ (Nat.ne_of_lt HNB.out)).trans HRS.out)
  have HBW : Aside0 (Below w.heap.size w w2) := ⟨Below.trans (set_above HB1.out (Nat.le_of_lt HNB.out)) (Below.mono hst HB1.out.size)⟩
  have HR := ak hR
  have hlt : w.heap.size < W1.heap.size := blk_lt HRS.out
  obtain ⟨A, cp, rfl⟩ := Kd.R_slice hR
  have y0 : w2.cell? ⟨w.heap.size, 0, none⟩ = some (.int .u8 0) := by simp [World.cell?, hres]
  have f0 := blk_frozen hres 0
  have y1 : w2.cell? ⟨w.heap.size, 1, none⟩ = some (.int .i64 0) := by simp [World.cell?, hres]
  have f1 := blk_frozen hres 1
  have y2 : w2.cell? ⟨w.heap.size, 2, none⟩ = some (.int .i64 0) := by simp [World.cell?, hres]
  have f2 := blk_frozen hres 2
  have y3 : w2.cell? ⟨w.heap.size, 3, none⟩ = some (.int .i64 0) := by simp [World.cell?, hres]
  have f3 := blk_frozen hres 3
  have y4 : w2.cell? ⟨w.heap.size, 4, none⟩ = some (.int .i64 0) := by simp [World.cell?, hres]
  have f4 := blk_frozen hres 4
  have y5 : w2.cell? ⟨w.heap.size, 5, none⟩ = some (.int .i64 0) := by simp [World.cell?, hres]
  have f5 := blk_frozen hres 5
  have y6 : w2.cell? ⟨w.heap.size, 6, none⟩ = some (.slice none 0 0) := by simp [World.cell?, hres]
  have f6 := blk_frozen hres 6
  clear hres hR hst
  go_wp2
  refine bodyPost_ret (v := .tuple #[.agg (cellV x (.slice A x.f3.length cp)), .nilIface]) (by simp [results, Tryz.results11, go_sem, y0, y1, y2, y3, y4, y5, y6]) rfl ?_
  exact ⟨_, rfl, Kd.R_lower (R_set7 HR.out hlt _ _ _ _ _ _ _) (Nat.le_of_lt hlt), (((((((HBW.out.setCell (p := ⟨w.heap.size, 0, none⟩) (Nat.le_refl _) _).setCell (p := ⟨w.heap.size, 1, none⟩) (Nat.le_refl _) _).setCell (p := ⟨w.heap.size, 2, none⟩) (Nat.le_refl _) _).setCell (p := ⟨w.heap.size, 3, none⟩) (Nat.le_refl _) _).setCell (p := ⟨w.heap.size, 4, none⟩) (Nat.le_refl _) _).setCell (p := ⟨w.heap.size, 5, none⟩) (Nat.le_refl _) _).setCell (p := ⟨w.heap.size, 6, none⟩) (Nat.le_refl _) _)⟩
end Go.Proofs.YtkobpbbegalfpaaGreatDoor
namespace Go.Proofs.YtkobpbbegalfpaaGreatDoor
open Go.RowKit YtkobpbbegalfpaaGreatDoorW.PrintWords YtkobpbbegalfpaaGreatDoorW.PrintLast YtkobpbbegalfpaaGreatDoorW.PrintMore
set_option linter.unusedVariables false
theorem bytes_ext {a b : ByteArray} (h : a.toList = b.toList) : a = b := by
 rw [ByteArray.toList_eq, ByteArray.toList_eq] at h
 apply ByteArray.ext
 exact Array.ext' h
def lowV (c : Int) : Int := if 48 ≤ c ∧ c ≤ 57 then c - 48 else if 97 ≤ c ∧ c ≤ 102 then c - 87 else -1
theorem low_all : ∀ n : Fin 256, (0 ≤ lowV ((n.val : Nat) : Int) → hexV ((n.val : Nat) : Int) = lowV ((n.val : Nat) : Int)) ∧ (0 ≤ lowV ((n.val : Nat) : Int) → dgt (lowV ((n.val : Nat) : Int)) = UInt8.ofNat n.val) := by decide +kernel
theorem dgt_all : ∀ j : Fin 16, lowV ((dgt ((j.val : Nat) : Int)).toNat : Int) = ((j.val : Nat) : Int) := by decide +kernel
theorem byte_fin (c : UInt8) : ∃ n : Fin 256, c.toNat = n.val ∧ c = UInt8.ofNat n.val := ⟨⟨c.toNat, c.toNat_lt⟩, rfl, by simp⟩
theorem hexV_low (c : UInt8) (h : 0 ≤ lowV (c.toNat : Int)) : hexV (c.toNat : Int) = lowV (c.toNat : Int) := by
 obtain ⟨n, h1, _⟩ := byte_fin c
 rw [h1] at h ⊢
 exact (low_all n).1 h
theorem dgt_low (c : UInt8) (h : 0 ≤ lowV (c.toNat : Int)) : dgt (lowV (c.toNat : Int)) = c := by
 obtain ⟨n, h1, h2⟩ := byte_fin c
 rw [h1] at h ⊢
 rw [h2]
 exact (low_all n).2 h
theorem low_dgt (j : Int) (h0 : 0 ≤ j) (h1 : j < 16) : lowV ((dgt j).toNat : Int) = j := by
 obtain ⟨m, rfl⟩ := Int.eq_ofNat_of_zero_le h0
 exact dgt_all ⟨m, by omega⟩
theorem lowV_range (c : Int) : -1 ≤ lowV c ∧ lowV c < 16 := by unfold lowV; split <;> (try split) <;> omega
def unhexL : List UInt8 → Option Int
 | [a, b, c, d] => if 0 ≤ lowV (a.toNat : Int) ∧ 0 ≤ lowV (b.toNat : Int) ∧ 0 ≤ lowV (c.toNat : Int) ∧ 0 ≤ lowV (d.toNat : Int) then
   some (16 * (16 * (16 * lowV (a.toNat : Int) + lowV (b.toNat : Int)) + lowV (c.toNat : Int)) + lowV (d.toNat : Int)) else none
 | _ => none
def unhexS (s : ByteArray) : Option Int := unhexL s.data.toList
theorem unhexL_some {l : List UInt8} {u : Int} (h : unhexL l = some u) : ∃ a b c d : UInt8, l = [a, b, c, d] ∧ (0 ≤ lowV (a.toNat : Int) ∧ 0 ≤ lowV (b.toNat : Int) ∧ 0 ≤ lowV (c.toNat : Int) ∧ 0 ≤ lowV (d.toNat : Int)) ∧
  u = 16 * (16 * (16 * lowV (a.toNat : Int) + lowV (b.toNat : Int)) + lowV (c.toNat : Int)) + lowV (d.toNat : Int) := by
 match l, h with
 | [a, b, c, d], h =>
  simp only [unhexL] at h
  split at h
  ·rename_i hc
   injection h with h
   exact ⟨a, b, c, d, rfl, hc, h.symm⟩
  ·cases h
 | [], h => cases h
 | [_], h => cases h
 | [_, _], h => cases h
 | [_, _, _], h => cases h
 | _ :: _ :: _ :: _ :: _ :: _, h => cases h
theorem unhexS_range {s : ByteArray} {u : Int} (h : unhexS s = some u) : 0 ≤ u ∧ u < 65536 := by
 obtain ⟨a, b, c, d, _, _, rfl⟩ := unhexL_some h
 have := lowV_range (a.toNat : Int); have := lowV_range (b.toNat : Int); have := lowV_range (c.toNat : Int); have := lowV_range (d.toNat : Int)
 omega
theorem hex4_unhex {s : ByteArray} {u : Int} (h : unhexS s = some u) : hex4 u = s := by
 obtain ⟨a, b, c, d, hl, ⟨ha, hb, hc, hd⟩, hu⟩ := unhexL_some h
 have ra := lowV_range (a.toNat : Int); have rb := lowV_range (b.toNat : Int); have rc := lowV_range (c.toNat : Int); have rd := lowV_range (d.toNat : Int)
 have e0 : u / 4096 = lowV (a.toNat : Int) := by omega
 have e1 : u / 256 % 16 = lowV (b.toNat : Int) := by omega
 have e2 : u / 16 % 16 = lowV (c.toNat : Int) := by omega
 have e3 : u % 16 = lowV (d.toNat : Int) := by omega
 unfold hex4
 rw [e0, e1, e2, e3, dgt_low a ha, dgt_low b hb, dgt_low c hc, dgt_low d hd]
 apply ByteArray.ext
 apply Array.ext'
 rw [hl]
theorem unhex_hex4 (n : Int) (h0 : 0 ≤ n) (h1 : n < 65536) : unhexS (hex4 n) = some n := by
 have e : unhexS (hex4 n) = unhexL [dgt (n / 4096), dgt (n / 256 % 16), dgt (n / 16 % 16), dgt (n % 16)] := rfl
 rw [e]
 simp only [unhexL]
 rw [low_dgt _ (by omega) (by omega), low_dgt _ (by omega) (by omega), low_dgt _ (by omega) (by omega), low_dgt _ (by omega) (by omega), if_pos (by omega)]
 congr 1
 omega
theorem parseHex_range : ∀ (l : List UInt8) (acc u : Int), 0 ≤ acc → acc ≤ 65535 → parseHexM acc l = .ok u → 0 ≤ u ∧ u ≤ 65535
 | [], acc, u, h0, h1, h => by unfold parseHexM at h; injection h with h; omega
 | c :: r, acc, u, h0, h1, h => by
  unfold parseHexM at h
  split at h
  ·cases h
  ·split at h
   ·cases h
   ·exact parseHex_range r _ u (by omega) (by omega) h
theorem hexRead_range {s : ByteArray} {u : Int} (h : hexRead s = some u) : 0 ≤ u ∧ u ≤ 65535 := by
 unfold hexRead at h
 split at h
 ·cases h
 ·rcases hp : parseHexM 0 s.data.toList with n | _ | _
  ·rw [hp] at h; injection h with h; subst h; exact parseHex_range _ 0 _ (by omega) (by omega) hp
  ·rw [hp] at h; cases h
  ·rw [hp] at h; cases h
theorem hexRead_unhex {s : ByteArray} {u : Int} (h : unhexS s = some u) : hexRead s = some u := by
 obtain ⟨a, b, c, d, hl, ⟨ha, hb, hc, hd⟩, hu⟩ := unhexL_some h
 have ra := lowV_range (a.toNat : Int); have rb := lowV_range (b.toNat : Int); have rc := lowV_range (c.toNat : Int); have rd := lowV_range (d.toNat : Int)
 have hz : ¬ s.size = 0 := by
  have := congrArg List.length hl
  have e : s.data.toList.length = s.size := by simp
  simp at this
  omega
 unfold hexRead
 rw [if_neg hz, hl]
 have hv : parseHexM 0 [a, b, c, d] = .ok u := by
  simp only [parseHexM]
  rw [hexV_low a ha, hexV_low b hb, hexV_low c hc, hexV_low d hd]
  rw [if_neg (by omega), if_neg (by omega), if_neg (by omega), if_neg (by omega), if_neg (by omega), if_neg (by omega), if_neg (by omega), if_neg (by omega)]
  congr 1
  omega
 rw [hv]
def rhR (s : ByteArray) : Int × Int := match unhexS s with
 | some u => (u, 0)
 | none => (0, 2)
theorem rhR_of (s : ByteArray) : rhR s = match hexRead s with
  | some u => if hex4 u = s then (u, 0) else (0, 2)
  | none => (0, 2) := by
 unfold rhR
 rcases hu : unhexS s with _ | u
 ·rcases hr : hexRead s with _ | v
  ·rfl
  ·have hr2 := hexRead_range hr
   by_cases e : hex4 v = s
   ·rw [← e, unhex_hex4 v hr2.1 (by omega)] at hu; cases hu
   ·simp only [if_neg e]
 ·rw [hexRead_unhex hu]
  simp only [if_pos (hex4_unhex hu)]
end Go.Proofs.YtkobpbbegalfpaaGreatDoor
namespace Go.Proofs.YtkobpbbegalfpaaGreatDoor
open Go.RowKit YtkobpbbegalfpaaGreatDoorW.PrintWords YtkobpbbegalfpaaGreatDoorW.PrintLast YtkobpbbegalfpaaGreatDoorW.PrintMore PParseBodies
set_option linter.unusedVariables false
theorem of_calls (w : World) (A : Option Addr) (c : Nat) (l : List ByteArray) (h : Kd.string.C w A l.length l) (hc : l.length ≤ c) (hs : ∀ x ∈ l, x.size ≤ 9223372036854775806) :
  Calls Tryz.prog 54 #[.slice A l.length c] w fun e w' => e = .returned (.int .u16 (sumL 0 (allB l))) ∧ Drawn0 w w' := by
 obtain ⟨k, hk⟩ := of_pure l (by have := Kd.C_max h; omega) hs
 exact sum_Of.calls k A c l _ w h hc hk
theorem allB_one (s : ByteArray) : allB [s] = s.data.toList := by simp [allB]
theorem of1_calls (s : ByteArray) (hs : s.size ≤ 9223372036854775806) (w : World) :
  Calls Tryz.prog 54 #[.slice (some ⟨w.heap.size, 0, none⟩) 1 1] (w.alloc (.cells #[.string s] 9)) fun e w' => e = .returned (.int .u16 (sumL 0 s.data.toList)) ∧ Below w.heap.size w w' := by
 have h := of_calls (w.alloc (.cells #[.string s] 9)) (some ⟨w.heap.size, 0, none⟩) 1 [s] (nlitC w 9 [s] (by simp)) (Nat.le_refl _) (fun x hx => by rw [List.mem_singleton.1 hx]; exact hs)
 rw [allB_one] at h
 exact h.mono fun e w' ⟨h1, h2⟩ => ⟨h1, (below_alloc (Below.refl _ _) _).trans (h2.below.mono (by simp))⟩
def putS (s : ByteArray) : ByteArray := (hex4 (sumL 0 s.data.toList) ++ (⟨#[44]⟩ : ByteArray)) ++ s
theorem hex4_size (n : Int) : (hex4 n).size = 4 := rfl
theorem put_calls (s : ByteArray) (hs : s.size ≤ 1000000) (w : World) (hT : NumT w) : Calls Tryz.prog 40 #[.string s] w fun e w' => e = .returned (.string (putS s)) ∧ Below w.heap.size w w' := by
 have HO := ak (of1_calls s (by omega) w)
 have hr := sumL_range s.data.toList 0 (by omega) (by omega)
 have HT := ak hT
 unfold putS
 generalize sumL 0 s.data.toList = n at *
 have HH := ak (fun w' (hb : Below w.heap.size w w') => hex_calls n hr.1 hr.2 w' (HT.out.below hb))
 have hz := hex4_size n
 have hz2 : (hex4 n ++ (⟨#[44]⟩ : ByteArray)).size = 5 := by rw [ByteArray.size_append, hz]; rfl
 clear hT hr
 generalize hex4 n = x at *
 have hz1 : x.size + 1 ≤ 9223372036854775807 := by omega
 have hz3 : (x ++ (⟨#[44]⟩ : ByteArray)).size + s.size ≤ 9223372036854775807 := by omega
 clear hz2 hz
 go_enter Tryz.func40, Tryz.ntmps40
 go_wp2_with (first | (go_at_call 54; refine HO.out.mono ?_; rintro e w1 ⟨rfl, hb⟩; replace hb := ak hb) | (go_at_call 61; refine (HH.out _ hb.out).mono ?_; rintro e w2 ⟨rfl, hb2⟩))
 go_ret
 exact ⟨rfl, hb.out.trans (hb2.mono hb.out.size)⟩
end Go.Proofs.YtkobpbbegalfpaaGreatDoor
