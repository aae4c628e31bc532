/- Printed texts of this seat, cut to what is used. -/
import Derived.Test.YtmcjfnebkpifnaaGreatDoorRdSplit
import Derived.Test.YtmcjfnebkpifnaaGreatDoorNumPureS
import Derived.Deep.RegionHeld3
namespace Go.Proofs.YtmcjfnebkpifnaaGreatDoor
open Go.RowKit Go.Proofs.YtmcjfnebkpifnaaGreatDoorW.PrintWords Go.Proofs.YtmcjfnebkpifnaaGreatDoorW.PrintLast Go.Proofs.YtmcjfnebkpifnaaGreatDoorW.PrintMore Go.Proofs.YtmcjfnebkpifnaaGreatDoor.PScriptReads
set_option linter.unusedVariables false
set_option linter.unusedSimpArgs false
set_option maxRecDepth 100000

theorem box_set {w : World} {b : Nat} {h : SH} (k : BoxH w b h) (g : SH) : BoxH (((w.setCell ⟨b, 0, none⟩ (.int .u8 g.f0)).setCell ⟨b, 1, none⟩ (.int .i64 g.f1)).setCell ⟨b, 2, none⟩ (.string g.f2)) b g := by
  have k1 := blk_set k 0 (.int .u8 g.f0)
  have k2 := blk_set k1 1 (.int .i64 g.f1)
  have k3 := blk_set k2 2 (.string g.f2)
  exact k3
theorem BoxH.fro {w : World} {b : Nat} {h : SH} (k : BoxH w b h) : w.frozen? ⟨b, 0, none⟩ = false ∧ w.frozen? ⟨b, 1, none⟩ = false ∧ w.frozen? ⟨b, 2, none⟩ = false :=
  ⟨blk_frozen k 0, blk_frozen k 1, blk_frozen k 2⟩
/-- What stands while a line is read: the result's variable, and the happening's. -/
structure RS (w W : World) (b : Nat) (h : SH) : Prop where
  bel : Below w.heap.size w W
  res : BoxH W w.heap.size ⟨0, 0, ⟨#[]⟩⟩
  hap : BoxH W b h
  lt : w.heap.size < b
theorem RS.below {w W W' : World} {b : Nat} {h : SH} (k : RS w W b h) (hb : Below W.heap.size W W') : RS w W' b h :=
  ⟨k.bel.trans (hb.mono k.bel.size), k.res.below hb, k.hap.below hb, k.lt⟩
theorem RS.one {w W : World} {b : Nat} {h : SH} (k : RS w W b h) (n : Int) : RS w (W.setCell ⟨b, 1, none⟩ (.int .i64 n)) b ⟨h.f0, n, h.f2⟩ :=
  ⟨k.bel.setCell (p := ⟨b, 1, none⟩) (Nat.le_of_lt k.lt) _, blk_far k.res (p := ⟨b, 1, none⟩) (Nat.ne_of_lt k.lt) _, blk_set k.hap 1 _, k.lt⟩
theorem RS.two {w W : World} {b : Nat} {h : SH} (k : RS w W b h) (x : ByteArray) : RS w (W.setCell ⟨b, 2, none⟩ (.string x)) b ⟨h.f0, h.f1, x⟩ :=
  ⟨k.bel.setCell (p := ⟨b, 2, none⟩) (Nat.le_of_lt k.lt) _, blk_far k.res (p := ⟨b, 2, none⟩) (Nat.ne_of_lt k.lt) _, blk_set k.hap 2 _, k.lt⟩
theorem RS.new {w W : World} (hb : Below w.heap.size w W) (hr : BoxH W w.heap.size ⟨0, 0, ⟨#[]⟩⟩) (g : SH) :
    RS w (W.alloc (.cells #[.int .u8 g.f0, .int .i64 g.f1, .string g.f2] 43)) W.heap.size g :=
  ⟨hb.alloc hb.size _, BoxH.below hr (below_alloc (Below.refl _ _) _), BoxH.new W g, blk_lt hr⟩
/-- What is needed to write the result. -/
abbrev ResF (w W : World) : Prop := (W.cell? ⟨w.heap.size, 0, none⟩ = some (.int .u8 0) ∧ W.cell? ⟨w.heap.size, 1, none⟩ = some (.int .i64 0) ∧ W.cell? ⟨w.heap.size, 2, none⟩ = some (.string ⟨#[]⟩)) ∧ W.frozen? ⟨w.heap.size, 0, none⟩ = false ∧ W.frozen? ⟨w.heap.size, 1, none⟩ = false ∧ W.frozen? ⟨w.heap.size, 2, none⟩ = false
theorem RS.resF {w W : World} {b : Nat} {h : SH} (k : RS w W b h) : ResF w W := ⟨k.res.cells, k.res.fro⟩
theorem RS.done {w W : World} {b : Nat} {h : SH} (k : RS w W b h) (g : SH) :
    (((((W.setCell ⟨w.heap.size, 0, none⟩ (.int .u8 g.f0)).setCell ⟨w.heap.size, 1, none⟩ (.int .i64 g.f1)).setCell ⟨w.heap.size, 2, none⟩ (.string g.f2)).cell? ⟨w.heap.size, 0, none⟩ = some (.int .u8 g.f0)) ∧ ((((W.setCell ⟨w.heap.size, 0, none⟩ (.int .u8 g.f0)).setCell ⟨w.heap.size, 1, none⟩ (.int .i64 g.f1)).setCell ⟨w.heap.size, 2, none⟩ (.string g.f2)).cell? ⟨w.heap.size, 1, none⟩ = some (.int .i64 g.f1)) ∧ ((((W.setCell ⟨w.heap.size, 0, none⟩ (.int .u8 g.f0)).setCell ⟨w.heap.size, 1, none⟩ (.int .i64 g.f1)).setCell ⟨w.heap.size, 2, none⟩ (.string g.f2)).cell? ⟨w.heap.size, 2, none⟩ = some (.string g.f2))) ∧
      Below w.heap.size w (((W.setCell ⟨w.heap.size, 0, none⟩ (.int .u8 g.f0)).setCell ⟨w.heap.size, 1, none⟩ (.int .i64 g.f1)).setCell ⟨w.heap.size, 2, none⟩ (.string g.f2)) :=
  ⟨(box_set k.res g).cells, ((k.bel.setCell (Nat.le_refl _) _).setCell (Nat.le_refl _) _).setCell (Nat.le_refl _) _⟩
def ReadPost (w : World) (L : List UInt8) (h : SH) (e : Ending) (w' : World) : Prop :=
  ∃ b : Bool, e = .returned (.tuple #[.agg #[.int .u8 h.f0, .int .i64 h.f1, .string h.f2], .bool b]) ∧ Below w.heap.size w w' ∧ Aside0 (b = true ↔ (mayB h = true ∧ lineB h = L))
def ReadNo (w : World) (e : Ending) (w' : World) : Prop :=
  ∃ h : SH, e = .returned (.tuple #[.agg #[.int .u8 h.f0, .int .i64 h.f1, .string h.f2], .bool false]) ∧ Below w.heap.size w w'
theorem str_same (a : List UInt8) (s : ByteArray) : (a = s.data.toList → (bsOf a).toList = s.toList ∧ ((bsOf a).toList == s.toList) = true) ∧ (¬ a = s.data.toList → ¬ (bsOf a).toList = s.toList ∧ ((bsOf a).toList == s.toList) = false) := by
  rw [ByteArray.toList_eq, ByteArray.toList_eq, bs_list]
  exact ⟨fun h => ⟨h, beq_iff_eq.2 h⟩, fun h => ⟨h, beq_eq_false_iff_ne.2 h⟩⟩


set_option maxHeartbeats 8000000 in
theorem readA_calls (w : World) (s : ByteArray) (hs : s.size ≤ 50000) (hT : NumT w) (hE : NumE w) (hM : MaxT w) (p : List UInt8) (tl : List (List UInt8)) (hsp : splitP s.data.toList = p :: tl) (hkx : kI p = -1) :
    Calls Tryz.prog 26 #[.string s] w fun e w' => ReadNo w e w' := by
  obtain ⟨W0, hW0⟩ : ∃ W0, W0 = w.alloc (.cells #[.int .u8 0, .int .i64 0, .string ⟨#[]⟩] 43) := ⟨_, rfl⟩
  have hb0 : Below w.heap.size w W0 := by rw [hW0]; exact below_alloc (Below.refl _ _) _
  have hx0 : BoxH W0 w.heap.size ⟨0, 0, ⟨#[]⟩⟩ := by rw [hW0]; exact BoxH.new w ⟨0, 0, ⟨#[]⟩⟩
  have HSP := Aside0.mk (splitn_calls s W0 (by omega) (hM.below hb0))
  have HB0 := Aside0.mk hb0
  have HX0 := Aside0.mk hx0
  have HW := Aside0.mk hW0
  have HT := Aside0.mk hT
  have HE := Aside0.mk hE
  have HSS := Aside0.mk hs
  rw [hsp] at HSP
  have HKX := Aside0.mk hkx
  clear hkx
  clear hb0 hx0 hW0 hM hT hE hsp hs
  go_enter Tryz.func26, Tryz.ntmps26
  go_upto_region 1 with fail
  rw [← HW.out]
  go_wp2_with fail
  with_reducible refine HSP.out.mono ?_
  rintro e w1 ⟨c1, rfl, hc1, hcell, hb⟩
  have HB1 := Aside0.mk (HB0.out.trans (hb.mono HB0.out.size))
  have HX1 := Aside0.mk (HX0.out.below hb)
  have HCE := Aside0.mk hcell
  have h0 : w1.cell? ⟨W0.heap.size, 0, none⟩ = some (.string (bsOf p)) := hcell 0 (by simp)
  have CL : Aside0 (∀ W, Below w1.heap.size w1 W → W.cell? ⟨W0.heap.size, 0, none⟩ = some (.string (bsOf p))) := ⟨fun W hb => pw_cell_below hb h0⟩
  have HKI : Aside0 (∀ W, Below w1.heap.size w1 W → Calls Tryz.prog 34 #[] W fun e w' => ∃ A c, e = .returned (.slice (some A) 6 c) ∧ 6 ≤ c ∧ Aside0 (Kd.string.C w' (some A) 6 kindS) ∧ Below w1.heap.size w1 w') :=
    ⟨fun W hb => (kinds_calls W).mono fun e w' ⟨A, c, q1, q2, q3, q4⟩ => ⟨A, c, q1, q2, ⟨q3⟩, hb.trans (q4.mono hb.size)⟩⟩
  have HIX : Aside0 (∀ W A c, Aside0 (Kd.string.C W (some A) 6 kindS) → 6 ≤ c → Below w1.heap.size w1 W → Calls Tryz.prog 45 #[.slice (some A) 6 c, .string (bsOf p)] W fun e w' => e = .returned (.int .i64 (-1)) ∧ Below w1.heap.size w1 w') :=
    ⟨fun W A c hC hc hb => (sidx_calls W (some A) c p hC.out hc).mono fun e w' ⟨q1, q2⟩ => ⟨by rw [q1, HKX.out], hb.trans (q2.mono hb.size)⟩⟩
  have hbd : Below w1.heap.size w1 w1.drew := below_drew (Below.refl _ _)
  have hn0 : 0 < tl.length + 1 := by omega
  have hn2 : (0 : Int) < ((tl.length + 1 : Nat) : Int) := by omega
  clear hb hcell HSP
  simp only [List.length_cons, List.length_nil, Nat.zero_add, Nat.reduceAdd] at hc1 ⊢
  go_wp2_with fail
  go_region_held3 (fun W => W.cell? ⟨W0.heap.size, 0, none⟩ = some (.string (bsOf p))) (first | exact h0 | exact CL.out _ (by assumption))
    (first
      | (go_at_call 34; with_reducible refine (HKI.out _ (by assumption)).mono ?_; rintro ev wk ⟨adk, ck, rfl, hck, hCk, hbk⟩)
      | (go_at_call 45; with_reducible refine (HIX.out _ _ _ (by assumption) (by assumption) (by assumption)).mono ?_; rintro ev wi ⟨rfl, hbi⟩))
  have HBI := Aside0.mk (HB1.out.trans (hbi.mono HB1.out.size))
  have HXI := Aside0.mk (HX1.out.below hbi)
  have HCI : Aside0 (∀ i, i < (p :: tl).length → wi.cell? ⟨W0.heap.size, i, none⟩ = some (.string (bsOf ((p :: tl).getD i [])))) := ⟨fun i hi => pw_cell_below hbi (HCE.out i hi)⟩
  clear hbi hbk hCk hbd h0 CL HKI HIX hn0 hn2 HCE
  have HZX := HXI
  have HZB := HBI
  have HXS := Aside0.mk (box_set HZX.out ⟨0, 0, ⟨#[]⟩⟩)
  obtain ⟨e0, e1, e2⟩ := HZX.out.cells
  obtain ⟨f0, f1, f2⟩ := HZX.out.fro
  have HBS : Aside0 (∀ (a0 a1 a2 : Value), Below w.heap.size w (((wi.setCell ⟨w.heap.size, 0, none⟩ a0).setCell ⟨w.heap.size, 1, none⟩ a1).setCell ⟨w.heap.size, 2, none⟩ a2)) := ⟨fun a0 a1 a2 => ((HZB.out.setCell (Nat.le_refl _) _).setCell (Nat.le_refl _) _).setCell (Nat.le_refl _) _⟩
  obtain ⟨g0, g1, g2⟩ := HXS.out.cells
  go_wp2
  exact bodyPost_ret (v := .tuple #[.agg #[.int .u8 0, .int .i64 0, .string ⟨#[]⟩], .bool false]) (by simp [results, Tryz.results26, go_sem, g0, g1, g2]) rfl ⟨⟨0, 0, ⟨#[]⟩⟩, rfl, HBS.out _ _ _⟩

set_option maxHeartbeats 8000000 in
theorem readB_calls (w : World) (s : ByteArray) (hs : s.size ≤ 50000) (hT : NumT w) (hE : NumE w) (hM : MaxT w) (p : List UInt8) (hsp : splitP s.data.toList = [p]) (k : Nat) (hk : k < 6) (hkx : kI p = (k : Int)) (kd : Int) (hK : kd = ((k + 1 : Nat) : Int)) :
    Calls Tryz.prog 26 #[.string s] w fun e w' => ReadPost w s.data.toList ⟨kd, 0, ⟨#[]⟩⟩ e w' := by
  obtain ⟨W0, hW0⟩ : ∃ W0, W0 = w.alloc (.cells #[.int .u8 0, .int .i64 0, .string ⟨#[]⟩] 43) := ⟨_, rfl⟩
  have hb0 : Below w.heap.size w W0 := by rw [hW0]; exact below_alloc (Below.refl _ _) _
  have hx0 : BoxH W0 w.heap.size ⟨0, 0, ⟨#[]⟩⟩ := by rw [hW0]; exact BoxH.new w ⟨0, 0, ⟨#[]⟩⟩
  have HSP := Aside0.mk (splitn_calls s W0 (by omega) (hM.below hb0))
  have HB0 := Aside0.mk hb0
  have HX0 := Aside0.mk hx0
  have HW := Aside0.mk hW0
  have HT := Aside0.mk hT
  have HE := Aside0.mk hE
  have HSS := Aside0.mk hs
  rw [hsp] at HSP
  have HKX := Aside0.mk hkx
  have hw1 : IntKind.u8.wrap (k : Int) = (k : Int) := by rw [show IntKind.u8.wrap (k : Int) = (k : Int) % 256 by simp [IntKind.wrap, IntKind.bits, IntKind.signed]]; omega
  have hw2 : IntKind.u8.wrap (1 + (k : Int)) = kd := by rw [show IntKind.u8.wrap (1 + (k : Int)) = (1 + (k : Int)) % 256 by simp [IntKind.wrap, IntKind.bits, IntKind.signed]]; omega
  have HSX : Aside0 ((⟨#[]⟩ : ByteArray).size ≤ 50000) := ⟨by decide⟩
  clear hkx hK
  clear hb0 hx0 hW0 hM hT hE hsp hs
  go_enter Tryz.func26, Tryz.ntmps26
  go_upto_region 1 with fail
  rw [← HW.out]
  go_wp2_with fail
  with_reducible refine HSP.out.mono ?_
  rintro e w1 ⟨c1, rfl, hc1, hcell, hb⟩
  have HB1 := Aside0.mk (HB0.out.trans (hb.mono HB0.out.size))
  have HX1 := Aside0.mk (HX0.out.below hb)
  have HCE := Aside0.mk hcell
  have h0 : w1.cell? ⟨W0.heap.size, 0, none⟩ = some (.string (bsOf p)) := hcell 0 (by simp)
  have CL : Aside0 (∀ W, Below w1.heap.size w1 W → W.cell? ⟨W0.heap.size, 0, none⟩ = some (.string (bsOf p))) := ⟨fun W hb => pw_cell_below hb h0⟩
  have HKI : Aside0 (∀ W, Below w1.heap.size w1 W → Calls Tryz.prog 34 #[] W fun e w' => ∃ A c, e = .returned (.slice (some A) 6 c) ∧ 6 ≤ c ∧ Aside0 (Kd.string.C w' (some A) 6 kindS) ∧ Below w1.heap.size w1 w') :=
    ⟨fun W hb => (kinds_calls W).mono fun e w' ⟨A, c, q1, q2, q3, q4⟩ => ⟨A, c, q1, q2, ⟨q3⟩, hb.trans (q4.mono hb.size)⟩⟩
  have HIX : Aside0 (∀ W A c, Aside0 (Kd.string.C W (some A) 6 kindS) → 6 ≤ c → Below w1.heap.size w1 W → Calls Tryz.prog 45 #[.slice (some A) 6 c, .string (bsOf p)] W fun e w' => e = .returned (.int .i64 (k : Int)) ∧ Below w1.heap.size w1 w') :=
    ⟨fun W A c hC hc hb => (sidx_calls W (some A) c p hC.out hc).mono fun e w' ⟨q1, q2⟩ => ⟨by rw [q1, HKX.out], hb.trans (q2.mono hb.size)⟩⟩
  have hbd : Below w1.heap.size w1 w1.drew := below_drew (Below.refl _ _)
  have hn0 : 0 < 1 := by omega
  have hn2 : (0 : Int) < ((1 : Nat) : Int) := by omega
  clear hb hcell HSP
  simp only [List.length_cons, List.length_nil, Nat.zero_add, Nat.reduceAdd] at hc1 ⊢
  go_wp2_with fail
  go_region_held3 (fun W => W.cell? ⟨W0.heap.size, 0, none⟩ = some (.string (bsOf p))) (first | exact h0 | exact CL.out _ (by assumption))
    (first
      | (go_at_call 34; with_reducible refine (HKI.out _ (by assumption)).mono ?_; rintro ev wk ⟨adk, ck, rfl, hck, hCk, hbk⟩)
      | (go_at_call 45; with_reducible refine (HIX.out _ _ _ (by assumption) (by assumption) (by assumption)).mono ?_; rintro ev wi ⟨rfl, hbi⟩))
  have HBI := Aside0.mk (HB1.out.trans (hbi.mono HB1.out.size))
  have HXI := Aside0.mk (HX1.out.below hbi)
  have HCI : Aside0 (∀ i, i < ([p]).length → wi.cell? ⟨W0.heap.size, i, none⟩ = some (.string (bsOf (([p]).getD i [])))) := ⟨fun i hi => pw_cell_below hbi (HCE.out i hi)⟩
  clear hbi hbk hCk hbd h0 CL HKI HIX hn0 hn2 HCE
  have HWL : Aside0 (W0.heap.size < wi.heap.size) := ⟨Lib.lt_of_cell (HCI.out 0 (by simp))⟩
  go_upto_region 6 with fail
  obtain ⟨w5, hw5⟩ : ∃ w5, w5 = wi.alloc (.cells #[.int .u8 kd, .int .i64 0, .string ⟨#[]⟩] 43) := ⟨_, rfl⟩
  have HR5 : Aside0 (RS w w5 wi.heap.size ⟨kd, 0, ⟨#[]⟩⟩) := ⟨by rw [hw5]; exact RS.new HBI.out HXI.out ⟨kd, 0, ⟨#[]⟩⟩⟩
  have HC5 : Aside0 (∀ i, i < ([p]).length → w5.cell? ⟨W0.heap.size, i, none⟩ = some (.string (bsOf (([p]).getD i [])))) := ⟨fun i hi => by rw [hw5]; exact pw_cell_below (below_alloc (Below.refl _ _) _) (HCI.out i hi)⟩
  rw [← hw5]
  clear hw5 HCI HXI HBI
  obtain ⟨b, hbw⟩ : ∃ b, b = wi.heap.size := ⟨_, rfl⟩
  rw [← hbw] at HR5 HWL ⊢
  have HNB : Aside0 (W0.heap.size ≠ b) := ⟨Nat.ne_of_lt HWL.out⟩
  clear hbw HWL
  clear HC5
  go_wp2_with fail
  have CS : Aside0 (∀ W', Below w5.heap.size w5 W' → (W'.cell? ⟨b, 0, none⟩ = some (.int .u8 kd) ∧ W'.cell? ⟨b, 1, none⟩ = some (.int .i64 0) ∧ W'.cell? ⟨b, 2, none⟩ = some (.string ⟨#[]⟩))) := ⟨fun W' hb => (HR5.out.below hb).hap.cells⟩
  have hbd : Below w5.heap.size w5 w5.drew := below_drew (Below.refl _ _)
  obtain ⟨⟨x0, x1, x2⟩, y0, y1, y2⟩ := HR5.out.resF
  obtain ⟨⟨r0, r1, r2⟩, q0, q1, q2⟩ := (HR5.out.below hbd).resF
  have HMY : Aside0 (∀ W', Below w5.heap.size w5 W' → Calls Tryz.prog 30 #[.agg #[.int .u8 kd, .int .i64 0, .string ⟨#[]⟩]] W' fun e w'' => e = .returned (.bool (mayB ⟨kd, 0, ⟨#[]⟩⟩)) ∧ Below w5.heap.size w5 w'' ∧ ResF w w'') :=
    ⟨fun W' hb => (script_may.calls kd 0 ⟨#[]⟩ (mayB ⟨kd, 0, ⟨#[]⟩⟩) W' (may_f ⟨kd, 0, ⟨#[]⟩⟩)).mono fun e w'' ⟨p1, p2⟩ => ⟨p1, hb.trans (p2.mono hb.size), (HR5.out.below (hb.trans (p2.mono hb.size))).resF⟩⟩
  have HLN : Aside0 (mayB ⟨kd, 0, ⟨#[]⟩⟩ = true → ∀ W', Below w5.heap.size w5 W' → Calls Tryz.prog 18 #[.agg #[.int .u8 kd, .int .i64 0, .string ⟨#[]⟩]] W' fun e w'' => e = .returned (.string (bsOf (lineB ⟨kd, 0, ⟨#[]⟩⟩))) ∧ Below w5.heap.size w5 w'' ∧ ResF w w'') :=
    ⟨fun hm W' hb => (line_calls W' ⟨kd, 0, ⟨#[]⟩⟩ hm HSX.out (HT.out.below (HR5.out.bel.trans (hb.mono HR5.out.bel.size)))).mono fun e w'' ⟨p1, p2⟩ => ⟨p1, hb.trans (p2.mono hb.size), (HR5.out.below (hb.trans (p2.mono hb.size))).resF⟩⟩
  have HSM := Aside0.mk (str_same (lineB ⟨kd, 0, ⟨#[]⟩⟩) s)
  obtain ⟨m, hm⟩ : ∃ m, m = mayB ⟨kd, 0, ⟨#[]⟩⟩ := ⟨_, rfl⟩
  rw [← hm] at HMY HLN
  have HM := Aside0.mk hm
  clear hm
  cases m with
  | false =>
    clear HLN HSM
    refine start_ (n := 14) (S := fun w' => w'.cell? ⟨b, 0, none⟩ = some (.int .u8 kd) ∧ w'.cell? ⟨b, 1, none⟩ = some (.int .i64 0) ∧ w'.cell? ⟨b, 2, none⟩ = some (.string ⟨#[]⟩)) (ds := [12]) #[false, false, false, false, false, false, false, false, false, false, false, false, false, false] (by kernel_rfl) rfl rfl ⟨(CS.out _ hbd).1, (CS.out _ hbd).2.1, (CS.out _ hbd).2.2⟩ (fun hHeld => ?_)
    refine pure_ (i := 1) (N := some 56) (v := ?_) (a' := ?_) #[false, true, false, false, false, false, false, false, false, false, false, false, false, false] rfl rfl (by kernel_rfl) (fun _ _ _ h => h) (Or.inl ⟨by rfl, ?_⟩) ?_ ?_
    rotate_left
    · intro w'
      go_simp
      with_reducible rfl
    rotate_left
    · simp only [Act.put, List.setIfInBounds_toArray, List.set_cons_zero, List.set_cons_succ, i64_w, i32_w]
      rfl
    refine pure_ (i := 2) (N := some 57) (v := ?_) (a' := ?_) #[false, true, true, false, false, false, false, false, false, false, false, false, false, false] rfl rfl (by kernel_rfl) (fun _ _ _ h => h) (Or.inl ⟨by rfl, ?_⟩) ?_ ?_
    rotate_left
    · intro w'
      go_simp
      with_reducible rfl
    rotate_left
    · simp only [Act.put, List.setIfInBounds_toArray, List.set_cons_zero, List.set_cons_succ, i64_w, i32_w]
      rfl
    refine take_ (i := 0) (N := some 55) (v := ?_) (a' := ?_) #[true, true, true, false, false, false, false, false, false, false, false, false, false, false] rfl rfl (by kernel_rfl) (fun _ _ _ h => h) (Or.inl ⟨by rfl, ?_⟩) hHeld ?_ ?_
    rotate_left
    · rintro w' ⟨s0, s1, s2⟩
      go_simp
      with_reducible rfl
    rotate_left
    · simp only [Act.put, List.setIfInBounds_toArray, List.set_cons_zero, List.set_cons_succ, i64_w, i32_w]
      rfl
    refine take_ (i := 3) (N := some 58) (v := ?_) (a' := ?_) #[true, true, true, true, false, false, false, false, false, false, false, false, false, false] rfl rfl (by kernel_rfl) (fun _ _ _ h => h) (Or.inl ⟨by rfl, ?_⟩) hHeld ?_ ?_
    rotate_left
    · rintro w' ⟨s0, s1, s2⟩
      go_simp
      with_reducible rfl
    rotate_left
    · simp only [Act.put, List.setIfInBounds_toArray, List.set_cons_zero, List.set_cons_succ, i64_w, i32_w]
      rfl
    refine one_ (i := 4) (N := some 59) #[true, true, true, true, true, false, false, false, false, false, false, false, false, false] rfl rfl (by kernel_rfl) (by decide) (fun K hK => ?_)
    refine goes_ Tryz.func30 (by kernel_rfl) rfl #[.agg #[.int .u8 kd, .int .i64 0, .string ⟨#[]⟩]] (by rfl) rfl rfl (by simp only [List.map_toArray, List.map_cons, List.map_nil]; rfl) ?_
    with_reducible refine (HMY.out _ hbd).mono ?_
    rintro ev wm ⟨rfl, hbm, ⟨r0, r1, r2⟩, q0, q1, q2⟩
    refine ⟨_, rfl, ?_⟩
    refine hK.out _ _ ⟨(CS.out _ hbm).1, (CS.out _ hbm).2.1, (CS.out _ hbm).2.2⟩ (fun hHeld => ?_)
    clear hK K
    refine norm_ (a' := ?_) ?_ ?_
    rotate_left
    · show Act.put _ (some 59) _ = _
      simp only [Act.put, List.setIfInBounds_toArray, List.set_cons_zero, List.set_cons_succ, i64_w, i32_w]
      rfl
    refine pure_ (i := 5) (N := some 60) (v := ?_) (a' := ?_) #[true, true, true, true, true, true, false, false, false, false, false, false, false, false] rfl rfl (by kernel_rfl) (fun _ _ _ h => h) (Or.inl ⟨by rfl, ?_⟩) ?_ ?_
    rotate_left
    · intro w'
      go_simp
      with_reducible rfl
    rotate_left
    · simp only [Act.put, List.setIfInBounds_toArray, List.set_cons_zero, List.set_cons_succ, i64_w, i32_w]
      rfl
    refine pure_ (i := 6) (N := some 61) (v := ?_) (a' := ?_) #[true, true, true, true, true, true, true, false, false, false, false, false, false, false] rfl rfl (by kernel_rfl) (fun _ _ _ h => h) (Or.inl ⟨by rfl, ?_⟩) ?_ ?_
    rotate_left
    · intro w'
      go_simp
      with_reducible rfl
    rotate_left
    · simp only [Act.put, List.setIfInBounds_toArray, List.set_cons_zero, List.set_cons_succ, i64_w, i32_w]
      rfl
    refine pure_ (i := 7) (N := some 62) (v := undef) (a' := ?_) #[true, true, true, true, true, true, true, true, false, false, false, false, false, false] rfl rfl (by kernel_rfl) (fun _ _ _ h => h) (Or.inr ⟨by rfl, rfl⟩) ?_ ?_
    rotate_left
    · simp only [Act.put, List.setIfInBounds_toArray, List.set_cons_zero, List.set_cons_succ, i64_w, i32_w]
      rfl
    refine pure_ (i := 8) (N := some 63) (v := undef) (a' := ?_) #[true, true, true, true, true, true, true, true, true, false, false, false, false, false] rfl rfl (by kernel_rfl) (fun _ _ _ h => h) (Or.inr ⟨by rfl, rfl⟩) ?_ ?_
    rotate_left
    · simp only [Act.put, List.setIfInBounds_toArray, List.set_cons_zero, List.set_cons_succ, i64_w, i32_w]
      rfl
    refine pure_ (i := 9) (N := some 64) (v := undef) (a' := ?_) #[true, true, true, true, true, true, true, true, true, true, false, false, false, false] rfl rfl (by kernel_rfl) (fun _ _ _ h => h) (Or.inr ⟨by rfl, rfl⟩) ?_ ?_
    rotate_left
    · simp only [Act.put, List.setIfInBounds_toArray, List.set_cons_zero, List.set_cons_succ, i64_w, i32_w]
      rfl
    refine pure_ (i := 10) (N := some 65) (v := undef) (a' := ?_) #[true, true, true, true, true, true, true, true, true, true, true, false, false, false] rfl rfl (by kernel_rfl) (fun _ _ _ h => h) (Or.inr ⟨by rfl, rfl⟩) ?_ ?_
    rotate_left
    · simp only [Act.put, List.setIfInBounds_toArray, List.set_cons_zero, List.set_cons_succ, i64_w, i32_w]
      rfl
    refine pure_ (i := 11) (N := some 66) (v := ?_) (a' := ?_) #[true, true, true, true, true, true, true, true, true, true, true, true, false, false] rfl rfl (by kernel_rfl) (fun _ _ _ h => h) (Or.inl ⟨by rfl, ?_⟩) ?_ ?_
    rotate_left
    · intro w'
      go_simp
      with_reducible rfl
    rotate_left
    · simp only [Act.put, List.setIfInBounds_toArray, List.set_cons_zero, List.set_cons_succ, i64_w, i32_w]
      rfl
    refine last_ (i := 12) (N := none) #[true, true, true, true, true, true, true, true, true, true, true, true, true, false] rfl rfl (by kernel_rfl) (by decide) (fun K hK => ?_)
    refine skip_ (w1 := ?_) (by rfl) rfl ?_ ?_
    rotate_left
    · go_simp
      rfl
    refine hK.out _ _ ?_
    clear hK K
    refine pure_ (i := 13) (N := some 3) (v := ?_) (a' := ?_) #[true, true, true, true, true, true, true, true, true, true, true, true, true, true] rfl rfl (by kernel_rfl) (fun _ _ _ h => h) (Or.inl ⟨by rfl, ?_⟩) ?_ ?_
    rotate_left
    · intro w'
      go_simp
      with_reducible rfl
    rotate_left
    · simp only [Act.put, List.setIfInBounds_toArray, List.set_cons_zero, List.set_cons_succ, i64_w, i32_w]
      rfl
    refine done_ (by kernel_rfl) ?_
    have HD := Aside0.mk ((HR5.out.below hbm).done ⟨kd, 0, ⟨#[]⟩⟩)
    obtain ⟨⟨g0, g1, g2⟩, hbz⟩ := HD.out
    simp only at g0 g1 g2 hbz
    clear HD
    try go_wp2
    exact bodyPost_ret (v := .tuple #[.agg #[.int .u8 kd, .int .i64 0, .string ⟨#[]⟩], .bool false]) (by simp [results, Tryz.results26, go_sem, g0, g1, g2]) rfl ⟨false, rfl, hbz, ⟨⟨nofun, fun h => by have h1 := h.1; rw [← HM.out] at h1; cases h1⟩⟩⟩
  | true =>
    have HLN1 := Aside0.mk (HLN.out rfl)
    clear HLN
    obtain ⟨ln, hln⟩ : ∃ ln, ln = lineB ⟨kd, 0, ⟨#[]⟩⟩ := ⟨_, rfl⟩
    rw [← hln] at HLN1 HSM
    have HLE := Aside0.mk hln
    clear hln
    by_cases hl : ln = s.data.toList
    · obtain ⟨s1, s2⟩ := HSM.out.1 hl
      have HL := Aside0.mk hl
      clear hl HSM
      generalize bsOf ln = lb at *
      refine start_ (n := 14) (S := fun w' => w'.cell? ⟨b, 0, none⟩ = some (.int .u8 kd) ∧ w'.cell? ⟨b, 1, none⟩ = some (.int .i64 0) ∧ w'.cell? ⟨b, 2, none⟩ = some (.string ⟨#[]⟩)) (ds := [12]) #[false, false, false, false, false, false, false, false, false, false, false, false, false, false] (by kernel_rfl) rfl rfl ⟨(CS.out _ hbd).1, (CS.out _ hbd).2.1, (CS.out _ hbd).2.2⟩ (fun hHeld => ?_)
      refine pure_ (i := 1) (N := some 56) (v := ?_) (a' := ?_) #[false, true, false, false, false, false, false, false, false, false, false, false, false, false] rfl rfl (by kernel_rfl) (fun _ _ _ h => h) (Or.inl ⟨by rfl, ?_⟩) ?_ ?_
      rotate_left
      · intro w'
        go_simp
        with_reducible rfl
      rotate_left
      · simp only [Act.put, List.setIfInBounds_toArray, List.set_cons_zero, List.set_cons_succ, i64_w, i32_w]
        rfl
      refine pure_ (i := 2) (N := some 57) (v := ?_) (a' := ?_) #[false, true, true, false, false, false, false, false, false, false, false, false, false, false] rfl rfl (by kernel_rfl) (fun _ _ _ h => h) (Or.inl ⟨by rfl, ?_⟩) ?_ ?_
      rotate_left
      · intro w'
        go_simp
        with_reducible rfl
      rotate_left
      · simp only [Act.put, List.setIfInBounds_toArray, List.set_cons_zero, List.set_cons_succ, i64_w, i32_w]
        rfl
      refine take_ (i := 0) (N := some 55) (v := ?_) (a' := ?_) #[true, true, true, false, false, false, false, false, false, false, false, false, false, false] rfl rfl (by kernel_rfl) (fun _ _ _ h => h) (Or.inl ⟨by rfl, ?_⟩) hHeld ?_ ?_
      rotate_left
      · rintro w' ⟨s0, s1, s2⟩
        go_simp
        with_reducible rfl
      rotate_left
      · simp only [Act.put, List.setIfInBounds_toArray, List.set_cons_zero, List.set_cons_succ, i64_w, i32_w]
        rfl
      refine take_ (i := 3) (N := some 58) (v := ?_) (a' := ?_) #[true, true, true, true, false, false, false, false, false, false, false, false, false, false] rfl rfl (by kernel_rfl) (fun _ _ _ h => h) (Or.inl ⟨by rfl, ?_⟩) hHeld ?_ ?_
      rotate_left
      · rintro w' ⟨s0, s1, s2⟩
        go_simp
        with_reducible rfl
      rotate_left
      · simp only [Act.put, List.setIfInBounds_toArray, List.set_cons_zero, List.set_cons_succ, i64_w, i32_w]
        rfl
      refine one_ (i := 4) (N := some 59) #[true, true, true, true, true, false, false, false, false, false, false, false, false, false] rfl rfl (by kernel_rfl) (by decide) (fun K hK => ?_)
      refine goes_ Tryz.func30 (by kernel_rfl) rfl #[.agg #[.int .u8 kd, .int .i64 0, .string ⟨#[]⟩]] (by rfl) rfl rfl (by simp only [List.map_toArray, List.map_cons, List.map_nil]; rfl) ?_
      with_reducible refine (HMY.out _ hbd).mono ?_
      rintro ev wm ⟨rfl, hbm, ⟨r0, r1, r2⟩, q0, q1, q2⟩
      refine ⟨_, rfl, ?_⟩
      refine hK.out _ _ ⟨(CS.out _ hbm).1, (CS.out _ hbm).2.1, (CS.out _ hbm).2.2⟩ (fun hHeld => ?_)
      clear hK K
      refine norm_ (a' := ?_) ?_ ?_
      rotate_left
      · show Act.put _ (some 59) _ = _
        simp only [Act.put, List.setIfInBounds_toArray, List.set_cons_zero, List.set_cons_succ, i64_w, i32_w]
        rfl
      refine pure_ (i := 5) (N := some 60) (v := ?_) (a' := ?_) #[true, true, true, true, true, true, false, false, false, false, false, false, false, false] rfl rfl (by kernel_rfl) (fun _ _ _ h => h) (Or.inl ⟨by rfl, ?_⟩) ?_ ?_
      rotate_left
      · intro w'
        go_simp
        with_reducible rfl
      rotate_left
      · simp only [Act.put, List.setIfInBounds_toArray, List.set_cons_zero, List.set_cons_succ, i64_w, i32_w]
        rfl
      refine pure_ (i := 6) (N := some 61) (v := ?_) (a' := ?_) #[true, true, true, true, true, true, true, false, false, false, false, false, false, false] rfl rfl (by kernel_rfl) (fun _ _ _ h => h) (Or.inl ⟨by rfl, ?_⟩) ?_ ?_
      rotate_left
      · intro w'
        go_simp
        with_reducible rfl
      rotate_left
      · simp only [Act.put, List.setIfInBounds_toArray, List.set_cons_zero, List.set_cons_succ, i64_w, i32_w]
        rfl
      refine pure_ (i := 9) (N := some 64) (v := ?_) (a' := ?_) #[true, true, true, true, true, true, true, false, false, true, false, false, false, false] rfl rfl (by kernel_rfl) (fun _ _ _ h => h) (Or.inl ⟨by rfl, ?_⟩) ?_ ?_
      rotate_left
      · intro w'
        go_simp
        with_reducible rfl
      rotate_left
      · simp only [Act.put, List.setIfInBounds_toArray, List.set_cons_zero, List.set_cons_succ, i64_w, i32_w]
        rfl
      refine take_ (i := 7) (N := some 62) (v := ?_) (a' := ?_) #[true, true, true, true, true, true, true, true, false, true, false, false, false, false] rfl rfl (by kernel_rfl) (fun _ _ _ h => h) (Or.inl ⟨by rfl, ?_⟩) hHeld ?_ ?_
      rotate_left
      · rintro w' ⟨s0, s1, s2⟩
        go_simp
        with_reducible rfl
      rotate_left
      · simp only [Act.put, List.setIfInBounds_toArray, List.set_cons_zero, List.set_cons_succ, i64_w, i32_w]
        rfl
      refine one_ (i := 8) (N := some 63) #[true, true, true, true, true, true, true, true, true, true, false, false, false, false] rfl rfl (by kernel_rfl) (by decide) (fun K hK => ?_)
      refine goes_ Tryz.func18 (by kernel_rfl) rfl #[.agg #[.int .u8 kd, .int .i64 0, .string ⟨#[]⟩]] (by rfl) rfl rfl (by simp only [List.map_toArray, List.map_cons, List.map_nil]; rfl) ?_
      with_reducible refine (HLN1.out _ hbm).mono ?_
      rintro ev wl ⟨rfl, hbl, ⟨r0, r1, r2⟩, q0, q1, q2⟩
      refine ⟨_, rfl, ?_⟩
      refine hK.out _ _ ⟨(CS.out _ hbl).1, (CS.out _ hbl).2.1, (CS.out _ hbl).2.2⟩ (fun hHeld => ?_)
      clear hK K
      refine norm_ (a' := ?_) ?_ ?_
      rotate_left
      · show Act.put _ (some 63) _ = _
        simp only [Act.put, List.setIfInBounds_toArray, List.set_cons_zero, List.set_cons_succ, i64_w, i32_w]
        rfl
      refine pure_ (i := 10) (N := some 65) (v := ?_) (a' := ?_) #[true, true, true, true, true, true, true, true, true, true, true, false, false, false] rfl rfl (by kernel_rfl) (fun _ _ _ h => h) (Or.inl ⟨by rfl, ?_⟩) ?_ ?_
      rotate_left
      · intro w'
        go_simp
        with_reducible rfl
      rotate_left
      · simp only [Act.put, List.setIfInBounds_toArray, List.set_cons_zero, List.set_cons_succ, i64_w, i32_w]
        rfl
      refine pure_ (i := 11) (N := some 66) (v := ?_) (a' := ?_) #[true, true, true, true, true, true, true, true, true, true, true, true, false, false] rfl rfl (by kernel_rfl) (fun _ _ _ h => h) (Or.inl ⟨by rfl, ?_⟩) ?_ ?_
      rotate_left
      · intro w'
        go_simp
        with_reducible rfl
      rotate_left
      · simp only [Act.put, List.setIfInBounds_toArray, List.set_cons_zero, List.set_cons_succ, i64_w, i32_w]
        rfl
      refine last_ (i := 12) (N := none) #[true, true, true, true, true, true, true, true, true, true, true, true, true, false] rfl rfl (by kernel_rfl) (by decide) (fun K hK => ?_)
      refine skip_ (w1 := ?_) (by rfl) rfl ?_ ?_
      rotate_left
      · go_simp
        rfl
      refine hK.out _ _ ?_
      clear hK K
      refine pure_ (i := 13) (N := some 3) (v := ?_) (a' := ?_) #[true, true, true, true, true, true, true, true, true, true, true, true, true, true] rfl rfl (by kernel_rfl) (fun _ _ _ h => h) (Or.inl ⟨by rfl, ?_⟩) ?_ ?_
      rotate_left
      · intro w'
        go_simp
        with_reducible rfl
      rotate_left
      · simp only [Act.put, List.setIfInBounds_toArray, List.set_cons_zero, List.set_cons_succ, i64_w, i32_w]
        rfl
      refine done_ (by kernel_rfl) ?_
      have HD := Aside0.mk ((HR5.out.below hbl).done ⟨kd, 0, ⟨#[]⟩⟩)
      obtain ⟨⟨g0, g1, g2⟩, hbz⟩ := HD.out
      simp only at g0 g1 g2 hbz
      clear HD
      try go_wp2
      exact bodyPost_ret (v := .tuple #[.agg #[.int .u8 kd, .int .i64 0, .string ⟨#[]⟩], .bool true]) (by simp [results, Tryz.results26, go_sem, g0, g1, g2]) rfl ⟨true, rfl, hbz, ⟨⟨fun _ => ⟨HM.out.symm, by rw [← HLE.out]; exact HL.out⟩, fun _ => rfl⟩⟩⟩
    · obtain ⟨s1, s2⟩ := HSM.out.2 hl
      have HL := Aside0.mk hl
      clear hl HSM
      generalize bsOf ln = lb at *
      refine start_ (n := 14) (S := fun w' => w'.cell? ⟨b, 0, none⟩ = some (.int .u8 kd) ∧ w'.cell? ⟨b, 1, none⟩ = some (.int .i64 0) ∧ w'.cell? ⟨b, 2, none⟩ = some (.string ⟨#[]⟩)) (ds := [12]) #[false, false, false, false, false, false, false, false, false, false, false, false, false, false] (by kernel_rfl) rfl rfl ⟨(CS.out _ hbd).1, (CS.out _ hbd).2.1, (CS.out _ hbd).2.2⟩ (fun hHeld => ?_)
      refine pure_ (i := 1) (N := some 56) (v := ?_) (a' := ?_) #[false, true, false, false, false, false, false, false, false, false, false, false, false, false] rfl rfl (by kernel_rfl) (fun _ _ _ h => h) (Or.inl ⟨by rfl, ?_⟩) ?_ ?_
      rotate_left
      · intro w'
        go_simp
        with_reducible rfl
      rotate_left
      · simp only [Act.put, List.setIfInBounds_toArray, List.set_cons_zero, List.set_cons_succ, i64_w, i32_w]
        rfl
      refine pure_ (i := 2) (N := some 57) (v := ?_) (a' := ?_) #[false, true, true, false, false, false, false, false, false, false, false, false, false, false] rfl rfl (by kernel_rfl) (fun _ _ _ h => h) (Or.inl ⟨by rfl, ?_⟩) ?_ ?_
      rotate_left
      · intro w'
        go_simp
        with_reducible rfl
      rotate_left
      · simp only [Act.put, List.setIfInBounds_toArray, List.set_cons_zero, List.set_cons_succ, i64_w, i32_w]
        rfl
      refine take_ (i := 0) (N := some 55) (v := ?_) (a' := ?_) #[true, true, true, false, false, false, false, false, false, false, false, false, false, false] rfl rfl (by kernel_rfl) (fun _ _ _ h => h) (Or.inl ⟨by rfl, ?_⟩) hHeld ?_ ?_
      rotate_left
      · rintro w' ⟨s0, s1, s2⟩
        go_simp
        with_reducible rfl
      rotate_left
      · simp only [Act.put, List.setIfInBounds_toArray, List.set_cons_zero, List.set_cons_succ, i64_w, i32_w]
        rfl
      refine take_ (i := 3) (N := some 58) (v := ?_) (a' := ?_) #[true, true, true, true, false, false, false, false, false, false, false, false, false, false] rfl rfl (by kernel_rfl) (fun _ _ _ h => h) (Or.inl ⟨by rfl, ?_⟩) hHeld ?_ ?_
      rotate_left
      · rintro w' ⟨s0, s1, s2⟩
        go_simp
        with_reducible rfl
      rotate_left
      · simp only [Act.put, List.setIfInBounds_toArray, List.set_cons_zero, List.set_cons_succ, i64_w, i32_w]
        rfl
      refine one_ (i := 4) (N := some 59) #[true, true, true, true, true, false, false, false, false, false, false, false, false, false] rfl rfl (by kernel_rfl) (by decide) (fun K hK => ?_)
      refine goes_ Tryz.func30 (by kernel_rfl) rfl #[.agg #[.int .u8 kd, .int .i64 0, .string ⟨#[]⟩]] (by rfl) rfl rfl (by simp only [List.map_toArray, List.map_cons, List.map_nil]; rfl) ?_
      with_reducible refine (HMY.out _ hbd).mono ?_
      rintro ev wm ⟨rfl, hbm, ⟨r0, r1, r2⟩, q0, q1, q2⟩
      refine ⟨_, rfl, ?_⟩
      refine hK.out _ _ ⟨(CS.out _ hbm).1, (CS.out _ hbm).2.1, (CS.out _ hbm).2.2⟩ (fun hHeld => ?_)
      clear hK K
      refine norm_ (a' := ?_) ?_ ?_
      rotate_left
      · show Act.put _ (some 59) _ = _
        simp only [Act.put, List.setIfInBounds_toArray, List.set_cons_zero, List.set_cons_succ, i64_w, i32_w]
        rfl
      refine pure_ (i := 5) (N := some 60) (v := ?_) (a' := ?_) #[true, true, true, true, true, true, false, false, false, false, false, false, false, false] rfl rfl (by kernel_rfl) (fun _ _ _ h => h) (Or.inl ⟨by rfl, ?_⟩) ?_ ?_
      rotate_left
      · intro w'
        go_simp
        with_reducible rfl
      rotate_left
      · simp only [Act.put, List.setIfInBounds_toArray, List.set_cons_zero, List.set_cons_succ, i64_w, i32_w]
        rfl
      refine pure_ (i := 6) (N := some 61) (v := ?_) (a' := ?_) #[true, true, true, true, true, true, true, false, false, false, false, false, false, false] rfl rfl (by kernel_rfl) (fun _ _ _ h => h) (Or.inl ⟨by rfl, ?_⟩) ?_ ?_
      rotate_left
      · intro w'
        go_simp
        with_reducible rfl
      rotate_left
      · simp only [Act.put, List.setIfInBounds_toArray, List.set_cons_zero, List.set_cons_succ, i64_w, i32_w]
        rfl
      refine pure_ (i := 9) (N := some 64) (v := ?_) (a' := ?_) #[true, true, true, true, true, true, true, false, false, true, false, false, false, false] rfl rfl (by kernel_rfl) (fun _ _ _ h => h) (Or.inl ⟨by rfl, ?_⟩) ?_ ?_
      rotate_left
      · intro w'
        go_simp
        with_reducible rfl
      rotate_left
      · simp only [Act.put, List.setIfInBounds_toArray, List.set_cons_zero, List.set_cons_succ, i64_w, i32_w]
        rfl
      refine take_ (i := 7) (N := some 62) (v := ?_) (a' := ?_) #[true, true, true, true, true, true, true, true, false, true, false, false, false, false] rfl rfl (by kernel_rfl) (fun _ _ _ h => h) (Or.inl ⟨by rfl, ?_⟩) hHeld ?_ ?_
      rotate_left
      · rintro w' ⟨s0, s1, s2⟩
        go_simp
        with_reducible rfl
      rotate_left
      · simp only [Act.put, List.setIfInBounds_toArray, List.set_cons_zero, List.set_cons_succ, i64_w, i32_w]
        rfl
      refine one_ (i := 8) (N := some 63) #[true, true, true, true, true, true, true, true, true, true, false, false, false, false] rfl rfl (by kernel_rfl) (by decide) (fun K hK => ?_)
      refine goes_ Tryz.func18 (by kernel_rfl) rfl #[.agg #[.int .u8 kd, .int .i64 0, .string ⟨#[]⟩]] (by rfl) rfl rfl (by simp only [List.map_toArray, List.map_cons, List.map_nil]; rfl) ?_
      with_reducible refine (HLN1.out _ hbm).mono ?_
      rintro ev wl ⟨rfl, hbl, ⟨r0, r1, r2⟩, q0, q1, q2⟩
      refine ⟨_, rfl, ?_⟩
      refine hK.out _ _ ⟨(CS.out _ hbl).1, (CS.out _ hbl).2.1, (CS.out _ hbl).2.2⟩ (fun hHeld => ?_)
      clear hK K
      refine norm_ (a' := ?_) ?_ ?_
      rotate_left
      · show Act.put _ (some 63) _ = _
        simp only [Act.put, List.setIfInBounds_toArray, List.set_cons_zero, List.set_cons_succ, i64_w, i32_w]
        rfl
      refine pure_ (i := 10) (N := some 65) (v := ?_) (a' := ?_) #[true, true, true, true, true, true, true, true, true, true, true, false, false, false] rfl rfl (by kernel_rfl) (fun _ _ _ h => h) (Or.inl ⟨by rfl, ?_⟩) ?_ ?_
      rotate_left
      · intro w'
        go_simp
        with_reducible rfl
      rotate_left
      · simp only [Act.put, List.setIfInBounds_toArray, List.set_cons_zero, List.set_cons_succ, i64_w, i32_w]
        rfl
      refine pure_ (i := 11) (N := some 66) (v := ?_) (a' := ?_) #[true, true, true, true, true, true, true, true, true, true, true, true, false, false] rfl rfl (by kernel_rfl) (fun _ _ _ h => h) (Or.inl ⟨by rfl, ?_⟩) ?_ ?_
      rotate_left
      · intro w'
        go_simp
        with_reducible rfl
      rotate_left
      · simp only [Act.put, List.setIfInBounds_toArray, List.set_cons_zero, List.set_cons_succ, i64_w, i32_w]
        rfl
      refine last_ (i := 12) (N := none) #[true, true, true, true, true, true, true, true, true, true, true, true, true, false] rfl rfl (by kernel_rfl) (by decide) (fun K hK => ?_)
      refine skip_ (w1 := ?_) (by rfl) rfl ?_ ?_
      rotate_left
      · go_simp
        rfl
      refine hK.out _ _ ?_
      clear hK K
      refine pure_ (i := 13) (N := some 3) (v := ?_) (a' := ?_) #[true, true, true, true, true, true, true, true, true, true, true, true, true, true] rfl rfl (by kernel_rfl) (fun _ _ _ h => h) (Or.inl ⟨by rfl, ?_⟩) ?_ ?_
      rotate_left
      · intro w'
        go_simp
        with_reducible rfl
      rotate_left
      · simp only [Act.put, List.setIfInBounds_toArray, List.set_cons_zero, List.set_cons_succ, i64_w, i32_w]
        rfl
      refine done_ (by kernel_rfl) ?_
      have HD := Aside0.mk ((HR5.out.below hbl).done ⟨kd, 0, ⟨#[]⟩⟩)
      obtain ⟨⟨g0, g1, g2⟩, hbz⟩ := HD.out
      simp only at g0 g1 g2 hbz
      clear HD
      try go_wp2
      exact bodyPost_ret (v := .tuple #[.agg #[.int .u8 kd, .int .i64 0, .string ⟨#[]⟩], .bool false]) (by simp [results, Tryz.results26, go_sem, g0, g1, g2]) rfl ⟨false, rfl, hbz, ⟨⟨nofun, fun h => absurd (by rw [HLE.out]; exact h.2) HL.out⟩⟩⟩

set_option maxHeartbeats 8000000 in
theorem readC0_calls (w : World) (s : ByteArray) (hs : s.size ≤ 50000) (hT : NumT w) (hE : NumE w) (hM : MaxT w) (p : List UInt8) (q : List UInt8) (N E : Int) (hrq : readR (bsOf q) = (N, E)) (hqs : q.length ≤ 50000) (hne : ¬ E = 0) (hsp : splitP s.data.toList = [p, q]) (k : Nat) (hk : k < 6) (hkx : kI p = (k : Int)) (kd : Int) (hK : kd = ((k + 1 : Nat) : Int)) :
    Calls Tryz.prog 26 #[.string s] w fun e w' => ReadNo w e w' := by
  obtain ⟨W0, hW0⟩ : ∃ W0, W0 = w.alloc (.cells #[.int .u8 0, .int .i64 0, .string ⟨#[]⟩] 43) := ⟨_, rfl⟩
  have hb0 : Below w.heap.size w W0 := by rw [hW0]; exact below_alloc (Below.refl _ _) _
  have hx0 : BoxH W0 w.heap.size ⟨0, 0, ⟨#[]⟩⟩ := by rw [hW0]; exact BoxH.new w ⟨0, 0, ⟨#[]⟩⟩
  have HSP := Aside0.mk (splitn_calls s W0 (by omega) (hM.below hb0))
  have HB0 := Aside0.mk hb0
  have HX0 := Aside0.mk hx0
  have HW := Aside0.mk hW0
  have HT := Aside0.mk hT
  have HE := Aside0.mk hE
  have HSS := Aside0.mk hs
  rw [hsp] at HSP
  have HKX := Aside0.mk hkx
  have hw1 : IntKind.u8.wrap (k : Int) = (k : Int) := by rw [show IntKind.u8.wrap (k : Int) = (k : Int) % 256 by simp [IntKind.wrap, IntKind.bits, IntKind.signed]]; omega
  have hw2 : IntKind.u8.wrap (1 + (k : Int)) = kd := by rw [show IntKind.u8.wrap (1 + (k : Int)) = (1 + (k : Int)) % 256 by simp [IntKind.wrap, IntKind.bits, IntKind.signed]]; omega
  have HNR : Aside0 (∀ (W : World) (k1 : NumE W), Calls Tryz.prog 46 #[.string (bsOf q)] W fun e w' => e = .returned (.tuple #[.int .i64 N, .int .i64 E]) ∧ Below W.heap.size W w') := ⟨fun W k1 => by
    have h := read_calls (bsOf q) (by rw [bs_size]; omega) W k1
    rw [hrq] at h
    exact h⟩
  clear hqs hrq
  have HNE := Aside0.mk hne
  have hneb : (E != 0) = true := bne_iff_ne.2 hne
  clear hkx hK
  clear hb0 hx0 hW0 hM hT hE hsp hs
  go_enter Tryz.func26, Tryz.ntmps26
  go_upto_region 1 with fail
  rw [← HW.out]
  go_wp2_with fail
  with_reducible refine HSP.out.mono ?_
  rintro e w1 ⟨c1, rfl, hc1, hcell, hb⟩
  have HB1 := Aside0.mk (HB0.out.trans (hb.mono HB0.out.size))
  have HX1 := Aside0.mk (HX0.out.below hb)
  have HCE := Aside0.mk hcell
  have h0 : w1.cell? ⟨W0.heap.size, 0, none⟩ = some (.string (bsOf p)) := hcell 0 (by simp)
  have CL : Aside0 (∀ W, Below w1.heap.size w1 W → W.cell? ⟨W0.heap.size, 0, none⟩ = some (.string (bsOf p))) := ⟨fun W hb => pw_cell_below hb h0⟩
  have HKI : Aside0 (∀ W, Below w1.heap.size w1 W → Calls Tryz.prog 34 #[] W fun e w' => ∃ A c, e = .returned (.slice (some A) 6 c) ∧ 6 ≤ c ∧ Aside0 (Kd.string.C w' (some A) 6 kindS) ∧ Below w1.heap.size w1 w') :=
    ⟨fun W hb => (kinds_calls W).mono fun e w' ⟨A, c, q1, q2, q3, q4⟩ => ⟨A, c, q1, q2, ⟨q3⟩, hb.trans (q4.mono hb.size)⟩⟩
  have HIX : Aside0 (∀ W A c, Aside0 (Kd.string.C W (some A) 6 kindS) → 6 ≤ c → Below w1.heap.size w1 W → Calls Tryz.prog 45 #[.slice (some A) 6 c, .string (bsOf p)] W fun e w' => e = .returned (.int .i64 (k : Int)) ∧ Below w1.heap.size w1 w') :=
    ⟨fun W A c hC hc hb => (sidx_calls W (some A) c p hC.out hc).mono fun e w' ⟨q1, q2⟩ => ⟨by rw [q1, HKX.out], hb.trans (q2.mono hb.size)⟩⟩
  have hbd : Below w1.heap.size w1 w1.drew := below_drew (Below.refl _ _)
  have hn0 : 0 < 2 := by omega
  have hn2 : (0 : Int) < ((2 : Nat) : Int) := by omega
  clear hb hcell HSP
  simp only [List.length_cons, List.length_nil, Nat.zero_add, Nat.reduceAdd] at hc1 ⊢
  go_wp2_with fail
  go_region_held3 (fun W => W.cell? ⟨W0.heap.size, 0, none⟩ = some (.string (bsOf p))) (first | exact h0 | exact CL.out _ (by assumption))
    (first
      | (go_at_call 34; with_reducible refine (HKI.out _ (by assumption)).mono ?_; rintro ev wk ⟨adk, ck, rfl, hck, hCk, hbk⟩)
      | (go_at_call 45; with_reducible refine (HIX.out _ _ _ (by assumption) (by assumption) (by assumption)).mono ?_; rintro ev wi ⟨rfl, hbi⟩))
  have HBI := Aside0.mk (HB1.out.trans (hbi.mono HB1.out.size))
  have HXI := Aside0.mk (HX1.out.below hbi)
  have HCI : Aside0 (∀ i, i < ([p, q]).length → wi.cell? ⟨W0.heap.size, i, none⟩ = some (.string (bsOf (([p, q]).getD i [])))) := ⟨fun i hi => pw_cell_below hbi (HCE.out i hi)⟩
  clear hbi hbk hCk hbd h0 CL HKI HIX hn0 hn2 HCE
  have HWL : Aside0 (W0.heap.size < wi.heap.size) := ⟨Lib.lt_of_cell (HCI.out 0 (by simp))⟩
  go_upto_region 6 with fail
  obtain ⟨w5, hw5⟩ : ∃ w5, w5 = wi.alloc (.cells #[.int .u8 kd, .int .i64 0, .string ⟨#[]⟩] 43) := ⟨_, rfl⟩
  have HR5 : Aside0 (RS w w5 wi.heap.size ⟨kd, 0, ⟨#[]⟩⟩) := ⟨by rw [hw5]; exact RS.new HBI.out HXI.out ⟨kd, 0, ⟨#[]⟩⟩⟩
  have HC5 : Aside0 (∀ i, i < ([p, q]).length → w5.cell? ⟨W0.heap.size, i, none⟩ = some (.string (bsOf (([p, q]).getD i [])))) := ⟨fun i hi => by rw [hw5]; exact pw_cell_below (below_alloc (Below.refl _ _) _) (HCI.out i hi)⟩
  rw [← hw5]
  clear hw5 HCI HXI HBI
  obtain ⟨b, hbw⟩ : ∃ b, b = wi.heap.size := ⟨_, rfl⟩
  rw [← hbw] at HR5 HWL ⊢
  have HNB : Aside0 (W0.heap.size ≠ b) := ⟨Nat.ne_of_lt HWL.out⟩
  clear hbw HWL
  have h1 : w5.cell? ⟨W0.heap.size, 1, none⟩ = some (.string (bsOf q)) := HC5.out 1 (by simp)
  go_wp2_with fail
  with_reducible refine (HNR.out _ (HE.out.below HR5.out.bel)).mono ?_
  rintro e w6 ⟨rfl, hb⟩
  have HR6 := Aside0.mk (HR5.out.below hb)
  have HC6 : Aside0 (∀ i, i < ([p, q]).length → w6.cell? ⟨W0.heap.size, i, none⟩ = some (.string (bsOf (([p, q]).getD i [])))) := ⟨fun i hi => pw_cell_below hb (HC5.out i hi)⟩
  clear hb HC5 HR5 h1 HNR
  have HZX := Aside0.mk HR6.out.res
  have HZB := Aside0.mk HR6.out.bel
  clear HR6 HC6
  have HXS := Aside0.mk (box_set HZX.out ⟨0, 0, ⟨#[]⟩⟩)
  obtain ⟨e0, e1, e2⟩ := HZX.out.cells
  obtain ⟨f0, f1, f2⟩ := HZX.out.fro
  have HBS : Aside0 (∀ (a0 a1 a2 : Value), Below w.heap.size w (((w6.setCell ⟨w.heap.size, 0, none⟩ a0).setCell ⟨w.heap.size, 1, none⟩ a1).setCell ⟨w.heap.size, 2, none⟩ a2)) := ⟨fun a0 a1 a2 => ((HZB.out.setCell (Nat.le_refl _) _).setCell (Nat.le_refl _) _).setCell (Nat.le_refl _) _⟩
  obtain ⟨g0, g1, g2⟩ := HXS.out.cells
  go_wp2
  exact bodyPost_ret (v := .tuple #[.agg #[.int .u8 0, .int .i64 0, .string ⟨#[]⟩], .bool false]) (by simp [results, Tryz.results26, go_sem, g0, g1, g2]) rfl ⟨⟨0, 0, ⟨#[]⟩⟩, rfl, HBS.out _ _ _⟩

set_option maxHeartbeats 8000000 in
theorem readD0_calls (w : World) (s : ByteArray) (hs : s.size ≤ 50000) (hT : NumT w) (hE : NumE w) (hM : MaxT w) (p : List UInt8) (q : List UInt8) (N E : Int) (hrq : readR (bsOf q) = (N, E)) (hqs : q.length ≤ 50000) (hne : ¬ E = 0) (t : List UInt8) (hsp : splitP s.data.toList = [p, q, t]) (k : Nat) (hk : k < 6) (hkx : kI p = (k : Int)) (kd : Int) (hK : kd = ((k + 1 : Nat) : Int)) :
    Calls Tryz.prog 26 #[.string s] w fun e w' => ReadNo w e w' := by
  obtain ⟨W0, hW0⟩ : ∃ W0, W0 = w.alloc (.cells #[.int .u8 0, .int .i64 0, .string ⟨#[]⟩] 43) := ⟨_, rfl⟩
  have hb0 : Below w.heap.size w W0 := by rw [hW0]; exact below_alloc (Below.refl _ _) _
  have hx0 : BoxH W0 w.heap.size ⟨0, 0, ⟨#[]⟩⟩ := by rw [hW0]; exact BoxH.new w ⟨0, 0, ⟨#[]⟩⟩
  have HSP := Aside0.mk (splitn_calls s W0 (by omega) (hM.below hb0))
  have HB0 := Aside0.mk hb0
  have HX0 := Aside0.mk hx0
  have HW := Aside0.mk hW0
  have HT := Aside0.mk hT
  have HE := Aside0.mk hE
  have HSS := Aside0.mk hs
  rw [hsp] at HSP
  have HKX := Aside0.mk hkx
  have hw1 : IntKind.u8.wrap (k : Int) = (k : Int) := by rw [show IntKind.u8.wrap (k : Int) = (k : Int) % 256 by simp [IntKind.wrap, IntKind.bits, IntKind.signed]]; omega
  have hw2 : IntKind.u8.wrap (1 + (k : Int)) = kd := by rw [show IntKind.u8.wrap (1 + (k : Int)) = (1 + (k : Int)) % 256 by simp [IntKind.wrap, IntKind.bits, IntKind.signed]]; omega
  have HNR : Aside0 (∀ (W : World) (k1 : NumE W), Calls Tryz.prog 46 #[.string (bsOf q)] W fun e w' => e = .returned (.tuple #[.int .i64 N, .int .i64 E]) ∧ Below W.heap.size W w') := ⟨fun W k1 => by
    have h := read_calls (bsOf q) (by rw [bs_size]; omega) W k1
    rw [hrq] at h
    exact h⟩
  clear hqs hrq
  have HNE := Aside0.mk hne
  have hneb : (E != 0) = true := bne_iff_ne.2 hne
  clear hkx hK
  clear hb0 hx0 hW0 hM hT hE hsp hs
  go_enter Tryz.func26, Tryz.ntmps26
  go_upto_region 1 with fail
  rw [← HW.out]
  go_wp2_with fail
  with_reducible refine HSP.out.mono ?_
  rintro e w1 ⟨c1, rfl, hc1, hcell, hb⟩
  have HB1 := Aside0.mk (HB0.out.trans (hb.mono HB0.out.size))
  have HX1 := Aside0.mk (HX0.out.below hb)
  have HCE := Aside0.mk hcell
  have h0 : w1.cell? ⟨W0.heap.size, 0, none⟩ = some (.string (bsOf p)) := hcell 0 (by simp)
  have CL : Aside0 (∀ W, Below w1.heap.size w1 W → W.cell? ⟨W0.heap.size, 0, none⟩ = some (.string (bsOf p))) := ⟨fun W hb => pw_cell_below hb h0⟩
  have HKI : Aside0 (∀ W, Below w1.heap.size w1 W → Calls Tryz.prog 34 #[] W fun e w' => ∃ A c, e = .returned (.slice (some A) 6 c) ∧ 6 ≤ c ∧ Aside0 (Kd.string.C w' (some A) 6 kindS) ∧ Below w1.heap.size w1 w') :=
    ⟨fun W hb => (kinds_calls W).mono fun e w' ⟨A, c, q1, q2, q3, q4⟩ => ⟨A, c, q1, q2, ⟨q3⟩, hb.trans (q4.mono hb.size)⟩⟩
  have HIX : Aside0 (∀ W A c, Aside0 (Kd.string.C W (some A) 6 kindS) → 6 ≤ c → Below w1.heap.size w1 W → Calls Tryz.prog 45 #[.slice (some A) 6 c, .string (bsOf p)] W fun e w' => e = .returned (.int .i64 (k : Int)) ∧ Below w1.heap.size w1 w') :=
    ⟨fun W A c hC hc hb => (sidx_calls W (some A) c p hC.out hc).mono fun e w' ⟨q1, q2⟩ => ⟨by rw [q1, HKX.out], hb.trans (q2.mono hb.size)⟩⟩
  have hbd : Below w1.heap.size w1 w1.drew := below_drew (Below.refl _ _)
  have hn0 : 0 < 3 := by omega
  have hn2 : (0 : Int) < ((3 : Nat) : Int) := by omega
  clear hb hcell HSP
  simp only [List.length_cons, List.length_nil, Nat.zero_add, Nat.reduceAdd] at hc1 ⊢
  go_wp2_with fail
  go_region_held3 (fun W => W.cell? ⟨W0.heap.size, 0, none⟩ = some (.string (bsOf p))) (first | exact h0 | exact CL.out _ (by assumption))
    (first
      | (go_at_call 34; with_reducible refine (HKI.out _ (by assumption)).mono ?_; rintro ev wk ⟨adk, ck, rfl, hck, hCk, hbk⟩)
      | (go_at_call 45; with_reducible refine (HIX.out _ _ _ (by assumption) (by assumption) (by assumption)).mono ?_; rintro ev wi ⟨rfl, hbi⟩))
  have HBI := Aside0.mk (HB1.out.trans (hbi.mono HB1.out.size))
  have HXI := Aside0.mk (HX1.out.below hbi)
  have HCI : Aside0 (∀ i, i < ([p, q, t]).length → wi.cell? ⟨W0.heap.size, i, none⟩ = some (.string (bsOf (([p, q, t]).getD i [])))) := ⟨fun i hi => pw_cell_below hbi (HCE.out i hi)⟩
  clear hbi hbk hCk hbd h0 CL HKI HIX hn0 hn2 HCE
  have HWL : Aside0 (W0.heap.size < wi.heap.size) := ⟨Lib.lt_of_cell (HCI.out 0 (by simp))⟩
  go_upto_region 6 with fail
  obtain ⟨w5, hw5⟩ : ∃ w5, w5 = wi.alloc (.cells #[.int .u8 kd, .int .i64 0, .string ⟨#[]⟩] 43) := ⟨_, rfl⟩
  have HR5 : Aside0 (RS w w5 wi.heap.size ⟨kd, 0, ⟨#[]⟩⟩) := ⟨by rw [hw5]; exact RS.new HBI.out HXI.out ⟨kd, 0, ⟨#[]⟩⟩⟩
  have HC5 : Aside0 (∀ i, i < ([p, q, t]).length → w5.cell? ⟨W0.heap.size, i, none⟩ = some (.string (bsOf (([p, q, t]).getD i [])))) := ⟨fun i hi => by rw [hw5]; exact pw_cell_below (below_alloc (Below.refl _ _) _) (HCI.out i hi)⟩
  rw [← hw5]
  clear hw5 HCI HXI HBI
  obtain ⟨b, hbw⟩ : ∃ b, b = wi.heap.size := ⟨_, rfl⟩
  rw [← hbw] at HR5 HWL ⊢
  have HNB : Aside0 (W0.heap.size ≠ b) := ⟨Nat.ne_of_lt HWL.out⟩
  clear hbw HWL
  have h1 : w5.cell? ⟨W0.heap.size, 1, none⟩ = some (.string (bsOf q)) := HC5.out 1 (by simp)
  go_wp2_with fail
  with_reducible refine (HNR.out _ (HE.out.below HR5.out.bel)).mono ?_
  rintro e w6 ⟨rfl, hb⟩
  have HR6 := Aside0.mk (HR5.out.below hb)
  have HC6 : Aside0 (∀ i, i < ([p, q, t]).length → w6.cell? ⟨W0.heap.size, i, none⟩ = some (.string (bsOf (([p, q, t]).getD i [])))) := ⟨fun i hi => pw_cell_below hb (HC5.out i hi)⟩
  clear hb HC5 HR5 h1 HNR
  have HZX := Aside0.mk HR6.out.res
  have HZB := Aside0.mk HR6.out.bel
  clear HR6 HC6
  have HXS := Aside0.mk (box_set HZX.out ⟨0, 0, ⟨#[]⟩⟩)
  obtain ⟨e0, e1, e2⟩ := HZX.out.cells
  obtain ⟨f0, f1, f2⟩ := HZX.out.fro
  have HBS : Aside0 (∀ (a0 a1 a2 : Value), Below w.heap.size w (((w6.setCell ⟨w.heap.size, 0, none⟩ a0).setCell ⟨w.heap.size, 1, none⟩ a1).setCell ⟨w.heap.size, 2, none⟩ a2)) := ⟨fun a0 a1 a2 => ((HZB.out.setCell (Nat.le_refl _) _).setCell (Nat.le_refl _) _).setCell (Nat.le_refl _) _⟩
  obtain ⟨g0, g1, g2⟩ := HXS.out.cells
  go_wp2
  exact bodyPost_ret (v := .tuple #[.agg #[.int .u8 0, .int .i64 0, .string ⟨#[]⟩], .bool false]) (by simp [results, Tryz.results26, go_sem, g0, g1, g2]) rfl ⟨⟨0, 0, ⟨#[]⟩⟩, rfl, HBS.out _ _ _⟩

set_option maxHeartbeats 8000000 in
theorem readC1_calls (w : World) (s : ByteArray) (hs : s.size ≤ 50000) (hT : NumT w) (hE : NumE w) (hM : MaxT w) (p : List UInt8) (q : List UInt8) (N : Int) (hrq : readR (bsOf q) = (N, 0)) (hqs : q.length ≤ 50000) (hsp : splitP s.data.toList = [p, q]) (k : Nat) (hk : k < 6) (hkx : kI p = (k : Int)) (kd : Int) (hK : kd = ((k + 1 : Nat) : Int)) :
    Calls Tryz.prog 26 #[.string s] w fun e w' => ReadPost w s.data.toList ⟨kd, N, ⟨#[]⟩⟩ e w' := by
  obtain ⟨W0, hW0⟩ : ∃ W0, W0 = w.alloc (.cells #[.int .u8 0, .int .i64 0, .string ⟨#[]⟩] 43) := ⟨_, rfl⟩
  have hb0 : Below w.heap.size w W0 := by rw [hW0]; exact below_alloc (Below.refl _ _) _
  have hx0 : BoxH W0 w.heap.size ⟨0, 0, ⟨#[]⟩⟩ := by rw [hW0]; exact BoxH.new w ⟨0, 0, ⟨#[]⟩⟩
  have HSP := Aside0.mk (splitn_calls s W0 (by omega) (hM.below hb0))
  have HB0 := Aside0.mk hb0
  have HX0 := Aside0.mk hx0
  have HW := Aside0.mk hW0
  have HT := Aside0.mk hT
  have HE := Aside0.mk hE
  have HSS := Aside0.mk hs
  rw [hsp] at HSP
  have HKX := Aside0.mk hkx
  have hw1 : IntKind.u8.wrap (k : Int) = (k : Int) := by rw [show IntKind.u8.wrap (k : Int) = (k : Int) % 256 by simp [IntKind.wrap, IntKind.bits, IntKind.signed]]; omega
  have hw2 : IntKind.u8.wrap (1 + (k : Int)) = kd := by rw [show IntKind.u8.wrap (1 + (k : Int)) = (1 + (k : Int)) % 256 by simp [IntKind.wrap, IntKind.bits, IntKind.signed]]; omega
  have HNR : Aside0 (∀ (W : World) (k1 : NumE W), Calls Tryz.prog 46 #[.string (bsOf q)] W fun e w' => e = .returned (.tuple #[.int .i64 N, .int .i64 0]) ∧ Below W.heap.size W w') := ⟨fun W k1 => by
    have h := read_calls (bsOf q) (by rw [bs_size]; omega) W k1
    rw [hrq] at h
    exact h⟩
  clear hqs hrq
  have HSX : Aside0 ((⟨#[]⟩ : ByteArray).size ≤ 50000) := ⟨by decide⟩
  clear hkx hK
  clear hb0 hx0 hW0 hM hT hE hsp hs
  go_enter Tryz.func26, Tryz.ntmps26
  go_upto_region 1 with fail
  rw [← HW.out]
  go_wp2_with fail
  with_reducible refine HSP.out.mono ?_
  rintro e w1 ⟨c1, rfl, hc1, hcell, hb⟩
  have HB1 := Aside0.mk (HB0.out.trans (hb.mono HB0.out.size))
  have HX1 := Aside0.mk (HX0.out.below hb)
  have HCE := Aside0.mk hcell
  have h0 : w1.cell? ⟨W0.heap.size, 0, none⟩ = some (.string (bsOf p)) := hcell 0 (by simp)
  have CL : Aside0 (∀ W, Below w1.heap.size w1 W → W.cell? ⟨W0.heap.size, 0, none⟩ = some (.string (bsOf p))) := ⟨fun W hb => pw_cell_below hb h0⟩
  have HKI : Aside0 (∀ W, Below w1.heap.size w1 W → Calls Tryz.prog 34 #[] W fun e w' => ∃ A c, e = .returned (.slice (some A) 6 c) ∧ 6 ≤ c ∧ Aside0 (Kd.string.C w' (some A) 6 kindS) ∧ Below w1.heap.size w1 w') :=
    ⟨fun W hb => (kinds_calls W).mono fun e w' ⟨A, c, q1, q2, q3, q4⟩ => ⟨A, c, q1, q2, ⟨q3⟩, hb.trans (q4.mono hb.size)⟩⟩
  have HIX : Aside0 (∀ W A c, Aside0 (Kd.string.C W (some A) 6 kindS) → 6 ≤ c → Below w1.heap.size w1 W → Calls Tryz.prog 45 #[.slice (some A) 6 c, .string (bsOf p)] W fun e w' => e = .returned (.int .i64 (k : Int)) ∧ Below w1.heap.size w1 w') :=
    ⟨fun W A c hC hc hb => (sidx_calls W (some A) c p hC.out hc).mono fun e w' ⟨q1, q2⟩ => ⟨by rw [q1, HKX.out], hb.trans (q2.mono hb.size)⟩⟩
  have hbd : Below w1.heap.size w1 w1.drew := below_drew (Below.refl _ _)
  have hn0 : 0 < 2 := by omega
  have hn2 : (0 : Int) < ((2 : Nat) : Int) := by omega
  clear hb hcell HSP
  simp only [List.length_cons, List.length_nil, Nat.zero_add, Nat.reduceAdd] at hc1 ⊢
  go_wp2_with fail
  go_region_held3 (fun W => W.cell? ⟨W0.heap.size, 0, none⟩ = some (.string (bsOf p))) (first | exact h0 | exact CL.out _ (by assumption))
    (first
      | (go_at_call 34; with_reducible refine (HKI.out _ (by assumption)).mono ?_; rintro ev wk ⟨adk, ck, rfl, hck, hCk, hbk⟩)
      | (go_at_call 45; with_reducible refine (HIX.out _ _ _ (by assumption) (by assumption) (by assumption)).mono ?_; rintro ev wi ⟨rfl, hbi⟩))
  have HBI := Aside0.mk (HB1.out.trans (hbi.mono HB1.out.size))
  have HXI := Aside0.mk (HX1.out.below hbi)
  have HCI : Aside0 (∀ i, i < ([p, q]).length → wi.cell? ⟨W0.heap.size, i, none⟩ = some (.string (bsOf (([p, q]).getD i [])))) := ⟨fun i hi => pw_cell_below hbi (HCE.out i hi)⟩
  clear hbi hbk hCk hbd h0 CL HKI HIX hn0 hn2 HCE
  have HWL : Aside0 (W0.heap.size < wi.heap.size) := ⟨Lib.lt_of_cell (HCI.out 0 (by simp))⟩
  go_upto_region 6 with fail
  obtain ⟨w5, hw5⟩ : ∃ w5, w5 = wi.alloc (.cells #[.int .u8 kd, .int .i64 0, .string ⟨#[]⟩] 43) := ⟨_, rfl⟩
  have HR5 : Aside0 (RS w w5 wi.heap.size ⟨kd, 0, ⟨#[]⟩⟩) := ⟨by rw [hw5]; exact RS.new HBI.out HXI.out ⟨kd, 0, ⟨#[]⟩⟩⟩
  have HC5 : Aside0 (∀ i, i < ([p, q]).length → w5.cell? ⟨W0.heap.size, i, none⟩ = some (.string (bsOf (([p, q]).getD i [])))) := ⟨fun i hi => by rw [hw5]; exact pw_cell_below (below_alloc (Below.refl _ _) _) (HCI.out i hi)⟩
  rw [← hw5]
  clear hw5 HCI HXI HBI
  obtain ⟨b, hbw⟩ : ∃ b, b = wi.heap.size := ⟨_, rfl⟩
  rw [← hbw] at HR5 HWL ⊢
  have HNB : Aside0 (W0.heap.size ≠ b) := ⟨Nat.ne_of_lt HWL.out⟩
  clear hbw HWL
  have h1 : w5.cell? ⟨W0.heap.size, 1, none⟩ = some (.string (bsOf q)) := HC5.out 1 (by simp)
  go_wp2_with fail
  with_reducible refine (HNR.out _ (HE.out.below HR5.out.bel)).mono ?_
  rintro e w6 ⟨rfl, hb⟩
  have HR6 := Aside0.mk (HR5.out.below hb)
  have HC6 : Aside0 (∀ i, i < ([p, q]).length → w6.cell? ⟨W0.heap.size, i, none⟩ = some (.string (bsOf (([p, q]).getD i [])))) := ⟨fun i hi => pw_cell_below hb (HC5.out i hi)⟩
  clear hb HC5 HR5 h1 HNR
  obtain ⟨c0, c1', c2'⟩ := HR6.out.hap.cells
  obtain ⟨f0, f1, f2⟩ := HR6.out.hap.fro
  go_upto_region 11 with fail
  obtain ⟨w7, hw7⟩ : ∃ w7, w7 = w6.setCell ⟨b, 1, none⟩ (.int .i64 N) := ⟨_, rfl⟩
  have HR7 : Aside0 (RS w w7 b ⟨kd, N, ⟨#[]⟩⟩) := ⟨by rw [hw7]; exact HR6.out.one N⟩
  have HC7 : Aside0 (∀ i, i < ([p, q]).length → w7.cell? ⟨W0.heap.size, i, none⟩ = some (.string (bsOf (([p, q]).getD i [])))) := ⟨fun i hi => by
    rw [hw7, World.cell?_setCell_other _ _ _ _ (fun h => HNB.out (congrArg Addr.block h).symm)]
    exact HC6.out i hi⟩
  rw [← hw7]
  clear hw7 HC6 HR6 c0 c1' c2' f0 f1 f2
  clear HC7
  go_wp2_with fail
  have CS : Aside0 (∀ W', Below w7.heap.size w7 W' → (W'.cell? ⟨b, 0, none⟩ = some (.int .u8 kd) ∧ W'.cell? ⟨b, 1, none⟩ = some (.int .i64 N) ∧ W'.cell? ⟨b, 2, none⟩ = some (.string ⟨#[]⟩))) := ⟨fun W' hb => (HR7.out.below hb).hap.cells⟩
  have hbd : Below w7.heap.size w7 w7.drew := below_drew (Below.refl _ _)
  obtain ⟨⟨x0, x1, x2⟩, y0, y1, y2⟩ := HR7.out.resF
  obtain ⟨⟨r0, r1, r2⟩, q0, q1, q2⟩ := (HR7.out.below hbd).resF
  have HMY : Aside0 (∀ W', Below w7.heap.size w7 W' → Calls Tryz.prog 30 #[.agg #[.int .u8 kd, .int .i64 N, .string ⟨#[]⟩]] W' fun e w'' => e = .returned (.bool (mayB ⟨kd, N, ⟨#[]⟩⟩)) ∧ Below w7.heap.size w7 w'' ∧ ResF w w'') :=
    ⟨fun W' hb => (script_may.calls kd N ⟨#[]⟩ (mayB ⟨kd, N, ⟨#[]⟩⟩) W' (may_f ⟨kd, N, ⟨#[]⟩⟩)).mono fun e w'' ⟨p1, p2⟩ => ⟨p1, hb.trans (p2.mono hb.size), (HR7.out.below (hb.trans (p2.mono hb.size))).resF⟩⟩
  have HLN : Aside0 (mayB ⟨kd, N, ⟨#[]⟩⟩ = true → ∀ W', Below w7.heap.size w7 W' → Calls Tryz.prog 18 #[.agg #[.int .u8 kd, .int .i64 N, .string ⟨#[]⟩]] W' fun e w'' => e = .returned (.string (bsOf (lineB ⟨kd, N, ⟨#[]⟩⟩))) ∧ Below w7.heap.size w7 w'' ∧ ResF w w'') :=
    ⟨fun hm W' hb => (line_calls W' ⟨kd, N, ⟨#[]⟩⟩ hm HSX.out (HT.out.below (HR7.out.bel.trans (hb.mono HR7.out.bel.size)))).mono fun e w'' ⟨p1, p2⟩ => ⟨p1, hb.trans (p2.mono hb.size), (HR7.out.below (hb.trans (p2.mono hb.size))).resF⟩⟩
  have HSM := Aside0.mk (str_same (lineB ⟨kd, N, ⟨#[]⟩⟩) s)
  obtain ⟨m, hm⟩ : ∃ m, m = mayB ⟨kd, N, ⟨#[]⟩⟩ := ⟨_, rfl⟩
  rw [← hm] at HMY HLN
  have HM := Aside0.mk hm
  clear hm
  cases m with
  | false =>
    clear HLN HSM
    refine start_ (n := 14) (S := fun w' => w'.cell? ⟨b, 0, none⟩ = some (.int .u8 kd) ∧ w'.cell? ⟨b, 1, none⟩ = some (.int .i64 N) ∧ w'.cell? ⟨b, 2, none⟩ = some (.string ⟨#[]⟩)) (ds := [12]) #[false, false, false, false, false, false, false, false, false, false, false, false, false, false] (by kernel_rfl) rfl rfl ⟨(CS.out _ hbd).1, (CS.out _ hbd).2.1, (CS.out _ hbd).2.2⟩ (fun hHeld => ?_)
    refine pure_ (i := 1) (N := some 56) (v := ?_) (a' := ?_) #[false, true, false, false, false, false, false, false, false, false, false, false, false, false] rfl rfl (by kernel_rfl) (fun _ _ _ h => h) (Or.inl ⟨by rfl, ?_⟩) ?_ ?_
    rotate_left
    · intro w'
      go_simp
      with_reducible rfl
    rotate_left
    · simp only [Act.put, List.setIfInBounds_toArray, List.set_cons_zero, List.set_cons_succ, i64_w, i32_w]
      rfl
    refine pure_ (i := 2) (N := some 57) (v := ?_) (a' := ?_) #[false, true, true, false, false, false, false, false, false, false, false, false, false, false] rfl rfl (by kernel_rfl) (fun _ _ _ h => h) (Or.inl ⟨by rfl, ?_⟩) ?_ ?_
    rotate_left
    · intro w'
      go_simp
      with_reducible rfl
    rotate_left
    · simp only [Act.put, List.setIfInBounds_toArray, List.set_cons_zero, List.set_cons_succ, i64_w, i32_w]
      rfl
    refine take_ (i := 0) (N := some 55) (v := ?_) (a' := ?_) #[true, true, true, false, false, false, false, false, false, false, false, false, false, false] rfl rfl (by kernel_rfl) (fun _ _ _ h => h) (Or.inl ⟨by rfl, ?_⟩) hHeld ?_ ?_
    rotate_left
    · rintro w' ⟨s0, s1, s2⟩
      go_simp
      with_reducible rfl
    rotate_left
    · simp only [Act.put, List.setIfInBounds_toArray, List.set_cons_zero, List.set_cons_succ, i64_w, i32_w]
      rfl
    refine take_ (i := 3) (N := some 58) (v := ?_) (a' := ?_) #[true, true, true, true, false, false, false, false, false, false, false, false, false, false] rfl rfl (by kernel_rfl) (fun _ _ _ h => h) (Or.inl ⟨by rfl, ?_⟩) hHeld ?_ ?_
    rotate_left
    · rintro w' ⟨s0, s1, s2⟩
      go_simp
      with_reducible rfl
    rotate_left
    · simp only [Act.put, List.setIfInBounds_toArray, List.set_cons_zero, List.set_cons_succ, i64_w, i32_w]
      rfl
    refine one_ (i := 4) (N := some 59) #[true, true, true, true, true, false, false, false, false, false, false, false, false, false] rfl rfl (by kernel_rfl) (by decide) (fun K hK => ?_)
    refine goes_ Tryz.func30 (by kernel_rfl) rfl #[.agg #[.int .u8 kd, .int .i64 N, .string ⟨#[]⟩]] (by rfl) rfl rfl (by simp only [List.map_toArray, List.map_cons, List.map_nil]; rfl) ?_
    with_reducible refine (HMY.out _ hbd).mono ?_
    rintro ev wm ⟨rfl, hbm, ⟨r0, r1, r2⟩, q0, q1, q2⟩
    refine ⟨_, rfl, ?_⟩
    refine hK.out _ _ ⟨(CS.out _ hbm).1, (CS.out _ hbm).2.1, (CS.out _ hbm).2.2⟩ (fun hHeld => ?_)
    clear hK K
    refine norm_ (a' := ?_) ?_ ?_
    rotate_left
    · show Act.put _ (some 59) _ = _
      simp only [Act.put, List.setIfInBounds_toArray, List.set_cons_zero, List.set_cons_succ, i64_w, i32_w]
      rfl
    refine pure_ (i := 5) (N := some 60) (v := ?_) (a' := ?_) #[true, true, true, true, true, true, false, false, false, false, false, false, false, false] rfl rfl (by kernel_rfl) (fun _ _ _ h => h) (Or.inl ⟨by rfl, ?_⟩) ?_ ?_
    rotate_left
    · intro w'
      go_simp
      with_reducible rfl
    rotate_left
    · simp only [Act.put, List.setIfInBounds_toArray, List.set_cons_zero, List.set_cons_succ, i64_w, i32_w]
      rfl
    refine pure_ (i := 6) (N := some 61) (v := ?_) (a' := ?_) #[true, true, true, true, true, true, true, false, false, false, false, false, false, false] rfl rfl (by kernel_rfl) (fun _ _ _ h => h) (Or.inl ⟨by rfl, ?_⟩) ?_ ?_
    rotate_left
    · intro w'
      go_simp
      with_reducible rfl
    rotate_left
    · simp only [Act.put, List.setIfInBounds_toArray, List.set_cons_zero, List.set_cons_succ, i64_w, i32_w]
      rfl
    refine pure_ (i := 7) (N := some 62) (v := undef) (a' := ?_) #[true, true, true, true, true, true, true, true, false, false, false, false, false, false] rfl rfl (by kernel_rfl) (fun _ _ _ h => h) (Or.inr ⟨by rfl, rfl⟩) ?_ ?_
    rotate_left
    · simp only [Act.put, List.setIfInBounds_toArray, List.set_cons_zero, List.set_cons_succ, i64_w, i32_w]
      rfl
    refine pure_ (i := 8) (N := some 63) (v := undef) (a' := ?_) #[true, true, true, true, true, true, true, true, true, false, false, false, false, false] rfl rfl (by kernel_rfl) (fun _ _ _ h => h) (Or.inr ⟨by rfl, rfl⟩) ?_ ?_
    rotate_left
    · simp only [Act.put, List.setIfInBounds_toArray, List.set_cons_zero, List.set_cons_succ, i64_w, i32_w]
      rfl
    refine pure_ (i := 9) (N := some 64) (v := undef) (a' := ?_) #[true, true, true, true, true, true, true, true, true, true, false, false, false, false] rfl rfl (by kernel_rfl) (fun _ _ _ h => h) (Or.inr ⟨by rfl, rfl⟩) ?_ ?_
    rotate_left
    · simp only [Act.put, List.setIfInBounds_toArray, List.set_cons_zero, List.set_cons_succ, i64_w, i32_w]
      rfl
    refine pure_ (i := 10) (N := some 65) (v := undef) (a' := ?_) #[true, true, true, true, true, true, true, true, true, true, true, false, false, false] rfl rfl (by kernel_rfl) (fun _ _ _ h => h) (Or.inr ⟨by rfl, rfl⟩) ?_ ?_
    rotate_left
    · simp only [Act.put, List.setIfInBounds_toArray, List.set_cons_zero, List.set_cons_succ, i64_w, i32_w]
      rfl
    refine pure_ (i := 11) (N := some 66) (v := ?_) (a' := ?_) #[true, true, true, true, true, true, true, true, true, true, true, true, false, false] rfl rfl (by kernel_rfl) (fun _ _ _ h => h) (Or.inl ⟨by rfl, ?_⟩) ?_ ?_
    rotate_left
    · intro w'
      go_simp
      with_reducible rfl
    rotate_left
    · simp only [Act.put, List.setIfInBounds_toArray, List.set_cons_zero, List.set_cons_succ, i64_w, i32_w]
      rfl
    refine last_ (i := 12) (N := none) #[true, true, true, true, true, true, true, true, true, true, true, true, true, false] rfl rfl (by kernel_rfl) (by decide) (fun K hK => ?_)
    refine skip_ (w1 := ?_) (by rfl) rfl ?_ ?_
    rotate_left
    · go_simp
      rfl
    refine hK.out _ _ ?_
    clear hK K
    refine pure_ (i := 13) (N := some 3) (v := ?_) (a' := ?_) #[true, true, true, true, true, true, true, true, true, true, true, true, true, true] rfl rfl (by kernel_rfl) (fun _ _ _ h => h) (Or.inl ⟨by rfl, ?_⟩) ?_ ?_
    rotate_left
    · intro w'
      go_simp
      with_reducible rfl
    rotate_left
    · simp only [Act.put, List.setIfInBounds_toArray, List.set_cons_zero, List.set_cons_succ, i64_w, i32_w]
      rfl
    refine done_ (by kernel_rfl) ?_
    have HD := Aside0.mk ((HR7.out.below hbm).done ⟨kd, N, ⟨#[]⟩⟩)
    obtain ⟨⟨g0, g1, g2⟩, hbz⟩ := HD.out
    simp only at g0 g1 g2 hbz
    clear HD
    try go_wp2
    exact bodyPost_ret (v := .tuple #[.agg #[.int .u8 kd, .int .i64 N, .string ⟨#[]⟩], .bool false]) (by simp [results, Tryz.results26, go_sem, g0, g1, g2]) rfl ⟨false, rfl, hbz, ⟨⟨nofun, fun h => by have h1 := h.1; rw [← HM.out] at h1; cases h1⟩⟩⟩
  | true =>
    have HLN1 := Aside0.mk (HLN.out rfl)
    clear HLN
    obtain ⟨ln, hln⟩ : ∃ ln, ln = lineB ⟨kd, N, ⟨#[]⟩⟩ := ⟨_, rfl⟩
    rw [← hln] at HLN1 HSM
    have HLE := Aside0.mk hln
    clear hln
    by_cases hl : ln = s.data.toList
    · obtain ⟨s1, s2⟩ := HSM.out.1 hl
      have HL := Aside0.mk hl
      clear hl HSM
      generalize bsOf ln = lb at *
      refine start_ (n := 14) (S := fun w' => w'.cell? ⟨b, 0, none⟩ = some (.int .u8 kd) ∧ w'.cell? ⟨b, 1, none⟩ = some (.int .i64 N) ∧ w'.cell? ⟨b, 2, none⟩ = some (.string ⟨#[]⟩)) (ds := [12]) #[false, false, false, false, false, false, false, false, false, false, false, false, false, false] (by kernel_rfl) rfl rfl ⟨(CS.out _ hbd).1, (CS.out _ hbd).2.1, (CS.out _ hbd).2.2⟩ (fun hHeld => ?_)
      refine pure_ (i := 1) (N := some 56) (v := ?_) (a' := ?_) #[false, true, false, false, false, false, false, false, false, false, false, false, false, false] rfl rfl (by kernel_rfl) (fun _ _ _ h => h) (Or.inl ⟨by rfl, ?_⟩) ?_ ?_
      rotate_left
      · intro w'
        go_simp
        with_reducible rfl
      rotate_left
      · simp only [Act.put, List.setIfInBounds_toArray, List.set_cons_zero, List.set_cons_succ, i64_w, i32_w]
        rfl
      refine pure_ (i := 2) (N := some 57) (v := ?_) (a' := ?_) #[false, true, true, false, false, false, false, false, false, false, false, false, false, false] rfl rfl (by kernel_rfl) (fun _ _ _ h => h) (Or.inl ⟨by rfl, ?_⟩) ?_ ?_
      rotate_left
      · intro w'
        go_simp
        with_reducible rfl
      rotate_left
      · simp only [Act.put, List.setIfInBounds_toArray, List.set_cons_zero, List.set_cons_succ, i64_w, i32_w]
        rfl
      refine take_ (i := 0) (N := some 55) (v := ?_) (a' := ?_) #[true, true, true, false, false, false, false, false, false, false, false, false, false, false] rfl rfl (by kernel_rfl) (fun _ _ _ h => h) (Or.inl ⟨by rfl, ?_⟩) hHeld ?_ ?_
      rotate_left
      · rintro w' ⟨s0, s1, s2⟩
        go_simp
        with_reducible rfl
      rotate_left
      · simp only [Act.put, List.setIfInBounds_toArray, List.set_cons_zero, List.set_cons_succ, i64_w, i32_w]
        rfl
      refine take_ (i := 3) (N := some 58) (v := ?_) (a' := ?_) #[true, true, true, true, false, false, false, false, false, false, false, false, false, false] rfl rfl (by kernel_rfl) (fun _ _ _ h => h) (Or.inl ⟨by rfl, ?_⟩) hHeld ?_ ?_
      rotate_left
      · rintro w' ⟨s0, s1, s2⟩
        go_simp
        with_reducible rfl
      rotate_left
      · simp only [Act.put, List.setIfInBounds_toArray, List.set_cons_zero, List.set_cons_succ, i64_w, i32_w]
        rfl
      refine one_ (i := 4) (N := some 59) #[true, true, true, true, true, false, false, false, false, false, false, false, false, false] rfl rfl (by kernel_rfl) (by decide) (fun K hK => ?_)
      refine goes_ Tryz.func30 (by kernel_rfl) rfl #[.agg #[.int .u8 kd, .int .i64 N, .string ⟨#[]⟩]] (by rfl) rfl rfl (by simp only [List.map_toArray, List.map_cons, List.map_nil]; rfl) ?_
      with_reducible refine (HMY.out _ hbd).mono ?_
      rintro ev wm ⟨rfl, hbm, ⟨r0, r1, r2⟩, q0, q1, q2⟩
      refine ⟨_, rfl, ?_⟩
      refine hK.out _ _ ⟨(CS.out _ hbm).1, (CS.out _ hbm).2.1, (CS.out _ hbm).2.2⟩ (fun hHeld => ?_)
      clear hK K
      refine norm_ (a' := ?_) ?_ ?_
      rotate_left
      · show Act.put _ (some 59) _ = _
        simp only [Act.put, List.setIfInBounds_toArray, List.set_cons_zero, List.set_cons_succ, i64_w, i32_w]
        rfl
      refine pure_ (i := 5) (N := some 60) (v := ?_) (a' := ?_) #[true, true, true, true, true, true, false, false, false, false, false, false, false, false] rfl rfl (by kernel_rfl) (fun _ _ _ h => h) (Or.inl ⟨by rfl, ?_⟩) ?_ ?_
      rotate_left
      · intro w'
        go_simp
        with_reducible rfl
      rotate_left
      · simp only [Act.put, List.setIfInBounds_toArray, List.set_cons_zero, List.set_cons_succ, i64_w, i32_w]
        rfl
      refine pure_ (i := 6) (N := some 61) (v := ?_) (a' := ?_) #[true, true, true, true, true, true, true, false, false, false, false, false, false, false] rfl rfl (by kernel_rfl) (fun _ _ _ h => h) (Or.inl ⟨by rfl, ?_⟩) ?_ ?_
      rotate_left
      · intro w'
        go_simp
        with_reducible rfl
      rotate_left
      · simp only [Act.put, List.setIfInBounds_toArray, List.set_cons_zero, List.set_cons_succ, i64_w, i32_w]
        rfl
      refine pure_ (i := 9) (N := some 64) (v := ?_) (a' := ?_) #[true, true, true, true, true, true, true, false, false, true, false, false, false, false] rfl rfl (by kernel_rfl) (fun _ _ _ h => h) (Or.inl ⟨by rfl, ?_⟩) ?_ ?_
      rotate_left
      · intro w'
        go_simp
        with_reducible rfl
      rotate_left
      · simp only [Act.put, List.setIfInBounds_toArray, List.set_cons_zero, List.set_cons_succ, i64_w, i32_w]
        rfl
      refine take_ (i := 7) (N := some 62) (v := ?_) (a' := ?_) #[true, true, true, true, true, true, true, true, false, true, false, false, false, false] rfl rfl (by kernel_rfl) (fun _ _ _ h => h) (Or.inl ⟨by rfl, ?_⟩) hHeld ?_ ?_
      rotate_left
      · rintro w' ⟨s0, s1, s2⟩
        go_simp
        with_reducible rfl
      rotate_left
      · simp only [Act.put, List.setIfInBounds_toArray, List.set_cons_zero, List.set_cons_succ, i64_w, i32_w]
        rfl
      refine one_ (i := 8) (N := some 63) #[true, true, true, true, true, true, true, true, true, true, false, false, false, false] rfl rfl (by kernel_rfl) (by decide) (fun K hK => ?_)
      refine goes_ Tryz.func18 (by kernel_rfl) rfl #[.agg #[.int .u8 kd, .int .i64 N, .string ⟨#[]⟩]] (by rfl) rfl rfl (by simp only [List.map_toArray, List.map_cons, List.map_nil]; rfl) ?_
      with_reducible refine (HLN1.out _ hbm).mono ?_
      rintro ev wl ⟨rfl, hbl, ⟨r0, r1, r2⟩, q0, q1, q2⟩
      refine ⟨_, rfl, ?_⟩
      refine hK.out _ _ ⟨(CS.out _ hbl).1, (CS.out _ hbl).2.1, (CS.out _ hbl).2.2⟩ (fun hHeld => ?_)
      clear hK K
      refine norm_ (a' := ?_) ?_ ?_
      rotate_left
      · show Act.put _ (some 63) _ = _
        simp only [Act.put, List.setIfInBounds_toArray, List.set_cons_zero, List.set_cons_succ, i64_w, i32_w]
        rfl
      refine pure_ (i := 10) (N := some 65) (v := ?_) (a' := ?_) #[true, true, true, true, true, true, true, true, true, true, true, false, false, false] rfl rfl (by kernel_rfl) (fun _ _ _ h => h) (Or.inl ⟨by rfl, ?_⟩) ?_ ?_
      rotate_left
      · intro w'
        go_simp
        with_reducible rfl
      rotate_left
      · simp only [Act.put, List.setIfInBounds_toArray, List.set_cons_zero, List.set_cons_succ, i64_w, i32_w]
        rfl
      refine pure_ (i := 11) (N := some 66) (v := ?_) (a' := ?_) #[true, true, true, true, true, true, true, true, true, true, true, true, false, false] rfl rfl (by kernel_rfl) (fun _ _ _ h => h) (Or.inl ⟨by rfl, ?_⟩) ?_ ?_
      rotate_left
      · intro w'
        go_simp
        with_reducible rfl
      rotate_left
      · simp only [Act.put, List.setIfInBounds_toArray, List.set_cons_zero, List.set_cons_succ, i64_w, i32_w]
        rfl
      refine last_ (i := 12) (N := none) #[true, true, true, true, true, true, true, true, true, true, true, true, true, false] rfl rfl (by kernel_rfl) (by decide) (fun K hK => ?_)
      refine skip_ (w1 := ?_) (by rfl) rfl ?_ ?_
      rotate_left
      · go_simp
        rfl
      refine hK.out _ _ ?_
      clear hK K
      refine pure_ (i := 13) (N := some 3) (v := ?_) (a' := ?_) #[true, true, true, true, true, true, true, true, true, true, true, true, true, true] rfl rfl (by kernel_rfl) (fun _ _ _ h => h) (Or.inl ⟨by rfl, ?_⟩) ?_ ?_
      rotate_left
      · intro w'
        go_simp
        with_reducible rfl
      rotate_left
      · simp only [Act.put, List.setIfInBounds_toArray, List.set_cons_zero, List.set_cons_succ, i64_w, i32_w]
        rfl
      refine done_ (by kernel_rfl) ?_
      have HD := Aside0.mk ((HR7.out.below hbl).done ⟨kd, N, ⟨#[]⟩⟩)
      obtain ⟨⟨g0, g1, g2⟩, hbz⟩ := HD.out
      simp only at g0 g1 g2 hbz
      clear HD
      try go_wp2
      exact bodyPost_ret (v := .tuple #[.agg #[.int .u8 kd, .int .i64 N, .string ⟨#[]⟩], .bool true]) (by simp [results, Tryz.results26, go_sem, g0, g1, g2]) rfl ⟨true, rfl, hbz, ⟨⟨fun _ => ⟨HM.out.symm, by rw [← HLE.out]; exact HL.out⟩, fun _ => rfl⟩⟩⟩
    · obtain ⟨s1, s2⟩ := HSM.out.2 hl
      have HL := Aside0.mk hl
      clear hl HSM
      generalize bsOf ln = lb at *
      refine start_ (n := 14) (S := fun w' => w'.cell? ⟨b, 0, none⟩ = some (.int .u8 kd) ∧ w'.cell? ⟨b, 1, none⟩ = some (.int .i64 N) ∧ w'.cell? ⟨b, 2, none⟩ = some (.string ⟨#[]⟩)) (ds := [12]) #[false, false, false, false, false, false, false, false, false, false, false, false, false, false] (by kernel_rfl) rfl rfl ⟨(CS.out _ hbd).1, (CS.out _ hbd).2.1, (CS.out _ hbd).2.2⟩ (fun hHeld => ?_)
      refine pure_ (i := 1) (N := some 56) (v := ?_) (a' := ?_) #[false, true, false, false, false, false, false, false, false, false, false, false, false, false] rfl rfl (by kernel_rfl) (fun _ _ _ h => h) (Or.inl ⟨by rfl, ?_⟩) ?_ ?_
      rotate_left
      · intro w'
        go_simp
        with_reducible rfl
      rotate_left
      · simp only [Act.put, List.setIfInBounds_toArray, List.set_cons_zero, List.set_cons_succ, i64_w, i32_w]
        rfl
      refine pure_ (i := 2) (N := some 57) (v := ?_) (a' := ?_) #[false, true, true, false, false, false, false, false, false, false, false, false, false, false] rfl rfl (by kernel_rfl) (fun _ _ _ h => h) (Or.inl ⟨by rfl, ?_⟩) ?_ ?_
      rotate_left
      · intro w'
        go_simp
        with_reducible rfl
      rotate_left
      · simp only [Act.put, List.setIfInBounds_toArray, List.set_cons_zero, List.set_cons_succ, i64_w, i32_w]
        rfl
      refine take_ (i := 0) (N := some 55) (v := ?_) (a' := ?_) #[true, true, true, false, false, false, false, false, false, false, false, false, false, false] rfl rfl (by kernel_rfl) (fun _ _ _ h => h) (Or.inl ⟨by rfl, ?_⟩) hHeld ?_ ?_
      rotate_left
      · rintro w' ⟨s0, s1, s2⟩
        go_simp
        with_reducible rfl
      rotate_left
      · simp only [Act.put, List.setIfInBounds_toArray, List.set_cons_zero, List.set_cons_succ, i64_w, i32_w]
        rfl
      refine take_ (i := 3) (N := some 58) (v := ?_) (a' := ?_) #[true, true, true, true, false, false, false, false, false, false, false, false, false, false] rfl rfl (by kernel_rfl) (fun _ _ _ h => h) (Or.inl ⟨by rfl, ?_⟩) hHeld ?_ ?_
      rotate_left
      · rintro w' ⟨s0, s1, s2⟩
        go_simp
        with_reducible rfl
      rotate_left
      · simp only [Act.put, List.setIfInBounds_toArray, List.set_cons_zero, List.set_cons_succ, i64_w, i32_w]
        rfl
      refine one_ (i := 4) (N := some 59) #[true, true, true, true, true, false, false, false, false, false, false, false, false, false] rfl rfl (by kernel_rfl) (by decide) (fun K hK => ?_)
      refine goes_ Tryz.func30 (by kernel_rfl) rfl #[.agg #[.int .u8 kd, .int .i64 N, .string ⟨#[]⟩]] (by rfl) rfl rfl (by simp only [List.map_toArray, List.map_cons, List.map_nil]; rfl) ?_
      with_reducible refine (HMY.out _ hbd).mono ?_
      rintro ev wm ⟨rfl, hbm, ⟨r0, r1, r2⟩, q0, q1, q2⟩
      refine ⟨_, rfl, ?_⟩
      refine hK.out _ _ ⟨(CS.out _ hbm).1, (CS.out _ hbm).2.1, (CS.out _ hbm).2.2⟩ (fun hHeld => ?_)
      clear hK K
      refine norm_ (a' := ?_) ?_ ?_
      rotate_left
      · show Act.put _ (some 59) _ = _
        simp only [Act.put, List.setIfInBounds_toArray, List.set_cons_zero, List.set_cons_succ, i64_w, i32_w]
        rfl
      refine pure_ (i := 5) (N := some 60) (v := ?_) (a' := ?_) #[true, true, true, true, true, true, false, false, false, false, false, false, false, false] rfl rfl (by kernel_rfl) (fun _ _ _ h => h) (Or.inl ⟨by rfl, ?_⟩) ?_ ?_
      rotate_left
      · intro w'
        go_simp
        with_reducible rfl
      rotate_left
      · simp only [Act.put, List.setIfInBounds_toArray, List.set_cons_zero, List.set_cons_succ, i64_w, i32_w]
        rfl
      refine pure_ (i := 6) (N := some 61) (v := ?_) (a' := ?_) #[true, true, true, true, true, true, true, false, false, false, false, false, false, false] rfl rfl (by kernel_rfl) (fun _ _ _ h => h) (Or.inl ⟨by rfl, ?_⟩) ?_ ?_
      rotate_left
      · intro w'
        go_simp
        with_reducible rfl
      rotate_left
      · simp only [Act.put, List.setIfInBounds_toArray, List.set_cons_zero, List.set_cons_succ, i64_w, i32_w]
        rfl
      refine pure_ (i := 9) (N := some 64) (v := ?_) (a' := ?_) #[true, true, true, true, true, true, true, false, false, true, false, false, false, false] rfl rfl (by kernel_rfl) (fun _ _ _ h => h) (Or.inl ⟨by rfl, ?_⟩) ?_ ?_
      rotate_left
      · intro w'
        go_simp
        with_reducible rfl
      rotate_left
      · simp only [Act.put, List.setIfInBounds_toArray, List.set_cons_zero, List.set_cons_succ, i64_w, i32_w]
        rfl
      refine take_ (i := 7) (N := some 62) (v := ?_) (a' := ?_) #[true, true, true, true, true, true, true, true, false, true, false, false, false, false] rfl rfl (by kernel_rfl) (fun _ _ _ h => h) (Or.inl ⟨by rfl, ?_⟩) hHeld ?_ ?_
      rotate_left
      · rintro w' ⟨s0, s1, s2⟩
        go_simp
        with_reducible rfl
      rotate_left
      · simp only [Act.put, List.setIfInBounds_toArray, List.set_cons_zero, List.set_cons_succ, i64_w, i32_w]
        rfl
      refine one_ (i := 8) (N := some 63) #[true, true, true, true, true, true, true, true, true, true, false, false, false, false] rfl rfl (by kernel_rfl) (by decide) (fun K hK => ?_)
      refine goes_ Tryz.func18 (by kernel_rfl) rfl #[.agg #[.int .u8 kd, .int .i64 N, .string ⟨#[]⟩]] (by rfl) rfl rfl (by simp only [List.map_toArray, List.map_cons, List.map_nil]; rfl) ?_
      with_reducible refine (HLN1.out _ hbm).mono ?_
      rintro ev wl ⟨rfl, hbl, ⟨r0, r1, r2⟩, q0, q1, q2⟩
      refine ⟨_, rfl, ?_⟩
      refine hK.out _ _ ⟨(CS.out _ hbl).1, (CS.out _ hbl).2.1, (CS.out _ hbl).2.2⟩ (fun hHeld => ?_)
      clear hK K
      refine norm_ (a' := ?_) ?_ ?_
      rotate_left
      · show Act.put _ (some 63) _ = _
        simp only [Act.put, List.setIfInBounds_toArray, List.set_cons_zero, List.set_cons_succ, i64_w, i32_w]
        rfl
      refine pure_ (i := 10) (N := some 65) (v := ?_) (a' := ?_) #[true, true, true, true, true, true, true, true, true, true, true, false, false, false] rfl rfl (by kernel_rfl) (fun _ _ _ h => h) (Or.inl ⟨by rfl, ?_⟩) ?_ ?_
      rotate_left
      · intro w'
        go_simp
        with_reducible rfl
      rotate_left
      · simp only [Act.put, List.setIfInBounds_toArray, List.set_cons_zero, List.set_cons_succ, i64_w, i32_w]
        rfl
      refine pure_ (i := 11) (N := some 66) (v := ?_) (a' := ?_) #[true, true, true, true, true, true, true, true, true, true, true, true, false, false] rfl rfl (by kernel_rfl) (fun _ _ _ h => h) (Or.inl ⟨by rfl, ?_⟩) ?_ ?_
      rotate_left
      · intro w'
        go_simp
        with_reducible rfl
      rotate_left
      · simp only [Act.put, List.setIfInBounds_toArray, List.set_cons_zero, List.set_cons_succ, i64_w, i32_w]
        rfl
      refine last_ (i := 12) (N := none) #[true, true, true, true, true, true, true, true, true, true, true, true, true, false] rfl rfl (by kernel_rfl) (by decide) (fun K hK => ?_)
      refine skip_ (w1 := ?_) (by rfl) rfl ?_ ?_
      rotate_left
      · go_simp
        rfl
      refine hK.out _ _ ?_
      clear hK K
      refine pure_ (i := 13) (N := some 3) (v := ?_) (a' := ?_) #[true, true, true, true, true, true, true, true, true, true, true, true, true, true] rfl rfl (by kernel_rfl) (fun _ _ _ h => h) (Or.inl ⟨by rfl, ?_⟩) ?_ ?_
      rotate_left
      · intro w'
        go_simp
        with_reducible rfl
      rotate_left
      · simp only [Act.put, List.setIfInBounds_toArray, List.set_cons_zero, List.set_cons_succ, i64_w, i32_w]
        rfl
      refine done_ (by kernel_rfl) ?_
      have HD := Aside0.mk ((HR7.out.below hbl).done ⟨kd, N, ⟨#[]⟩⟩)
      obtain ⟨⟨g0, g1, g2⟩, hbz⟩ := HD.out
      simp only at g0 g1 g2 hbz
      clear HD
      try go_wp2
      exact bodyPost_ret (v := .tuple #[.agg #[.int .u8 kd, .int .i64 N, .string ⟨#[]⟩], .bool false]) (by simp [results, Tryz.results26, go_sem, g0, g1, g2]) rfl ⟨false, rfl, hbz, ⟨⟨nofun, fun h => absurd (by rw [HLE.out]; exact h.2) HL.out⟩⟩⟩

set_option maxHeartbeats 8000000 in
theorem readC2_calls (w : World) (s : ByteArray) (hs : s.size ≤ 50000) (hT : NumT w) (hE : NumE w) (hM : MaxT w) (p : List UInt8) (q : List UInt8) (N : Int) (hrq : readR (bsOf q) = (N, 0)) (hqs : q.length ≤ 50000) (t : List UInt8) (hts : t.length ≤ 50000)  (hsp : splitP s.data.toList = [p, q, t]) (hkx : kI p = 2) (hbt : bytesU t = none) :
    Calls Tryz.prog 26 #[.string s] w fun e w' => ReadNo w e w' := by
  obtain ⟨W0, hW0⟩ : ∃ W0, W0 = w.alloc (.cells #[.int .u8 0, .int .i64 0, .string ⟨#[]⟩] 43) := ⟨_, rfl⟩
  have hb0 : Below w.heap.size w W0 := by rw [hW0]; exact below_alloc (Below.refl _ _) _
  have hx0 : BoxH W0 w.heap.size ⟨0, 0, ⟨#[]⟩⟩ := by rw [hW0]; exact BoxH.new w ⟨0, 0, ⟨#[]⟩⟩
  have HSP := Aside0.mk (splitn_calls s W0 (by omega) (hM.below hb0))
  have HB0 := Aside0.mk hb0
  have HX0 := Aside0.mk hx0
  have HW := Aside0.mk hW0
  have HT := Aside0.mk hT
  have HE := Aside0.mk hE
  have HSS := Aside0.mk hs
  rw [hsp] at HSP
  have HKX := Aside0.mk hkx
  have hw1 : IntKind.u8.wrap 2 = 2 := by decide
  have hw2 : IntKind.u8.wrap 3 = 3 := by decide
  have HNR : Aside0 (∀ (W : World) (k1 : NumE W), Calls Tryz.prog 46 #[.string (bsOf q)] W fun e w' => e = .returned (.tuple #[.int .i64 N, .int .i64 0]) ∧ Below W.heap.size W w') := ⟨fun W k1 => by
    have h := read_calls (bsOf q) (by rw [bs_size]; omega) W k1
    rw [hrq] at h
    exact h⟩
  clear hqs hrq
  have HCT := Aside0.mk (fun (W : World) (k1 : NumE W) => sbytes0_calls W (bsOf t) (by rw [bs_size]; omega) k1)
  rw [bs_list, hbt] at HCT
  simp only [Option.getD_none, Option.isSome_none] at HCT
  clear hkx hts
  clear hb0 hx0 hW0 hM hT hE hsp hs
  go_enter Tryz.func26, Tryz.ntmps26
  go_upto_region 1 with fail
  rw [← HW.out]
  go_wp2_with fail
  with_reducible refine HSP.out.mono ?_
  rintro e w1 ⟨c1, rfl, hc1, hcell, hb⟩
  have HB1 := Aside0.mk (HB0.out.trans (hb.mono HB0.out.size))
  have HX1 := Aside0.mk (HX0.out.below hb)
  have HCE := Aside0.mk hcell
  have h0 : w1.cell? ⟨W0.heap.size, 0, none⟩ = some (.string (bsOf p)) := hcell 0 (by simp)
  have CL : Aside0 (∀ W, Below w1.heap.size w1 W → W.cell? ⟨W0.heap.size, 0, none⟩ = some (.string (bsOf p))) := ⟨fun W hb => pw_cell_below hb h0⟩
  have HKI : Aside0 (∀ W, Below w1.heap.size w1 W → Calls Tryz.prog 34 #[] W fun e w' => ∃ A c, e = .returned (.slice (some A) 6 c) ∧ 6 ≤ c ∧ Aside0 (Kd.string.C w' (some A) 6 kindS) ∧ Below w1.heap.size w1 w') :=
    ⟨fun W hb => (kinds_calls W).mono fun e w' ⟨A, c, q1, q2, q3, q4⟩ => ⟨A, c, q1, q2, ⟨q3⟩, hb.trans (q4.mono hb.size)⟩⟩
  have HIX : Aside0 (∀ W A c, Aside0 (Kd.string.C W (some A) 6 kindS) → 6 ≤ c → Below w1.heap.size w1 W → Calls Tryz.prog 45 #[.slice (some A) 6 c, .string (bsOf p)] W fun e w' => e = .returned (.int .i64 2) ∧ Below w1.heap.size w1 w') :=
    ⟨fun W A c hC hc hb => (sidx_calls W (some A) c p hC.out hc).mono fun e w' ⟨q1, q2⟩ => ⟨by rw [q1, HKX.out], hb.trans (q2.mono hb.size)⟩⟩
  have hbd : Below w1.heap.size w1 w1.drew := below_drew (Below.refl _ _)
  have hn0 : 0 < 3 := by omega
  have hn2 : (0 : Int) < ((3 : Nat) : Int) := by omega
  clear hb hcell HSP
  simp only [List.length_cons, List.length_nil, Nat.zero_add, Nat.reduceAdd] at hc1 ⊢
  go_wp2_with fail
  go_region_held3 (fun W => W.cell? ⟨W0.heap.size, 0, none⟩ = some (.string (bsOf p))) (first | exact h0 | exact CL.out _ (by assumption))
    (first
      | (go_at_call 34; with_reducible refine (HKI.out _ (by assumption)).mono ?_; rintro ev wk ⟨adk, ck, rfl, hck, hCk, hbk⟩)
      | (go_at_call 45; with_reducible refine (HIX.out _ _ _ (by assumption) (by assumption) (by assumption)).mono ?_; rintro ev wi ⟨rfl, hbi⟩))
  have HBI := Aside0.mk (HB1.out.trans (hbi.mono HB1.out.size))
  have HXI := Aside0.mk (HX1.out.below hbi)
  have HCI : Aside0 (∀ i, i < ([p, q, t]).length → wi.cell? ⟨W0.heap.size, i, none⟩ = some (.string (bsOf (([p, q, t]).getD i [])))) := ⟨fun i hi => pw_cell_below hbi (HCE.out i hi)⟩
  clear hbi hbk hCk hbd h0 CL HKI HIX hn0 hn2 HCE
  have HWL : Aside0 (W0.heap.size < wi.heap.size) := ⟨Lib.lt_of_cell (HCI.out 0 (by simp))⟩
  go_upto_region 6 with fail
  obtain ⟨w5, hw5⟩ : ∃ w5, w5 = wi.alloc (.cells #[.int .u8 3, .int .i64 0, .string ⟨#[]⟩] 43) := ⟨_, rfl⟩
  have HR5 : Aside0 (RS w w5 wi.heap.size ⟨3, 0, ⟨#[]⟩⟩) := ⟨by rw [hw5]; exact RS.new HBI.out HXI.out ⟨3, 0, ⟨#[]⟩⟩⟩
  have HC5 : Aside0 (∀ i, i < ([p, q, t]).length → w5.cell? ⟨W0.heap.size, i, none⟩ = some (.string (bsOf (([p, q, t]).getD i [])))) := ⟨fun i hi => by rw [hw5]; exact pw_cell_below (below_alloc (Below.refl _ _) _) (HCI.out i hi)⟩
  rw [← hw5]
  clear hw5 HCI HXI HBI
  obtain ⟨b, hbw⟩ : ∃ b, b = wi.heap.size := ⟨_, rfl⟩
  rw [← hbw] at HR5 HWL ⊢
  have HNB : Aside0 (W0.heap.size ≠ b) := ⟨Nat.ne_of_lt HWL.out⟩
  clear hbw HWL
  have h1 : w5.cell? ⟨W0.heap.size, 1, none⟩ = some (.string (bsOf q)) := HC5.out 1 (by simp)
  go_wp2_with fail
  with_reducible refine (HNR.out _ (HE.out.below HR5.out.bel)).mono ?_
  rintro e w6 ⟨rfl, hb⟩
  have HR6 := Aside0.mk (HR5.out.below hb)
  have HC6 : Aside0 (∀ i, i < ([p, q, t]).length → w6.cell? ⟨W0.heap.size, i, none⟩ = some (.string (bsOf (([p, q, t]).getD i [])))) := ⟨fun i hi => pw_cell_below hb (HC5.out i hi)⟩
  clear hb HC5 HR5 h1 HNR
  obtain ⟨c0, c1', c2'⟩ := HR6.out.hap.cells
  obtain ⟨f0, f1, f2⟩ := HR6.out.hap.fro
  go_upto_region 11 with fail
  obtain ⟨w7, hw7⟩ : ∃ w7, w7 = w6.setCell ⟨b, 1, none⟩ (.int .i64 N) := ⟨_, rfl⟩
  have HR7 : Aside0 (RS w w7 b ⟨3, N, ⟨#[]⟩⟩) := ⟨by rw [hw7]; exact HR6.out.one N⟩
  have HC7 : Aside0 (∀ i, i < ([p, q, t]).length → w7.cell? ⟨W0.heap.size, i, none⟩ = some (.string (bsOf (([p, q, t]).getD i [])))) := ⟨fun i hi => by
    rw [hw7, World.cell?_setCell_other _ _ _ _ (fun h => HNB.out (congrArg Addr.block h).symm)]
    exact HC6.out i hi⟩
  rw [← hw7]
  clear hw7 HC6 HR6 c0 c1' c2' f0 f1 f2
  have h2 : w7.cell? ⟨W0.heap.size, 2, none⟩ = some (.string (bsOf t)) := HC7.out 2 (by simp)
  obtain ⟨c0, c1', c2'⟩ := HR7.out.hap.cells
  have hen : ∀ args W, (callFunc 48 args).run Tryz.prog W = .ok (.enter 48 args) W := enters_of Tryz.func48 (by kernel_rfl) rfl
  clear HC7
  go_wp2_with fail
  with_reducible refine (HCT.out _ (HE.out.below HR7.out.bel)).mono ?_
  rintro e w8 ⟨rfl, hb⟩
  have HR8 := Aside0.mk (HR7.out.below hb)
  clear hb c0 c1' c2' h2 HR7
  obtain ⟨c0, c1', c2'⟩ := HR8.out.hap.cells
  obtain ⟨f0, f1, f2⟩ := HR8.out.hap.fro
  go_upto_region 17 with fail
  obtain ⟨w9, hw9⟩ : ∃ w9, w9 = w8.setCell ⟨b, 2, none⟩ (.string (bsOf [])) := ⟨_, rfl⟩
  have HR9 : Aside0 (RS w w9 b ⟨3, N, (bsOf [])⟩) := ⟨by rw [hw9]; exact HR8.out.two (bsOf [])⟩
  rw [← hw9]
  clear hw9 HR8 c0 c1' c2' f0 f1 f2
  have CS : Aside0 (∀ W', Below w9.heap.size w9 W' → (W'.cell? ⟨b, 0, none⟩ = some (.int .u8 3) ∧ W'.cell? ⟨b, 1, none⟩ = some (.int .i64 N) ∧ W'.cell? ⟨b, 2, none⟩ = some (.string (bsOf [])))) := ⟨fun W' hb => (HR9.out.below hb).hap.cells⟩
  have hbd : Below w9.heap.size w9 w9.drew := below_drew (Below.refl _ _)
  obtain ⟨⟨x0, x1, x2⟩, y0, y1, y2⟩ := HR9.out.resF
  obtain ⟨⟨r0, r1, r2⟩, q0, q1, q2⟩ := (HR9.out.below hbd).resF
  refine start_ (n := 14) (S := fun w' => w'.cell? ⟨b, 0, none⟩ = some (.int .u8 3) ∧ w'.cell? ⟨b, 1, none⟩ = some (.int .i64 N) ∧ w'.cell? ⟨b, 2, none⟩ = some (.string (bsOf []))) (ds := [12]) #[false, false, false, false, false, false, false, false, false, false, false, false, false, false] (by kernel_rfl) rfl rfl ⟨(CS.out _ hbd).1, (CS.out _ hbd).2.1, (CS.out _ hbd).2.2⟩ (fun hHeld => ?_)
  refine pure_ (i := 1) (N := some 56) (v := ?_) (a' := ?_) #[false, true, false, false, false, false, false, false, false, false, false, false, false, false] rfl rfl (by kernel_rfl) (fun _ _ _ h => h) (Or.inl ⟨by rfl, ?_⟩) ?_ ?_
  rotate_left
  · intro w'
    go_simp
    with_reducible rfl
  rotate_left
  · simp only [Act.put, List.setIfInBounds_toArray, List.set_cons_zero, List.set_cons_succ, i64_w, i32_w]
    rfl
  refine pure_ (i := 2) (N := some 57) (v := ?_) (a' := ?_) #[false, true, true, false, false, false, false, false, false, false, false, false, false, false] rfl rfl (by kernel_rfl) (fun _ _ _ h => h) (Or.inl ⟨by rfl, ?_⟩) ?_ ?_
  rotate_left
  · intro w'
    go_simp
    with_reducible rfl
  rotate_left
  · simp only [Act.put, List.setIfInBounds_toArray, List.set_cons_zero, List.set_cons_succ, i64_w, i32_w]
    rfl
  refine pure_ (i := 3) (N := some 58) (v := undef) (a' := ?_) #[false, true, true, true, false, false, false, false, false, false, false, false, false, false] rfl rfl (by kernel_rfl) (fun _ _ _ h => h) (Or.inr ⟨by rfl, rfl⟩) ?_ ?_
  rotate_left
  · simp only [Act.put, List.setIfInBounds_toArray, List.set_cons_zero, List.set_cons_succ, i64_w, i32_w]
    rfl
  refine pure_ (i := 4) (N := some 59) (v := undef) (a' := ?_) #[false, true, true, true, true, false, false, false, false, false, false, false, false, false] rfl rfl (by kernel_rfl) (fun _ _ _ h => h) (Or.inr ⟨by rfl, rfl⟩) ?_ ?_
  rotate_left
  · simp only [Act.put, List.setIfInBounds_toArray, List.set_cons_zero, List.set_cons_succ, i64_w, i32_w]
    rfl
  refine pure_ (i := 5) (N := some 60) (v := ?_) (a' := ?_) #[false, true, true, true, true, true, false, false, false, false, false, false, false, false] rfl rfl (by kernel_rfl) (fun _ _ _ h => h) (Or.inl ⟨by rfl, ?_⟩) ?_ ?_
  rotate_left
  · intro w'
    go_simp
    with_reducible rfl
  rotate_left
  · simp only [Act.put, List.setIfInBounds_toArray, List.set_cons_zero, List.set_cons_succ, i64_w, i32_w]
    rfl
  refine pure_ (i := 6) (N := some 61) (v := ?_) (a' := ?_) #[false, true, true, true, true, true, true, false, false, false, false, false, false, false] rfl rfl (by kernel_rfl) (fun _ _ _ h => h) (Or.inl ⟨by rfl, ?_⟩) ?_ ?_
  rotate_left
  · intro w'
    go_simp
    with_reducible rfl
  rotate_left
  · simp only [Act.put, List.setIfInBounds_toArray, List.set_cons_zero, List.set_cons_succ, i64_w, i32_w]
    rfl
  refine pure_ (i := 7) (N := some 62) (v := undef) (a' := ?_) #[false, true, true, true, true, true, true, true, false, false, false, false, false, false] rfl rfl (by kernel_rfl) (fun _ _ _ h => h) (Or.inr ⟨by rfl, rfl⟩) ?_ ?_
  rotate_left
  · simp only [Act.put, List.setIfInBounds_toArray, List.set_cons_zero, List.set_cons_succ, i64_w, i32_w]
    rfl
  refine pure_ (i := 8) (N := some 63) (v := undef) (a' := ?_) #[false, true, true, true, true, true, true, true, true, false, false, false, false, false] rfl rfl (by kernel_rfl) (fun _ _ _ h => h) (Or.inr ⟨by rfl, rfl⟩) ?_ ?_
  rotate_left
  · simp only [Act.put, List.setIfInBounds_toArray, List.set_cons_zero, List.set_cons_succ, i64_w, i32_w]
    rfl
  refine pure_ (i := 9) (N := some 64) (v := undef) (a' := ?_) #[false, true, true, true, true, true, true, true, true, true, false, false, false, false] rfl rfl (by kernel_rfl) (fun _ _ _ h => h) (Or.inr ⟨by rfl, rfl⟩) ?_ ?_
  rotate_left
  · simp only [Act.put, List.setIfInBounds_toArray, List.set_cons_zero, List.set_cons_succ, i64_w, i32_w]
    rfl
  refine pure_ (i := 10) (N := some 65) (v := undef) (a' := ?_) #[false, true, true, true, true, true, true, true, true, true, true, false, false, false] rfl rfl (by kernel_rfl) (fun _ _ _ h => h) (Or.inr ⟨by rfl, rfl⟩) ?_ ?_
  rotate_left
  · simp only [Act.put, List.setIfInBounds_toArray, List.set_cons_zero, List.set_cons_succ, i64_w, i32_w]
    rfl
  refine pure_ (i := 11) (N := some 66) (v := ?_) (a' := ?_) #[false, true, true, true, true, true, true, true, true, true, true, true, false, false] rfl rfl (by kernel_rfl) (fun _ _ _ h => h) (Or.inl ⟨by rfl, ?_⟩) ?_ ?_
  rotate_left
  · intro w'
    go_simp
    with_reducible rfl
  rotate_left
  · simp only [Act.put, List.setIfInBounds_toArray, List.set_cons_zero, List.set_cons_succ, i64_w, i32_w]
    rfl
  refine take_ (i := 0) (N := some 55) (v := ?_) (a' := ?_) #[true, true, true, true, true, true, true, true, true, true, true, true, false, false] rfl rfl (by kernel_rfl) (fun _ _ _ h => h) (Or.inl ⟨by rfl, ?_⟩) hHeld ?_ ?_
  rotate_left
  · rintro w' ⟨s0, s1, s2⟩
    go_simp
    with_reducible rfl
  rotate_left
  · simp only [Act.put, List.setIfInBounds_toArray, List.set_cons_zero, List.set_cons_succ, i64_w, i32_w]
    rfl
  refine last_ (i := 12) (N := none) #[true, true, true, true, true, true, true, true, true, true, true, true, true, false] rfl rfl (by kernel_rfl) (by decide) (fun K hK => ?_)
  refine skip_ (w1 := ?_) (by rfl) rfl ?_ ?_
  rotate_left
  · go_simp
    rfl
  refine hK.out _ _ ?_
  clear hK K
  refine pure_ (i := 13) (N := some 3) (v := ?_) (a' := ?_) #[true, true, true, true, true, true, true, true, true, true, true, true, true, true] rfl rfl (by kernel_rfl) (fun _ _ _ h => h) (Or.inl ⟨by rfl, ?_⟩) ?_ ?_
  rotate_left
  · intro w'
    go_simp
    with_reducible rfl
  rotate_left
  · simp only [Act.put, List.setIfInBounds_toArray, List.set_cons_zero, List.set_cons_succ, i64_w, i32_w]
    rfl
  refine done_ (by kernel_rfl) ?_
  have HD := Aside0.mk ((HR9.out.below hbd).done ⟨3, N, (bsOf [])⟩)
  obtain ⟨⟨g0, g1, g2⟩, hbz⟩ := HD.out
  simp only at g0 g1 g2 hbz
  clear HD
  have HU := Aside0.mk (HR9.out.done ⟨3, N, (bsOf [])⟩)
  obtain ⟨⟨u0, u1, u2⟩, _⟩ := HU.out
  simp only at u0 u1 u2
  clear HU
  try go_wp2
  exact bodyPost_ret (v := .tuple #[.agg #[.int .u8 3, .int .i64 N, .string (bsOf [])], .bool false]) (by simp [results, Tryz.results26, go_sem, g0, g1, g2, u0, u1, u2]) rfl ⟨⟨3, N, (bsOf [])⟩, rfl, hbz⟩

set_option maxHeartbeats 8000000 in
theorem readC3_calls (w : World) (s : ByteArray) (hs : s.size ≤ 50000) (hT : NumT w) (hE : NumE w) (hM : MaxT w) (p : List UInt8) (q : List UInt8) (N : Int) (hrq : readR (bsOf q) = (N, 0)) (hqs : q.length ≤ 50000) (t : List UInt8) (hts : t.length ≤ 50000)  (hsp : splitP s.data.toList = [p, q, t]) (hkx : kI p = 2) (x : List UInt8) (hbt : bytesU t = some x) (hxs : x.length ≤ 50000) :
    Calls Tryz.prog 26 #[.string s] w fun e w' => ReadPost w s.data.toList ⟨3, N, bsOf x⟩ e w' := by
  obtain ⟨W0, hW0⟩ : ∃ W0, W0 = w.alloc (.cells #[.int .u8 0, .int .i64 0, .string ⟨#[]⟩] 43) := ⟨_, rfl⟩
  have hb0 : Below w.heap.size w W0 := by rw [hW0]; exact below_alloc (Below.refl _ _) _
  have hx0 : BoxH W0 w.heap.size ⟨0, 0, ⟨#[]⟩⟩ := by rw [hW0]; exact BoxH.new w ⟨0, 0, ⟨#[]⟩⟩
  have HSP := Aside0.mk (splitn_calls s W0 (by omega) (hM.below hb0))
  have HB0 := Aside0.mk hb0
  have HX0 := Aside0.mk hx0
  have HW := Aside0.mk hW0
  have HT := Aside0.mk hT
  have HE := Aside0.mk hE
  have HSS := Aside0.mk hs
  rw [hsp] at HSP
  have HKX := Aside0.mk hkx
  have hw1 : IntKind.u8.wrap 2 = 2 := by decide
  have hw2 : IntKind.u8.wrap 3 = 3 := by decide
  have HNR : Aside0 (∀ (W : World) (k1 : NumE W), Calls Tryz.prog 46 #[.string (bsOf q)] W fun e w' => e = .returned (.tuple #[.int .i64 N, .int .i64 0]) ∧ Below W.heap.size W w') := ⟨fun W k1 => by
    have h := read_calls (bsOf q) (by rw [bs_size]; omega) W k1
    rw [hrq] at h
    exact h⟩
  clear hqs hrq
  have HCT := Aside0.mk (fun (W : World) (k1 : NumE W) => sbytes0_calls W (bsOf t) (by rw [bs_size]; omega) k1)
  rw [bs_list, hbt] at HCT
  simp only [Option.getD_some, Option.isSome_some] at HCT
  have HSX : Aside0 ((bsOf x).size ≤ 50000) := ⟨by rw [bs_size]; exact hxs⟩
  clear hxs
  clear hkx hts
  clear hb0 hx0 hW0 hM hT hE hsp hs
  go_enter Tryz.func26, Tryz.ntmps26
  go_upto_region 1 with fail
  rw [← HW.out]
  go_wp2_with fail
  with_reducible refine HSP.out.mono ?_
  rintro e w1 ⟨c1, rfl, hc1, hcell, hb⟩
  have HB1 := Aside0.mk (HB0.out.trans (hb.mono HB0.out.size))
  have HX1 := Aside0.mk (HX0.out.below hb)
  have HCE := Aside0.mk hcell
  have h0 : w1.cell? ⟨W0.heap.size, 0, none⟩ = some (.string (bsOf p)) := hcell 0 (by simp)
  have CL : Aside0 (∀ W, Below w1.heap.size w1 W → W.cell? ⟨W0.heap.size, 0, none⟩ = some (.string (bsOf p))) := ⟨fun W hb => pw_cell_below hb h0⟩
  have HKI : Aside0 (∀ W, Below w1.heap.size w1 W → Calls Tryz.prog 34 #[] W fun e w' => ∃ A c, e = .returned (.slice (some A) 6 c) ∧ 6 ≤ c ∧ Aside0 (Kd.string.C w' (some A) 6 kindS) ∧ Below w1.heap.size w1 w') :=
    ⟨fun W hb => (kinds_calls W).mono fun e w' ⟨A, c, q1, q2, q3, q4⟩ => ⟨A, c, q1, q2, ⟨q3⟩, hb.trans (q4.mono hb.size)⟩⟩
  have HIX : Aside0 (∀ W A c, Aside0 (Kd.string.C W (some A) 6 kindS) → 6 ≤ c → Below w1.heap.size w1 W → Calls Tryz.prog 45 #[.slice (some A) 6 c, .string (bsOf p)] W fun e w' => e = .returned (.int .i64 2) ∧ Below w1.heap.size w1 w') :=
    ⟨fun W A c hC hc hb => (sidx_calls W (some A) c p hC.out hc).mono fun e w' ⟨q1, q2⟩ => ⟨by rw [q1, HKX.out], hb.trans (q2.mono hb.size)⟩⟩
  have hbd : Below w1.heap.size w1 w1.drew := below_drew (Below.refl _ _)
  have hn0 : 0 < 3 := by omega
  have hn2 : (0 : Int) < ((3 : Nat) : Int) := by omega
  clear hb hcell HSP
  simp only [List.length_cons, List.length_nil, Nat.zero_add, Nat.reduceAdd] at hc1 ⊢
  go_wp2_with fail
  go_region_held3 (fun W => W.cell? ⟨W0.heap.size, 0, none⟩ = some (.string (bsOf p))) (first | exact h0 | exact CL.out _ (by assumption))
    (first
      | (go_at_call 34; with_reducible refine (HKI.out _ (by assumption)).mono ?_; rintro ev wk ⟨adk, ck, rfl, hck, hCk, hbk⟩)
      | (go_at_call 45; with_reducible refine (HIX.out _ _ _ (by assumption) (by assumption) (by assumption)).mono ?_; rintro ev wi ⟨rfl, hbi⟩))
  have HBI := Aside0.mk (HB1.out.trans (hbi.mono HB1.out.size))
  have HXI := Aside0.mk (HX1.out.below hbi)
  have HCI : Aside0 (∀ i, i < ([p, q, t]).length → wi.cell? ⟨W0.heap.size, i, none⟩ = some (.string (bsOf (([p, q, t]).getD i [])))) := ⟨fun i hi => pw_cell_below hbi (HCE.out i hi)⟩
  clear hbi hbk hCk hbd h0 CL HKI HIX hn0 hn2 HCE
  have HWL : Aside0 (W0.heap.size < wi.heap.size) := ⟨Lib.lt_of_cell (HCI.out 0 (by simp))⟩
  go_upto_region 6 with fail
  obtain ⟨w5, hw5⟩ : ∃ w5, w5 = wi.alloc (.cells #[.int .u8 3, .int .i64 0, .string ⟨#[]⟩] 43) := ⟨_, rfl⟩
  have HR5 : Aside0 (RS w w5 wi.heap.size ⟨3, 0, ⟨#[]⟩⟩) := ⟨by rw [hw5]; exact RS.new HBI.out HXI.out ⟨3, 0, ⟨#[]⟩⟩⟩
  have HC5 : Aside0 (∀ i, i < ([p, q, t]).length → w5.cell? ⟨W0.heap.size, i, none⟩ = some (.string (bsOf (([p, q, t]).getD i [])))) := ⟨fun i hi => by rw [hw5]; exact pw_cell_below (below_alloc (Below.refl _ _) _) (HCI.out i hi)⟩
  rw [← hw5]
  clear hw5 HCI HXI HBI
  obtain ⟨b, hbw⟩ : ∃ b, b = wi.heap.size := ⟨_, rfl⟩
  rw [← hbw] at HR5 HWL ⊢
  have HNB : Aside0 (W0.heap.size ≠ b) := ⟨Nat.ne_of_lt HWL.out⟩
  clear hbw HWL
  have h1 : w5.cell? ⟨W0.heap.size, 1, none⟩ = some (.string (bsOf q)) := HC5.out 1 (by simp)
  go_wp2_with fail
  with_reducible refine (HNR.out _ (HE.out.below HR5.out.bel)).mono ?_
  rintro e w6 ⟨rfl, hb⟩
  have HR6 := Aside0.mk (HR5.out.below hb)
  have HC6 : Aside0 (∀ i, i < ([p, q, t]).length → w6.cell? ⟨W0.heap.size, i, none⟩ = some (.string (bsOf (([p, q, t]).getD i [])))) := ⟨fun i hi => pw_cell_below hb (HC5.out i hi)⟩
  clear hb HC5 HR5 h1 HNR
  obtain ⟨c0, c1', c2'⟩ := HR6.out.hap.cells
  obtain ⟨f0, f1, f2⟩ := HR6.out.hap.fro
  go_upto_region 11 with fail
  obtain ⟨w7, hw7⟩ : ∃ w7, w7 = w6.setCell ⟨b, 1, none⟩ (.int .i64 N) := ⟨_, rfl⟩
  have HR7 : Aside0 (RS w w7 b ⟨3, N, ⟨#[]⟩⟩) := ⟨by rw [hw7]; exact HR6.out.one N⟩
  have HC7 : Aside0 (∀ i, i < ([p, q, t]).length → w7.cell? ⟨W0.heap.size, i, none⟩ = some (.string (bsOf (([p, q, t]).getD i [])))) := ⟨fun i hi => by
    rw [hw7, World.cell?_setCell_other _ _ _ _ (fun h => HNB.out (congrArg Addr.block h).symm)]
    exact HC6.out i hi⟩
  rw [← hw7]
  clear hw7 HC6 HR6 c0 c1' c2' f0 f1 f2
  have h2 : w7.cell? ⟨W0.heap.size, 2, none⟩ = some (.string (bsOf t)) := HC7.out 2 (by simp)
  obtain ⟨c0, c1', c2'⟩ := HR7.out.hap.cells
  have hen : ∀ args W, (callFunc 48 args).run Tryz.prog W = .ok (.enter 48 args) W := enters_of Tryz.func48 (by kernel_rfl) rfl
  clear HC7
  go_wp2_with fail
  with_reducible refine (HCT.out _ (HE.out.below HR7.out.bel)).mono ?_
  rintro e w8 ⟨rfl, hb⟩
  have HR8 := Aside0.mk (HR7.out.below hb)
  clear hb c0 c1' c2' h2 HR7
  obtain ⟨c0, c1', c2'⟩ := HR8.out.hap.cells
  obtain ⟨f0, f1, f2⟩ := HR8.out.hap.fro
  go_upto_region 17 with fail
  obtain ⟨w9, hw9⟩ : ∃ w9, w9 = w8.setCell ⟨b, 2, none⟩ (.string (bsOf x)) := ⟨_, rfl⟩
  have HR9 : Aside0 (RS w w9 b ⟨3, N, (bsOf x)⟩) := ⟨by rw [hw9]; exact HR8.out.two (bsOf x)⟩
  rw [← hw9]
  clear hw9 HR8 c0 c1' c2' f0 f1 f2
  have CS : Aside0 (∀ W', Below w9.heap.size w9 W' → (W'.cell? ⟨b, 0, none⟩ = some (.int .u8 3) ∧ W'.cell? ⟨b, 1, none⟩ = some (.int .i64 N) ∧ W'.cell? ⟨b, 2, none⟩ = some (.string (bsOf x)))) := ⟨fun W' hb => (HR9.out.below hb).hap.cells⟩
  have hbd : Below w9.heap.size w9 w9.drew := below_drew (Below.refl _ _)
  obtain ⟨⟨x0, x1, x2⟩, y0, y1, y2⟩ := HR9.out.resF
  obtain ⟨⟨r0, r1, r2⟩, q0, q1, q2⟩ := (HR9.out.below hbd).resF
  have HMY : Aside0 (∀ W', Below w9.heap.size w9 W' → Calls Tryz.prog 30 #[.agg #[.int .u8 3, .int .i64 N, .string (bsOf x)]] W' fun e w'' => e = .returned (.bool (mayB ⟨3, N, (bsOf x)⟩)) ∧ Below w9.heap.size w9 w'' ∧ ResF w w'') :=
    ⟨fun W' hb => (script_may.calls 3 N (bsOf x) (mayB ⟨3, N, (bsOf x)⟩) W' (may_f ⟨3, N, (bsOf x)⟩)).mono fun e w'' ⟨p1, p2⟩ => ⟨p1, hb.trans (p2.mono hb.size), (HR9.out.below (hb.trans (p2.mono hb.size))).resF⟩⟩
  have HLN : Aside0 (mayB ⟨3, N, (bsOf x)⟩ = true → ∀ W', Below w9.heap.size w9 W' → Calls Tryz.prog 18 #[.agg #[.int .u8 3, .int .i64 N, .string (bsOf x)]] W' fun e w'' => e = .returned (.string (bsOf (lineB ⟨3, N, (bsOf x)⟩))) ∧ Below w9.heap.size w9 w'' ∧ ResF w w'') :=
    ⟨fun hm W' hb => (line_calls W' ⟨3, N, (bsOf x)⟩ hm HSX.out (HT.out.below (HR9.out.bel.trans (hb.mono HR9.out.bel.size)))).mono fun e w'' ⟨p1, p2⟩ => ⟨p1, hb.trans (p2.mono hb.size), (HR9.out.below (hb.trans (p2.mono hb.size))).resF⟩⟩
  have HSM := Aside0.mk (str_same (lineB ⟨3, N, (bsOf x)⟩) s)
  obtain ⟨m, hm⟩ : ∃ m, m = mayB ⟨3, N, (bsOf x)⟩ := ⟨_, rfl⟩
  rw [← hm] at HMY HLN
  have HM := Aside0.mk hm
  clear hm
  cases m with
  | false =>
    clear HLN HSM
    refine start_ (n := 14) (S := fun w' => w'.cell? ⟨b, 0, none⟩ = some (.int .u8 3) ∧ w'.cell? ⟨b, 1, none⟩ = some (.int .i64 N) ∧ w'.cell? ⟨b, 2, none⟩ = some (.string (bsOf x))) (ds := [12]) #[false, false, false, false, false, false, false, false, false, false, false, false, false, false] (by kernel_rfl) rfl rfl ⟨(CS.out _ hbd).1, (CS.out _ hbd).2.1, (CS.out _ hbd).2.2⟩ (fun hHeld => ?_)
    refine pure_ (i := 1) (N := some 56) (v := ?_) (a' := ?_) #[false, true, false, false, false, false, false, false, false, false, false, false, false, false] rfl rfl (by kernel_rfl) (fun _ _ _ h => h) (Or.inl ⟨by rfl, ?_⟩) ?_ ?_
    rotate_left
    · intro w'
      go_simp
      with_reducible rfl
    rotate_left
    · simp only [Act.put, List.setIfInBounds_toArray, List.set_cons_zero, List.set_cons_succ, i64_w, i32_w]
      rfl
    refine pure_ (i := 2) (N := some 57) (v := ?_) (a' := ?_) #[false, true, true, false, false, false, false, false, false, false, false, false, false, false] rfl rfl (by kernel_rfl) (fun _ _ _ h => h) (Or.inl ⟨by rfl, ?_⟩) ?_ ?_
    rotate_left
    · intro w'
      go_simp
      with_reducible rfl
    rotate_left
    · simp only [Act.put, List.setIfInBounds_toArray, List.set_cons_zero, List.set_cons_succ, i64_w, i32_w]
      rfl
    refine take_ (i := 0) (N := some 55) (v := ?_) (a' := ?_) #[true, true, true, false, false, false, false, false, false, false, false, false, false, false] rfl rfl (by kernel_rfl) (fun _ _ _ h => h) (Or.inl ⟨by rfl, ?_⟩) hHeld ?_ ?_
    rotate_left
    · rintro w' ⟨s0, s1, s2⟩
      go_simp
      with_reducible rfl
    rotate_left
    · simp only [Act.put, List.setIfInBounds_toArray, List.set_cons_zero, List.set_cons_succ, i64_w, i32_w]
      rfl
    refine take_ (i := 3) (N := some 58) (v := ?_) (a' := ?_) #[true, true, true, true, false, false, false, false, false, false, false, false, false, false] rfl rfl (by kernel_rfl) (fun _ _ _ h => h) (Or.inl ⟨by rfl, ?_⟩) hHeld ?_ ?_
    rotate_left
    · rintro w' ⟨s0, s1, s2⟩
      go_simp
      with_reducible rfl
    rotate_left
    · simp only [Act.put, List.setIfInBounds_toArray, List.set_cons_zero, List.set_cons_succ, i64_w, i32_w]
      rfl
    refine one_ (i := 4) (N := some 59) #[true, true, true, true, true, false, false, false, false, false, false, false, false, false] rfl rfl (by kernel_rfl) (by decide) (fun K hK => ?_)
    refine goes_ Tryz.func30 (by kernel_rfl) rfl #[.agg #[.int .u8 3, .int .i64 N, .string (bsOf x)]] (by rfl) rfl rfl (by simp only [List.map_toArray, List.map_cons, List.map_nil]; rfl) ?_
    with_reducible refine (HMY.out _ hbd).mono ?_
    rintro ev wm ⟨rfl, hbm, ⟨r0, r1, r2⟩, q0, q1, q2⟩
    refine ⟨_, rfl, ?_⟩
    refine hK.out _ _ ⟨(CS.out _ hbm).1, (CS.out _ hbm).2.1, (CS.out _ hbm).2.2⟩ (fun hHeld => ?_)
    clear hK K
    refine norm_ (a' := ?_) ?_ ?_
    rotate_left
    · show Act.put _ (some 59) _ = _
      simp only [Act.put, List.setIfInBounds_toArray, List.set_cons_zero, List.set_cons_succ, i64_w, i32_w]
      rfl
    refine pure_ (i := 5) (N := some 60) (v := ?_) (a' := ?_) #[true, true, true, true, true, true, false, false, false, false, false, false, false, false] rfl rfl (by kernel_rfl) (fun _ _ _ h => h) (Or.inl ⟨by rfl, ?_⟩) ?_ ?_
    rotate_left
    · intro w'
      go_simp
      with_reducible rfl
    rotate_left
    · simp only [Act.put, List.setIfInBounds_toArray, List.set_cons_zero, List.set_cons_succ, i64_w, i32_w]
      rfl
    refine pure_ (i := 6) (N := some 61) (v := ?_) (a' := ?_) #[true, true, true, true, true, true, true, false, false, false, false, false, false, false] rfl rfl (by kernel_rfl) (fun _ _ _ h => h) (Or.inl ⟨by rfl, ?_⟩) ?_ ?_
    rotate_left
    · intro w'
      go_simp
      with_reducible rfl
    rotate_left
    · simp only [Act.put, List.setIfInBounds_toArray, List.set_cons_zero, List.set_cons_succ, i64_w, i32_w]
      rfl
    refine pure_ (i := 7) (N := some 62) (v := undef) (a' := ?_) #[true, true, true, true, true, true, true, true, false, false, false, false, false, false] rfl rfl (by kernel_rfl) (fun _ _ _ h => h) (Or.inr ⟨by rfl, rfl⟩) ?_ ?_
    rotate_left
    · simp only [Act.put, List.setIfInBounds_toArray, List.set_cons_zero, List.set_cons_succ, i64_w, i32_w]
      rfl
    refine pure_ (i := 8) (N := some 63) (v := undef) (a' := ?_) #[true, true, true, true, true, true, true, true, true, false, false, false, false, false] rfl rfl (by kernel_rfl) (fun _ _ _ h => h) (Or.inr ⟨by rfl, rfl⟩) ?_ ?_
    rotate_left
    · simp only [Act.put, List.setIfInBounds_toArray, List.set_cons_zero, List.set_cons_succ, i64_w, i32_w]
      rfl
    refine pure_ (i := 9) (N := some 64) (v := undef) (a' := ?_) #[true, true, true, true, true, true, true, true, true, true, false, false, false, false] rfl rfl (by kernel_rfl) (fun _ _ _ h => h) (Or.inr ⟨by rfl, rfl⟩) ?_ ?_
    rotate_left
    · simp only [Act.put, List.setIfInBounds_toArray, List.set_cons_zero, List.set_cons_succ, i64_w, i32_w]
      rfl
    refine pure_ (i := 10) (N := some 65) (v := undef) (a' := ?_) #[true, true, true, true, true, true, true, true, true, true, true, false, false, false] rfl rfl (by kernel_rfl) (fun _ _ _ h => h) (Or.inr ⟨by rfl, rfl⟩) ?_ ?_
    rotate_left
    · simp only [Act.put, List.setIfInBounds_toArray, List.set_cons_zero, List.set_cons_succ, i64_w, i32_w]
      rfl
    refine pure_ (i := 11) (N := some 66) (v := ?_) (a' := ?_) #[true, true, true, true, true, true, true, true, true, true, true, true, false, false] rfl rfl (by kernel_rfl) (fun _ _ _ h => h) (Or.inl ⟨by rfl, ?_⟩) ?_ ?_
    rotate_left
    · intro w'
      go_simp
      with_reducible rfl
    rotate_left
    · simp only [Act.put, List.setIfInBounds_toArray, List.set_cons_zero, List.set_cons_succ, i64_w, i32_w]
      rfl
    refine last_ (i := 12) (N := none) #[true, true, true, true, true, true, true, true, true, true, true, true, true, false] rfl rfl (by kernel_rfl) (by decide) (fun K hK => ?_)
    refine skip_ (w1 := ?_) (by rfl) rfl ?_ ?_
    rotate_left
    · go_simp
      rfl
    refine hK.out _ _ ?_
    clear hK K
    refine pure_ (i := 13) (N := some 3) (v := ?_) (a' := ?_) #[true, true, true, true, true, true, true, true, true, true, true, true, true, true] rfl rfl (by kernel_rfl) (fun _ _ _ h => h) (Or.inl ⟨by rfl, ?_⟩) ?_ ?_
    rotate_left
    · intro w'
      go_simp
      with_reducible rfl
    rotate_left
    · simp only [Act.put, List.setIfInBounds_toArray, List.set_cons_zero, List.set_cons_succ, i64_w, i32_w]
      rfl
    refine done_ (by kernel_rfl) ?_
    have HD := Aside0.mk ((HR9.out.below hbm).done ⟨3, N, (bsOf x)⟩)
    obtain ⟨⟨g0, g1, g2⟩, hbz⟩ := HD.out
    simp only at g0 g1 g2 hbz
    clear HD
    try go_wp2
    exact bodyPost_ret (v := .tuple #[.agg #[.int .u8 3, .int .i64 N, .string (bsOf x)], .bool false]) (by simp [results, Tryz.results26, go_sem, g0, g1, g2]) rfl ⟨false, rfl, hbz, ⟨⟨nofun, fun h => by have h1 := h.1; rw [← HM.out] at h1; cases h1⟩⟩⟩
  | true =>
    have HLN1 := Aside0.mk (HLN.out rfl)
    clear HLN
    obtain ⟨ln, hln⟩ : ∃ ln, ln = lineB ⟨3, N, (bsOf x)⟩ := ⟨_, rfl⟩
    rw [← hln] at HLN1 HSM
    have HLE := Aside0.mk hln
    clear hln
    by_cases hl : ln = s.data.toList
    · obtain ⟨s1, s2⟩ := HSM.out.1 hl
      have HL := Aside0.mk hl
      clear hl HSM
      generalize bsOf ln = lb at *
      refine start_ (n := 14) (S := fun w' => w'.cell? ⟨b, 0, none⟩ = some (.int .u8 3) ∧ w'.cell? ⟨b, 1, none⟩ = some (.int .i64 N) ∧ w'.cell? ⟨b, 2, none⟩ = some (.string (bsOf x))) (ds := [12]) #[false, false, false, false, false, false, false, false, false, false, false, false, false, false] (by kernel_rfl) rfl rfl ⟨(CS.out _ hbd).1, (CS.out _ hbd).2.1, (CS.out _ hbd).2.2⟩ (fun hHeld => ?_)
      refine pure_ (i := 1) (N := some 56) (v := ?_) (a' := ?_) #[false, true, false, false, false, false, false, false, false, false, false, false, false, false] rfl rfl (by kernel_rfl) (fun _ _ _ h => h) (Or.inl ⟨by rfl, ?_⟩) ?_ ?_
      rotate_left
      · intro w'
        go_simp
        with_reducible rfl
      rotate_left
      · simp only [Act.put, List.setIfInBounds_toArray, List.set_cons_zero, List.set_cons_succ, i64_w, i32_w]
        rfl
      refine pure_ (i := 2) (N := some 57) (v := ?_) (a' := ?_) #[false, true, true, false, false, false, false, false, false, false, false, false, false, false] rfl rfl (by kernel_rfl) (fun _ _ _ h => h) (Or.inl ⟨by rfl, ?_⟩) ?_ ?_
      rotate_left
      · intro w'
        go_simp
        with_reducible rfl
      rotate_left
      · simp only [Act.put, List.setIfInBounds_toArray, List.set_cons_zero, List.set_cons_succ, i64_w, i32_w]
        rfl
      refine take_ (i := 0) (N := some 55) (v := ?_) (a' := ?_) #[true, true, true, false, false, false, false, false, false, false, false, false, false, false] rfl rfl (by kernel_rfl) (fun _ _ _ h => h) (Or.inl ⟨by rfl, ?_⟩) hHeld ?_ ?_
      rotate_left
      · rintro w' ⟨s0, s1, s2⟩
        go_simp
        with_reducible rfl
      rotate_left
      · simp only [Act.put, List.setIfInBounds_toArray, List.set_cons_zero, List.set_cons_succ, i64_w, i32_w]
        rfl
      refine take_ (i := 3) (N := some 58) (v := ?_) (a' := ?_) #[true, true, true, true, false, false, false, false, false, false, false, false, false, false] rfl rfl (by kernel_rfl) (fun _ _ _ h => h) (Or.inl ⟨by rfl, ?_⟩) hHeld ?_ ?_
      rotate_left
      · rintro w' ⟨s0, s1, s2⟩
        go_simp
        with_reducible rfl
      rotate_left
      · simp only [Act.put, List.setIfInBounds_toArray, List.set_cons_zero, List.set_cons_succ, i64_w, i32_w]
        rfl
      refine one_ (i := 4) (N := some 59) #[true, true, true, true, true, false, false, false, false, false, false, false, false, false] rfl rfl (by kernel_rfl) (by decide) (fun K hK => ?_)
      refine goes_ Tryz.func30 (by kernel_rfl) rfl #[.agg #[.int .u8 3, .int .i64 N, .string (bsOf x)]] (by rfl) rfl rfl (by simp only [List.map_toArray, List.map_cons, List.map_nil]; rfl) ?_
      with_reducible refine (HMY.out _ hbd).mono ?_
      rintro ev wm ⟨rfl, hbm, ⟨r0, r1, r2⟩, q0, q1, q2⟩
      refine ⟨_, rfl, ?_⟩
      refine hK.out _ _ ⟨(CS.out _ hbm).1, (CS.out _ hbm).2.1, (CS.out _ hbm).2.2⟩ (fun hHeld => ?_)
      clear hK K
      refine norm_ (a' := ?_) ?_ ?_
      rotate_left
      · show Act.put _ (some 59) _ = _
        simp only [Act.put, List.setIfInBounds_toArray, List.set_cons_zero, List.set_cons_succ, i64_w, i32_w]
        rfl
      refine pure_ (i := 5) (N := some 60) (v := ?_) (a' := ?_) #[true, true, true, true, true, true, false, false, false, false, false, false, false, false] rfl rfl (by kernel_rfl) (fun _ _ _ h => h) (Or.inl ⟨by rfl, ?_⟩) ?_ ?_
      rotate_left
      · intro w'
        go_simp
        with_reducible rfl
      rotate_left
      · simp only [Act.put, List.setIfInBounds_toArray, List.set_cons_zero, List.set_cons_succ, i64_w, i32_w]
        rfl
      refine pure_ (i := 6) (N := some 61) (v := ?_) (a' := ?_) #[true, true, true, true, true, true, true, false, false, false, false, false, false, false] rfl rfl (by kernel_rfl) (fun _ _ _ h => h) (Or.inl ⟨by rfl, ?_⟩) ?_ ?_
      rotate_left
      · intro w'
        go_simp
        with_reducible rfl
      rotate_left
      · simp only [Act.put, List.setIfInBounds_toArray, List.set_cons_zero, List.set_cons_succ, i64_w, i32_w]
        rfl
      refine pure_ (i := 9) (N := some 64) (v := ?_) (a' := ?_) #[true, true, true, true, true, true, true, false, false, true, false, false, false, false] rfl rfl (by kernel_rfl) (fun _ _ _ h => h) (Or.inl ⟨by rfl, ?_⟩) ?_ ?_
      rotate_left
      · intro w'
        go_simp
        with_reducible rfl
      rotate_left
      · simp only [Act.put, List.setIfInBounds_toArray, List.set_cons_zero, List.set_cons_succ, i64_w, i32_w]
        rfl
      refine take_ (i := 7) (N := some 62) (v := ?_) (a' := ?_) #[true, true, true, true, true, true, true, true, false, true, false, false, false, false] rfl rfl (by kernel_rfl) (fun _ _ _ h => h) (Or.inl ⟨by rfl, ?_⟩) hHeld ?_ ?_
      rotate_left
      · rintro w' ⟨s0, s1, s2⟩
        go_simp
        with_reducible rfl
      rotate_left
      · simp only [Act.put, List.setIfInBounds_toArray, List.set_cons_zero, List.set_cons_succ, i64_w, i32_w]
        rfl
      refine one_ (i := 8) (N := some 63) #[true, true, true, true, true, true, true, true, true, true, false, false, false, false] rfl rfl (by kernel_rfl) (by decide) (fun K hK => ?_)
      refine goes_ Tryz.func18 (by kernel_rfl) rfl #[.agg #[.int .u8 3, .int .i64 N, .string (bsOf x)]] (by rfl) rfl rfl (by simp only [List.map_toArray, List.map_cons, List.map_nil]; rfl) ?_
      with_reducible refine (HLN1.out _ hbm).mono ?_
      rintro ev wl ⟨rfl, hbl, ⟨r0, r1, r2⟩, q0, q1, q2⟩
      refine ⟨_, rfl, ?_⟩
      refine hK.out _ _ ⟨(CS.out _ hbl).1, (CS.out _ hbl).2.1, (CS.out _ hbl).2.2⟩ (fun hHeld => ?_)
      clear hK K
      refine norm_ (a' := ?_) ?_ ?_
      rotate_left
      · show Act.put _ (some 63) _ = _
        simp only [Act.put, List.setIfInBounds_toArray, List.set_cons_zero, List.set_cons_succ, i64_w, i32_w]
        rfl
      refine pure_ (i := 10) (N := some 65) (v := ?_) (a' := ?_) #[true, true, true, true, true, true, true, true, true, true, true, false, false, false] rfl rfl (by kernel_rfl) (fun _ _ _ h => h) (Or.inl ⟨by rfl, ?_⟩) ?_ ?_
      rotate_left
      · intro w'
        go_simp
        with_reducible rfl
      rotate_left
      · simp only [Act.put, List.setIfInBounds_toArray, List.set_cons_zero, List.set_cons_succ, i64_w, i32_w]
        rfl
      refine pure_ (i := 11) (N := some 66) (v := ?_) (a' := ?_) #[true, true, true, true, true, true, true, true, true, true, true, true, false, false] rfl rfl (by kernel_rfl) (fun _ _ _ h => h) (Or.inl ⟨by rfl, ?_⟩) ?_ ?_
      rotate_left
      · intro w'
        go_simp
        with_reducible rfl
      rotate_left
      · simp only [Act.put, List.setIfInBounds_toArray, List.set_cons_zero, List.set_cons_succ, i64_w, i32_w]
        rfl
      refine last_ (i := 12) (N := none) #[true, true, true, true, true, true, true, true, true, true, true, true, true, false] rfl rfl (by kernel_rfl) (by decide) (fun K hK => ?_)
      refine skip_ (w1 := ?_) (by rfl) rfl ?_ ?_
      rotate_left
      · go_simp
        rfl
      refine hK.out _ _ ?_
      clear hK K
      refine pure_ (i := 13) (N := some 3) (v := ?_) (a' := ?_) #[true, true, true, true, true, true, true, true, true, true, true, true, true, true] rfl rfl (by kernel_rfl) (fun _ _ _ h => h) (Or.inl ⟨by rfl, ?_⟩) ?_ ?_
      rotate_left
      · intro w'
        go_simp
        with_reducible rfl
      rotate_left
      · simp only [Act.put, List.setIfInBounds_toArray, List.set_cons_zero, List.set_cons_succ, i64_w, i32_w]
        rfl
      refine done_ (by kernel_rfl) ?_
      have HD := Aside0.mk ((HR9.out.below hbl).done ⟨3, N, (bsOf x)⟩)
      obtain ⟨⟨g0, g1, g2⟩, hbz⟩ := HD.out
      simp only at g0 g1 g2 hbz
      clear HD
      try go_wp2
      exact bodyPost_ret (v := .tuple #[.agg #[.int .u8 3, .int .i64 N, .string (bsOf x)], .bool true]) (by simp [results, Tryz.results26, go_sem, g0, g1, g2]) rfl ⟨true, rfl, hbz, ⟨⟨fun _ => ⟨HM.out.symm, by rw [← HLE.out]; exact HL.out⟩, fun _ => rfl⟩⟩⟩
    · obtain ⟨s1, s2⟩ := HSM.out.2 hl
      have HL := Aside0.mk hl
      clear hl HSM
      generalize bsOf ln = lb at *
      refine start_ (n := 14) (S := fun w' => w'.cell? ⟨b, 0, none⟩ = some (.int .u8 3) ∧ w'.cell? ⟨b, 1, none⟩ = some (.int .i64 N) ∧ w'.cell? ⟨b, 2, none⟩ = some (.string (bsOf x))) (ds := [12]) #[false, false, false, false, false, false, false, false, false, false, false, false, false, false] (by kernel_rfl) rfl rfl ⟨(CS.out _ hbd).1, (CS.out _ hbd).2.1, (CS.out _ hbd).2.2⟩ (fun hHeld => ?_)
      refine pure_ (i := 1) (N := some 56) (v := ?_) (a' := ?_) #[false, true, false, false, false, false, false, false, false, false, false, false, false, false] rfl rfl (by kernel_rfl) (fun _ _ _ h => h) (Or.inl ⟨by rfl, ?_⟩) ?_ ?_
      rotate_left
      · intro w'
        go_simp
        with_reducible rfl
      rotate_left
      · simp only [Act.put, List.setIfInBounds_toArray, List.set_cons_zero, List.set_cons_succ, i64_w, i32_w]
        rfl
      refine pure_ (i := 2) (N := some 57) (v := ?_) (a' := ?_) #[false, true, true, false, false, false, false, false, false, false, false, false, false, false] rfl rfl (by kernel_rfl) (fun _ _ _ h => h) (Or.inl ⟨by rfl, ?_⟩) ?_ ?_
      rotate_left
      · intro w'
        go_simp
        with_reducible rfl
      rotate_left
      · simp only [Act.put, List.setIfInBounds_toArray, List.set_cons_zero, List.set_cons_succ, i64_w, i32_w]
        rfl
      refine take_ (i := 0) (N := some 55) (v := ?_) (a' := ?_) #[true, true, true, false, false, false, false, false, false, false, false, false, false, false] rfl rfl (by kernel_rfl) (fun _ _ _ h => h) (Or.inl ⟨by rfl, ?_⟩) hHeld ?_ ?_
      rotate_left
      · rintro w' ⟨s0, s1, s2⟩
        go_simp
        with_reducible rfl
      rotate_left
      · simp only [Act.put, List.setIfInBounds_toArray, List.set_cons_zero, List.set_cons_succ, i64_w, i32_w]
        rfl
      refine take_ (i := 3) (N := some 58) (v := ?_) (a' := ?_) #[true, true, true, true, false, false, false, false, false, false, false, false, false, false] rfl rfl (by kernel_rfl) (fun _ _ _ h => h) (Or.inl ⟨by rfl, ?_⟩) hHeld ?_ ?_
      rotate_left
      · rintro w' ⟨s0, s1, s2⟩
        go_simp
        with_reducible rfl
      rotate_left
      · simp only [Act.put, List.setIfInBounds_toArray, List.set_cons_zero, List.set_cons_succ, i64_w, i32_w]
        rfl
      refine one_ (i := 4) (N := some 59) #[true, true, true, true, true, false, false, false, false, false, false, false, false, false] rfl rfl (by kernel_rfl) (by decide) (fun K hK => ?_)
      refine goes_ Tryz.func30 (by kernel_rfl) rfl #[.agg #[.int .u8 3, .int .i64 N, .string (bsOf x)]] (by rfl) rfl rfl (by simp only [List.map_toArray, List.map_cons, List.map_nil]; rfl) ?_
      with_reducible refine (HMY.out _ hbd).mono ?_
      rintro ev wm ⟨rfl, hbm, ⟨r0, r1, r2⟩, q0, q1, q2⟩
      refine ⟨_, rfl, ?_⟩
      refine hK.out _ _ ⟨(CS.out _ hbm).1, (CS.out _ hbm).2.1, (CS.out _ hbm).2.2⟩ (fun hHeld => ?_)
      clear hK K
      refine norm_ (a' := ?_) ?_ ?_
      rotate_left
      · show Act.put _ (some 59) _ = _
        simp only [Act.put, List.setIfInBounds_toArray, List.set_cons_zero, List.set_cons_succ, i64_w, i32_w]
        rfl
      refine pure_ (i := 5) (N := some 60) (v := ?_) (a' := ?_) #[true, true, true, true, true, true, false, false, false, false, false, false, false, false] rfl rfl (by kernel_rfl) (fun _ _ _ h => h) (Or.inl ⟨by rfl, ?_⟩) ?_ ?_
      rotate_left
      · intro w'
        go_simp
        with_reducible rfl
      rotate_left
      · simp only [Act.put, List.setIfInBounds_toArray, List.set_cons_zero, List.set_cons_succ, i64_w, i32_w]
        rfl
      refine pure_ (i := 6) (N := some 61) (v := ?_) (a' := ?_) #[true, true, true, true, true, true, true, false, false, false, false, false, false, false] rfl rfl (by kernel_rfl) (fun _ _ _ h => h) (Or.inl ⟨by rfl, ?_⟩) ?_ ?_
      rotate_left
      · intro w'
        go_simp
        with_reducible rfl
      rotate_left
      · simp only [Act.put, List.setIfInBounds_toArray, List.set_cons_zero, List.set_cons_succ, i64_w, i32_w]
        rfl
      refine pure_ (i := 9) (N := some 64) (v := ?_) (a' := ?_) #[true, true, true, true, true, true, true, false, false, true, false, false, false, false] rfl rfl (by kernel_rfl) (fun _ _ _ h => h) (Or.inl ⟨by rfl, ?_⟩) ?_ ?_
      rotate_left
      · intro w'
        go_simp
        with_reducible rfl
      rotate_left
      · simp only [Act.put, List.setIfInBounds_toArray, List.set_cons_zero, List.set_cons_succ, i64_w, i32_w]
        rfl
      refine take_ (i := 7) (N := some 62) (v := ?_) (a' := ?_) #[true, true, true, true, true, true, true, true, false, true, false, false, false, false] rfl rfl (by kernel_rfl) (fun _ _ _ h => h) (Or.inl ⟨by rfl, ?_⟩) hHeld ?_ ?_
      rotate_left
      · rintro w' ⟨s0, s1, s2⟩
        go_simp
        with_reducible rfl
      rotate_left
      · simp only [Act.put, List.setIfInBounds_toArray, List.set_cons_zero, List.set_cons_succ, i64_w, i32_w]
        rfl
      refine one_ (i := 8) (N := some 63) #[true, true, true, true, true, true, true, true, true, true, false, false, false, false] rfl rfl (by kernel_rfl) (by decide) (fun K hK => ?_)
      refine goes_ Tryz.func18 (by kernel_rfl) rfl #[.agg #[.int .u8 3, .int .i64 N, .string (bsOf x)]] (by rfl) rfl rfl (by simp only [List.map_toArray, List.map_cons, List.map_nil]; rfl) ?_
      with_reducible refine (HLN1.out _ hbm).mono ?_
      rintro ev wl ⟨rfl, hbl, ⟨r0, r1, r2⟩, q0, q1, q2⟩
      refine ⟨_, rfl, ?_⟩
      refine hK.out _ _ ⟨(CS.out _ hbl).1, (CS.out _ hbl).2.1, (CS.out _ hbl).2.2⟩ (fun hHeld => ?_)
      clear hK K
      refine norm_ (a' := ?_) ?_ ?_
      rotate_left
      · show Act.put _ (some 63) _ = _
        simp only [Act.put, List.setIfInBounds_toArray, List.set_cons_zero, List.set_cons_succ, i64_w, i32_w]
        rfl
      refine pure_ (i := 10) (N := some 65) (v := ?_) (a' := ?_) #[true, true, true, true, true, true, true, true, true, true, true, false, false, false] rfl rfl (by kernel_rfl) (fun _ _ _ h => h) (Or.inl ⟨by rfl, ?_⟩) ?_ ?_
      rotate_left
      · intro w'
        go_simp
        with_reducible rfl
      rotate_left
      · simp only [Act.put, List.setIfInBounds_toArray, List.set_cons_zero, List.set_cons_succ, i64_w, i32_w]
        rfl
      refine pure_ (i := 11) (N := some 66) (v := ?_) (a' := ?_) #[true, true, true, true, true, true, true, true, true, true, true, true, false, false] rfl rfl (by kernel_rfl) (fun _ _ _ h => h) (Or.inl ⟨by rfl, ?_⟩) ?_ ?_
      rotate_left
      · intro w'
        go_simp
        with_reducible rfl
      rotate_left
      · simp only [Act.put, List.setIfInBounds_toArray, List.set_cons_zero, List.set_cons_succ, i64_w, i32_w]
        rfl
      refine last_ (i := 12) (N := none) #[true, true, true, true, true, true, true, true, true, true, true, true, true, false] rfl rfl (by kernel_rfl) (by decide) (fun K hK => ?_)
      refine skip_ (w1 := ?_) (by rfl) rfl ?_ ?_
      rotate_left
      · go_simp
        rfl
      refine hK.out _ _ ?_
      clear hK K
      refine pure_ (i := 13) (N := some 3) (v := ?_) (a' := ?_) #[true, true, true, true, true, true, true, true, true, true, true, true, true, true] rfl rfl (by kernel_rfl) (fun _ _ _ h => h) (Or.inl ⟨by rfl, ?_⟩) ?_ ?_
      rotate_left
      · intro w'
        go_simp
        with_reducible rfl
      rotate_left
      · simp only [Act.put, List.setIfInBounds_toArray, List.set_cons_zero, List.set_cons_succ, i64_w, i32_w]
        rfl
      refine done_ (by kernel_rfl) ?_
      have HD := Aside0.mk ((HR9.out.below hbl).done ⟨3, N, (bsOf x)⟩)
      obtain ⟨⟨g0, g1, g2⟩, hbz⟩ := HD.out
      simp only at g0 g1 g2 hbz
      clear HD
      try go_wp2
      exact bodyPost_ret (v := .tuple #[.agg #[.int .u8 3, .int .i64 N, .string (bsOf x)], .bool false]) (by simp [results, Tryz.results26, go_sem, g0, g1, g2]) rfl ⟨false, rfl, hbz, ⟨⟨nofun, fun h => absurd (by rw [HLE.out]; exact h.2) HL.out⟩⟩⟩

set_option maxHeartbeats 8000000 in
theorem readC4_calls (w : World) (s : ByteArray) (hs : s.size ≤ 50000) (hT : NumT w) (hE : NumE w) (hM : MaxT w) (p : List UInt8) (q : List UInt8) (N : Int) (hrq : readR (bsOf q) = (N, 0)) (hqs : q.length ≤ 50000) (t : List UInt8) (hts : t.length ≤ 50000)  (hsp : splitP s.data.toList = [p, q, t]) (k : Nat) (hk : k < 6) (hkx : kI p = (k : Int)) (kd : Int) (hK : kd = ((k + 1 : Nat) : Int)) (hk2 : ¬ k = 2) :
    Calls Tryz.prog 26 #[.string s] w fun e w' => ReadPost w s.data.toList ⟨kd, N, bsOf (textU t)⟩ e w' := by
  obtain ⟨W0, hW0⟩ : ∃ W0, W0 = w.alloc (.cells #[.int .u8 0, .int .i64 0, .string ⟨#[]⟩] 43) := ⟨_, rfl⟩
  have hb0 : Below w.heap.size w W0 := by rw [hW0]; exact below_alloc (Below.refl _ _) _
  have hx0 : BoxH W0 w.heap.size ⟨0, 0, ⟨#[]⟩⟩ := by rw [hW0]; exact BoxH.new w ⟨0, 0, ⟨#[]⟩⟩
  have HSP := Aside0.mk (splitn_calls s W0 (by omega) (hM.below hb0))
  have HB0 := Aside0.mk hb0
  have HX0 := Aside0.mk hx0
  have HW := Aside0.mk hW0
  have HT := Aside0.mk hT
  have HE := Aside0.mk hE
  have HSS := Aside0.mk hs
  rw [hsp] at HSP
  have HKX := Aside0.mk hkx
  have hw1 : IntKind.u8.wrap (k : Int) = (k : Int) := by rw [show IntKind.u8.wrap (k : Int) = (k : Int) % 256 by simp [IntKind.wrap, IntKind.bits, IntKind.signed]]; omega
  have hw2 : IntKind.u8.wrap (1 + (k : Int)) = kd := by rw [show IntKind.u8.wrap (1 + (k : Int)) = (1 + (k : Int)) % 256 by simp [IntKind.wrap, IntKind.bits, IntKind.signed]]; omega
  have HNR : Aside0 (∀ (W : World) (k1 : NumE W), Calls Tryz.prog 46 #[.string (bsOf q)] W fun e w' => e = .returned (.tuple #[.int .i64 N, .int .i64 0]) ∧ Below W.heap.size W w') := ⟨fun W k1 => by
    have h := read_calls (bsOf q) (by rw [bs_size]; omega) W k1
    rw [hrq] at h
    exact h⟩
  clear hqs hrq
  have HCT := Aside0.mk (fun (W : World) => text_calls W (bsOf t) (by rw [bs_size]; omega))
  rw [bs_list] at HCT
  have HSX : Aside0 ((bsOf (textU t)).size ≤ 50000) := ⟨by rw [bs_size]; exact Nat.le_trans (textU_len t) hts⟩
  have hk3 : ¬ kd = 3 := by omega
  have hk3b : (kd == 3) = false := beq_eq_false_iff_ne.2 hk3
  clear hkx hK hts
  clear hb0 hx0 hW0 hM hT hE hsp hs
  go_enter Tryz.func26, Tryz.ntmps26
  go_upto_region 1 with fail
  rw [← HW.out]
  go_wp2_with fail
  with_reducible refine HSP.out.mono ?_
  rintro e w1 ⟨c1, rfl, hc1, hcell, hb⟩
  have HB1 := Aside0.mk (HB0.out.trans (hb.mono HB0.out.size))
  have HX1 := Aside0.mk (HX0.out.below hb)
  have HCE := Aside0.mk hcell
  have h0 : w1.cell? ⟨W0.heap.size, 0, none⟩ = some (.string (bsOf p)) := hcell 0 (by simp)
  have CL : Aside0 (∀ W, Below w1.heap.size w1 W → W.cell? ⟨W0.heap.size, 0, none⟩ = some (.string (bsOf p))) := ⟨fun W hb => pw_cell_below hb h0⟩
  have HKI : Aside0 (∀ W, Below w1.heap.size w1 W → Calls Tryz.prog 34 #[] W fun e w' => ∃ A c, e = .returned (.slice (some A) 6 c) ∧ 6 ≤ c ∧ Aside0 (Kd.string.C w' (some A) 6 kindS) ∧ Below w1.heap.size w1 w') :=
    ⟨fun W hb => (kinds_calls W).mono fun e w' ⟨A, c, q1, q2, q3, q4⟩ => ⟨A, c, q1, q2, ⟨q3⟩, hb.trans (q4.mono hb.size)⟩⟩
  have HIX : Aside0 (∀ W A c, Aside0 (Kd.string.C W (some A) 6 kindS) → 6 ≤ c → Below w1.heap.size w1 W → Calls Tryz.prog 45 #[.slice (some A) 6 c, .string (bsOf p)] W fun e w' => e = .returned (.int .i64 (k : Int)) ∧ Below w1.heap.size w1 w') :=
    ⟨fun W A c hC hc hb => (sidx_calls W (some A) c p hC.out hc).mono fun e w' ⟨q1, q2⟩ => ⟨by rw [q1, HKX.out], hb.trans (q2.mono hb.size)⟩⟩
  have hbd : Below w1.heap.size w1 w1.drew := below_drew (Below.refl _ _)
  have hn0 : 0 < 3 := by omega
  have hn2 : (0 : Int) < ((3 : Nat) : Int) := by omega
  clear hb hcell HSP
  simp only [List.length_cons, List.length_nil, Nat.zero_add, Nat.reduceAdd] at hc1 ⊢
  go_wp2_with fail
  go_region_held3 (fun W => W.cell? ⟨W0.heap.size, 0, none⟩ = some (.string (bsOf p))) (first | exact h0 | exact CL.out _ (by assumption))
    (first
      | (go_at_call 34; with_reducible refine (HKI.out _ (by assumption)).mono ?_; rintro ev wk ⟨adk, ck, rfl, hck, hCk, hbk⟩)
      | (go_at_call 45; with_reducible refine (HIX.out _ _ _ (by assumption) (by assumption) (by assumption)).mono ?_; rintro ev wi ⟨rfl, hbi⟩))
  have HBI := Aside0.mk (HB1.out.trans (hbi.mono HB1.out.size))
  have HXI := Aside0.mk (HX1.out.below hbi)
  have HCI : Aside0 (∀ i, i < ([p, q, t]).length → wi.cell? ⟨W0.heap.size, i, none⟩ = some (.string (bsOf (([p, q, t]).getD i [])))) := ⟨fun i hi => pw_cell_below hbi (HCE.out i hi)⟩
  clear hbi hbk hCk hbd h0 CL HKI HIX hn0 hn2 HCE
  have HWL : Aside0 (W0.heap.size < wi.heap.size) := ⟨Lib.lt_of_cell (HCI.out 0 (by simp))⟩
  go_upto_region 6 with fail
  obtain ⟨w5, hw5⟩ : ∃ w5, w5 = wi.alloc (.cells #[.int .u8 kd, .int .i64 0, .string ⟨#[]⟩] 43) := ⟨_, rfl⟩
  have HR5 : Aside0 (RS w w5 wi.heap.size ⟨kd, 0, ⟨#[]⟩⟩) := ⟨by rw [hw5]; exact RS.new HBI.out HXI.out ⟨kd, 0, ⟨#[]⟩⟩⟩
  have HC5 : Aside0 (∀ i, i < ([p, q, t]).length → w5.cell? ⟨W0.heap.size, i, none⟩ = some (.string (bsOf (([p, q, t]).getD i [])))) := ⟨fun i hi => by rw [hw5]; exact pw_cell_below (below_alloc (Below.refl _ _) _) (HCI.out i hi)⟩
  rw [← hw5]
  clear hw5 HCI HXI HBI
  obtain ⟨b, hbw⟩ : ∃ b, b = wi.heap.size := ⟨_, rfl⟩
  rw [← hbw] at HR5 HWL ⊢
  have HNB : Aside0 (W0.heap.size ≠ b) := ⟨Nat.ne_of_lt HWL.out⟩
  clear hbw HWL
  have h1 : w5.cell? ⟨W0.heap.size, 1, none⟩ = some (.string (bsOf q)) := HC5.out 1 (by simp)
  go_wp2_with fail
  with_reducible refine (HNR.out _ (HE.out.below HR5.out.bel)).mono ?_
  rintro e w6 ⟨rfl, hb⟩
  have HR6 := Aside0.mk (HR5.out.below hb)
  have HC6 : Aside0 (∀ i, i < ([p, q, t]).length → w6.cell? ⟨W0.heap.size, i, none⟩ = some (.string (bsOf (([p, q, t]).getD i [])))) := ⟨fun i hi => pw_cell_below hb (HC5.out i hi)⟩
  clear hb HC5 HR5 h1 HNR
  obtain ⟨c0, c1', c2'⟩ := HR6.out.hap.cells
  obtain ⟨f0, f1, f2⟩ := HR6.out.hap.fro
  go_upto_region 11 with fail
  obtain ⟨w7, hw7⟩ : ∃ w7, w7 = w6.setCell ⟨b, 1, none⟩ (.int .i64 N) := ⟨_, rfl⟩
  have HR7 : Aside0 (RS w w7 b ⟨kd, N, ⟨#[]⟩⟩) := ⟨by rw [hw7]; exact HR6.out.one N⟩
  have HC7 : Aside0 (∀ i, i < ([p, q, t]).length → w7.cell? ⟨W0.heap.size, i, none⟩ = some (.string (bsOf (([p, q, t]).getD i [])))) := ⟨fun i hi => by
    rw [hw7, World.cell?_setCell_other _ _ _ _ (fun h => HNB.out (congrArg Addr.block h).symm)]
    exact HC6.out i hi⟩
  rw [← hw7]
  clear hw7 HC6 HR6 c0 c1' c2' f0 f1 f2
  have h2 : w7.cell? ⟨W0.heap.size, 2, none⟩ = some (.string (bsOf t)) := HC7.out 2 (by simp)
  obtain ⟨c0, c1', c2'⟩ := HR7.out.hap.cells
  have hen : ∀ args W, (callFunc 47 args).run Tryz.prog W = .ok (.enter 47 args) W := enters_of Tryz.func47 (by kernel_rfl) rfl
  clear HC7
  go_wp2_with fail
  with_reducible refine (HCT.out _ ).mono ?_
  rintro e w8 ⟨rfl, hb⟩
  have HR8 := Aside0.mk (HR7.out.below hb)
  clear hb c0 c1' c2' h2 HR7
  obtain ⟨c0, c1', c2'⟩ := HR8.out.hap.cells
  obtain ⟨f0, f1, f2⟩ := HR8.out.hap.fro
  go_upto_region 17 with fail
  obtain ⟨w9, hw9⟩ : ∃ w9, w9 = w8.setCell ⟨b, 2, none⟩ (.string (bsOf (textU t))) := ⟨_, rfl⟩
  have HR9 : Aside0 (RS w w9 b ⟨kd, N, (bsOf (textU t))⟩) := ⟨by rw [hw9]; exact HR8.out.two (bsOf (textU t))⟩
  rw [← hw9]
  clear hw9 HR8 c0 c1' c2' f0 f1 f2
  have CS : Aside0 (∀ W', Below w9.heap.size w9 W' → (W'.cell? ⟨b, 0, none⟩ = some (.int .u8 kd) ∧ W'.cell? ⟨b, 1, none⟩ = some (.int .i64 N) ∧ W'.cell? ⟨b, 2, none⟩ = some (.string (bsOf (textU t))))) := ⟨fun W' hb => (HR9.out.below hb).hap.cells⟩
  have hbd : Below w9.heap.size w9 w9.drew := below_drew (Below.refl _ _)
  obtain ⟨⟨x0, x1, x2⟩, y0, y1, y2⟩ := HR9.out.resF
  obtain ⟨⟨r0, r1, r2⟩, q0, q1, q2⟩ := (HR9.out.below hbd).resF
  have HMY : Aside0 (∀ W', Below w9.heap.size w9 W' → Calls Tryz.prog 30 #[.agg #[.int .u8 kd, .int .i64 N, .string (bsOf (textU t))]] W' fun e w'' => e = .returned (.bool (mayB ⟨kd, N, (bsOf (textU t))⟩)) ∧ Below w9.heap.size w9 w'' ∧ ResF w w'') :=
    ⟨fun W' hb => (script_may.calls kd N (bsOf (textU t)) (mayB ⟨kd, N, (bsOf (textU t))⟩) W' (may_f ⟨kd, N, (bsOf (textU t))⟩)).mono fun e w'' ⟨p1, p2⟩ => ⟨p1, hb.trans (p2.mono hb.size), (HR9.out.below (hb.trans (p2.mono hb.size))).resF⟩⟩
  have HLN : Aside0 (mayB ⟨kd, N, (bsOf (textU t))⟩ = true → ∀ W', Below w9.heap.size w9 W' → Calls Tryz.prog 18 #[.agg #[.int .u8 kd, .int .i64 N, .string (bsOf (textU t))]] W' fun e w'' => e = .returned (.string (bsOf (lineB ⟨kd, N, (bsOf (textU t))⟩))) ∧ Below w9.heap.size w9 w'' ∧ ResF w w'') :=
    ⟨fun hm W' hb => (line_calls W' ⟨kd, N, (bsOf (textU t))⟩ hm HSX.out (HT.out.below (HR9.out.bel.trans (hb.mono HR9.out.bel.size)))).mono fun e w'' ⟨p1, p2⟩ => ⟨p1, hb.trans (p2.mono hb.size), (HR9.out.below (hb.trans (p2.mono hb.size))).resF⟩⟩
  have HSM := Aside0.mk (str_same (lineB ⟨kd, N, (bsOf (textU t))⟩) s)
  obtain ⟨m, hm⟩ : ∃ m, m = mayB ⟨kd, N, (bsOf (textU t))⟩ := ⟨_, rfl⟩
  rw [← hm] at HMY HLN
  have HM := Aside0.mk hm
  clear hm
  cases m with
  | false =>
    clear HLN HSM
    refine start_ (n := 14) (S := fun w' => w'.cell? ⟨b, 0, none⟩ = some (.int .u8 kd) ∧ w'.cell? ⟨b, 1, none⟩ = some (.int .i64 N) ∧ w'.cell? ⟨b, 2, none⟩ = some (.string (bsOf (textU t)))) (ds := [12]) #[false, false, false, false, false, false, false, false, false, false, false, false, false, false] (by kernel_rfl) rfl rfl ⟨(CS.out _ hbd).1, (CS.out _ hbd).2.1, (CS.out _ hbd).2.2⟩ (fun hHeld => ?_)
    refine pure_ (i := 1) (N := some 56) (v := ?_) (a' := ?_) #[false, true, false, false, false, false, false, false, false, false, false, false, false, false] rfl rfl (by kernel_rfl) (fun _ _ _ h => h) (Or.inl ⟨by rfl, ?_⟩) ?_ ?_
    rotate_left
    · intro w'
      go_simp
      with_reducible rfl
    rotate_left
    · simp only [Act.put, List.setIfInBounds_toArray, List.set_cons_zero, List.set_cons_succ, i64_w, i32_w]
      rfl
    refine pure_ (i := 2) (N := some 57) (v := ?_) (a' := ?_) #[false, true, true, false, false, false, false, false, false, false, false, false, false, false] rfl rfl (by kernel_rfl) (fun _ _ _ h => h) (Or.inl ⟨by rfl, ?_⟩) ?_ ?_
    rotate_left
    · intro w'
      go_simp
      with_reducible rfl
    rotate_left
    · simp only [Act.put, List.setIfInBounds_toArray, List.set_cons_zero, List.set_cons_succ, i64_w, i32_w]
      rfl
    refine take_ (i := 0) (N := some 55) (v := ?_) (a' := ?_) #[true, true, true, false, false, false, false, false, false, false, false, false, false, false] rfl rfl (by kernel_rfl) (fun _ _ _ h => h) (Or.inl ⟨by rfl, ?_⟩) hHeld ?_ ?_
    rotate_left
    · rintro w' ⟨s0, s1, s2⟩
      go_simp
      with_reducible rfl
    rotate_left
    · simp only [Act.put, List.setIfInBounds_toArray, List.set_cons_zero, List.set_cons_succ, i64_w, i32_w]
      rfl
    refine take_ (i := 3) (N := some 58) (v := ?_) (a' := ?_) #[true, true, true, true, false, false, false, false, false, false, false, false, false, false] rfl rfl (by kernel_rfl) (fun _ _ _ h => h) (Or.inl ⟨by rfl, ?_⟩) hHeld ?_ ?_
    rotate_left
    · rintro w' ⟨s0, s1, s2⟩
      go_simp
      with_reducible rfl
    rotate_left
    · simp only [Act.put, List.setIfInBounds_toArray, List.set_cons_zero, List.set_cons_succ, i64_w, i32_w]
      rfl
    refine one_ (i := 4) (N := some 59) #[true, true, true, true, true, false, false, false, false, false, false, false, false, false] rfl rfl (by kernel_rfl) (by decide) (fun K hK => ?_)
    refine goes_ Tryz.func30 (by kernel_rfl) rfl #[.agg #[.int .u8 kd, .int .i64 N, .string (bsOf (textU t))]] (by rfl) rfl rfl (by simp only [List.map_toArray, List.map_cons, List.map_nil]; rfl) ?_
    with_reducible refine (HMY.out _ hbd).mono ?_
    rintro ev wm ⟨rfl, hbm, ⟨r0, r1, r2⟩, q0, q1, q2⟩
    refine ⟨_, rfl, ?_⟩
    refine hK.out _ _ ⟨(CS.out _ hbm).1, (CS.out _ hbm).2.1, (CS.out _ hbm).2.2⟩ (fun hHeld => ?_)
    clear hK K
    refine norm_ (a' := ?_) ?_ ?_
    rotate_left
    · show Act.put _ (some 59) _ = _
      simp only [Act.put, List.setIfInBounds_toArray, List.set_cons_zero, List.set_cons_succ, i64_w, i32_w]
      rfl
    refine pure_ (i := 5) (N := some 60) (v := ?_) (a' := ?_) #[true, true, true, true, true, true, false, false, false, false, false, false, false, false] rfl rfl (by kernel_rfl) (fun _ _ _ h => h) (Or.inl ⟨by rfl, ?_⟩) ?_ ?_
    rotate_left
    · intro w'
      go_simp
      with_reducible rfl
    rotate_left
    · simp only [Act.put, List.setIfInBounds_toArray, List.set_cons_zero, List.set_cons_succ, i64_w, i32_w]
      rfl
    refine pure_ (i := 6) (N := some 61) (v := ?_) (a' := ?_) #[true, true, true, true, true, true, true, false, false, false, false, false, false, false] rfl rfl (by kernel_rfl) (fun _ _ _ h => h) (Or.inl ⟨by rfl, ?_⟩) ?_ ?_
    rotate_left
    · intro w'
      go_simp
      with_reducible rfl
    rotate_left
    · simp only [Act.put, List.setIfInBounds_toArray, List.set_cons_zero, List.set_cons_succ, i64_w, i32_w]
      rfl
    refine pure_ (i := 7) (N := some 62) (v := undef) (a' := ?_) #[true, true, true, true, true, true, true, true, false, false, false, false, false, false] rfl rfl (by kernel_rfl) (fun _ _ _ h => h) (Or.inr ⟨by rfl, rfl⟩) ?_ ?_
    rotate_left
    · simp only [Act.put, List.setIfInBounds_toArray, List.set_cons_zero, List.set_cons_succ, i64_w, i32_w]
      rfl
    refine pure_ (i := 8) (N := some 63) (v := undef) (a' := ?_) #[true, true, true, true, true, true, true, true, true, false, false, false, false, false] rfl rfl (by kernel_rfl) (fun _ _ _ h => h) (Or.inr ⟨by rfl, rfl⟩) ?_ ?_
    rotate_left
    · simp only [Act.put, List.setIfInBounds_toArray, List.set_cons_zero, List.set_cons_succ, i64_w, i32_w]
      rfl
    refine pure_ (i := 9) (N := some 64) (v := undef) (a' := ?_) #[true, true, true, true, true, true, true, true, true, true, false, false, false, false] rfl rfl (by kernel_rfl) (fun _ _ _ h => h) (Or.inr ⟨by rfl, rfl⟩) ?_ ?_
    rotate_left
    · simp only [Act.put, List.setIfInBounds_toArray, List.set_cons_zero, List.set_cons_succ, i64_w, i32_w]
      rfl
    refine pure_ (i := 10) (N := some 65) (v := undef) (a' := ?_) #[true, true, true, true, true, true, true, true, true, true, true, false, false, false] rfl rfl (by kernel_rfl) (fun _ _ _ h => h) (Or.inr ⟨by rfl, rfl⟩) ?_ ?_
    rotate_left
    · simp only [Act.put, List.setIfInBounds_toArray, List.set_cons_zero, List.set_cons_succ, i64_w, i32_w]
      rfl
    refine pure_ (i := 11) (N := some 66) (v := ?_) (a' := ?_) #[true, true, true, true, true, true, true, true, true, true, true, true, false, false] rfl rfl (by kernel_rfl) (fun _ _ _ h => h) (Or.inl ⟨by rfl, ?_⟩) ?_ ?_
    rotate_left
    · intro w'
      go_simp
      with_reducible rfl
    rotate_left
    · simp only [Act.put, List.setIfInBounds_toArray, List.set_cons_zero, List.set_cons_succ, i64_w, i32_w]
      rfl
    refine last_ (i := 12) (N := none) #[true, true, true, true, true, true, true, true, true, true, true, true, true, false] rfl rfl (by kernel_rfl) (by decide) (fun K hK => ?_)
    refine skip_ (w1 := ?_) (by rfl) rfl ?_ ?_
    rotate_left
    · go_simp
      rfl
    refine hK.out _ _ ?_
    clear hK K
    refine pure_ (i := 13) (N := some 3) (v := ?_) (a' := ?_) #[true, true, true, true, true, true, true, true, true, true, true, true, true, true] rfl rfl (by kernel_rfl) (fun _ _ _ h => h) (Or.inl ⟨by rfl, ?_⟩) ?_ ?_
    rotate_left
    · intro w'
      go_simp
      with_reducible rfl
    rotate_left
    · simp only [Act.put, List.setIfInBounds_toArray, List.set_cons_zero, List.set_cons_succ, i64_w, i32_w]
      rfl
    refine done_ (by kernel_rfl) ?_
    have HD := Aside0.mk ((HR9.out.below hbm).done ⟨kd, N, (bsOf (textU t))⟩)
    obtain ⟨⟨g0, g1, g2⟩, hbz⟩ := HD.out
    simp only at g0 g1 g2 hbz
    clear HD
    try go_wp2
    exact bodyPost_ret (v := .tuple #[.agg #[.int .u8 kd, .int .i64 N, .string (bsOf (textU t))], .bool false]) (by simp [results, Tryz.results26, go_sem, g0, g1, g2]) rfl ⟨false, rfl, hbz, ⟨⟨nofun, fun h => by have h1 := h.1; rw [← HM.out] at h1; cases h1⟩⟩⟩
  | true =>
    have HLN1 := Aside0.mk (HLN.out rfl)
    clear HLN
    obtain ⟨ln, hln⟩ : ∃ ln, ln = lineB ⟨kd, N, (bsOf (textU t))⟩ := ⟨_, rfl⟩
    rw [← hln] at HLN1 HSM
    have HLE := Aside0.mk hln
    clear hln
    by_cases hl : ln = s.data.toList
    · obtain ⟨s1, s2⟩ := HSM.out.1 hl
      have HL := Aside0.mk hl
      clear hl HSM
      generalize bsOf ln = lb at *
      refine start_ (n := 14) (S := fun w' => w'.cell? ⟨b, 0, none⟩ = some (.int .u8 kd) ∧ w'.cell? ⟨b, 1, none⟩ = some (.int .i64 N) ∧ w'.cell? ⟨b, 2, none⟩ = some (.string (bsOf (textU t)))) (ds := [12]) #[false, false, false, false, false, false, false, false, false, false, false, false, false, false] (by kernel_rfl) rfl rfl ⟨(CS.out _ hbd).1, (CS.out _ hbd).2.1, (CS.out _ hbd).2.2⟩ (fun hHeld => ?_)
      refine pure_ (i := 1) (N := some 56) (v := ?_) (a' := ?_) #[false, true, false, false, false, false, false, false, false, false, false, false, false, false] rfl rfl (by kernel_rfl) (fun _ _ _ h => h) (Or.inl ⟨by rfl, ?_⟩) ?_ ?_
      rotate_left
      · intro w'
        go_simp
        with_reducible rfl
      rotate_left
      · simp only [Act.put, List.setIfInBounds_toArray, List.set_cons_zero, List.set_cons_succ, i64_w, i32_w]
        rfl
      refine pure_ (i := 2) (N := some 57) (v := ?_) (a' := ?_) #[false, true, true, false, false, false, false, false, false, false, false, false, false, false] rfl rfl (by kernel_rfl) (fun _ _ _ h => h) (Or.inl ⟨by rfl, ?_⟩) ?_ ?_
      rotate_left
      · intro w'
        go_simp
        with_reducible rfl
      rotate_left
      · simp only [Act.put, List.setIfInBounds_toArray, List.set_cons_zero, List.set_cons_succ, i64_w, i32_w]
        rfl
      refine take_ (i := 0) (N := some 55) (v := ?_) (a' := ?_) #[true, true, true, false, false, false, false, false, false, false, false, false, false, false] rfl rfl (by kernel_rfl) (fun _ _ _ h => h) (Or.inl ⟨by rfl, ?_⟩) hHeld ?_ ?_
      rotate_left
      · rintro w' ⟨s0, s1, s2⟩
        go_simp
        with_reducible rfl
      rotate_left
      · simp only [Act.put, List.setIfInBounds_toArray, List.set_cons_zero, List.set_cons_succ, i64_w, i32_w]
        rfl
      refine take_ (i := 3) (N := some 58) (v := ?_) (a' := ?_) #[true, true, true, true, false, false, false, false, false, false, false, false, false, false] rfl rfl (by kernel_rfl) (fun _ _ _ h => h) (Or.inl ⟨by rfl, ?_⟩) hHeld ?_ ?_
      rotate_left
      · rintro w' ⟨s0, s1, s2⟩
        go_simp
        with_reducible rfl
      rotate_left
      · simp only [Act.put, List.setIfInBounds_toArray, List.set_cons_zero, List.set_cons_succ, i64_w, i32_w]
        rfl
      refine one_ (i := 4) (N := some 59) #[true, true, true, true, true, false, false, false, false, false, false, false, false, false] rfl rfl (by kernel_rfl) (by decide) (fun K hK => ?_)
      refine goes_ Tryz.func30 (by kernel_rfl) rfl #[.agg #[.int .u8 kd, .int .i64 N, .string (bsOf (textU t))]] (by rfl) rfl rfl (by simp only [List.map_toArray, List.map_cons, List.map_nil]; rfl) ?_
      with_reducible refine (HMY.out _ hbd).mono ?_
      rintro ev wm ⟨rfl, hbm, ⟨r0, r1, r2⟩, q0, q1, q2⟩
      refine ⟨_, rfl, ?_⟩
      refine hK.out _ _ ⟨(CS.out _ hbm).1, (CS.out _ hbm).2.1, (CS.out _ hbm).2.2⟩ (fun hHeld => ?_)
      clear hK K
      refine norm_ (a' := ?_) ?_ ?_
      rotate_left
      · show Act.put _ (some 59) _ = _
        simp only [Act.put, List.setIfInBounds_toArray, List.set_cons_zero, List.set_cons_succ, i64_w, i32_w]
        rfl
      refine pure_ (i := 5) (N := some 60) (v := ?_) (a' := ?_) #[true, true, true, true, true, true, false, false, false, false, false, false, false, false] rfl rfl (by kernel_rfl) (fun _ _ _ h => h) (Or.inl ⟨by rfl, ?_⟩) ?_ ?_
      rotate_left
      · intro w'
        go_simp
        with_reducible rfl
      rotate_left
      · simp only [Act.put, List.setIfInBounds_toArray, List.set_cons_zero, List.set_cons_succ, i64_w, i32_w]
        rfl
      refine pure_ (i := 6) (N := some 61) (v := ?_) (a' := ?_) #[true, true, true, true, true, true, true, false, false, false, false, false, false, false] rfl rfl (by kernel_rfl) (fun _ _ _ h => h) (Or.inl ⟨by rfl, ?_⟩) ?_ ?_
      rotate_left
      · intro w'
        go_simp
        with_reducible rfl
      rotate_left
      · simp only [Act.put, List.setIfInBounds_toArray, List.set_cons_zero, List.set_cons_succ, i64_w, i32_w]
        rfl
      refine pure_ (i := 9) (N := some 64) (v := ?_) (a' := ?_) #[true, true, true, true, true, true, true, false, false, true, false, false, false, false] rfl rfl (by kernel_rfl) (fun _ _ _ h => h) (Or.inl ⟨by rfl, ?_⟩) ?_ ?_
      rotate_left
      · intro w'
        go_simp
        with_reducible rfl
      rotate_left
      · simp only [Act.put, List.setIfInBounds_toArray, List.set_cons_zero, List.set_cons_succ, i64_w, i32_w]
        rfl
      refine take_ (i := 7) (N := some 62) (v := ?_) (a' := ?_) #[true, true, true, true, true, true, true, true, false, true, false, false, false, false] rfl rfl (by kernel_rfl) (fun _ _ _ h => h) (Or.inl ⟨by rfl, ?_⟩) hHeld ?_ ?_
      rotate_left
      · rintro w' ⟨s0, s1, s2⟩
        go_simp
        with_reducible rfl
      rotate_left
      · simp only [Act.put, List.setIfInBounds_toArray, List.set_cons_zero, List.set_cons_succ, i64_w, i32_w]
        rfl
      refine one_ (i := 8) (N := some 63) #[true, true, true, true, true, true, true, true, true, true, false, false, false, false] rfl rfl (by kernel_rfl) (by decide) (fun K hK => ?_)
      refine goes_ Tryz.func18 (by kernel_rfl) rfl #[.agg #[.int .u8 kd, .int .i64 N, .string (bsOf (textU t))]] (by rfl) rfl rfl (by simp only [List.map_toArray, List.map_cons, List.map_nil]; rfl) ?_
      with_reducible refine (HLN1.out _ hbm).mono ?_
      rintro ev wl ⟨rfl, hbl, ⟨r0, r1, r2⟩, q0, q1, q2⟩
      refine ⟨_, rfl, ?_⟩
      refine hK.out _ _ ⟨(CS.out _ hbl).1, (CS.out _ hbl).2.1, (CS.out _ hbl).2.2⟩ (fun hHeld => ?_)
      clear hK K
      refine norm_ (a' := ?_) ?_ ?_
      rotate_left
      · show Act.put _ (some 63) _ = _
        simp only [Act.put, List.setIfInBounds_toArray, List.set_cons_zero, List.set_cons_succ, i64_w, i32_w]
        rfl
      refine pure_ (i := 10) (N := some 65) (v := ?_) (a' := ?_) #[true, true, true, true, true, true, true, true, true, true, true, false, false, false] rfl rfl (by kernel_rfl) (fun _ _ _ h => h) (Or.inl ⟨by rfl, ?_⟩) ?_ ?_
      rotate_left
      · intro w'
        go_simp
        with_reducible rfl
      rotate_left
      · simp only [Act.put, List.setIfInBounds_toArray, List.set_cons_zero, List.set_cons_succ, i64_w, i32_w]
        rfl
      refine pure_ (i := 11) (N := some 66) (v := ?_) (a' := ?_) #[true, true, true, true, true, true, true, true, true, true, true, true, false, false] rfl rfl (by kernel_rfl) (fun _ _ _ h => h) (Or.inl ⟨by rfl, ?_⟩) ?_ ?_
      rotate_left
      · intro w'
        go_simp
        with_reducible rfl
      rotate_left
      · simp only [Act.put, List.setIfInBounds_toArray, List.set_cons_zero, List.set_cons_succ, i64_w, i32_w]
        rfl
      refine last_ (i := 12) (N := none) #[true, true, true, true, true, true, true, true, true, true, true, true, true, false] rfl rfl (by kernel_rfl) (by decide) (fun K hK => ?_)
      refine skip_ (w1 := ?_) (by rfl) rfl ?_ ?_
      rotate_left
      · go_simp
        rfl
      refine hK.out _ _ ?_
      clear hK K
      refine pure_ (i := 13) (N := some 3) (v := ?_) (a' := ?_) #[true, true, true, true, true, true, true, true, true, true, true, true, true, true] rfl rfl (by kernel_rfl) (fun _ _ _ h => h) (Or.inl ⟨by rfl, ?_⟩) ?_ ?_
      rotate_left
      · intro w'
        go_simp
        with_reducible rfl
      rotate_left
      · simp only [Act.put, List.setIfInBounds_toArray, List.set_cons_zero, List.set_cons_succ, i64_w, i32_w]
        rfl
      refine done_ (by kernel_rfl) ?_
      have HD := Aside0.mk ((HR9.out.below hbl).done ⟨kd, N, (bsOf (textU t))⟩)
      obtain ⟨⟨g0, g1, g2⟩, hbz⟩ := HD.out
      simp only at g0 g1 g2 hbz
      clear HD
      try go_wp2
      exact bodyPost_ret (v := .tuple #[.agg #[.int .u8 kd, .int .i64 N, .string (bsOf (textU t))], .bool true]) (by simp [results, Tryz.results26, go_sem, g0, g1, g2]) rfl ⟨true, rfl, hbz, ⟨⟨fun _ => ⟨HM.out.symm, by rw [← HLE.out]; exact HL.out⟩, fun _ => rfl⟩⟩⟩
    · obtain ⟨s1, s2⟩ := HSM.out.2 hl
      have HL := Aside0.mk hl
      clear hl HSM
      generalize bsOf ln = lb at *
      refine start_ (n := 14) (S := fun w' => w'.cell? ⟨b, 0, none⟩ = some (.int .u8 kd) ∧ w'.cell? ⟨b, 1, none⟩ = some (.int .i64 N) ∧ w'.cell? ⟨b, 2, none⟩ = some (.string (bsOf (textU t)))) (ds := [12]) #[false, false, false, false, false, false, false, false, false, false, false, false, false, false] (by kernel_rfl) rfl rfl ⟨(CS.out _ hbd).1, (CS.out _ hbd).2.1, (CS.out _ hbd).2.2⟩ (fun hHeld => ?_)
      refine pure_ (i := 1) (N := some 56) (v := ?_) (a' := ?_) #[false, true, false, false, false, false, false, false, false, false, false, false, false, false] rfl rfl (by kernel_rfl) (fun _ _ _ h => h) (Or.inl ⟨by rfl, ?_⟩) ?_ ?_
      rotate_left
      · intro w'
        go_simp
        with_reducible rfl
      rotate_left
      · simp only [Act.put, List.setIfInBounds_toArray, List.set_cons_zero, List.set_cons_succ, i64_w, i32_w]
        rfl
      refine pure_ (i := 2) (N := some 57) (v := ?_) (a' := ?_) #[false, true, true, false, false, false, false, false, false, false, false, false, false, false] rfl rfl (by kernel_rfl) (fun _ _ _ h => h) (Or.inl ⟨by rfl, ?_⟩) ?_ ?_
      rotate_left
      · intro w'
        go_simp
        with_reducible rfl
      rotate_left
      · simp only [Act.put, List.setIfInBounds_toArray, List.set_cons_zero, List.set_cons_succ, i64_w, i32_w]
        rfl
      refine take_ (i := 0) (N := some 55) (v := ?_) (a' := ?_) #[true, true, true, false, false, false, false, false, false, false, false, false, false, false] rfl rfl (by kernel_rfl) (fun _ _ _ h => h) (Or.inl ⟨by rfl, ?_⟩) hHeld ?_ ?_
      rotate_left
      · rintro w' ⟨s0, s1, s2⟩
        go_simp
        with_reducible rfl
      rotate_left
      · simp only [Act.put, List.setIfInBounds_toArray, List.set_cons_zero, List.set_cons_succ, i64_w, i32_w]
        rfl
      refine take_ (i := 3) (N := some 58) (v := ?_) (a' := ?_) #[true, true, true, true, false, false, false, false, false, false, false, false, false, false] rfl rfl (by kernel_rfl) (fun _ _ _ h => h) (Or.inl ⟨by rfl, ?_⟩) hHeld ?_ ?_
      rotate_left
      · rintro w' ⟨s0, s1, s2⟩
        go_simp
        with_reducible rfl
      rotate_left
      · simp only [Act.put, List.setIfInBounds_toArray, List.set_cons_zero, List.set_cons_succ, i64_w, i32_w]
        rfl
      refine one_ (i := 4) (N := some 59) #[true, true, true, true, true, false, false, false, false, false, false, false, false, false] rfl rfl (by kernel_rfl) (by decide) (fun K hK => ?_)
      refine goes_ Tryz.func30 (by kernel_rfl) rfl #[.agg #[.int .u8 kd, .int .i64 N, .string (bsOf (textU t))]] (by rfl) rfl rfl (by simp only [List.map_toArray, List.map_cons, List.map_nil]; rfl) ?_
      with_reducible refine (HMY.out _ hbd).mono ?_
      rintro ev wm ⟨rfl, hbm, ⟨r0, r1, r2⟩, q0, q1, q2⟩
      refine ⟨_, rfl, ?_⟩
      refine hK.out _ _ ⟨(CS.out _ hbm).1, (CS.out _ hbm).2.1, (CS.out _ hbm).2.2⟩ (fun hHeld => ?_)
      clear hK K
      refine norm_ (a' := ?_) ?_ ?_
      rotate_left
      · show Act.put _ (some 59) _ = _
        simp only [Act.put, List.setIfInBounds_toArray, List.set_cons_zero, List.set_cons_succ, i64_w, i32_w]
        rfl
      refine pure_ (i := 5) (N := some 60) (v := ?_) (a' := ?_) #[true, true, true, true, true, true, false, false, false, false, false, false, false, false] rfl rfl (by kernel_rfl) (fun _ _ _ h => h) (Or.inl ⟨by rfl, ?_⟩) ?_ ?_
      rotate_left
      · intro w'
        go_simp
        with_reducible rfl
      rotate_left
      · simp only [Act.put, List.setIfInBounds_toArray, List.set_cons_zero, List.set_cons_succ, i64_w, i32_w]
        rfl
      refine pure_ (i := 6) (N := some 61) (v := ?_) (a' := ?_) #[true, true, true, true, true, true, true, false, false, false, false, false, false, false] rfl rfl (by kernel_rfl) (fun _ _ _ h => h) (Or.inl ⟨by rfl, ?_⟩) ?_ ?_
      rotate_left
      · intro w'
        go_simp
        with_reducible rfl
      rotate_left
      · simp only [Act.put, List.setIfInBounds_toArray, List.set_cons_zero, List.set_cons_succ, i64_w, i32_w]
        rfl
      refine pure_ (i := 9) (N := some 64) (v := ?_) (a' := ?_) #[true, true, true, true, true, true, true, false, false, true, false, false, false, false] rfl rfl (by kernel_rfl) (fun _ _ _ h => h) (Or.inl ⟨by rfl, ?_⟩) ?_ ?_
      rotate_left
      · intro w'
        go_simp
        with_reducible rfl
      rotate_left
      · simp only [Act.put, List.setIfInBounds_toArray, List.set_cons_zero, List.set_cons_succ, i64_w, i32_w]
        rfl
      refine take_ (i := 7) (N := some 62) (v := ?_) (a' := ?_) #[true, true, true, true, true, true, true, true, false, true, false, false, false, false] rfl rfl (by kernel_rfl) (fun _ _ _ h => h) (Or.inl ⟨by rfl, ?_⟩) hHeld ?_ ?_
      rotate_left
      · rintro w' ⟨s0, s1, s2⟩
        go_simp
        with_reducible rfl
      rotate_left
      · simp only [Act.put, List.setIfInBounds_toArray, List.set_cons_zero, List.set_cons_succ, i64_w, i32_w]
        rfl
      refine one_ (i := 8) (N := some 63) #[true, true, true, true, true, true, true, true, true, true, false, false, false, false] rfl rfl (by kernel_rfl) (by decide) (fun K hK => ?_)
      refine goes_ Tryz.func18 (by kernel_rfl) rfl #[.agg #[.int .u8 kd, .int .i64 N, .string (bsOf (textU t))]] (by rfl) rfl rfl (by simp only [List.map_toArray, List.map_cons, List.map_nil]; rfl) ?_
      with_reducible refine (HLN1.out _ hbm).mono ?_
      rintro ev wl ⟨rfl, hbl, ⟨r0, r1, r2⟩, q0, q1, q2⟩
      refine ⟨_, rfl, ?_⟩
      refine hK.out _ _ ⟨(CS.out _ hbl).1, (CS.out _ hbl).2.1, (CS.out _ hbl).2.2⟩ (fun hHeld => ?_)
      clear hK K
      refine norm_ (a' := ?_) ?_ ?_
      rotate_left
      · show Act.put _ (some 63) _ = _
        simp only [Act.put, List.setIfInBounds_toArray, List.set_cons_zero, List.set_cons_succ, i64_w, i32_w]
        rfl
      refine pure_ (i := 10) (N := some 65) (v := ?_) (a' := ?_) #[true, true, true, true, true, true, true, true, true, true, true, false, false, false] rfl rfl (by kernel_rfl) (fun _ _ _ h => h) (Or.inl ⟨by rfl, ?_⟩) ?_ ?_
      rotate_left
      · intro w'
        go_simp
        with_reducible rfl
      rotate_left
      · simp only [Act.put, List.setIfInBounds_toArray, List.set_cons_zero, List.set_cons_succ, i64_w, i32_w]
        rfl
      refine pure_ (i := 11) (N := some 66) (v := ?_) (a' := ?_) #[true, true, true, true, true, true, true, true, true, true, true, true, false, false] rfl rfl (by kernel_rfl) (fun _ _ _ h => h) (Or.inl ⟨by rfl, ?_⟩) ?_ ?_
      rotate_left
      · intro w'
        go_simp
        with_reducible rfl
      rotate_left
      · simp only [Act.put, List.setIfInBounds_toArray, List.set_cons_zero, List.set_cons_succ, i64_w, i32_w]
        rfl
      refine last_ (i := 12) (N := none) #[true, true, true, true, true, true, true, true, true, true, true, true, true, false] rfl rfl (by kernel_rfl) (by decide) (fun K hK => ?_)
      refine skip_ (w1 := ?_) (by rfl) rfl ?_ ?_
      rotate_left
      · go_simp
        rfl
      refine hK.out _ _ ?_
      clear hK K
      refine pure_ (i := 13) (N := some 3) (v := ?_) (a' := ?_) #[true, true, true, true, true, true, true, true, true, true, true, true, true, true] rfl rfl (by kernel_rfl) (fun _ _ _ h => h) (Or.inl ⟨by rfl, ?_⟩) ?_ ?_
      rotate_left
      · intro w'
        go_simp
        with_reducible rfl
      rotate_left
      · simp only [Act.put, List.setIfInBounds_toArray, List.set_cons_zero, List.set_cons_succ, i64_w, i32_w]
        rfl
      refine done_ (by kernel_rfl) ?_
      have HD := Aside0.mk ((HR9.out.below hbl).done ⟨kd, N, (bsOf (textU t))⟩)
      obtain ⟨⟨g0, g1, g2⟩, hbz⟩ := HD.out
      simp only at g0 g1 g2 hbz
      clear HD
      try go_wp2
      exact bodyPost_ret (v := .tuple #[.agg #[.int .u8 kd, .int .i64 N, .string (bsOf (textU t))], .bool false]) (by simp [results, Tryz.results26, go_sem, g0, g1, g2]) rfl ⟨false, rfl, hbz, ⟨⟨nofun, fun h => absurd (by rw [HLE.out]; exact h.2) HL.out⟩⟩⟩

end Go.Proofs.YtmcjfnebkpifnaaGreatDoor
