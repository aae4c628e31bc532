/- Printed texts of this seat, cut to what is used. -/
import Derived.Test.YtakhnigalkjhhaaGreatDoorPrRef
import Derived.Test.YtakhnigalkjhhaaGreatDoorPrPut
import Derived.Test.YtakhnigalkjhhaaGreatDoorPrInj
import Derived.Test.YtakhnigalkjhhaaGreatDoorTiGeo
import Derived.Test.YtakhnigalkjhhaaGreatDoorTiTop2
namespace Go.Proofs.YtakhnigalkjhhaaGreatDoor
open Go.RowKit Go.Proofs.YtakhnigalkjhhaaGreatDoorW.PrintWords Go.Proofs.YtakhnigalkjhhaaGreatDoorW.PrintLast Go.Proofs.YtakhnigalkjhhaaGreatDoorW.PrintMore Go.Proofs.YtakhnigalkjhhaaGreatDoor.PPrintFits
set_option linter.unusedVariables false
set_option linter.unusedSimpArgs false
set_option maxRecDepth 100000

/-- Block b is the box of a cell. -/
def BoxAt (w : World) (b : Nat) (c : SC) (A : Option Addr) (cap : Nat) : Prop := w.heap[b]? = some (.cells #[.int .u8 c.f0, .int .i64 c.f1.f0, .int .i64 c.f1.f1, .int .i64 c.f1.f2, .int .i64 c.f1.f3, .int .i64 c.f2, .slice A c.f3.length cap] 30 (0, 0))
theorem BoxAt.new (w : World) (c : SC) (A : Option Addr) (cap : Nat) : BoxAt (w.alloc (.cells #[.int .u8 c.f0, .int .i64 c.f1.f0, .int .i64 c.f1.f1, .int .i64 c.f1.f2, .int .i64 c.f1.f3, .int .i64 c.f2, .slice A c.f3.length cap] 30)) w.heap.size c A cap := heap_alloc_new w _
theorem BoxAt.below {w w' : World} {b : Nat} {c : SC} {A : Option Addr} {cap : Nat} (h : BoxAt w b c A cap) (hb : Below w.heap.size w w') : BoxAt w' b c A cap := (hb.block b (blk_lt h)).trans h
theorem BoxAt.cells {w : World} {b : Nat} {c : SC} {A : Option Addr} {cap : Nat} (h : BoxAt w b c A cap) :
    w.cell? ⟨b, 0, none⟩ = some (.int .u8 c.f0) ∧ w.cell? ⟨b, 1, none⟩ = some (.int .i64 c.f1.f0) ∧ w.cell? ⟨b, 2, none⟩ = some (.int .i64 c.f1.f1) ∧ w.cell? ⟨b, 3, none⟩ = some (.int .i64 c.f1.f2) ∧ w.cell? ⟨b, 4, none⟩ = some (.int .i64 c.f1.f3) ∧ w.cell? ⟨b, 5, none⟩ = some (.int .i64 c.f2) ∧ w.cell? ⟨b, 6, none⟩ = some (.slice A c.f3.length cap) := by
  refine ⟨?_, ?_, ?_, ?_, ?_, ?_, ?_⟩ <;> (rw [blk_cell h]; rfl)

theorem great_f (c : SC) (hl : (cells c).length ≤ 2000000) (k : Nat) (hk : 2 * (cells c).length < k) : sashref05_Great.f k c.f0 c.f1.f0 c.f1.f1 c.f1.f2 c.f1.f3 c.f2 c.f3 = some (decide (200 < (cells c).length)) := by
  obtain ⟨n, hn, h1, h2, h3⟩ := count_f c hl k hk
  unfold sashref05_Great.f
  rw [hn]
  simp only [Option.bind_some]
  congr 1
  rw [decide_eq_decide]
  constructor
  · intro h; omega
  · intro h
    by_cases hq : n ≤ 200
    · have := h3 hq; omega
    · omega
theorem Tiles_f (c : SC) (hl : (cells c).length ≤ 300) (k : Nat) (hk : 100000 < k) : sashref06_Tiles.f k c.f0 c.f1.f0 c.f1.f1 c.f1.f2 c.f1.f3 c.f2 c.f3 = some (tilesB c) := by
  unfold sashref06_Tiles.f
  rw [Check_f c hl k hk, tilesB_no]
  simp only [Option.bind_some]
  congr 1

theorem Depth_f (c : SC) : (cells c).length ≤ 100000 → ∀ k, 2 * (cells c).length < k → ∃ n : Int, cell_Depth.f k c.f0 c.f1.f0 c.f1.f1 c.f1.f2 c.f1.f3 c.f2 c.f3 = some n ∧ 1 ≤ n ∧ n ≤ (cells c).length := by
  refine cell_ind (P := fun c => (cells c).length ≤ 100000 → ∀ k, 2 * (cells c).length < k → ∃ n : Int, cell_Depth.f k c.f0 c.f1.f0 c.f1.f1 c.f1.f2 c.f1.f3 c.f2 c.f3 = some n ∧ 1 ≤ n ∧ n ≤ (cells c).length) (fun c ih hs k hk => ?_) c
  have hcl : (cells c).length = 1 + (cellsL c.f3).length := by rw [cells_eq]; simp; omega
  have hge := cellsL_ge c.f3
  obtain ⟨k, rfl⟩ : ∃ m, k = m + 1 := ⟨k - 1, by omega⟩
  have loop : ∀ (d k i : Nat) (a : Int), c.f3.length - i = d → i ≤ c.f3.length → 2 * (cellsL (c.f3.drop i)).length + 1 < k → 0 ≤ a → a ≤ (cellsL c.f3).length →
      ∃ n : Int, cell_Depth.l0 k a c.f3 (c.f3.length : Int) (i : Int) = some n ∧ 1 ≤ n ∧ n ≤ (cells c).length := by
    intro d
    induction d with
    | zero =>
      intro k i a hd hi hk h1 h2
      obtain ⟨k, rfl⟩ : ∃ m, k = m + 1 := ⟨k - 1, by omega⟩
      refine ⟨a + 1, ?_, by omega, by omega⟩
      simp only [cell_Depth.l0]
      rw [if_neg (by omega), w64s (n := a + 1) (by omega) (by omega)]
    | succ d ihd =>
      intro k i a hd hi hk h1 h2
      obtain ⟨k, rfl⟩ : ∃ m, k = m + 1 := ⟨k - 1, by omega⟩
      have hlt : i < c.f3.length := by omega
      have q1 := cellsL_drop c.f3 i hlt
      have q2 := cells_pos (c.f3.getD i z30)
      have q4 := kid_le _ c.f3 (getT_mem c.f3 i hlt)
      obtain ⟨m, hm, m1, m2⟩ := ih _ (getT_mem c.f3 i hlt) (by omega) k (by omega)
      have hmx : 0 ≤ mx a m ∧ mx a m ≤ (cellsL c.f3).length := by unfold mx; split <;> omega
      obtain ⟨n, hn, n1⟩ := ihd k (i + 1) (mx a m) (by omega) (by omega) (by omega) hmx.1 hmx.2
      refine ⟨n, ?_, n1⟩
      simp only [cell_Depth.l0]
      rw [if_pos (by omega), if_pos (by omega), if_pos (by omega), rd_T_getD, hm]
      simp only [Option.bind_some]
      rw [wi i (by omega)]
      exact hn
  have hz : ((0 : Nat) : Int) = 0 := rfl
  obtain ⟨n, hn, n1⟩ := loop c.f3.length k 0 0 (by omega) (by omega) (by rw [List.drop_zero]; omega) (by omega) (by omega)
  refine ⟨n, ?_, n1⟩
  simp only [cell_Depth.f]
  rw [hz] at hn
  exact hn
theorem RDepth_f (c : SC) : (cells c).length ≤ 100000 → ∀ k, 2 * (cells c).length < k → ∃ n : Int, sashref05_Depth.f k c.f0 c.f1.f0 c.f1.f1 c.f1.f2 c.f1.f3 c.f2 c.f3 = some n ∧ 1 ≤ n ∧ n ≤ (cells c).length := by
  refine cell_ind (P := fun c => (cells c).length ≤ 100000 → ∀ k, 2 * (cells c).length < k → ∃ n : Int, sashref05_Depth.f k c.f0 c.f1.f0 c.f1.f1 c.f1.f2 c.f1.f3 c.f2 c.f3 = some n ∧ 1 ≤ n ∧ n ≤ (cells c).length) (fun c ih hs k hk => ?_) c
  have hcl : (cells c).length = 1 + (cellsL c.f3).length := by rw [cells_eq]; simp; omega
  have hge := cellsL_ge c.f3
  obtain ⟨k, rfl⟩ : ∃ m, k = m + 1 := ⟨k - 1, by omega⟩
  have loop : ∀ (d k i : Nat) (a : Int), c.f3.length - i = d → i ≤ c.f3.length → 2 * (cellsL (c.f3.drop i)).length + 1 < k → 0 ≤ a → a ≤ (cellsL c.f3).length →
      ∃ n : Int, sashref05_Depth.l0 k a (c.f3.length : Int) (i : Int) c.f0 c.f1.f0 c.f1.f1 c.f1.f2 c.f1.f3 c.f2 c.f3 = some n ∧ 1 ≤ n ∧ n ≤ (cells c).length := by
    intro d
    induction d with
    | zero =>
      intro k i a hd hi hk h1 h2
      obtain ⟨k, rfl⟩ : ∃ m, k = m + 1 := ⟨k - 1, by omega⟩
      refine ⟨a + 1, ?_, by omega, by omega⟩
      simp only [sashref05_Depth.l0]
      rw [if_neg (by omega), w64s (n := a + 1) (by omega) (by omega)]
    | succ d ihd =>
      intro k i a hd hi hk h1 h2
      obtain ⟨k, rfl⟩ : ∃ m, k = m + 1 := ⟨k - 1, by omega⟩
      have hlt : i < c.f3.length := by omega
      have q1 := cellsL_drop c.f3 i hlt
      have q2 := cells_pos (c.f3.getD i z30)
      have q4 := kid_le _ c.f3 (getT_mem c.f3 i hlt)
      obtain ⟨m, hm, m1, m2⟩ := ih _ (getT_mem c.f3 i hlt) (by omega) k (by omega)
      by_cases hgt : m > a
      · obtain ⟨n, hn, n1⟩ := ihd k (i + 1) m (by omega) (by omega) (by omega) (by omega) (by omega)
        refine ⟨n, ?_, n1⟩
        simp only [sashref05_Depth.l0]
        rw [if_pos (by omega), if_pos (by omega), if_pos (by omega), rd_T_getD, hm]
        simp only [Option.bind_some]
        rw [if_pos hgt, wi i (by omega)]
        exact hn
      · obtain ⟨n, hn, n1⟩ := ihd k (i + 1) a (by omega) (by omega) (by omega) h1 h2
        refine ⟨n, ?_, n1⟩
        simp only [sashref05_Depth.l0]
        rw [if_pos (by omega), if_pos (by omega), if_pos (by omega), rd_T_getD, hm]
        simp only [Option.bind_some]
        rw [if_neg hgt, wi i (by omega)]
        exact hn
  have hz : ((0 : Nat) : Int) = 0 := rfl
  obtain ⟨n, hn, n1⟩ := loop c.f3.length k 0 0 (by omega) (by omega) (by rw [List.drop_zero]; omega) (by omega) (by omega)
  refine ⟨n, ?_, n1⟩
  simp only [sashref05_Depth.f]
  rw [hz] at hn
  exact hn

theorem tiles_cgood {c : SC} (h : tilesB c = true) : CGood c := fun x hx => by
  obtain ⟨h1, h2, _⟩ := tiles_good h x hx
  have h3 := (rectOk_iff x.f1).1 h2
  exact ⟨h1, ⟨by omega, by omega⟩, ⟨by omega, by omega⟩, ⟨by omega, by omega⟩, ⟨by omega, by omega⟩⟩
theorem InR.ir {n : Int} (h : InR n) : IR n := ⟨by have := h.1; omega, by have := h.2; omega⟩
theorem CGood.cir {c : SC} (h : CGood c) : CIR c := fun x hx => by
  obtain ⟨h1, h2, h3, h4, h5⟩ := h x hx
  refine ⟨⟨h2.ir, h3.ir, h4.ir, h5.ir⟩, ?_⟩
  by_cases hk : x.f0 = 1
  · exact (node_leaf h1 hk).2.ir
  · rw [(node_node h1 hk).2]; exact ⟨by omega, by omega⟩
theorem CGood.kind {c : SC} (h : CGood c) : CKind c := fun x hx => by
  by_cases hk : x.f0 = 1
  · exact Or.inl hk
  · exact Or.inr (node_node (h x hx).1 hk).1
def bodyAns (c : SC) : ByteArray × Int := if tilesB c = true then (bsOf (bodyL c), 0) else (⟨#[]⟩, 1)
def textAns (c : SC) : ByteArray × Int := if tilesB c = true then (putS (bsOf (bodyL c)), 0) else (⟨#[]⟩, 1)
theorem put_size (s : ByteArray) : (putS s).size = 5 + s.size := by
  unfold putS
  rw [ByteArray.size_append, ByteArray.size_append, hex4_size]
  rfl
theorem Text_f (c : SC) (hl : (cells c).length ≤ 200) : ∃ k, sashref10_Text.f k c.f0 c.f1.f0 c.f1.f1 c.f1.f2 c.f1.f3 c.f2 c.f3 = some (textAns c) := by
  have hbl := body_len c
  obtain ⟨k0, hk0⟩ := RPut_f (bsOf (bodyL c)) (by rw [bs_size]; omega)
  refine ⟨k0 + 200000, ?_⟩
  unfold sashref10_Text.f textAns
  rw [Tiles_f c (by omega) (k0 + 200000) (by omega)]
  simp only [Option.bind_some]
  by_cases ht : tilesB c = true
  · rw [if_pos ht, if_pos ht, Body_f c (tiles_cgood ht).cir (by omega) (k0 + 200000) (by omega)]
    simp only [Option.bind_some]
    rw [fuel_le (f := fun k => sashref02_Put.f k (bsOf (bodyL c))) (fun k => sashref02_Put.mono _ _) hk0 (k0 + 200000) (by omega)]
    simp only [Option.bind_some]
    obtain ⟨n, hn, n1, n2⟩ := RDepth_f c (by omega) (k0 + 200000) (by omega)
    rw [if_neg (by rw [put_size, bs_size]; omega), hn]
    simp only [Option.bind_some]
    rw [if_neg (by omega)]
  · rw [if_neg ht, if_neg ht]

set_option maxHeartbeats 8000000 in
theorem pbody_calls (c : SC) (w : World) (A : Option Addr) (cap : Nat) (hl : (cells c).length ≤ 10000) (hcap : c.f3.length ≤ cap) (hr : (k30).C w A c.f3.length c.f3) (hT : NumT w) :
    Calls Tryz.prog 17 #[.agg #[.int .u8 c.f0, .int .i64 c.f1.f0, .int .i64 c.f1.f1, .int .i64 c.f1.f2, .int .i64 c.f1.f3, .int .i64 c.f2, .slice A c.f3.length cap]] w fun e w' => e = .returned (.tuple #[.string (bodyAns c).1, .int .i64 (bodyAns c).2]) ∧ Below w.heap.size w w' := by
  obtain ⟨w1, hw1⟩ : ∃ w1, w1 = w.alloc (.cells #[.int .u8 c.f0, .int .i64 c.f1.f0, .int .i64 c.f1.f1, .int .i64 c.f1.f2, .int .i64 c.f1.f3, .int .i64 c.f2, .slice A c.f3.length cap] 30) := ⟨_, rfl⟩
  have hb1 : Below w.heap.size w w1 := by rw [hw1]; exact below_alloc (Below.refl _ _) _
  have hx1 : BoxAt w1 w.heap.size c A cap := by rw [hw1]; exact BoxAt.new w c A cap
  have hr1 := Kd.C_below hr hb1
  have HTI : Calls Tryz.prog 26 #[.slice (some ⟨w1.heap.size, 0, none⟩) 1 1] (w1.alloc (.cells #[.int .u8 c.f0, .int .i64 c.f1.f0, .int .i64 c.f1.f1, .int .i64 c.f1.f2, .int .i64 c.f1.f3, .int .i64 c.f2, .slice A c.f3.length cap] 30)) fun e w' => e = .returned (.bool (tilesB c)) ∧ Below w1.heap.size w1 w' := by
    have h1 := tiles_calls [c] (w1.alloc (.cells #[.int .u8 c.f0, .int .i64 c.f1.f0, .int .i64 c.f1.f1, .int .i64 c.f1.f2, .int .i64 c.f1.f3, .int .i64 c.f2, .slice A c.f3.length cap] 30)) (some ⟨w1.heap.size, 0, none⟩) 1 1
      (fun z hz => by obtain rfl : z = c := by simpa using hz
                      omega) (one_row w1 c A cap hcap hr1)
    rw [show [c].all tilesB = tilesB c by simp] at h1
    exact h1.mono fun e w' ⟨q1, q2⟩ => ⟨q1, (below_alloc (Below.refl _ _) _).trans (q2.mono (by simp))⟩
  have hs1 : w1.heap.size = w.heap.size + 1 := by rw [hw1]; simp
  rw [hw1] at HTI
  rw [show (w.alloc (.cells #[.int .u8 c.f0, .int .i64 c.f1.f0, .int .i64 c.f1.f1, .int .i64 c.f1.f2, .int .i64 c.f1.f3, .int .i64 c.f2, .slice A c.f3.length cap] 30)).heap.size = w.heap.size + 1 by simp] at HTI
  have HTI := Aside0.mk HTI
  have HB := Aside0.mk hb1
  have HX := Aside0.mk hx1
  have HR := Aside0.mk hr1
  have HT := Aside0.mk hT
  have HW := Aside0.mk hw1
  have HPC := Aside0.mk (fun (w0 : World) (h : NumT w0) => put_cell w0 h c)
  have hbl := body_len c
  have hne : bodyL c ≠ [] := by
    rw [bodyL_eq]
    intro h
    have h2 := congrArg List.length h
    simp only [List.length_append, headB, List.length_singleton, List.length_nil] at h2
    omega
  clear hw1 hb1 hx1 hr1 hr hT
  unfold bodyAns
  cases ht : tilesB c with
  | false =>
    rw [ht] at HTI
    rw [if_neg (by decide)]
    clear hne HPC
    go_enter Tryz.func17, Tryz.ntmps17
    go_wp2_with fail
    with_reducible refine HTI.out.mono ?_
    rintro e w2 ⟨rfl, hb⟩
    have HB2 : Aside0 (Below w.heap.size w w2) := ⟨by rw [← HW.out, ← hs1] at hb; exact HB.out.trans (hb.mono HB.out.size)⟩
    clear hb
    go_wp2
    go_ret2
    exact ⟨rfl, HB2.out⟩
  | true =>
    rw [ht] at HTI
    rw [if_pos rfl]
    have hgood := tiles_cgood ht
    have HK := Aside0.mk hgood.kind
    clear ht hgood
    go_enter Tryz.func17, Tryz.ntmps17
    go_wp2_with fail
    with_reducible refine HTI.out.mono ?_
    rintro e w2 ⟨rfl, hb⟩
    rw [← HW.out, ← hs1] at hb
    have HB2 : Aside0 (Below w.heap.size w w2) := ⟨HB.out.trans (hb.mono HB.out.size)⟩
    obtain ⟨w3, hw3⟩ : ∃ w3, w3 = w2.alloc (.cells #[.pointer none, .slice none 0 0] 56) := ⟨_, rfl⟩
    have hb3 : Below w2.heap.size w2 w3 := by rw [hw3]; exact below_alloc (Below.refl _ _) _
    have hX3 : BoxAt w3 w.heap.size c A cap := (HX.out.below hb).below hb3
    have hR2 := Kd.C_below HR.out hb
    have hTx : TextIs w2.heap.size w2.heap.size [] w3 := Or.inl ⟨Nat.le_refl _, .slice none 0 0, by rw [hw3]; exact heap_alloc_new w2 _, own_nil _ _ _ _, by simp [Value.ownBlock]⟩
    have hP := (HPC.out w2 (HT.out.below HB2.out)) w2.heap.size [] w3 A cap HK.out hb3 ((Tr.of hR2).below hb3) hcap hTx (by simp only [List.length_nil]; omega)
    rw [hw3] at hP
    have HP := Aside0.mk hP
    have HW3 := Aside0.mk hw3
    obtain ⟨d0, d1, d2, d3, d4, d5, d6⟩ := hX3.cells
    rw [hw3] at d0 d1 d2 d3 d4 d5 d6
    clear hb hw3 hb3 hX3 hR2 hTx hP
    go_wp2_with fail
    with_reducible refine HP.out.mono ?_
    rintro e w4 ⟨rfl, hW⟩
    rw [List.nil_append, ← HW3.out] at hW
    have HB4 : Aside0 (Below w2.heap.size w2 w4) := ⟨by rw [HW3.out] at hW; exact (below_alloc (Below.refl _ _) _).trans hW.2.1⟩
    have HS := Aside0.mk (bstr_calls w2.heap.size w2.heap.size (bodyL c) w4 hW.1 hne)
    clear hW d0 d1 d2 d3 d4 d5 d6
    go_wp2_with fail
    with_reducible refine HS.out.mono ?_
    rintro e w5 ⟨rfl, hb⟩
    have HB5 : Aside0 (Below w.heap.size w w5) := ⟨HB2.out.trans ((HB4.out.trans hb).mono HB2.out.size)⟩
    clear hb
    go_wp2
    go_ret2
    exact ⟨rfl, HB5.out⟩

set_option maxHeartbeats 8000000 in
theorem ptext_calls (c : SC) (w : World) (A : Option Addr) (cap : Nat) (hl : (cells c).length ≤ 200) (hcap : c.f3.length ≤ cap) (hr : (k30).C w A c.f3.length c.f3) (hT : NumT w) :
    Calls Tryz.prog 9 #[.agg #[.int .u8 c.f0, .int .i64 c.f1.f0, .int .i64 c.f1.f1, .int .i64 c.f1.f2, .int .i64 c.f1.f3, .int .i64 c.f2, .slice A c.f3.length cap]] w fun e w' => e = .returned (.tuple #[.string (textAns c).1, .int .i64 (textAns c).2]) ∧ Below w.heap.size w w' := by
  obtain ⟨w1, hw1⟩ : ∃ w1, w1 = w.alloc (.cells #[.int .u8 c.f0, .int .i64 c.f1.f0, .int .i64 c.f1.f1, .int .i64 c.f1.f2, .int .i64 c.f1.f3, .int .i64 c.f2, .slice A c.f3.length cap] 30) := ⟨_, rfl⟩
  have hb1 : Below w.heap.size w w1 := by rw [hw1]; exact below_alloc (Below.refl _ _) _
  have hx1 : BoxAt w1 w.heap.size c A cap := by rw [hw1]; exact BoxAt.new w c A cap
  have hr1 := Kd.C_below hr hb1
  have hPB := pbody_calls c w1 A cap (by omega) hcap hr1 (hT.below hb1)
  have hbl := body_len c
  obtain ⟨n, hn, n1, n2⟩ := Depth_f c (by omega) 1000 (by omega)
  have HB := Aside0.mk hb1
  have HX := Aside0.mk hx1
  have HR := Aside0.mk hr1
  have HT := Aside0.mk hT
  have HN := Aside0.mk hn
  have HW := Aside0.mk hw1
  unfold textAns
  unfold bodyAns at hPB
  rw [hw1] at hPB
  clear hw1 hb1 hx1 hr1 hr hT hn
  cases ht : tilesB c with
  | false =>
    rw [ht, if_neg (by decide)] at hPB
    rw [if_neg (by decide)]
    have HPB := Aside0.mk hPB
    clear hPB ht
    go_enter Tryz.func9, Tryz.ntmps9
    go_wp2_with fail
    with_reducible refine HPB.out.mono ?_
    rintro e w2 ⟨rfl, hb⟩
    have HB2 : Aside0 (Below w.heap.size w w2) := ⟨by rw [← HW.out] at hb; exact HB.out.trans (hb.mono HB.out.size)⟩
    clear hb
    go_wp2
    go_ret2
    exact ⟨rfl, HB2.out⟩
  | true =>
    rw [ht, if_pos rfl] at hPB
    rw [if_pos rfl]
    have HPB := Aside0.mk hPB
    clear hPB ht
    have hzb : (bsOf (bodyL c)).size ≤ 22200 := by rw [bs_size]; omega
    obtain ⟨s, hs⟩ : ∃ s, s = bsOf (bodyL c) := ⟨_, rfl⟩
    rw [← hs] at HPB hzb ⊢
    have hzp : (putS s).size ≤ 22205 := by rw [put_size]; omega
    have HPU := Aside0.mk (fun (W : World) (h : NumT W) => put_calls s (by omega) W h)
    generalize putS s = ps at *
    clear hs
    go_enter Tryz.func9, Tryz.ntmps9
    go_wp2_with fail
    with_reducible refine HPB.out.mono ?_
    rintro e w2 ⟨rfl, hb⟩
    rw [← HW.out] at hb
    have HB2 : Aside0 (Below w.heap.size w w2) := ⟨HB.out.trans (hb.mono HB.out.size)⟩
    have HX2 := Aside0.mk (HX.out.below hb)
    have HR2 := Aside0.mk (Kd.C_below HR.out hb)
    have HP2 := Aside0.mk (HPU.out w2 (HT.out.below HB2.out))
    clear hb HPB HPU
    go_wp2_with fail
    with_reducible refine HP2.out.mono ?_
    rintro e w3 ⟨rfl, hb⟩
    have HB3 : Aside0 (Below w.heap.size w w3) := ⟨HB2.out.trans (hb.mono HB2.out.size)⟩
    have HX3 := Aside0.mk (HX2.out.below hb)
    have HR3 := Aside0.mk (Kd.C_below HR2.out hb)
    have HD := Aside0.mk (cell_Depth.calls 1000 _ _ _ _ _ _ A cap c.f3 n w3 HR3.out hcap HN.out)
    obtain ⟨d0, d1, d2, d3, d4, d5, d6⟩ := HX3.out.cells
    have hlz : decide ((ps.size : Int) > 65535) = false := decide_eq_false (by omega)
    have hlz2 : ¬ (65535 : Int) < (ps.size : Int) := by omega
    have hnz : decide (n > 1000) = false := decide_eq_false (by omega)
    have hnz2 : ¬ (1000 : Int) < n := by omega
    clear hb HP2
    go_wp2_with fail
    refine HD.out.mono ?_
    rintro e w4 ⟨rfl, h4⟩
    have HB4 : Aside0 (Below w.heap.size w w4) := ⟨HB3.out.trans (h4.mono HB3.out.size)⟩
    clear h4
    go_wp2
    go_ret2
    exact ⟨rfl, HB4.out⟩
end Go.Proofs.YtakhnigalkjhhaaGreatDoor
