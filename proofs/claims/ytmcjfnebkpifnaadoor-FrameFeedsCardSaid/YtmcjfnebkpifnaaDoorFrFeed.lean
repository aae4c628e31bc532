/-
  A decoder that is fed a byte.
-/
import Derived.Test.YtmcjfnebkpifnaaDoorFrWhole
import Derived.Test.YtmcjfnebkpifnaaDoorFault
import Derived.Test.YtmcjfnebkpifnaaDoorPFrameFeedsx2
namespace Go.Proofs.YtmcjfnebkpifnaaDoor
open Go.RowKit Go.Proofs.YtmcjfnebkpifnaaDoorW.PrintWords Go.Proofs.YtmcjfnebkpifnaaDoorW.PrintLast Go.Proofs.YtmcjfnebkpifnaaDoorW.PrintMore Go.Proofs.YtmcjfnebkpifnaaDoor.PFrameFeeds
set_option linter.unusedVariables false
set_option maxRecDepth 100000
set_option linter.unusedSimpArgs false

/-- What a decoder holds. -/
structure DS where
  bytes : List Int
  fed : Int
  over : Bool

def Dec (w : World) (ok : Nat → Prop) (g : Nat) (s : DS) : Prop :=
  ok g ∧ Bytes s.bytes ∧ ∃ vB, w.heap[g]? = some (.cells #[vB, .int .i64 s.fed, .bool s.over] 67 (0, 0)) ∧ (Kd.int .u8).R 5 w 0 ok vB s.bytes

theorem Dec.below {w w' : World} {ok : Nat → Prop} {g : Nat} {s : DS} (h : Dec w ok g s) (hb : Below w.heap.size w w') : Dec w' ok g s := by
  obtain ⟨h1, h2, vB, blk, r⟩ := h
  exact ⟨h1, h2, vB, (hb.block g (blk_lt blk)).trans blk, Kd.R_below r hb⟩

theorem Dec.reads {w : World} {ok : Nat → Prop} {g : Nat} {s : DS} (h : Dec w ok g s) : ∃ A c, w.heap[g]? = some (.cells #[.slice A s.bytes.length c, .int .i64 s.fed, .bool s.over] 67 (0, 0)) ∧ s.bytes.length ≤ c ∧ (Kd.int .u8).C w A s.bytes.length s.bytes := by
  obtain ⟨h1, h2, vB, blk, r⟩ := h
  obtain ⟨A, c, rfl, hc, hr⟩ := Kd.R_reads r
  exact ⟨A, c, blk, hc, hr⟩

/-- An error of this layer: its number, its place, in the word 'frame'. -/
def FrErr (w : World) (base : Nat) (v : Value) (e at_ : Int) : Prop :=
  ∃ g f, v = .iface 93 (.pointer (some ⟨g, 0, none⟩)) ∧ Inside w base g (.iface 72 (.pointer (some ⟨f, 0, none⟩))) [(⟨#[102, 114, 97, 109, 101]⟩ : ByteArray)] ∧ base ≤ f ∧ w.heap[f]? = some (.cells #[.int .i64 e, .int .i64 at_] 76 (0, 0))

theorem infoB : (Tryd.prog.info? 5).map (fun i => (i.zero, i.size, i.bytes)) = some (some (.int .u8 0), 1, 1) := by kernel_rfl

/-- The first lines: the byte is put. -/
theorem fed_state {w w1 : World} {ok : Nat → Prop} {g : Nat} {s : DS} {b : Int} {vB v1 : Value} (hg : ok g) (hb : Bytes s.bytes) (hb0 : 0 ≤ b ∧ b ≤ 255) (blk : w.heap[g]? = some (.cells #[vB, .int .i64 s.fed, .bool s.over] 67 (0, 0)))
    (rB : (Kd.int .u8).R 5 w 0 ok vB s.bytes) (ho : (Kd.int .u8).R 5 w1 0 ok v1 (s.bytes ++ [b])) (hgr : w.grownBy w1 vB.ownBlock) :
    w1.heap[g]? = some (.cells #[vB, .int .i64 s.fed, .bool s.over] 67 (0, 0)) ∧ Dec ((w1.setCell ⟨g, 0, none⟩ v1).setCell ⟨g, 1, none⟩ (.int .i64 (s.fed + 1))) ok g { s with bytes := s.bytes ++ [b], fed := s.fed + 1 } := by
  have blk1 := blk_grown blk hgr (Kd.R_ne rB blk (by decide))
  have k1 := blk_set blk1 0 v1
  have k2 := blk_set k1 1 (.int .i64 (s.fed + 1))
  refine ⟨blk1, hg, ?_, v1, k2, Kd.R_set (Kd.R_set ho blk1 (by decide) _ _) k1 (by decide) _ _⟩
  intro x hx
  rcases List.mem_append.1 hx with h | h
  · exact hb x h
  · rw [List.mem_singleton.1 h]; exact hb0

theorem whole_at (w3 : World) (g : Nat) (o : Obj) : (((w3.setCell ⟨g, 0, none⟩ (.slice none 0 0)).alloc o).alloc o).heap[w3.heap.size + 1]? = some o := by
  have h := heap_alloc_new ((w3.setCell ⟨g, 0, none⟩ (.slice none 0 0)).alloc o) o
  simpa [World.setCell] using h

theorem whole_dec {w3 : World} {ok : Nat → Prop} {g : Nat} {v : Value} {f : Int} {o : Bool} (hg : ok g) (blk : w3.heap[g]? = some (.cells #[v, .int .i64 f, .bool o] 67 (0, 0))) (o1 o2 : Obj) :
    Dec (((w3.setCell ⟨g, 0, none⟩ (.slice none 0 0)).alloc o1).alloc o2) ok g { bytes := [], fed := f, over := o } := by
  have k1 := blk_set blk 0 (.slice none 0 0)
  have h : Dec (w3.setCell ⟨g, 0, none⟩ (.slice none 0 0)) ok g { bytes := [], fed := f, over := o } := ⟨hg, (fun x hx => by cases hx), _, k1, Kd.R_nil _ _ _ _ _⟩
  exact (h.below (below_alloc (Below.refl _ _) _)).below (below_alloc (Below.refl _ _) _)

set_option maxHeartbeats 4000000 in
theorem feed1_wait (w : World) (ok : Nat → Prop) (g : Nat) (s : DS) (b : Int) (h : Dec w ok g s) (hb0 : 0 ≤ b) (hb1 : b ≤ 255) (hf0 : 0 ≤ s.fed) (hf : s.fed ≤ 1000000) (hl : s.bytes.length ≤ 99000) (hfresh : ∀ k, w.heap.size ≤ k → ok k)
    (hw : frWrong (s.bytes ++ [b]) = 0) (hi : ¬ frIs (s.bytes ++ [b])) :
    Calls Tryd.prog 33 #[.pointer (some ⟨g, 0, none⟩), .int .u8 b] w fun e w' => e = .returned (.tuple #[.slice none 0 0, .nilIface]) ∧ Dec w' ok g { s with bytes := s.bytes ++ [b], fed := s.fed + 1 } ∧ Keeps ok w w' := by
  obtain ⟨hg, hB, vB, blk, rB⟩ := h
  have c0 : w.cell? ⟨g, 0, none⟩ = some vB := by rw [blk_cell blk]; rfl
  have RB := Aside0.mk rB
  have hvB := rB.1
  have HVB := Aside0.mk hvB
  clear rB hvB
  have HFR := Aside0.mk hfresh
  clear hfresh
  have BLK := Aside0.mk blk; clear blk
  have HW := Aside0.mk hw; clear hw
  have HI := Aside0.mk hi; clear hi
  obtain ⟨bs, hbs⟩ : ∃ bs, bs = s.bytes ++ [b] := ⟨_, rfl⟩
  have hlen : bs.length = s.bytes.length + 1 := by rw [hbs]; simp
  rw [← hbs] at HW HI ⊢
  have HBS := Aside0.mk hbs
  clear hbs
  go_enter Tryd.func33, Tryd.ntmps33
  go_wp2_with (at_builtin; refine Kd.R_append (Kd.int .u8) (w0 := w) 0 rfl (.tmp 14) (.tmp 16) 27 5 (.int .u8 0) 1 rfl Tryd.underlying27 infoB rfl (by decide) (by decide) vB s.bytes b [.int .u8 b] ok (fun _ => False) rfl rfl rfl (fun _ h => h.elim) HFR.out RB.out (Below.refl _ _) (Nat.zero_le _) ?aL ?_)
  case aL => omega
  intro v1 w1 ho hb hgr hat
  obtain ⟨blk1, hD⟩ := fed_state hg hB ⟨hb0, hb1⟩ BLK.out RB.out ho hgr
  rw [← HBS.out] at hD
  have d0 : w1.cell? ⟨g, 0, none⟩ = some vB := by rw [blk_cell blk1]; rfl
  have d1 : w1.cell? ⟨g, 1, none⟩ = some (.int .i64 s.fed) := by rw [blk_cell blk1]; rfl
  have e0 : w1.frozen? ⟨g, 0, none⟩ = false := blk_frozen blk1 0
  have e1 : w1.frozen? ⟨g, 1, none⟩ = false := blk_frozen blk1 1
  obtain ⟨A, n, c, rfl⟩ := sl_of_R ho
  have HD := Aside0.mk hD
  have HB : Aside0 (Keeps ok w ((w1.setCell ⟨g, 0, none⟩ (.slice A n c)).setCell ⟨g, 1, none⟩ (.int .i64 (s.fed + 1)))) := ⟨(((Keeps.refl ok w).grown hgr HVB.out).setCell hg _).setCell hg _⟩
  clear hD ho hgr hat hb blk1
  go_wp2_with fail
  generalize (w1.setCell ⟨g, 0, none⟩ (.slice A n c)).setCell ⟨g, 1, none⟩ (.int .i64 (s.fed + 1)) = w2 at *
  obtain ⟨A2, c2, blk2, hc2, hr2⟩ := HD.out.reads
  have hbytes := HD.out.2.1
  simp only at blk2 hc2 hr2 hbytes
  obtain ⟨n2, hn2⟩ : ∃ n2, n2 = bs.length := ⟨_, rfl⟩
  rw [← hn2] at blk2 hc2 hr2
  have q0 : w2.cell? ⟨g, 0, none⟩ = some (.slice A2 n2 c2) := by rw [blk_cell blk2]; rfl
  have q1 : w2.cell? ⟨g, 1, none⟩ = some (.int .i64 (s.fed + 1)) := by rw [blk_cell blk2]; rfl
  have hg2 : g < w2.heap.size := blk_lt blk2
  have hW := wrong_calls w2 g A2 n2 c2 bs q0 (by omega) hc2 hr2 hbytes
  rw [HW.out] at hW
  have HWH := Aside0.mk (whole_no w2 g A2 n2 c2 bs q0 hg2 hc2 hr2 hbytes HI.out (by omega))
  clear HBS hlen hn2 HW HI d0 d1 e0 e1 c0 BLK RB blk2
  refine hW.mono ?_
  rintro e w' ⟨rfl, rfl⟩
  clear hW
  go_wp2_with fail
  refine HWH.out.mono ?_
  rintro e w3 ⟨rfl, hb3⟩
  have HF1 : Aside0 (Dec w3 ok g { bytes := bs, fed := s.fed + 1, over := s.over }) := ⟨HD.out.below hb3⟩
  have HF2 : Aside0 (Keeps ok w w3) := ⟨HB.out.below (hb3.mono (Nat.le_refl _))⟩
  clear HWH hb3
  go_wp2
  go_ret2
  exact ⟨rfl, HF1.out.below (below_alloc (Below.refl _ _) _), HF2.out.alloc _⟩

set_option maxHeartbeats 4000000 in
theorem feed1_whole (w : World) (ok : Nat → Prop) (g : Nat) (s : DS) (b : Int) (h : Dec w ok g s) (hb0 : 0 ≤ b) (hb1 : b ≤ 255) (hf0 : 0 ≤ s.fed) (hf : s.fed ≤ 1000000) (hl : s.bytes.length ≤ 99000) (hfresh : ∀ k, w.heap.size ≤ k → ok k)
    (hw : frWrong (s.bytes ++ [b]) = 0) (hi : frIs (s.bytes ++ [b])) :
    Calls Tryd.prog 33 #[.pointer (some ⟨g, 0, none⟩), .int .u8 b] w fun e w' => (∃ x, w.heap.size ≤ x ∧ e = .returned (.tuple #[.slice (some ⟨x, 0, none⟩) 1 1, .nilIface]) ∧ w'.heap[x]? = some (.cells #[.int .u8 ((s.bytes ++ [b]).getD 0 0), .string (strOfNums ((s.bytes ++ [b]).drop 5))] 63 (0, 0))) ∧ Dec w' ok g { s with bytes := [], fed := s.fed + 1 } ∧ Keeps ok w w' := by
  obtain ⟨hg, hB, vB, blk, rB⟩ := h
  have c0 : w.cell? ⟨g, 0, none⟩ = some vB := by rw [blk_cell blk]; rfl
  have RB := Aside0.mk rB
  have hvB := rB.1
  have HVB := Aside0.mk hvB
  clear rB hvB
  have HFR := Aside0.mk hfresh
  clear hfresh
  have BLK := Aside0.mk blk; clear blk
  have HW := Aside0.mk hw; clear hw
  have HI := Aside0.mk hi; clear hi
  obtain ⟨bs, hbs⟩ : ∃ bs, bs = s.bytes ++ [b] := ⟨_, rfl⟩
  have hlen : bs.length = s.bytes.length + 1 := by rw [hbs]; simp
  rw [← hbs] at HW HI ⊢
  have HBS := Aside0.mk hbs
  clear hbs
  go_enter Tryd.func33, Tryd.ntmps33
  go_wp2_with (at_builtin; refine Kd.R_append (Kd.int .u8) (w0 := w) 0 rfl (.tmp 14) (.tmp 16) 27 5 (.int .u8 0) 1 rfl Tryd.underlying27 infoB rfl (by decide) (by decide) vB s.bytes b [.int .u8 b] ok (fun _ => False) rfl rfl rfl (fun _ h => h.elim) HFR.out RB.out (Below.refl _ _) (Nat.zero_le _) ?aL ?_)
  case aL => omega
  intro v1 w1 ho hb hgr hat
  obtain ⟨blk1, hD⟩ := fed_state hg hB ⟨hb0, hb1⟩ BLK.out RB.out ho hgr
  rw [← HBS.out] at hD
  have d0 : w1.cell? ⟨g, 0, none⟩ = some vB := by rw [blk_cell blk1]; rfl
  have d1 : w1.cell? ⟨g, 1, none⟩ = some (.int .i64 s.fed) := by rw [blk_cell blk1]; rfl
  have e0 : w1.frozen? ⟨g, 0, none⟩ = false := blk_frozen blk1 0
  have e1 : w1.frozen? ⟨g, 1, none⟩ = false := blk_frozen blk1 1
  obtain ⟨A, n, c, rfl⟩ := sl_of_R ho
  have HD := Aside0.mk hD
  have HB : Aside0 (Keeps ok w ((w1.setCell ⟨g, 0, none⟩ (.slice A n c)).setCell ⟨g, 1, none⟩ (.int .i64 (s.fed + 1)))) := ⟨(((Keeps.refl ok w).grown hgr HVB.out).setCell hg _).setCell hg _⟩
  clear hD ho hgr hat hb blk1
  go_wp2_with fail
  generalize (w1.setCell ⟨g, 0, none⟩ (.slice A n c)).setCell ⟨g, 1, none⟩ (.int .i64 (s.fed + 1)) = w2 at *
  obtain ⟨A2, c2, blk2, hc2, hr2⟩ := HD.out.reads
  have hbytes := HD.out.2.1
  simp only at blk2 hc2 hr2 hbytes
  obtain ⟨n2, hn2⟩ : ∃ n2, n2 = bs.length := ⟨_, rfl⟩
  rw [← hn2] at blk2 hc2 hr2
  have q0 : w2.cell? ⟨g, 0, none⟩ = some (.slice A2 n2 c2) := by rw [blk_cell blk2]; rfl
  have q1 : w2.cell? ⟨g, 1, none⟩ = some (.int .i64 (s.fed + 1)) := by rw [blk_cell blk2]; rfl
  have hg2 : g < w2.heap.size := blk_lt blk2
  have hW := wrong_calls w2 g A2 n2 c2 bs q0 (by omega) hc2 hr2 hbytes
  rw [HW.out] at hW
  have HWH := Aside0.mk (whole_yes w2 g A2 n2 c2 bs q0 hg2 hc2 hr2 hbytes HI.out (by omega))
  clear HBS hlen hn2 HW HI d0 d1 e0 e1 c0 BLK RB blk2
  refine hW.mono ?_
  rintro e w' ⟨rfl, rfl⟩
  clear hW
  go_wp2_with fail
  refine HWH.out.mono ?_
  rintro e w3 ⟨rfl, hb3⟩
  have HF1 : Aside0 (Dec w3 ok g { bytes := bs, fed := s.fed + 1, over := s.over }) := ⟨HD.out.below hb3⟩
  have HF2 : Aside0 (Keeps ok w w3) := ⟨HB.out.below (hb3.mono (Nat.le_refl _))⟩
  have HS : w.heap.size ≤ w3.heap.size := HF2.out.size
  clear HWH hb3
  obtain ⟨A3, c3, blk3, _, _⟩ := HF1.out.reads
  simp only at blk3
  have r0 : w3.cell? ⟨g, 0, none⟩ = some (.slice A3 bs.length c3) := by rw [blk_cell blk3]; rfl
  have s0 : w3.frozen? ⟨g, 0, none⟩ = false := blk_frozen blk3 0
  have hg3 : g < w3.heap.size := blk_lt blk3
  have BLK3 := Aside0.mk blk3
  clear blk3
  go_wp2
  go_ret2
  exact ⟨⟨w3.heap.size + 1, by omega, rfl, whole_at w3 g _⟩, whole_dec hg BLK3.out _ _, ((HF2.out.setCell hg _).alloc _).alloc _⟩


set_option maxHeartbeats 4000000 in
theorem feed1_wrong (w : World) (ok : Nat → Prop) (g : Nat) (s : DS) (b : Int) (h : Dec w ok g s) (hb0 : 0 ≤ b) (hb1 : b ≤ 255) (hf0 : 0 ≤ s.fed) (hf : s.fed ≤ 1000000) (hl : s.bytes.length ≤ 99000) (hfresh : ∀ k, w.heap.size ≤ k → ok k)
    (hw : frWrong (s.bytes ++ [b]) ≠ 0) :
    Calls Tryd.prog 33 #[.pointer (some ⟨g, 0, none⟩), .int .u8 b] w fun e w' => (∃ v, e = .returned (.tuple #[.slice none 0 0, v]) ∧ FrErr w' w.heap.size v (frWrong (s.bytes ++ [b])) s.fed) ∧ Dec w' ok g { bytes := s.bytes ++ [b], fed := s.fed + 1, over := true } ∧ Keeps ok w w' := by
  obtain ⟨hg, hB, vB, blk, rB⟩ := h
  have c0 : w.cell? ⟨g, 0, none⟩ = some vB := by rw [blk_cell blk]; rfl
  have RB := Aside0.mk rB
  have hvB := rB.1
  have HVB := Aside0.mk hvB
  clear rB hvB
  have HFR := Aside0.mk hfresh
  clear hfresh
  have BLK := Aside0.mk blk; clear blk
  have HW := Aside0.mk hw; clear hw
  obtain ⟨bs, hbs⟩ : ∃ bs, bs = s.bytes ++ [b] := ⟨_, rfl⟩
  have hlen : bs.length = s.bytes.length + 1 := by rw [hbs]; simp
  rw [← hbs] at HW ⊢
  have HBS := Aside0.mk hbs
  clear hbs
  go_enter Tryd.func33, Tryd.ntmps33
  go_wp2_with (at_builtin; refine Kd.R_append (Kd.int .u8) (w0 := w) 0 rfl (.tmp 14) (.tmp 16) 27 5 (.int .u8 0) 1 rfl Tryd.underlying27 infoB rfl (by decide) (by decide) vB s.bytes b [.int .u8 b] ok (fun _ => False) rfl rfl rfl (fun _ h => h.elim) HFR.out RB.out (Below.refl _ _) (Nat.zero_le _) ?aL ?_)
  case aL => omega
  intro v1 w1 ho hb hgr hat
  obtain ⟨blk1, hD⟩ := fed_state hg hB ⟨hb0, hb1⟩ BLK.out RB.out ho hgr
  rw [← HBS.out] at hD
  have d0 : w1.cell? ⟨g, 0, none⟩ = some vB := by rw [blk_cell blk1]; rfl
  have d1 : w1.cell? ⟨g, 1, none⟩ = some (.int .i64 s.fed) := by rw [blk_cell blk1]; rfl
  have e0 : w1.frozen? ⟨g, 0, none⟩ = false := blk_frozen blk1 0
  have e1 : w1.frozen? ⟨g, 1, none⟩ = false := blk_frozen blk1 1
  obtain ⟨A, n, c, rfl⟩ := sl_of_R ho
  have HD := Aside0.mk hD
  have HB : Aside0 (Keeps ok w ((w1.setCell ⟨g, 0, none⟩ (.slice A n c)).setCell ⟨g, 1, none⟩ (.int .i64 (s.fed + 1)))) := ⟨(((Keeps.refl ok w).grown hgr HVB.out).setCell hg _).setCell hg _⟩
  clear hD ho hgr hat hb blk1
  go_wp2_with fail
  generalize (w1.setCell ⟨g, 0, none⟩ (.slice A n c)).setCell ⟨g, 1, none⟩ (.int .i64 (s.fed + 1)) = w2 at *
  obtain ⟨A2, c2, blk2, hc2, hr2⟩ := HD.out.reads
  have hbytes := HD.out.2.1
  simp only at blk2 hc2 hr2 hbytes
  obtain ⟨n2, hn2⟩ : ∃ n2, n2 = bs.length := ⟨_, rfl⟩
  rw [← hn2] at blk2 hc2 hr2
  have q0 : w2.cell? ⟨g, 0, none⟩ = some (.slice A2 n2 c2) := by rw [blk_cell blk2]; rfl
  have q1 : w2.cell? ⟨g, 1, none⟩ = some (.int .i64 (s.fed + 1)) := by rw [blk_cell blk2]; rfl
  have hg2 : g < w2.heap.size := blk_lt blk2
  have hW := wrong_calls w2 g A2 n2 c2 bs q0 (by omega) hc2 hr2 hbytes
  have hwb : (frWrong bs != 0) = true := bne_iff_ne.2 HW.out
  have hwb' : (frWrong bs == 0) = false := beq_eq_false_iff_ne.2 HW.out
  have q2 : w2.cell? ⟨g, 2, none⟩ = some (.bool s.over) := by rw [blk_cell blk2]; rfl
  have s2 : w2.frozen? ⟨g, 2, none⟩ = false := blk_frozen blk2 2
  have hD3 : Dec (w2.setCell ⟨g, 2, none⟩ (.bool true)) ok g { bytes := bs, fed := s.fed + 1, over := true } := by
    obtain ⟨h1, h2, vB2, blk, r⟩ := HD.out
    exact ⟨h1, h2, vB2, blk_set blk 2 (.bool true), Kd.R_set r blk (by decide) _ _⟩
  have HD3 := Aside0.mk hD3
  have HB3 : Aside0 (Keeps ok w (w2.setCell ⟨g, 2, none⟩ (.bool true))) := ⟨HB.out.setCell hg _⟩
  have hS := HB.out.size
  generalize hfw : frWrong bs = fw at *
  have HFW := Aside0.mk hfw
  clear HBS hlen hn2 HW d0 d1 e0 e1 c0 BLK RB blk2 hD3 hfw
  refine hW.mono ?_
  rintro e w' ⟨rfl, rfl⟩
  clear hW
  go_wp2_with fail
  generalize w2.setCell ⟨g, 2, none⟩ (.bool true) = w3 at *
  with_reducible refine (new_calls fw s.fed w3 hwb').mono ?_
  rintro e w4 ⟨rfl, rfl⟩
  have HE := Aside0.mk (in_calls 72 (.pointer (some ⟨w3.heap.size, 0, none⟩)) ⟨w3.heap.size + 1, 0, none⟩ 1 1 [(⟨#[102, 114, 97, 109, 101]⟩ : ByteArray)] ((w3.alloc (.cells #[.int .i64 fw, .int .i64 s.fed] 76)).alloc (.cells #[.string (⟨#[102, 114, 97, 109, 101]⟩ : ByteArray)] 9)) rfl (by omega) (by omega) (by omega) (by
    have := litC (w3.alloc (.cells #[.int .i64 fw, .int .i64 s.fed] 76)) 9 [(⟨#[102, 114, 97, 109, 101]⟩ : ByteArray)] (by decide)
    simpa [encs] using this))
  have hblk : ((w3.alloc (.cells #[.int .i64 fw, .int .i64 s.fed] 76)).alloc (.cells #[.string (⟨#[102, 114, 97, 109, 101]⟩ : ByteArray)] 9)).heap[w3.heap.size]? = some (.cells #[.int .i64 fw, .int .i64 s.fed] 76 (0, 0)) := by
    rw [Below.heap_alloc _ _ _ (by simp)]; exact heap_alloc_new w3 _
  have hS3 : w.heap.size ≤ w3.heap.size := HB3.out.size
  have HW : Aside0 (Below w3.heap.size w3 ((w3.alloc (.cells #[.int .i64 fw, .int .i64 s.fed] 76)).alloc (.cells #[.string (⟨#[102, 114, 97, 109, 101]⟩ : ByteArray)] 9))) := ⟨((Below.refl _ _).alloc (Nat.le_refl _) _).alloc (by simp) _⟩
  have HK := Aside0.mk hblk
  clear hblk
  go_wp2_with fail
  refine HE.out.mono ?_
  rintro e w5 ⟨gg, rfl, hin, hb5⟩
  have hF : FrErr w5 w.heap.size (.iface 93 (.pointer (some ⟨gg, 0, none⟩))) fw s.fed := by
    obtain ⟨k1, v, k2, k3⟩ := hin
    exact ⟨gg, w3.heap.size, rfl, ⟨by simp at k1; omega, v, k2, Kd.R_lower k3 (by simp; omega)⟩, hS3, (hb5.block _ (by simp; omega)).trans HK.out⟩
  have hb35 : Below w3.heap.size w3 w5 := HW.out.trans (hb5.mono (by simp; omega))
  have HF := Aside0.mk hF
  have HF2 : Aside0 (Keeps ok w w5) := ⟨HB3.out.below hb35⟩
  have HF3 : Aside0 (Dec w5 ok g { bytes := bs, fed := s.fed + 1, over := true }) := ⟨HD3.out.below hb35⟩
  clear hF hin hb5 hb35 HE HW HK
  go_wp2
  go_ret2
  exact ⟨⟨_, rfl, by rw [HFW.out]; exact HF.out⟩, HF3.out, HF2.out⟩
end Go.Proofs.YtmcjfnebkpifnaaDoor
