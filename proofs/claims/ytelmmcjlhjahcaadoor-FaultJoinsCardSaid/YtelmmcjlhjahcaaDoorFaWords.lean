/-
  fault.Words.
-/
import Derived.Test.YtelmmcjlhjahcaaDoorFaMade
import Derived.Deep.LoopGhost
namespace Go.Proofs.YtelmmcjlhjahcaaDoor
open Go.RowKit Go.Extern Go.Stop Go.Proofs.YtelmmcjlhjahcaaDoorW.PrintWords Go.Proofs.YtelmmcjlhjahcaaDoorW.PrintLast Go.Proofs.YtelmmcjlhjahcaaDoorW.PrintMore
set_option linter.unusedVariables false
set_option linter.unusedSimpArgs false
set_option maxRecDepth 100000

theorem ta_nil (w : World) : (Instr.typeAssert .nilIface 29 83 true).run Tryd.prog w = .ok (.tuple #[.pointer none, .bool false]) w := by kernel_rfl
theorem ta_ins (v : Value) (w : World) : (Instr.typeAssert (.iface 83 v) 29 83 true).run Tryd.prog w = .ok (.tuple #[v, .bool true]) w := by kernel_rfl
theorem ta_fault (v : Value) (w : World) : (Instr.typeAssert (.iface 77 v) 29 83 true).run Tryd.prog w = .ok (.tuple #[.pointer none, .bool false]) w := by kernel_rfl
theorem ta_errno (v : Value) (w : World) : (Instr.typeAssert (.iface 33 v) 29 83 true).run Tryd.prog w = .ok (.tuple #[.pointer none, .bool false]) w := by kernel_rfl
theorem words_nil (w : World) : Calls Tryd.prog 18 #[.nilIface] w fun e w' => e = .returned (.slice none 0 0) ∧ w' = w := by
  go_enter Tryd.func18, Tryd.ntmps18
  have ta := ta_nil
  go_wp2
  refine wp_loop_rounds 1 ?_
  rw [rounds_succ]
  go_wp2
  go_ret
  exact ⟨rfl, rfl⟩

set_option maxHeartbeats 4000000 in
theorem words_calls (w : World) (v : Value) (ins : List (List ByteArray)) (b : As.Base) (hv : As.EV w v ins b) (hl : ins.flatten.length ≤ 1000000) :
    Calls Tryd.prog 18 #[v] w fun e w' => ∃ A n c, e = .returned (.slice A n c) ∧ Kd.string.R 9 w' w.heap.size (fun _ => True) (.slice A n c) ins.flatten ∧ Below w.heap.size w w' := by
  have HV := Aside0.mk hv
  have HL := Aside0.mk hl
  have t1 := ta_ins
  have t2 := ta_fault
  have t3 := ta_errno
  obtain ⟨ut, ux, rfl⟩ := As.EV_iface hv
  clear hv hl
  go_enter Tryd.func18, Tryd.ntmps18
  go_wp2
  go_loopg [0, 3] (ins.length) (fun k p o wr => ∃ done rest, (∃ t x, p = .iface t x) ∧ (∃ A n c, o = .slice A n c) ∧ Aside0 (rest.length = k ∧ done ++ rest = ins ∧ As.EV w p rest b ∧ Kd.string.R 9 wr w.heap.size (fun _ => True) o done.flatten ∧ Below w.heap.size w wr))
  case atStart => exact ⟨[], ins, ⟨_, _, rfl⟩, ⟨_, _, _, rfl⟩, ⟨rfl, rfl, HV.out, Kd.R_nil _ _ _ _ _, Below.refl _ _⟩⟩
  case round =>
    obtain ⟨done, rest, ⟨pt, px, rfl⟩, ⟨A, n, c, rfl⟩, HM⟩ := hrel
    rcases rest with _ | ⟨ys, rest⟩
    · have hev := HM.out.2.2.1
      have hdone : done = ins := by have := HM.out.2.1; simpa using this
      subst hdone
      cases b with
      | errno m =>
        simp only [As.EV, As.EB] at hev
        injection hev with e1 e2
        subst e1
        subst e2
        go_wp2
        go_ret
        exact ⟨_, _, _, rfl, HM.out.2.2.2.1, HM.out.2.2.2.2⟩
      | fault m x =>
        obtain ⟨g, hg, _⟩ := hev
        injection hg with e1 e2
        subst e1
        subst e2
        go_wp2
        go_ret
        exact ⟨_, _, _, rfl, HM.out.2.2.2.1, HM.out.2.2.2.2⟩
    · obtain ⟨g, ws, err, hg, hblk0, hws0, hv'⟩ := HM.out.2.2.1
      have hblk := (HM.out.2.2.2.2.block g (blk_lt hblk0)).trans hblk0
      have hws := Kd.R_below hws0 HM.out.2.2.2.2
      injection hg with e1 e2
      subst e1
      subst e2
      obtain ⟨ut2, ux2, rfl⟩ := As.EV_iface hv'
      obtain ⟨A2, n2, c2, rfl⟩ := sl_of_R hws
      obtain ⟨hn2, hc2, hC2⟩ := Kd.R_reads' hws
      subst hn2
      have d0 : wr.cell? ⟨g, 0, none⟩ = some (.slice A2 ys.length c2) := (blk_cell hblk 0).trans rfl
      have d1 : wr.cell? ⟨g, 1, none⟩ = some (.iface ut2 ux2) := (blk_cell hblk 1).trans rfl
      have hfl : done.flatten.length + ys.length ≤ 1000000 := by
        have h1 := HL.out
        rw [← HM.out.2.1] at h1
        simp at h1
        simp
        omega
      have hsz := HM.out.2.2.2.2.size
      have HC2 := Aside0.mk hC2
      have HBLK := Aside0.mk hblk
      have HB0 := Aside0.mk hblk0
      have HV' := Aside0.mk hv'
      clear hblk hws hblk0 hws0 hv' hc2 hC2
      go_wp2_with (at_builtin; refine Kd.R_append_row Value.string ByteArray.empty (w0 := w) w.heap.size rfl (.tmp 14) (.tmp 18) 36 9 (.string ByteArray.empty) 16 rfl Tryd.underlying36 finfoS rfl (by decide) (.slice A n c) done.flatten ys A2 ys.length c2 (fun _ => True) rfl rfl (fun _ _ => trivial) HM.out.2.2.2.1 HC2.out HM.out.2.2.2.2 hsz ?aL ?_)
      case aL => omega
      intro v1 w2 ho hb2 hgr hat
      obtain ⟨A4, n4, c4, rfl⟩ := sl_of_R ho
      have HO := Aside0.mk (And.intro ho hb2)
      have d1' : w2.cell? ⟨g, 1, none⟩ = some (.iface ut2 ux2) := (blk_cell ((hb2.block g (blk_lt HB0.out)).trans HB0.out) 1).trans rfl
      have eF : (done ++ [ys]).flatten = done.flatten ++ ys := by simp
      clear d0 d1 ho hb2 hgr hat
      go_wp2
      go_roundg rest.length
      case measure => have := HM.out.1; simp at this; omega
      case rel => exact ⟨done ++ [ys], rest, ⟨_, _, rfl⟩, ⟨_, _, _, rfl⟩, ⟨rfl, by rw [← HM.out.2.1]; simp, HV'.out, by rw [eF]; exact HO.out.1, HO.out.2⟩⟩
end Go.Proofs.YtelmmcjlhjahcaaDoor
