/-
  errors.Is, fault.Words at several errors joined, in words.
-/
import Derived.Test.YtelmmcjlhjahcaaDoorAsJ
import Derived.Test.YtelmmcjlhjahcaaDoorIsTop
import Derived.Test.YtelmmcjlhjahcaaDoorFaWords
namespace Go.Proofs.YtelmmcjlhjahcaaDoor
open Go.RowKit Go.Extern.Stop Go.Stop Go.Extern Go.Proofs.YtelmmcjlhjahcaaDoorW.PrintWords Go.Proofs.YtelmmcjlhjahcaaDoorW.PrintLast Go.Proofs.YtelmmcjlhjahcaaDoorW.PrintMore
set_option linter.unusedVariables false
set_option linter.unusedSimpArgs false
set_option maxRecDepth 100000
namespace As
theorem noIsJ (v : Value) (w : World) : (Instr.typeAssert (.iface 91 v) 29 150 true).run Tryd.prog w = .ok (.tuple #[.nilIface, .bool false]) w := run_typeAssert_lacksB Tryd.underlying150 (by kernel_rfl) (by kernel_rfl) v 29 w
theorem eqJ (p : Option Addr) (k : Int) (w : World) : (binOp .eql 29 (.iface 91 (.pointer p)) (.iface 33 (.int .i64 k))).run Tryd.prog w = .ok (.bool false) w := by kernel_rfl

/-- Does one of them tell it? -/
def hits (es : List (List (List ByteArray) × Base)) (k : Int) : Bool := es.any (fun e => e.2.code == k)
theorem hits_drop (es : List (List (List ByteArray) × Base)) (k : Int) (j : Nat) (hj : j < es.length) : hits (es.drop j) k = ((es.getD j ([], .errno 0)).2.code == k || hits (es.drop (j + 1)) k) := by
  unfold hits
  rw [List.drop_eq_getElem_cons hj, List.any_cons, List.getD_eq_getElem?_getD, List.getElem?_eq_getElem hj]; rfl

set_option maxHeartbeats 8000000 in
theorem is2_callsJ (v : Value) (ins : List (List ByteArray)) (es : List (List (List ByteArray) × Base)) (k : Int) (w : World) (he : JV w v ins es) :
    Calls Tryd.prog 67 #[v, .iface 33 (.int .i64 k), .bool true] w fun e w' => e = .returned (.bool (hits es k)) ∧ w' = w := by
  have mUI := mUnwI; have mUJ := mUnwJ
  have nI := noIsI; have nJ := noIsJ
  have uI := unI; have uJ := noUnJ; have ulJ := unlJ
  have qI := eqI; have qJ := eqJ
  have HE : Aside0 (JV w v ins es) := ⟨he⟩
  clear he
  go_enter Tryd.func67, Tryd.ntmps67
  go_wp2
  go_loopg [0] (ins.length) (fun gk p wr => wr = w ∧ ∃ xs, xs.length = gk ∧ JV w p xs es)
  case atStart => exact ⟨rfl, ins, rfl, HE.out⟩
  case round =>
    obtain ⟨rfl, xs, hk, hv⟩ := hrel
    have HK : Aside0 (xs.length = gk) := ⟨hk⟩
    clear hk
    rcases xs with _ | ⟨ys, xs⟩
    · obtain ⟨g, A, n, c, zs, rfl, hg, hn, hc, hzc, hlen, hall⟩ := hv
      have HG := Aside0.mk (unw_joined g (.slice A n c) wr hg)
      have HZ := Aside0.mk hzc
      have HN := Aside0.mk (And.intro hn hlen)
      have HALL := Aside0.mk hall
      clear hg hn hzc hlen hall
      go_wp2_with (go_at_call 150; refine HG.out.mono ?_; rintro e w' ⟨rfl, hw⟩; rw [hw]; clear hw)
      go_loopw [45] (fun i wq => wq = wr ∧ ∃ j : Nat, j ≤ n ∧ i = .int .i64 j ∧ Aside0 (hits (es.drop j) k = hits es k)) (fun i _ => n - (intOf i).toNat)
      case atStart => exact ⟨rfl, 0, by omega, rfl, ⟨rfl⟩⟩
      case round =>
        obtain ⟨hwq, j, hj, rfl, HD⟩ := hrel
        subst hwq
        by_cases hlt : j < n
        · have hjz : j < zs.length := by have := HN.out.1; omega
          have hje : j < es.length := by have := HN.out; omega
          obtain ⟨ad, rfl, hcell⟩ := err_cell HZ.out j hlt
          have hev := HALL.out j hjz
          have hd := hits_drop es k j hje
          rw [HD.out] at hd
          obtain ⟨ut, ux, hux⟩ := EV_iface hev
          rw [hux] at hcell hev
          have HC := Aside0.mk (is2_calls _ _ _ k _ hev)
          generalize ((es.getD j ([], .errno 0)).2.code == k) = q at hd HC
          clear hev hux hjz hje HD
          cases q with
          | true =>
            have HD : Aside0 (hits es k = true) := ⟨by rw [hd]; rfl⟩
            clear hd
            go_wp2_with (go_at_call 67; refine HC.out.mono ?_; rintro e w' ⟨rfl, rfl⟩)
            go_ret
            exact ⟨by rw [HD.out]; rfl, rfl⟩
          | false =>
            have HD : Aside0 (hits (es.drop (j + 1)) k = hits es k) := ⟨by rw [hd]; rfl⟩
            clear hd
            go_wp2_with (go_at_call 67; refine HC.out.mono ?_; rintro e w' ⟨rfl, rfl⟩)
            go_roundw
            case rel => exact ⟨by first | rfl | trivial, j + 1, by omega, by go_num, HD⟩
            case measure => simp [intOf]; omega
        · have HF : Aside0 (hits es k = false) := ⟨by rw [← HD.out, List.drop_eq_nil_of_le (by have := HN.out; omega)]; rfl⟩
          clear HD
          go_wp2
          go_ret
          exact ⟨by rw [HF.out]; rfl, rfl⟩
    · obtain ⟨g, ws, err, rfl, hg, hws, hv'⟩ := hv
      obtain ⟨ut, ux, rfl⟩ := JV_iface hv'
      have HG : Aside0 (wr.heap[g]? = some (.cells #[ws, .iface ut ux] 86 (0, 0)) ∧ JV wr (.iface ut ux) xs es) := ⟨hg, hv'⟩
      clear hg hws hv'
      go_wp2_with (go_at_call 148; refine (unw_inside g ws (.iface ut ux) _ HG.out.1).mono ?_; rintro e w' ⟨rfl, rfl⟩)
      go_roundg xs.length
      case measure => have := HK.out; simp at this; omega
      case rel => exact ⟨rfl, xs, rfl, HG.out.2⟩
end As

theorem ta_joined (v : Value) (w : World) : (Instr.typeAssert (.iface 91 v) 29 83 true).run Tryd.prog w = .ok (.tuple #[.pointer none, .bool false]) w := by kernel_rfl
set_option maxHeartbeats 4000000 in
theorem words_callsJ (w : World) (v : Value) (ins : List (List ByteArray)) (es : List (List (List ByteArray) × As.Base)) (hv : As.JV w v ins es) (hl : ins.flatten.length ≤ 1000000) :
    Calls Tryd.prog 18 #[v] w fun e w' => ∃ A n c, e = .returned (.slice A n c) ∧ Kd.string.R 9 w' w.heap.size (fun _ => True) (.slice A n c) ins.flatten ∧ Below w.heap.size w w' := by
  have HV := Aside0.mk hv
  have HL := Aside0.mk hl
  have t1 := ta_ins
  have t2 := ta_joined
  obtain ⟨ut, ux, rfl⟩ := As.JV_iface hv
  clear hv hl
  go_enter Tryd.func18, Tryd.ntmps18
  go_wp2
  go_loopg [0, 3] (ins.length) (fun k p o wr => ∃ done rest, (∃ t x, p = .iface t x) ∧ (∃ A n c, o = .slice A n c) ∧ Aside0 (rest.length = k ∧ done ++ rest = ins ∧ As.JV w p rest es ∧ Kd.string.R 9 wr w.heap.size (fun _ => True) o done.flatten ∧ Below w.heap.size w wr))
  case atStart => exact ⟨[], ins, ⟨_, _, rfl⟩, ⟨_, _, _, rfl⟩, ⟨rfl, rfl, HV.out, Kd.R_nil _ _ _ _ _, Below.refl _ _⟩⟩
  case round =>
    obtain ⟨done, rest, ⟨pt, px, rfl⟩, ⟨A, n, c, rfl⟩, HM⟩ := hrel
    rcases rest with _ | ⟨ys, rest⟩
    · have hev := HM.out.2.2.1
      have hdone : done = ins := by have := HM.out.2.1; simpa using this
      subst hdone
      obtain ⟨g, A9, n9, c9, zs9, hg, _⟩ := hev
      injection hg with e1 e2
      subst e1
      subst e2
      go_wp2
      go_ret
      exact ⟨_, _, _, rfl, HM.out.2.2.2.1, HM.out.2.2.2.2⟩
    · obtain ⟨g, ws, err, hg, hblk0, hws0, hv'⟩ := HM.out.2.2.1
      have hblk := (HM.out.2.2.2.2.block g (blk_lt hblk0)).trans hblk0
      have hws := Kd.R_below hws0 HM.out.2.2.2.2
      injection hg with e1 e2
      subst e1
      subst e2
      obtain ⟨ut2, ux2, rfl⟩ := As.JV_iface hv'
      obtain ⟨A2, n2, c2, rfl⟩ := sl_of_R hws
      obtain ⟨hn2, hc2, hC2⟩ := Kd.R_reads' hws
      subst hn2
      have d0 : wr.cell? ⟨g, 0, none⟩ = some (.slice A2 ys.length c2) := (blk_cell hblk 0).trans rfl
      have d1 : wr.cell? ⟨g, 1, none⟩ = some (.iface ut2 ux2) := (blk_cell hblk 1).trans rfl
      have hfl : done.flatten.length + ys.length ≤ 1000000 := by
        have h1 := HL.out
        rw [← HM.out.2.1] at h1
        simp at h1
        simp
        omega
      have hsz := HM.out.2.2.2.2.size
      have HC2 := Aside0.mk hC2
      have HBLK := Aside0.mk hblk
      have HB0 := Aside0.mk hblk0
      have HV' := Aside0.mk hv'
      clear hblk hws hblk0 hws0 hv' hc2 hC2
      go_wp2_with (at_builtin; refine Kd.R_append_row Value.string ByteArray.empty (w0 := w) w.heap.size rfl (.tmp 14) (.tmp 18) 36 9 (.string ByteArray.empty) 16 rfl Tryd.underlying36 finfoS rfl (by decide) (.slice A n c) done.flatten ys A2 ys.length c2 (fun _ => True) rfl rfl (fun _ _ => trivial) HM.out.2.2.2.1 HC2.out HM.out.2.2.2.2 hsz ?aL ?_)
      case aL => omega
      intro v1 w2 ho hb2 hgr hat
      obtain ⟨A4, n4, c4, rfl⟩ := sl_of_R ho
      have HO := Aside0.mk (And.intro ho hb2)
      have d1' : w2.cell? ⟨g, 1, none⟩ = some (.iface ut2 ux2) := (blk_cell ((hb2.block g (blk_lt HB0.out)).trans HB0.out) 1).trans rfl
      have eF : (done ++ [ys]).flatten = done.flatten ++ ys := by simp
      clear d0 d1 ho hb2 hgr hat
      go_wp2
      go_roundg rest.length
      case measure => have := HM.out.1; simp at this; omega
      case rel => exact ⟨done ++ [ys], rest, ⟨_, _, rfl⟩, ⟨_, _, _, rfl⟩, ⟨rfl, by rw [← HM.out.2.1]; simp, HV'.out, by rw [eF]; exact HO.out.1, HO.out.2⟩⟩
end Go.Proofs.YtelmmcjlhjahcaaDoor
