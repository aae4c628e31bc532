/-
  Joined texts: PParseBodiesx0, Mac, Mem, Fault, PsBase.
-/
import Derived.Test.YtkobpbbegalfpaaGreatDoorProg
import Derived.Below
import Derived.Deep.Draws
import Derived.Deep.AppendLies
import Derived.Maps.AppendAt
import Derived.OwnWalk
import Derived.Laws.BytesArg
import Derived.Laws.MakeOwn
import Derived.Laws.OwnMore
import Derived.Deep.OwnRows
import Derived.Tactics
import Derived.Lib.ConvBytes
import Derived.Laws.Slices
import Derived.WalkKit
import Derived.KernelRfl
import Derived.RowKit3
import Derived.Deep.LoopGhost
import Derived.Deep.QuietTactic
import Derived.BigQuiet
import Derived.WideLaws
import Derived.Deep.DeepCutAuto
import Derived.Deep.CutBlock
import Derived.Deep.RegionHeld3
import Derived.Laws.Rows
import Derived.Lib.AppendStr
import Derived.ArgAppend
import Derived.Laws.IdiomCopy
import Derived.OrdersHeld
import Derived.Laws.BitsLemmas
import Derived.RowKit
import Derived.Test.YtkobpbbegalfpaaGreatDoorWWords
import Derived.Test.YtkobpbbegalfpaaGreatDoorWEqStruct
import Derived.Test.YtkobpbbegalfpaaGreatDoorWMore
import Derived.WalkSpells
import Derived.WalkLawsBesides
import Derived.StillTailTactics
namespace Go.Proofs.YtkobpbbegalfpaaGreatDoor.PParseBodies
open Go.RowKit YtkobpbbegalfpaaGreatDoorW.PrintWords YtkobpbbegalfpaaGreatDoorW.PrintLast YtkobpbbegalfpaaGreatDoorW.PrintMore
attribute [local go_sem] max2_int min2_int max_two min_two max_three min_three max_four min_four
set_option linter.unusedVariables false
set_option linter.unusedSimpArgs false
def errW : Option Int → Value
 | none => .nilIface
 | some c => .iface 180 (.int .i64 c)
theorem errW_none : errW none = .nilIface := rfl
theorem errW_some (c : Int) : errW (some c) = .iface 180 (.int .i64 c) := rfl
theorem info3 : (Tryz.prog.info? 3).map (fun i => (i.zero, i.size, i.bytes)) = some (some (.int .i64 0), 1, 8) := by kernel_rfl
theorem info24 : (Tryz.prog.info? 24).map (fun i => (i.zero, i.size, i.bytes)) = some (some (.agg #[(.int .i64 0), (.int .i64 0), (.int .i64 0), (.int .i64 0)]), 4, 32) := by kernel_rfl
theorem info27 : (Tryz.prog.info? 27).map (fun i => (i.zero, i.size, i.bytes)) = some (some (.agg #[(.int .u8 0), (.int .i64 0), (.int .i64 0), (.int .i64 0), (.int .i64 0), (.int .i64 0), (.slice none 0 0)]), 7, 72) := by kernel_rfl
structure S24 where
 f0 : Int
 f1 : Int
 f2 : Int
 f3 : Int
def z24 : S24 := ⟨(0 : Int), (0 : Int), (0 : Int), (0 : Int)⟩
def k24 : Kd S24 := Kd.iso (Kd.pair (Kd.int .i64) (Kd.pair (Kd.int .i64) (Kd.pair (Kd.int .i64) (Kd.int .i64)))) (fun x : S24 => (x.f0, x.f1, x.f2, x.f3))
theorem k24_heap : Kd.Heap k24 := Kd.heap_iso _ (Kd.heap_pair (Kd.heap_int .i64) (Kd.heap_pair (Kd.heap_int .i64) (Kd.heap_pair (Kd.heap_int .i64) (Kd.heap_int .i64))))
theorem k24_open {w : World} {x : S24} {cs : List Value} (h : k24.K w x cs) : cs = [.int .i64 x.f0, .int .i64 x.f1, .int .i64 x.f2, .int .i64 x.f3] := by
 obtain ⟨_, _, rfl, rfl, ⟨_, _, rfl, rfl, ⟨_, _, rfl, rfl, rfl⟩⟩⟩ := h
 exact rfl
theorem k24_mk (w : World) (x : S24)  : k24.K w x [.int .i64 x.f0, .int .i64 x.f1, .int .i64 x.f2, .int .i64 x.f3] := ⟨[.int .i64 x.f0], [.int .i64 x.f1, .int .i64 x.f2, .int .i64 x.f3], rfl, rfl, ⟨[.int .i64 x.f1], [.int .i64 x.f2, .int .i64 x.f3], rfl, rfl, ⟨[.int .i64 x.f2], [.int .i64 x.f3], rfl, rfl, rfl⟩⟩⟩
theorem k24_mkM (w : World) (base : Nat) (ok : Nat → Prop) (x : S24)  : k24.M w base ok x [.int .i64 x.f0, .int .i64 x.f1, .int .i64 x.f2, .int .i64 x.f3] := ⟨[.int .i64 x.f0], [.int .i64 x.f1, .int .i64 x.f2, .int .i64 x.f3], rfl, rfl, ⟨[.int .i64 x.f1], [.int .i64 x.f2, .int .i64 x.f3], rfl, rfl, ⟨[.int .i64 x.f2], [.int .i64 x.f3], rfl, rfl, rfl⟩⟩⟩
def rd_T24 (xs : List S24) (i : Int) : S24 := xs.getD i.toNat z24
theorem at_T24 {w : World} {A : Option Addr} {n : Nat} {xs : List S24} (h : Kd.C k24 w A n xs) (i : Int) (h0 : 0 ≤ i) (h1 : i < n) : ∃ ad , A = some ad ∧ w.cell? (ad.add (i.toNat * 4)) = some (.int .i64 (rd_T24 xs i).f0) ∧ w.cell? ⟨(ad.add (i.toNat * 4)).block, (ad.add (i.toNat * 4)).off + 1, none⟩ = some (.int .i64 (rd_T24 xs i).f1) ∧ w.cell? ⟨(ad.add (i.toNat * 4)).block, (ad.add (i.toNat * 4)).off + 2, none⟩ = some (.int .i64 (rd_T24 xs i).f2) ∧ w.cell? ⟨(ad.add (i.toNat * 4)).block, (ad.add (i.toNat * 4)).off + 3, none⟩ = some (.int .i64 (rd_T24 xs i).f3) := by
 obtain ⟨ad, c, e, _, hK, hc0⟩ := Kd.C_get h z24 i h0 h1
 have hc : ∀ j u, c[j]? = some u → w.cell? (ad.add (i.toNat * 4 + j)) = some u := hc0
 obtain rfl := k24_open hK
 exact ⟨ad, e, hc 0 _ rfl, by rw [← add_field _ _ 1 (by omega)]; exact hc 1 _ rfl, by rw [← add_field _ _ 2 (by omega)]; exact hc 2 _ rfl, by rw [← add_field _ _ 3 (by omega)]; exact hc 3 _ rfl⟩
structure S27 where
 f0 : Int
 f1 : S24
 f2 : Int
 f3 : (List S27)
def z27 : S27 := ⟨(0 : Int), z24, (0 : Int), ([] : List S27)⟩
def F27 (d : Kd S27) : Kd S27 := Kd.iso (Kd.pair (Kd.int .u8) (Kd.pair k24 (Kd.pair (Kd.int .i64) (Kd.slice 27 d)))) (fun x : S27 => (x.f0, x.f1, x.f2, x.f3))
theorem mono27 : Kd.Mono F27 := Kd.mono_iso _ (Kd.mono_pair (Kd.mono_const _) (Kd.mono_pair (Kd.mono_const _) (Kd.mono_pair (Kd.mono_const _) (Kd.mono_slice 27 Kd.mono_id))))
theorem sub27 : Kd.Sub F27 [27] := Kd.sub_iso _ (Kd.sub_pair (Kd.sub_const _ (by decide)) (Kd.sub_pair (Kd.sub_const _ (by decide)) (Kd.sub_pair (Kd.sub_const _ (by decide)) (Kd.sub_slice 27 (by decide) Kd.sub_id))))
theorem sz27 : ∀ n, (Kd.upto F27 7 [27] n).sz = 7 := Kd.upto_sz (fun _ => rfl)
def k27 : Kd S27 := Kd.fix F27 7 [27] sz27 (Kd.upto_E sub27)
theorem k27_heap : Kd.Heap k27 := Kd.heap_fix (fun _ h_ => Kd.heap_iso _ (Kd.heap_pair (Kd.heap_int .u8) (Kd.heap_pair k24_heap (Kd.heap_pair (Kd.heap_int .i64) (Kd.heap_slice 27 h_)))))
theorem k27_open {w : World} {x : S27} {cs : List Value} (h : k27.K w x cs) : ∃ A6 c6, cs = [.int .u8 x.f0, .int .i64 x.f1.f0, .int .i64 x.f1.f1, .int .i64 x.f1.f2, .int .i64 x.f1.f3, .int .i64 x.f2, .slice A6 x.f3.length c6] ∧ x.f3.length ≤ c6 ∧ k27.C w A6 x.f3.length x.f3 := by
 obtain ⟨n, h⟩ := h
 cases n with
 | zero => exact h.elim
 | succ n =>
  obtain ⟨_, _, rfl, rfl, ⟨_, _, rfl, s1, ⟨_, _, rfl, rfl, ⟨A6, c6, rfl, l6, g6⟩⟩⟩⟩ := h
  obtain rfl := k24_open s1
  exact ⟨A6, c6, rfl, l6, Kd.fix_C g6⟩
theorem k27_mk (w : World) (x : S27) {A6 : Option Addr} {c6 : Nat} (l6 : x.f3.length ≤ c6) (g6 : k27.C w A6 x.f3.length x.f3) : k27.K w x [.int .u8 x.f0, .int .i64 x.f1.f0, .int .i64 x.f1.f1, .int .i64 x.f1.f2, .int .i64 x.f1.f3, .int .i64 x.f2, .slice A6 x.f3.length c6] := by
 obtain ⟨n6, q6⟩ := Kd.fix_C_back mono27 g6
 have r6 := Kd.upto_C_le mono27 sz27 (show n6 ≤ n6 by omega) q6
 exact ⟨n6 + 1, ⟨[.int .u8 x.f0], [.int .i64 x.f1.f0, .int .i64 x.f1.f1, .int .i64 x.f1.f2, .int .i64 x.f1.f3, .int .i64 x.f2, .slice A6 x.f3.length c6], rfl, rfl, ⟨[.int .i64 x.f1.f0, .int .i64 x.f1.f1, .int .i64 x.f1.f2, .int .i64 x.f1.f3], [.int .i64 x.f2, .slice A6 x.f3.length c6], rfl, (k24_mk w x.f1 ), ⟨[.int .i64 x.f2], [.slice A6 x.f3.length c6], rfl, rfl, ⟨A6, c6, rfl, l6, r6⟩⟩⟩⟩⟩
theorem k27_mkM (w : World) (base : Nat) (ok : Nat → Prop) (x : S27) {v6 : Value} (g6 : k27.R 27 w base ok v6 x.f3) : k27.M w base ok x [.int .u8 x.f0, .int .i64 x.f1.f0, .int .i64 x.f1.f1, .int .i64 x.f1.f2, .int .i64 x.f1.f3, .int .i64 x.f2, v6] := by
 obtain ⟨n6, q6⟩ := Kd.fix_R_back mono27 g6
 have r6 := Kd.upto_R_le mono27 sz27 (show n6 ≤ n6 by omega) q6
 exact ⟨n6 + 1, ⟨[.int .u8 x.f0], [.int .i64 x.f1.f0, .int .i64 x.f1.f1, .int .i64 x.f1.f2, .int .i64 x.f1.f3, .int .i64 x.f2, v6], rfl, rfl, ⟨[.int .i64 x.f1.f0, .int .i64 x.f1.f1, .int .i64 x.f1.f2, .int .i64 x.f1.f3], [.int .i64 x.f2, v6], rfl, (k24_mkM w base ok x.f1 ), ⟨[.int .i64 x.f2], [v6], rfl, rfl, ⟨v6, rfl, r6⟩⟩⟩⟩⟩
theorem k27_openF {W : World} {ok : Nat → Prop} {x : S27} {cs : List Value} (h : Kd.FK k27 W ok x cs) : ∃ A6 c6, cs = [.int .u8 x.f0, .int .i64 x.f1.f0, .int .i64 x.f1.f1, .int .i64 x.f1.f2, .int .i64 x.f1.f3, .int .i64 x.f2, .slice A6 x.f3.length c6] ∧ x.f3.length ≤ c6 ∧ Kd.F k27 W ok A6 x.f3.length x.f3 := by
 obtain ⟨A6, c6, rfl, l6, _⟩ := k27_open (Kd.FK_now h)
 exact ⟨A6, c6, rfl, l6, (fun W' hW => by obtain ⟨A6_, c6_, he, l6_, g6_⟩ := k27_open (h W' hW); injection (Option.some.inj (show some (Value.slice A6 x.f3.length c6) = some (Value.slice A6_ x.f3.length c6_) from congrArg (fun l => l[6]?) he)) with ha_ _ _; rw [ha_]; exact g6_)⟩
theorem k27_mkF (W : World) (ok : Nat → Prop) (x : S27) {A6 : Option Addr} {c6 : Nat} (l6 : x.f3.length ≤ c6) (g6 : Kd.F k27 W ok A6 x.f3.length x.f3) : Kd.FK k27 W ok x [.int .u8 x.f0, .int .i64 x.f1.f0, .int .i64 x.f1.f1, .int .i64 x.f1.f2, .int .i64 x.f1.f3, .int .i64 x.f2, .slice A6 x.f3.length c6] := fun W2 hW => k27_mk W2 x l6 (g6 W2 hW)
def rd_T27 (xs : List S27) (i : Int) : S27 := xs.getD i.toNat z27
theorem at_T27 {w : World} {A : Option Addr} {n : Nat} {xs : List S27} (h : Kd.C k27 w A n xs) (i : Int) (h0 : 0 ≤ i) (h1 : i < n) : ∃ ad A6 c6, A = some ad ∧ w.cell? (ad.add (i.toNat * 7)) = some (.int .u8 (rd_T27 xs i).f0) ∧ w.cell? ⟨(ad.add (i.toNat * 7)).block, (ad.add (i.toNat * 7)).off + 1, none⟩ = some (.int .i64 (rd_T27 xs i).f1.f0) ∧ w.cell? ⟨(ad.add (i.toNat * 7)).block, (ad.add (i.toNat * 7)).off + 2, none⟩ = some (.int .i64 (rd_T27 xs i).f1.f1) ∧ w.cell? ⟨(ad.add (i.toNat * 7)).block, (ad.add (i.toNat * 7)).off + 3, none⟩ = some (.int .i64 (rd_T27 xs i).f1.f2) ∧ w.cell? ⟨(ad.add (i.toNat * 7)).block, (ad.add (i.toNat * 7)).off + 4, none⟩ = some (.int .i64 (rd_T27 xs i).f1.f3) ∧ w.cell? ⟨(ad.add (i.toNat * 7)).block, (ad.add (i.toNat * 7)).off + 5, none⟩ = some (.int .i64 (rd_T27 xs i).f2) ∧ w.cell? ⟨(ad.add (i.toNat * 7)).block, (ad.add (i.toNat * 7)).off + 6, none⟩ = some (.slice A6 (rd_T27 xs i).f3.length c6) ∧ (rd_T27 xs i).f3.length ≤ c6 ∧ k27.C w A6 (rd_T27 xs i).f3.length (rd_T27 xs i).f3 := by
 obtain ⟨ad, c, e, _, hK, hc0⟩ := Kd.C_get h z27 i h0 h1
 have hc : ∀ j u, c[j]? = some u → w.cell? (ad.add (i.toNat * 7 + j)) = some u := hc0
 obtain ⟨A6, c6, rfl, l6, g6⟩ := k27_open hK
 exact ⟨ad, A6, c6, e, hc 0 _ rfl, by rw [← add_field _ _ 1 (by omega)]; exact hc 1 _ rfl, by rw [← add_field _ _ 2 (by omega)]; exact hc 2 _ rfl, by rw [← add_field _ _ 3 (by omega)]; exact hc 3 _ rfl, by rw [← add_field _ _ 4 (by omega)]; exact hc 4 _ rfl, by rw [← add_field _ _ 5 (by omega)]; exact hc 5 _ rfl, by rw [← add_field _ _ 6 (by omega)]; exact hc 6 _ rfl, l6, g6⟩
end Go.Proofs.YtkobpbbegalfpaaGreatDoor.PParseBodies
namespace Go.Proofs.YtkobpbbegalfpaaGreatDoor
open Go.RowKit YtkobpbbegalfpaaGreatDoorW.PrintWords YtkobpbbegalfpaaGreatDoorW.PrintLast YtkobpbbegalfpaaGreatDoorW.PrintMore PParseBodies
set_option linter.unusedVariables false
theorem kW {p : Prop} (g : p := by repeat (first | (with_reducible first | exact HB.out | apply below_alloc | apply pw_below_drewN | apply below_drew1 | refine below_set ?_ (Aside0.out (by with_reducible assumption))) | exact HB.out)) : p := g
theorem kB {g : Nat} {o : Obj} {w0 w1 w2 : World} (x : Aside0 (w0.heap[g]? = some o)) (hb : Below w1.heap.size w1 w2) (h : w0.heap[g]? = some o → w1.heap[g]? = some o := by intro h; (with_reducible repeat (first | refine blk_drewN ?_ _ | refine blk_drew ?_ | refine blk_alloc ?_ _)); exact h) : Aside0 (w2.heap[g]? = some o) := ⟨blk_below (h x.out) hb⟩
theorem kE {g g2 : Nat} {o : Obj} {w0 w1 : World} (x : Aside0 (w0.heap[g]? = some o)) (hg : g2 = w1.heap.size) (h : w0.heap[g]? = some o → w1.heap[g]? = some o := by intro h; (with_reducible repeat (first | refine blk_drewN ?_ _ | refine blk_drew ?_ | refine blk_alloc ?_ _)); exact h) : Aside0 (g ≠ g2) := ⟨by have h1 := blk_lt (h x.out); omega⟩
theorem kE' {g g2 : Nat} {o : Obj} {w0 w1 : World} (x : Aside0 (w0.heap[g]? = some o)) (hg : g2 = w1.heap.size) (h : w0.heap[g]? = some o → w1.heap[g]? = some o := by intro h; (with_reducible repeat (first | refine blk_drewN ?_ _ | refine blk_drew ?_ | refine blk_alloc ?_ _)); exact h) : Aside0 (g2 ≠ g) := ⟨by have h1 := blk_lt (h x.out); omega⟩
theorem kR {p q : Prop} (x : Aside0 q) (g : q → p := by intro i1; (with_reducible repeat (first | apply Kd.R_alloc | apply Kd.R_drewN | apply Kd.R_drew)); exact i1) : p := g x.out
theorem kN {p q : Prop} (x : Aside0 q) (g : q → p := by intro i1; (with_reducible repeat (first | apply Kd.N_alloc | apply Kd.N_drewN | apply Kd.N_drew)); exact i1) : p := g x.out
theorem kA {p q : Prop} (x : Aside0 q) (g : q → p := by intro i1; (with_reducible repeat (first | refine blk_drewN ?_ _ | refine blk_drew ?_ | refine blk_alloc ?_ _)); exact i1) : p := g x.out
theorem kC {p q r : Prop} (hne : Aside0 q) (x : Aside0 r) (g : Aside0 q → r → p := by intro i h; (repeat (first | (with_reducible first | refine blk_drewN ?_ _ | refine blk_drew ?_ | refine blk_alloc ?_ _) | refine blk_far ?_ i.out _)); exact h) : p := g hne x.out
theorem kG {g : Nat} {o : Obj} {w0 w1 w2 : World} {row : Option Nat} (x : Aside0 (w0.heap[g]? = some o)) (hg : w1.grownBy w2 row) (hne : some g ≠ row) (h : w0.heap[g]? = some o → w1.heap[g]? = some o := by intro h; (with_reducible repeat (first | refine blk_drewN ?_ _ | refine blk_drew ?_ | refine blk_alloc ?_ _)); exact h) : Aside0 (w2.heap[g]? = some o) := ⟨blk_grown (h x.out) hg hne⟩
section
variable {P : Program} {ops : Array Oper} {rest : List Oper} {o : Oper} {a : Act} {Q : Exit → Act → World → Prop}
theorem bxe {W : World} (N : Tmp) (cs : Array Value) (t : TypeId) (hd : o.dst = some N := by rfl) (hgd : o.guard = none := by rfl)
  (hrun : (execOp a.eval o).run P W = .ok (.value (.pointer (some ⟨W.heap.size, 0, none⟩))) (W.alloc (.cells cs t (0, 0))) := by first | (go_simp; done) | (go_simp; rfl))
  (h : ∀ g, g = W.heap.size → ∀ w1, w1.heap[g]? = some (.cells cs t (0, 0)) → Below W.heap.size W w1 → wpList P ops Q rest (a.put o.dst (.pointer (some ⟨g, 0, none⟩))) w1) : wpList P ops Q (o :: rest) a W := box_event hgd hd hrun h
theorem gol {a : Act} {w : World} (N : Option Tmp) {f : FuncId} {fn : Func} (hf : P.funcs[f]? = some fn) {ar : Array Operand} {ts : Array TypeId} (args : Array Value) (hd : o.dst = N := by rfl) (hg : o.guard = none := by rfl) (hname : (fn.name == "runtime.NumGoroutine") = false := by kernel_rfl) (hb : fn.body.isSome = true := by rfl)
  (hop : o.op = .call { callee := .value (.func f), args := ar, argTypes := ts } := by rfl) (hargs : ar.map a.eval = args := by (try simp only [List.map_toArray, List.map_cons, List.map_nil]); first | done | rfl | (simp only [List.length_drop, List.length_take]; rfl))
  (h : Calls P f args w fun e w' => ∃ v, e = .returned v ∧ wpList P ops Q rest (a.put N v) w') : wpList P ops Q (o :: rest) a w := goesL_ N hd hg hf hname hb args hop hargs h
end
section
variable {P : Program} {ops : Array Oper} {Q : Exit → Act → World → Prop} {md : Region.Mode} {S : World → Prop} {ds : List Nat}
theorem pu (i : Nat) (N : Option Tmp) {oi : Oper} {v : Value} {fuel : Nat} {l : Array Bool} {a : Act} {w : World} (l' : Array Bool) (hi : ops[i]? = some oi := by rfl) (hN : oi.dst = N := by rfl) (hc : anyB md ops l l' i = true := by exact any_of HT_.out (by kernel_rfl))
  (hQ : ∀ c a w, Q (.panic c) (a.put oi.dst v) w → Q (.panic c) a w := by exact fun _ _ _ h => h) (hy : Yields P ops oi v a := by refine Or.inl ⟨by rfl, ?_⟩; intro w'; go_simp; with_reducible rfl) {a' : Act} (ha : a.put N v = a' := by simp only [Act.put, List.setIfInBounds_toArray, List.set_cons_zero, List.set_cons_succ, i64_w, i32_w]; rfl)
  (h : wpAnyLast P md ops Q S ds fuel l' a' w) : wpAnyLast P md ops Q S ds (fuel + 1) l a w := pure_ l' hi hN hc hQ hy ha h
theorem tk (i : Nat) (N : Option Tmp) {oi : Oper} {v : Value} {fuel : Nat} {l : Array Bool} {a : Act} {w : World} (l' : Array Bool) (hi : ops[i]? = some oi := by rfl) (hN : oi.dst = N := by rfl) (hc : takeB md ops ds l l' i = true := by exact take_ofW HT_.out HW_.out (by kernel_rfl))
  (hQ : ∀ c a w, Q (.panic c) (a.put oi.dst v) w → Q (.panic c) a w := by exact fun _ _ _ h => h) (hS : S w := by exact hHeld) (hy : YieldsIf P ops S oi v a := by refine Or.inl ⟨by rfl, ?_⟩; intro w' hS_; repeat (have s_ := hS_.1; replace hS_ := hS_.2); go_simp; with_reducible rfl) {a' : Act} (ha : a.put N v = a' := by simp only [Act.put, List.setIfInBounds_toArray, List.set_cons_zero, List.set_cons_succ, i64_w, i32_w]; rfl)
  (h : wpAnyLast P md ops Q S ds fuel l' a' w) : wpAnyLast P md ops Q S ds (fuel + 1) l a w := take_ l' hi hN hc hQ hy hS ha h
end
section
variable {P : Program} {ops : Array Oper} {Q : Exit → Act → World → Prop} {md : Region.Mode} {S : World → Prop} {ds : List Nat}
theorem pu2 (i : Nat) (N : Option Tmp) {oi : Oper} {v : Value} {fuel : Nat} {l : Array Bool} {a : Act} {w : World} (l' : Array Bool) (hi : ops[i]? = some oi := by rfl) (hN : oi.dst = N := by rfl) (hc : anyB md ops l l' i = true := by kernel_rfl)
  (hQ : ∀ c a w, Q (.panic c) (a.put oi.dst v) w → Q (.panic c) a w := by exact fun _ _ _ h => h) (hy : Yields P ops oi v a := by refine Or.inl ⟨by rfl, ?_⟩; intro w'; go_simp; with_reducible rfl) {a' : Act} (ha : a.put N v = a' := by simp only [Act.put, List.setIfInBounds_toArray, List.set_cons_zero, List.set_cons_succ, i64_w, i32_w]; rfl)
  (h : wpAnyLast P md ops Q S ds fuel l' a' w) : wpAnyLast P md ops Q S ds (fuel + 1) l a w := pure_ l' hi hN hc hQ hy ha h
theorem tk2 (i : Nat) (N : Option Tmp) {oi : Oper} {v : Value} {fuel : Nat} {l : Array Bool} {a : Act} {w : World} (l' : Array Bool) (hi : ops[i]? = some oi := by rfl) (hN : oi.dst = N := by rfl) (hc : takeB md ops ds l l' i = true := by kernel_rfl)
  (hQ : ∀ c a w, Q (.panic c) (a.put oi.dst v) w → Q (.panic c) a w := by exact fun _ _ _ h => h) (hS : S w := by exact hHeld) (hy : YieldsIf P ops S oi v a := by refine Or.inl ⟨by rfl, ?_⟩; intro w' hS_; repeat (have s_ := hS_.1; replace hS_ := hS_.2); go_simp; with_reducible rfl) {a' : Act} (ha : a.put N v = a' := by simp only [Act.put, List.setIfInBounds_toArray, List.set_cons_zero, List.set_cons_succ, i64_w, i32_w]; rfl)
  (h : wpAnyLast P md ops Q S ds fuel l' a' w) : wpAnyLast P md ops Q S ds (fuel + 1) l a w := take_ l' hi hN hc hQ hy hS ha h
end
theorem elC27 {w W : World} {A : Option Addr} {n : Nat} {xs : List S27} (HB : Aside0 (Below w.heap.size w W)) (HR : Aside0 (Kd.C k27 w A n xs)) (i : Int) (h0 : 0 ≤ i) (h1 : i < n) : ∃ ad A6 c6, A = some ad ∧ W.cell? (ad.add (i.toNat * 7)) = some (.int .u8 (rd_T27 xs i).f0) ∧ W.cell? ⟨(ad.add (i.toNat * 7)).block, (ad.add (i.toNat * 7)).off + 1, none⟩ = some (.int .i64 (rd_T27 xs i).f1.f0) ∧ W.cell? ⟨(ad.add (i.toNat * 7)).block, (ad.add (i.toNat * 7)).off + 2, none⟩ = some (.int .i64 (rd_T27 xs i).f1.f1) ∧ W.cell? ⟨(ad.add (i.toNat * 7)).block, (ad.add (i.toNat * 7)).off + 3, none⟩ = some (.int .i64 (rd_T27 xs i).f1.f2) ∧ W.cell? ⟨(ad.add (i.toNat * 7)).block, (ad.add (i.toNat * 7)).off + 4, none⟩ = some (.int .i64 (rd_T27 xs i).f1.f3) ∧ W.cell? ⟨(ad.add (i.toNat * 7)).block, (ad.add (i.toNat * 7)).off + 5, none⟩ = some (.int .i64 (rd_T27 xs i).f2) ∧ W.cell? ⟨(ad.add (i.toNat * 7)).block, (ad.add (i.toNat * 7)).off + 6, none⟩ = some (.slice A6 (rd_T27 xs i).f3.length c6) ∧ Aside0 ((rd_T27 xs i).f3.length ≤ c6) ∧ Aside0 (k27.C w A6 (rd_T27 xs i).f3.length (rd_T27 xs i).f3) := by
 obtain ⟨ad, A6, c6, e, x0, x1, x2, x3, x4, x5, x6, l, g⟩ := at_T27 HR.out i h0 h1
 exact ⟨ad, A6, c6, e, (HB.out.cell (World.block_lt_of_cell? w _ x0)).trans x0, (HB.out.cell (World.block_lt_of_cell? w _ x1)).trans x1, (HB.out.cell (World.block_lt_of_cell? w _ x2)).trans x2, (HB.out.cell (World.block_lt_of_cell? w _ x3)).trans x3, (HB.out.cell (World.block_lt_of_cell? w _ x4)).trans x4, (HB.out.cell (World.block_lt_of_cell? w _ x5)).trans x5, (HB.out.cell (World.block_lt_of_cell? w _ x6)).trans x6, ⟨l⟩, ⟨g⟩⟩
theorem elN27 {w : World} {A : Option Addr} {n c base0 : Nat} {ok : Nat → Prop} {xs : List S27} (base : Nat) (HO : Aside0 (Kd.N k27 27 w base0 ok (.slice A n c) xs)) (i : Int) (h0 : 0 ≤ i) (h1 : i < (xs.length : Int)) : ∃ ad A6 c6, A = some ad ∧ w.cell? (ad.add (i.toNat * 7)) = some (.int .u8 (rd_T27 xs i).f0) ∧ w.cell? ⟨(ad.add (i.toNat * 7)).block, (ad.add (i.toNat * 7)).off + 1, none⟩ = some (.int .i64 (rd_T27 xs i).f1.f0) ∧ w.cell? ⟨(ad.add (i.toNat * 7)).block, (ad.add (i.toNat * 7)).off + 2, none⟩ = some (.int .i64 (rd_T27 xs i).f1.f1) ∧ w.cell? ⟨(ad.add (i.toNat * 7)).block, (ad.add (i.toNat * 7)).off + 3, none⟩ = some (.int .i64 (rd_T27 xs i).f1.f2) ∧ w.cell? ⟨(ad.add (i.toNat * 7)).block, (ad.add (i.toNat * 7)).off + 4, none⟩ = some (.int .i64 (rd_T27 xs i).f1.f3) ∧ w.cell? ⟨(ad.add (i.toNat * 7)).block, (ad.add (i.toNat * 7)).off + 5, none⟩ = some (.int .i64 (rd_T27 xs i).f2) ∧ w.cell? ⟨(ad.add (i.toNat * 7)).block, (ad.add (i.toNat * 7)).off + 6, none⟩ = some (.slice A6 (rd_T27 xs i).f3.length c6) ∧ Aside0 ((rd_T27 xs i).f3.length ≤ c6) ∧ Aside0 (k27.C w A6 (rd_T27 xs i).f3.length (rd_T27 xs i).f3) ∧ Aside0 (Kd.V k27 27 w base (fun k => ok k ∧ some k ≠ (Value.slice A n c).ownBlock) (.slice A6 (rd_T27 xs i).f3.length c6) (rd_T27 xs i).f3) := by
 have hn := (Kd.N_reads' HO.out).1
 obtain ⟨ad, A6, c6, e, x0, x1, x2, x3, x4, x5, x6, l, g⟩ := at_T27 (Kd.N_reads' HO.out).2.2 i h0 h1
 subst e
 obtain ⟨ce, -, hMe, hcc⟩ := Kd.N_get HO.out z27 i h0 (by omega)
 obtain ⟨ua, uc, rfl, ul, ge⟩ := k27_openF hMe
 have hv := hcc 6 _ rfl
 rw [add_field _ _ 6 (by omega)] at hv
 replace hv := Option.some.inj (hv.symm.trans x6)
 injection hv with hva _ hvc
 rw [hva] at ge
 rw [hvc] at ul
 exact ⟨ad, A6, c6, rfl, x0, x1, x2, x3, x4, x5, x6, ⟨l⟩, ⟨g⟩, ⟨Kd.V_mk ul ge⟩⟩
theorem cz4 {W : World} {b t : Nat} {v0 v1 v2 v3 : Value} (h : Aside0 (W.heap[b]? = some (.cells #[v0, v1, v2, v3] t (0, 0)))) : W.cell? ⟨b, 0, none⟩ = some v0 ∧ W.cell? ⟨b, 1, none⟩ = some v1 ∧ W.cell? ⟨b, 2, none⟩ = some v2 ∧ W.cell? ⟨b, 3, none⟩ = some v3 := ⟨(blk_cell h.out 0).trans rfl, (blk_cell h.out 1).trans rfl, (blk_cell h.out 2).trans rfl, (blk_cell h.out 3).trans rfl⟩
theorem cz7 {W : World} {b t : Nat} {v0 v1 v2 v3 v4 v5 v6 : Value} (h : Aside0 (W.heap[b]? = some (.cells #[v0, v1, v2, v3, v4, v5, v6] t (0, 0)))) : W.cell? ⟨b, 0, none⟩ = some v0 ∧ W.cell? ⟨b, 1, none⟩ = some v1 ∧ W.cell? ⟨b, 2, none⟩ = some v2 ∧ W.cell? ⟨b, 3, none⟩ = some v3 ∧ W.cell? ⟨b, 4, none⟩ = some v4 ∧ W.cell? ⟨b, 5, none⟩ = some v5 ∧ W.cell? ⟨b, 6, none⟩ = some v6 := ⟨(blk_cell h.out 0).trans rfl, (blk_cell h.out 1).trans rfl, (blk_cell h.out 2).trans rfl, (blk_cell h.out 3).trans rfl, (blk_cell h.out 4).trans rfl, (blk_cell h.out 5).trans rfl, (blk_cell h.out 6).trans rfl⟩
theorem fz4 {W : World} {b t : Nat} {cs : Array Value} (h : Aside0 (W.heap[b]? = some (.cells cs t (0, 0)))) : W.frozen? ⟨b, 0, none⟩ = false ∧ W.frozen? ⟨b, 1, none⟩ = false ∧ W.frozen? ⟨b, 2, none⟩ = false ∧ W.frozen? ⟨b, 3, none⟩ = false := ⟨blk_frozen h.out 0, blk_frozen h.out 1, blk_frozen h.out 2, blk_frozen h.out 3⟩
theorem fz7 {W : World} {b t : Nat} {cs : Array Value} (h : Aside0 (W.heap[b]? = some (.cells cs t (0, 0)))) : W.frozen? ⟨b, 0, none⟩ = false ∧ W.frozen? ⟨b, 1, none⟩ = false ∧ W.frozen? ⟨b, 2, none⟩ = false ∧ W.frozen? ⟨b, 3, none⟩ = false ∧ W.frozen? ⟨b, 4, none⟩ = false ∧ W.frozen? ⟨b, 5, none⟩ = false ∧ W.frozen? ⟨b, 6, none⟩ = false := ⟨blk_frozen h.out 0, blk_frozen h.out 1, blk_frozen h.out 2, blk_frozen h.out 3, blk_frozen h.out 4, blk_frozen h.out 5, blk_frozen h.out 6⟩
theorem put4 {w : World} {g t : Nat} {o0 o1 o2 o3 v0 v1 v2 v3 : Value} (h0 : w.heap[g]? = some (.cells #[o0, o1, o2, o3] t (0, 0))) : ((((w.setCell ⟨g, 0, none⟩ v0).setCell ⟨g, 1, none⟩ v1).setCell ⟨g, 2, none⟩ v2).setCell ⟨g, 3, none⟩ v3).heap[g]? = some (.cells #[v0, v1, v2, v3] t (0, 0)) := by
 have h1 := blk_put (cs' := #[v0, o1, o2, o3]) h0 0 v0 rfl
 have h2 := blk_put (cs' := #[v0, v1, o2, o3]) h1 1 v1 rfl
 have h3 := blk_put (cs' := #[v0, v1, v2, o3]) h2 2 v2 rfl
 have h4 := blk_put (cs' := #[v0, v1, v2, v3]) h3 3 v3 rfl
 exact h4
theorem kP4 {p : Prop} {w0 w : World} {g t : Nat} {o0 o1 o2 o3 v0 v1 v2 v3 : Value} (x : Aside0 (w0.heap[g]? = some (.cells #[o0, o1, o2, o3] t (0, 0)))) (k : ((((w.setCell ⟨g, 0, none⟩ v0).setCell ⟨g, 1, none⟩ v1).setCell ⟨g, 2, none⟩ v2).setCell ⟨g, 3, none⟩ v3).heap[g]? = some (.cells #[v0, v1, v2, v3] t (0, 0)) → p := by intro i1; (with_reducible repeat (first | refine blk_drewN ?_ _ | refine blk_drew ?_ | refine blk_alloc ?_ _)); exact i1) (h : w0.heap[g]? = some (.cells #[o0, o1, o2, o3] t (0, 0)) → w.heap[g]? = some (.cells #[o0, o1, o2, o3] t (0, 0)) := by intro i1; (with_reducible repeat (first | refine blk_drewN ?_ _ | refine blk_drew ?_ | refine blk_alloc ?_ _)); exact i1) : p := k (put4 (h x.out))
theorem put7 {w : World} {g t : Nat} {o0 o1 o2 o3 o4 o5 o6 v0 v1 v2 v3 v4 v5 v6 : Value} (h0 : w.heap[g]? = some (.cells #[o0, o1, o2, o3, o4, o5, o6] t (0, 0))) : (((((((w.setCell ⟨g, 0, none⟩ v0).setCell ⟨g, 1, none⟩ v1).setCell ⟨g, 2, none⟩ v2).setCell ⟨g, 3, none⟩ v3).setCell ⟨g, 4, none⟩ v4).setCell ⟨g, 5, none⟩ v5).setCell ⟨g, 6, none⟩ v6).heap[g]? = some (.cells #[v0, v1, v2, v3, v4, v5, v6] t (0, 0)) := by
 have h1 := blk_put (cs' := #[v0, o1, o2, o3, o4, o5, o6]) h0 0 v0 rfl
 have h2 := blk_put (cs' := #[v0, v1, o2, o3, o4, o5, o6]) h1 1 v1 rfl
 have h3 := blk_put (cs' := #[v0, v1, v2, o3, o4, o5, o6]) h2 2 v2 rfl
 have h4 := blk_put (cs' := #[v0, v1, v2, v3, o4, o5, o6]) h3 3 v3 rfl
 have h5 := blk_put (cs' := #[v0, v1, v2, v3, v4, o5, o6]) h4 4 v4 rfl
 have h6 := blk_put (cs' := #[v0, v1, v2, v3, v4, v5, o6]) h5 5 v5 rfl
 have h7 := blk_put (cs' := #[v0, v1, v2, v3, v4, v5, v6]) h6 6 v6 rfl
 exact h7
theorem kP7 {p : Prop} {w0 w : World} {g t : Nat} {o0 o1 o2 o3 o4 o5 o6 v0 v1 v2 v3 v4 v5 v6 : Value} (x : Aside0 (w0.heap[g]? = some (.cells #[o0, o1, o2, o3, o4, o5, o6] t (0, 0)))) (k : (((((((w.setCell ⟨g, 0, none⟩ v0).setCell ⟨g, 1, none⟩ v1).setCell ⟨g, 2, none⟩ v2).setCell ⟨g, 3, none⟩ v3).setCell ⟨g, 4, none⟩ v4).setCell ⟨g, 5, none⟩ v5).setCell ⟨g, 6, none⟩ v6).heap[g]? = some (.cells #[v0, v1, v2, v3, v4, v5, v6] t (0, 0)) → p := by intro i1; (with_reducible repeat (first | refine blk_drewN ?_ _ | refine blk_drew ?_ | refine blk_alloc ?_ _)); exact i1) (h : w0.heap[g]? = some (.cells #[o0, o1, o2, o3, o4, o5, o6] t (0, 0)) → w.heap[g]? = some (.cells #[o0, o1, o2, o3, o4, o5, o6] t (0, 0)) := by intro i1; (with_reducible repeat (first | refine blk_drewN ?_ _ | refine blk_drew ?_ | refine blk_alloc ?_ _)); exact i1) : p := k (put7 (h x.out))
theorem rf4 {α : Type} {d : Kd α} {e base : Nat} {ok : Nat → Prop} {w : World} {v : Value} {xs : List α} {g : Nat} {v0 v1 v2 v3 : Value} (h : d.R e w base ok v xs) (hok : ∀ k, ok k → k ≠ g) : d.R e ((((w.setCell ⟨g, 0, none⟩ v0).setCell ⟨g, 1, none⟩ v1).setCell ⟨g, 2, none⟩ v2).setCell ⟨g, 3, none⟩ v3) base ok v xs := (Kd.R_far (p := ⟨g, 3, none⟩) (Kd.R_far (p := ⟨g, 2, none⟩) (Kd.R_far (p := ⟨g, 1, none⟩) (Kd.R_far (p := ⟨g, 0, none⟩) h hok v0) hok v1) hok v2) hok v3)
theorem rf7 {α : Type} {d : Kd α} {e base : Nat} {ok : Nat → Prop} {w : World} {v : Value} {xs : List α} {g : Nat} {v0 v1 v2 v3 v4 v5 v6 : Value} (h : d.R e w base ok v xs) (hok : ∀ k, ok k → k ≠ g) : d.R e (((((((w.setCell ⟨g, 0, none⟩ v0).setCell ⟨g, 1, none⟩ v1).setCell ⟨g, 2, none⟩ v2).setCell ⟨g, 3, none⟩ v3).setCell ⟨g, 4, none⟩ v4).setCell ⟨g, 5, none⟩ v5).setCell ⟨g, 6, none⟩ v6) base ok v xs := (Kd.R_far (p := ⟨g, 6, none⟩) (Kd.R_far (p := ⟨g, 5, none⟩) (Kd.R_far (p := ⟨g, 4, none⟩) (Kd.R_far (p := ⟨g, 3, none⟩) (Kd.R_far (p := ⟨g, 2, none⟩) (Kd.R_far (p := ⟨g, 1, none⟩) (Kd.R_far (p := ⟨g, 0, none⟩) h hok v0) hok v1) hok v2) hok v3) hok v4) hok v5) hok v6)
theorem mq2 {p : Prop} (g : p := by (try simp only [List.map_toArray, List.map_cons, List.map_nil]); first | done | rfl | (simp only [List.length_drop, List.length_take]; rfl)) : p := g
theorem mq3 {p q1 : Prop} (x1 : Aside0 q1) (g : Aside0 q1 → p := by intro i1; (with_reducible repeat (first | apply Kd.N_alloc | apply Kd.N_drewN | apply Kd.N_drew)); exact Kd.N_mono i1.out (fun _ hk => ⟨hk.1.1, ⟨hk.2, hk.1.2⟩⟩)) : p := g x1
theorem mq4 {p q1 : Prop} (x1 : Aside0 q1) (g : Aside0 q1 → p := by intro i1; (with_reducible repeat (first | apply Kd.N_alloc | apply Kd.N_drewN | apply Kd.N_drew)); exact Kd.N_mono i1.out (fun _ hk => ⟨⟨hk.1, hk.2.2⟩, hk.2.1⟩)) : p := g x1
theorem mq5 {p q1 : Prop} (x1 : Aside0 q1) (g : Aside0 q1 → p := by intro i1; (with_reducible repeat (first | apply Kd.N_alloc | apply Kd.N_drewN | apply Kd.N_drew)); exact i1.out) : p := g x1
theorem mq7 {p q1 : Prop} (x1 : Aside0 q1) (g : Aside0 q1 → p := by intro i1; (with_reducible repeat (first | apply Kd.R_alloc | apply Kd.R_drewN | apply Kd.R_drew)); exact (Kd.R_mono (rf4 (g := gb118) (Kd.R_mono i1.out (fun k_ hk => (⟨hk, hk.2⟩ : _ ∧ k_ ≠ gb118))) (fun _ hk => hk.2)) (fun _ h_ => h_.1))) : p := g x1
theorem mq8 {p q1 q2 : Prop} (x1 : Aside0 q1) (x2 : Aside0 q2) (g : Aside0 q1 → Aside0 q2 → p := by intro i1 i2; (with_reducible repeat (first | apply Kd.R_alloc | apply Kd.R_drewN | apply Kd.R_drew)); exact (Kd.R_mono (rf7 (g := gb153) (Kd.R_types i1.out i2.out (by decide)) (fun _ hk => hk.2)) (fun _ h_ => h_.1))) : p := g x1 x2
theorem mq11 {p q1 : Prop} (x1 : Aside0 q1) (g : Aside0 q1 → p := by intro i1; (with_reducible repeat (first | apply Kd.R_alloc | apply Kd.R_drewN | apply Kd.R_drew)); exact Kd.R_mono (rf4 (g := gb118) (Kd.R_mono i1.out (fun k_ hk => (⟨hk, hk.2⟩ : _ ∧ k_ ≠ gb118))) (fun _ hk => hk.2)) (fun _ hk => ⟨hk.1.1.1, ⟨hk.1.1.2.1, ⟨hk.1.1.2.2, hk.1.2⟩⟩⟩)) : p := g x1
theorem mq12 {p q1 : Prop} (x1 : Aside0 q1) (g : Aside0 q1 → p := by intro i1; (with_reducible repeat (first | apply Kd.R_alloc | apply Kd.R_drewN | apply Kd.R_drew)); exact Kd.R_mono (rf4 (g := gb118) (Kd.R_mono i1.out (fun k_ hk => (⟨hk, hk.2⟩ : _ ∧ k_ ≠ gb118))) (fun _ hk => hk.2)) (fun _ hk => ⟨⟨hk.1.1.2.1, ⟨hk.1.1.2.2, hk.1.2⟩⟩, hk.1.1.1⟩)) : p := g x1
theorem mq13 {p q1 q2 : Prop} (x1 : Aside0 q1) (x2 : Aside0 q2) (g : Aside0 q1 → Aside0 q2 → p := by intro i1 i2; (with_reducible repeat (first | apply Kd.R_alloc | apply Kd.R_drewN | apply Kd.R_drew)); exact Kd.R_mono (rf7 (g := gb142) (Kd.R_types i1.out i2.out (by decide)) (fun _ hk => hk.2)) (fun _ hk => trivial)) : p := g x1 x2
theorem mq14 {p q1 : Prop} (x1 : Aside0 q1) (g : Aside0 q1 → p := by intro i1; (with_reducible repeat (first | apply Kd.R_alloc | apply Kd.R_drewN | apply Kd.R_drew)); exact Kd.R_mono i1.out (fun _ hk => hk.1)) : p := g x1
theorem mq15 {p q1 : Prop} (x1 : Aside0 q1) (g : Aside0 q1 → p := by intro i1; (with_reducible repeat (first | apply Kd.R_alloc | apply Kd.R_drewN | apply Kd.R_drew)); exact Kd.R_mono i1.out (fun _ hk => hk.2)) : p := g x1
theorem mq16 {p q1 : Prop} (x1 : Aside0 q1) (g : Aside0 q1 → p := by intro i1; (with_reducible repeat (first | apply Kd.R_alloc | apply Kd.R_drewN | apply Kd.R_drew)); exact Kd.R_mono i1.out (fun _ hk => trivial)) : p := g x1
theorem mq17 {p q1 : Prop} (x1 : Aside0 q1) (g : Aside0 q1 → p := by intro i1; (with_reducible repeat (first | apply Kd.R_alloc | apply Kd.R_drewN | apply Kd.R_drew)); exact Kd.R_mono i1.out (fun _ hk => ⟨hk.1, ⟨hk.2.1, hk.2.2.1⟩⟩)) : p := g x1
theorem mq18 {p q1 : Prop} (x1 : Aside0 q1) (g : Aside0 q1 → p := by intro i1; (with_reducible repeat (first | apply Kd.R_alloc | apply Kd.R_drewN | apply Kd.R_drew)); exact Kd.R_mono i1.out (fun _ hk => ⟨hk.1.1, hk.2⟩)) : p := g x1
theorem mq19 {p q1 : Prop} (x1 : Aside0 q1) (g : Aside0 q1 → p := by intro i1; (with_reducible repeat (first | apply Kd.R_alloc | apply Kd.R_drewN | apply Kd.R_drew)); exact Kd.R_mono i1.out (fun _ hk => ⟨hk.1.1, ⟨hk.1.2.1, ⟨hk.2, hk.1.2.2⟩⟩⟩)) : p := g x1
theorem mq20 {p q1 : Prop} (x1 : Aside0 q1) (g : Aside0 q1 → p := by intro i1; (with_reducible repeat (first | apply Kd.R_alloc | apply Kd.R_drewN | apply Kd.R_drew)); exact Kd.R_mono i1.out (fun _ hk => ⟨hk.1.1, ⟨hk.2, ⟨hk.1.2.1, hk.1.2.2⟩⟩⟩)) : p := g x1
theorem mq21 {p q1 : Prop} (x1 : Aside0 q1) (g : Aside0 q1 → p := by intro i1; (with_reducible repeat (first | apply Kd.R_alloc | apply Kd.R_drewN | apply Kd.R_drew)); exact Kd.R_mono i1.out (fun _ hk => ⟨hk.2, ⟨hk.1.1, hk.1.2.1⟩⟩)) : p := g x1
theorem mq22 {p q1 : Prop} (x1 : Aside0 q1) (g : Aside0 q1 → p := by intro i1; (with_reducible repeat (first | apply Kd.R_alloc | apply Kd.R_drewN | apply Kd.R_drew)); exact Kd.R_mono i1.out (fun _ hk => ⟨⟨hk.1, ⟨hk.2.1, hk.2.2.2⟩⟩, hk.2.2.1⟩)) : p := g x1
theorem mq23 {p q1 : Prop} (x1 : Aside0 q1) (g : Aside0 q1 → p := by intro i1; (with_reducible repeat (first | apply Kd.R_alloc | apply Kd.R_drewN | apply Kd.R_drew)); exact Kd.R_mono i1.out (fun _ hk => ⟨⟨hk.1, ⟨hk.2.2.1, hk.2.2.2⟩⟩, hk.2.1⟩)) : p := g x1
theorem mq24 {p q1 : Prop} (x1 : Aside0 q1) (g : Aside0 q1 → p := by intro i1; (with_reducible repeat (first | apply Kd.R_alloc | apply Kd.R_drewN | apply Kd.R_drew)); exact i1.out) : p := g x1
theorem mq25 {p q1 : Prop} (x1 : Aside0 q1) (g : Aside0 q1 → p := by intro i1; (with_reducible repeat (first | apply Kd.V_alloc | apply Kd.V_drewN | apply Kd.V_drew)); exact Kd.V_mono i1.out (fun _ hk => ⟨hk.1, hk.2.2⟩)) : p := g x1
theorem mq26 {p q1 : Prop} (x1 : Aside0 q1) (g : Aside0 q1 → p := by intro i1; (with_reducible repeat (first | apply Kd.V_alloc | apply Kd.V_drewN | apply Kd.V_drew)); exact Kd.V_mono i1.out (fun _ hk => ⟨⟨hk.1.1, ⟨hk.2, hk.1.2.2⟩⟩, hk.1.2.1⟩)) : p := g x1
theorem mq27 {p q1 : Prop} (x1 : Aside0 q1) (g : Aside0 q1 → p := by intro i1; (with_reducible repeat (first | apply Kd.V_alloc | apply Kd.V_drewN | apply Kd.V_drew)); exact i1.out) : p := g x1
theorem mq28 {p q1 : Prop} (x1 : Aside0 q1) (g : Aside0 q1 → p := by intro i1; (with_reducible repeat (first | refine blk_drewN ?_ _ | refine blk_drew ?_ | refine blk_alloc ?_ _)); exact i1.out) : p := g x1
theorem mq31 {p : Prop} (g : p := by first | (go_simp; done) | (go_simp; rfl)) : p := g
theorem mq32 {p q1 : Prop} (x1 : q1) (g : q1 → p := by intro i1; first | (rw [i1] at H; exact H) | (simp only [i1] at H ⊢; exact H)) : p := g x1
theorem mq33 {p q1 : Prop} (x1 : q1) (g : q1 → p := by intro i1; first | (rw [i1]; with_reducible exact H) | (have H2_ := (Option.bind_some _ _).symm.trans H; rw [i1]; with_reducible exact H2_) | (have H2_ := (Option.bind_some _ _).symm.trans H; with_reducible exact H2_) | with_reducible exact H | (rw [i1]; exact H) | exact H) : p := g x1
theorem mq34 {p : Prop} (g : p := by first | (with_reducible assumption) | assumption) : p := g
theorem mq35 {p : Prop} (g : p := by first | exact Kd.R_nil _ _ _ _ _ | exact Kd.N_nil _ _ _ _ _ | exact Kd.V_nil _ _ _ _ _ | exact Kd.Q_nil _ _ _ _ _ | exact Kd.S_nil _ _ _ _ _) : p := g
theorem mq36 {p : Prop} (g : p := by first | omega | exact Nat.le_refl _) : p := g
theorem mq37 {p : Prop} (g : p := by first | rfl | (simp [errW_none, errW_some] <;> rfl) | (simp [*, errW_none, errW_some] <;> rfl)) : p := g
theorem mq39 {p : Prop} (g : p := by first | rfl | (simp; done) | (simp [*]; done)) : p := g
theorem mq40 {p q1 : Prop} (x1 : Aside0 q1) (g : Aside0 q1 → p := by intro i1; have := i1.out; first | omega | exact Nat.le_refl _) : p := g x1
theorem mq42 {p q1 q2 q3 : Prop} (x1 : Aside0 q1) (x2 : Aside0 q2) (x3 : Aside0 q3) (g : Aside0 q1 → Aside0 q2 → Aside0 q3 → p := by intro i1 i2 i3; have := i1.out; have := i2.out; have := i3.out; first | omega | exact Nat.le_refl _) : p := g x1 x2 x3
theorem mq43 {p q1 q2 q3 q4 : Prop} (x1 : Aside0 q1) (x2 : Aside0 q2) (x3 : Aside0 q3) (x4 : Aside0 q4) (g : Aside0 q1 → Aside0 q2 → Aside0 q3 → Aside0 q4 → p := by intro i1 i2 i3 i4; have := i1.out; have := i2.out; have := i3.out; have := i4.out; first | omega | exact Nat.le_refl _) : p := g x1 x2 x3 x4
theorem mq44 {p q1 q2 q3 q4 q5 : Prop} (x1 : Aside0 q1) (x2 : Aside0 q2) (x3 : Aside0 q3) (x4 : Aside0 q4) (x5 : Aside0 q5) (g : Aside0 q1 → Aside0 q2 → Aside0 q3 → Aside0 q4 → Aside0 q5 → p := by intro i1 i2 i3 i4 i5; have := i1.out; have := i2.out; have := i3.out; have := i4.out; have := i5.out; omega) : p := g x1 x2 x3 x4 x5
theorem mq45 {p q1 q2 q3 : Prop} (x1 : Aside0 q1) (x2 : Aside0 q2) (x3 : Aside0 q3) (g : Aside0 q1 → Aside0 q2 → Aside0 q3 → p := by intro i1 i2 i3; have := i1.out; have := i2.out; have := i3.out; omega) : p := g x1 x2 x3
theorem mq46 {p q1 q2 : Prop} (x1 : Aside0 q1) (x2 : Aside0 q2) (g : Aside0 q1 → Aside0 q2 → p := by intro i1 i2; have := i1.out; have := i2.out; omega) : p := g x1 x2
theorem mq47 {p q1 : Prop} (x1 : Aside0 q1) (g : Aside0 q1 → p := by intro i1; have := i1.out; omega) : p := g x1
theorem mq48 {p q1 : Prop} (x1 : Aside0 q1) (g : Aside0 q1 → p := by intro i1; repeat (first | (with_reducible exact i1.out) | (with_reducible refine Kd.C_alloc ?_ _) | (with_reducible refine Kd.C_drewN ?_ _) | (with_reducible refine Kd.C_drew ?_) | exact i1.out)) : p := g x1
theorem mq52 {p : Prop} (g : p := by repeat (first | exact Drawn0.refl _ | apply Drawn0.step)) : p := g
theorem mq53 {p : Prop} (g : p := by rw [hg]; exact (below_size kW)) : p := g
theorem mq54 {p : Prop} (g : p := by rw [if_neg (show ¬ (false = true) by decide)] at H; exact H) : p := g
theorem mq55 {p : Prop} (g : p := by rw [if_pos rfl] at H; exact H) : p := g
end Go.Proofs.YtkobpbbegalfpaaGreatDoor
namespace Go.Proofs.YtkobpbbegalfpaaGreatDoor
open Go.RowKit YtkobpbbegalfpaaGreatDoorW.PrintWords YtkobpbbegalfpaaGreatDoorW.PrintLast YtkobpbbegalfpaaGreatDoorW.PrintMore
structure Keeps (ok : Nat → Prop) (w w' : World) : Prop where
 os : w'.os = w.os
 tape : w'.tape = w.tape
 output : w'.output = w.output
 size : w.heap.size ≤ w'.heap.size
 block : ∀ k, k < w.heap.size → ¬ ok k → w'.heap[k]? = w.heap[k]?
theorem Keeps.refl (ok : Nat → Prop) (w : World) : Keeps ok w w := ⟨rfl, rfl, rfl, Nat.le_refl _, fun _ _ _ => rfl⟩
theorem Keeps.trans {ok : Nat → Prop} {a b c : World} (h : Keeps ok a b) (k : Keeps ok b c) : Keeps ok a c :=
 ⟨k.os.trans h.os, k.tape.trans h.tape, k.output.trans h.output, Nat.le_trans h.size k.size, fun i hi hn => (k.block i (Nat.lt_of_lt_of_le hi h.size) hn).trans (h.block i hi hn)⟩
theorem Keeps.below {ok : Nat → Prop} {a b c : World} (h : Keeps ok a b) (k : Below b.heap.size b c) : Keeps ok a c :=
 ⟨k.os.trans h.os, k.tape.trans h.tape, k.output.trans h.output, Nat.le_trans h.size k.size, fun i hi hn => (k.block i (Nat.lt_of_lt_of_le hi h.size)).trans (h.block i hi hn)⟩
theorem Keeps.alloc {ok : Nat → Prop} {a b : World} (h : Keeps ok a b) (o : Obj) : Keeps ok a (b.alloc o) := h.below (below_alloc (Below.refl _ _) o)
theorem Keeps.drew {ok : Nat → Prop} {a b : World} (h : Keeps ok a b) : Keeps ok a b.drew := h.below (below_drew (Below.refl _ _))
theorem Keeps.setCell {ok : Nat → Prop} {a b : World} (h : Keeps ok a b) {p : Addr} (hp : ok p.block) (u : Value) : Keeps ok a (b.setCell p u) :=
 h.trans ⟨rfl, rfl, rfl, by simp [World.setCell], fun k _ hn => Below.heap_setCell _ _ _ _ (fun e => hn (e ▸ hp))⟩
theorem Keeps.grown {ok : Nat → Prop} {a b c : World} {row : Option Nat} (h : Keeps ok a b) (hg : b.grownBy c row) (hr : ∀ k, row = some k → ok k) : Keeps ok a c :=
 h.trans ⟨hg.os, hg.tape, hg.output, hg.size, fun k hk hn => hg.block k hk (fun e => hn (hr k e.symm))⟩
theorem Keeps.toBelow {ok : Nat → Prop} {B : Nat} {a b : World} (h : Keeps ok a b) (hB : B ≤ a.heap.size) (hok : ∀ k, ok k → B ≤ k) : Below B a b :=
 ⟨h.os, h.tape, h.output, h.size, fun k hk => h.block k (Nat.lt_of_lt_of_le hk hB) (fun h' => Nat.lt_irrefl _ (Nat.lt_of_lt_of_le hk (hok k h')))⟩
theorem Keeps.ofBelow {B : Nat} {a b : World} (h : Below B a b) : Keeps (fun k => B ≤ k) a b := ⟨h.os, h.tape, h.output, h.size, fun k _ hn => h.block k (Nat.lt_of_not_le hn)⟩
theorem Keeps.mono {ok ok' : Nat → Prop} {a b : World} (h : Keeps ok a b) (hk : ∀ k, ok k → ok' k) : Keeps ok' a b := ⟨h.os, h.tape, h.output, h.size, fun k hk1 hn => h.block k hk1 (fun h' => hn (hk k h'))⟩
theorem sl_of_R {α : Type} {d : Kd α} {e : Nat} {w : World} {base : Nat} {ok : Nat → Prop} {v : Value} {xs : List α} (h : d.R e w base ok v xs) : ∃ A n c, v = .slice A n c := by
 obtain ⟨A, c, rfl⟩ := Kd.R_slice h
 exact ⟨A, _, c, rfl⟩
set_option linter.unusedVariables false
set_option linter.unusedSimpArgs false
theorem new_calls (e at_ : Int) (w : World) (he : (e == 0) = false) :
  Calls Tryz.prog 26 #[.int .i64 e, .int .i64 at_] w fun ev w' => ev = .returned (.iface 82 (.pointer (some ⟨w.heap.size, 0, none⟩))) ∧ w' = w.alloc (.cells #[.int .i64 e, .int .i64 at_] 84) := by
 go_enter Tryz.func26, Tryz.ntmps26
 go_wp2
 go_ret
 exact ⟨rfl, rfl⟩
theorem finfoS : (Tryz.prog.info? 9).map (fun i => (i.zero, i.size, i.bytes)) = some (some (.string ByteArray.empty), 1, 16) := by kernel_rfl
theorem clone_calls (a : Addr) (n c : Nat) (xs : List ByteArray) (w : World) (hn : xs.length = n) (hc : n ≤ c) (hl : n ≤ 100000) (hr : Kd.string.C w (some a) n xs) :
  Calls Tryz.prog 45 #[.slice (some a) n c] w fun ev w' => ∃ A m k, ev = .returned (.slice A m k) ∧ Kd.string.R 9 w' w.heap.size (fun _ => True) (.slice A m k) xs ∧ Below w.heap.size w w' := by
 subst hn
 have HR := ak hr
 clear hr
 have hq : (binOp .eql 69 (.slice (some a) xs.length c) (.slice none 0 0)).run Tryz.prog w = .ok (.bool false) w := Lib.run_eql_slice_nil w 69 9 (some a) xs.length c 0 0 Tryz.underlying69
 have R0 : Aside0 (Kd.string.R 9 (w.alloc (.cells #[] 9)) w.heap.size (fun _ => True) (.slice (some ⟨w.heap.size, 0, none⟩) 0 0) []) := ⟨Kd.R_of_own (World.ownsRow_made w #[] 0 (Nat.le_refl _) (by decide) rfl) (fun _ _ => trivial)⟩
 have C0 : Aside0 (Kd.string.C (w.alloc (.cells #[] 9)) (some a) xs.length xs) := ⟨Kd.C_alloc HR.out _⟩
 have B0 : Aside0 (Below w.heap.size w (w.alloc (.cells #[] 9))) := ⟨below_alloc (Below.refl _ _) _⟩
 go_enter Tryz.func45, Tryz.ntmps45
 go_wp2_with (at_builtin; refine Kd.R_append_row Value.string ByteArray.empty (w0 := w) w.heap.size rfl (.tmp 5) (.tmp 6) 69 9 (.string ByteArray.empty) 16 rfl Tryz.underlying69 finfoS rfl (by decide) (.slice (some ⟨w.heap.size, 0, none⟩) 0 0) [] xs (some a) xs.length c (fun _ => True) rfl rfl (fun _ _ => trivial) R0.out C0.out B0.out ?aS ?aL ?_)
 case aS => simp
 case aL => simp only [List.length_nil]; omega
 intro v1 w1 ho hb _ _
 obtain ⟨A, m, rfl⟩ := Kd.R_slice ho
 go_wp2
 go_ret
 exact ⟨_, _, _, rfl, ho, hb⟩
theorem lit_strings (W : World) (base : Nat) (e : Nat) (xs : List ByteArray) (hb : base ≤ W.heap.size) (hm : xs.length ≤ 100000) : Kd.string.R e (W.alloc (.cells (encs Value.string xs).toArray e)) base (fun _ => True) (.slice (some ⟨W.heap.size, 0, none⟩) xs.length xs.length) xs :=
 Kd.R_of_own (own_lit_of W base e xs hb (by omega)) (fun _ _ => trivial)
theorem litC (W : World) (e : Nat) (xs : List ByteArray) (hm : xs.length ≤ 100000) : Kd.string.C (W.alloc (.cells (encs Value.string xs).toArray e)) (some ⟨W.heap.size, 0, none⟩) xs.length xs :=
 (Kd.R_reads' (lit_strings W 0 e xs (Nat.zero_le _) hm)).2.2
def Inside (w : World) (base g : Nat) (err : Value) (xs : List ByteArray) : Prop := base ≤ g ∧ ∃ v, w.heap[g]? = some (.cells #[v, err] 81 (0, 0)) ∧ Kd.string.R 9 w base (fun _ => True) v xs
theorem in_calls (u : Nat) (p : Value) (a : Addr) (n c : Nat) (xs : List ByteArray) (w : World) (hn : xs.length = n) (h0 : 0 < n) (hc : n ≤ c) (hl : n ≤ 100000) (hr : Kd.string.C w (some a) n xs) :
  Calls Tryz.prog 25 #[.iface u p, .slice (some a) n c] w fun ev w' => ∃ g, ev = .returned (.iface 78 (.pointer (some ⟨g, 0, none⟩))) ∧ Inside w' w.heap.size g (.iface u p) xs ∧ Below w.heap.size w w' := by
 have HC := ak (clone_calls a n c xs w hn hc hl hr)
 have h0' : ((n : Int) == 0) = false := by rw [beq_eq_false_iff_ne]; omega
 have h0'' : (n == 0) = false := by rw [beq_eq_false_iff_ne]; omega
 clear hr hn h0
 go_enter Tryz.func25, Tryz.ntmps25
 go_wp2_with (go_at_call 45; refine HC.out.mono ?_; rintro e w1 ⟨A, m, k, rfl, hv, hb⟩)
 go_ret
 refine ⟨_, rfl, ⟨hb.size, _, heap_alloc_new w1 _, Kd.R_alloc hv _⟩, hb.trans (below_alloc (Below.refl _ _) _ |>.mono hb.size)⟩
set_option maxRecDepth 100000
def RdA (w : World) (b : Nat) (s : ByteArray) (i off : Int) : Prop := w.heap[b]? = some (.cells #[.string s, .int .i64 i, .int .i64 off] 56 (0, 0))
theorem RdA.lt {w : World} {b : Nat} {s : ByteArray} {i off : Int} (k : RdA w b s i off) : b < w.heap.size := blk_lt k
theorem RdA.below {w w' : World} {b : Nat} {s : ByteArray} {i off : Int} (k : RdA w b s i off) (hb : Below w.heap.size w w') : RdA w' b s i off := (hb.block b (blk_lt k)).trans k
theorem RdA.cells {w : World} {b : Nat} {s : ByteArray} {i off : Int} (k : RdA w b s i off) : w.cell? ⟨b, 0, none⟩ = some (.string s) ∧ w.cell? ⟨b, 1, none⟩ = some (.int .i64 i) ∧ w.cell? ⟨b, 2, none⟩ = some (.int .i64 off) := by
 unfold RdA at k
 refine ⟨?_, ?_, ?_⟩ <;> simp [World.cell?, k]
theorem RdA.fro {w : World} {b : Nat} {s : ByteArray} {i off : Int} (k : RdA w b s i off) : w.frozen? ⟨b, 0, none⟩ = false ∧ w.frozen? ⟨b, 1, none⟩ = false ∧ w.frozen? ⟨b, 2, none⟩ = false :=
 ⟨blk_frozen k 0, blk_frozen k 1, blk_frozen k 2⟩
theorem RdA.set {w : World} {b : Nat} {s : ByteArray} {i off : Int} (k : RdA w b s i off) (j : Int) : RdA (w.setCell ⟨b, 1, none⟩ (.int .i64 j)) b s j off := blk_set k 1 _
def Step (w : World) (b : Nat) (j : Int) (w' : World) : Prop := Below w.heap.size (w.setCell ⟨b, 1, none⟩ (.int .i64 j)) w'
theorem size_set (w : World) (p : Addr) (v : Value) : (w.setCell p v).heap.size = w.heap.size := by
 unfold World.setCell
 split <;> simp
theorem Step.rd {w w' : World} {b : Nat} {s : ByteArray} {i j off : Int} (h : Step w b j w') (k : RdA w b s i off) : RdA w' b s j off :=
 (h.block b k.lt).trans (k.set j)
theorem Step.size {w w' : World} {b : Nat} {j : Int} (h : Step w b j w') : w.heap.size ≤ w'.heap.size := by
 have := Below.size h
 rwa [size_set] at this
theorem set_same {w : World} {b : Nat} {s : ByteArray} {i off : Int} (k : RdA w b s i off) : Below w.heap.size w (w.setCell ⟨b, 1, none⟩ (.int .i64 i)) where
 os := by unfold World.setCell; split <;> rfl
 tape := by unfold World.setCell; split <;> rfl
 output := by unfold World.setCell; split <;> rfl
 size := by rw [size_set]; exact Nat.le_refl _
 block := fun n _ => by
  by_cases h : n = b
  ·subst h
   rw [show w.heap[n]? = _ from k]
   exact k.set i
  ·exact Below.heap_setCell w ⟨b, 1, none⟩ _ n h
theorem same_set {w : World} {b : Nat} {s : ByteArray} {i off : Int} (k : RdA w b s i off) : Below w.heap.size (w.setCell ⟨b, 1, none⟩ (.int .i64 i)) w where
 os := by unfold World.setCell; split <;> rfl
 tape := by unfold World.setCell; split <;> rfl
 output := by unfold World.setCell; split <;> rfl
 size := by rw [size_set]; exact Nat.le_refl _
 block := fun n hn => ((set_same k).block n hn).symm
theorem Step.of_below {w w' : World} {b : Nat} {s : ByteArray} {i off : Int} (k : RdA w b s i off) (h : Below w.heap.size w w') : Step w b i w' := (same_set k).trans h
theorem Step.trans {w w1 w2 : World} {b : Nat} {s : ByteArray} {i i1 i2 off : Int} (k : RdA w b s i off) (h1 : Step w b i1 w1) (h2 : Step w1 b i2 w2) : Step w b i2 w2 := by
 have k1 := h1.rd k
 have key : Below w.heap.size (w.setCell ⟨b, 1, none⟩ (.int .i64 i2)) (w1.setCell ⟨b, 1, none⟩ (.int .i64 i2)) :=
  {os := by have := h1.os; revert this; unfold World.setCell; repeat' split <;> exact id
   tape := by have := h1.tape; revert this; unfold World.setCell; repeat' split <;> exact id
   output := by have := h1.output; revert this; unfold World.setCell; repeat' split <;> exact id
   size := by rw [size_set, size_set]; exact h1.size
   block := fun n hn => by
    by_cases h : n = b
    ·subst h
     exact (show _ = _ from k1.set i2).trans (show _ = _ from k.set i2).symm
    ·rw [Below.heap_setCell _ ⟨b, 1, none⟩ _ n h, Below.heap_setCell _ ⟨b, 1, none⟩ _ n h]
     exact (h1.block n hn).trans (Below.heap_setCell w ⟨b, 1, none⟩ _ n h) }
 exact key.trans (Below.mono h2 h1.size)
def Thrown (w : World) (no pl : Int) (e : Ending) (w' : World) : Prop :=
 ∃ g, e = .panicked [{ v := .iface 86 (.agg #[.iface 82 (.pointer (some ⟨g, 0, none⟩))]), recovered := false }] ∧ w.heap.size ≤ g ∧ w'.heap[g]? = some (.cells #[.int .i64 no, .int .i64 pl] 84 (0, 0))
theorem fail_calls (w : World) (b : Nat) (s : ByteArray) (i off no pl : Int) (hno : (no == 0) = false) (hpl : IntKind.i64.wrap (off + pl) = off + pl) (k : RdA w b s i off) :
  Calls Tryz.prog 48 #[.pointer (some ⟨b, 0, none⟩), .int .i64 no, .int .i64 pl] w fun e w' => Thrown w no (off + pl) e w' ∧ Below w.heap.size w w' := by
 obtain ⟨c0, c1, c2⟩ := k.cells
 have hw : wrap64 (off + pl) = off + pl := by rw [← i64_w]; exact hpl
 go_enter Tryz.func48, Tryz.ntmps48
 go_wp2_with (go_at_call 26; refine (new_calls no (off + pl) _ hno).mono ?_; rintro e w' ⟨rfl, rfl⟩)
 exact ⟨rfl, ⟨_, rfl, Nat.le_refl _, heap_alloc_new _ _⟩, below_alloc (Below.refl _ _) _⟩
def aheadI (s : ByteArray) (i : Nat) : Int := if h : i < s.size then (s[i].toNat : Int) else 0
theorem rahead_calls (w : World) (b : Nat) (s : ByteArray) (i : Nat) (off : Int) (hi : i ≤ s.size) (k : RdA w b s i off) :
  Calls Tryz.prog 68 #[.pointer (some ⟨b, 0, none⟩)] w fun e w' => e = .returned (.int .u8 (aheadI s i)) ∧ Below w.heap.size w w' := by
 obtain ⟨c0, c1, c2⟩ := k.cells
 by_cases h : i < s.size
 ·have h1 : ((i : Int) == (s.size : Int)) = false := beq_eq_false_iff_ne.2 (by omega)
  have h2 : (i : Int) < (s.size : Int) := by omega
  have e : aheadI s i = (s[i].toNat : Int) := dif_pos h
  rw [e]
  go_enter Tryz.func68, Tryz.ntmps68
  go_wp2
  repeat (go_quiet (fail); try go_wp2)
  go_ret
  exact ⟨rfl, by repeat (first | exact Below.refl _ _ | apply pw_below_drewN | apply below_drew1)⟩
 ·have h0 : i = s.size := by omega
  subst h0
  have h1 : ((s.size : Int) == (s.size : Int)) = true := beq_self_eq_true _
  have e : aheadI s s.size = 0 := dif_neg (Nat.lt_irrefl _)
  rw [e]
  go_enter Tryz.func68, Tryz.ntmps68
  go_wp2
  repeat (go_quiet (fail); try go_wp2)
  go_ret
  exact ⟨rfl, by repeat (first | exact Below.refl _ _ | apply pw_below_drewN | apply below_drew1)⟩
end Go.Proofs.YtkobpbbegalfpaaGreatDoor
