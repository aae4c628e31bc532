/-
  sashlaw03.made, fault.Words.
-/
import Derived.Test.YtelmmcjlhjahcaaDoorAsTop
import Derived.Test.YtelmmcjlhjahcaaDoorFault
namespace Go.Proofs.YtelmmcjlhjahcaaDoor
open Go.RowKit Go.Extern Go.Stop Go.Proofs.YtelmmcjlhjahcaaDoorW.PrintWords Go.Proofs.YtelmmcjlhjahcaaDoorW.PrintLast Go.Proofs.YtelmmcjlhjahcaaDoorW.PrintMore
set_option linter.unusedVariables false
set_option linter.unusedSimpArgs false
set_option maxRecDepth 100000

theorem in_nil (w : World) (A : Option Addr) (n c : Nat) : Calls Tryd.prog 20 #[.nilIface, .slice A n c] w fun e w' => e = .returned .nilIface ∧ w' = w := by
  go_enter Tryd.func20, Tryd.ntmps20
  go_wp2
  go_ret
  exact ⟨rfl, rfl⟩
theorem in_zero (w : World) (u : Nat) (p : Value) (A : Option Addr) (c : Nat) : Calls Tryd.prog 20 #[.iface u p, .slice A 0 c] w fun e w' => e = .returned (.iface u p) ∧ w' = w := by
  go_enter Tryd.func20, Tryd.ntmps20
  go_wp2
  go_ret
  exact ⟨rfl, rfl⟩

/-- The words in which an error was put, the outermost ones first. -/
def insOf (xss : List (List ByteArray)) : List (List ByteArray) := (xss.filter (fun x => !x.isEmpty)).reverse
theorem insOf_snoc_nil (xss : List (List ByteArray)) : insOf (xss ++ [[]]) = insOf xss := by simp [insOf]
theorem insOf_snoc (xss : List (List ByteArray)) (x : List ByteArray) (h : x ≠ []) : insOf (xss ++ [x]) = x :: insOf xss := by
  cases x with
  | nil => exact absurd rfl h
  | cons a t => simp [insOf]
theorem take_snoc (xss : List (List ByteArray)) (k : Nat) (hk : k < xss.length) : xss.take (k + 1) = xss.take k ++ [xss.getD k []] := by
  rw [List.take_add_one, List.getElem?_eq_getElem hk, List.getD_eq_getElem?_getD, List.getElem?_eq_getElem hk]; rfl

/-- An error put in words, by fault.In. -/
theorem in_ev (w : World) (v : Value) (ins : List (List ByteArray)) (b : As.Base) (A : Option Addr) (n c : Nat) (xs : List ByteArray) (hv : As.EV w v ins b) (hn : xs.length = n) (hc : n ≤ c) (hl : n ≤ 100000) (hr : Kd.string.C w A n xs) :
    Calls Tryd.prog 20 #[v, .slice A n c] w fun e w' => ∃ t x, e = .returned (.iface t x) ∧ As.EV w' (.iface t x) (if xs = [] then ins else xs :: ins) b ∧ Below w.heap.size w w' := by
  obtain ⟨ut, ux, rfl⟩ := As.EV_iface hv
  by_cases h0 : xs = []
  · subst h0
    obtain rfl : 0 = n := hn
    refine (in_zero w ut ux A c).mono ?_
    rintro e w' ⟨rfl, rfl⟩
    exact ⟨_, _, rfl, by rw [if_pos rfl]; exact hv, Below.refl _ _⟩
  · have hpos : 0 < n := by rw [← hn]; exact List.length_pos_iff.2 h0
    obtain ⟨a, rfl, _⟩ := hr.2.2 hpos
    refine (in_calls ut ux a n c xs w hn hpos hc hl hr).mono ?_
    rintro e w' ⟨g, rfl, ⟨h1, v', h2, h3⟩, hb⟩
    refine ⟨_, _, rfl, ?_, hb⟩
    rw [if_neg h0]
    exact ⟨g, v', _, rfl, h2, Kd.R_lower h3 (Nat.zero_le _), As.EV_keep hb hv⟩

set_option maxHeartbeats 4000000 in
theorem made_calls (w : World) (e a : Int) (A : Option Addr) (n c : Nat) (xss : List (List ByteArray)) (he : (e == 0) = false) (hr : (Kd.slice 9 Kd.string).C w A n xss) (hc : n ≤ c) (hn : n ≤ 100000) (hx : ∀ x ∈ xss, x.length ≤ 100000) :
    Calls Tryd.prog 14 #[.agg #[.int .i64 e, .int .i64 a, .slice A n c]] w fun ev w' => ∃ t x, ev = .returned (.iface t x) ∧ As.EV w' (.iface t x) (insOf xss) (.fault e a) ∧ Below w.heap.size w w' := by
  have hlen := Kd.C_len hr
  obtain ⟨W1, hW1⟩ : ∃ W1, W1 = w.alloc (.cells #[.int .i64 e, .int .i64 a, .slice A n c] 24) := ⟨_, rfl⟩
  have hblk : W1.heap[w.heap.size]? = some (.cells #[.int .i64 e, .int .i64 a, .slice A n c] 24 (0, 0)) := by rw [hW1]; exact heap_alloc_new w _
  have hb1 : Below w.heap.size w W1 := by rw [hW1]; exact below_alloc (Below.refl _ _) _
  have d0 : W1.cell? ⟨w.heap.size, 0, none⟩ = some (.int .i64 e) := (blk_cell hblk 0).trans rfl
  have d1 : W1.cell? ⟨w.heap.size, 1, none⟩ = some (.int .i64 a) := (blk_cell hblk 1).trans rfl
  have HBLK := Aside0.mk hblk
  have HB1 := Aside0.mk hb1
  have HR := Aside0.mk hr
  have HLEN := Aside0.mk hlen
  have HX := Aside0.mk hx
  have HW1 := Aside0.mk hW1
  rw [hW1] at d0 d1
  clear hblk hb1 hr hlen hx hW1
  go_enter Tryd.func14, Tryd.ntmps14
  go_wp2_with fail
  rw [← HW1.out]
  refine (new_calls e a _ he).mono ?_
  rintro ev w2 ⟨rfl, hw2⟩
  have HV2 : Aside0 (As.EV w2 (.iface 77 (.pointer (some ⟨W1.heap.size, 0, none⟩))) [] (.fault e a) ∧ Below W1.heap.size W1 w2) := ⟨⟨_, rfl, by rw [hw2]; exact heap_alloc_new W1 _⟩, by rw [hw2]; exact below_alloc (Below.refl _ _) _⟩
  clear hw2 d0 d1 he
  go_wp2
  go_loopw [3, 4] (fun v i wr => ∃ k : Nat, k ≤ n ∧ i = .int .i64 k ∧ (∃ t x, v = .iface t x) ∧ Aside0 (As.EV wr v (insOf (xss.take k)) (.fault e a) ∧ Below W1.heap.size W1 wr)) (fun _ i _ => n - (intOf i).toNat)
  case atStart => exact ⟨0, by omega, rfl, ⟨_, _, rfl⟩, ⟨by simpa [insOf] using HV2.out.1, HV2.out.2⟩⟩
  case round =>
    obtain ⟨k, hk, rfl, ⟨ut, ux, rfl⟩, HM⟩ := hrel
    have d2 : wr.cell? ⟨w.heap.size, 2, none⟩ = some (.slice A n c) := by
      have := HM.out.2.block w.heap.size (blk_lt HBLK.out)
      exact (blk_cell (this.trans HBLK.out) 2).trans rfl
    by_cases hlt : k < n
    · have hbw := HB1.out.trans (HM.out.2.mono HB1.out.size)
      obtain ⟨ad, A', c', rfl, hcell, hc', hr'⟩ := rows_at (Kd.C_below HR.out hbw) k hlt
      have hmem : (xss.getD k []).length ≤ 100000 := by
        have hkl : k < xss.length := by have := HLEN.out; omega
        rw [List.getD_eq_getElem?_getD, List.getElem?_eq_getElem hkl]
        exact HX.out _ (List.getElem_mem hkl)
      have HI := Aside0.mk (in_ev wr (.iface ut ux) _ _ A' _ c' (xss.getD k []) HM.out.1 rfl hc' hmem hr')
      have HTK : Aside0 (insOf (xss.take (k + 1)) = if xss.getD k [] = [] then insOf (xss.take k) else xss.getD k [] :: insOf (xss.take k)) := ⟨by
        rw [take_snoc xss k (by have := HLEN.out; omega)]
        split
        · next h => rw [h, insOf_snoc_nil]
        · next h => rw [insOf_snoc _ _ h]⟩
      clear hbw hmem hr'
      generalize xss.getD k [] = xs at *
      go_wp2_with fail
      with_reducible refine HI.out.mono ?_
      rintro ev w3 ⟨t3, x3, rfl, hE3, hb3⟩
      have HM3 := Aside0.mk (And.intro hE3 (HM.out.2.trans (hb3.mono HM.out.2.size)))
      clear hE3 hb3 HI
      go_wp2
      go_roundw
      case rel => exact ⟨k + 1, by omega, by go_num, ⟨_, _, rfl⟩, ⟨by rw [HTK.out]; exact HM3.out.1, HM3.out.2⟩⟩
      case measure => simp [intOf]; omega
    · have hkn : k = n := by omega
      subst hkn
      have HK : Aside0 (xss.take k = xss) := ⟨by rw [← HLEN.out, List.take_length]⟩
      go_wp2
      go_ret
      exact ⟨_, _, rfl, by rw [← HK.out]; exact HM.out.1, HB1.out.trans (HM.out.2.mono HB1.out.size)⟩
end Go.Proofs.YtelmmcjlhjahcaaDoor
