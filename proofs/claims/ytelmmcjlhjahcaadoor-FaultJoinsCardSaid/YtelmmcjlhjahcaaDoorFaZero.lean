/-
  What is no error: made of Err 0; its words.
-/
import Derived.Test.YtelmmcjlhjahcaaDoorFaAwake
namespace Go.Proofs.YtelmmcjlhjahcaaDoor
open Go.RowKit Go.Proofs.YtelmmcjlhjahcaaDoorW.PrintWords Go.Proofs.YtelmmcjlhjahcaaDoorW.PrintLast Go.Proofs.YtelmmcjlhjahcaaDoorW.PrintMore Go.Proofs.YtelmmcjlhjahcaaDoor.PFaultTells
set_option linter.unusedVariables false
set_option linter.unusedSimpArgs false
set_option maxRecDepth 100000

theorem words0_l0 (a : Int) (xss : List (List ByteArray)) (hl : xss.length ≤ 10) : ∀ (d k i : Nat), xss.length - i = d → i ≤ xss.length → d < k →
    sashref03_Words.l0 k [] (xss.length : Int) (i : Int) 0 a xss = some [] := by
  intro d
  induction d with
  | zero =>
    intro k i hd hi hk
    obtain ⟨k, rfl⟩ : ∃ m, k = m + 1 := ⟨k - 1, by omega⟩
    simp only [sashref03_Words.l0]
    rw [if_neg (by omega)]
  | succ d ih =>
    intro k i hd hi hk
    obtain ⟨k, rfl⟩ : ∃ m, k = m + 1 := ⟨k - 1, by omega⟩
    have HE := Aside0.mk (wS i (by omega))
    simp only [sashref03_Words.l0]
    rw [if_pos (by omega), if_pos trivial]
    simp only [HE.out]
    exact ih k (i + 1) (by omega) (by omega) (by omega)
theorem ref_words0 (a : Int) (xss : List (List ByteArray)) (hl : xss.length ≤ 10) : sashref03_Words.f 100 0 a xss = some [] := by
  unfold sashref03_Words.f
  exact words0_l0 a xss hl xss.length 100 0 (by omega) (by omega) (by omega)

set_option maxHeartbeats 4000000 in
theorem made_zero (w : World) (a : Int) (A : Option Addr) (n c : Nat) (xss : List (List ByteArray)) (hr : (Kd.slice 9 Kd.string).C w A n xss) (hn : n ≤ 10) :
    Calls Tryd.prog 14 #[.agg #[.int .i64 0, .int .i64 a, .slice A n c]] w fun ev w' => ev = .returned .nilIface ∧ Below w.heap.size w w' := by
  have hlen := Kd.C_len hr
  obtain ⟨W1, hW1⟩ : ∃ W1, W1 = w.alloc (.cells #[.int .i64 0, .int .i64 a, .slice A n c] 24) := ⟨_, rfl⟩
  have hblk : W1.heap[w.heap.size]? = some (.cells #[.int .i64 0, .int .i64 a, .slice A n c] 24 (0, 0)) := by rw [hW1]; exact heap_alloc_new w _
  have hb1 : Below w.heap.size w W1 := by rw [hW1]; exact below_alloc (Below.refl _ _) _
  have HR : Aside0 ((Kd.slice 9 Kd.string).C W1 A n xss) := ⟨Kd.C_below hr hb1⟩
  have HBLK := Aside0.mk hblk
  have HB1 := Aside0.mk hb1
  have HW1 := Aside0.mk hW1
  have HLEN := Aside0.mk hlen
  clear hblk hb1 hr hW1 hlen
  go_enter Tryd.func14, Tryd.ntmps14
  go_wp2_with fail
  rw [← HW1.out]
  refine (new_ok a _).mono ?_
  rintro ev w2 ⟨rfl, rfl⟩
  have d2 : w2.cell? ⟨w.heap.size, 2, none⟩ = some (.slice A n c) := (blk_cell HBLK.out 2).trans rfl
  clear HW1
  go_wp2
  go_loopw [3, 4] (fun v i wr => wr = w2 ∧ v = .nilIface ∧ ∃ k : Nat, k ≤ n ∧ i = .int .i64 k) (fun _ i _ => n - (intOf i).toNat)
  case atStart => exact ⟨rfl, rfl, 0, by omega, rfl⟩
  case round =>
    obtain ⟨rfl, rfl, k, hk, rfl⟩ := hrel
    by_cases hlt : k < n
    · obtain ⟨ad, A', c', rfl, hcell, hc', hr'⟩ := rows_at HR.out k hlt
      clear hr'
      generalize (xss.getD k []).length = m at *
      go_wp2_with fail
      refine (in_nil _ _ _ _).mono ?_
      rintro ev w3 ⟨rfl, rfl⟩
      go_wp2
      go_roundw
      case rel => exact ⟨by first | rfl | trivial, by first | rfl | trivial, k + 1, by omega, by go_num⟩
      case measure => simp [intOf]; omega
    · have hkn : k = n := by omega
      subst hkn
      go_wp2
      go_ret
      exact ⟨rfl, HB1.out⟩
end Go.Proofs.YtelmmcjlhjahcaaDoor
