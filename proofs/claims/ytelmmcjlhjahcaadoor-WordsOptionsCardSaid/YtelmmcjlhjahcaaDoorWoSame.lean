/-
  The reference's comparison of commands: of two lists that are one it says yes.
-/
import Derived.Test.YtelmmcjlhjahcaaDoorPWordsOptionsx1
namespace Go.Proofs.YtelmmcjlhjahcaaDoor
open Go.RowKit Go.Proofs.YtelmmcjlhjahcaaDoorW.PrintWords Go.Proofs.YtelmmcjlhjahcaaDoorW.PrintLast Go.Proofs.YtelmmcjlhjahcaaDoorW.PrintMore Go.Proofs.YtelmmcjlhjahcaaDoor.PWordsOptions

theorem same_l0 (l : List ByteArray) (hl : l.length ≤ 9223372036854775807) (d : Nat) : ∀ (k : Nat) (i : Int), 0 ≤ i → i ≤ l.length → (l.length : Int) - i = d → d < k → sashref20_Same.l0 k l l (l.length : Int) i = some true := by
  induction d with
  | zero =>
    intro k i h0 h1 hd hk
    obtain ⟨k, rfl⟩ : ∃ m, k = m + 1 := ⟨k - 1, by omega⟩
    simp only [sashref20_Same.l0]; rw [if_neg (by omega)]
  | succ d ih =>
    intro k i h0 h1 hd hk
    obtain ⟨k, rfl⟩ : ∃ m, k = m + 1 := ⟨k - 1, by omega⟩
    simp only [sashref20_Same.l0]
    have e : wrap64 (i + 1) = i + 1 := by unfold wrap64; omega
    rw [if_pos (by omega), if_pos h0, if_pos (by omega), if_pos (by omega), if_pos trivial, e]
    exact ih k (i + 1) (by omega) (by omega) (by omega) (by omega)

theorem same_self (l : List ByteArray) (hl : l.length ≤ 9223372036854775807) (k : Nat) (hk : l.length < k) : sashref20_Same.f k l l = some true := by
  unfold sashref20_Same.f
  rw [if_pos rfl]
  exact same_l0 l hl l.length k 0 (by omega) (by omega) (by omega) hk

theorem sameAll_l0 (l : List (List ByteArray)) (B : Nat) (hB : B ≤ 9223372036854775807) (hl : l.length ≤ B) (hi : ∀ x ∈ l, x.length ≤ B) (d : Nat) : ∀ (k : Nat) (i : Int), 0 ≤ i → i ≤ l.length → (l.length : Int) - i = d → d + B + 1 ≤ k → sashref20_SameAll.l0 k l l (l.length : Int) i = some true := by
  induction d with
  | zero =>
    intro k i h0 h1 hd hk
    obtain ⟨k, rfl⟩ : ∃ m, k = m + 1 := ⟨k - 1, by omega⟩
    simp only [sashref20_SameAll.l0]; rw [if_neg (by omega)]
  | succ d ih =>
    intro k i h0 h1 hd hk
    obtain ⟨k, rfl⟩ : ∃ m, k = m + 1 := ⟨k - 1, by omega⟩
    have hlt : i.toNat < l.length := by omega
    have hx : (rd_L1 l i).length ≤ B := by
      unfold rd_L1
      rw [List.getD_eq_getElem?_getD, List.getElem?_eq_getElem hlt]
      exact hi _ (List.getElem_mem hlt)
    have e : wrap64 (i + 1) = i + 1 := by unfold wrap64; omega
    simp only [sashref20_SameAll.l0]
    rw [if_pos (by omega), if_pos h0, if_pos (by omega), if_pos (by omega), same_self _ (by omega) k (by omega)]
    simp only [Option.bind_some, if_true]
    rw [e]
    exact ih k (i + 1) (by omega) (by omega) (by omega) (by omega)

theorem sameAll_self (l : List (List ByteArray)) (w : World) (A : Option Addr) (n : Nat) (h : (Kd.slice 9 Kd.string).C w A n l) : ∃ k, sashref20_SameAll.f k l l = some true := by
  have hl : l.length ≤ 9223372036854775807 := by have := Kd.C_len h; have := Kd.C_max h; omega
  have hi : ∀ x ∈ l, x.length ≤ 9223372036854775807 := by
    intro x hx
    obtain ⟨j, hj, rfl⟩ := List.mem_iff_getElem.1 hx
    obtain ⟨ad, _, hc⟩ := h.2.2 (by have := Kd.C_len h; omega)
    obtain ⟨c, _, ⟨A', c', _, _, hr⟩, _⟩ := hc j _ (List.getElem?_eq_getElem hj)
    exact Kd.C_max hr
  refine ⟨2 * 9223372036854775807 + 1, ?_⟩
  unfold sashref20_SameAll.f
  rw [if_pos rfl]
  exact sameAll_l0 l 9223372036854775807 (by omega) hl hi l.length _ 0 (by omega) (by omega) (by omega) (by omega)
end Go.Proofs.YtelmmcjlhjahcaaDoor
