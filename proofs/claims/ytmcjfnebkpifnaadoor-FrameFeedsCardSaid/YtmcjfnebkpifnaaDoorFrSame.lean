/-
  sashref23.Same of a list with itself.
-/
import Derived.Test.YtmcjfnebkpifnaaDoorFrRead
namespace Go.Proofs.YtmcjfnebkpifnaaDoor
open Go.RowKit Go.Proofs.YtmcjfnebkpifnaaDoorW.PrintWords Go.Proofs.YtmcjfnebkpifnaaDoorW.PrintLast Go.Proofs.YtmcjfnebkpifnaaDoorW.PrintMore Go.Proofs.YtmcjfnebkpifnaaDoor.PFrameFeeds
set_option linter.unusedVariables false
set_option linter.unusedSimpArgs false

theorem same_l0 (l : List S63) (hl : l.length ≤ 1000000) (d : Nat) : ∀ (k : Nat) (i : Int), 0 ≤ i → i ≤ l.length → (l.length : Int) - i = d → d < k → sashref23_Same.l0 k l l (l.length : Int) i = some true := by
  induction d with
  | zero =>
    intro k i h0 h1 hd hk
    obtain ⟨k, rfl⟩ : ∃ m, k = m + 1 := ⟨k - 1, by omega⟩
    simp only [sashref23_Same.l0]; rw [if_neg (by omega)]
  | succ d ih =>
    intro k i h0 h1 hd hk
    obtain ⟨k, rfl⟩ : ∃ m, k = m + 1 := ⟨k - 1, by omega⟩
    simp only [sashref23_Same.l0]
    have e : wrap64 (i + 1) = i + 1 := by unfold wrap64; omega
    rw [if_pos (by omega), if_pos h0, if_pos (by omega), if_pos (by omega), if_neg (by simp), e]
    exact ih k (i + 1) (by omega) (by omega) (by omega) (by omega)
theorem same_self (l : List S63) (hl : l.length ≤ 1000000) (k : Nat) (hk : l.length < k) : sashref23_Same.f k l l = some true := by
  unfold sashref23_Same.f
  rw [if_pos rfl]
  exact same_l0 l hl l.length k 0 (by omega) (by omega) (by omega) hk
end Go.Proofs.YtmcjfnebkpifnaaDoor
