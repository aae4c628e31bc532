/-
  The document's answers of layer 3: pure.
-/
import Derived.Test.YtelmmcjlhjahcaaDoorFaWords
import Derived.Test.YtelmmcjlhjahcaaDoorPFaultTellsx1
namespace Go.Proofs.YtelmmcjlhjahcaaDoor
open Go.RowKit Go.Proofs.YtelmmcjlhjahcaaDoorW.PrintWords Go.Proofs.YtelmmcjlhjahcaaDoorW.PrintLast Go.Proofs.YtelmmcjlhjahcaaDoorW.PrintMore Go.Proofs.YtelmmcjlhjahcaaDoor.PFaultTells
set_option linter.unusedVariables false
set_option linter.unusedSimpArgs false

theorem wS (i : Nat) (h : i < 100000) : wrap64 ((i : Int) + 1) = ((i + 1 : Nat) : Int) := by
  have e : ((i + 1 : Nat) : Int) = (i : Int) + 1 := rfl
  rw [e]; unfold wrap64; omega

theorem great_l1 (f : S24) (hl : f.f2.length ≤ 10) : ∀ (d k i : Nat), f.f2.length - i = d → i ≤ f.f2.length → d + 3 < k →
    ∃ r, sashref03_Great.l1 k [f] 0 1 0 (f.f2.length : Int) (i : Int) = some r ∧ (r = false → ∀ x ∈ f.f2.drop i, x.length ≤ 10) := by
  intro d
  induction d with
  | zero =>
    intro k i hd hi hk
    obtain ⟨k, rfl⟩ : ∃ m, k = m + 2 := ⟨k - 2, by omega⟩
    refine ⟨false, ?_, fun _ x hx => ?_⟩
    · simp only [sashref03_Great.l1]
      rw [if_neg (by omega)]
      simp only [sashref03_Great.l0]
      rw [if_neg (by unfold wrap64; omega)]
    · rw [List.drop_eq_nil_of_le (by omega)] at hx
      cases hx
  | succ d ih =>
    intro k i hd hi hk
    obtain ⟨k, rfl⟩ : ∃ m, k = m + 1 := ⟨k - 1, by omega⟩
    have HE := Aside0.mk (wS i (by omega))
    simp only [sashref03_Great.l1]
    have hrd : rd_T24 [f] 0 = f := rfl
    have hr2 : rd_L2 f.f2 (i : Int) = f.f2.getD i [] := by simp [rd_L2]
    have hdr : f.f2.drop i = f.f2.getD i [] :: f.f2.drop (i + 1) := by
      rw [List.drop_eq_getElem_cons (by omega), List.getD_eq_getElem?_getD, List.getElem?_eq_getElem (by omega)]; rfl
    rw [hrd, hr2, hdr, if_pos (by omega), if_pos (by decide), if_pos (by simp), if_pos (by omega), if_pos (by omega)]
    by_cases h5 : ((f.f2.getD i []).length : Int) > 10
    · exact ⟨true, by rw [if_pos h5], fun h => by cases h⟩
    · rw [if_neg h5]
      simp only [HE.out]
      obtain ⟨r, hr, hf⟩ := ih k (i + 1) (by omega) (by omega) (by omega)
      refine ⟨r, hr, fun h x hx => ?_⟩
      rcases List.mem_cons.1 hx with rfl | hx
      · omega
      · exact hf h x hx
theorem great_one (f : S24) : ∃ r, sashref03_Great.f 100 [f] = some r ∧ (r = false → f.f2.length ≤ 10 ∧ ∀ x ∈ f.f2, x.length ≤ 10) := by
  unfold sashref03_Great.f
  rw [if_neg (by simp)]
  simp only [sashref03_Great.l0]
  have hrd : rd_T24 [f] 0 = f := rfl
  rw [hrd, if_pos (by simp), if_pos (by decide), if_pos (by simp)]
  by_cases h : (f.f2.length : Int) > 10
  · exact ⟨true, by rw [if_pos h], fun h => by cases h⟩
  · rw [if_neg h]
    obtain ⟨r, hr, hf⟩ := great_l1 f (by omega) f.f2.length 99 0 (by omega) (by omega) (by omega)
    exact ⟨r, hr, fun h' => ⟨by omega, by simpa using hf h'⟩⟩

theorem flat10 (xss : List (List ByteArray)) (hx : ∀ x ∈ xss, x.length ≤ 10) : (insOf xss).flatten.length ≤ 10 * xss.length := by
  induction xss with
  | nil => simp [insOf]
  | cons x xs ih =>
    have h1 := hx x List.mem_cons_self
    have h2 := ih (fun y hy => hx y (List.mem_cons_of_mem _ hy))
    have e : insOf (x :: xs) = insOf xs ++ insOf [x] := by
      cases x <;> simp [insOf]
    have e2 : (insOf [x]).flatten.length ≤ 10 := by
      cases x with
      | nil => simp [insOf]
      | cons a t => simpa [insOf] using h1
    rw [e, List.flatten_append, List.length_append, List.length_cons]
    omega

theorem words_l0 (e a : Int) (he : ¬ e = 0) (xss : List (List ByteArray)) (hl : xss.length ≤ 10) (hx : ∀ x ∈ xss, x.length ≤ 10) : ∀ (d k i : Nat), xss.length - i = d → i ≤ xss.length → d < k →
    sashref03_Words.l0 k (insOf (xss.take i)).flatten (xss.length : Int) (i : Int) e a xss = some (insOf xss).flatten := by
  intro d
  induction d with
  | zero =>
    intro k i hd hi hk
    obtain ⟨k, rfl⟩ : ∃ m, k = m + 1 := ⟨k - 1, by omega⟩
    simp only [sashref03_Words.l0]
    rw [if_neg (by omega), List.take_of_length_le (by omega)]
  | succ d ih =>
    intro k i hd hi hk
    obtain ⟨k, rfl⟩ : ∃ m, k = m + 1 := ⟨k - 1, by omega⟩
    have HE := Aside0.mk (wS i (by omega))
    have hr2 : rd_L2 xss (i : Int) = xss.getD i [] := by simp [rd_L2]
    have hlen : (xss.getD i []).length ≤ 10 := by
      rw [List.getD_eq_getElem?_getD, List.getElem?_eq_getElem (by omega)]
      exact hx _ (List.getElem_mem _)
    have hacc := flat10 (xss.take i) (fun x h => hx x (List.mem_of_mem_take h))
    rw [List.length_take] at hacc
    have hT : (insOf (xss.take (i + 1))).flatten = xss.getD i [] ++ (insOf (xss.take i)).flatten := by
      rw [take_snoc xss i (by omega)]
      by_cases h0 : xss.getD i [] = []
      · rw [h0, insOf_snoc_nil]; simp
      · rw [insOf_snoc _ _ h0]; simp
    simp only [sashref03_Words.l0]
    rw [if_pos (by omega), if_neg he]
    simp only [Option.bind_some]
    rw [if_pos (by omega), if_pos (by omega), hr2]
    rw [if_pos (by rw [List.length_nil]; omega), if_pos (by rw [List.nil_append]; omega)]
    simp only [HE.out, List.nil_append]
    rw [← hT]
    exact ih k (i + 1) (by omega) (by omega) (by omega)
theorem ref_words (e a : Int) (he : ¬ e = 0) (xss : List (List ByteArray)) (hl : xss.length ≤ 10) (hx : ∀ x ∈ xss, x.length ≤ 10) : sashref03_Words.f 100 e a xss = some (insOf xss).flatten := by
  unfold sashref03_Words.f
  have h := words_l0 e a he xss hl hx xss.length 100 0 (by omega) (by omega) (by omega)
  simpa [insOf] using h
end Go.Proofs.YtelmmcjlhjahcaaDoor
