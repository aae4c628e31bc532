/-
  The document's answers of layer 3 at several errors: pure.
-/
import Derived.Test.YtelmmcjlhjahcaaDoorFaPure
import Derived.Test.YtelmmcjlhjahcaaDoorFjPrint
import Derived.Test.YtelmmcjlhjahcaaDoorIsJ
namespace Go.Proofs.YtelmmcjlhjahcaaDoor
open Go.RowKit Go.Proofs.YtelmmcjlhjahcaaDoorW.PrintWords Go.Proofs.YtelmmcjlhjahcaaDoorW.PrintLast Go.Proofs.YtelmmcjlhjahcaaDoorW.PrintMore Go.Proofs.YtelmmcjlhjahcaaDoor.PFaultTells
set_option linter.unusedVariables false
set_option linter.unusedSimpArgs false

abbrev zF : S24 := z24
/-- Small enough. -/
def SmallF (f : S24) : Prop := f.f2.length ≤ 10 ∧ ∀ x ∈ f.f2, x.length ≤ 10
theorem rdF (fs : List S24) (i : Nat) : rd_T24 fs (i : Int) = fs.getD i zF := by simp [rd_T24]
theorem dropF (fs : List S24) (i : Nat) (h : i < fs.length) : fs.drop i = fs.getD i zF :: fs.drop (i + 1) := by
  rw [List.drop_eq_getElem_cons h, List.getD_eq_getElem?_getD, List.getElem?_eq_getElem h]; rfl

theorem great_in (fs : List S24) (i : Nat) (hi : i < fs.length) (hfs : fs.length ≤ 20) (f : S24) (hf : fs.getD i zF = f) (hl : f.f2.length ≤ 10) (K0 : Nat) (P : Prop)
    (H : ∀ k', K0 < k' → ∃ r, sashref03_Great.l0 k' fs (fs.length : Int) ((i + 1 : Nat) : Int) = some r ∧ (r = false → P)) : ∀ (d k j : Nat), f.f2.length - j = d → j ≤ f.f2.length → d + K0 + 1 < k →
    ∃ r, sashref03_Great.l1 k fs (i : Int) (fs.length : Int) (i : Int) (f.f2.length : Int) (j : Int) = some r ∧ (r = false → P ∧ ∀ x ∈ f.f2.drop j, x.length ≤ 10) := by
  intro d
  have HW := Aside0.mk (wS i (by omega))
  induction d with
  | zero =>
    intro k j hd hj hk
    obtain ⟨k, rfl⟩ : ∃ m, k = m + 1 := ⟨k - 1, by omega⟩
    obtain ⟨r, hr, hp⟩ := H k (by omega)
    refine ⟨r, ?_, fun h => ⟨hp h, fun x hx => ?_⟩⟩
    · simp only [sashref03_Great.l1]
      rw [if_neg (by omega)]
      simp only [HW.out]
      exact hr
    · rw [List.drop_eq_nil_of_le (by omega)] at hx
      cases hx
  | succ d ih =>
    intro k j hd hj hk
    obtain ⟨k, rfl⟩ : ∃ m, k = m + 1 := ⟨k - 1, by omega⟩
    have HE := Aside0.mk (wS j (by omega))
    simp only [sashref03_Great.l1]
    have hr2 : rd_L2 f.f2 (j : Int) = f.f2.getD j [] := by simp [rd_L2]
    have hdr : f.f2.drop j = f.f2.getD j [] :: f.f2.drop (j + 1) := by
      rw [List.drop_eq_getElem_cons (by omega), List.getD_eq_getElem?_getD, List.getElem?_eq_getElem (by omega)]; rfl
    rw [rdF, hf, hr2, hdr, if_pos (by omega), if_pos (by omega), if_pos (by omega), if_pos (by omega), if_pos (by omega)]
    by_cases h5 : ((f.f2.getD j []).length : Int) > 10
    · exact ⟨true, by rw [if_pos h5], fun h => by cases h⟩
    · rw [if_neg h5]
      simp only [HE.out]
      obtain ⟨r, hr, hp⟩ := ih k (j + 1) (by omega) (by omega) (by omega)
      refine ⟨r, hr, fun h => ⟨(hp h).1, fun x hx => ?_⟩⟩
      rcases List.mem_cons.1 hx with rfl | hx
      · omega
      · exact (hp h).2 x hx
theorem great_l0 (fs : List S24) (hfs : fs.length ≤ 20) : ∀ (d k i : Nat), fs.length - i = d → i ≤ fs.length → 15 * d < k →
    ∃ r, sashref03_Great.l0 k fs (fs.length : Int) (i : Int) = some r ∧ (r = false → ∀ f ∈ fs.drop i, SmallF f) := by
  intro d
  induction d with
  | zero =>
    intro k i hd hi hk
    obtain ⟨k, rfl⟩ : ∃ m, k = m + 1 := ⟨k - 1, by omega⟩
    refine ⟨false, ?_, fun _ x hx => ?_⟩
    · simp only [sashref03_Great.l0]
      rw [if_neg (by omega)]
    · rw [List.drop_eq_nil_of_le (by omega)] at hx
      cases hx
  | succ d ih =>
    intro k i hd hi hk
    obtain ⟨k, rfl⟩ : ∃ m, k = m + 1 := ⟨k - 1, by omega⟩
    simp only [sashref03_Great.l0]
    rw [rdF, dropF fs i (by omega), if_pos (by omega), if_pos (by omega), if_pos (by omega)]
    obtain ⟨f, hf⟩ : ∃ f, fs.getD i zF = f := ⟨_, rfl⟩
    rw [hf]
    by_cases h : (f.f2.length : Int) > 10
    · exact ⟨true, by rw [if_pos h], fun h => by cases h⟩
    · rw [if_neg h]
      obtain ⟨r, hr, hp⟩ := great_in fs i (by omega) hfs f hf (by omega) (15 * d) (∀ f ∈ fs.drop (i + 1), SmallF f) (fun k' hk' => ih k' (i + 1) (by omega) (by omega) hk') f.f2.length k 0 (by omega) (by omega) (by omega)
      refine ⟨r, hr, fun h' x hx => ?_⟩
      obtain ⟨h1, h2⟩ := hp h'
      rcases List.mem_cons.1 hx with rfl | hx
      · exact ⟨by omega, by simpa using h2⟩
      · exact h1 x hx
theorem great_all (fs : List S24) : ∃ r, sashref03_Great.f 1000 fs = some r ∧ (r = false → fs.length ≤ 20 ∧ ∀ f ∈ fs, SmallF f) := by
  unfold sashref03_Great.f
  by_cases h : (fs.length : Int) > 20
  · exact ⟨true, by rw [if_pos h], fun h => by cases h⟩
  · rw [if_neg h]
    obtain ⟨r, hr, hp⟩ := great_l0 fs (by omega) fs.length 1000 0 (by omega) (by omega) (by omega)
    exact ⟨r, hr, fun h' => ⟨by omega, by simpa using hp h'⟩⟩

/-- Those that are errors. -/
def nzF (fs : List S24) : List S24 := fs.filter fun f => f.f0 != 0
theorem nzF_cons (f : S24) (fs : List S24) : nzF (f :: fs) = if f.f0 = 0 then nzF fs else f :: nzF fs := by
  unfold nzF
  rw [List.filter_cons]
  by_cases h : f.f0 = 0
  · rw [if_pos h, if_neg (by simp [h])]
  · rw [if_neg h, if_pos (by simp [h])]
theorem first_l0 (fs : List S24) (hfs : fs.length ≤ 20) : ∀ (d k i : Nat), fs.length - i = d → i ≤ fs.length → d < k →
    ∃ r, sashref03_First.l0 k fs (fs.length : Int) (i : Int) = some r ∧ ((r = -1 ∧ nzF (fs.drop i) = []) ∨ ∃ q : Nat, r = q ∧ q < fs.length ∧ ∃ rest, nzF (fs.drop i) = fs.getD q zF :: rest) := by
  intro d
  induction d with
  | zero =>
    intro k i hd hi hk
    obtain ⟨k, rfl⟩ : ∃ m, k = m + 1 := ⟨k - 1, by omega⟩
    refine ⟨-1, ?_, .inl ⟨rfl, by rw [List.drop_eq_nil_of_le (by omega)]; rfl⟩⟩
    simp only [sashref03_First.l0]
    rw [if_neg (by omega)]
  | succ d ih =>
    intro k i hd hi hk
    obtain ⟨k, rfl⟩ : ∃ m, k = m + 1 := ⟨k - 1, by omega⟩
    have HE := Aside0.mk (wS i (by omega))
    simp only [sashref03_First.l0]
    rw [rdF, dropF fs i (by omega), nzF_cons, if_pos (by omega), if_pos (by omega), if_pos (by omega)]
    by_cases h : (fs.getD i zF).f0 = 0
    · rw [if_pos h, if_pos h]
      simp only [HE.out]
      exact ih k (i + 1) (by omega) (by omega) (by omega)
    · rw [if_neg h, if_neg h]
      exact ⟨_, rfl, .inr ⟨i, rfl, by omega, _, rfl⟩⟩
theorem first_all (fs : List S24) (hfs : fs.length ≤ 20) : ∃ r, sashref03_First.f 100 fs = some r ∧ ((r = -1 ∧ nzF fs = []) ∨ ∃ q : Nat, r = q ∧ q < fs.length ∧ ∃ rest, nzF fs = fs.getD q zF :: rest) := by
  unfold sashref03_First.f
  simpa using first_l0 fs hfs fs.length 100 0 (by omega) (by omega) (by omega)
theorem many_l0 (fs : List S24) (hfs : fs.length ≤ 20) : ∀ (d k i x : Nat), fs.length - i = d → i ≤ fs.length → d < k → x ≤ i →
    sashref03_Many.l0 k fs (x : Int) (fs.length : Int) (i : Int) = some ((x + (nzF (fs.drop i)).length : Nat) : Int) := by
  intro d
  induction d with
  | zero =>
    intro k i x hd hi hk hx
    obtain ⟨k, rfl⟩ : ∃ m, k = m + 1 := ⟨k - 1, by omega⟩
    simp only [sashref03_Many.l0]
    rw [if_neg (by omega), List.drop_eq_nil_of_le (by omega)]
    rfl
  | succ d ih =>
    intro k i x hd hi hk hx
    obtain ⟨k, rfl⟩ : ∃ m, k = m + 1 := ⟨k - 1, by omega⟩
    have HE := Aside0.mk (wS i (by omega))
    have HX := Aside0.mk (wS x (by omega))
    simp only [sashref03_Many.l0]
    rw [rdF, dropF fs i (by omega), nzF_cons, if_pos (by omega), if_pos (by omega), if_pos (by omega)]
    by_cases h : (fs.getD i zF).f0 = 0
    · rw [if_pos h, if_pos h]
      simp only [HE.out]
      exact ih k (i + 1) x (by omega) (by omega) (by omega) (by omega)
    · rw [if_neg h, if_neg h]
      simp only [HE.out, HX.out]
      rw [ih k (i + 1) (x + 1) (by omega) (by omega) (by omega) (by omega), List.length_cons]
      congr 2; omega
theorem many_all (fs : List S24) (hfs : fs.length ≤ 20) : sashref03_Many.f 100 fs = some ((nzF fs).length : Int) := by
  unfold sashref03_Many.f
  simpa using many_l0 fs hfs fs.length 100 0 0 (by omega) (by omega) (by omega) (by omega)
theorem has_l0 (fs : List S24) (hfs : fs.length ≤ 20) (a : Int) : ∀ (d k i : Nat), fs.length - i = d → i ≤ fs.length → d < k →
    sashref03_Has.l0 k fs a (fs.length : Int) (i : Int) = some ((fs.drop i).any fun f => f.f0 == a && a != 0) := by
  intro d
  induction d with
  | zero =>
    intro k i hd hi hk
    obtain ⟨k, rfl⟩ : ∃ m, k = m + 1 := ⟨k - 1, by omega⟩
    simp only [sashref03_Has.l0]
    rw [if_neg (by omega), List.drop_eq_nil_of_le (by omega)]
    rfl
  | succ d ih =>
    intro k i hd hi hk
    obtain ⟨k, rfl⟩ : ∃ m, k = m + 1 := ⟨k - 1, by omega⟩
    have HE := Aside0.mk (wS i (by omega))
    simp only [sashref03_Has.l0]
    rw [rdF, dropF fs i (by omega), List.any_cons, if_pos (by omega), if_pos (by omega), if_pos (by omega)]
    by_cases h : (fs.getD i zF).f0 = a
    · rw [if_pos h]
      by_cases h0 : a = 0
      · rw [if_pos h0]
        simp only [HE.out]
        rw [ih k (i + 1) (by omega) (by omega) (by omega), show (a != 0) = false from by simp [h0], Bool.and_false, Bool.false_or]
      · rw [if_neg h0, show ((fs.getD i zF).f0 == a) = true from beq_iff_eq.2 h, show (a != 0) = true from bne_iff_ne.2 h0]
        rfl
    · rw [if_neg h]
      simp only [HE.out]
      rw [ih k (i + 1) (by omega) (by omega) (by omega), show ((fs.getD i zF).f0 == a) = false from beq_eq_false_iff_ne.2 h]
      rfl
theorem has_all (fs : List S24) (hfs : fs.length ≤ 20) (a : Int) : sashref03_Has.f 100 fs a = some (fs.any fun f => f.f0 == a && a != 0) := by
  unfold sashref03_Has.f
  simpa using has_l0 fs hfs a fs.length 100 0 (by omega) (by omega) (by omega)

/-- What the errors of a row are. -/
def esOf (fs : List S24) : List (List (List ByteArray) × As.Base) := (nzF fs).map fun f => (insOf f.f2, .fault f.f0 f.f1)
theorem hits_es (fs : List S24) (a : Int) : As.hits (esOf fs) a = fs.any fun f => f.f0 == a && a != 0 := by
  unfold As.hits esOf
  induction fs with
  | nil => rfl
  | cons f fs ih =>
    rw [nzF_cons, List.any_cons, ← ih]
    by_cases h : f.f0 = 0
    · rw [if_pos h]
      by_cases ha : a = 0
      · subst ha; simp
      · have : (f.f0 == a) = false := by rw [h]; simp; omega
        rw [this]; simp
    · rw [if_neg h, List.map_cons, List.any_cons]
      have e : ((As.Base.fault f.f0 f.f1).code == a) = (f.f0 == a && a != 0) := by
        show (f.f0 == a) = _
        by_cases ha : f.f0 = a
        · subst ha; simp [h]
        · simp [ha]
      rw [← e]
end Go.Proofs.YtelmmcjlhjahcaaDoor
