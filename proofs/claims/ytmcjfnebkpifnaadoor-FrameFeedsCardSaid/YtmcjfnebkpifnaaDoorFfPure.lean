/-
  FrameFeeds: pure. The document's decoder, that is fed all bytes at once, against the code's, that is fed one at a time.
-/
import Derived.Test.YtmcjfnebkpifnaaDoorFrCutsP
namespace Go.Proofs.YtmcjfnebkpifnaaDoor
open Go.RowKit Go.Proofs.YtmcjfnebkpifnaaDoorW.PrintWords Go.Proofs.YtmcjfnebkpifnaaDoorW.PrintLast Go.Proofs.YtmcjfnebkpifnaaDoorW.PrintMore Go.Proofs.YtmcjfnebkpifnaaDoor.PFrameFeeds
set_option linter.unusedVariables false
set_option linter.unusedSimpArgs false

/-- What the document's decoder holds: the bytes that wait, how much was fed ahead of them, whether it is over. -/
structure RD where
  bytes : List Int
  fed : Int
  over : Bool
structure RF where
  d : RD
  frames : List S63
  no : Int
  at_ : Int
def RF.front (fs : List S63) (r : RF) : RF := { r with frames := fs ++ r.frames }
theorem RF.front_nil (r : RF) : RF.front [] r = r := rfl
theorem RF.front_front (a b : List S63) (r : RF) : RF.front a (RF.front b r) = RF.front (a ++ b) r := by simp [RF.front]

def rBad (left : List Int) : Prop := left ≠ [] ∧ (left.getD 0 0 < 1 ∨ 2 < left.getD 0 0)
instance (l : List Int) : Decidable (rBad l) := inferInstanceAs (Decidable (_ ∧ _))
def rFrame (left : List Int) : S63 := ⟨left.getD 0 0, strOfNums ((left.drop 5).take (frNum left).toNat)⟩
/-- From the bytes that are left on, with rounds k. -/
def refF : Nat → Int → List Int → RF
  | 0, F, left => ⟨⟨left, F, false⟩, [], 0, 0⟩
  | k + 1, F, left =>
    if rBad left then ⟨⟨[], 0, true⟩, [], 2, F⟩
    else if left.length < 5 then ⟨⟨left, F, false⟩, [], 0, 0⟩
    else if 65535 < frNum left then ⟨⟨[], 0, true⟩, [], 3, F + 4⟩
    else if (left.length : Int) < 5 + frNum left then ⟨⟨left, F, false⟩, [], 0, 0⟩
    else RF.front [rFrame left] (refF k (F + 5 + frNum left) (left.drop (5 + (frNum left).toNat)))

/-- Bytes that wait. -/
def Wt (b : List Int) : Prop := (b ≠ [] → b.getD 0 0 = 1 ∨ b.getD 0 0 = 2) ∧ (5 ≤ b.length → frNum b ≤ 65535 ∧ (b.length : Int) < 5 + frNum b)
theorem Wt.nil : Wt [] := ⟨fun h => absurd rfl h, fun h => absurd h (by decide)⟩

theorem refF_wait (k : Nat) (F : Int) (b : List Int) (h : Wt b) : refF k F b = ⟨⟨b, F, false⟩, [], 0, 0⟩ := by
  cases k with
  | zero => rfl
  | succ k =>
    unfold refF
    have h1 : ¬ rBad b := by
      intro hb
      have := h.1 hb.1
      have := hb.2
      omega
    rw [if_neg h1]
    by_cases h5 : b.length < 5
    · rw [if_pos h5]
    · obtain ⟨h2, h3⟩ := h.2 (by omega)
      rw [if_neg h5, if_neg (by omega), if_pos h3]

theorem getD0_append (a b : List Int) (h : a ≠ []) : (a ++ b).getD 0 0 = a.getD 0 0 := by
  cases a with
  | nil => exact absurd rfl h
  | cons x a => rfl
theorem frNum_takeF (bs : List Int) (j : Nat) (hj : 5 ≤ j) : frNum (bs.take j) = frNum bs := by
  have h : ∀ i, i < 5 → (bs.take j).getD i 0 = bs.getD i 0 := by
    intro i hi
    rw [List.getD_eq_getElem?_getD, List.getD_eq_getElem?_getD, List.getElem?_take, if_pos (by omega)]
  unfold frNum frPart frPart frPart frPart frPart
  rw [h 1 (by omega), h 2 (by omega), h 3 (by omega), h 4 (by omega)]

theorem frNum_append (a b : List Int) (h : 5 ≤ a.length) : frNum (a ++ b) = frNum a := by
  have := frNum_takeF (a ++ b) a.length h
  rw [List.take_left] at this
  exact this.symm
theorem not_bad (a b : List Int) (ha : a ≠ []) (h : a.getD 0 0 = 1 ∨ a.getD 0 0 = 2) : ¬ rBad (a ++ b) := by
  intro hb
  have h2 := hb.2
  rw [getD0_append a b ha] at h2
  omega

/-- The two answers say the same. -/
def Agree (r : DS × List S63 × Option (Int × Int)) (q : RF) : Prop :=
  r.2.1 = q.frames ∧ eC r.2.2 = q.no ∧ eA r.2.2 = q.at_ ∧ r.1.over = q.d.over ∧ (r.2.2 = none ↔ q.no = 0) ∧ (r.1.over = true ↔ q.no ≠ 0) ∧
    (q.d.over = false → q.d.bytes = r.1.bytes ∧ q.d.fed = r.1.fed - r.1.bytes.length ∧ Wt r.1.bytes) ∧ (q.d.over = true → q.d.bytes = [])
theorem Agree.front {r : DS × List S63 × Option (Int × Int)} {q : RF} (f : List S63) (h : Agree r q) : Agree (ahead f r) (RF.front f q) := by
  obtain ⟨h1, h2, h3, h4, h5, h6, h7, h8⟩ := h
  exact ⟨by simp [ahead, RF.front, h1], h2, h3, h4, h5, h6, h7, h8⟩

theorem feed_agree (xs : List Int) : ∀ (s : DS) (k : Nat), Wt s.bytes → s.over = false → Bytes (s.bytes ++ xs) → xs.length < k → Agree (s.feedL xs) (refF k (s.fed - s.bytes.length) (s.bytes ++ xs)) := by
  induction xs with
  | nil =>
    intro s k hW ho _ _
    rw [feedL_nil, List.append_nil, refF_wait _ _ _ hW]
    exact ⟨rfl, rfl, rfl, ho, by simp, by simp [ho], fun _ => ⟨rfl, rfl, hW⟩, fun h => by cases h⟩
  | cons b t ih =>
    intro s k hW ho hB hk
    obtain ⟨k, rfl⟩ : ∃ m, k = m + 1 := ⟨k - 1, by simp at hk; omega⟩
    have hk' : t.length < k := by simp at hk; omega
    obtain ⟨bs, hbs⟩ : ∃ bs, bs = s.bytes ++ [b] := ⟨_, rfl⟩
    have hcat : s.bytes ++ b :: t = bs ++ t := by rw [hbs]; simp
    have hlen : bs.length = s.bytes.length + 1 := by rw [hbs]; simp
    have hne : bs ≠ [] := by intro h; rw [h] at hlen; simp at hlen
    rw [hcat] at hB ⊢
    have hBb : Bytes bs := fun x hx => hB x (List.mem_append_left _ hx)
    have hnn := (frNum_bd hBb).1
    by_cases hw : frWrong bs = 0
    · -- nothing is wrong
      have hh : bs.getD 0 0 = 1 ∨ bs.getD 0 0 = 2 := by
        by_cases h0 : s.bytes = []
        · unfold frWrong at hw
          have hl1 : bs.length = 1 := by rw [hlen, h0]; rfl
          by_cases hc : bs.length = 1 ∧ bs.getD 0 0 ≠ 1 ∧ bs.getD 0 0 ≠ 2
          · rw [if_pos hc] at hw; exact absurd hw (by decide)
          · omega
        · have := hW.1 h0
          rw [hbs, getD0_append _ _ h0]; exact this
      have hn65 : 5 ≤ bs.length → frNum bs ≤ 65535 := by
        intro h5
        by_cases h6 : bs.length = 5
        · unfold frWrong at hw
          rw [if_neg (by omega)] at hw
          by_cases hc : bs.length = 5 ∧ 65535 < frNum bs
          · rw [if_pos hc] at hw; exact absurd hw (by decide)
          · omega
        · have := (hW.2 (by omega)).1
          rw [hbs, frNum_append _ _ (by omega)]; exact this
      by_cases hi : frIs bs
      · have hi' := hi
        obtain ⟨hi5, hiN⟩ := hi'
        have hex : (bs.length : Int) = 5 + frNum bs := by
          by_cases h6 : bs.length = 5
          · omega
          · have h7 := (hW.2 (by omega)).2
            have e : frNum bs = frNum s.bytes := by rw [hbs, frNum_append _ _ (by omega)]
            omega
        have hnum := frNum_append bs t hi5
        rw [feedL_whole s b t (by rw [← hbs]; exact hw) (by rw [← hbs]; exact hi), ← hbs]
        have hu : refF (k + 1) (s.fed - s.bytes.length) (bs ++ t) = RF.front [rFrame (bs ++ t)] (refF k (s.fed - s.bytes.length + 5 + frNum (bs ++ t)) ((bs ++ t).drop (5 + (frNum (bs ++ t)).toNat))) := by
          rw [refF, if_neg (not_bad bs t hne hh), if_neg (by rw [List.length_append]; omega), if_neg (by rw [hnum]; have := hn65 hi5; omega), if_neg (by rw [hnum, List.length_append]; omega)]
        rw [hu]
        have hd : (bs ++ t).drop (5 + (frNum (bs ++ t)).toNat) = t := by
          rw [hnum]
          have : 5 + (frNum bs).toNat = bs.length := by omega
          rw [this, List.drop_left]
        have hfr : rFrame (bs ++ t) = (⟨bs.getD 0 0, strOfNums (bs.drop 5)⟩ : S63) := by
          unfold rFrame
          rw [getD0_append bs t hne, hnum, List.drop_append_of_le_length hi5, List.take_append_of_le_length (by rw [List.length_drop]; omega), List.take_of_length_le (by rw [List.length_drop]; omega)]
        rw [hd, hfr]
        refine Agree.front _ ?_
        have := ih { bytes := [], fed := s.fed + 1, over := s.over } k Wt.nil ho (fun x hx => hB x (List.mem_append_right _ (by simpa using hx))) hk'
        have e : s.fed - s.bytes.length + 5 + frNum (bs ++ t) = (s.fed + 1) - (([] : List Int).length : Int) := by rw [hnum]; simp; omega
        rw [e]
        simpa using this
      · have hWb : Wt bs := ⟨fun _ => hh, fun h5 => ⟨hn65 h5, by unfold frIs at hi; omega⟩⟩
        rw [feedL_wait s b t (by rw [← hbs]; exact hw) (by rw [← hbs]; exact hi), ← hbs]
        have := ih { bytes := bs, fed := s.fed + 1, over := s.over } (k + 1) hWb ho hB (by omega)
        have e : (s.fed + 1) - (bs.length : Int) = s.fed - s.bytes.length := by omega
        simp only at this
        rw [e] at this
        exact this
    · -- the last byte is wrong
      rw [feedL_wrong s b t (by rw [← hbs]; exact hw), ← hbs]
      unfold frWrong at hw ⊢
      by_cases hc : bs.length = 1 ∧ bs.getD 0 0 ≠ 1 ∧ bs.getD 0 0 ≠ 2
      · rw [if_pos hc]
        have hbad : rBad (bs ++ t) := ⟨by simp [hne], by
          rw [getD0_append bs t hne]
          have := hc.2
          have := (hBb.getD 0)
          omega⟩
        rw [refF, if_pos hbad]
        have h0 : s.bytes.length = 0 := by omega
        exact ⟨rfl, rfl, by simp [eA, h0], rfl, by simp, by simp, fun h => (by cases h), fun _ => rfl⟩
      · rw [if_neg hc] at hw ⊢
        by_cases hc2 : bs.length = 5 ∧ 65535 < frNum bs
        · rw [if_pos hc2]
          have hsn : s.bytes ≠ [] := by intro h; rw [h] at hlen; simp at hlen; omega
          have hh := hW.1 hsn
          have hh2 : bs.getD 0 0 = 1 ∨ bs.getD 0 0 = 2 := by rw [hbs, getD0_append _ _ hsn]; exact hh
          rw [refF, if_neg (not_bad bs t hne hh2), if_neg (by rw [List.length_append]; omega), if_pos (by rw [frNum_append _ _ (by omega)]; exact hc2.2)]
          exact ⟨rfl, rfl, by simp [eA]; omega, rfl, by simp, by simp, fun h => (by cases h), fun _ => rfl⟩
        · rw [if_neg hc2] at hw; exact absurd rfl hw
end Go.Proofs.YtmcjfnebkpifnaaDoor
