/-
  Texts with sums, cut and put: pure.
-/
import Derived.Test.YtlnipkhdaikdkaaDoorSuCut
import Derived.Lib.Strings
namespace Go.Proofs.YtlnipkhdaikdkaaDoor
open Go.RowKit Go.Proofs.YtlnipkhdaikdkaaDoorW.PrintWords Go.Proofs.YtlnipkhdaikdkaaDoorW.PrintLast Go.Proofs.YtlnipkhdaikdkaaDoorW.PrintMore
set_option linter.unusedVariables false

theorem data_ext {a b : ByteArray} (h : a.data.toList = b.data.toList) : a = b := by
  apply ByteArray.ext
  exact Array.ext' h
theorem headed_data (n : Int) (t : ByteArray) : (hex4 n ++ (⟨#[44]⟩ : ByteArray) ++ t).data.toList = [dgt (n / 4096), dgt (n / 256 % 16), dgt (n / 16 % 16), dgt (n % 16), 44] ++ t.data.toList := by
  rw [ByteArray.data_append, ByteArray.data_append, Array.toList_append, Array.toList_append]
  rfl
theorem headed_size (n : Int) (t : ByteArray) : (hex4 n ++ (⟨#[44]⟩ : ByteArray) ++ t).size = t.size + 5 := by
  rw [ByteArray.size_append, ByteArray.size_append, hex4_size, show (⟨#[44]⟩ : ByteArray).size = 1 from rfl]
  omega
theorem headed_04 (n : Int) (t : ByteArray) : (hex4 n ++ (⟨#[44]⟩ : ByteArray) ++ t).extract 0 4 = hex4 n := by
  apply data_ext
  rw [Lib.extract_data, headed_data]
  rfl
theorem headed_05 (n : Int) (t : ByteArray) : (hex4 n ++ (⟨#[44]⟩ : ByteArray) ++ t).extract 0 5 = hex4 n ++ (⟨#[44]⟩ : ByteArray) := by
  apply data_ext
  rw [Lib.extract_data, headed_data]
  rfl
theorem headed_rest (n : Int) (t : ByteArray) : (hex4 n ++ (⟨#[44]⟩ : ByteArray) ++ t).extract 5 (hex4 n ++ (⟨#[44]⟩ : ByteArray) ++ t).size = t := by
  apply data_ext
  rw [Lib.extract_data, headed_data, headed_size]
  exact List.take_of_length_le (by simp)
theorem headed_bt (n : Int) (t : ByteArray) : bt (hex4 n ++ (⟨#[44]⟩ : ByteArray) ++ t) 4 = 44 := by
  have hz := headed_size n t
  have h4 : 4 < (hex4 n ++ (⟨#[44]⟩ : ByteArray) ++ t).size := by omega
  rw [bt4 _ h4]
  have hl : 4 < (hex4 n ++ (⟨#[44]⟩ : ByteArray) ++ t).data.toList.length := by rw [slen]; exact h4
  have e : (hex4 n ++ (⟨#[44]⟩ : ByteArray) ++ t)[4] = (hex4 n ++ (⟨#[44]⟩ : ByteArray) ++ t).data.toList[4] := rfl
  have e2 : (hex4 n ++ (⟨#[44]⟩ : ByteArray) ++ t).data.toList[4]? = some 44 := by rw [headed_data]; rfl
  rw [List.getElem?_eq_getElem hl] at e2
  rw [e, Option.some.inj e2]
  rfl
theorem cut_any (n : Int) (h0 : 0 ≤ n) (h1 : n < 65536) (t : ByteArray) (ht : t.size ≤ 65530) : cutR (hex4 n ++ (⟨#[44]⟩ : ByteArray) ++ t) = if n = sumL 0 t.data.toList then (t, 0) else (⟨#[]⟩, 4) := by
  have hz := headed_size n t
  unfold cutR
  rw [if_neg (by omega), if_neg (by omega), headed_bt, if_neg (by simp), headed_04, unhex_hex4 n h0 h1]
  simp only
  rw [headed_rest]
theorem cut_put (s : ByteArray) (hs : s.size ≤ 65530) : cutR (putS s) = (s, 0) := by
  have hr := sumL_range s.data.toList 0 (by omega) (by omega)
  unfold putS
  rw [cut_any _ hr.1 hr.2 s hs, if_pos rfl]
theorem cutR_zero (s : ByteArray) (h : (cutR s).2 = 0) : putS (cutR s).1 = s ∧ (cutR s).1.size ≤ s.size := by
  unfold cutR at h ⊢
  by_cases h1 : 65535 < s.size
  · rw [if_pos h1] at h; exact absurd h (by decide)
  · rw [if_neg h1] at h ⊢
    by_cases h2 : s.size < 5
    · rw [if_pos h2] at h; exact absurd h (by decide)
    · rw [if_neg h2] at h ⊢
      by_cases h3 : ¬ bt s 4 = 44
      · rw [if_pos h3] at h; exact absurd h (by decide)
      · rw [if_neg h3] at h ⊢
        have h3' : bt s 4 = 44 := Decidable.not_not.1 h3
        rcases hu : unhexS (s.extract 0 4) with _ | c
        · rw [hu] at h; exact absurd (show (2 : Int) = 0 from h) (by decide)
        · rw [hu] at h
          simp only at h ⊢
          by_cases he : c = sumL 0 (s.extract 5 s.size).data.toList
          · rw [if_pos he]
            simp only
            refine ⟨?_, by simp⟩
            unfold putS
            rw [← he, hex4_unhex hu]
            apply data_ext
            rw [ByteArray.data_append, ByteArray.data_append, Array.toList_append, Array.toList_append, Lib.extract_data, Lib.extract_data, List.drop_zero]
            have h4 : 4 < s.size := by omega
            rw [bt4 s h4] at h3'
            have e44 : s.data.toList.drop 4 = 44 :: s.data.toList.drop 5 := by
              rw [sdrop s 4 h4]
              congr 1
              exact UInt8.toNat_inj.1 (by show (s[4]'h4).toNat = 44; omega)
            have e5 : (s.data.toList.drop 5).take (s.size - 5) = s.data.toList.drop 5 := List.take_of_length_le (by rw [List.length_drop, slen]; omega)
            rw [e5]
            conv => rhs; rw [← List.take_append_drop 4 s.data.toList, e44]
            simp
          · rw [if_neg he] at h; exact absurd h (by decide)
theorem cutR_two (s : ByteArray) : (cutR s).2 = 0 ∨ (cutR s).2 = 2 ∨ (cutR s).2 = 3 ∨ (cutR s).2 = 4 := by
  unfold cutR
  split
  · simp
  · split
    · simp
    · split
      · simp
      · split
        · simp
        · split <;> simp

theorem stepN_inj (x y b : Int) (x0 : 0 ≤ x) (x1 : x < 65536) (y0 : 0 ≤ y) (y1 : y < 65536) (h : stepN x b = stepN y b) : x = y := by
  unfold stepN at h
  obtain ⟨p, hp⟩ : ∃ p, p = x / 2 + x % 2 * 32768 := ⟨_, rfl⟩
  obtain ⟨q, hq⟩ : ∃ q, q = y / 2 + y % 2 * 32768 := ⟨_, rfl⟩
  have p0 : 0 ≤ p ∧ p < 65536 := by omega
  have q0 : 0 ≤ q ∧ q < 65536 := by omega
  rw [← hp, ← hq] at h
  have e : p = q := by clear hp hq; omega
  clear h
  have ex : x % 2 = 0 ∨ x % 2 = 1 := by omega
  have ey : y % 2 = 0 ∨ y % 2 = 1 := by omega
  rcases ex with ex | ex <;> rcases ey with ey | ey <;> rw [ex] at hp <;> rw [ey] at hq <;> omega
theorem sumL_inj : ∀ (l : List UInt8) (x y : Int), 0 ≤ x → x < 65536 → 0 ≤ y → y < 65536 → sumL x l = sumL y l → x = y
  | [], x, y, _, _, _, _, h => h
  | b :: r, x, y, x0, x1, y0, y1, h => by
    have hx := stepN_range x (b.toNat : Int); have hy := stepN_range y (b.toNat : Int)
    exact stepN_inj x y _ x0 x1 y0 y1 (sumL_inj r _ _ hx.1 hx.2 hy.1 hy.2 h)
theorem sum_tells (a r : List UInt8) (b c : UInt8) (h : sumL 0 (a ++ b :: r) = sumL 0 (a ++ c :: r)) : b = c := by
  rw [sumL_append, sumL_append] at h
  have hm := sumL_range a 0 (by omega) (by omega)
  have h1 := sumL_inj r _ _ (stepN_range _ _).1 (stepN_range _ _).2 (stepN_range _ _).1 (stepN_range _ _).2 h
  have hb := b.toNat_lt; have hc := c.toNat_lt
  apply UInt8.toNat_inj.1
  unfold stepN at h1
  omega
end Go.Proofs.YtlnipkhdaikdkaaDoor
