/-
  The reference's line of words: its values. Pure.
-/
import Derived.Test.YtelmmcjlhjahcaaDoorWqPure
import Derived.Test.YtelmmcjlhjahcaaDoorWqPrint
namespace Go.Proofs.YtelmmcjlhjahcaaDoor
open Go.RowKit Go.Proofs.YtelmmcjlhjahcaaDoorW.PrintWords Go.Proofs.YtelmmcjlhjahcaaDoorW.PrintLast Go.Proofs.YtelmmcjlhjahcaaDoorW.PrintMore Go.Proofs.YtelmmcjlhjahcaaDoor.PWordsQuote
set_option linter.unusedVariables false
set_option linter.unusedSimpArgs false

def plainB (b : UInt8) : Bool := plainSet.data.toList.contains b
theorem plain_f13 : ∀ i : Fin 256, sashref20_plain.f 13 ((UInt8.ofNat i.val).toNat : Int) = some (plainB (UInt8.ofNat i.val)) := by decide +kernel
theorem plain_f (b : UInt8) (k : Nat) (hk : 13 ≤ k) : sashref20_plain.f k (b.toNat : Int) = some (plainB b) := by
  induction k with
  | zero => omega
  | succ k ih =>
    by_cases h : k + 1 = 13
    · rw [h]
      have := plain_f13 ⟨b.toNat, b.toNat_lt⟩
      simpa using this
    · exact sashref20_plain.mono _ k _ (ih (by omega))

theorem bt_nat (s : ByteArray) (n : Nat) (h : n < s.size) : bt s (n : Int) = (s[n].toNat : Int) := by
  unfold bt
  rw [dif_pos (show ((n : Int)).toNat < s.size by omega)]
  rfl
theorem ext_one (s : ByteArray) (n : Nat) (h : n < s.size) : (s.extract n (n + 1)).data.toList = [s[n]] := by
  have h' : n < s.data.toList.length := by simpa using h
  rw [ByteArray.data_extract, Array.toList_extract, List.extract_eq_take_drop, Nat.add_sub_cancel_left, List.drop_eq_getElem_cons h']
  simp [ByteArray.getElem_eq_getElem_data]

theorem wrap_nat (n : Nat) (h : n < 4611686018427387904) : wrap64 ((n : Int) + 1) = ((n + 1 : Nat) : Int) := by
  unfold wrap64; omega

def qEnd (s x : ByteArray) (al : Bool) (n : Nat) : ByteArray :=
  if (al && (s.data.toList.drop n).all plainB) = true then s else ⟨(34 :: (x.data.toList ++ ((s.data.toList.drop n).flatMap escB ++ [34]))).toArray⟩

theorem quote_l0 (s : ByteArray) (hs : s.size ≤ 1000000) : ∀ (d n : Nat), s.size - n = d → n ≤ s.size → ∀ (k : Nat), d + 15 ≤ k → ∀ (x : ByteArray) (al : Bool), x.size ≤ 2 * n →
    sashref20_Quote.l0 k s x al (n : Int) = some (qEnd s x al n) := by
  intro d
  induction d with
  | zero =>
    intro n hd hn k hk x al hx
    obtain ⟨k, rfl⟩ : ∃ k', k = k' + 1 := ⟨k - 1, by omega⟩
    have hN : n = s.size := by omega
    have he : s.data.toList.drop n = [] := List.drop_eq_nil_of_le (by rw [hN]; simp)
    unfold sashref20_Quote.l0 qEnd
    rw [if_neg (by omega), he]
    cases al with
    | true => rfl
    | false =>
      have hz : ((⟨#[34]⟩ : ByteArray) ++ x).size = 1 + x.size := by rw [ByteArray.size_append]; rfl
      rw [if_neg (by decide), if_pos (by omega), if_pos (by rw [hz]; omega), if_neg (by simp)]
      apply congrArg some
      apply ByteArray.ext
      apply Array.toList_inj.1
      simp [ByteArray.data_append]
  | succ d ih =>
    intro n hd hn k hk x al hx
    obtain ⟨k, rfl⟩ : ∃ k', k = k' + 1 := ⟨k - 1, by omega⟩
    have hN : n < s.size := by omega
    have hb := bt_nat s n hN
    have hw := wrap_nat n (by omega)
    have he := drop_at s n hN
    have hx1 := ext_one s n hN
    have hx2 : (s.extract n (n + 1)).size = 1 := by rw [ByteArray.size_extract]; omega
    have h92 : (x ++ (⟨#[92]⟩ : ByteArray)).size = x.size + 1 := by rw [ByteArray.size_append]; rfl
    have step : ∀ (X : ByteArray) (al' : Bool), X.data.toList = x.data.toList ++ escB s[n] → al' = (al && plainB s[n]) → sashref20_Quote.l0 k s X al' ((n + 1 : Nat) : Int) = some (qEnd s x al n) := by
      intro X al' hX hal
      have hl : X.size ≤ 2 * (n + 1) := by
        have h1 := congrArg List.length hX
        have h2 : (escB s[n]).length ≤ 2 := by unfold escB; split <;> simp
        rw [List.length_append] at h1
        simp at h1
        omega
      rw [ih (n + 1) (by omega) (by omega) k (by omega) X al' hl]
      unfold qEnd
      rw [he, hX, hal]
      simp only [List.all_cons, List.flatMap_cons, Bool.and_assoc, List.append_assoc]
    have tn : ((n : Int)).toNat = n := by omega
    have tn1 : (((n + 1 : Nat) : Int)).toNat = n + 1 := by omega
    have e1 : (x ++ (⟨#[92]⟩ : ByteArray) ++ s.extract n (n + 1)).data.toList = x.data.toList ++ [92, s[n]] := by
      rw [ByteArray.data_append, ByteArray.data_append, Array.toList_append, Array.toList_append, hx1]; simp
    have e0 : (x ++ s.extract n (n + 1)).data.toList = x.data.toList ++ [s[n]] := by
      rw [ByteArray.data_append, Array.toList_append, hx1]
    unfold sashref20_Quote.l0
    rw [if_pos (by omega), hb, hw, tn, tn1]
    by_cases h34 : s[n].toNat = 34
    · have hE : escB s[n] = [92, s[n]] := by unfold escB; rw [if_pos (Or.inl h34)]
      cases al with
      | true =>
        rw [if_pos rfl, if_pos (by omega), plain_f _ k (by omega), Option.bind_some, if_pos (by omega), if_pos (by omega), if_pos (by omega), if_pos (by omega), if_pos (by rw [h92, hx2]; omega)]
        exact step _ _ (by rw [e1, hE]) (by simp)
      | false =>
        rw [if_neg (by decide), if_pos (by omega), if_pos (by omega), if_pos (by omega), if_pos (by omega), if_pos (by omega), if_pos (by rw [h92, hx2]; omega)]
        exact step _ _ (by rw [e1, hE]) (by simp)
    · by_cases h92' : s[n].toNat = 92
      · have hE : escB s[n] = [92, s[n]] := by unfold escB; rw [if_pos (Or.inr h92')]
        cases al with
        | true =>
          rw [if_pos rfl, if_pos (by omega), plain_f _ k (by omega), Option.bind_some, if_neg (by omega), if_pos (by omega), if_pos (by omega), if_pos (by omega), if_pos (by omega), if_pos (by rw [h92, hx2]; omega)]
          exact step _ _ (by rw [e1, hE]) (by simp)
        | false =>
          rw [if_neg (by decide), if_pos (by omega), if_neg (by omega), if_pos (by omega), if_pos (by omega), if_pos (by omega), if_pos (by omega), if_pos (by rw [h92, hx2]; omega)]
          exact step _ _ (by rw [e1, hE]) (by simp)
      · have hE : escB s[n] = [s[n]] := by unfold escB; rw [if_neg (by omega)]
        cases al with
        | true =>
          rw [if_pos rfl, if_pos (by omega), plain_f _ k (by omega), Option.bind_some, if_neg (by omega), if_neg (by omega), if_pos (by omega), if_pos (by omega), if_pos (by rw [hx2]; omega)]
          exact step _ _ (by rw [e0, hE]) (by simp)
        | false =>
          rw [if_neg (by decide), if_pos (by omega), if_neg (by omega), if_neg (by omega), if_pos (by omega), if_pos (by omega), if_pos (by rw [hx2]; omega)]
          exact step _ _ (by rw [e0, hE]) (by simp)

def quotedB (s : ByteArray) : ByteArray := ⟨(quotedL s.data.toList).toArray⟩
theorem quote_f (s : ByteArray) (hs : s.size ≤ 1000000) (k : Nat) (hk : s.size + 15 ≤ k) : sashref20_Quote.f k s = some (quotedB s) := by
  unfold sashref20_Quote.f
  have h := quote_l0 s hs s.size 0 (by omega) (by omega) k hk (⟨#[]⟩ : ByteArray) (s.toList != ([] : List UInt8)) (by decide)
  rw [show ((0 : Nat) : Int) = 0 from rfl] at h
  rw [h]
  apply congrArg some
  unfold qEnd quotedB quotedL bareL
  have e : (s.toList != ([] : List UInt8)) = !s.data.toList.isEmpty := by
    have : s.toList = s.data.toList := ByteArray.toList_eq s
    rw [this]; cases s.data.toList <;> rfl
  rw [e, List.drop_zero]
  show (if (!s.data.toList.isEmpty && s.data.toList.all plainB) = true then _ else _) = _
  by_cases h : (!s.data.toList.isEmpty && s.data.toList.all plainB) = true
  · rw [if_pos h]
    have h' : (!s.data.toList.isEmpty && s.data.toList.all (fun b => plainSet.data.toList.contains b)) = true := h
    rw [if_pos h']
  · rw [if_neg h]
    have h' : ¬ (!s.data.toList.isEmpty && s.data.toList.all (fun b => plainSet.data.toList.contains b)) = true := h
    rw [if_neg h']
    rfl

def tailL (l : List ByteArray) : List UInt8 := l.flatMap (fun s => 32 :: quotedL s.data.toList)
theorem line_tail : ∀ (xs : List ByteArray) (x : ByteArray), lineL ((x :: xs).map (·.data.toList)) = quotedL x.data.toList ++ tailL xs := by
  intro xs
  induction xs with
  | nil => intro x; simp [lineL, join_one, tailL]
  | cons y ys ih =>
    intro x
    have e : lineL ((x :: y :: ys).map (·.data.toList)) = quotedL x.data.toList ++ (32 :: lineL ((y :: ys).map (·.data.toList))) := by
      simp only [lineL, List.map_cons, join_two]
      rfl
    rw [e, ih y]
    rfl
def lineB (l : List ByteArray) : ByteArray := ⟨(lineL (l.map (·.data.toList))).toArray⟩
theorem quotedB_len (s : ByteArray) : (quotedB s).size ≤ 2 * s.size + 2 := by
  have h := quotedL_len s.data.toList
  have e : (quotedB s).size = (quotedL s.data.toList).length := by simp [quotedB, ByteArray.size]
  rw [e]
  simpa using h

theorem line_l0 (l : List ByteArray) (B : Nat) (hB : B ≤ 1000) (hl : l.length ≤ 1000) (hi : ∀ x ∈ l, x.size ≤ B) : ∀ (d n : Nat), l.length - n = d → 1 ≤ n → n ≤ l.length → ∀ (k : Nat), d + B + 20 ≤ k → ∀ (x : ByteArray), x.size ≤ 3000 * n →
    sashref20_Line.l0 k l x (l.length : Int) (n : Int) = some ⟨(x.data.toList ++ tailL (l.drop n)).toArray⟩ := by
  intro d
  induction d with
  | zero =>
    intro n hd h1 hn k hk x hx
    obtain ⟨k, rfl⟩ : ∃ k', k = k' + 1 := ⟨k - 1, by omega⟩
    have he : l.drop n = [] := List.drop_eq_nil_of_le (by omega)
    unfold sashref20_Line.l0
    rw [if_neg (by omega), he]
    simp [tailL]
  | succ d ih =>
    intro n hd h1 hn k hk x hx
    obtain ⟨k, rfl⟩ : ∃ k', k = k' + 1 := ⟨k - 1, by omega⟩
    have hN : n < l.length := by omega
    have hw := wrap_nat n (by omega)
    have he : l.drop n = l[n] :: l.drop (n + 1) := List.drop_eq_getElem_cons hN
    have hr : rdOf ByteArray.empty l (n : Int) = l[n] := by
      unfold rdOf
      rw [show ((n : Int)).toNat = n by omega]
      simp [hN]
    have hs := hi l[n] (List.getElem_mem hN)
    have hq := quotedB_len l[n]
    have h32 : (x ++ (⟨#[32]⟩ : ByteArray)).size = x.size + 1 := by rw [ByteArray.size_append]; rfl
    unfold sashref20_Line.l0
    rw [if_pos (by omega), if_pos (by omega), if_pos (by omega), if_pos (by omega), if_pos (by omega), hr, quote_f _ (by omega) k (by omega), Option.bind_some, if_pos (by rw [h32]; omega), hw,
      ih (n + 1) (by omega) (by omega) (by omega) k (by omega) _ (by rw [ByteArray.size_append, h32]; omega), he]
    apply congrArg some
    apply ByteArray.ext
    apply Array.toList_inj.1
    generalize l.drop (n + 1) = t
    generalize l[n] = y
    simp [tailL, quotedB]

theorem line_f (l : List ByteArray) (B : Nat) (hB : B ≤ 1000) (hl : l.length ≤ 1000) (hi : ∀ x ∈ l, x.size ≤ B) (k : Nat) (hk : l.length + B + 21 ≤ k) : sashref20_Line.f k l = some (lineB l) := by
  obtain ⟨k, rfl⟩ : ∃ k', k = k' + 1 := ⟨k - 1, by omega⟩
  unfold sashref20_Line.f
  cases l with
  | nil => rfl
  | cons x xs =>
    have hs := hi x (by simp)
    have hq := quotedB_len x
    have hw := wrap_nat 0 (by omega)
    have hr : rdOf ByteArray.empty (x :: xs) 0 = x := rfl
    have hz : ((⟨#[]⟩ : ByteArray)).size = 0 := rfl
    have hL : (x :: xs).length = xs.length + 1 := List.length_cons
    unfold sashref20_Line.l0
    rw [if_pos (by omega), if_neg (by omega), if_pos (by omega), if_pos (by omega), hr, quote_f _ (by omega) k (by omega), Option.bind_some, if_pos (by rw [hz]; omega),
      show wrap64 ((0 : Int) + 1) = ((1 : Nat) : Int) from hw, line_l0 (x :: xs) B hB hl hi xs.length 1 (by omega) (by omega) (by omega) k (by omega) _ (by rw [ByteArray.size_append, hz]; omega)]
    apply congrArg some
    apply ByteArray.ext
    apply Array.toList_inj.1
    have := line_tail xs x
    show _ = (lineL ((x :: xs).map (·.data.toList)))
    rw [this]
    simp [quotedB]
end Go.Proofs.YtelmmcjlhjahcaaDoor
