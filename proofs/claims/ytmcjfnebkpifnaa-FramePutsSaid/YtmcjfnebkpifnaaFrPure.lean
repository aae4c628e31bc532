/-
  The plain law of FramePuts: the bytes of frames, there and back. No memory in it.
-/
import Derived.Test.YtmcjfnebkpifnaaFrRead
import Derived.Test.YtmcjfnebkpifnaaPFramePutsx3
namespace Go.Proofs.Ytmcjfnebkpifnaa
open Go.RowKit Go.Proofs.YtmcjfnebkpifnaaW.PrintWords Go.Proofs.YtmcjfnebkpifnaaW.PrintLast Go.Proofs.YtmcjfnebkpifnaaW.PrintMore Go.Proofs.Ytmcjfnebkpifnaa.PFramePuts
set_option linter.unusedVariables false
set_option linter.unusedSimpArgs false

def putS (f : S25) : List Int × Int :=
  if f.f0 ≠ 1 ∧ f.f0 ≠ 2 then ([], 1) else if 65535 < f.f1.size then ([], 3) else ([f.f0, 0, 0, ((f.f1.size : Int) / 256) % 256, (f.f1.size : Int) % 256] ++ bytesOf f.f1, 0)
def putAllS : List Int → List S25 → List Int × Int
  | acc, [] => (acc, 0)
  | acc, f :: t => if (putS f).2 = 0 then putAllS (acc ++ (putS f).1) t else ([], (putS f).2)

theorem put_f (k : Nat) (f : S25) (hs : f.f1.size ≤ 500) : frame_put.f (k + 1) f.f0 f.f1 = some (putS f) := by
  unfold frame_put.f putS
  by_cases h1 : f.f0 = 1
  · rw [if_pos h1, if_neg (by omega), if_neg (by omega)]
    simp only [frame_put.j0]
    rw [if_neg (by decide), if_neg (by omega)]
    simp only [Option.bind_some]
    rw [if_pos (by simp; omega)]
  · rw [if_neg h1]
    by_cases h2 : f.f0 = 2
    · rw [if_neg (by omega), if_neg (by omega)]
      simp only [frame_put.j0]
      rw [if_neg (by simp [h2]), if_neg (by omega)]
      simp only [Option.bind_some]
      rw [if_pos (by simp; omega)]
    · rw [if_pos ⟨h1, h2⟩]
      simp only [frame_put.j0]
      rw [if_pos (by simpa using h2)]

theorem putS_len (f : S25) (hs : f.f1.size ≤ 500) : (putS f).1.length ≤ 505 := by
  unfold putS
  split
  · simp
  · split
    · simp
    · simp [bytesOf_length]; omega

theorem drop_getD (l : List S25) (i : Int) (h0 : 0 ≤ i) (h1 : i < l.length) : l.drop i.toNat = rd_T25 l i :: l.drop (i + 1).toNat := by
  have hl : i.toNat < l.length := by omega
  have e : (i + 1).toNat = i.toNat + 1 := by omega
  rw [List.drop_eq_getElem_cons hl, e]
  unfold rd_T25
  rw [List.getD_eq_getElem?_getD, List.getElem?_eq_getElem hl]
  rfl

theorem rd_mem (l : List S25) (i : Int) (h0 : 0 ≤ i) (h1 : i < l.length) : rd_T25 l i ∈ l := by
  have hl : i.toNat < l.length := by omega
  unfold rd_T25
  rw [List.getD_eq_getElem?_getD, List.getElem?_eq_getElem hl]
  exact List.getElem_mem hl

theorem Put_l0 (l : List S25) (hl : l.length ≤ 30) (hs : ∀ f ∈ l, f.f1.size ≤ 500) (d : Nat) : ∀ (k : Nat) (acc : List Int) (i : Int), 0 ≤ i → i ≤ l.length → (l.length : Int) - i = d → d + 1 < k → acc.length + 505 * d ≤ 1000000 →
    frame_Put.l0 k acc l (l.length : Int) i = some (putAllS acc (l.drop i.toNat)) := by
  induction d with
  | zero =>
    intro k acc i h0 h1 hd hk ha
    obtain ⟨k, rfl⟩ : ∃ m, k = m + 1 := ⟨k - 1, by omega⟩
    simp only [frame_Put.l0]
    rw [if_neg (by omega), List.drop_eq_nil_of_le (by omega)]
    rfl
  | succ d ih =>
    intro k acc i h0 h1 hd hk ha
    obtain ⟨k, rfl⟩ : ∃ m, k = m + 2 := ⟨k - 2, by omega⟩
    have hlt : i < (l.length : Int) := by omega
    have hf := hs _ (rd_mem l i h0 hlt)
    have hlen := putS_len _ hf
    have e : wrap64 (i + 1) = i + 1 := by unfold wrap64; omega
    rw [drop_getD l i h0 hlt]
    simp only [frame_Put.l0, putAllS]
    rw [if_pos hlt, if_pos h0, if_pos hlt, put_f k _ hf]
    simp only [Option.bind_some]
    by_cases hz : (putS (rd_T25 l i)).2 = 0
    · rw [if_pos hz, if_pos hz, if_pos (by omega), e]
      exact ih (k + 1) _ (i + 1) (by omega) (by omega) (by omega) (by omega) (by rw [List.length_append]; omega)
    · rw [if_neg hz, if_neg hz]

theorem Put_f (l : List S25) (hl : l.length ≤ 30) (hs : ∀ f ∈ l, f.f1.size ≤ 500) (k : Nat) (hk : 600 ≤ k) : frame_Put.f k l = some (putAllS [] l) := by
  unfold frame_Put.f
  have h := Put_l0 l hl hs l.length k [] 0 (by omega) (by omega) (by omega) (by omega) (by simp; omega)
  simpa using h

theorem bytes_take (s : ByteArray) (i : Int) (h0 : 0 ≤ i) (h1 : i < s.size) : (bytesOf s).take (i + 1).toNat = (bytesOf s).take i.toNat ++ [bt s i] := by
  have e : (i + 1).toNat = i.toNat + 1 := by omega
  have hl : i.toNat < (bytesOf s).length := by rw [bytesOf_length]; omega
  rw [e, List.take_add_one, List.getElem?_eq_getElem hl]
  have h := rd_bytesOf s i
  unfold rd at h
  rw [List.getD_eq_getElem?_getD, List.getElem?_eq_getElem hl] at h
  simp at h
  rw [← h]; rfl

theorem ref_l0 (f0 : Int) (s : ByteArray) (hs : s.size ≤ 500) (hd : List Int) (d : Nat) : ∀ (k : Nat) (i : Int), 0 ≤ i → i ≤ s.size → (s.size : Int) - i = d → d < k → hd.length ≤ 5 →
    sashref23_Put.l0 k (s.size : Int) (hd ++ (bytesOf s).take i.toNat) i f0 s = some (hd ++ bytesOf s, 0) := by
  induction d with
  | zero =>
    intro k i h0 h1 hd' hk hh
    obtain ⟨k, rfl⟩ : ∃ m, k = m + 1 := ⟨k - 1, by omega⟩
    simp only [sashref23_Put.l0]
    rw [if_neg (by omega), List.take_of_length_le (by rw [bytesOf_length]; omega)]
  | succ d ih =>
    intro k i h0 h1 hd' hk hh
    obtain ⟨k, rfl⟩ : ∃ m, k = m + 1 := ⟨k - 1, by omega⟩
    have hlt : i < (s.size : Int) := by omega
    have e : wrap64 (i + 1) = i + 1 := by unfold wrap64; omega
    simp only [sashref23_Put.l0]
    rw [if_pos hlt, if_pos h0, if_pos hlt, if_pos (by rw [List.length_append, List.length_take, bytesOf_length]; omega), e, List.append_assoc, ← bytes_take s i h0 hlt]
    exact ih k (i + 1) (by omega) (by omega) (by omega) (by omega) hh

theorem ref_put (k : Nat) (hk : 510 ≤ k) (f : S25) (hs : f.f1.size ≤ 500) : sashref23_Put.f k f.f0 f.f1 = some (putS f) := by
  obtain ⟨k, rfl⟩ : ∃ m, k = m + 1 := ⟨k - 1, by omega⟩
  have e : wrap64 ((f.f1.size : Int) / 256) = (f.f1.size : Int) / 256 := by unfold wrap64; omega
  unfold sashref23_Put.f putS
  by_cases h1 : f.f0 < 1
  · rw [if_pos h1, if_pos (by omega)]
    simp only [sashref23_Put.j0]
    rw [if_pos trivial]
  · rw [if_neg h1]
    by_cases h2 : f.f0 > 2
    · rw [if_pos (by omega)]
      simp only [sashref23_Put.j0]
      rw [if_pos (by simpa using h2)]
    · rw [if_neg (by omega), if_neg (by omega)]
      simp only [sashref23_Put.j0]
      rw [if_neg (by simpa using h2), if_neg (by omega), e]
      have h := ref_l0 f.f0 f.f1 hs [f.f0, 0, 0, ((f.f1.size : Int) / 256) % 256, (f.f1.size : Int) % 256] f.f1.size k 0 (by omega) (by omega) (by omega) (by omega) (by simp)
      simpa using h

theorem All_l0 (B : Nat) (hB : 510 ≤ B) (l : List S25) (hl : l.length ≤ 30) (hs : ∀ f ∈ l, f.f1.size ≤ 500) (d : Nat) : ∀ (k : Nat) (acc : List Int) (i : Int), 0 ≤ i → i ≤ l.length → (l.length : Int) - i = d → d + B < k → acc.length + 505 * d ≤ 1000000 →
    sashref23_All.l0 k l acc (l.length : Int) i = some (putAllS acc (l.drop i.toNat)) := by
  induction d with
  | zero =>
    intro k acc i h0 h1 hd hk ha
    obtain ⟨k, rfl⟩ : ∃ m, k = m + 1 := ⟨k - 1, by omega⟩
    simp only [sashref23_All.l0]
    rw [if_neg (by omega), List.drop_eq_nil_of_le (by omega)]
    rfl
  | succ d ih =>
    intro k acc i h0 h1 hd hk ha
    obtain ⟨k, rfl⟩ : ∃ m, k = m + 1 := ⟨k - 1, by omega⟩
    have hlt : i < (l.length : Int) := by omega
    have hf := hs _ (rd_mem l i h0 hlt)
    have hlen := putS_len _ hf
    have e : wrap64 (i + 1) = i + 1 := by unfold wrap64; omega
    rw [drop_getD l i h0 hlt]
    simp only [sashref23_All.l0, putAllS]
    have hk2 : B ≤ k := by omega
    rw [if_pos hlt, if_pos h0, if_pos hlt, ref_put k (Nat.le_trans hB hk2) _ hf]
    simp only [Option.bind_some]
    by_cases hz : (putS (rd_T25 l i)).2 = 0
    · rw [if_pos hz, if_pos hz, if_pos (by omega), e]
      exact ih k _ (i + 1) (by omega) (by omega) (by omega) (by omega) (by rw [List.length_append]; omega)
    · rw [if_neg hz, if_neg hz]
theorem All_f (l : List S25) (hl : l.length ≤ 30) (hs : ∀ f ∈ l, f.f1.size ≤ 500) (k : Nat) (hk : 600 ≤ k) : sashref23_All.f k l = some (putAllS [] l) := by
  unfold sashref23_All.f
  have h := All_l0 550 (by decide) l hl hs l.length k [] 0 (by omega) (by omega) (by omega) (by omega) (by simp; omega)
  simpa using h

theorem nums_bytes (s : ByteArray) : strOfNums (bytesOf s) = s := by
  unfold strOfNums bytesOf
  cases s with
  | mk a =>
    simp only [List.map_map]
    congr 1
    have : (fun n : Int => UInt8.ofNat n.toNat) ∘ (fun b : UInt8 => (b.toNat : Int)) = id := by
      funext b
      simp
    rw [this]
    simp

theorem bytesOf_bytes (s : ByteArray) : Bytes (bytesOf s) := by
  intro x hx
  obtain ⟨b, _, rfl⟩ := List.mem_map.1 hx
  have h := UInt8.toNat_lt b
  exact ⟨Int.natCast_nonneg _, by omega⟩

/-- The beginnings of a frame's bytes. -/
theorem frNum_take (bs : List Int) (j : Nat) (hj : 5 ≤ j) : frNum (bs.take j) = frNum bs := by
  have h : ∀ i, i < 5 → (bs.take j).getD i 0 = bs.getD i 0 := by
    intro i hi
    rw [List.getD_eq_getElem?_getD, List.getD_eq_getElem?_getD, List.getElem?_take, if_pos (by omega)]
  unfold frNum frPart frPart frPart frPart frPart
  rw [h 1 (by omega), h 2 (by omega), h 3 (by omega), h 4 (by omega)]

theorem putS_num (f : S25) (hs : f.f1.size ≤ 500) (h : (putS f).2 = 0) : (f.f0 = 1 ∨ f.f0 = 2) ∧ (putS f).1 = [f.f0, 0, 0, ((f.f1.size : Int) / 256) % 256, (f.f1.size : Int) % 256] ++ bytesOf f.f1 := by
  unfold putS at h ⊢
  by_cases h1 : f.f0 ≠ 1 ∧ f.f0 ≠ 2
  · rw [if_pos h1] at h; simp at h
  · rw [if_neg h1, if_neg (by omega)]
    exact ⟨by omega, rfl⟩

theorem putS_head (f0 : Int) (s : ByteArray) (hs : s.size ≤ 500) : frNum ([f0, 0, 0, ((s.size : Int) / 256) % 256, (s.size : Int) % 256] ++ bytesOf s) = s.size := by
  simp [frNum, frPart]
  omega

/-- A decoder that is fed a frame's bytes tells that frame. -/
theorem feed_rest (bs : List Int) (f : S25) (t : List Int) (hw : ∀ j, 0 < j → frWrong (bs.take j) = 0) (hi : ∀ j, j < bs.length → ¬ frIs (bs.take j)) (hI : frIs bs) (h0 : bs.getD 0 0 = f.f0) (h1 : strOfNums (bs.drop 5) = f.f1) (d : Nat) :
    ∀ (j : Nat) (F : Int) (o : Bool), j < bs.length → bs.length - j = d → DS.feedL { bytes := bs.take j, fed := F, over := o } (bs.drop j ++ t) = ahead [f] (DS.feedL { bytes := [], fed := F + d, over := o } t) := by
  induction d with
  | zero => intro j F o hj hd; omega
  | succ d ih =>
    intro j F o hj hd
    have e1 : bs.drop j = bs[j] :: bs.drop (j + 1) := List.drop_eq_getElem_cons hj
    have e2 : bs.take j ++ [bs[j]] = bs.take (j + 1) := by rw [List.take_add_one, List.getElem?_eq_getElem hj]; rfl
    rw [e1, List.cons_append]
    by_cases hl : j + 1 = bs.length
    · have e3 : bs.take (j + 1) = bs := by rw [hl, List.take_length]
      have hw0 := hw (j + 1) (by omega)
      rw [e3] at hw0
      rw [feedL_whole _ _ _ (by show frWrong (bs.take j ++ [bs[j]]) = 0; rw [e2, e3]; exact hw0) (by show frIs (bs.take j ++ [bs[j]]); rw [e2, e3]; exact hI)]
      have e4 : bs.drop (j + 1) = [] := List.drop_eq_nil_of_le (by omega)
      have e5 : d = 0 := by omega
      subst e5
      rw [e4, List.nil_append]
      simp only [e2, e3, h0, h1]
      rfl
    · rw [feedL_wait _ _ _ (by show frWrong (bs.take j ++ [bs[j]]) = 0; rw [e2]; exact hw _ (by omega)) (by show ¬ frIs (bs.take j ++ [bs[j]]); rw [e2]; exact hi _ (by omega))]
      simp only [e2]
      rw [ih (j + 1) (F + 1) o (by omega) (by omega)]
      congr 3
      push_cast
      omega

theorem feed_frame (f : S25) (hs : f.f1.size ≤ 500) (hz : (putS f).2 = 0) (F : Int) (o : Bool) (t : List Int) :
    DS.feedL { bytes := [], fed := F, over := o } ((putS f).1 ++ t) = ahead [f] (DS.feedL { bytes := [], fed := F + (putS f).1.length, over := o } t) := by
  obtain ⟨hk, hb⟩ := putS_num f hs hz
  have hn := putS_head f.f0 f.f1 hs
  obtain ⟨bs, hbs⟩ : ∃ bs, bs = (putS f).1 := ⟨_, rfl⟩
  rw [← hbs]
  rw [← hbs] at hb
  rw [← hb] at hn
  have hl : bs.length = 5 + f.f1.size := by rw [hb]; simp [bytesOf_length]; omega
  have hg : bs.getD 0 0 = f.f0 := by rw [hb]; rfl
  have hdr : bs.drop 5 = bytesOf f.f1 := by rw [hb]; rfl
  have h := feed_rest bs f t ?_ ?_ ⟨by omega, by omega⟩ hg (by rw [hdr, nums_bytes]) bs.length 0 F o (by omega) (by omega)
  · simpa using h
  · intro j hj
    unfold frWrong
    have hg0 : (bs.take j).getD 0 0 = f.f0 := by
      rw [← hg, List.getD_eq_getElem?_getD, List.getD_eq_getElem?_getD, List.getElem?_take, if_pos (by omega)]
    rw [hg0, if_neg (by omega)]
    by_cases h5 : (bs.take j).length = 5
    · have : 5 ≤ j := by rw [List.length_take] at h5; omega
      rw [frNum_take bs j this, hn, if_neg (by omega)]
    · rw [if_neg (by omega)]
  · intro j hj hI
    have hI1 := hI.1
    have hI2 := hI.2
    rw [List.length_take] at hI1 hI2
    rw [frNum_take bs j (by omega), hn] at hI2
    omega

theorem putAll_acc (l : List S25) : ∀ acc, (putAllS acc l).2 = (putAllS [] l).2 ∧ ((putAllS [] l).2 = 0 → (putAllS acc l).1 = acc ++ (putAllS [] l).1) := by
  induction l with
  | nil => intro acc; exact ⟨rfl, fun _ => by simp [putAllS]⟩
  | cons f t ih =>
    intro acc
    simp only [putAllS]
    by_cases hz : (putS f).2 = 0
    · rw [if_pos hz, if_pos hz, List.nil_append]
      refine ⟨(ih _).1.trans (ih _).1.symm, fun h => ?_⟩
      have h' := (ih (putS f).1).1.symm.trans h
      rw [(ih (acc ++ (putS f).1)).2 h', (ih (putS f).1).2 h', List.append_assoc]
    · rw [if_neg hz, if_neg hz]
      exact ⟨rfl, fun h => absurd h hz⟩

theorem putAll_len (l : List S25) (hs : ∀ f ∈ l, f.f1.size ≤ 500) : ∀ acc, (putAllS acc l).1.length ≤ acc.length + 505 * l.length := by
  induction l with
  | nil => intro acc; simp [putAllS]
  | cons f t ih =>
    intro acc
    simp only [putAllS]
    have hf := putS_len f (hs f (by simp))
    split
    · have := ih (fun g hg => hs g (by simp [hg])) (acc ++ (putS f).1)
      rw [List.length_append] at this
      simp only [List.length_cons]
      omega
    · simp

theorem putS_bytes (f : S25) (h0 : 0 ≤ f.f0 ∧ f.f0 ≤ 255) : Bytes (putS f).1 := by
  unfold putS
  split
  · intro x hx; cases hx
  · split
    · intro x hx; cases hx
    · intro x hx
      rcases List.mem_append.1 hx with h | h
      · simp only [List.mem_cons, List.mem_nil_iff, or_false] at h
        rcases h with rfl | rfl | rfl | rfl | rfl <;> omega
      · exact bytesOf_bytes _ x h
theorem putAll_bytes (l : List S25) (h0 : ∀ f ∈ l, 0 ≤ f.f0 ∧ f.f0 ≤ 255) : ∀ acc, Bytes acc → Bytes (putAllS acc l).1 := by
  induction l with
  | nil => intro acc h; exact h
  | cons f t ih =>
    intro acc h
    simp only [putAllS]
    split
    · refine ih (fun g hg => h0 g (by simp [hg])) _ (fun x hx => ?_)
      rcases List.mem_append.1 hx with hx | hx
      · exact h x hx
      · exact putS_bytes f (h0 f (by simp)) x hx
    · intro x hx; cases hx

/-- The bytes of frames are read as these frames. -/
theorem back (l : List S25) (hs : ∀ f ∈ l, f.f1.size ≤ 500) (hz : (putAllS [] l).2 = 0) : ∀ F o, DS.feedL { bytes := [], fed := F, over := o } (putAllS [] l).1 = ({ bytes := [], fed := F + (putAllS [] l).1.length, over := o }, l, none) := by
  induction l with
  | nil => intro F o; simp [putAllS, feedL_nil]
  | cons f t ih =>
    intro F o
    simp only [putAllS] at hz ⊢
    by_cases h : (putS f).2 = 0
    · rw [if_pos h, List.nil_append] at hz ⊢
      have hzt := (putAll_acc t (putS f).1).1.symm.trans hz
      rw [(putAll_acc t _).2 hzt, feed_frame f (hs f (by simp)) h, ih (fun g hg => hs g (by simp [hg])) hzt]
      simp [ahead, Int.add_assoc]
    · rw [if_neg h] at hz; exact absurd hz h

theorem same_l0 (l : List S25) (hl : l.length ≤ 1000000) (d : Nat) : ∀ (k : Nat) (i : Int), 0 ≤ i → i ≤ l.length → (l.length : Int) - i = d → d < k → sashref23_Same.l0 k l l (l.length : Int) i = some true := by
  induction d with
  | zero =>
    intro k i h0 h1 hd hk
    obtain ⟨k, rfl⟩ : ∃ m, k = m + 1 := ⟨k - 1, by omega⟩
    simp only [sashref23_Same.l0]; rw [if_neg (by omega)]
  | succ d ih =>
    intro k i h0 h1 hd hk
    obtain ⟨k, rfl⟩ : ∃ m, k = m + 1 := ⟨k - 1, by omega⟩
    simp only [sashref23_Same.l0]
    have e : wrap64 (i + 1) = i + 1 := by unfold wrap64; omega
    rw [if_pos (by omega), if_pos h0, if_pos (by omega), if_pos (by omega), if_neg (by simp), e]
    exact ih k (i + 1) (by omega) (by omega) (by omega) (by omega)
theorem same_self (l : List S25) (hl : l.length ≤ 1000000) (k : Nat) (hk : l.length < k) : sashref23_Same.f k l l = some true := by
  unfold sashref23_Same.f
  rw [if_pos rfl]
  exact same_l0 l hl l.length k 0 (by omega) (by omega) (by omega) hk
end Go.Proofs.Ytmcjfnebkpifnaa
