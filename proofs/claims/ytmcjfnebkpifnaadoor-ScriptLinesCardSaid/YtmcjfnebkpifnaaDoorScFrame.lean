/-
  The bytes of a frame: frame.Put of one, and the document's.
-/
import Derived.Test.YtmcjfnebkpifnaaDoorScRef
namespace Go.Proofs.YtmcjfnebkpifnaaDoor
open Go.RowKit Go.Proofs.YtmcjfnebkpifnaaDoorW.PrintWords Go.Proofs.YtmcjfnebkpifnaaDoorW.PrintLast Go.Proofs.YtmcjfnebkpifnaaDoorW.PrintMore Go.Proofs.YtmcjfnebkpifnaaDoor.PScriptLines
set_option linter.unusedVariables false
set_option linter.unusedSimpArgs false
set_option maxRecDepth 100000

def putS (f : S63) : List Int × Int :=
  if f.f0 ≠ 1 ∧ f.f0 ≠ 2 then ([], 1) else if 65535 < f.f1.size then ([], 3) else ([f.f0, 0, 0, ((f.f1.size : Int) / 256) % 256, (f.f1.size : Int) % 256] ++ bytesOf f.f1, 0)
def putAllS : List Int → List S63 → List Int × Int
  | acc, [] => (acc, 0)
  | acc, f :: t => if (putS f).2 = 0 then putAllS (acc ++ (putS f).1) t else ([], (putS f).2)

theorem put_f (k : Nat) (f : S63) (hs : f.f1.size ≤ 500) : frame_put.f (k + 1) f.f0 f.f1 = some (putS f) := by
  unfold frame_put.f putS
  by_cases h1 : f.f0 = 1
  · rw [if_pos h1, if_neg (by omega), if_neg (by omega)]
    simp only [frame_put.j0]
    rw [if_neg (by decide), if_neg (by omega)]
    simp only [Option.bind_some]
    rw [if_pos (by simp; omega)]
  · rw [if_neg h1]
    by_cases h2 : f.f0 = 2
    · rw [if_neg (by omega), if_neg (by omega)]
      simp only [frame_put.j0]
      rw [if_neg (by simp [h2]), if_neg (by omega)]
      simp only [Option.bind_some]
      rw [if_pos (by simp; omega)]
    · rw [if_pos ⟨h1, h2⟩]
      simp only [frame_put.j0]
      rw [if_pos (by simpa using h2)]

theorem putS_len (f : S63) (hs : f.f1.size ≤ 500) : (putS f).1.length ≤ 505 := by
  unfold putS
  split
  · simp
  · split
    · simp
    · simp [bytesOf_length]; omega

theorem drop_getD (l : List S63) (i : Int) (h0 : 0 ≤ i) (h1 : i < l.length) : l.drop i.toNat = rd_T63 l i :: l.drop (i + 1).toNat := by
  have hl : i.toNat < l.length := by omega
  have e : (i + 1).toNat = i.toNat + 1 := by omega
  rw [List.drop_eq_getElem_cons hl, e]
  unfold rd_T63
  rw [List.getD_eq_getElem?_getD, List.getElem?_eq_getElem hl]
  rfl

theorem rd_mem (l : List S63) (i : Int) (h0 : 0 ≤ i) (h1 : i < l.length) : rd_T63 l i ∈ l := by
  have hl : i.toNat < l.length := by omega
  unfold rd_T63
  rw [List.getD_eq_getElem?_getD, List.getElem?_eq_getElem hl]
  exact List.getElem_mem hl

theorem Put_l0 (l : List S63) (hl : l.length ≤ 30) (hs : ∀ f ∈ l, f.f1.size ≤ 500) (d : Nat) : ∀ (k : Nat) (acc : List Int) (i : Int), 0 ≤ i → i ≤ l.length → (l.length : Int) - i = d → d + 1 < k → acc.length + 505 * d ≤ 1000000 →
    frame_Put.l0 k acc l (l.length : Int) i = some (putAllS acc (l.drop i.toNat)) := by
  induction d with
  | zero =>
    intro k acc i h0 h1 hd hk ha
    obtain ⟨k, rfl⟩ : ∃ m, k = m + 1 := ⟨k - 1, by omega⟩
    simp only [frame_Put.l0]
    rw [if_neg (by omega), List.drop_eq_nil_of_le (by omega)]
    rfl
  | succ d ih =>
    intro k acc i h0 h1 hd hk ha
    obtain ⟨k, rfl⟩ : ∃ m, k = m + 2 := ⟨k - 2, by omega⟩
    have hlt : i < (l.length : Int) := by omega
    have hf := hs _ (rd_mem l i h0 hlt)
    have hlen := putS_len _ hf
    have e : wrap64 (i + 1) = i + 1 := by unfold wrap64; omega
    rw [drop_getD l i h0 hlt]
    simp only [frame_Put.l0, putAllS]
    rw [if_pos hlt, if_pos h0, if_pos hlt, put_f k _ hf]
    simp only [Option.bind_some]
    by_cases hz : (putS (rd_T63 l i)).2 = 0
    · rw [if_pos hz, if_pos hz, if_pos (by omega), e]
      exact ih (k + 1) _ (i + 1) (by omega) (by omega) (by omega) (by omega) (by rw [List.length_append]; omega)
    · rw [if_neg hz, if_neg hz]

theorem Put_f (l : List S63) (hl : l.length ≤ 30) (hs : ∀ f ∈ l, f.f1.size ≤ 500) (k : Nat) (hk : 600 ≤ k) : frame_Put.f k l = some (putAllS [] l) := by
  unfold frame_Put.f
  have h := Put_l0 l hl hs l.length k [] 0 (by omega) (by omega) (by omega) (by omega) (by simp; omega)
  simpa using h

theorem bytes_take (s : ByteArray) (i : Int) (h0 : 0 ≤ i) (h1 : i < s.size) : (bytesOf s).take (i + 1).toNat = (bytesOf s).take i.toNat ++ [bt s i] := by
  have e : (i + 1).toNat = i.toNat + 1 := by omega
  have hl : i.toNat < (bytesOf s).length := by rw [bytesOf_length]; omega
  rw [e, List.take_add_one, List.getElem?_eq_getElem hl]
  have h := rd_bytesOf s i
  unfold rd at h
  rw [List.getD_eq_getElem?_getD, List.getElem?_eq_getElem hl] at h
  simp at h
  rw [← h]; rfl

theorem ref_l0 (f0 : Int) (s : ByteArray) (hs : s.size ≤ 500) (hd : List Int) (d : Nat) : ∀ (k : Nat) (i : Int), 0 ≤ i → i ≤ s.size → (s.size : Int) - i = d → d < k → hd.length ≤ 5 →
    sashref23_Put.l0 k (s.size : Int) (hd ++ (bytesOf s).take i.toNat) i f0 s = some (hd ++ bytesOf s, 0) := by
  induction d with
  | zero =>
    intro k i h0 h1 hd' hk hh
    obtain ⟨k, rfl⟩ : ∃ m, k = m + 1 := ⟨k - 1, by omega⟩
    simp only [sashref23_Put.l0]
    rw [if_neg (by omega), List.take_of_length_le (by rw [bytesOf_length]; omega)]
  | succ d ih =>
    intro k i h0 h1 hd' hk hh
    obtain ⟨k, rfl⟩ : ∃ m, k = m + 1 := ⟨k - 1, by omega⟩
    have hlt : i < (s.size : Int) := by omega
    have e : wrap64 (i + 1) = i + 1 := by unfold wrap64; omega
    simp only [sashref23_Put.l0]
    rw [if_pos hlt, if_pos h0, if_pos hlt, if_pos (by rw [List.length_append, List.length_take, bytesOf_length]; omega), e, List.append_assoc, ← bytes_take s i h0 hlt]
    exact ih k (i + 1) (by omega) (by omega) (by omega) (by omega) hh

theorem ref_put (k : Nat) (hk : 510 ≤ k) (f : S63) (hs : f.f1.size ≤ 500) : sashref23_Put.f k f.f0 f.f1 = some (putS f) := by
  obtain ⟨k, rfl⟩ : ∃ m, k = m + 1 := ⟨k - 1, by omega⟩
  have e : wrap64 ((f.f1.size : Int) / 256) = (f.f1.size : Int) / 256 := by unfold wrap64; omega
  unfold sashref23_Put.f putS
  by_cases h1 : f.f0 < 1
  · rw [if_pos h1, if_pos (by omega)]
    simp only [sashref23_Put.j0]
    rw [if_pos trivial]
  · rw [if_neg h1]
    by_cases h2 : f.f0 > 2
    · rw [if_pos (by omega)]
      simp only [sashref23_Put.j0]
      rw [if_pos (by simpa using h2)]
    · rw [if_neg (by omega), if_neg (by omega)]
      simp only [sashref23_Put.j0]
      rw [if_neg (by simpa using h2), if_neg (by omega), e]
      have h := ref_l0 f.f0 f.f1 hs [f.f0, 0, 0, ((f.f1.size : Int) / 256) % 256, (f.f1.size : Int) % 256] f.f1.size k 0 (by omega) (by omega) (by omega) (by omega) (by simp)
      simpa using h

theorem frame_one {w : World} {x : Nat} (f : S63) (h : w.heap[x]? = some (.cells #[.int .u8 f.f0, .string f.f1] 63 (0, 0))) : ReadsRow ((k63).K w) (k63).sz w (some ⟨x, 0, none⟩) 1 [f] := by
  refine ⟨rfl, by decide, fun _ => ⟨_, rfl, fun j p hj => ?_⟩⟩
  match j, hj with
  | 0, hj =>
    obtain rfl : f = p := by simpa using hj
    refine ⟨[.int .u8 f.f0, .string f.f1], rfl, k63_mk w f, fun i u hu => ?_⟩
    rw [Nat.zero_mul, Nat.zero_add, add_plain, cell_of_row _ _ _ _ _ _ h]
    simpa using hu

def frameL (k : Int) (s : ByteArray) : List Int := [k, 0, 0, ((s.size : Int) / 256) % 256, (s.size : Int) % 256] ++ bytesOf s
theorem putS_frame (k : Int) (s : ByteArray) (hk : k = 1 ∨ k = 2) (hs : s.size ≤ 500) : putS ⟨k, s⟩ = (frameL k s, 0) := by
  unfold putS frameL
  rw [if_neg (by show ¬ (k ≠ 1 ∧ k ≠ 2); omega), if_neg (by show ¬ 65535 < s.size; omega)]
theorem put1_calls (w : World) (k : Int) (s : ByteArray) (hk : k = 1 ∨ k = 2) (hs : s.size ≤ 500) :
    Calls Tryd.prog 40 #[.slice (some ⟨w.heap.size, 0, none⟩) 1 1] (w.alloc (.cells #[.int .u8 k, .string s] 63)) fun e w' => ∃ A c, e = .returned (.tuple #[.slice A (frameL k s).length c, .int .i64 0]) ∧ (Kd.int .u8).C w' A (frameL k s).length (frameL k s) ∧ Below w.heap.size w w' := by
  have hP := Put_f [⟨k, s⟩] (by simp) (fun f hf => by rw [List.mem_singleton.1 hf]; exact hs) 700 (by omega)
  have e : putAllS [] [(⟨k, s⟩ : S63)] = (frameL k s, 0) := by
    unfold putAllS
    rw [putS_frame k s hk hs, if_pos rfl]
    rfl
  rw [e] at hP
  have h := frame_Put.calls 700 (some ⟨w.heap.size, 0, none⟩) 1 [⟨k, s⟩] _ _ (w.alloc (.cells #[.int .u8 k, .string s] 63)) (frame_one ⟨k, s⟩ (heap_alloc_new w _)) (by simp) hP
  refine h.mono ?_
  rintro e w' ⟨v, rfl, hR, hb⟩
  obtain ⟨A, n, c, rfl⟩ := sl_of_R hR
  obtain ⟨rfl, _, hC⟩ := Kd.R_reads' hR
  exact ⟨A, c, rfl, hC, (below_alloc (Below.refl _ _) _).trans (hb.mono (by simp))⟩
theorem rput_calls (w : World) (k : Int) (s : ByteArray) (hk : k = 1 ∨ k = 2) (hs : s.size ≤ 500) :
    Calls Tryd.prog 41 #[.agg #[.int .u8 k, .string s]] w fun e w' => ∃ A c, e = .returned (.tuple #[.slice A (frameL k s).length c, .int .i64 0]) ∧ (Kd.int .u8).C w' A (frameL k s).length (frameL k s) ∧ Below w.heap.size w w' := by
  have hP := ref_put 600 (by omega) ⟨k, s⟩ hs
  rw [putS_frame k s hk hs] at hP
  have h := sashref23_Put.calls 600 k s _ _ w hP
  refine h.mono ?_
  rintro e w' ⟨v, rfl, hR, hb⟩
  obtain ⟨A, n, c, rfl⟩ := sl_of_R hR
  obtain ⟨rfl, _, hC⟩ := Kd.R_reads' hR
  exact ⟨A, c, rfl, hC, hb⟩
theorem bytes_C (W : World) (s : ByteArray) (hs : s.size ≤ 500) : (Kd.int .u8).C (Lib.bytesWorld W 5 s) (some ⟨W.heap.size, 0, none⟩) (bytesOf s).length (bytesOf s) := by
  have h := bytes_reads W 5 s (by omega)
  rw [bytesOf_length]
  exact Kd.C_of_reads (enc := Value.int .u8) (d := 0) h
end Go.Proofs.YtmcjfnebkpifnaaDoor
