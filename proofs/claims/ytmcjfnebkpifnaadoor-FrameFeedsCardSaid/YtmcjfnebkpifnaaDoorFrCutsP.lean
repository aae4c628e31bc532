/-
  FrameCuts: pure.
-/
import Derived.Test.YtmcjfnebkpifnaaDoorFrFeedG
namespace Go.Proofs.YtmcjfnebkpifnaaDoor
open Go.RowKit Go.Proofs.YtmcjfnebkpifnaaDoorW.PrintWords Go.Proofs.YtmcjfnebkpifnaaDoorW.PrintLast Go.Proofs.YtmcjfnebkpifnaaDoorW.PrintMore Go.Proofs.YtmcjfnebkpifnaaDoor.PFrameFeeds
set_option linter.unusedVariables false
set_option linter.unusedSimpArgs false

theorem feed_none (s : DS) (b : Int) (t : List Int) (h : (s.feedL [b]).2.2 = none) :
    s.feedL (b :: t) = ahead (s.feedL [b]).2.1 ((s.feedL [b]).1.feedL t) ∧ (s.feedL [b]).1.over = s.over ∧ (s.feedL [b]).1.fed = s.fed + 1 ∧ (s.feedL [b]).1.bytes.length ≤ s.bytes.length + 1 ∧ (s.feedL [b]).2.1.length ≤ 1 := by
  by_cases hw : frWrong (s.bytes ++ [b]) = 0
  · by_cases hi : frIs (s.bytes ++ [b])
    · rw [feedL_whole s b [] hw hi, feedL_nil, feedL_whole s b t hw hi]; simp [ahead]
    · rw [feedL_wait s b [] hw hi, feedL_nil, feedL_wait s b t hw hi]; simp [ahead]
  · rw [feedL_wrong s b [] hw] at h; cases h
theorem feed_some (s : DS) (b : Int) (t : List Int) (p : Int × Int) (h : (s.feedL [b]).2.2 = some p) :
    s.feedL (b :: t) = s.feedL [b] ∧ (s.feedL [b]).2.1 = [] ∧ p.1 ≠ 0 := by
  by_cases hw : frWrong (s.bytes ++ [b]) = 0
  · by_cases hi : frIs (s.bytes ++ [b])
    · rw [feedL_whole s b [] hw hi, feedL_nil] at h; simp [ahead] at h
    · rw [feedL_wait s b [] hw hi, feedL_nil] at h; simp at h
  · rw [feedL_wrong s b [] hw] at h ⊢
    rw [feedL_wrong s b t hw]
    injection h with h
    subst h
    exact ⟨rfl, rfl, hw⟩
theorem feedL_len (xs : List Int) : ∀ s : DS, (s.feedL xs).2.1.length ≤ xs.length := by
  induction xs with
  | nil => intro s; simp [feedL_nil]
  | cons b t ih =>
    intro s
    cases h : (s.feedL [b]).2.2 with
    | none =>
      obtain ⟨h1, _, _, _, h2⟩ := feed_none s b t h
      rw [h1]
      have := ih (s.feedL [b]).1
      simp [ahead]; omega
    | some p =>
      obtain ⟨h1, h2, _⟩ := feed_some s b t p h
      rw [h1, h2]; simp

theorem great_l0 (l : List (List Int)) (hl : l.length ≤ 30) : ∀ (d k : Nat) (i : Nat), l.length - i = d → i ≤ l.length → d < k → ∃ r, sashlaw23_great.l0 k l (i : Int) = some r ∧ (r = false → ∀ x ∈ l.drop i, x.length ≤ 500) := by
  intro d
  induction d with
  | zero =>
    intro k i hd hi hk
    obtain ⟨k, rfl⟩ : ∃ m, k = m + 1 := ⟨k - 1, by omega⟩
    refine ⟨false, by simp only [sashlaw23_great.l0]; rw [if_neg (by omega)], fun _ x hx => ?_⟩
    rw [List.drop_eq_nil_of_le (by omega)] at hx
    cases hx
  | succ d ih =>
    intro k i hd hi hk
    obtain ⟨k, rfl⟩ : ∃ m, k = m + 1 := ⟨k - 1, by omega⟩
    have e : wrap64 ((i : Int) + 1) = ((i + 1 : Nat) : Int) := by unfold wrap64; omega
    have HE := Aside0.mk e
    clear e
    simp only [sashlaw23_great.l0]
    rw [if_pos (by omega), if_pos (by omega)]
    have hrd : rd_L1 l (i : Int) = l.getD i [] := by simp [rd_L1]
    have hdr : l.drop i = l.getD i [] :: l.drop (i + 1) := by
      rw [List.drop_eq_getElem_cons (by omega), List.getD_eq_getElem?_getD, List.getElem?_eq_getElem (by omega)]; rfl
    rw [hrd, hdr]
    by_cases h5 : ((l.getD i []).length : Int) > 500
    · exact ⟨true, by rw [if_pos h5], fun h => by cases h⟩
    · rw [if_neg h5]
      simp only [HE.out]
      obtain ⟨r, hr, hf⟩ := ih k (i + 1) (by omega) (by omega) (by omega)
      refine ⟨r, hr, fun h x hx => ?_⟩
      rcases List.mem_cons.1 hx with rfl | hx
      · omega
      · exact hf h x hx
theorem great_ok (l : List (List Int)) : ∃ r, sashlaw23_great.f 100 l = some r ∧ (r = false → l.length ≤ 30 ∧ ∀ x ∈ l, x.length ≤ 500) := by
  unfold sashlaw23_great.f
  by_cases h : (l.length : Int) > 30
  · exact ⟨true, by rw [if_pos h], fun h => by cases h⟩
  · rw [if_neg h]
    obtain ⟨r, hr, hf⟩ := great_l0 l (by omega) l.length 100 0 (by omega) (by omega) (by omega)
    exact ⟨r, hr, fun h' => ⟨by omega, by simpa using hf h'⟩⟩
theorem flat_le (l : List (List Int)) (h : ∀ x ∈ l, x.length ≤ 500) : l.flatten.length ≤ 500 * l.length := by
  induction l with
  | nil => simp
  | cons x l ih =>
    have h1 := h x List.mem_cons_self
    have h2 := ih (fun y hy => h y (List.mem_cons_of_mem _ hy))
    rw [List.flatten_cons, List.length_append, List.length_cons]
    omega

theorem byte_cut (w : World) (A : Option Addr) (tot c k : Nat) (all : List Int) (hC : (Kd.int .u8).C w A tot all) (hc : tot ≤ c) (hk : k < tot) :
    ∃ X, (∀ W : World, (Instr.slice 27 (.slice A tot c) (some (.int .i64 (k : Int))) (some (.int .i64 ((k : Int) + 1))) none).run Tryd.prog W = .ok (.slice X 1 (c - k)) W) ∧ (Kd.int .u8).C w X 1 [all.getD k 0] := by
  have hlen := Kd.C_len hC
  subst hlen
  have hD := Kd.C_drop (m := k) (c := c) hC (by omega) hc
  have hT := Kd.C_take (m := 1) hD (by rw [List.length_drop]; omega)
  have e : (all.drop k).take 1 = [all.getD k 0] := by
    rw [List.drop_eq_getElem_cons hk, List.getD_eq_getElem?_getD, List.getElem?_eq_getElem hk]; rfl
  rw [e] at hT
  refine ⟨_, fun W => ?_, hT⟩
  obtain ⟨i0, hi, hz⟩ := Option.map_eq_some_iff.1 (show (Tryd.prog.info? 5).map (fun i => i.size) = some 1 by kernel_rfl)
  have h := cut_mid (P := Tryd.prog) 27 5 .i64 .i64 Tryd.underlying27 hi 1 hz A all.length c (k : Int) ((k : Int) + 1) (by omega) (by omega) (by omega) hc W
  have e1 : ((k : Int) + 1).toNat - (k : Int).toNat = 1 := by omega
  have e2 : (k : Int).toNat = k := by omega
  rw [e1, e2] at h
  exact h

/-- An error's value is what the number and the place say. -/
def EvOK (w : World) (ev : Value) (er : Option (Int × Int)) : Prop := (er = none → ev = .nilIface) ∧ (∀ p, er = some p → ∃ xs, As.EV w ev xs (.fault p.1 p.2))
def eC : Option (Int × Int) → Int
  | none => 0
  | some p => p.1
def eA : Option (Int × Int) → Int
  | none => 0
  | some p => p.2
theorem EvOK.below {w w' : World} {ev : Value} {er : Option (Int × Int)} (h : EvOK w ev er) (hb : Below w.heap.size w w') : EvOK w' ev er :=
  ⟨h.1, fun p hp => by obtain ⟨xs, hx⟩ := h.2 p hp; exact ⟨xs, As.EV_keep hb hx⟩⟩
theorem EvOK.of {w w0 : World} {ok : Nat → Prop} {fs : List S63} {er : Option (Int × Int)} {v ev : Value} (h : FeedRes w0 w ok fs er v ev) : EvOK w ev er := ⟨h.2.1, fun p hp => (h.2.2 p hp).ev⟩
theorem codeE_calls (w : World) (ev : Value) (er : Option (Int × Int)) (h : EvOK w ev er) (hE : As.ErrT w) :
    Calls Tryd.prog 16 #[ev] w fun e w' => e = .returned (.int .i64 (eC er)) ∧ Below w.heap.size w w' := by
  cases er with
  | none => obtain rfl := h.1 rfl; exact As.code_nil w
  | some p => obtain ⟨xs, hx⟩ := h.2 p rfl; exact As.code_calls ev xs _ w hx hE
theorem atE_calls (w : World) (ev : Value) (er : Option (Int × Int)) (h : EvOK w ev er) (hE : As.ErrT w) :
    Calls Tryd.prog 14 #[ev] w fun e w' => ∃ b, e = .returned (.tuple #[.int .i64 (eA er), .bool b]) ∧ Below w.heap.size w w' := by
  cases er with
  | none => obtain rfl := h.1 rfl; exact (As.at_nil w).mono fun e w' ⟨h1, h2⟩ => ⟨_, h1, h2⟩
  | some p => obtain ⟨xs, hx⟩ := h.2 p rfl; exact (As.at_calls ev xs _ w hx hE).mono fun e w' ⟨h1, h2⟩ => ⟨_, h1, h2⟩
theorem FrErr.grownE {w w' : World} {base : Nat} {v : Value} {e a : Int} {row : Option Nat} (h : FrErr w base v e a) (hg : w.grownBy w' row) (hlt : ∀ i, base ≤ i → some i ≠ row) : FrErr w' base v e a := by
  obtain ⟨g', f', h1, ⟨h2, v', h3, h4⟩, h5, h6⟩ := h
  exact ⟨g', f', h1, ⟨h2, v', blk_grown h3 hg (hlt _ h2), Kd.R_mono (Kd.R_grown (Kd.R_bound h4) hg (fun i hi => hlt _ hi.2.1)) (fun _ _ => trivial)⟩, h5, blk_grown h6 hg (hlt _ h5)⟩
theorem EvOK.grown {w w' w0 : World} {ok : Nat → Prop} {fs : List S63} {er : Option (Int × Int)} {v ev : Value} {row : Option Nat} (h : FeedRes w0 w ok fs er v ev) (hg : w.grownBy w' row) (hlt : ∀ i, w0.heap.size ≤ i → some i ≠ row) : EvOK w' ev er :=
  ⟨h.2.1, fun p hp => ((h.2.2 p hp).grownE hg hlt).ev⟩
end Go.Proofs.YtmcjfnebkpifnaaDoor
