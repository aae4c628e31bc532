/-
  FrameFeeds: one part in each decoder.
-/
import Derived.Test.YtmcjfnebkpifnaaDoorFfRef
import Derived.Test.YtmcjfnebkpifnaaDoorFrCutsP
namespace Go.Proofs.YtmcjfnebkpifnaaDoor
open Go.RowKit Go.Proofs.YtmcjfnebkpifnaaDoorW.PrintWords Go.Proofs.YtmcjfnebkpifnaaDoorW.PrintLast Go.Proofs.YtmcjfnebkpifnaaDoorW.PrintMore Go.Proofs.YtmcjfnebkpifnaaDoor.PFrameFeeds
set_option linter.unusedVariables false
set_option linter.unusedSimpArgs false
set_option maxRecDepth 100000

/-! The plain law: what a part comes to in each of the two. -/

def stepD (s : DS) (xs : List Int) : DS × List S63 × Option (Int × Int) := if s.over then (s, [], some (10, 0)) else s.feedL xs
def stepR (d : RD) (xs : List Int) : RF := if d.over then ⟨d, [], 10, 0⟩ else refF ((d.bytes ++ xs).length + 1) d.fed (d.bytes ++ xs)
def FRel (s : DS) (d : RD) : Prop := s.over = d.over ∧ (d.over = false → d.bytes = s.bytes ∧ d.fed = s.fed - s.bytes.length ∧ Wt s.bytes) ∧ (d.over = true → d.bytes = [])

theorem step_agree (s : DS) (d : RD) (xs : List Int) (h : FRel s d) (hb : Bytes s.bytes) (hx : Bytes xs) :
    (stepD s xs).2.1 = (stepR d xs).frames ∧ eC (stepD s xs).2.2 = (stepR d xs).no ∧ eA (stepD s xs).2.2 = (stepR d xs).at_ ∧ ((stepD s xs).2.2 = none ↔ (stepR d xs).no = 0) ∧ FRel (stepD s xs).1 (stepR d xs).d := by
  obtain ⟨h1, h2, h3⟩ := h
  cases ho : d.over with
  | true =>
    have hs : s.over = true := by rw [h1, ho]
    unfold stepD stepR
    rw [if_pos hs, if_pos ho]
    exact ⟨rfl, rfl, rfl, by simp, h1, h2, h3⟩
  | false =>
    have hs : s.over = false := by rw [h1, ho]
    obtain ⟨e1, e2, e3⟩ := h2 ho
    unfold stepD stepR
    rw [if_neg (by simp [hs]), if_neg (by simp [ho]), e1, e2]
    obtain ⟨a1, a2, a3, a4, a5, a6, a7, a8⟩ := feed_agree xs s ((s.bytes ++ xs).length + 1) e3 hs (fun x hx' => by rcases List.mem_append.1 hx' with h | h; exact hb x h; exact hx x h) (by simp; omega)
    exact ⟨a1, a2, a3, a5, a4, a7, a8⟩

theorem feedL_sz (xs : List Int) : ∀ s : DS, s.bytes.length ≤ s.fed → (((s.feedL xs).1.bytes.length : Int) ≤ (s.feedL xs).1.fed ∧ (s.feedL xs).1.fed ≤ s.fed + xs.length) := by
  induction xs with
  | nil => intro s h; rw [feedL_nil]; exact ⟨h, by simp⟩
  | cons b t ih =>
    intro s h
    by_cases h0 : frWrong (s.bytes ++ [b]) = 0
    · by_cases h1 : frIs (s.bytes ++ [b])
      · rw [feedL_whole s b t h0 h1]
        obtain ⟨i1, i2⟩ := ih { bytes := [], fed := s.fed + 1, over := s.over } (by simp; omega)
        refine ⟨i1, ?_⟩
        simp only [ahead, List.length_cons] at i2 ⊢
        push_cast
        omega
      · rw [feedL_wait s b t h0 h1]
        obtain ⟨i1, i2⟩ := ih { bytes := s.bytes ++ [b], fed := s.fed + 1, over := s.over } (by simp; omega)
        refine ⟨i1, ?_⟩
        simp only [List.length_cons] at i2 ⊢
        push_cast
        omega
    · rw [feedL_wrong s b t h0]
      simp
      omega

theorem stepD_sz (s : DS) (xs : List Int) (h : s.bytes.length ≤ s.fed) : ((stepD s xs).1.bytes.length : Int) ≤ (stepD s xs).1.fed ∧ (stepD s xs).1.fed ≤ s.fed + xs.length := by
  unfold stepD
  cases ho : s.over with
  | true => simp; omega
  | false => simpa [ho] using feedL_sz xs s h

theorem stepD_len (s : DS) (xs : List Int) : (stepD s xs).2.1.length ≤ xs.length := by
  unfold stepD
  cases ho : s.over with
  | true => simp
  | false => simpa [ho] using feedL_len xs s

theorem rel_waits (s : DS) (d : RD) (h : FRel s d) : s.waits = (d.bytes.length : Int) := by
  unfold DS.waits
  cases ho : d.over with
  | true => rw [h.1, ho, h.2.2 ho]; rfl
  | false => rw [h.1, ho, (h.2.1 ho).1]; rfl

/-! The two calls. -/

set_option maxHeartbeats 4000000 in
theorem feedO_calls (w : World) (ok : Nat → Prop) (g : Nat) (s : DS) (v : Value) (hD : Dec w ok g s) (hov : s.over = true) :
    Calls Tryd.prog 12 #[.pointer (some ⟨g, 0, none⟩), v] w fun e w' => ∃ ev, e = .returned (.tuple #[.slice none 0 0, ev]) ∧ FrErr w' w.heap.size ev 10 0 ∧ Below w.heap.size w w' := by
  have HO := Aside0.mk (over_calls w _ g s hD)
  rw [hov] at HO
  clear hD hov
  obtain ⟨W1, hW1⟩ : ∃ W1, W1 = w.alloc (.cells #[.int .i64 10, .int .i64 0] 76) := ⟨_, rfl⟩
  obtain ⟨W2, hW2⟩ : ∃ W2, W2 = W1.alloc (.cells #[.string ⟨#[102, 114, 97, 109, 101]⟩] 9) := ⟨_, rfl⟩
  have hC : Kd.string.C W2 (some ⟨W1.heap.size, 0, none⟩) 1 [(⟨#[102, 114, 97, 109, 101]⟩ : ByteArray)] := by rw [hW2]; exact litC W1 9 [(⟨#[102, 114, 97, 109, 101]⟩ : ByteArray)] (by decide)
  have e1 : W1.heap.size = w.heap.size + 1 := by rw [hW1]; simp
  rw [e1] at hC
  have hI := in_calls 72 (.pointer (some ⟨w.heap.size, 0, none⟩)) ⟨w.heap.size + 1, 0, none⟩ 1 1 [(⟨#[102, 114, 97, 109, 101]⟩ : ByteArray)] W2 rfl (by decide) (Nat.le_refl _) (by decide) hC
  have B1 : Below w.heap.size w W1 := by rw [hW1]; exact below_alloc (Below.refl _ _) _
  have B2 : Below w.heap.size w W2 := by rw [hW2]; exact below_alloc B1 _
  have hf1 : W1.heap[w.heap.size]? = some (.cells #[.int .i64 10, .int .i64 0] 76 (0, 0)) := by rw [hW1]; exact heap_alloc_new w _
  have hf2 : W2.heap[w.heap.size]? = some (.cells #[.int .i64 10, .int .i64 0] 76 (0, 0)) := by rw [hW2]; exact blk_alloc hf1 _
  have HI : Aside0 (Calls Tryd.prog 30 #[.iface 72 (.pointer (some ⟨w.heap.size, 0, none⟩)), .slice (some ⟨w.heap.size + 1, 0, none⟩) 1 1] W2 fun e w' => ∃ g, e = .returned (.iface 93 (.pointer (some ⟨g, 0, none⟩))) ∧ FrErr w' w.heap.size (.iface 93 (.pointer (some ⟨g, 0, none⟩))) 10 0 ∧ Below w.heap.size w w') :=
    ⟨hI.mono fun e w' ⟨g, he, hin, hb⟩ => ⟨g, he, ⟨g, w.heap.size, rfl, ⟨Nat.le_trans B2.size hin.1, by obtain ⟨_, v', h3, h4⟩ := hin; exact ⟨v', h3, Kd.R_lower h4 B2.size⟩⟩, Nat.le_refl _, (hb.block _ (blk_lt hf2)).trans hf2⟩, B2.trans (hb.mono B2.size)⟩⟩
  clear hC hI B1 B2 hf1 hf2 e1
  subst hW2
  subst hW1
  go_enter Tryd.func12, Tryd.ntmps12
  go_wp2_with (go_at_call 17; refine HO.out.mono ?_; rintro e w' ⟨rfl, rfl⟩)
  refine (new_calls 10 0 _ rfl).mono ?_
  rintro e w' ⟨rfl, rfl⟩
  go_wp2_with fail
  with_reducible refine HI.out.mono ?_
  rintro e w' ⟨g, rfl, hE⟩
  replace hE := Aside0.mk hE
  go_wp2
  go_ret2
  exact ⟨_, rfl, hE.out.1, hE.out.2⟩

/-- The error of a part, in blocks that came with it. -/
def FeedE (w : World) (base : Nat) (ev : Value) (er : Option (Int × Int)) : Prop := (er = none → ev = .nilIface) ∧ (∀ p, er = some p → FrErr w base ev p.1 p.2)
theorem FeedE.ev {w : World} {base : Nat} {ev : Value} {er : Option (Int × Int)} (h : FeedE w base ev er) : EvOK w ev er := ⟨h.1, fun p hp => (h.2 p hp).ev⟩
theorem FeedE.keeps {w w' : World} {base : Nat} {ev : Value} {er : Option (Int × Int)} (h : FeedE w base ev er) (hk : Keeps (fun k => k < base) w w') : FeedE w' base ev er :=
  ⟨h.1, fun p hp => by
    obtain ⟨g', f', h1, ⟨h2, v', h3, h4⟩, h5, h6⟩ := h.2 p hp
    exact ⟨g', f', h1, ⟨h2, v', (hk.block _ (blk_lt h3) (by omega)).trans h3, Kd.R_mono (Kd.R_step (Kd.R_bound h4) (fun k hk1 hlt => hk.block k hlt (by have := hk1.2.1; omega))) (fun _ _ => trivial)⟩, h5, (hk.block _ (blk_lt h6) (by omega)).trans h6⟩⟩
theorem Dec.set {w : World} {ok : Nat → Prop} {g : Nat} {s : DS} (h : Dec w ok g s) (p : Addr) (u : Value) (hok : ∀ k, ok k → k ≠ p.block) : Dec (w.setCell p u) ok g s := by
  obtain ⟨h1, h2, vB, blk, r⟩ := h
  exact ⟨h1, h2, vB, (Below.heap_setCell w p u g (hok g h1)).trans blk, Kd.R_far r hok u⟩
/-- The code's decoder at a part. -/
theorem dstep_calls (w : World) (ok0 : Nat → Prop) (g : Nat) (s : DS) (A : Option Addr) (n c : Nat) (xss : List (List Int)) (hD : Dec w ok0 g s) (hfr : ∀ k, w.heap.size ≤ k → ok0 k)
    (hf0 : 0 ≤ s.fed) (hf : s.fed ≤ 500000) (hsl : s.bytes.length ≤ 40000) (hr : (Kd.slice 5 (Kd.int .u8)).C w A n xss) (hc : n ≤ c) (hn : n ≤ 100000) (hl : xss.flatten.length ≤ 40000) (hby : Bytes xss.flatten) :
    Calls Tryd.prog 12 #[.pointer (some ⟨g, 0, none⟩), .slice A n c] w fun e w' => ∃ Av cv ev, e = .returned (.tuple #[.slice Av (stepD s xss.flatten).2.1.length cv, ev]) ∧ Dec w' ok0 g (stepD s xss.flatten).1 ∧ Keeps ok0 w w' ∧ (stepD s xss.flatten).2.1.length ≤ cv ∧ (k63).C w' Av (stepD s xss.flatten).2.1.length (stepD s xss.flatten).2.1 ∧ FeedE w' w.heap.size ev (stepD s xss.flatten).2.2 ∧ (∀ a', Av = some a' → 0 < (stepD s xss.flatten).2.1.length → ok0 a'.block) := by
  cases ho : s.over with
  | true =>
    have hs : stepD s xss.flatten = (s, [], some (10, 0)) := by unfold stepD; rw [if_pos ho]
    rw [hs]
    exact (feedO_calls w ok0 g s _ hD ho).mono fun e w' ⟨ev, h1, h2, h3⟩ => ⟨none, 0, ev, h1, hD.below h3, (Keeps.ofBelow h3).mono hfr, Nat.le_refl _, Kd.C_nil _ _, ⟨fun h => (by cases h), fun p hp => by cases hp; exact h2⟩, nofun⟩
  | false =>
    have hs : stepD s xss.flatten = s.feedL xss.flatten := by unfold stepD; rw [if_neg (by simp [ho])]
    rw [hs]
    refine (feedG_calls w ok0 g s A n c xss hD hfr ho hf0 hf hsl hr hc hn hl hby).mono fun e w' ⟨v, ev, h1, h2, h3, h4⟩ => ?_
    obtain ⟨Av, nv, cv, rfl⟩ := sl_of_R h4.1
    obtain ⟨m1, m2, m3⟩ := Kd.R_reads' h4.1
    subst m1
    exact ⟨Av, cv, ev, h1, h2, h3, m2, m3, h4.2, fun a' ha _ => h4.1.1 a'.block (by rw [ha]; rfl)⟩

/-- The document's at a part. -/
theorem rstep_calls (w : World) (A : Option Addr) (n c : Nat) (d : RD) (B : Option Addr) (m cb : Nat) (xs : List Int) (hA : (Kd.int .u8).C w A n d.bytes) (hB : (Kd.int .u8).C w B m xs) (hn : n ≤ c) (hm : m ≤ cb)
    (hF0 : d.over = false → 0 ≤ d.fed ∧ d.fed ≤ 1000000000) (hl : (d.bytes ++ xs).length ≤ 100000) (hby : Bytes (d.bytes ++ xs)) (hov : d.over = true → d.bytes = []) :
    Calls Tryd.prog 13 #[.agg #[.slice A n c, .int .i64 d.fed, .bool d.over], .slice B m cb] w fun e w' => Below w.heap.size w w' ∧ ∃ A2 n2 c2 Av cv, e = .returned (.tuple #[.agg #[.slice A2 n2 c2, .int .i64 (stepR d xs).d.fed, .bool (stepR d xs).d.over], .slice Av (stepR d xs).frames.length cv, .int .i64 (stepR d xs).no, .int .i64 (stepR d xs).at_]) ∧
      (Kd.int .u8).C w' A2 n2 (stepR d xs).d.bytes ∧ n2 ≤ c2 ∧ (∀ a', A2 = some a' → 0 < n2 → w.heap.size ≤ a'.block) ∧ (stepR d xs).frames.length ≤ cv ∧ (k63).C w' Av (stepR d xs).frames.length (stepR d xs).frames ∧ (∀ a', Av = some a' → 0 < (stepR d xs).frames.length → w.heap.size ≤ a'.block) := by
  obtain ⟨bs, F, ov⟩ := d
  cases ov with
  | true =>
    have hb : bs = [] := hov rfl
    subst hb
    have hn0 : n = 0 := (Kd.C_len hA).symm
    subst hn0
    exact (rfeed_over w A 0 c F B m cb).mono fun e w' ⟨h1, k, h2⟩ => ⟨h1, A, 0, c, _, _, h2, Kd.C_below hA h1, hn, fun _ _ h => absurd h (by decide), Nat.le_refl _, ⟨rfl, (Nat.zero_le _ : 0 ≤ 9223372036854775807), fun h => absurd h (Nat.lt_irrefl 0)⟩, fun _ _ h => absurd h (Nat.lt_irrefl 0)⟩
  | false =>
    refine (rfeed_calls w A n c F B m cb bs xs hA hB hn hm (hF0 rfl).1 (hF0 rfl).2 hl hby ((bs ++ xs).length + 1) (by omega)).mono fun e w' ⟨h1, A2, n2, c2, v, h2, h3, h4, h5, h6⟩ => ?_
    obtain ⟨Av, nv, cv, rfl⟩ := sl_of_R h6
    obtain ⟨m1, m2, m3⟩ := Kd.R_reads' h6
    subst m1
    exact ⟨h1, A2, n2, c2, Av, cv, h2, h3, h4, fun a' ha _ => h5 a' ha, m2, m3, fun a' ha _ => Kd.R_base h6 a'.block (by rw [ha]; rfl)⟩

/-- The number's place is there just if there is an error. -/
theorem atB_calls (w : World) (ev : Value) (er : Option (Int × Int)) (h : EvOK w ev er) (hE : As.ErrT w) :
    Calls Tryd.prog 14 #[ev] w fun e w' => e = .returned (.tuple #[.int .i64 (eA er), .bool er.isSome]) ∧ Below w.heap.size w w' := by
  cases er with
  | none => obtain rfl := h.1 rfl; exact As.at_nil w
  | some p => obtain ⟨xs, hx⟩ := h.2 p rfl; exact As.at_calls ev xs _ w hx hE
theorem EvOK.nil_iff {w : World} {ev : Value} {er : Option (Int × Int)} (h : EvOK w ev er) : (er = none ∧ ev = .nilIface) ∨ (er.isSome = true ∧ ∃ t x, ev = .iface t x) := by
  cases er with
  | none => exact Or.inl ⟨rfl, h.1 rfl⟩
  | some p => obtain ⟨xs, hx⟩ := h.2 p rfl; exact Or.inr ⟨rfl, As.EV_iface hx⟩

/-- What the code's decoder may write: not the document's. -/
def okD (base : Nat) (A : Option Addr) (n : Nat) : Nat → Prop := fun j => base ≤ j ∧ j ≠ base + 1 ∧ ∀ a, A = some a → 0 < n → j ≠ a.block
theorem C_okD {base : Nat} {w w' : World} {A : Option Addr} {n : Nat} {xs : List Int} (h : (Kd.int .u8).C w A n xs) (hk : Keeps (okD base A n) w w') : (Kd.int .u8).C w' A n xs :=
  Kd.C_foot_neS (S := okD base A n) (fun {W W'} {x} {cs} h => h) h (fun ad ha hn hs => hs.2.2 ad ha hn rfl) w' ⟨hk.size, fun i hi hn => hk.block i hi hn⟩
theorem C_away {A : Option Addr} {n : Nat} {xs : List Int} {w : World} (p : Addr) (v : Value) (h : (Kd.int .u8).C w A n xs) (hA : ∀ a, A = some a → 0 < n → a.block ≠ p.block) : (Kd.int .u8).C (w.setCell p v) A n xs :=
  Kd.C_foot_neS (S := fun k => k = p.block) (fun {W W'} {x} {cs} h => h) h hA _ (Kept.setCell (S := fun k => k = p.block) (Kept.refl _ _) (Or.inl rfl) v)
theorem CF_away {A : Option Addr} {n : Nat} {xs : List S63} {w : World} (p : Addr) (v : Value) (h : (k63).C w A n xs) (hA : ∀ a, A = some a → 0 < n → a.block ≠ p.block) : (k63).C (w.setCell p v) A n xs :=
  Kd.C_foot_neS (S := fun k => k = p.block) (fun {W W'} {x} {cs} h => h) h hA _ (Kept.setCell (S := fun k => k = p.block) (Kept.refl _ _) (Or.inl rfl) v)
/-- Behind the document's call. -/
theorem Dec.okD {base : Nat} {w w' : World} {A A2 : Option Addr} {n n2 g : Nat} {s : DS} (h : Dec w (okD base A n) g s) (hb : Below w.heap.size w w') (hA : ∀ a', A2 = some a' → 0 < n2 → w.heap.size ≤ a'.block) : Dec w' (Go.Proofs.YtmcjfnebkpifnaaDoor.okD base A2 n2) g s :=
  (h.bound.below hb).mono fun k hk => ⟨hk.1.1, hk.1.2.1, fun a ha hn => by have := hA a ha hn; have := hk.2; omega⟩
end Go.Proofs.YtmcjfnebkpifnaaDoor
