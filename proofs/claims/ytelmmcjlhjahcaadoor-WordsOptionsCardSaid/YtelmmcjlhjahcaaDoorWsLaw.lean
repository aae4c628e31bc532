/-
  WordsOptions: the walk.
-/
import Derived.Test.YtelmmcjlhjahcaaDoorWsWalk
import Derived.Test.YtelmmcjlhjahcaaDoorWoSame
import Derived.Test.YtelmmcjlhjahcaaDoorWoAwake
import Derived.Test.YtelmmcjlhjahcaaDoorAsTop
namespace Go.Proofs.YtelmmcjlhjahcaaDoor
open Go.RowKit Go.Proofs.YtelmmcjlhjahcaaDoorW.PrintWords Go.Proofs.YtelmmcjlhjahcaaDoorW.PrintLast Go.Proofs.YtelmmcjlhjahcaaDoorW.PrintMore Go.Proofs.YtelmmcjlhjahcaaDoor.PWordsOptions
set_option linter.unusedVariables false
set_option linter.unusedSimpArgs false

theorem OptErr.ev {w : World} {base : Nat} {v : Value} {e a : Int} (h : OptErr w base v e a) : ∃ xs, As.EV w v xs (.fault e a) := by
  obtain ⟨g, f, rfl, ⟨h2, v', h3, h4⟩, h5, h6⟩ := h
  exact ⟨[_], g, v', _, rfl, h3, Kd.R_lower h4 (Nat.zero_le _), f, rfl, h6⟩

/-! ### great -/
theorem greatO_l0 (l : List ByteArray) (hl : l.length ≤ 1000) : ∀ (d n : Nat), l.length - n = d → n ≤ l.length → ∀ k, d + 1 ≤ k → sashref20_Great.l0 k l (l.length : Int) (n : Int) = some ((l.drop n).any (fun x => decide (100 < x.size))) := by
  intro d
  induction d with
  | zero =>
    intro n hd hn k hk
    obtain ⟨k, rfl⟩ : ∃ k', k = k' + 1 := ⟨k - 1, by omega⟩
    unfold sashref20_Great.l0
    rw [if_neg (by omega), List.drop_eq_nil_of_le (by omega)]; rfl
  | succ d ih =>
    intro n hd hn k hk
    obtain ⟨k, rfl⟩ : ∃ k', k = k' + 1 := ⟨k - 1, by omega⟩
    have hlt : n < l.length := by omega
    unfold sashref20_Great.l0
    rw [if_pos (by omega), if_pos (by omega), if_pos (by omega), rdO l n hlt, List.drop_eq_getElem_cons hlt, List.any_cons]
    by_cases h : 100 < l[n].size
    · rw [if_pos (by omega), decide_eq_true h]; rfl
    · rw [if_neg (by omega), decide_eq_false h, Bool.false_or, wi1 n (by omega)]
      exact ih (n + 1) (by omega) (by omega) k (by omega)
def greatB (l : List ByteArray) : Bool := decide (50 < l.length) || l.any (fun x => decide (100 < x.size))
theorem greatO_f (l : List ByteArray) (k : Nat) (hk : 60 ≤ k) : sashref20_Great.f k l = some (greatB l) := by
  unfold sashref20_Great.f greatB
  by_cases h : (l.length : Int) > 50
  · rw [if_pos h, decide_eq_true (by omega)]; rfl
  · rw [if_neg h, decide_eq_false (by omega), Bool.false_or]
    have := greatO_l0 l (by omega) l.length 0 (by omega) (by omega) k (by omega)
    rwa [List.drop_zero] at this

theorem optLaw_great (w : World) (A : Option Addr) (n c : Nat) (l : List ByteArray) (tk : ByteArray) (hr : Kd.string.C w A n l) (hc : n ≤ c) (hg : greatB l = true) :
    Calls Tryd.prog 9 #[.slice A n c, .string tk] w fun e w' => e = .returned (.bool true) ∧ Below w.heap.size w w' := by
  have hlen := Kd.C_len hr
  obtain rfl : n = l.length := hlen.symm
  have HG : Aside0 (Calls Tryd.prog 31 #[.slice A l.length c] w fun e w' => e = .returned (.bool true) ∧ Drawn0 w w') := ⟨sashref20_Great.calls 60 A c l true w hr hc (by rw [greatO_f l 60 (by omega), hg])⟩
  clear hr hc hg hlen
  go_enter Tryd.func9, Tryd.ntmps9
  go_wp2_with fail
  refine HG.out.mono ?_
  rintro e w1 ⟨rfl, hd⟩
  have HB := Aside0.mk hd.below
  clear hd HG
  go_wp2_with (go_at_call 24; refine (awake_calls _).mono ?_; rintro e w' ⟨rfl, hb⟩)
  go_ret
  exact ⟨rfl, HB.out.trans (hb.mono HB.out.size)⟩
theorem optLaw_long (w : World) (A : Option Addr) (n c : Nat) (l : List ByteArray) (tk : ByteArray) (hr : Kd.string.C w A n l) (hc : n ≤ c) (hg : greatB l = false) (ht : 30 < tk.size) :
    Calls Tryd.prog 9 #[.slice A n c, .string tk] w fun e w' => e = .returned (.bool true) ∧ Below w.heap.size w w' := by
  have hlen := Kd.C_len hr
  obtain rfl : n = l.length := hlen.symm
  have h30 : decide ((30 : Int) < (tk.size : Int)) = true := decide_eq_true (by omega)
  have HG : Aside0 (Calls Tryd.prog 31 #[.slice A l.length c] w fun e w' => e = .returned (.bool false) ∧ Drawn0 w w') := ⟨sashref20_Great.calls 60 A c l false w hr hc (by rw [greatO_f l 60 (by omega), hg])⟩
  clear hr hc hg hlen ht
  go_enter Tryd.func9, Tryd.ntmps9
  go_wp2_with fail
  refine HG.out.mono ?_
  rintro e w1 ⟨rfl, hd⟩
  have HB := Aside0.mk hd.below
  clear hd HG
  go_wp2_with (go_at_call 24; refine (awake_calls _).mono ?_; rintro e w' ⟨rfl, hb⟩)
  go_ret
  exact ⟨rfl, HB.out.trans (hb.mono HB.out.size)⟩

/-- A map's value: it has just these options. -/
def MapV (w : World) (v : Value) (os : List SO) : Prop := (∃ b, v = .map (some b) ∧ MapAt w b 1000 os) ∨ (v = .map none ∧ os = [])
theorem MapV.below {w w' : World} {v : Value} {os : List SO} (h : MapV w v os) (hb : Below w.heap.size w w') : MapV w' v os := by
  rcases h with ⟨b, h1, h2⟩ | h
  · exact Or.inl ⟨b, h1, h2.below hb⟩
  · exact Or.inr h
theorem MapV.look {w : World} {v : Value} {os : List SO} (h : MapV w v os) (c : Int) (h0 : 0 ≤ c) (h1 : c < 256) :
    (Instr.lookup 61 v (.int .u8 c) true).run Tryd.prog w = .ok (.tuple #[.string (valOf os c), .bool (hasOf os c)]) w := by
  rcases h with ⟨b, rfl, h2⟩ | ⟨rfl, rfl⟩
  · exact h2.look c h0 h1
  · rw [Maps.look_nil true (Go.Maps.int_keyed Tryd.underlying5) Tryd.underlying61 (z := .string ⟨#[]⟩) (by kernel_rfl) (Go.Maps.keyOf_int_mk Tryd.underlying5 (wf8 h0 h1))]
    rfl
theorem MapV.len {w : World} {v : Value} {os : List SO} (h : MapV w v os) (ty : TypeId) : (Builtin.len_ #[61] ty #[v]).run Tryd.prog w = .ok (.int .i64 (cntOf (hasOf os))) w := by
  rcases h with ⟨b, rfl, h2⟩ | ⟨rfl, rfl⟩
  · exact h2.len ty
  · have : cntOf (hasOf []) = 0 := by unfold cntOf; simp [hasOf_nil]
    rw [this]
    exact Maps.len_nil Tryd.underlying61 ty
def cntTo (h : Int → Bool) (k : Nat) : Nat := (List.range k).countP (fun c : Nat => h (c : Int))
theorem cntTo_succ (h : Int → Bool) (k : Nat) : cntTo h (k + 1) = if h (k : Int) = true then cntTo h k + 1 else cntTo h k := by
  unfold cntTo
  rw [List.range_succ, List.countP_append, List.countP_singleton]
  split <;> rfl
theorem cntTo_le (h : Int → Bool) (k : Nat) : cntTo h k ≤ k := by
  unfold cntTo
  have := List.countP_le_length (p := fun c : Nat => h (c : Int)) (l := List.range k)
  simpa using this
theorem optL_len (tk : ByteArray) : ∀ (n : Nat) (ws : List ByteArray), ws.length ≤ n → ∀ (i : Nat) (os : List SO), (optL tk i ws os).1.length ≤ os.length + ws.length := by
  intro n
  induction n with
  | zero =>
    intro ws hw i os
    have : ws = [] := List.eq_nil_of_length_eq_zero (by omega)
    subst this
    rw [optL_nil]; simp
  | succ n ih =>
    intro ws hw i os
    cases ws with
    | nil => rw [optL_nil]; simp
    | cons w ws =>
      rw [List.length_cons] at hw
      by_cases h1 : dashB w = true
      · rw [optL_dash _ _ _ _ _ h1]; simp
      · by_cases h2 : optB w = false
        · rw [optL_stop _ _ _ _ _ h1 h2]; simp
        · by_cases h3 : takesB tk (bt w 1) = false
          · rw [optL_flag _ _ _ _ _ h1 h2 h3]
            have := ih ws (by omega) (i + 1) (os ++ [⟨bt w 1, ⟨#[]⟩⟩])
            rw [List.length_append, List.length_singleton] at this
            rw [List.length_cons]; omega
          · cases ws with
            | nil => rw [optL_last _ _ _ _ h1 h2 h3]; simp
            | cons v ws =>
              rw [List.length_cons] at hw
              rw [optL_val _ _ _ _ _ _ h1 h2 h3]
              have := ih ws (by omega) (i + 2) (os ++ [⟨bt w 1, v⟩])
              rw [List.length_append, List.length_singleton] at this
              rw [List.length_cons, List.length_cons]; omega

theorem opt_cases (l : List ByteArray) (w : World) (r : List SO × Nat × Int × Int) (e : Ending) (w' : World) (h : OptPost l w r e w') (hE : As.ErrT w) :
    ∃ mv A2 n2 c2 ev, e = .returned (.tuple #[mv, .slice A2 n2 c2, ev]) ∧ MapV w' mv r.1 ∧ Kd.string.C w' A2 n2 (optFin l r).2.1 ∧ n2 ≤ c2 ∧
      ((ev = .nilIface ∧ r.2.2.1 = 0) ∨ (∃ t x, ev = .iface t x ∧ r.2.2.1 = 2)) ∧
      (∀ W, Below w'.heap.size w' W → Calls Tryd.prog 15 #[ev] W fun e2 W2 => ∃ b, e2 = .returned (.tuple #[.int .i64 r.2.2.2, .bool b]) ∧ Below W.heap.size W W2) ∧
      (∀ W, Below w'.heap.size w' W → Calls Tryd.prog 16 #[ev] W fun e2 W2 => e2 = .returned (.int .i64 r.2.2.1) ∧ Below W.heap.size W W2) := by
  obtain ⟨hb, h0, h1⟩ := h
  have hE' := hE.below hb
  by_cases hz : r.2.2.1 = 0
  · obtain ⟨b, A, n, c, rfl, q1, q2, q3, q4⟩ := h0 hz
    refine ⟨_, A, n, c, _, rfl, Or.inl ⟨b, rfl, q1⟩, by unfold optFin; simp only; rw [if_pos hz]; exact q2, q3, Or.inl ⟨rfl, hz⟩, fun W hW => ?_, fun W hW => ?_⟩
    · rw [q4]; exact (As.at_nil W).mono fun e2 W2 ⟨a1, a2⟩ => ⟨_, a1, a2⟩
    · rw [hz]; exact As.code_nil W
  · obtain ⟨v, rfl, q0, q1, q2⟩ := h1 hz
    obtain ⟨xs, hev⟩ := q2.ev
    obtain ⟨t, x, rfl⟩ := As.EV_iface hev
    refine ⟨_, none, 0, 0, _, rfl, Or.inr ⟨rfl, q0⟩, by unfold optFin; simp only; rw [if_neg hz]; exact Kd.C_nil _ _, Nat.le_refl _, Or.inr ⟨t, x, rfl, q1⟩, fun W hW => ?_, fun W hW => ?_⟩
    · exact (As.at_calls _ xs _ W (As.EV_keep hW hev) (hE'.below hW)).mono fun e2 W2 ⟨a1, a2⟩ => ⟨_, a1, a2⟩
    · rw [q1]; exact As.code_calls _ xs _ W (As.EV_keep hW hev) (hE'.below hW)

set_option maxHeartbeats 16000000 in
theorem optLaw_few (w : World) (A : Option Addr) (c : Nat) (l : List ByteArray) (tk : ByteArray) (hr : Kd.string.C w A l.length l) (hc : l.length ≤ c) (hg : greatB l = false) (ht : tk.size ≤ 30) (hE : As.ErrT w) :
    Calls Tryd.prog 9 #[.slice A l.length c, .string tk] w fun e w' => e = .returned (.bool true) ∧ Below w.heap.size w w' := by
  have h30 : decide ((30 : Int) < (tk.size : Int)) = false := decide_eq_false (by omega)
  have hgg := hg
  unfold greatB at hgg
  rw [Bool.or_eq_false_iff] at hgg
  have hl50 : l.length ≤ 50 := by have := of_decide_eq_false hgg.1; omega
  have hi : ∀ x ∈ l, x.size ≤ 100 := fun x hx => by
    have := List.any_eq_false.1 hgg.2 x hx
    simp at this; omega
  have HG : Aside0 (Calls Tryd.prog 31 #[.slice A l.length c] w fun e w' => e = .returned (.bool false) ∧ Drawn0 w w') := ⟨sashref20_Great.calls 60 A c l false w hr hc (by rw [greatO_f l 60 (by omega), hg])⟩
  have HO : Aside0 (∀ W, Below w.heap.size w W → Calls Tryd.prog 32 #[.slice A l.length c, .string tk] W (OptPost l W (optAns tk l))) := ⟨fun W hb => options_calls W A c l tk (Kd.C_below hr hb) hc hl50 hi⟩
  have hosl := optL_len tk l.length (l.drop 1) (by simp) 1 []
  have HF := Aside0.mk (Options_f l tk (by omega) (by omega) 30001 (by omega))
  obtain ⟨r, hrr⟩ : ∃ r, r = optAns tk l := ⟨_, rfl⟩
  have hos : r.1.length ≤ 1000 := by
    rw [hrr]; unfold optAns
    have : (l.drop 1).length ≤ l.length := by rw [List.length_drop]; omega
    rw [List.length_nil] at hosl; omega
  rw [← hrr] at HO HF
  have HR := Aside0.mk hr
  have HC := Aside0.mk hc
  have HE := Aside0.mk hE
  clear hr hc hg hgg hi hE hosl hrr ht
  go_enter Tryd.func9, Tryd.ntmps9
  go_wp2_with fail
  refine HG.out.mono ?_
  rintro e w1 ⟨rfl, hd⟩
  have HB1 := Aside0.mk hd.below
  have HE1 := Aside0.mk (HE.out.below HB1.out)
  have HO1 := Aside0.mk (HO.out w1 HB1.out)
  clear hd HG HO HE
  go_wp2_with fail
  with_reducible refine HO1.out.mono ?_
  rintro e w2 hpost
  have hb2 := hpost.1
  obtain ⟨mv, A2, n2, c2, ev, rfl, hMV, hC2, hk2, hev, hAT, hCO⟩ := opt_cases l w1 r e w2 hpost HE1.out
  have HB2 := Aside0.mk (HB1.out.trans (hb2.mono HB1.out.size))
  have HR2 := Aside0.mk (Kd.C_below HR.out HB2.out)
  have HFF : Aside0 (optFin l r = (r.1, (optFin l r).2.1, r.2.2.1, r.2.2.2)) := ⟨rfl⟩
  have HRS : Aside0 (l.length = 0 → (optFin l r).2.1 = []) := ⟨fun h => by
    have : l = [] := List.eq_nil_of_length_eq_zero h
    subst this
    unfold optFin
    simp only [List.drop_nil]
    split <;> rfl⟩
  obtain ⟨rs, hrs⟩ : ∃ rs, rs = (optFin l r).2.1 := ⟨_, rfl⟩
  rw [← hrs] at hC2 HFF HRS
  obtain ⟨os, ri, no, pl⟩ := r
  simp only at hMV hev hAT hCO HFF hos
  have HF2 : Aside0 (sashref20_Options.f 30001 l tk = some (os, rs, no, pl)) := ⟨by rw [HF.out, HFF.out]⟩
  have HMV := Aside0.mk hMV
  have HC2 := Aside0.mk hC2
  have HAT := Aside0.mk hAT
  have HCO := Aside0.mk hCO
  have HEV := Aside0.mk hev
  have hs2 := HB2.out.size
  have hrsl : rs.length = n2 := Kd.C_len hC2
  have HRSL := Aside0.mk hrsl
  clear hpost hb2 hMV hC2 hev hAT hCO hrs HF HFF HO1 HE1 hrsl
  go_wp2_with ((with_reducible refine gate_dst (N := 36) rfl ?_); refine Aside0.out ?zz)
  refine ⟨?_⟩
  refine Kd.R_lit Kd.string (w0 := w2) w2.heap.size 9 ?hg (N := 36) ?hd (xs := ([] : List ByteArray)) (inner := []) (ok := fun _ => True) (okp := fun _ => False) ?hr ?hp (fun _ _ => trivial) trivial (Below.refl _ _) (Nat.le_refl _) (by simp) ?_
  case hd => rfl
  case hg => rfl
  case hp => exact Reps.none _ _
  case hr => first | (go_simp; done) | (go_simp; rfl)
  intro v3 w3 ho hb3 hg_ hnew_
  obtain ⟨A3, n3, c3, rfl⟩ := sl_of_R ho
  have RO3 := Aside0.mk ho
  have HB3 := Aside0.mk hb3
  have hs3 := hb3.size
  have HR3 := Aside0.mk (Kd.C_below HR2.out hb3)
  clear ho hb3 hg_ hnew_
  go_wp2_with (at_builtin; refine Kd.R_append_row Value.string ByteArray.empty (w0 := w2) w2.heap.size rfl (.tmp 36) (.tmp 37) 36 9 (.string ByteArray.empty) 16 rfl Tryd.underlying36 finfoS rfl (by decide) (.slice A3 n3 c3) [] l A l.length c (fun _ => True) rfl rfl (fun _ _ => trivial) RO3.out HR3.out HB3.out hs3 (by simp only [List.length_nil]; omega) ?_)
  intro v4 w4 ho hb4 hg_ hnew_
  obtain ⟨A4, n4, c4, rfl⟩ := sl_of_R ho
  replace ho : Kd.string.R 9 w4 w2.heap.size (fun _ => True) (.slice A4 n4 c4) l := ho
  have HRO := Aside0.mk (sashref20_Options.calls 30001 (fun _ => True) (.slice A4 n4 c4) l tk os rs no pl w2 w4 hb4 ho HF2.out)
  clear ho hb4 hg_ hnew_ RO3 HB3 hs3 HR3
  go_wp2_with fail
  with_reducible refine HRO.out.mono ?_
  rintro e w5 ⟨v0, v1, rfl, hR5, hQ5, hb5, _⟩
  obtain ⟨A5, n5, c5, rfl⟩ := sl_of_R hR5
  obtain ⟨hn5, hk5, hC5⟩ := Kd.R_reads' hR5
  obtain ⟨A6, c6, rfl, hk6, hC6⟩ := Kd.Q_reads hQ5
  obtain rfl : n5 = os.length := hn5
  have HB5 := Aside0.mk (HB2.out.trans (hb5.mono hs2))
  have HW5 := Aside0.mk hb5
  have HMV5 := Aside0.mk (HMV.out.below hb5)
  have HCO5 := Aside0.mk hC5
  have HCL5 := Aside0.mk hC6
  have HC25 := Aside0.mk (Kd.C_below HC2.out hb5)
  have hs5 := HB5.out.size
  have hmo := Kd.C_max hC5
  clear hR5 hQ5 hb5 hC5 hC6 HRO HC2 HMV
  by_cases hl0 : l.length = 0
  · have hrs0 := HRS.out hl0
    have hrl0 : n2 = 0 := by rw [← HRSL.out, hrs0]; rfl
    subst hrl0
    have hl0b : ((l.length : Int) == 0) = true := beq_iff_eq.2 (by omega)
    have HX : Aside0 (Below w5.heap.size w5 (w5.alloc (.cells #[] 9)) ∧ Kd.string.C (w5.alloc (.cells #[] 9)) (some ⟨w5.heap.size, 0, none⟩) 0 rs) := ⟨below_alloc (Below.refl _ _) _, by rw [hrs0]; exact ⟨rfl, by omega, fun h => absurd h (by decide)⟩⟩
    have HSM : Aside0 (∀ W, Below w5.heap.size w5 W → Kd.string.C W (some ⟨w5.heap.size, 0, none⟩) 0 rs → Calls Tryd.prog 34 #[.slice A2 0 c2, .slice (some ⟨w5.heap.size, 0, none⟩) 0 0] W fun e w' => e = .returned (.bool true) ∧ Drawn0 W w') := ⟨fun W hb hx => by
      have h1 := Kd.C_below HC25.out hb
      rw [hrs0] at h1 hx
      exact sashref20_Same.calls 100 A2 c2 [] (some ⟨w5.heap.size, 0, none⟩) 0 [] true W h1 hk2 hx (Nat.le_refl _) (by rfl)⟩
    clear hrs0
    go_wp2_with fail
    have HAT5 := Aside0.mk (HAT.out (w5.alloc (.cells #[] 9)) (HW5.out.trans (HX.out.1.mono HW5.out.size)))
    with_reducible refine HAT5.out.mono ?_
    rintro e w6 ⟨b6, rfl, hb6⟩
    have HB6 := Aside0.mk (HX.out.1.trans (hb6.mono HX.out.1.size))
    have HX6 := Aside0.mk (Kd.C_below HX.out.2 hb6)
    have HCO6 := Aside0.mk (HCO.out w6 (HW5.out.trans (HB6.out.mono HW5.out.size)))
    clear hb6 HAT5 HAT
    rcases HEV.out with ⟨rfl, rfl⟩ | ⟨t, x, rfl, rfl⟩
    all_goals
      clear HEV
      go_wp2_with fail
      with_reducible refine HCO6.out.mono ?_
      rintro e w7 ⟨rfl, hb7⟩
      have HB7 := Aside0.mk (HB6.out.trans (hb7.mono HB6.out.size))
      have HS7 := Aside0.mk (HSM.out w7 HB7.out (Kd.C_below HX6.out hb7))
      clear hb7 HCO6
      go_wp2_with fail
      with_reducible refine HS7.out.mono ?_
      rintro e w8 ⟨rfl, hd8⟩
      have HB8 := Aside0.mk (HB7.out.trans (hd8.below.mono HB7.out.size))
      clear hd8 HS7 HSM HCO
      go_wp2
      go_loopw [14, 15] (fun v i wr => ∃ (k : Nat), k ≤ 256 ∧ i = .int .i64 k ∧ v = .int .i64 ((cntTo (hasOf os) k : Nat) : Int) ∧ Aside0 (Below w5.heap.size w5 wr)) (fun _ i _ => 256 - (intOf i).toNat)
      case atStart => exact ⟨0, by omega, rfl, rfl, HB8⟩
      case round =>
        obtain ⟨k, hk, rfl, rfl, HA⟩ := hrel
        have HMr := Aside0.mk (HMV5.out.below HA.out)
        by_cases hlt : k < 256
        · have hwr : IntKind.u8.wrap (k : Int) = (k : Int) := by
            have h1 : (k : Int) % 256 = (k : Int) := by omega
            simp [IntKind.wrap, IntKind.bits, IntKind.signed, h1]
          have hlook := HMr.out.look (k : Int) (by omega) (by omega)
          have HV := Aside0.mk (sashref20_Value.calls (os.length + 1) A5 c5 os (k : Int) (valOf os (k : Int)) (hasOf os (k : Int)) wr (Kd.C_below HCO5.out HA.out) hk5 (Value_f os (by omega) _ _ (by omega)))
          have HS := Aside0.mk (cntTo_succ (hasOf os) k)
          have hle := cntTo_le (hasOf os) k
          have hkb : decide ((k : Int) < 256) = true := decide_eq_true (by omega)
          generalize valOf os (k : Int) = vs at *
          generalize hasOf os (k : Int) = hb at *
          generalize cntTo (hasOf os) k = N at *
          cases hb with
          | true =>
            go_wp2_with fail
            with_reducible refine HV.out.mono ?_
            rintro e w9 ⟨rfl, hd9⟩
            have HA9 := Aside0.mk (HA.out.trans (hd9.below.mono HA.out.size))
            clear hd9 HV
            go_wp2
            go_roundw
            case rel => exact ⟨k + 1, by omega, by go_num, by rw [HS.out]; simp, HA9⟩
            case measure => simp [intOf]; omega
          | false =>
            go_wp2_with fail
            with_reducible refine HV.out.mono ?_
            rintro e w9 ⟨rfl, hd9⟩
            have HA9 := Aside0.mk (HA.out.trans (hd9.below.mono HA.out.size))
            clear hd9 HV
            go_wp2
            go_roundw
            case rel => exact ⟨k + 1, by omega, by go_num, by rw [HS.out]; simp, HA9⟩
            case measure => simp [intOf]; omega
        · have hkn : k = 256 := by omega
          subst hkn
          have hlen := fun ty => HMr.out.len ty
          have hcc : cntOf (hasOf os) = cntTo (hasOf os) 256 := rfl
          rw [hcc] at hlen
          generalize cntTo (hasOf os) 256 = N at *
          have HBr := Aside0.mk (HB5.out.trans (HA.out.mono hs5))
          clear hcc
          go_wp2_with (go_at_call 24; refine (awake_calls _).mono ?_; rintro e w' ⟨rfl, hb⟩)
          go_ret
          exact ⟨rfl, HBr.out.trans (hb.mono HBr.out.size)⟩
  · have hl0b : ((l.length : Int) == 0) = false := beq_eq_false_iff_ne.2 (by omega)
    have HX : Aside0 (Below w5.heap.size w5 w5 ∧ Kd.string.C w5 A6 rs.length rs) := ⟨Below.refl _ _, HCL5.out⟩
    have HSM : Aside0 (∀ W, Below w5.heap.size w5 W → Kd.string.C W A6 rs.length rs → Calls Tryd.prog 34 #[.slice A2 n2 c2, .slice A6 rs.length c6] W fun e w' => e = .returned (.bool true) ∧ Drawn0 W w') := ⟨fun W hb hx => by
      have h1 := Kd.C_below HC25.out hb
      rw [← HRSL.out] at h1 hk2 ⊢
      exact sashref20_Same.calls (rs.length + 1) A2 c2 rs A6 c6 rs true W h1 hk2 hx hk6 (same_self rs (by have := Kd.C_max h1; omega) (rs.length + 1) (by omega))⟩
    go_wp2_with fail
    have HAT5 := Aside0.mk (HAT.out w5 (HW5.out.trans (HX.out.1.mono HW5.out.size)))
    with_reducible refine HAT5.out.mono ?_
    rintro e w6 ⟨b6, rfl, hb6⟩
    have HB6 := Aside0.mk (HX.out.1.trans (hb6.mono HX.out.1.size))
    have HX6 := Aside0.mk (Kd.C_below HX.out.2 hb6)
    have HCO6 := Aside0.mk (HCO.out w6 (HW5.out.trans (HB6.out.mono HW5.out.size)))
    clear hb6 HAT5 HAT
    rcases HEV.out with ⟨rfl, rfl⟩ | ⟨t, x, rfl, rfl⟩
    all_goals
      clear HEV
      go_wp2_with fail
      with_reducible refine HCO6.out.mono ?_
      rintro e w7 ⟨rfl, hb7⟩
      have HB7 := Aside0.mk (HB6.out.trans (hb7.mono HB6.out.size))
      have HS7 := Aside0.mk (HSM.out w7 HB7.out (Kd.C_below HX6.out hb7))
      clear hb7 HCO6
      go_wp2_with fail
      with_reducible refine HS7.out.mono ?_
      rintro e w8 ⟨rfl, hd8⟩
      have HB8 := Aside0.mk (HB7.out.trans (hd8.below.mono HB7.out.size))
      clear hd8 HS7 HSM HCO
      go_wp2
      go_loopw [14, 15] (fun v i wr => ∃ (k : Nat), k ≤ 256 ∧ i = .int .i64 k ∧ v = .int .i64 ((cntTo (hasOf os) k : Nat) : Int) ∧ Aside0 (Below w5.heap.size w5 wr)) (fun _ i _ => 256 - (intOf i).toNat)
      case atStart => exact ⟨0, by omega, rfl, rfl, HB8⟩
      case round =>
        obtain ⟨k, hk, rfl, rfl, HA⟩ := hrel
        have HMr := Aside0.mk (HMV5.out.below HA.out)
        by_cases hlt : k < 256
        · have hwr : IntKind.u8.wrap (k : Int) = (k : Int) := by
            have h1 : (k : Int) % 256 = (k : Int) := by omega
            simp [IntKind.wrap, IntKind.bits, IntKind.signed, h1]
          have hlook := HMr.out.look (k : Int) (by omega) (by omega)
          have HV := Aside0.mk (sashref20_Value.calls (os.length + 1) A5 c5 os (k : Int) (valOf os (k : Int)) (hasOf os (k : Int)) wr (Kd.C_below HCO5.out HA.out) hk5 (Value_f os (by omega) _ _ (by omega)))
          have HS := Aside0.mk (cntTo_succ (hasOf os) k)
          have hle := cntTo_le (hasOf os) k
          have hkb : decide ((k : Int) < 256) = true := decide_eq_true (by omega)
          generalize valOf os (k : Int) = vs at *
          generalize hasOf os (k : Int) = hb at *
          generalize cntTo (hasOf os) k = N at *
          cases hb with
          | true =>
            go_wp2_with fail
            with_reducible refine HV.out.mono ?_
            rintro e w9 ⟨rfl, hd9⟩
            have HA9 := Aside0.mk (HA.out.trans (hd9.below.mono HA.out.size))
            clear hd9 HV
            go_wp2
            go_roundw
            case rel => exact ⟨k + 1, by omega, by go_num, by rw [HS.out]; simp, HA9⟩
            case measure => simp [intOf]; omega
          | false =>
            go_wp2_with fail
            with_reducible refine HV.out.mono ?_
            rintro e w9 ⟨rfl, hd9⟩
            have HA9 := Aside0.mk (HA.out.trans (hd9.below.mono HA.out.size))
            clear hd9 HV
            go_wp2
            go_roundw
            case rel => exact ⟨k + 1, by omega, by go_num, by rw [HS.out]; simp, HA9⟩
            case measure => simp [intOf]; omega
        · have hkn : k = 256 := by omega
          subst hkn
          have hlen := fun ty => HMr.out.len ty
          have hcc : cntOf (hasOf os) = cntTo (hasOf os) 256 := rfl
          rw [hcc] at hlen
          generalize cntTo (hasOf os) 256 = N at *
          have HBr := Aside0.mk (HB5.out.trans (HA.out.mono hs5))
          clear hcc
          go_wp2_with (go_at_call 24; refine (awake_calls _).mono ?_; rintro e w' ⟨rfl, hb⟩)
          go_ret
          exact ⟨rfl, HBr.out.trans (hb.mono HBr.out.size)⟩
theorem optLaw_calls (w : World) (A : Option Addr) (n c : Nat) (l : List ByteArray) (tk : ByteArray) (hr : Kd.string.C w A n l) (hc : n ≤ c) (hE : As.ErrT w) :
    Calls Tryd.prog 9 #[.slice A n c, .string tk] w fun e w' => e = .returned (.bool true) ∧ Below w.heap.size w w' := by
  have hlen := Kd.C_len hr
  cases hg : greatB l with
  | true => exact optLaw_great w A n c l tk hr hc hg
  | false =>
    by_cases ht : tk.size ≤ 30
    · obtain rfl : n = l.length := hlen.symm
      exact optLaw_few w A c l tk hr hc hg ht hE
    · exact optLaw_long w A n c l tk hr hc hg (by omega)
end Go.Proofs.YtelmmcjlhjahcaaDoor
