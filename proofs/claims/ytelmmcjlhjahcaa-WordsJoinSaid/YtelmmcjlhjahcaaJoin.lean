/-
  Two lines, with a semicolon between: cut into the commands of the one, and of the other, if both can be. No condition.
-/
import Derived.Test.YtelmmcjlhjahcaaAwake
import Derived.Test.YtelmmcjlhjahcaaWGuard
namespace Go.Proofs.Ytelmmcjlhjahcaa
open Go.RowKit Go.Proofs.YtelmmcjlhjahcaaW.PrintWords Go.Proofs.YtelmmcjlhjahcaaW.PrintLast Go.Proofs.YtelmmcjlhjahcaaW.PrintMore Go.Proofs.Ytelmmcjlhjahcaa.PWordsJoin
set_option linter.unusedVariables false
set_option linter.unusedSimpArgs false

theorem cutL_append (D : List UInt8) : ∀ (n : Nat) (C : List UInt8), C.length ≤ n → ∀ (i : Nat) (q : Int) (s : CS), (cutL i C q s).1 < 0 → cutL i (C ++ D) q s = cutL (i + C.length) D (cutL i C q s).1 (cutL i C q s).2 := by
  intro n
  induction n with
  | zero =>
    intro C hC i q s h
    have : C = [] := List.eq_nil_of_length_eq_zero (by omega)
    subst this
    rw [cutL_nil]; rfl
  | succ n ih =>
    intro C hC i q s h
    match C, hC, h with
    | [], _, h => rw [cutL_nil]; rfl
    | b :: t, hC, h =>
      have ht : t.length ≤ n := by simp at hC; omega
      by_cases h92 : b.toNat = 92
      · match t, ht, h with
        | [], _, h =>
          rw [cutL_slash1 _ _ _ _ h92] at h
          exfalso
          simp only at h
          split at h <;> omega
        | c :: t, ht, h =>
          rw [cutL_slash _ _ _ _ _ _ h92] at h
          show cutL i (b :: c :: (t ++ D)) q s = _
          rw [cutL_slash _ _ _ _ _ _ h92, cutL_slash _ _ _ _ _ _ h92, ih t (by simp at ht; omega) _ _ _ h]
          congr 1
          simp; omega
      · by_cases h34 : b.toNat = 34
        · by_cases hq : 0 ≤ q
          · rw [cutL_close _ _ _ _ _ h34 hq] at h
            show cutL i (b :: (t ++ D)) q s = _
            rw [cutL_close _ _ _ _ _ h34 hq, cutL_close _ _ _ _ _ h34 hq, ih t ht _ _ _ h]
            congr 1
            simp; omega
          · rw [cutL_open _ _ _ _ _ h34 hq] at h
            show cutL i (b :: (t ++ D)) q s = _
            rw [cutL_open _ _ _ _ _ h34 hq, cutL_open _ _ _ _ _ h34 hq, ih t ht _ _ _ h]
            congr 1
            simp; omega
        · by_cases hq : 0 ≤ q
          · rw [cutL_in _ _ _ _ _ h92 h34 hq] at h
            show cutL i (b :: (t ++ D)) q s = _
            rw [cutL_in _ _ _ _ _ h92 h34 hq, cutL_in _ _ _ _ _ h92 h34 hq, ih t ht _ _ _ h]
            congr 1
            simp; omega
          · rw [cutL_out _ _ _ _ _ h92 h34 hq] at h
            show cutL i (b :: (t ++ D)) q s = _
            rw [cutL_out _ _ _ _ _ h92 h34 hq, cutL_out _ _ _ _ _ h92 h34 hq, ih t ht _ _ _ h]
            congr 1
            simp; omega

def CS.pre (P : List (List ByteArray)) (s : CS) : CS := { s with cmds := P ++ s.cmds }
theorem pre_endW (P : List (List ByteArray)) (s : CS) : (s.pre P).endW = s.endW.pre P := rfl
theorem pre_putW (P : List (List ByteArray)) (s : CS) (b : Int) : (s.pre P).putW b = (s.putW b).pre P := rfl
theorem pre_begun (P : List (List ByteArray)) (s : CS) : ({ s.pre P with begun := true } : CS) = ({ s with begun := true } : CS).pre P := rfl
theorem pre_flushW (P : List (List ByteArray)) (s : CS) : (s.pre P).flushW = s.flushW.pre P := by
  unfold CS.flushW CS.pre
  by_cases h : s.words = []
  · simp [h]
  · simp [h]
theorem pre_commandW (P : List (List ByteArray)) (s : CS) : (s.pre P).commandW = s.commandW.pre P := by
  unfold CS.commandW
  rw [pre_endW, pre_flushW]
theorem pre_plainW (P : List (List ByteArray)) (s : CS) (b : Int) : (s.pre P).plainW b = (s.plainW b).pre P := by
  unfold CS.plainW
  rw [pre_commandW, pre_endW, pre_putW]
  split
  · rfl
  · split
    · rfl
    · split <;> rfl

theorem cutL_pre (P : List (List ByteArray)) : ∀ (n : Nat) (C : List UInt8), C.length ≤ n → ∀ (i j : Nat) (q q2 : Int) (s : CS), (q < 0 ↔ q2 < 0) →
    ((cutL i C q s).1 < 0 ↔ (cutL j C q2 (s.pre P)).1 < 0) ∧ (cutL j C q2 (s.pre P)).2 = (cutL i C q s).2.pre P := by
  intro n
  induction n with
  | zero =>
    intro C hC i j q q2 s h
    have : C = [] := List.eq_nil_of_length_eq_zero (by omega)
    subst this
    rw [cutL_nil, cutL_nil]; exact ⟨h, rfl⟩
  | succ n ih =>
    intro C hC i j q q2 s h
    match C, hC with
    | [], _ => rw [cutL_nil, cutL_nil]; exact ⟨h, rfl⟩
    | b :: t, hC =>
      have ht : t.length ≤ n := by simp at hC; omega
      by_cases h92 : b.toNat = 92
      · match t, ht with
        | [], _ =>
          rw [cutL_slash1 _ _ _ _ h92, cutL_slash1 _ _ _ _ h92]
          refine ⟨?_, rfl⟩
          simp only
          split <;> split <;> omega
        | c :: t, ht =>
          rw [cutL_slash _ _ _ _ _ _ h92, cutL_slash _ _ _ _ _ _ h92, pre_putW]
          exact ih t (by simp at ht; omega) _ _ _ _ _ h
      · by_cases h34 : b.toNat = 34
        · by_cases hq : 0 ≤ q
          · rw [cutL_close _ _ _ _ _ h34 hq, cutL_close _ _ _ _ _ h34 (by omega)]
            exact ih t ht _ _ _ _ _ (by omega)
          · rw [cutL_open _ _ _ _ _ h34 hq, cutL_open _ _ _ _ _ h34 (by omega), pre_begun]
            exact ih t ht _ _ _ _ _ (by omega)
        · by_cases hq : 0 ≤ q
          · rw [cutL_in _ _ _ _ _ h92 h34 hq, cutL_in _ _ _ _ _ h92 h34 (by omega), pre_putW]
            exact ih t ht _ _ _ _ _ h
          · rw [cutL_out _ _ _ _ _ h92 h34 hq, cutL_out _ _ _ _ _ h92 h34 (by omega), pre_plainW]
            exact ih t ht _ _ _ _ _ h

theorem commandW_init (s : CS) : s.commandW = CS.init.pre s.commandW.cmds := by
  unfold CS.commandW CS.flushW CS.endW CS.init CS.pre
  simp

/-- What the line of two lines is cut into. -/
theorem cut_join (C D : List UInt8) (hC : (cutL 0 C (-1) CS.init).1 < 0) (hD : (cutL 0 D (-1) CS.init).1 < 0) :
    (cutL 0 (C ++ 59 :: D) (-1) CS.init).1 < 0 ∧ (cutL 0 (C ++ 59 :: D) (-1) CS.init).2.commandW.cmds = (cutL 0 C (-1) CS.init).2.commandW.cmds ++ (cutL 0 D (-1) CS.init).2.commandW.cmds := by
  rw [cutL_append _ C.length C (Nat.le_refl _) _ _ _ hC, cutL_out _ _ _ _ _ (by decide) (by decide) (by omega)]
  have e : (cutL 0 C (-1) CS.init).2.plainW ((59 : UInt8).toNat : Int) = (cutL 0 C (-1) CS.init).2.commandW := rfl
  rw [e]
  have h := cutL_pre (cutL 0 C (-1) CS.init).2.commandW.cmds D.length D (Nat.le_refl _) 0 (0 + C.length + 1) (-1) (cutL 0 C (-1) CS.init).1 CS.init (by omega)
  rw [← commandW_init] at h
  refine ⟨h.1.1 hD, ?_⟩
  rw [h.2, pre_commandW]
  rfl

set_option maxHeartbeats 2000000 in
theorem join_long (a b : ByteArray) (w : World) (h : 200 < a.size ∨ 200 < b.size) : Calls Try.prog 3 #[.string a, .string b] w fun e w' => e = .returned (.bool true) ∧ Below w.heap.size w w' := by
  by_cases h1 : 200 < a.size
  · have h1b : decide ((200 : Int) < (a.size : Int)) = true := decide_eq_true (by omega)
    clear h
    go_enter Try.func3, Try.ntmps3
    go_wp2_with (go_at_call 4; refine (awake_calls _).mono ?_; rintro e w' ⟨rfl, hb⟩)
    go_ret
    exact ⟨rfl, hb⟩
  · have h1b : decide ((200 : Int) < (a.size : Int)) = false := decide_eq_false (by omega)
    have h2b : decide ((200 : Int) < (b.size : Int)) = true := decide_eq_true (by omega)
    clear h
    go_enter Try.func3, Try.ntmps3
    go_wp2_with (go_at_call 4; refine (awake_calls _).mono ?_; rintro e w' ⟨rfl, hb⟩)
    go_ret
    exact ⟨rfl, hb⟩

theorem R_readsM {α : Type} {d : Kd α} {e base n c : Nat} {ok : Nat → Prop} {w : World} {A : Option Addr} {xs : List α} (h : d.R e w base ok (.slice A n c) xs) :
    n = xs.length ∧ n ≤ c ∧ ReadsRow (d.M w base ok) d.sz w A n xs := by
  obtain ⟨A', c', he, hl, hr⟩ := OwnRow.reads h.2
  injection he with e1 e2 e3
  subst e1 e2 e3
  exact ⟨rfl, hl, hr.imp_ (Below.refl _ _) (fun _ _ hp => d.M_mono (fun _ hk => hk.1) hp)⟩

theorem R_empty {α : Type} (d : Kd α) (e : Nat) (w : World) (base : Nat) (hb : base ≤ w.heap.size) : d.R e (w.alloc (.cells #[] e)) base (fun _ => True) (.slice (some ⟨w.heap.size, 0, none⟩) 0 0) [] :=
  ⟨fun _ _ => trivial, [], World.ownsRow_made w #[] 0 hb (by decide) (by simp), Reps.none _ _⟩

theorem join_data (a b : ByteArray) : (a ++ ⟨#[59]⟩ ++ b).data.toList = a.data.toList ++ 59 :: b.data.toList := by simp
theorem join_size (a b : ByteArray) : (a ++ ⟨#[59]⟩ ++ b).size = a.size + 1 + b.size := by
  have h := congrArg List.length (join_data a b)
  simp only [List.length_append, List.length_cons, data_length] at h
  omega

set_option maxHeartbeats 4000000 in
theorem join_short (a b : ByteArray) (w : World) (ha : a.size ≤ 200) (hb : b.size ≤ 200) : Calls Try.prog 3 #[.string a, .string b] w fun e w' => e = .returned (.bool true) ∧ Below w.heap.size w w' := by
  have h1b : decide ((200 : Int) < (a.size : Int)) = false := decide_eq_false (by omega)
  have h2b : decide ((200 : Int) < (b.size : Int)) = false := decide_eq_false (by omega)
  have HCA := Aside0.mk (cut_calls a w (by omega))
  go_enter Try.func3, Try.ntmps3
  go_wp2_with fail
  refine HCA.out.mono ?_
  rintro e w1 ⟨hb1, ha1, ha2⟩
  have HCB := Aside0.mk (cut_calls b w1 (by omega))
  have HB1 := Aside0.mk hb1
  clear hb1 HCA
  by_cases hA : 0 ≤ (cutL 0 a.data.toList (-1) CS.init).1
  · obtain ⟨v, rfl, g, f, rfl, _⟩ := ha1 hA
    clear ha1 ha2 hA
    go_wp2_with fail
    refine HCB.out.mono ?_
    rintro e w2 ⟨hb2, hb1', hb2'⟩
    have HB2 : Aside0 (Below w.heap.size w w2) := ⟨HB1.out.trans (hb2.mono HB1.out.size)⟩
    by_cases hB : 0 ≤ (cutL 0 b.data.toList (-1) CS.init).1
    · obtain ⟨v, rfl, g', f', rfl, _⟩ := hb1' hB
      clear hb1' hb2' hB hb2 HCB
      go_wp2_with (go_at_call 4; refine (awake_calls _).mono ?_; rintro e w' ⟨rfl, hb⟩)
      go_ret
      exact ⟨rfl, HB2.out.trans (hb.mono HB2.out.size)⟩
    · obtain ⟨A, n, c, rfl, _⟩ := hb2' (by omega)
      clear hb1' hb2' hB hb2 HCB
      go_wp2_with (go_at_call 4; refine (awake_calls _).mono ?_; rintro e w' ⟨rfl, hb⟩)
      go_ret
      exact ⟨rfl, HB2.out.trans (hb.mono HB2.out.size)⟩
  · obtain ⟨A, n, c, rfl, hRA, hlA⟩ := ha2 (by omega)
    have HA := Aside0.mk hA
    have RA := Aside0.mk hRA
    clear ha1 ha2 hA hRA
    go_wp2_with fail
    refine HCB.out.mono ?_
    rintro e w2 ⟨hb2, hb1', hb2'⟩
    have HB2 : Aside0 (Below w.heap.size w w2) := ⟨HB1.out.trans (hb2.mono HB1.out.size)⟩
    have HB12 := Aside0.mk hb2
    clear hb2 HCB
    by_cases hB : 0 ≤ (cutL 0 b.data.toList (-1) CS.init).1
    · obtain ⟨v, rfl, g', f', rfl, _⟩ := hb1' hB
      clear hb1' hb2' hB
      go_wp2_with (go_at_call 4; refine (awake_calls _).mono ?_; rintro e w' ⟨rfl, hb⟩)
      go_ret
      exact ⟨rfl, HB2.out.trans (hb.mono HB2.out.size)⟩
    · obtain ⟨A', n', c', rfl, hRB, hlB⟩ := hb2' (by omega)
      have HBB := Aside0.mk hB
      have RB := Aside0.mk hRB
      clear hb1' hb2' hB hRB
      obtain ⟨J1, J2⟩ := cut_join a.data.toList b.data.toList (by have := HA.out; omega) (by have := HBB.out; omega)
      rw [← join_data] at J1 J2
      have HJ := Aside0.mk (cut_calls (a ++ ⟨#[59]⟩ ++ b) w2 (by rw [join_size]; omega))
      go_wp2_with fail
      refine HJ.out.mono ?_
      rintro e w3 ⟨hb3, hno3, h3⟩
      obtain ⟨A3, n3, c3, rfl, hR3, hl3⟩ := h3 J1
      rw [J2] at hR3
      generalize (cutL 0 a.data.toList (-1) CS.init).2.commandW.cmds = LA at *
      generalize (cutL 0 b.data.toList (-1) CS.init).2.commandW.cmds = LB at *
      have hsz3 : w.heap.size ≤ w3.heap.size := Nat.le_trans HB2.out.size hb3.size
      have RA3 : Aside0 ((Kd.slice 9 Kd.string).R 30 (w3.alloc (.cells #[] 30)) w.heap.size (fun k => k < w3.heap.size) (.slice A n c) LA) :=
        ⟨Kd.R_alloc (Kd.R_mono (Kd.R_bound (Kd.R_below (Kd.R_below RA.out HB12.out) hb3)) (fun _ h => h.2.2.1)) _⟩
      have RB3 : Aside0 ((Kd.slice 9 Kd.string).R 30 (w3.alloc (.cells #[] 30)) w.heap.size (fun k => k < w3.heap.size) (.slice A' n' c') LB) :=
        ⟨Kd.R_alloc (Kd.R_mono (Kd.R_bound (Kd.R_lower (Kd.R_below RB.out hb3) HB1.out.size)) (fun _ h => h.2.2.1)) _⟩
      have RC3 : Aside0 ((Kd.slice 9 Kd.string).R 30 (w3.alloc (.cells #[] 30)) w.heap.size (fun k => k < w3.heap.size) (.slice A3 n3 c3) (LA ++ LB)) :=
        ⟨Kd.R_alloc (Kd.R_mono (Kd.R_bound (Kd.R_lower hR3 HB2.out.size)) (fun _ h => h.2.2.1)) _⟩
      have HB3 : Aside0 (Below w.heap.size w (w3.alloc (.cells #[] 30))) := ⟨(HB2.out.trans (hb3.mono HB2.out.size)).alloc hsz3 _⟩
      have R0 : Aside0 ((Kd.slice 9 Kd.string).R 30 (w3.alloc (.cells #[] 30)) w.heap.size (fun _ => True) (.slice (some ⟨w3.heap.size, 0, none⟩) 0 0) []) := ⟨R_empty _ 30 w3 _ hsz3⟩
      have hnA := (R_readsM RA3.out).1
      have hnB := (R_readsM RB3.out).1
      have HNA := Aside0.mk hnA
      have HNB := Aside0.mk hnB
      have HLA := Aside0.mk hlA
      have HLB := Aside0.mk hlB
      clear hno3 hl3 h3 hR3 hb3 J1 J2 HJ RA RB HB12 HB1 HB2 HA HBB hnA hnB hlA hlB
      go_wp2_with (at_builtin; refine gate_guard (by rfl) ?_; refine Kd.R_append_rows (Kd.slice 9 Kd.string) (w0 := w) w.heap.size rfl (.tmp 49) (.tmp 50) 23 30 (.slice none 0 0) 24 rfl Try.underlying23 info30 rfl (by decide) (by decide) (.slice (some ⟨w3.heap.size, 0, none⟩) 0 0) [] LA A n c (fun _ => True) (fun k => k < w3.heap.size) rfl rfl R0.out (R_readsM RA3.out).2.2 (fun _ _ h => h) (fun k hk => ⟨trivial, fun e => by simp [Value.ownBlock] at e; omega⟩) (fun _ _ => trivial) HB3.out ?aS ?aL ?_)
      case aS => simp; omega
      case aL => have := HNA.out; have := HLA.out; simp only [List.length_nil]; omega
      intro v1 w4 ho hb4 hgr hat
      have hv1 : ∀ k, k < w3.heap.size → some k ≠ v1.ownBlock := by
        intro k hk
        rcases hat with e | ⟨b', e, hb'⟩
        · rw [e]; simp [Value.ownBlock]; omega
        · rw [e]; simp; omega
      have RB4 : Aside0 ((Kd.slice 9 Kd.string).R 30 w4 w.heap.size (fun k => k < w3.heap.size) (.slice A' n' c') LB) := ⟨Kd.R_grown RB3.out hgr (fun k hk => by simp [Value.ownBlock]; omega)⟩
      have RC4 : Aside0 ((Kd.slice 9 Kd.string).R 30 w4 w.heap.size (fun k => k < w3.heap.size) (.slice A3 n3 c3) (LA ++ LB)) := ⟨Kd.R_grown RC3.out hgr (fun k hk => by simp [Value.ownBlock]; omega)⟩
      have RO := Aside0.mk ho
      have HB4 := Aside0.mk hb4
      have HV1 := Aside0.mk hv1
      have hsz4 := hb4.size
      clear ho hb4 hgr hat hv1 RA3 RB3 RC3 HB3 R0
      obtain ⟨D1, d1, m1, rfl⟩ := sl_of_R RO.out
      go_wp2_with (at_builtin; refine gate_guard (by rfl) ?_; refine Kd.R_append_rows (Kd.slice 9 Kd.string) (w0 := w) w.heap.size rfl (.tmp 51) (.tmp 52) 23 30 (.slice none 0 0) 24 rfl Try.underlying23 info30 rfl (by decide) (by decide) (.slice D1 d1 m1) LA LB A' n' c' (fun _ => True) (fun k => k < w3.heap.size) rfl rfl RO.out (R_readsM RB4.out).2.2 (fun _ _ h => h) (fun k hk => ⟨trivial, HV1.out k hk⟩) (fun _ _ => trivial) HB4.out ?aS ?aL ?_)
      case aS => exact hsz4
      case aL => have := HNB.out; have := HLB.out; have := HLA.out; omega
      intro v2 w5 ho hb5 hgr hat
      have RC5 : Aside0 ((Kd.slice 9 Kd.string).R 30 w5 w.heap.size (fun k => k < w3.heap.size) (.slice A3 n3 c3) (LA ++ LB)) := ⟨Kd.R_grown RC4.out hgr (fun k hk => HV1.out k hk)⟩
      have RO5 := Aside0.mk ho
      have HB5 := Aside0.mk hb5
      have hsz5 := hb5.size
      clear ho hb5 hgr hat RB4 RC4 RO HB4 HV1
      obtain ⟨D2, d2, m2, rfl⟩ := sl_of_R RO5.out
      obtain ⟨e1, e2, e3⟩ := Kd.R_reads' RC5.out
      obtain ⟨f1, f2, f3⟩ := Kd.R_reads' RO5.out
      obtain ⟨k, hk⟩ := sameAll_self _ w5 _ _ e3
      have HS := sashref20_SameAll.calls k A3 c3 (LA ++ LB) D2 m2 (LA ++ LB) true w5 e3 (by omega) f3 (by omega) hk
      rw [← e1] at HS
      have e4 : n3 = d2 := by omega
      subst e4
      have HSA := Aside0.mk HS
      clear HS e1 e2 e3 f1 f2 f3 hk
      go_wp2_with fail
      refine HSA.out.mono ?_
      rintro e w6 ⟨rfl, hd⟩
      have HB6 : Aside0 (Below w.heap.size w w6) := ⟨HB5.out.trans (hd.below.mono hsz5)⟩
      clear hd HSA
      go_wp2_with (go_at_call 4; refine (awake_calls _).mono ?_; rintro e w' ⟨rfl, hb⟩)
      go_ret
      exact ⟨rfl, HB6.out.trans (hb.mono HB6.out.size)⟩

theorem join_calls (a b : ByteArray) (w : World) : Calls Try.prog 3 #[.string a, .string b] w fun e w' => e = .returned (.bool true) ∧ Below w.heap.size w w' := by
  by_cases h : 200 < a.size ∨ 200 < b.size
  · exact join_long a b w h
  · exact join_short a b w (by omega) (by omega)
end Go.Proofs.Ytelmmcjlhjahcaa
