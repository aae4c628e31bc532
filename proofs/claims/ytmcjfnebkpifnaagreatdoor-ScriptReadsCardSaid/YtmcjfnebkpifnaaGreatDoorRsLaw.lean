/-
  Joined texts: RlnOne, RefRead, RsPure, RsLaw.
-/
import Derived.Test.YtmcjfnebkpifnaaGreatDoorRlnM0
import Derived.Test.YtmcjfnebkpifnaaGreatDoorRlnM4
import Derived.Test.YtmcjfnebkpifnaaGreatDoorRlnM5
import Derived.Test.YtmcjfnebkpifnaaGreatDoorRlnM6
import Derived.Test.YtmcjfnebkpifnaaGreatDoorRlnM7
import Derived.Test.YtmcjfnebkpifnaaGreatDoorRlnMay
import Derived.Test.YtmcjfnebkpifnaaGreatDoorRdCut
import Derived.Test.YtmcjfnebkpifnaaGreatDoorRdAll
import Derived.Test.YtmcjfnebkpifnaaGreatDoorRdTop
import Derived.Test.YtmcjfnebkpifnaaGreatDoorScPrintL
/-
  The document's ReadLine: the happening of a line. (The ways together.)
-/
namespace Go.Proofs.YtmcjfnebkpifnaaGreatDoor
open Go.RowKit Go.Proofs.YtmcjfnebkpifnaaGreatDoorW.PrintWords Go.Proofs.YtmcjfnebkpifnaaGreatDoorW.PrintLast Go.Proofs.YtmcjfnebkpifnaaGreatDoorW.PrintMore Go.Proofs.YtmcjfnebkpifnaaGreatDoor.PScriptReads
open Go.Lib (decDigits parseUintM)
set_option linter.unusedVariables false
set_option linter.unusedSimpArgs false

theorem parse_backR (M : Nat) (hM : M ≤ 2147483647) (n : Nat) : ∀ (l : List UInt8) (u : Nat), l.length = n → l ≠ [] → (∀ b ∈ l, isD b = true) → (1 < l.length → l.getD 0 0 ≠ 48) → parseUintM M 0 l = .ok u → decDigits u = l := by
  induction n with
  | zero => intro l u hn h0; exact absurd (List.length_eq_zero_iff.1 hn) h0
  | succ n ih =>
    intro l u hn h0 hall hfst hp
    obtain ⟨a, c, rfl⟩ : ∃ a c, l = a ++ [c] := ⟨l.dropLast, l.getLast h0, (List.dropLast_concat_getLast h0).symm⟩
    have hc := isD_of c (hall c (by simp))
    have e48 : UInt8.ofNat (48 + (c.toNat - 48)) = c := by
      rw [show 48 + (c.toNat - 48) = c.toNat from by omega]
      simp
    by_cases ha : a = []
    · subst ha
      rw [List.nil_append] at hp ⊢
      unfold parseUintM at hp
      rw [if_pos hc] at hp
      split at hp
      · cases hp
      · split at hp
        · cases hp
        · unfold parseUintM at hp
          injection hp with hp
          rw [dec_one u (by omega)]
          congr 1
          rw [← e48]
          congr 1
          omega
    · have hal : a.length = n := by simpa using hn
      have hfa : a.getD 0 0 ≠ 48 := by
        have := hfst (by rw [List.length_append]; have := List.length_pos_iff.2 ha; simp; omega)
        rwa [getD_append ha] at this
      rw [parse_append] at hp
      rcases hv : parseUintM M 0 a with v | _ | _
      · rw [hv] at hp
        have hd := ih a v hal ha (fun b hb => hall b (by simp [hb])) (fun _ => hfa) hv
        have hv1 : 1 ≤ v := by
          rcases Nat.eq_zero_or_pos v with h | h
          · subst h
            rw [← hd, dec_one 0 (by omega)] at hfa
            exact absurd rfl hfa
          · exact h
        have hp : parseUintM M v [c] = .ok u := hp
        unfold parseUintM at hp
        rw [if_pos hc] at hp
        split at hp
        · cases hp
        · split at hp
          · cases hp
          · unfold parseUintM at hp
            injection hp with hp
            have hu1 : u / 10 = v := by omega
            have hu2 : u % 10 = c.toNat - 48 := by omega
            rw [dec_step u (by omega), hu1, hd, hu2, e48]
      · rw [hv] at hp; cases hp
      · rw [hv] at hp; cases hp
theorem RD_someR {l : List UInt8} {h : SH} (hr : RD l = some h) : mayB h = true ∧ lineB h = l := by
  unfold RD at hr
  cases hd : decB l with
  | none => rw [hd] at hr; cases hr
  | some g =>
    rw [hd] at hr
    simp only at hr
    by_cases hc : mayB g = true ∧ lineB g = l
    · rw [if_pos hc] at hr
      cases hr
      exact hc
    · rw [if_neg hc] at hr; cases hr
theorem takeWhile_app (p : UInt8 → Bool) (a r : List UInt8) (h : ∀ b ∈ a, p b = true) (hr : ∀ c t, r = c :: t → p c = false) : (a ++ r).takeWhile p = a := by
  induction a with
  | nil =>
    cases r with
    | nil => rfl
    | cons c t => rw [List.nil_append, List.takeWhile_cons, if_neg (by rw [hr c t rfl]; decide)]
  | cons x a ih => rw [List.cons_append, List.takeWhile_cons, if_pos (h x (by simp)), ih (fun b hb => h b (by simp [hb]))]
/-- The number with which a text begins, when it begins with a number's digits and no digit stands behind them. -/
theorem head_app (n : Nat) (hn : n ≤ 2147483647) (T : List UInt8) (hT : T = [] ∨ ∃ t, T = 32 :: t) : headR (bsOf (decDigits n ++ T)) = ((n : Int), ((decDigits n).length : Int), 0) := by
  have hl : headL (bsOf (decDigits n ++ T)) = decDigits n := by
    unfold headL
    rw [bs_list]
    refine takeWhile_app _ _ _ (dec_all n) (fun c t h => ?_)
    rcases hT with rfl | ⟨u, rfl⟩
    · cases h
    · cases h; rfl
  have hp : 0 < (decDigits n).length := List.length_pos_iff.2 (dec_ne n)
  unfold headR
  rw [hl, if_neg (by omega)]
  have h2 : ¬ (1 < (decDigits n).length ∧ (decDigits n).getD 0 0 = 48) := by
    rintro ⟨h1, h2⟩
    by_cases h9 : n < 10
    · rw [dec_one n h9] at h1; simp at h1
    · exact dec_first n (by omega) h2
  rw [if_neg h2, parse_dec _ (by omega) n hn]
/-- What Head tells without an error: digits of the number, in front. -/
theorem head_back (r : List UInt8) (N D : Int) (h : headR (bsOf r) = (N, D, 0)) : ∃ n rest, n ≤ 2147483647 ∧ N = ((n : Nat) : Int) ∧ r = decDigits n ++ rest ∧ D = ((decDigits n).length : Int) := by
  unfold headR at h
  by_cases h0 : (headL (bsOf r)).length = 0
  · rw [if_pos h0] at h; simp at h
  · rw [if_neg h0] at h
    by_cases h2 : 1 < (headL (bsOf r)).length ∧ (headL (bsOf r)).getD 0 0 = 48
    · rw [if_pos h2] at h; simp at h
    · rw [if_neg h2] at h
      rcases hp : parseUintM 2147483647 0 (headL (bsOf r)) with u | _ | _
      · rw [hp] at h
        simp only [Prod.mk.injEq] at h
        obtain ⟨e1, e2, _⟩ := h
        have hu := parse_bound 2147483647 (headL (bsOf r)) 0 u (by omega) hp
        have hd := parse_backR 2147483647 (by omega) _ (headL (bsOf r)) u rfl (fun h => h0 (by rw [h]; rfl)) (headL_all (bsOf r)) (fun hl he => h2 ⟨hl, he⟩) hp
        have hpre := List.takeWhile_prefix (p := isD) (l := r)
        have hle : headL (bsOf r) = r.takeWhile isD := by unfold headL; rw [bs_list]
        obtain ⟨rest, hrest⟩ := hpre
        refine ⟨u, rest, hu, e1.symm, ?_, by rw [hd]; exact e2.symm⟩
        rw [hd, hle]
        exact hrest.symm
      · rw [hp] at h; simp at h
      · rw [hp] at h; simp at h
/-- The line of a happening of kind i + 1, i > 0. -/
theorem line_form {h : SH} (hm : mayB h = true) {i : Nat} {r : List UInt8} (hi : i < 6) (hl : lineB h = kindL.getD i [] ++ 32 :: r) :
    1 ≤ i ∧ h.f0 = ((i + 1 : Nat) : Int) ∧ ∃ n : Nat, n ≤ 2147483647 ∧ h.f1 = (n : Int) ∧ r = decDigits n ++ (if i = 2 then 32 :: hexL h.f2.data.toList else if i = 3 ∨ i = 4 then 32 :: quotedL h.f2.data.toList else []) := by
  have hk := may_kind hm
  obtain ⟨q0, q1, q2, q3⟩ := may_facts hm
  obtain ⟨f0, f1, f2⟩ := h
  simp only at hk q0 q1 q2 q3
  obtain ⟨n, rfl⟩ := Int.eq_ofNat_of_zero_le q0
  have hn : n ≤ 2147483647 := by omega
  have key : ∀ (k : Nat) (T : List UInt8), k < 6 → 1 ≤ k → kindL.getD k [] ++ 32 :: (decDigits n ++ T) = kindL.getD i [] ++ 32 :: r → k = i ∧ r = decDigits n ++ T := by
    intro k T hk6 hk1 he
    have hki : k = i := match_one hk6 hi ⟨_, rfl⟩ ⟨r, he⟩
    subst hki
    have := List.append_cancel_left he
    injection this with _ h2
    exact ⟨rfl, h2.symm⟩
  rcases hk with h | h | h | h | h | h
  · subst h
    exfalso
    have e : lineB ⟨1, (n : Int), f2⟩ = kindL.getD 0 [] := by
      unfold lineB
      simp [kindW]
    rw [e] at hl
    exact no_attach hi hl rfl
  · subst h
    have e : lineB ⟨2, (n : Int), f2⟩ = kindL.getD 1 [] ++ 32 :: (decDigits n ++ []) := by
      unfold lineB
      rw [digL_dec n hn]
      simp [kindW]
    rw [e] at hl
    obtain ⟨rfl, hr⟩ := key 1 [] (by omega) (by omega) hl
    exact ⟨by omega, rfl, n, hn, rfl, by rw [hr]; simp⟩
  · subst h
    have e : lineB ⟨3, (n : Int), f2⟩ = kindL.getD 2 [] ++ 32 :: (decDigits n ++ (32 :: hexL f2.data.toList)) := by
      unfold lineB
      rw [digL_dec n hn]
      simp [kindW]
    rw [e] at hl
    obtain ⟨rfl, hr⟩ := key 2 _ (by omega) (by omega) hl
    exact ⟨by omega, rfl, n, hn, rfl, by rw [hr]; simp⟩
  · subst h
    have e : lineB ⟨4, (n : Int), f2⟩ = kindL.getD 3 [] ++ 32 :: (decDigits n ++ (32 :: quotedL f2.data.toList)) := by
      unfold lineB
      rw [digL_dec n hn]
      simp [kindW]
    rw [e] at hl
    obtain ⟨rfl, hr⟩ := key 3 _ (by omega) (by omega) hl
    exact ⟨by omega, rfl, n, hn, rfl, by rw [hr]; simp⟩
  · subst h
    have e : lineB ⟨5, (n : Int), f2⟩ = kindL.getD 4 [] ++ 32 :: (decDigits n ++ (32 :: quotedL f2.data.toList)) := by
      unfold lineB
      rw [digL_dec n hn]
      simp [kindW]
    rw [e] at hl
    obtain ⟨rfl, hr⟩ := key 4 _ (by omega) (by omega) hl
    exact ⟨by omega, rfl, n, hn, rfl, by rw [hr]; simp⟩
  · subst h
    have e : lineB ⟨6, (n : Int), f2⟩ = kindL.getD 5 [] ++ 32 :: (decDigits n ++ []) := by
      unfold lineB
      rw [digL_dec n hn]
      simp [kindW]
    rw [e] at hl
    obtain ⟨rfl, hr⟩ := key 5 [] (by omega) (by omega) hl
    exact ⟨by omega, rfl, n, hn, rfl, by rw [hr]; simp⟩
/-- .. there and back. -/
theorem line_make (i n : Nat) (s : ByteArray) (hi : 1 ≤ i ∧ i < 6) (hn : n ≤ 2147483647) : lineB ⟨((i + 1 : Nat) : Int), (n : Int), s⟩ = kindL.getD i [] ++ 32 :: (decDigits n ++ (if i = 2 then 32 :: hexL s.data.toList else if i = 3 ∨ i = 4 then 32 :: quotedL s.data.toList else [])) := by
  have h : i = 1 ∨ i = 2 ∨ i = 3 ∨ i = 4 ∨ i = 5 := by omega
  rcases h with rfl | rfl | rfl | rfl | rfl <;> (unfold lineB; rw [digL_dec n hn]; simp [kindW])
theorem may_make (i n : Nat) (s : ByteArray) (hi : 1 ≤ i ∧ i < 6) (hn : n ≤ 2147483647) (hs : i = 1 ∨ i = 5 → s = ⟨#[]⟩) (hs2 : i = 3 ∨ i = 4 → s.size ≤ 65535) : mayB ⟨((i + 1 : Nat) : Int), (n : Int), s⟩ = true := by
  have h : i = 1 ∨ i = 2 ∨ i = 3 ∨ i = 4 ∨ i = 5 := by omega
  have hn0 : (0 : Int) ≤ (n : Int) := by omega
  have hn1 : (n : Int) ≤ 2147483647 := by omega
  rcases h with rfl | rfl | rfl | rfl | rfl
  · obtain rfl := hs (.inl rfl)
    unfold mayB script_may.f
    simp [hn0, hn1]
  · unfold mayB script_may.f
    simp [hn0, hn1]
  · have h8 : s.size ≤ 65535 := hs2 (.inl rfl)
    have h6 : ¬ (65535 < (s.size : Int)) := by omega
    have h7 : (s.size : Int) ≤ 65535 := by omega
    have h9 : ¬ (65535 < s.size) := by omega
    unfold mayB script_may.f
    simp [hn0, hn1, h6, h7, h8, h9]
  · have h8 : s.size ≤ 65535 := hs2 (.inr rfl)
    have h6 : ¬ (65535 < (s.size : Int)) := by omega
    have h7 : (s.size : Int) ≤ 65535 := by omega
    have h9 : ¬ (65535 < s.size) := by omega
    unfold mayB script_may.f
    simp [hn0, hn1, h6, h7, h8, h9]
  · obtain rfl := hs (.inr rfl)
    unfold mayB script_may.f
    simp [hn0, hn1]
theorem RD_no {L : List UInt8} (h : ∀ g, mayB g = true → lineB g ≠ L) : RD L = none := by
  cases hr : RD L with
  | none => rfl
  | some g => exact absurd (RD_someR hr).2 (h g (RD_someR hr).1)
theorem LinePost.not {w : World} {L : List UInt8} (h : RD L = none) {e : Ending} {w' : World} (k : LineNo w e w') : LinePost w L e w' :=
  ⟨Z0, false, k.1, k.2, ⟨nofun, fun _ => h⟩⟩
theorem LinePost.yes {w : World} {L : List UInt8} {h : SH} (hm : mayB h = true) (hl : lineB h = L) {e : Ending} {w' : World} (k : LineIs w h true e w') : LinePost w L e w' :=
  ⟨h, true, k.1, k.2, ⟨fun _ => by rw [← hl]; exact RD_line hm, nofun⟩⟩
theorem LinePost.nay {w : World} {L : List UInt8} {h : SH} (hr : RD L = none) {e : Ending} {w' : World} (k : LineIs w h false e w') : LinePost w L e w' :=
  ⟨h, false, k.1, k.2, ⟨nofun, fun _ => hr⟩⟩
theorem LinePost.may {w : World} {L : List UInt8} {h : SH} (hu : ∀ g, mayB g = true → lineB g = L → g = h) {e : Ending} {w' : World} (k : ReadPost w L h e w') : LinePost w L e w' := by
  obtain ⟨b, q1, q2, q3⟩ := k
  refine ⟨h, b, q1, q2, ⟨fun hb => ?_, fun hb => ?_⟩⟩
  · obtain ⟨p1, p2⟩ := q3.out.1 hb
    rw [← p2]; exact RD_line p1
  · refine RD_no (fun g g1 g2 => ?_)
    have hg := hu g g1 g2
    rw [hg] at g1 g2
    rw [q3.out.2 ⟨g1, g2⟩] at hb
    cases hb
theorem hexD_fin : ∀ i : Fin 256, ∃ x y, hex2 (UInt8.ofNat i.val) = [x, y] ∧ hexPl x y = some (UInt8.ofNat i.val) := fun i =>
  ⟨(hex2 (UInt8.ofNat i.val)).getD 0 0, (hex2 (UInt8.ofNat i.val)).getD 1 0, rfl, (show ∀ i : Fin 256, hexPl ((hex2 (UInt8.ofNat i.val)).getD 0 0) ((hex2 (UInt8.ofNat i.val)).getD 1 0) = some (UInt8.ofNat i.val) from by decide +kernel) i⟩
theorem hexUl_flat (t : List UInt8) : hexUl (t.flatMap hex2) = some t := by
  induction t with
  | nil => rfl
  | cons b t ih =>
    obtain ⟨x, y, hx, hp⟩ := hexD_fin ⟨b.toNat, b.toNat_lt⟩
    rw [show UInt8.ofNat (⟨b.toNat, b.toNat_lt⟩ : Fin 256).val = b by simp] at hx hp
    rw [List.flatMap_cons, hx]
    show hexUl (x :: y :: t.flatMap hex2) = some (b :: t)
    rw [hexUl, hp, ih]
    rfl
def hexC (x : Nat) : UInt8 := UInt8.ofNat (if x < 10 then 48 + x else 87 + x)
theorem hexDl_back : ∀ i : Fin 256, (hexDl (UInt8.ofNat i.val)).all (fun x => decide (x < 16) && (hexC x == UInt8.ofNat i.val)) = true := by decide +kernel
theorem hex2_make : ∀ x : Fin 16, ∀ y : Fin 16, hex2 (UInt8.ofNat (16 * x.val + y.val)) = [hexC x.val, hexC y.val] := by decide +kernel
theorem hexPl_back (a b x : UInt8) (h : hexPl a b = some x) : hex2 x = [a, b] := by
  have ha := hexDl_back ⟨a.toNat, a.toNat_lt⟩
  have hb := hexDl_back ⟨b.toNat, b.toNat_lt⟩
  rw [show UInt8.ofNat (⟨a.toNat, a.toNat_lt⟩ : Fin 256).val = a by simp] at ha
  rw [show UInt8.ofNat (⟨b.toNat, b.toNat_lt⟩ : Fin 256).val = b by simp] at hb
  unfold hexPl at h
  cases h1 : hexDl a with
  | none => rw [h1] at h; cases h
  | some p =>
    cases h2 : hexDl b with
    | none => rw [h1, h2] at h; cases h
    | some q =>
      rw [h1, h2] at h
      rw [h1] at ha
      rw [h2] at hb
      simp only [Option.all_some, Bool.and_eq_true, decide_eq_true_eq, beq_iff_eq] at ha hb
      cases h
      have := hex2_make ⟨p, ha.1⟩ ⟨q, hb.1⟩
      simp only at this
      rw [this, ha.2, hb.2]
theorem hexUl_back : ∀ (n : Nat) (l x : List UInt8), l.length ≤ n → hexUl l = some x → x.flatMap hex2 = l := by
  intro n
  induction n with
  | zero => intro l x hl h; have : l = [] := List.length_eq_zero_iff.1 (by omega); subst this; simp [hexUl] at h; subst h; rfl
  | succ n ih =>
    intro l x hl h
    match l, hl, h with
    | [], _, h => simp [hexUl] at h; subst h; rfl
    | [_], _, h => simp [hexUl] at h
    | a :: b :: t, hl, h =>
      rw [hexUl] at h
      simp only [List.length_cons] at hl
      cases hp : hexPl a b with
      | none => rw [hp] at h; cases h
      | some y =>
        rw [hp] at h
        simp only [Option.map_eq_some_iff] at h
        obtain ⟨q, hq, rfl⟩ := h
        rw [List.flatMap_cons, ih t q (by omega) hq, hexPl_back a b y hp]
        rfl
theorem quotedL_ne (t : List UInt8) : quotedL t ≠ [] := by
  unfold quotedL
  split
  · rename_i h
    rintro rfl
    exact absurd h (by decide)
  · simp
theorem quotedL_one (t : List UInt8) : quotedL t ≠ [34] := by
  unfold quotedL
  split
  · rename_i h
    rintro rfl
    exact absurd h (by decide)
  · intro h
    have := congrArg List.length h
    simp at this
theorem refline_calls (w : World) (s : ByteArray) (hs : s.size ≤ 50000) : Calls Tryz.prog 29 #[.string s] w (LinePost w s.data.toList) := by
  by_cases ha : s.data.toList = kindL.getD 0 []
  · exact (rlnA_calls w s hs ha).mono fun e w' k => LinePost.yes (by decide +kernel) (by rw [ha]; rfl) k
  · by_cases hn : ∃ i, 1 ≤ i ∧ i < 6 ∧ Match s.data.toList i
    · obtain ⟨i, hi0, hi, r, hm⟩ := hn
      have hsz := match_size hm
      obtain ⟨N, D, E, hrq⟩ : ∃ N D E, headR (bsOf r) = (N, D, E) := ⟨_, _, _, rfl⟩
      -- whatever happening has this line: its number and what stands behind it
      have form : ∀ g, mayB g = true → lineB g = s.data.toList → g.f0 = ((i + 1 : Nat) : Int) ∧ ∃ n : Nat, n ≤ 2147483647 ∧ g.f1 = (n : Int) ∧ r = decDigits n ++ (if i = 2 then 32 :: hexL g.f2.data.toList else if i = 3 ∨ i = 4 then 32 :: quotedL g.f2.data.toList else []) := fun g g1 g2 =>
        (line_form g1 hi (g2.trans hm)).2
      have tailT : ∀ (g : SH), ((if i = 2 then 32 :: hexL g.f2.data.toList else if i = 3 ∨ i = 4 then 32 :: quotedL g.f2.data.toList else []) : List UInt8) = [] ∨ ∃ t, ((if i = 2 then 32 :: hexL g.f2.data.toList else if i = 3 ∨ i = 4 then 32 :: quotedL g.f2.data.toList else []) : List UInt8) = 32 :: t := fun g => by
        split
        · exact .inr ⟨_, rfl⟩
        · split
          · exact .inr ⟨_, rfl⟩
          · exact .inl rfl
      by_cases hE : E = 0
      · subst hE
        obtain ⟨n, rest, hn, hN, hr, hD⟩ := head_back r N D hrq
        subst hN
        rw [hD] at hrq
        -- the number of whatever happening has this line is that one, and so is its rest
        have same : ∀ g, mayB g = true → lineB g = s.data.toList → g.f0 = ((i + 1 : Nat) : Int) ∧ g.f1 = (n : Int) ∧ rest = (if i = 2 then 32 :: hexL g.f2.data.toList else if i = 3 ∨ i = 4 then 32 :: quotedL g.f2.data.toList else []) := by
          intro g g1 g2
          obtain ⟨k0, m, hmm, k1, k2⟩ := form g g1 g2
          have hh := head_app m hmm _ (tailT g)
          rw [← k2, hrq] at hh
          simp only [Prod.mk.injEq] at hh
          have hmn : n = m := by omega
          subst hmn
          refine ⟨k0, k1, ?_⟩
          rw [hr] at k2
          exact List.append_cancel_left k2
        by_cases h15 : i = 1 ∨ i = 5
        · have hif : ∀ (X Y : List UInt8), (if i = 2 then X else if i = 3 ∨ i = 4 then Y else ([] : List UInt8)) = [] := fun X Y => by rw [if_neg (by omega), if_neg (by omega)]
          by_cases he : rest = []
          · have hl : lineB ⟨((i + 1 : Nat) : Int), (n : Int), ⟨#[]⟩⟩ = s.data.toList := by rw [line_make i n _ ⟨hi0, hi⟩ hn, hif, hm, hr, he]
            exact (rlnM1_calls w s hs i hi0 hi r hm _ _ rest hr hrq true (by rw [he]; rfl) h15).mono fun e w' k => LinePost.yes (may_make i n ⟨#[]⟩ ⟨hi0, hi⟩ hn (fun _ => rfl) (fun _ => by decide)) hl k
          · have hno : RD s.data.toList = none := RD_no (fun g g1 g2 => he (by rw [(same g g1 g2).2.2, hif]))
            exact (rlnM1_calls w s hs i hi0 hi r hm _ _ rest hr hrq false (by simp [he]) h15).mono fun e w' k => LinePost.nay hno k
        · have hne2 : ∀ g, mayB g = true → lineB g = s.data.toList → rest ≠ [] ∧ ∃ t, rest = 32 :: t ∧ t ≠ [] := by
            intro g g1 g2
            have h := (same g g1 g2).2.2
            have h234 : i = 2 ∨ i = 3 ∨ i = 4 := by omega
            rcases h234 with h2 | h34
            · rw [if_pos h2] at h
              refine ⟨by rw [h]; simp, _, h, ?_⟩
              unfold hexL
              split
              · simp
              · rename_i hq
                intro hz
                have := congrArg List.length hz
                rw [hexF_len] at this
                cases hx : g.f2.data.toList with
                | nil => exact hq hx
                | cons a b => rw [hx] at this; simp at this
            · rw [if_neg (by omega), if_pos h34] at h
              exact ⟨by rw [h]; simp, _, h, quotedL_ne _⟩
          by_cases hlen : rest.length < 2
          · have hno : RD s.data.toList = none := RD_no (fun g g1 g2 => by
              obtain ⟨_, t, ht, ht0⟩ := hne2 g g1 g2
              rw [ht, List.length_cons] at hlen
              have := List.length_pos_iff.2 ht0
              omega)
            exact (rlnM2_calls w s hs i hi0 hi r hm _ _ rest hr hrq h15 hlen).mono fun e w' k => LinePost.not hno k
          · obtain ⟨c, t, hct⟩ : ∃ c t, rest = c :: t := by cases rest with | nil => simp at hlen | cons c t => exact ⟨c, t, rfl⟩
            by_cases hc : c = 32
            · subst hc
              have ht0 : t ≠ [] := by rintro rfl; rw [hct] at hlen; simp at hlen
              have htl : t.length ≤ 50000 := by
                have h1 := congrArg List.length hr
                rw [List.length_append, hct, List.length_cons] at h1
                omega
              by_cases h2 : i = 2
              · have hif : ∀ (X Y : List UInt8), (if i = 2 then X else if i = 3 ∨ i = 4 then Y else ([] : List UInt8)) = X := fun X Y => if_pos h2
                have sm : ∀ g, mayB g = true → lineB g = s.data.toList → t = hexL g.f2.data.toList := fun g g1 g2 => by
                  have h := (same g g1 g2).2.2
                  rw [hif, hct] at h
                  injection h
                by_cases htn : t = [110, 111, 110, 101]
                · have hl : lineB ⟨((i + 1 : Nat) : Int), (n : Int), ⟨#[]⟩⟩ = s.data.toList := by rw [line_make i n _ ⟨hi0, hi⟩ hn, hif, hm, hr, hct, htn]; rfl
                  exact (rlnM3_calls w s hs i hi0 hi r hm _ _ rest hr hrq h15 t hct ht0 h2 htn).mono fun e w' k => LinePost.yes (may_make i n ⟨#[]⟩ ⟨hi0, hi⟩ hn (fun _ => rfl) (fun _ => by decide)) hl k
                · have fl : ∀ g, mayB g = true → lineB g = s.data.toList → g.f2.data.toList ≠ [] ∧ t = g.f2.data.toList.flatMap hex2 := fun g g1 g2 => by
                    have h := sm g g1 g2
                    unfold hexL at h
                    split at h
                    · exact absurd h htn
                    · rename_i hq; exact ⟨hq, h⟩
                  by_cases hod : t.length % 2 = 1
                  · have hno : RD s.data.toList = none := RD_no (fun g g1 g2 => by
                      have := congrArg List.length (fl g g1 g2).2
                      rw [hexF_len] at this
                      omega)
                    exact (rlnM4_calls w s hs i hi0 hi r hm _ _ rest hr hrq h15 t hct ht0 h2 htn hod).mono fun e w' k => LinePost.not hno k
                  · refine (rlnM5_calls w s hs i hi0 hi r hm _ _ rest hr hrq h15 t hct ht0 h2 htn (by omega) (hexUl t) rfl).mono fun e w' k => ?_
                    cases hU : hexUl t with
                    | none =>
                      rw [hU] at k
                      exact LinePost.not (RD_no (fun g g1 g2 => by rw [(fl g g1 g2).2, hexUl_flat] at hU; cases hU)) k
                    | some x =>
                      rw [hU] at k
                      have hx := hexUl_back _ t x (Nat.le_refl _) hU
                      have hx0 : x ≠ [] := by rintro rfl; exact ht0 hx.symm
                      have hl : lineB ⟨((i + 1 : Nat) : Int), (n : Int), bsOf x⟩ = s.data.toList := by
                        rw [line_make i n _ ⟨hi0, hi⟩ hn, hif, hm, hr, hct, bs_list]
                        unfold hexL
                        rw [if_neg hx0, hx]
                      exact LinePost.yes (may_make i n _ ⟨hi0, hi⟩ hn (fun h => by omega) (fun h => by omega)) hl k
              · have h34 : i = 3 ∨ i = 4 := by omega
                have sm : ∀ g, mayB g = true → lineB g = s.data.toList → g.f0 = ((i + 1 : Nat) : Int) ∧ g.f1 = (n : Int) ∧ t = quotedL g.f2.data.toList := fun g g1 g2 => by
                  obtain ⟨k0, k1, h⟩ := same g g1 g2
                  rw [if_neg h2, if_pos h34, hct] at h
                  injection h with _ h
                  exact ⟨k0, k1, h⟩
                by_cases hq : t.headD 0 = 34
                · refine (rlnM7_calls w s hs i hi0 hi r hm _ _ rest hr hrq h15 t hct ht0 h2 hq).mono fun e w' k => LinePost.may ?_ k
                  intro g g1 g2
                  obtain ⟨k0, k1, k2⟩ := sm g g1 g2
                  have h1 := textU_quoted g.f2.data.toList
                  rw [← k2] at h1
                  have hl2 : ¬ t.length < 2 := by
                    intro hlt
                    match t, ht0, hq, hlt, k2 with
                    | [x], _, hq, _, k2 =>
                      have hx : x = 34 := hq
                      rw [hx] at k2
                      exact quotedL_one _ k2.symm
                    | a :: b :: t, _, _, hlt, _ => simp at hlt; omega
                  have h3 : textU t = unq (t.drop 1) := by
                    unfold textU
                    rw [if_neg (by rintro (h | h); exact hl2 h; exact h hq)]
                    cases t <;> rfl
                  obtain ⟨g0, g1', gs⟩ := g
                  simp only at k0 k1 h1
                  rw [k0, k1, ← h3, h1, bs_of]
                  rfl
                · refine (rlnM6_calls w s hs i hi0 hi r hm _ _ rest hr hrq h15 t hct ht0 h2 hq).mono fun e w' k => LinePost.may ?_ k
                  intro g g1 g2
                  obtain ⟨k0, k1, k2⟩ := sm g g1 g2
                  have h1 := textU_quoted g.f2.data.toList
                  rw [← k2] at h1
                  have h3 : textU t = t := by
                    unfold textU
                    rw [if_pos (.inr hq)]
                  obtain ⟨g0, g1', gs⟩ := g
                  simp only at k0 k1 h1
                  rw [h3] at h1
                  rw [k0, k1, h1, bs_of]
                  rfl
            · have hno : RD s.data.toList = none := RD_no (fun g g1 g2 => by
                obtain ⟨_, u, hu, _⟩ := hne2 g g1 g2
                rw [hct] at hu
                injection hu with h1 _
                exact hc h1)
              exact (rlnM8_calls w s hs i hi0 hi r hm _ _ rest hr hrq h15 c t hct hc hlen).mono fun e w' k => LinePost.not hno k
      · have hno : RD s.data.toList = none := RD_no (fun g g1 g2 => by
          obtain ⟨_, m, hmm, _, k2⟩ := form g g1 g2
          have hh := head_app m hmm _ (tailT g)
          rw [← k2, hrq] at hh
          simp only [Prod.mk.injEq] at hh
          exact hE hh.2.2)
        exact (rlnM0_calls w s hs i hi0 hi r hm N D E hrq hE).mono fun e w' k => LinePost.not hno k
    · have hno : RD s.data.toList = none := RD_no (fun g g1 g2 => by
        have hk := may_kind g1
        by_cases h1 : g.f0 = 1
        · refine ha ?_
          rw [← g2]
          have := (may_facts g1).2.2.1 h1
          have hz := (may_facts g1).2.2.2 (.inl h1)
          obtain ⟨g0, g1', gs⟩ := g
          simp only at h1 this hz
          subst h1 this hz
          rfl
        · obtain ⟨q0, q1, _, _⟩ := may_facts g1
          obtain ⟨g0, gn, gs⟩ := g
          simp only at hk h1 q0 q1
          obtain ⟨m, rfl⟩ := Int.eq_ofNat_of_zero_le q0
          obtain ⟨k, hk6, hkk⟩ : ∃ k : Nat, (1 ≤ k ∧ k < 6) ∧ g0 = ((k + 1 : Nat) : Int) := ⟨(g0 - 1).toNat, by omega, by omega⟩
          subst hkk
          exact hn ⟨k, hk6.1, hk6.2, _, by rw [← g2]; exact line_make k m gs hk6 (by omega)⟩)
      exact (rlnN_calls w s hs ha (fun i h1 h2 h3 => hn ⟨i, h1, h2, h3⟩)).mono fun e w' k => LinePost.not hno k
end Go.Proofs.YtmcjfnebkpifnaaGreatDoor

/-
  The document's Read: the happenings of a text.
-/
namespace Go.Proofs.YtmcjfnebkpifnaaGreatDoor
open Go.RowKit Go.Proofs.YtmcjfnebkpifnaaGreatDoorW.PrintWords Go.Proofs.YtmcjfnebkpifnaaGreatDoorW.PrintLast Go.Proofs.YtmcjfnebkpifnaaGreatDoorW.PrintMore Go.Proofs.YtmcjfnebkpifnaaGreatDoor.PScriptReads
set_option linter.unusedVariables false
set_option linter.unusedSimpArgs false
set_option maxRecDepth 100000

theorem scan_lenR (l : List UInt8) : ∀ (q sk : Bool) (a r : List UInt8), scanL q sk l = some (a, r) → l = a ++ 10 :: r := by
  induction l with
  | nil => intro q sk a r h; cases sk <;> simp [scanL] at h
  | cons c t ih =>
    have key : ∀ (q sk : Bool) (a r : List UInt8), (scanL q sk t).map (fun p => (c :: p.1, p.2)) = some (a, r) → c :: t = a ++ 10 :: r := by
      intro q sk a r h
      rw [Option.map_eq_some_iff] at h
      obtain ⟨⟨a', r'⟩, h1, h2⟩ := h
      cases h2
      rw [ih q sk a' r' h1]
      rfl
    intro q sk a r h
    cases sk with
    | true => rw [scanL] at h; exact key _ _ _ _ h
    | false =>
      rw [scanL] at h
      by_cases h1 : c = 92 ∧ q = true
      · rw [if_pos h1] at h; exact key _ _ _ _ h
      · rw [if_neg h1] at h
        by_cases h2 : c = 34
        · rw [if_pos h2] at h; exact key _ _ _ _ h
        · rw [if_neg h2] at h
          by_cases h3 : c = 10 ∧ q = false
          · rw [if_pos h3] at h
            cases h
            rw [h3.1]
            rfl
          · rw [if_neg h3] at h; exact key _ _ _ _ h
/-- The happenings of lines from the one of some number on, or the number of the first that is none. -/
theorem readA_noneR (n : Nat) (l : List UInt8) (h : scanL false false l = none) (hl : l ≠ []) : readA n (cutL false false [] l) = .inl n := by
  rw [cut_scan, h]
  simp [joinP, readA, readLs, hl]
theorem gl_stepA (done : List SH) (h : SH) (r : Nat ⊕ List SH) : gl done (match r with
    | .inl p => .inl p
    | .inr hs => .inr (h :: hs)) = gl (done ++ [h]) r := gl_step done h r
/-- What the document's Read returns of a text. -/
def RefPost (w : World) (r : Nat ⊕ List SH) (e : Ending) (w' : World) : Prop := match r with
  | .inl i => ∃ A c, e = .returned (.tuple #[.slice A 0 c, .int .i64 2, .int .i64 i]) ∧ Kd.C k43 w' A 0 [] ∧ Below w.heap.size w w'
  | .inr hs => ∃ A n c, e = .returned (.tuple #[.slice A n c, .int .i64 0, .int .i64 0]) ∧ n = hs.length ∧ n ≤ c ∧ Kd.C k43 w' A n hs ∧ Below w.heap.size w w'
theorem rend_calls (s : ByteArray) (hs : s.size ≤ 50000) (j : Nat) (W : World) : Calls Tryz.prog 28 #[.string s, .int .i64 j] W fun e w' => e = .returned (.int .i64 (endR j (scanL false false (s.data.toList.drop j)))) ∧ Below W.heap.size W w' :=
  (sashref25_end.calls _ s (j : Int) _ W (end_f s (by omega) j)).mono fun e w' ⟨p1, p2⟩ => ⟨p1, p2.below⟩

set_option maxHeartbeats 16000000 in
theorem rread_calls (w : World) (s : ByteArray) (hs : s.size ≤ 50000)
    (HLN : ∀ (W : World) (a : ByteArray), a.size ≤ 50000 → Below w.heap.size w W → Calls Tryz.prog 29 #[.string a] W (LinePost W a.data.toList)) :
    Calls Tryz.prog 14 #[.string s] w (RefPost w (readTxt s.data.toList)) := by
  have hsl : s.data.toList.length = s.size := by simp
  have hrt : readTxt s.data.toList = gl [] (readA ([] : List SH).length (cutL false false [] (s.data.toList.drop 0))) := by
    rw [List.drop_zero]
    show readA 0 _ = gl [] (readA 0 _)
    cases readA 0 (cutL false false [] s.data.toList) <;> rfl
  have HLL := Aside0.mk HLN
  have HSL := Aside0.mk hsl
  have HEN := Aside0.mk (fun j W => rend_calls s hs j W)
  have HEX := Aside0.mk (ext_list s)
  obtain ⟨res, hres⟩ : ∃ res, res = readTxt s.data.toList := ⟨_, rfl⟩
  rw [← hres] at hrt ⊢
  have HRT := Aside0.mk hrt
  have hgt : ((s.size : Int) > 262144) = False := eq_false (by omega)
  generalize s.data.toList = L at *
  clear HLN hrt hres hsl
  go_enter Tryz.func14, Tryz.ntmps14
  go_wp2_with (first
    | ((with_reducible refine gate_dst (N := 11) rfl ?_); (try (refine gate_guard (by rfl) ?_; dsimp only)); refine Kd.R_lit k43 _ 43 ?hg (N := 11) ?hd (xs := ([] : List SH)) (inner := []) (ok := fun _ => True) (okp := fun _ => True) ?hr ?hp (fun _ hk => hk) trivial (Below.refl _ _) (Nat.le_refl _) (by simp) ?_; (case hd => rfl); (case hg => rfl); (case hr => first | (go_simp; done) | (go_simp; rfl)); (case hp => exact (Reps.none _ _)); intro v5 w1 ho5 hb5 hg_ hnew_; clear hg_ hnew_; have HO5 := Aside0.mk ho5; have HB5 := Aside0.mk hb5; clear ho5 hb5)
    | ((with_reducible refine gate_dst (N := 16) rfl ?_); (try (refine gate_guard (by rfl) ?_; dsimp only)); refine Kd.R_lit k43 _ 43 ?hg (N := 16) ?hd (xs := ([] : List SH)) (inner := []) (ok := fun _ => True) (okp := fun _ => True) ?hr ?hp (fun _ hk => hk) trivial (Below.refl _ _) (Nat.le_refl _) (by simp) ?_; (case hd => rfl); (case hg => rfl); (case hr => first | (go_simp; done) | (go_simp; rfl)); (case hp => exact (Reps.none _ _)); intro v6 w2 ho6 hb6 hg_ hnew_; clear hg_ hnew_; have HO6 := Aside0.mk ho6; have HB6 := Aside0.mk hb6; clear ho6 hb6))
  have ho5 := HO5.out
  obtain ⟨A5, n5, c5, rfl⟩ := sl_of_R ho5
  obtain ⟨hn5, hc5, hC5⟩ := Kd.R_reads' ho5
  obtain rfl : n5 = 0 := hn5
  have HC5 := Aside0.mk hC5
  have ho6 := HO6.out
  obtain ⟨A6, n6, c6, rfl⟩ := sl_of_R ho6
  clear ho5 hC5 hc5 HO5 ho6
  go_loopw [6, 7] (fun v i wr => ∃ j : Nat, j ≤ s.size ∧ i = .int .i64 j ∧ ∃ A' n' c' done, v = .slice A' n' c' ∧ Kd.R k43 43 wr w1.heap.size (fun _ => True) v done ∧ Below w1.heap.size w1 wr ∧ Aside0 (res = gl done (readA done.length (cutL false false [] (L.drop j))) ∧ done.length ≤ 2000)) (fun _ i _ => s.size - (intOf i).toNat)
  case atStart => exact ⟨0, by omega, rfl, _, _, _, [], rfl, HO6.out, HB6.out, ⟨HRT.out, by simp⟩⟩
  case round =>
    obtain ⟨j, hj, rfl, A', n', c', done, rfl, hR2, hB2, HJ⟩ := hrel
    have HR2 := Aside0.mk hR2
    have HB2 := Aside0.mk hB2
    have hsz := hB2.size
    have hdl : done.length ≤ 2000 := HJ.out.2
    obtain ⟨q1, q2, q3⟩ := Kd.R_reads' hR2
    have HQ := Aside0.mk (And.intro q2 q3)
    have hJ1 := HJ.out.1
    obtain ⟨m, hm⟩ : ∃ m, m = done.length := ⟨_, rfl⟩
    rw [← hm] at hdl q1 hJ1
    subst q1
    have HM := Aside0.mk hm
    clear hR2 hB2 q2 q3 HJ hm
    have HBW := Aside0.mk (HB5.out.trans (HB2.out.mono HB5.out.size))
    by_cases hlt : j < s.size
    · have hdn : L.drop j ≠ [] := by
        intro h
        have := congrArg List.length h
        rw [List.length_drop, HSL.out] at this
        simp at this
        omega
      have HEE := Aside0.mk (HEN.out j wr)
      rcases hsc : scanL false false (L.drop j) with _ | ⟨a, r⟩
      · rw [readA_noneR _ _ hsc hdn] at hJ1
        have HRES : Aside0 (res = .inl n') := ⟨hJ1⟩
        rw [hsc] at HEE
        have hEr : endR j none = -1 := rfl
        rw [hEr] at HEE
        clear hJ1 hdn hsc hEr
        go_wp2_with fail
        with_reducible refine HEE.out.mono ?_
        rintro e w3 ⟨rfl, hb3⟩
        have HB3 := Aside0.mk (HB2.out.trans (hb3.mono hsz))
        have HBW3 := Aside0.mk (HBW.out.trans (hb3.mono HBW.out.size))
        clear hb3
        go_wp2
        go_ret3
        rw [HRES.out]
        exact ⟨_, _, rfl, Kd.C_below HC5.out HB3.out, HBW3.out⟩
      · have hln := scan_lenR _ _ _ _ _ hsc
        rw [readA_some _ _ _ _ hsc] at hJ1
        rw [hsc] at HEE
        obtain ⟨e, he⟩ : ∃ e, e = j + a.length := ⟨_, rfl⟩
        have hEr : endR j (some (a, r)) = (e : Int) := by rw [he]; rfl
        rw [hEr] at HEE
        have hlen := congrArg List.length hln
        rw [List.length_drop, HSL.out, List.length_append, List.length_cons] at hlen
        have hes : e < s.size := by omega
        have hje : j ≤ e := by omega
        have hdr : L.drop (e + 1) = r := by
          rw [show e + 1 = j + (a.length + 1) by omega, ← List.drop_drop, hln, List.append_cons, List.drop_append_of_le_length (by simp), List.drop_of_length_le (by simp), List.nil_append]
        have hxt : s.extract j e = bsOf a := by
          rw [HEX.out, hln, he, Nat.add_sub_cancel_left, List.take_append_of_le_length (Nat.le_refl _), List.take_of_length_le (Nat.le_refl _)]
        have hal : (bsOf a).size ≤ 50000 := by rw [bs_size]; omega
        have HAL := Aside0.mk (fun W hb => HLL.out W (bsOf a) hal hb)
        rw [bs_list] at HAL
        have HDR := Aside0.mk hdr
        have hE0 : ((e : Int) < 0) = False := eq_false (by omega)
        have hE0b : decide ((e : Int) < 0) = false := decide_eq_false (by omega)
        have hb1 : (j : Int) ≤ (e : Int) := by omega
        have hb2 : (e : Int) ≤ (s.size : Int) := by omega
        have hb3 : e ≤ s.size := by omega
        clear hsc hEr hlen hdr hal hln he hdn
        by_cases h2000 : n' = 2000
        · have hn1 : ((n' : Int) == 2000) = true := beq_iff_eq.2 (by omega)
          have hn2 : (n' : Int) = 2000 := by omega
          have hJ2 : res = .inl n' := by
            rw [hJ1]
            cases RD a with
            | none => rfl
            | some x => simp only; rw [if_neg (by omega)]; rfl
          have HRES : Aside0 (res = .inl 2000) := ⟨by rw [hJ2, h2000]⟩
          clear hJ1 hJ2 hxt
          go_wp2_with fail
          with_reducible refine HEE.out.mono ?_
          rintro e w3 ⟨rfl, hb3⟩
          have HB3 := Aside0.mk (HB2.out.trans (hb3.mono hsz))
          have HBW3 := Aside0.mk (HBW.out.trans (hb3.mono HBW.out.size))
          clear hb3
          go_wp2
          go_ret3
          rw [HRES.out]
          exact ⟨_, _, rfl, Kd.C_below HC5.out HB3.out, HBW3.out⟩
        · have hn1 : ((n' : Int) == 2000) = false := beq_eq_false_iff_ne.2 (by omega)
          have hn2 : ¬ (n' : Int) = 2000 := by omega
          have HN2 : Aside0 (n' < 2000) := ⟨by omega⟩
          have HJ1 := Aside0.mk hJ1
          have HTO : Aside0 (((j : Int)).toNat = j ∧ ((e : Int)).toNat = e) := ⟨⟨by omega, by omega⟩⟩
          clear hJ1 h2000
          go_wp2_with fail
          with_reducible refine HEE.out.mono ?_
          rintro e_ w3 ⟨rfl, hbe⟩
          have HB3 := Aside0.mk (HB2.out.trans (hbe.mono hsz))
          have HBW3 := Aside0.mk (HBW.out.trans (hbe.mono HBW.out.size))
          have HR3 := Aside0.mk (Kd.R_below HR2.out hbe)
          clear hbe HR2 HB2 HEE
          go_wp2_with fail
          with_reducible refine (HAL.out _ HBW3.out).mono ?_
          rintro e_ w4 ⟨h, b, rfl, hb4, HO⟩
          obtain ⟨w5, hw5⟩ : ∃ w5, w5 = w4.alloc (.cells #[.int .u8 h.f0, .int .i64 h.f1, .string h.f2] 43) := ⟨_, rfl⟩
          have hb5 : Below w3.heap.size w3 w5 := by rw [hw5]; exact hb4.alloc hb4.size _
          have hx5 : BoxH w5 w4.heap.size h := by rw [hw5]; exact BoxH.new w4 h
          have HB5' := Aside0.mk (HB3.out.trans (hb5.mono HB3.out.size))
          have HR5 := Aside0.mk (Kd.R_below HR3.out hb5)
          have HX5 := Aside0.mk hx5
          have HBW5 := Aside0.mk (HBW3.out.trans (hb5.mono HBW3.out.size))
          have HW5 := Aside0.mk hw5
          clear hb4 hb5 hx5 hw5 HAL HR3
          go_upto_region 11 with fail
          rw [← HW5.out]
          have hs5 := HB5'.out.size
          have hJ1 := HJ1.out
          cases b with
          | false =>
            rw [HO.out.2 rfl] at hJ1
            have HRES : Aside0 (res = .inl n') := ⟨hJ1⟩
            clear hJ1 HO
            go_wp2
            go_ret3
            rw [HRES.out]
            exact ⟨_, _, rfl, Kd.C_below HC5.out HB5'.out, HBW5.out⟩
          | true =>
            rw [HO.out.1 rfl] at hJ1
            simp only at hJ1
            rw [if_pos HN2.out] at hJ1
            have hJ1 := hJ1.trans (gl_stepA done h _)
            rw [← HDR.out] at hJ1
            have HJN : Aside0 (res = gl (done ++ [h]) (readA (done ++ [h]).length (cutL false false [] (L.drop (e + 1)))) ∧ (done ++ [h]).length ≤ 2000) := ⟨by rw [List.length_append, ← HM.out]; exact hJ1, by rw [List.length_append, ← HM.out]; exact HN2.out⟩
            have hFM : (k43).M w5 w1.heap.size (fun _ => False) h [.int .u8 h.f0, .int .i64 h.f1, .string h.f2] := k43_mkM _ _ _ h
            obtain ⟨a0, a1, a2⟩ := HX5.out.cells
            clear hJ1 HJ1 HO
            go_wp2_with (at_builtin; refine Kd.R_append k43 (w0 := w1) w1.heap.size rfl (.tmp 47) (.tmp 49) 22 43 (.agg #[.int .u8 0, .int .i64 0, .string ByteArray.empty]) 32 rfl Tryz.underlying22 infoHp rfl (by decide) (by decide) (.slice A' n' c') done h [.int .u8 h.f0, .int .i64 h.f1, .string h.f2] (fun _ => True) (fun _ => False) rfl rfl hFM (fun _ h => h.elim) (fun _ _ => trivial) HR5.out HB5'.out hs5 (by have := HM.out; have := HN2.out; omega) ?_)
            intro v1 w6 ho hb6 _ _
            obtain ⟨A4, n4, c4, rfl⟩ := sl_of_R ho
            have HR6 := Aside0.mk ho
            have HB6' := Aside0.mk hb6
            clear ho hb6 a0 a1 a2 hFM
            go_wp2
            go_roundw
            case rel => exact ⟨e + 1, by omega, by go_num, _, _, _, _, rfl, HR6.out, HB6'.out, HJN⟩
            case measure => simp [intOf]; omega
    · have hjn : j = s.size := by omega
      rw [List.drop_eq_nil_of_le (by rw [HSL.out]; omega), readA_nil] at hJ1
      have HRES : Aside0 (res = .inr done) := ⟨by rw [hJ1]; simp [gl]⟩
      clear hJ1
      go_wp2
      go_ret3
      rw [HRES.out]
      exact ⟨A', n', c', rfl, HM.out, HQ.out.1, by rw [HM.out]; exact HQ.out.2, HBW.out⟩
end Go.Proofs.YtmcjfnebkpifnaaGreatDoor

/-
  The happenings of a text, printed, are the text. Pure.
-/
namespace Go.Proofs.YtmcjfnebkpifnaaGreatDoor
open Go.RowKit Go.Proofs.YtmcjfnebkpifnaaGreatDoorW.PrintWords Go.Proofs.YtmcjfnebkpifnaaGreatDoorW.PrintLast Go.Proofs.YtmcjfnebkpifnaaGreatDoorW.PrintMore Go.Proofs.YtmcjfnebkpifnaaGreatDoor.PScriptReads
set_option linter.unusedVariables false
set_option linter.unusedSimpArgs false

theorem RD_someS {l : List UInt8} {h : SH} (hr : RD l = some h) : mayB h = true ∧ lineB h = l := by
  unfold RD at hr
  cases hd : decB l with
  | none => rw [hd] at hr; cases hr
  | some g =>
    rw [hd] at hr
    simp only at hr
    by_cases hc : mayB g = true ∧ lineB g = l
    · rw [if_pos hc] at hr
      cases hr
      exact hc
    · rw [if_neg hc] at hr; cases hr
theorem readLs_textR (ls : List (List UInt8)) : ∀ (n : Nat) (hs : List SH), readLs n ls = .inr hs → textL hs = ls.flatMap (fun a => a ++ [10]) ∧ hs.all mayB = true ∧ hs.length = ls.length ∧ (n ≤ 2000 → n + hs.length ≤ 2000) := by
  induction ls with
  | nil => intro n hs h; simp [readLs] at h; subst h; simp [textL]
  | cons l r ih =>
    intro n hs h
    rw [readLs] at h
    cases hr : RD l with
    | none => rw [hr] at h; cases h
    | some x =>
      rw [hr] at h
      simp only at h
      by_cases hn : n < 2000
      · rw [if_pos hn] at h
        cases hq : readLs (n + 1) r with
        | inl p => rw [hq] at h; cases h
        | inr gs =>
          rw [hq] at h
          cases h
          obtain ⟨q1, q2, q3, q4⟩ := ih _ _ hq
          obtain ⟨m1, m2⟩ := RD_someS hr
          refine ⟨?_, ?_, ?_, ?_⟩
          · unfold textL at q1 ⊢
            rw [List.flatMap_cons, q1, List.flatMap_cons, m2]
          · rw [List.all_cons, m1, q2]; rfl
          · simp [q3]
          · intro _
            have := q4 (by omega)
            rw [List.length_cons]; omega
      · rw [if_neg hn] at h; cases h
theorem readTxt_textR {l : List UInt8} {hs : List SH} (h : readTxt l = .inr hs) : textL hs = l ∧ hs.all mayB = true ∧ hs.length ≤ 2000 := by
  unfold readTxt readA at h
  cases hq : readLs 0 (cutL false false [] l).1 with
  | inl p => rw [hq] at h; cases h
  | inr gs =>
    rw [hq] at h
    simp only at h
    by_cases he : (cutL false false [] l).2 = []
    · rw [if_pos he] at h
      cases h
      obtain ⟨q1, q2, q3, q4⟩ := readLs_textR _ _ _ hq
      have hj := cut_join l false false []
      rw [he, List.append_nil, List.nil_append] at hj
      exact ⟨q1.trans hj, q2, by have := q4 (by omega); omega⟩
    · rw [if_neg he] at h; cases h

theorem f2_le {h : SH} (hm : mayB h = true) : h.f2.size ≤ (lineB h).length := by
  have hk := may_kind hm
  have hz := (may_facts hm).2.2.2
  have h3 := bytesU_len (bytesU_hex h.f2.data.toList)
  have h4 : h.f2.data.toList.length ≤ (quotedL h.f2.data.toList).length := by
    have := textU_len (quotedL h.f2.data.toList)
    rwa [textU_quoted] at this
  have hs : h.f2.data.toList.length = h.f2.size := by simp
  rw [hs] at h3 h4
  rcases hk with k | k | k | k | k | k
  · rw [hz (.inl k)]; exact Nat.zero_le _
  · rw [hz (.inr (.inl k))]; exact Nat.zero_le _
  · unfold lineB
    rw [k]
    simp
    omega
  · unfold lineB
    rw [k]
    simp
    omega
  · unfold lineB
    rw [k]
    simp
    omega
  · rw [hz (.inr (.inr k))]; exact Nat.zero_le _
theorem line_in (hs : List SH) : ∀ x ∈ hs, (lineB x).length ≤ (textL hs).length := by
  induction hs with
  | nil => intro x hx; cases hx
  | cons h t ih =>
    intro x hx
    have e : textL (h :: t) = lineB h ++ 10 :: textL t := by
      unfold textL
      rw [List.flatMap_cons]
      simp
    rw [e, List.length_append, List.length_cons]
    rcases List.mem_cons.1 hx with rfl | hx
    · omega
    · have := ih x hx; omega
end Go.Proofs.YtmcjfnebkpifnaaGreatDoor

/-
  ScriptReads: what the statement returns.
-/
namespace Go.Proofs.YtmcjfnebkpifnaaGreatDoor
open Go.RowKit Go.Proofs.YtmcjfnebkpifnaaGreatDoorW.PrintWords Go.Proofs.YtmcjfnebkpifnaaGreatDoorW.PrintLast Go.Proofs.YtmcjfnebkpifnaaGreatDoorW.PrintMore Go.Proofs.YtmcjfnebkpifnaaGreatDoor.PScriptReads
set_option linter.unusedVariables false
set_option linter.unusedSimpArgs false
set_option maxRecDepth 100000

namespace As
theorem as_nilR (t : Value) (w : World) : Calls Tryz.prog 27 #[.nilIface, t] w fun e w' => e = .returned (.bool false) ∧ w' = w := by
  go_enter Tryz.func27, Tryz.ntmps27
  go_wp2
  go_ret
  exact ⟨rfl, rfl⟩
theorem code_nilR (w : World) : Calls Tryz.prog 13 #[.nilIface] w fun e w' => e = .returned (.int .i64 0) ∧ Below w.heap.size w w' := by
  have B0 : Aside0 (Below w.heap.size w (w.alloc (.cells #[.int .i64 0] 25))) := ⟨below_alloc (Below.refl _ _) _⟩
  go_enter Tryz.func13, Tryz.ntmps13
  go_wp2
  go_ret
  exact ⟨rfl, B0.out⟩
theorem at_nilR (w : World) : Calls Tryz.prog 12 #[.nilIface] w fun e w' => e = .returned (.tuple #[.int .i64 0, .bool false]) ∧ Below w.heap.size w w' := by
  have B0 : Aside0 (Below w.heap.size w (w.alloc (.cells #[.pointer none] 62))) := ⟨below_alloc (Below.refl _ _) _⟩
  go_enter Tryz.func12, Tryz.ntmps12
  go_wp2_with (go_at_call 27; refine (as_nilR _ _).mono ?_; rintro e w' ⟨rfl, rfl⟩)
  go_ret2
  exact ⟨rfl, B0.out⟩
end As
theorem ofs (s : ByteArray) : bsOf s.data.toList = s := bs_of s
set_option maxHeartbeats 16000000 in
theorem reads_calls (w : World) (s : ByteArray) (hT : NumT w) (hE : NumE w) (hM : MaxT w) (hG : As.ErrT w) :
    Calls Tryz.prog 5 #[.string s] w fun e w' => e = .returned (.bool true) ∧ Below w.heap.size w w' := by
  have HT := Aside0.mk hT
  have HE := Aside0.mk hE
  have HM := Aside0.mk hM
  have HG := Aside0.mk hG
  have HAW := Aside0.mk (fun (W : World) (k : NumT W) => awake_calls W k)
  by_cases hs : s.size > 3000
  · have hgt : ((s.size : Int) > 3000) = True := eq_true (by omega)
    have hgt2 : decide ((3000 : Int) < (s.size : Int)) = true := decide_eq_true (by omega)
    clear hT hE hM hG hs
    go_enter Tryz.func5, Tryz.ntmps5
    go_wp2_with fail
    with_reducible refine (HAW.out _ HT.out).mono ?_
    rintro e w1 ⟨rfl, hb⟩
    have HB1 := Aside0.mk hb
    clear hb
    go_wp2
    go_ret
    exact ⟨rfl, HB1.out⟩
  · have hgt : ((s.size : Int) > 3000) = False := eq_false (by omega)
    have hgt2 : decide ((3000 : Int) < (s.size : Int)) = false := decide_eq_false (by omega)
    have hs5 : s.size ≤ 50000 := by omega
    have hsl : s.data.toList.length = s.size := by simp
    have HR : Aside0 (Calls Tryz.prog 10 #[.string s] w (TxtPost w (readTxt s.data.toList))) := ⟨sread_calls w s hs5 hT hE hM⟩
    have HQ : Aside0 (∀ W : World, Calls Tryz.prog 14 #[.string s] W (RefPost W (readTxt s.data.toList))) := ⟨fun W => rread_calls W s hs5 (fun W' a ha _ => refline_calls W' a ha)⟩
    rcases hr : readTxt s.data.toList with i | l
    · rw [hr] at HR HQ
      have HSM : Aside0 (∀ (W : World) (B : Option Addr) (d : Nat), Kd.C k43 W B 0 [] → Calls Tryz.prog 11 #[.slice none 0 0, .slice B 0 d] W fun e w' => e = .returned (.bool true) ∧ Below W.heap.size W w') := ⟨fun W B d h2 =>
        Same_ref none B 0 d [] W (Kd.R_reads' (Kd.R_nil k43 43 W 0 (fun _ => True))).2.2 (Nat.le_refl _) h2 (Nat.zero_le _) (by simp)⟩
      have HP : Aside0 (∀ W : World, NumT W → Calls Tryz.prog 8 #[.slice none 0 0] W fun e w' => e = .returned (.tuple #[.string (bsOf []), .int .i64 0]) ∧ Below W.heap.size W w') := ⟨fun W k => by
        have := print_calls none 0 [] W (Kd.R_reads' (Kd.R_nil k43 43 W 0 (fun _ => True))).2.2 (by simp) (fun x hx => by cases hx) (by simp [textL]) k
        exact this⟩
      clear hT hE hM hG hs hr hsl
      go_enter Tryz.func5, Tryz.ntmps5
      go_wp2_with fail
      with_reducible refine HR.out.mono ?_
      rintro e w1 ⟨u, p, rfl, hev, hb⟩
      have HB1 := Aside0.mk hb
      have HEV := Aside0.mk hev
      clear hb hev HR
      go_wp2_with fail
      with_reducible refine (HQ.out _).mono ?_
      rintro e w2 ⟨A2, c2, rfl, hC, hb⟩
      have HB2 := Aside0.mk (HB1.out.trans (hb.mono HB1.out.size))
      have HEV2 := Aside0.mk (As.EV_keep hb HEV.out)
      have HC2 := Aside0.mk hC
      clear hb hC HQ HEV
      have HAT : Aside0 (Calls Tryz.prog 12 #[.iface u p] w2 fun e w' => e = .returned (.tuple #[.int .i64 i, .bool true]) ∧ Below w2.heap.size w2 w') := ⟨As.at_calls _ _ _ w2 HEV2.out (HG.out.below HB2.out)⟩
      go_wp2_with fail
      with_reducible refine HAT.out.mono ?_
      rintro e w3 ⟨rfl, hb⟩
      have HB3 := Aside0.mk (HB2.out.trans (hb.mono HB2.out.size))
      have HEV3 := Aside0.mk (As.EV_keep hb HEV2.out)
      have HC3 := Aside0.mk (Kd.C_below HC2.out hb)
      clear hb HAT HEV2 HC2
      go_wp2_with fail
      with_reducible refine (HSM.out _ _ _ HC3.out).mono ?_
      rintro e w4 ⟨rfl, hb⟩
      have HB4 := Aside0.mk (HB3.out.trans (hb.mono HB3.out.size))
      have HEV4 := Aside0.mk (As.EV_keep hb HEV3.out)
      clear hb HSM HEV3
      have HCO : Aside0 (Calls Tryz.prog 13 #[.iface u p] w4 fun e w' => e = .returned (.int .i64 2) ∧ Below w4.heap.size w4 w') := ⟨As.code_calls _ _ _ w4 HEV4.out (HG.out.below HB4.out)⟩
      go_wp2_with fail
      with_reducible refine HCO.out.mono ?_
      rintro e w5 ⟨rfl, hb⟩
      have HB5 := Aside0.mk (HB4.out.trans (hb.mono HB4.out.size))
      clear hb HCO HEV4
      go_wp2_with fail
      with_reducible refine (HP.out _ (HT.out.below HB5.out)).mono ?_
      rintro e w6 ⟨rfl, hb⟩
      have HB6 := Aside0.mk (HB5.out.trans (hb.mono HB5.out.size))
      clear hb HP
      go_wp2_with fail
      with_reducible refine (HAW.out _ (HT.out.below HB6.out)).mono ?_
      rintro e w7 ⟨rfl, hb⟩
      have HB7 := Aside0.mk (HB6.out.trans (hb.mono HB6.out.size))
      clear hb
      go_wp2
      go_ret
      exact ⟨rfl, HB7.out⟩
    · obtain ⟨t1, t2, t3⟩ := readTxt_textR hr
      rw [hr] at HR HQ
      have hx5 : ∀ x ∈ l, x.f2.size ≤ 50000 := fun x hx => by
        have h1 := f2_le (List.all_eq_true.1 t2 x hx)
        have h2 := line_in l x hx
        rw [t1, hsl] at h2
        omega
      obtain ⟨n, hN⟩ : ∃ n, n = l.length := ⟨_, rfl⟩
      have HN := Aside0.mk hN
      have HSM : Aside0 (∀ (W : World) (A : Option Addr) (c : Nat) (B : Option Addr) (d : Nat), Kd.C k43 W A n l → n ≤ c → Kd.C k43 W B n l → n ≤ d → Calls Tryz.prog 11 #[.slice A n c, .slice B n d] W fun e w' => e = .returned (.bool true) ∧ Below W.heap.size W w') := ⟨fun W A c B d h1 h3 h2 h4 => by
        have := Same_ref A B c d l W (by rw [← hN]; exact h1) (by omega) (by rw [← hN]; exact h2) (by omega) (by omega)
        rwa [← hN] at this⟩
      have HP : Aside0 (∀ (W : World) (A : Option Addr) (c : Nat), Kd.C k43 W A n l → n ≤ c → NumT W → Calls Tryz.prog 8 #[.slice A n c] W fun e w' => e = .returned (.tuple #[.string s, .int .i64 0]) ∧ Below W.heap.size W w') := ⟨fun W A c h h3 k => by
        have := print_calls A c l W (by rw [← hN]; exact h) t3 hx5 (by rw [t1]; omega) k
        rw [if_pos t2, if_pos t2, t1, ofs, ← hN] at this
        exact this⟩
      clear hT hE hM hG hs hr hsl t1 t2 t3 hx5 hN
      go_enter Tryz.func5, Tryz.ntmps5
      go_wp2_with fail
      with_reducible refine HR.out.mono ?_
      rintro e w1 ⟨A1, n1, c1, rfl, hn1, hc1, hC1, hb⟩
      have hn2 : n1 = n := by rw [hn1]; exact HN.out.symm
      subst hn2
      have HB1 := Aside0.mk hb
      have HC1 := Aside0.mk hC1
      have HL1 := Aside0.mk hc1
      clear hb hC1 hn1 HR hc1
      go_wp2_with fail
      with_reducible refine (HQ.out _).mono ?_
      rintro e w2 ⟨A2, n2, c2, rfl, hn2, hc2, hC2, hb⟩
      have hn3 : n2 = n1 := by rw [hn2]; exact HN.out.symm
      subst hn3
      have HB2 := Aside0.mk (HB1.out.trans (hb.mono HB1.out.size))
      have HC12 := Aside0.mk (Kd.C_below HC1.out hb)
      have HC2 := Aside0.mk hC2
      have HL2 := Aside0.mk hc2
      clear hb hC2 HQ HC1 hn2 hc2
      go_wp2_with fail
      with_reducible refine (As.at_nilR _).mono ?_
      rintro e w3 ⟨rfl, hb⟩
      have HB3 := Aside0.mk (HB2.out.trans (hb.mono HB2.out.size))
      have HC13 := Aside0.mk (Kd.C_below HC12.out hb)
      have HC3 := Aside0.mk (Kd.C_below HC2.out hb)
      clear hb HC2 HC12
      go_wp2_with fail
      with_reducible refine (HSM.out _ _ _ _ _ HC13.out HL1.out HC3.out HL2.out).mono ?_
      rintro e w4 ⟨rfl, hb⟩
      have HB4 := Aside0.mk (HB3.out.trans (hb.mono HB3.out.size))
      have HC14 := Aside0.mk (Kd.C_below HC13.out hb)
      clear hb HSM HC13 HC3
      go_wp2_with fail
      with_reducible refine (As.code_nilR _).mono ?_
      rintro e w5 ⟨rfl, hb⟩
      have HB5 := Aside0.mk (HB4.out.trans (hb.mono HB4.out.size))
      have HC15 := Aside0.mk (Kd.C_below HC14.out hb)
      clear hb HC14
      go_wp2_with fail
      with_reducible refine (HP.out _ _ _ HC15.out HL1.out (HT.out.below HB5.out)).mono ?_
      rintro e w6 ⟨rfl, hb⟩
      have HB6 := Aside0.mk (HB5.out.trans (hb.mono HB5.out.size))
      clear hb HP
      go_wp2_with fail
      with_reducible refine (HAW.out _ (HT.out.below HB6.out)).mono ?_
      rintro e w7 ⟨rfl, hb⟩
      have HB7 := Aside0.mk (HB6.out.trans (hb.mono HB6.out.size))
      clear hb
      go_wp2
      go_ret
      exact ⟨rfl, HB7.out⟩
end Go.Proofs.YtmcjfnebkpifnaaGreatDoor
