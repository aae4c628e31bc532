/-
  Joined texts: ScLineF, RdPr.
-/
import Derived.Test.YtmcjfnebkpifnaaGreatDoorRdCut
import Derived.Test.YtmcjfnebkpifnaaGreatDoorPScriptReadsx8
import Derived.Test.YtmcjfnebkpifnaaGreatDoorScPrPrint
/- Printed texts of this seat, cut to what is used. -/
namespace Go.Proofs.YtmcjfnebkpifnaaGreatDoor
open Go.RowKit Go.Proofs.YtmcjfnebkpifnaaGreatDoorW.PrintWords Go.Proofs.YtmcjfnebkpifnaaGreatDoorW.PrintLast Go.Proofs.YtmcjfnebkpifnaaGreatDoorW.PrintMore Go.Proofs.YtmcjfnebkpifnaaGreatDoor.PScriptReads
set_option linter.unusedVariables false
set_option linter.unusedSimpArgs false

theorem digits_mono (n : Int) (k : Nat) (hk : 12 ≤ k) (r : ByteArray) (h : sashref01_Digits.f 12 n = some r) : sashref01_Digits.f k n = some r := by
  induction k with
  | zero => omega
  | succ k ih =>
    by_cases h1 : k + 1 = 12
    · rw [h1]; exact h
    · exact sashref01_Digits.mono _ k _ (ih (by omega))
theorem digits_f (n : Int) (h0 : 0 ≤ n) (h1 : n ≤ 2147483647) (k : Nat) (hk : 12 ≤ k) : sashref01_Digits.f k n = some (bsOf (digL n)) := by
  rw [← bs_dig]
  exact digits_mono n k hk _ (refDigits_pure n (by omega) (by omega))
theorem Line_head (k : Nat) (hk : 12 ≤ k) (i : Nat) (hi : i < 6) (h1 : i ≠ 0) (n : Int) (h0 : 0 ≤ n) (hn : n ≤ 2147483647) (s : ByteArray) :
    sashref25_Line.f k ((i + 1 : Nat) : Int) n s = sashref25_Line.j0 k (bsOf (kindL.getD i [] ++ (32 :: digL n))) (if i = 2 then (s.toList == ([] : List UInt8)) else false) ((i + 1 : Nat) : Int) n s := by
  have hW : sashref25_Words.f = some (kindL.map bsOf) := rfl
  have e : (((i + 1 : Nat) : Int) - 1) % 256 = (i : Int) := by omega
  have er : rdOf ByteArray.empty (kindL.map bsOf) (i : Int) = bsOf (kindL.getD i []) := by
    unfold rdOf
    rw [show ((i : Int)).toNat = i by omega, List.getD_eq_getElem?_getD, List.getElem?_map, List.getD_eq_getElem?_getD, List.getElem?_eq_getElem (show i < kindL.length from hi)]
    rfl
  have hkl : (kindL.getD i []).length ≤ 6 := by
    have := kindW_len ((i + 1 : Nat) : Int)
    unfold kindW at this
    rwa [show ((((i + 1 : Nat) : Int) - 1)).toNat = i by omega] at this
  have hdl := digL_len n
  have hs32 : bsOf (kindL.getD i []) ++ (⟨#[32]⟩ : ByteArray) = bsOf (kindL.getD i [] ++ [32]) := bs_app _ [32]
  unfold sashref25_Line.f
  rw [hW, Option.bind_some, e, er, if_pos (by omega), if_pos (by rw [List.length_map]; exact Int.ofNat_lt.2 hi), if_neg (by omega), if_pos (by rw [bs_size]; omega), digits_f n h0 hn k hk, Option.bind_some, hs32,
    if_pos (by rw [bs_size, bs_size, List.length_append, List.length_singleton]; omega), bs_app, List.append_assoc]
  by_cases h2 : i = 2
  · rw [if_pos (by omega), if_pos h2]
    rfl
  · rw [if_neg (by omega), if_neg h2]
    rfl
theorem Line_l0 (s : ByteArray) (hs : s.size ≤ 50000) (c n : Int) : ∀ (d j : Nat), s.size - j = d → j ≤ s.size → ∀ (k : Nat), d + 1 ≤ k → ∀ (X : List UInt8), X.length ≤ 100000 + 2 * j →
    sashref25_Line.l0 k (bsOf X) (j : Int) c n s = some (bsOf (X ++ (s.data.toList.drop j).flatMap hex2)) := by
  intro d
  have hL : s.data.toList.length = s.size := by simp
  induction d with
  | zero =>
    intro j hd hj k hk X hX
    obtain ⟨k, rfl⟩ : ∃ k', k = k' + 1 := ⟨k - 1, by omega⟩
    rw [sashref25_Line.l0, if_neg (by omega), List.drop_eq_nil_of_le (by omega)]
    simp
  | succ d ih =>
    intro j hd hj k hk X hX
    obtain ⟨k, rfl⟩ : ∃ k', k = k' + 1 := ⟨k - 1, by omega⟩
    have hjl : j < s.size := by omega
    have hb := bt_nat s j hjl
    have h256 := UInt8.toNat_lt s[j]
    have hdg := digit256 ⟨s[j].toNat, s[j].toNat_lt⟩
    rw [show UInt8.ofNat (⟨s[j].toNat, s[j].toNat_lt⟩ : Fin 256).val = s[j] by simp] at hdg
    have e1 : Aside0 (wrap64 (Int.tdiv (wrap64 ((s[j].toNat : Nat) : Int)) 16) = ((s[j].toNat / 16 : Nat) : Int)) := Aside0.mk <| by
      rw [show wrap64 ((s[j].toNat : Nat) : Int) = ((s[j].toNat : Nat) : Int) by unfold wrap64; omega, Int.tdiv_eq_ediv_of_nonneg (by omega)]
      unfold wrap64; omega
    have e2 : Aside0 (Int.tmod (wrap64 ((s[j].toNat : Nat) : Int)) 16 = ((s[j].toNat % 16 : Nat) : Int)) := Aside0.mk <| by
      rw [show wrap64 ((s[j].toNat : Nat) : Int) = ((s[j].toNat : Nat) : Int) by unfold wrap64; omega, Int.tmod_eq_emod_of_nonneg (by omega)]
      rfl
    have hA : (hexA s[j]).size = 1 := rfl
    have hB : (hexB s[j]).size = 1 := rfl
    have hcat : bsOf X ++ hexA s[j] ++ hexB s[j] = bsOf (X ++ hex2 s[j]) := by rw [ByteArray.append_assoc, hexAB, bs_app]
    have hw := Aside0.mk (wrap1 j (by omega))
    rw [sashref25_Line.l0, if_pos (by omega), if_pos (by omega), hb, e1.out, e2.out, hdg.1, hdg.2, Option.bind_some, if_pos (by rw [bs_size, hA]; omega), Option.bind_some, if_pos (by rw [ByteArray.size_append, bs_size, hA, hB]; omega), hcat, hw.out,
      ih (j + 1) (by omega) (by omega) k (by omega) (X ++ hex2 s[j]) (by rw [List.length_append, hex2_len]; omega), drop_at s j hjl, List.flatMap_cons, List.append_assoc]
theorem Line_f (h : SH) (hm : mayB h = true) (hs : h.f2.size ≤ 50000) (k : Nat) (hk : h.f2.size + 20 ≤ k) : sashref25_Line.f k h.f0 h.f1 h.f2 = some (bsOf (lineB h)) := by
  have hkd := may_kind hm
  obtain ⟨q0, q1, q2, q3⟩ := may_facts hm
  obtain ⟨f0, n, s⟩ := h
  simp only at hkd q0 q1 q2 q3 hs hk
  have hdl := digL_len n
  have hql := quotedL_len s.data.toList
  have hsl : s.data.toList.length = s.size := by simp
  obtain ⟨k, rfl⟩ : ∃ k', k = k' + 1 := ⟨k - 1, by omega⟩
  have key : ∀ (i : Nat) (hi : i < 6) (h1 : i ≠ 0), sashref25_Line.f (k + 1) ((i + 1 : Nat) : Int) n s = _ := fun i hi h1 => Line_head (k + 1) (by omega) i hi h1 n q0 q1 s
  have h32 : ∀ X : List UInt8, bsOf X ++ (⟨#[32]⟩ : ByteArray) = bsOf (X ++ [32]) := fun X => bs_app X [32]
  have hkl : ∀ i : Fin 6, (kindL.getD i.val []).length ≤ 6 := by decide
  have hql' : ∀ (i : Nat), (quotedB s) = bsOf (quotedL s.data.toList) := fun _ => rfl
  rcases hkd with h | h | h | h | h | h
  · subst h
    have hz := q2 rfl
    have hs0 := q3 (.inl rfl)
    subst hz hs0
    rfl
  · subst h
    have hs0 := q3 (.inr (.inl rfl))
    subst hs0
    rw [show ((2 : Int)) = ((1 + 1 : Nat) : Int) from rfl, key 1 (by omega) (by omega), if_neg (by omega), sashref25_Line.j0, if_neg (by decide), if_neg (by omega), if_neg (by omega), if_neg (by omega)]
    unfold lineB
    simp [kindW]
  · subst h
    rw [show ((3 : Int)) = ((2 + 1 : Nat) : Int) from rfl, key 2 (by omega) (by omega), if_pos rfl, sashref25_Line.j0]
    have hk2 := hkl ⟨2, by omega⟩
    by_cases he : s.data.toList = []
    · have e2 : (s.toList == ([] : List UInt8)) = true := by rw [ByteArray.toList_eq, he]; rfl
      rw [if_pos e2, if_pos (by rw [bs_size, List.length_append, List.length_cons]; simp only at hk2; omega)]
      have hh : hexL s.data.toList = [110, 111, 110, 101] := by unfold hexL; rw [if_pos he]
      unfold lineB
      simp only
      rw [hh]
      rw [show (⟨#[32, 110, 111, 110, 101]⟩ : ByteArray) = bsOf [32, 110, 111, 110, 101] from rfl, bs_app]
      simp [kindW]
    · have e2 : (s.toList == ([] : List UInt8)) = false := by
        rw [ByteArray.toList_eq]
        exact beq_eq_false_iff_ne.2 he
      rw [if_neg (by rw [e2]; decide), if_pos (by omega), if_pos (by rw [bs_size, List.length_append, List.length_cons]; simp only at hk2; omega), h32]
      have hl := Line_l0 s hs ((2 + 1 : Nat) : Int) n s.size 0 (by omega) (by omega) k (by omega) (kindL.getD 2 [] ++ (32 :: digL n) ++ [32]) (by rw [List.length_append, List.length_append, List.length_cons, List.length_singleton]; simp only at hk2; omega)
      have hl' : sashref25_Line.l0 k (bsOf (kindL.getD 2 [] ++ (32 :: digL n) ++ [32])) 0 ((2 + 1 : Nat) : Int) n s = _ := hl
      rw [hl', List.drop_zero]
      have hh : hexL s.data.toList = s.data.toList.flatMap hex2 := by unfold hexL; rw [if_neg he]
      unfold lineB
      simp only
      rw [hh]
      simp [kindW]
  · subst h
    have hk2 := hkl ⟨3, by omega⟩
    rw [show ((4 : Int)) = ((3 + 1 : Nat) : Int) from rfl, key 3 (by omega) (by omega), if_neg (by omega), sashref25_Line.j0, if_neg (by decide), if_neg (by omega), if_pos (by omega), if_pos (by rw [bs_size, List.length_append, List.length_cons]; simp only at hk2; omega), quote_f s (by omega) k (by omega), Option.bind_some, h32, hql' 0, if_pos (by rw [bs_size, bs_size, List.length_append, List.length_append, List.length_cons, List.length_singleton]; simp only at hk2; omega), bs_app]
    unfold lineB
    simp [kindW]
  · subst h
    have hk2 := hkl ⟨4, by omega⟩
    rw [show ((5 : Int)) = ((4 + 1 : Nat) : Int) from rfl, key 4 (by omega) (by omega), if_neg (by omega), sashref25_Line.j0, if_neg (by decide), if_neg (by omega), if_neg (by omega), if_pos (by omega), if_pos (by rw [bs_size, List.length_append, List.length_cons]; simp only at hk2; omega), quote_f s (by omega) k (by omega), Option.bind_some, h32, hql' 0, if_pos (by rw [bs_size, bs_size, List.length_append, List.length_append, List.length_cons, List.length_singleton]; simp only at hk2; omega), bs_app]
    unfold lineB
    simp [kindW]
  · subst h
    have hs0 := q3 (.inr (.inr rfl))
    subst hs0
    rw [show ((6 : Int)) = ((5 + 1 : Nat) : Int) from rfl, key 5 (by omega) (by omega), if_neg (by omega), sashref25_Line.j0, if_neg (by decide), if_neg (by omega), if_neg (by omega), if_neg (by omega)]
    unfold lineB
    simp [kindW]
end Go.Proofs.YtmcjfnebkpifnaaGreatDoor

/- Printed texts of this seat, cut to what is used. -/
namespace Go.Proofs.YtmcjfnebkpifnaaGreatDoor
open Go.RowKit Go.Proofs.YtmcjfnebkpifnaaGreatDoorW.PrintWords Go.Proofs.YtmcjfnebkpifnaaGreatDoorW.PrintLast Go.Proofs.YtmcjfnebkpifnaaGreatDoorW.PrintMore Go.Proofs.YtmcjfnebkpifnaaGreatDoor.PScriptReads
set_option linter.unusedVariables false
set_option linter.unusedSimpArgs false

theorem rd_at (l : List SH) (j : Nat) (hj : j < l.length) : rd_T43 l (j : Int) = l[j] := by
  unfold rd_T43
  rw [List.getD_eq_getElem?_getD, show ((j : Int)).toNat = j by omega, List.getElem?_eq_getElem hj]
  rfl
theorem Same_l0 (l : List SH) (hl : l.length ≤ 100000) : ∀ (d j : Nat), j + d = l.length → sashref25_Same.l0 (d + 1) l l (l.length : Int) (j : Int) = some true := by
  intro d
  induction d with
  | zero => intro j hj; rw [sashref25_Same.l0, if_neg (by omega)]
  | succ d ih =>
    intro j hj
    have hjl : j < l.length := by omega
    have hw : wrap64 ((j : Int) + 1) = ((j + 1 : Nat) : Int) := by unfold wrap64; omega
    rw [sashref25_Same.l0, if_pos (by omega), if_pos (by omega), if_pos (by omega), if_pos (by omega), rd_at l j hjl, if_neg (by simp), hw]
    exact ih (j + 1) (by omega)
theorem Same_ref (A B : Option Addr) (c d : Nat) (l : List SH) (w : World) (hr : Kd.C k43 w A l.length l) (hc : l.length ≤ c) (hr2 : Kd.C k43 w B l.length l) (hd : l.length ≤ d) (hl : l.length ≤ 100000) :
    Calls Tryz.prog 11 #[.slice A l.length c, .slice B l.length d] w fun e w' => e = .returned (.bool true) ∧ Below w.heap.size w w' :=
  (sashref25_Same.calls (l.length + 1) A c l B d l true w hr hc hr2 hd (by
    unfold sashref25_Same.f
    rw [if_pos rfl]
    exact Same_l0 l hl l.length 0 (by omega))).mono fun e w' ⟨q1, q2⟩ => ⟨q1, q2.below⟩
end Go.Proofs.YtmcjfnebkpifnaaGreatDoor
