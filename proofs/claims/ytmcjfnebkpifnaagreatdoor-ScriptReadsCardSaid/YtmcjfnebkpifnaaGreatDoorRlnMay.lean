/-
  Joined texts: RlnHead, RlnBase, RlnMay.
-/
import Derived.Test.YtmcjfnebkpifnaaGreatDoorRdTop
import Derived.Test.YtmcjfnebkpifnaaGreatDoorNumReadS
import Derived.Test.YtmcjfnebkpifnaaGreatDoorRdPr
import Derived.Deep.RegionHeld3
/-
  What the document's ReadLine leans on: its words, digits, lines.
-/
namespace Go.Proofs.YtmcjfnebkpifnaaGreatDoor
open Go.RowKit Go.Proofs.YtmcjfnebkpifnaaGreatDoorW.PrintWords Go.Proofs.YtmcjfnebkpifnaaGreatDoorW.PrintLast Go.Proofs.YtmcjfnebkpifnaaGreatDoorW.PrintMore Go.Proofs.YtmcjfnebkpifnaaGreatDoor.PScriptReads
set_option linter.unusedVariables false
set_option linter.unusedSimpArgs false
set_option maxRecDepth 100000

theorem rwords_calls (W : World) : Calls Tryz.prog 39 #[] W fun e w' => ∃ A c, e = .returned (.slice (some A) 6 c) ∧ 6 ≤ c ∧ Kd.string.C w' (some A) 6 kindS ∧ Below W.heap.size W w' :=
  (sashref25_Words.calls _ W rfl).mono fun e w' (h : ∃ v0_ : Value, e = .returned v0_ ∧ _ ∧ _) => by
    obtain ⟨v, h1, h2, h3⟩ := h
    obtain ⟨A2, n2, c2, rfl⟩ := sl_of_R h2
    obtain ⟨q1, q2, q3⟩ := Kd.R_reads' h2
    obtain rfl : n2 = 6 := q1
    obtain ⟨ad, hA, _⟩ := str_cell q3 0 (by decide)
    subst hA
    exact ⟨ad, c2, h1, q2, q3, h3⟩
theorem rline_calls (w : World) (h : SH) (hm : mayB h = true) (hs : h.f2.size ≤ 50000) :
    Calls Tryz.prog 22 #[.agg #[.int .u8 h.f0, .int .i64 h.f1, .string h.f2]] w fun e w' => e = .returned (.string (bsOf (lineB h))) ∧ Below w.heap.size w w' :=
  sashref25_Line.calls (h.f2.size + 20) _ _ _ _ w (Line_f h hm hs _ (Nat.le_refl _))
/-- A digit of base 16, in small letters. -/
def hexDl (c : UInt8) : Option Nat := if 48 ≤ c.toNat ∧ c.toNat ≤ 57 then some (c.toNat - 48) else if 97 ≤ c.toNat ∧ c.toNat ≤ 102 then some (c.toNat - 87) else none
def digI (c : UInt8) : Int := match hexDl c with
  | some x => (x : Int)
  | none => -1
theorem digit_fin : ∀ i : Fin 256, sashref25_digit.f 17 (bsOf [UInt8.ofNat i.val]) = some (digI (UInt8.ofNat i.val)) := by decide +kernel
theorem digit_calls (c : UInt8) (W : World) : Calls Tryz.prog 54 #[.string (bsOf [c])] W fun e w' => e = .returned (.int .i64 (digI c)) ∧ Below W.heap.size W w' := by
  have h := digit_fin ⟨c.toNat, c.toNat_lt⟩
  rw [show UInt8.ofNat (⟨c.toNat, c.toNat_lt⟩ : Fin 256).val = c by simp] at h
  exact (sashref25_digit.calls 17 _ _ W h).mono fun e w' ⟨q1, q2⟩ => ⟨q1, q2.below⟩
theorem digI_range (c : UInt8) : digI c < 16 := by
  unfold digI hexDl
  split
  · rename_i x hx
    split at hx
    · cases hx; omega
    · split at hx
      · cases hx; omega
      · cases hx
  · omega
def hexPl (a b : UInt8) : Option UInt8 := match hexDl a, hexDl b with
  | some x, some y => some (UInt8.ofNat (16 * x + y))
  | _, _ => none
theorem hexPl_some (a b x : UInt8) (h : hexPl a b = some x) : 0 ≤ digI a ∧ 0 ≤ digI b ∧ 16 * digI a + digI b = (x.toNat : Int) := by
  have ha := digI_range a
  have hb := digI_range b
  unfold hexPl at h
  unfold digI at *
  cases h1 : hexDl a with
  | none => rw [h1] at h; cases h
  | some p =>
    cases h2 : hexDl b with
    | none => rw [h1, h2] at h; cases h
    | some q =>
      rw [h1, h2] at h
      rw [h1] at ha
      rw [h2] at hb
      simp only at *
      cases h
      rw [show (UInt8.ofNat (16 * p + q)).toNat = (16 * p + q) % 256 by simp]
      omega
theorem hexPl_none (a b : UInt8) (h : hexPl a b = none) : digI a < 0 ∨ (0 ≤ digI a ∧ digI b < 0) := by
  unfold hexPl at h
  unfold digI
  cases h1 : hexDl a with
  | none => left; simp
  | some p =>
    cases h2 : hexDl b with
    | none => right; simp
    | some q => rw [h1, h2] at h; cases h
def hexUl : List UInt8 → Option (List UInt8)
  | [] => some []
  | [_] => none
  | a :: b :: r => match hexPl a b with
    | none => none
    | some x => (hexUl r).map (x :: ·)
theorem hexUl_two (L : List UInt8) (k : Nat) (h : k + 1 < L.length) : hexUl (L.drop k) = match hexPl L[k] L[k + 1] with
    | none => none
    | some x => (hexUl (L.drop (k + 2))).map (x :: ·) := by
  have e1 : L.drop k = L[k] :: L.drop (k + 1) := List.drop_eq_getElem_cons (by omega)
  have e2 : L.drop (k + 1) = L[k + 1] :: L.drop (k + 2) := List.drop_eq_getElem_cons h
  rw [e1, e2, hexUl]
end Go.Proofs.YtmcjfnebkpifnaaGreatDoor

/-
  The document's ReadLine: the happening of a line, way by way.
-/
namespace Go.Proofs.YtmcjfnebkpifnaaGreatDoor
open Go.RowKit Go.Proofs.YtmcjfnebkpifnaaGreatDoorW.PrintWords Go.Proofs.YtmcjfnebkpifnaaGreatDoorW.PrintLast Go.Proofs.YtmcjfnebkpifnaaGreatDoorW.PrintMore Go.Proofs.YtmcjfnebkpifnaaGreatDoor.PScriptReads
set_option linter.unusedVariables false
set_option linter.unusedSimpArgs false
set_option maxRecDepth 100000

abbrev Z0 : SH := ⟨0, 0, ⟨#[]⟩⟩
theorem RS.two_new (w : World) : RS w ((w.alloc (.cells #[.int .u8 0, .int .i64 0, .string ⟨#[]⟩] 43)).alloc (.cells #[.int .u8 0, .int .i64 0, .string ⟨#[]⟩] 43)) (w.heap.size + 1) Z0 := by
  have b1 : Below w.heap.size w (w.alloc (.cells #[.int .u8 0, .int .i64 0, .string ⟨#[]⟩] 43)) := below_alloc (Below.refl _ _) _
  have x1 : BoxH (w.alloc (.cells #[.int .u8 0, .int .i64 0, .string ⟨#[]⟩] 43)) w.heap.size Z0 := BoxH.new w Z0
  have h := RS.new b1 x1 Z0
  have e : (w.alloc (.cells #[.int .u8 0, .int .i64 0, .string ⟨#[]⟩] 43)).heap.size = w.heap.size + 1 := by simp
  rw [e] at h
  exact h
/-- The line begins with a kind's word and a space. -/
def Match (L : List UInt8) (i : Nat) : Prop := ∃ r, L = kindL.getD i [] ++ 32 :: r
theorem match_size {s : ByteArray} {i : Nat} {r : List UInt8} (h : s.data.toList = kindL.getD i [] ++ 32 :: r) : s.size = (bsOf (kindL.getD i [])).size + 1 + r.length := by
  have hl : s.data.toList.length = s.size := by simp
  rw [← hl, h, bs_size, List.length_append, List.length_cons]
  omega
theorem match_head {s : ByteArray} {i : Nat} {r : List UInt8} (h : s.data.toList = kindL.getD i [] ++ 32 :: r) : (s.extract 0 ((bsOf (kindL.getD i [])).size + 1)).toList = (bsOf (kindL.getD i []) ++ (⟨#[32]⟩ : ByteArray)).toList := by
  have e : bsOf (kindL.getD i []) ++ (⟨#[32]⟩ : ByteArray) = bsOf (kindL.getD i [] ++ [32]) := bs_app _ [32]
  rw [e, ByteArray.toList_eq, ByteArray.toList_eq, bs_list, ext_list, bs_list, h, bs_size, List.drop_zero, Nat.sub_zero, List.append_cons, List.take_append_of_le_length (by simp), List.take_of_length_le (by simp)]
theorem match_rest {s : ByteArray} {i : Nat} {r : List UInt8} (h : s.data.toList = kindL.getD i [] ++ 32 :: r) : s.extract ((bsOf (kindL.getD i [])).size + 1) s.size = bsOf r := by
  have hz := match_size h
  rw [ext_list, h, bs_size, List.append_cons, List.drop_append_of_le_length (by simp), List.drop_of_length_le (by simp), List.nil_append, List.take_of_length_le (by rw [bs_size] at hz; omega)]
theorem not_match {s : ByteArray} {i : Nat} (hn : ¬ Match s.data.toList i) (hl : (bsOf (kindL.getD i [])).size + 1 ≤ s.size) : (s.extract 0 ((bsOf (kindL.getD i [])).size + 1)).toList ≠ (bsOf (kindL.getD i []) ++ (⟨#[32]⟩ : ByteArray)).toList := by
  intro h
  have e : bsOf (kindL.getD i []) ++ (⟨#[32]⟩ : ByteArray) = bsOf (kindL.getD i [] ++ [32]) := bs_app _ [32]
  rw [e, ByteArray.toList_eq, ByteArray.toList_eq, bs_list, ext_list, bs_list, bs_size, List.drop_zero, Nat.sub_zero] at h
  refine hn ⟨s.data.toList.drop ((kindL.getD i []).length + 1), ?_⟩
  have h2 := List.take_append_drop ((kindL.getD i []).length + 1) s.data.toList
  rw [h] at h2
  rw [← h2]
  simp
theorem match_one {L : List UInt8} {i j : Nat} (hi : i < 6) (hj : j < 6) (h1 : Match L i) (h2 : Match L j) : i = j := by
  obtain ⟨r, hr⟩ := h1
  obtain ⟨t, ht⟩ := h2
  have k1 : ∀ i : Nat, i < 6 → ∀ b ∈ kindL.getD i [], b ≠ 32 := fun i hi => by
    have hm : kindL.getD i [] ∈ kindL := by
      rw [List.getD_eq_getElem?_getD, List.getElem?_eq_getElem (show i < kindL.length from hi)]
      exact List.getElem_mem _
    exact kind_no32 _ hm
  have e1 := word_app _ r (k1 i hi)
  have e2 := word_app _ t (k1 j hj)
  rw [← hr] at e1
  rw [← ht] at e2
  have a1 := kidx_at ⟨i, hi⟩
  have a2 := kidx_at ⟨j, hj⟩
  simp only at a1 a2
  rw [← e1] at a1
  rw [← e2] at a2
  omega
theorem kw_size (i : Nat) : (bsOf (kindL.getD i [])).size ≤ 6 := by
  have := kindW_len ((i + 1 : Nat) : Int)
  unfold kindW at this
  rw [show ((((i + 1 : Nat) : Int) - 1)).toNat = i by omega] at this
  rw [bs_size]; exact this
theorem kindS_at (j : Nat) (hj : j < 6) : kindS.getD j ByteArray.empty = bsOf (kindL.getD j []) := by
  unfold kindS
  rw [List.getD_eq_getElem?_getD, List.getElem?_map, List.getD_eq_getElem?_getD, List.getElem?_eq_getElem (show j < kindL.length from hj)]
  rfl
theorem word_cell {W : World} {A : Addr} (hC : Kd.string.C W (some A) 6 kindS) (j : Nat) (hj : j < 6) : W.cell? (A.add j) = some (.string (bsOf (kindL.getD j []))) := by
  obtain ⟨ad, hA, hc⟩ := str_cell hC j hj
  obtain rfl := (Option.some.inj hA)
  rw [hc, kindS_at j hj]
theorem no_attach {L r : List UInt8} {i : Nat} (hi : i < 6) (h : L = kindL.getD i [] ++ 32 :: r) : ¬ L = kindL.getD 0 [] := by
  intro h0
  have h32 : (32 : UInt8) ∈ kindL.getD 0 [] := by rw [← h0, h]; simp
  exact absurd rfl (kind_no32 _ (by decide) _ h32)
theorem match_rest2 {s : ByteArray} {i : Nat} {r dl rest : List UInt8} (h : s.data.toList = kindL.getD i [] ++ 32 :: r) (hr : r = dl ++ rest) : s.extract ((bsOf (kindL.getD i [])).size + 1 + dl.length) s.size = bsOf rest := by
  have hz := match_size h
  have hl : r.length = dl.length + rest.length := by rw [hr, List.length_append]
  rw [bs_size] at hz
  have e : s.data.toList = (kindL.getD i [] ++ [32] ++ dl) ++ rest := by rw [h, hr]; simp
  rw [ext_list, e, bs_size, List.drop_append_of_le_length (by simp; omega), List.drop_of_length_le (by simp; omega), List.nil_append, List.take_of_length_le (by omega)]
theorem RS.far {w W : World} {b b' : Nat} {h : SH} (k : RS w W b h) (hne : b ≠ b') (hlt : w.heap.size < b') (o : Nat) (v : Value) : RS w (W.setCell ⟨b', o, none⟩ v) b h :=
  ⟨k.bel.setCell (p := ⟨b', o, none⟩) (Nat.le_of_lt hlt) _, blk_far k.res (p := ⟨b', o, none⟩) (Nat.ne_of_lt hlt) _, blk_far k.hap (p := ⟨b', o, none⟩) hne _, k.lt⟩
def LineNo (w : World) (e : Ending) (w' : World) : Prop := e = .returned (.tuple #[.agg #[.int .u8 0, .int .i64 0, .string ⟨#[]⟩], .bool false]) ∧ Below w.heap.size w w'
def LineIs (w : World) (h : SH) (b : Bool) (e : Ending) (w' : World) : Prop := e = .returned (.tuple #[.agg #[.int .u8 h.f0, .int .i64 h.f1, .string h.f2], .bool b]) ∧ Below w.heap.size w w'
def LineOpt (w : World) (kd N : Int) (U : Option (List UInt8)) (e : Ending) (w' : World) : Prop := match U with
  | some x => LineIs w ⟨kd, N, bsOf x⟩ true e w'
  | none => LineNo w e w'


end Go.Proofs.YtmcjfnebkpifnaaGreatDoor

/-
  The document's May: what it returns. Printed lemma joined with its pure form.
-/
namespace Go.Proofs.YtmcjfnebkpifnaaGreatDoor
open Go.RowKit Go.Proofs.YtmcjfnebkpifnaaGreatDoorW.PrintWords Go.Proofs.YtmcjfnebkpifnaaGreatDoorW.PrintLast Go.Proofs.YtmcjfnebkpifnaaGreatDoorW.PrintMore Go.Proofs.YtmcjfnebkpifnaaGreatDoor.PScriptReads
theorem May_refR (h : SH) (w : World) : Calls Tryz.prog 38 #[.agg #[.int .u8 h.f0, .int .i64 h.f1, .string h.f2]] w fun e w' => e = .returned (.bool (mayB h)) ∧ Below w.heap.size w w' :=
  sashref25_May.calls 1 _ _ _ _ w ((May_f 0 _ _ _).trans (may_f h))
end Go.Proofs.YtmcjfnebkpifnaaGreatDoor
