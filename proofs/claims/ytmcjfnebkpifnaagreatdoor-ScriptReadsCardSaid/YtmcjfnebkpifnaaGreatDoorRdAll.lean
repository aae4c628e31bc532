/-
  Joined texts: RdPure, RdAll.
-/
import Derived.Test.YtmcjfnebkpifnaaGreatDoorScHex
import Derived.Test.YtmcjfnebkpifnaaGreatDoorNumPureS
/- Printed texts of this seat, cut to what is used. -/
namespace Go.Proofs.YtmcjfnebkpifnaaGreatDoor
open Go.RowKit Go.Proofs.YtmcjfnebkpifnaaGreatDoorW.PrintWords Go.Proofs.YtmcjfnebkpifnaaGreatDoorW.PrintLast Go.Proofs.YtmcjfnebkpifnaaGreatDoorW.PrintMore Go.Proofs.YtmcjfnebkpifnaaGreatDoor.PScriptReads
open Go.Lib (decDigits)
set_option linter.unusedVariables false
set_option linter.unusedSimpArgs false

/-- A word in quotes, without them. -/
def unq : List UInt8 → List UInt8
  | [] => []
  | [_] => []
  | c :: d :: r => if c = 92 then d :: unq r else c :: unq (d :: r)
def textU (l : List UInt8) : List UInt8 := if l.length < 2 ∨ l.headD 0 ≠ 34 then l else unq l.tail
/-- A digit of base 16. -/
def hexD (c : UInt8) : Option Nat := if 48 ≤ c.toNat ∧ c.toNat ≤ 57 then some (c.toNat - 48) else if 97 ≤ c.toNat ∧ c.toNat ≤ 102 then some (c.toNat - 87) else if 65 ≤ c.toNat ∧ c.toNat ≤ 70 then some (c.toNat - 55) else none
def hexP2 (a b : UInt8) : Option UInt8 := match hexD a, hexD b with
  | some x, some y => some (UInt8.ofNat (16 * x + y))
  | _, _ => none
def hexU : List UInt8 → Option (List UInt8)
  | [] => some []
  | [_] => some []
  | a :: b :: r => match hexP2 a b with
    | none => none
    | some x => (hexU r).map (x :: ·)
def bytesU (l : List UInt8) : Option (List UInt8) := if l = [110, 111, 110, 101] then some [] else hexU l
def wordOf (l : List UInt8) : List UInt8 := l.takeWhile (fun b => b != 32)
def restOf (l : List UInt8) : List UInt8 := l.dropWhile (fun b => b != 32)
def kidx (p : List UInt8) : Nat := kindL.findIdx (fun x => x == p)
def decT (k : Nat) (n : Int) : List UInt8 → Option SH
  | [] => some ⟨((k + 1 : Nat) : Int), n, ⟨#[]⟩⟩
  | _ :: t => if k = 2 then (bytesU t).map (fun b => ⟨((k + 1 : Nat) : Int), n, bsOf b⟩) else some ⟨((k + 1 : Nat) : Int), n, bsOf (textU t)⟩
def decN (k : Nat) : List UInt8 → Option SH
  | [] => some ⟨((k + 1 : Nat) : Int), 0, ⟨#[]⟩⟩
  | _ :: r => if (readR (bsOf (wordOf r))).2 ≠ 0 then none else decT k (readR (bsOf (wordOf r))).1 (restOf r)
def decB (l : List UInt8) : Option SH := if kidx (wordOf l) < 6 then decN (kidx (wordOf l)) (restOf l) else none
theorem decT_cons (k : Nat) (n : Int) (c : UInt8) (t : List UInt8) : decT k n (c :: t) = if k = 2 then (bytesU t).map (fun b => ⟨((k + 1 : Nat) : Int), n, bsOf b⟩) else some ⟨((k + 1 : Nat) : Int), n, bsOf (textU t)⟩ := rfl
theorem decN_cons (k : Nat) (c : UInt8) (r : List UInt8) : decN k (c :: r) = if (readR (bsOf (wordOf r))).2 ≠ 0 then none else decT k (readR (bsOf (wordOf r))).1 (restOf r) := rfl
/-- The happening of a line. -/
def RD (l : List UInt8) : Option SH := match decB l with
  | some h => if mayB h = true ∧ lineB h = l then some h else none
  | none => none

theorem word_app (a r : List UInt8) (h : ∀ b ∈ a, b ≠ 32) : wordOf (a ++ 32 :: r) = a := by
  unfold wordOf
  induction a with
  | nil => rfl
  | cons x a ih =>
    rw [List.cons_append, List.takeWhile_cons, if_pos (by simpa using h x (by simp)), ih (fun b hb => h b (by simp [hb]))]
theorem rest_app (a r : List UInt8) (h : ∀ b ∈ a, b ≠ 32) : restOf (a ++ 32 :: r) = 32 :: r := by
  unfold restOf
  induction a with
  | nil => rfl
  | cons x a ih =>
    rw [List.cons_append, List.dropWhile_cons, if_pos (by simpa using h x (by simp)), ih (fun b hb => h b (by simp [hb]))]
theorem word_all (a : List UInt8) (h : ∀ b ∈ a, b ≠ 32) : wordOf a = a := by
  unfold wordOf
  induction a with
  | nil => rfl
  | cons x a ih =>
    rw [List.takeWhile_cons, if_pos (by simpa using h x (by simp)), ih (fun b hb => h b (by simp [hb]))]
theorem rest_all (a : List UInt8) (h : ∀ b ∈ a, b ≠ 32) : restOf a = [] := by
  unfold restOf
  induction a with
  | nil => rfl
  | cons x a ih =>
    rw [List.dropWhile_cons, if_pos (by simpa using h x (by simp)), ih (fun b hb => h b (by simp [hb]))]
theorem kind_no32 : ∀ x ∈ kindL, ∀ b ∈ x, b ≠ 32 := by decide
theorem kidx_at : ∀ i : Fin 6, kidx (kindL.getD i.val []) = i.val := by decide
theorem dig_no32 (n : Nat) : ∀ b ∈ decDigits n, b ≠ 32 := fun b hb => by
  have := isD_of b (dec_all n b hb)
  rintro rfl
  exact absurd this.1 (by decide)
theorem digL_dec (n : Nat) (h : n ≤ 2147483647) : digL (n : Int) = decDigits n := digS_in n h
theorem readR_dig (n : Nat) (h : n ≤ 2147483647) : readR (bsOf (decDigits n)) = ((n : Int), 0) := by
  rw [← digL_dec n h, ← bs_dig]
  exact read_dig n h
theorem unq_esc (t : List UInt8) : unq (t.flatMap escB ++ [34]) = t := by
  induction t with
  | nil => rfl
  | cons b t ih =>
    rw [List.flatMap_cons, List.append_assoc]
    unfold escB
    by_cases hb : b.toNat = 34 ∨ b.toNat = 92
    · rw [if_pos hb]
      show unq (92 :: b :: (t.flatMap escB ++ [34])) = b :: t
      rw [unq, if_pos rfl, ih]
    · rw [if_neg hb]
      have h92 : b ≠ 92 := fun h => hb (.inr (by rw [h]; rfl))
      show unq (b :: (t.flatMap escB ++ [34])) = b :: t
      obtain ⟨d, r, hd⟩ : ∃ d r, t.flatMap escB ++ [34] = d :: r := by
        cases h : t.flatMap escB ++ [34] with
        | nil => simp at h
        | cons d r => exact ⟨d, r, rfl⟩
      rw [hd] at ih ⊢
      rw [unq, if_neg h92, ih]
theorem textU_quoted (t : List UInt8) : textU (quotedL t) = t := by
  unfold quotedL
  by_cases hb : bareL t = true
  · rw [if_pos hb]
    unfold textU
    cases t with
    | nil => rfl
    | cons b t =>
      refine if_pos (.inr ?_)
      intro h
      have h : b = 34 := h
      unfold bareL at hb
      rw [Bool.and_eq_true, List.all_cons, Bool.and_eq_true] at hb
      rw [h] at hb
      exact absurd hb.2.1 (by decide)
  · rw [if_neg hb]
    unfold textU
    rw [if_neg]
    · exact unq_esc t
    · rintro (h | h)
      · simp at h
        omega
      · exact h rfl
theorem hex2_fin : ∀ i : Fin 256, hexP2 ((hex2 (UInt8.ofNat i.val)).getD 0 0) ((hex2 (UInt8.ofNat i.val)).getD 1 0) = some (UInt8.ofNat i.val) := by decide +kernel
theorem hex2_back (b : UInt8) : ∃ x y, hex2 b = [x, y] ∧ hexP2 x y = some b := by
  have h := hex2_fin ⟨b.toNat, b.toNat_lt⟩
  rw [show UInt8.ofNat (⟨b.toNat, b.toNat_lt⟩ : Fin 256).val = b by simp] at h
  have hl := hex2_len b
  match hx : hex2 b, hl with
  | [x, y], _ =>
    rw [hx] at h
    exact ⟨x, y, rfl, h⟩
theorem hexU_flat (t : List UInt8) : hexU (t.flatMap hex2) = some t := by
  induction t with
  | nil => rfl
  | cons b t ih =>
    obtain ⟨x, y, hx, hp⟩ := hex2_back b
    rw [List.flatMap_cons, hx]
    show hexU (x :: y :: t.flatMap hex2) = some (b :: t)
    rw [hexU, hp, ih]
    rfl
theorem bytesU_hex (t : List UInt8) : bytesU (hexL t) = some t := by
  unfold hexL
  by_cases h0 : t = []
  · subst h0; rfl
  · rw [if_neg h0]
    unfold bytesU
    rw [if_neg]
    · exact hexU_flat t
    · intro h
      have := hexU_flat t
      rw [h] at this
      exact absurd this (by rw [show hexU [110, 111, 110, 101] = none from rfl]; simp)
theorem may_facts {h : SH} (hm : mayB h = true) : 0 ≤ h.f1 ∧ h.f1 ≤ 2147483647 ∧ (h.f0 = 1 → h.f1 = 0) ∧ (h.f0 = 1 ∨ h.f0 = 2 ∨ h.f0 = 6 → h.f2 = ⟨#[]⟩) := by
  obtain ⟨k, n, s⟩ := h
  have he : s.toList = [] → s = ⟨#[]⟩ := fun h => by
    apply bs_ext
    rw [← ByteArray.toList_eq, h]
  rcases may_kind hm with h | h | h | h | h | h
  all_goals (cases h; unfold mayB script_may.f at hm; simp at hm)
  all_goals simp only
  all_goals (repeat' split at hm)
  all_goals (first | (exfalso; revert hm; simp; done) | skip)
  all_goals simp_all
  all_goals (first | omega | done | skip)
theorem dec_line {h : SH} (hm : mayB h = true) : decB (lineB h) = some h := by
  have hk := may_kind hm
  obtain ⟨h0, h1, h2, h3⟩ := may_facts hm
  obtain ⟨k, n, s⟩ := h
  simp only at hk h0 h1 h2 h3
  obtain ⟨m, rfl⟩ := Int.eq_ofNat_of_zero_le h0
  have hmm : m ≤ 2147483647 := by omega
  have key : ∀ (i : Nat) (hi : i < 6) (T : List UInt8), kindW ((i + 1 : Nat) : Int) = kindL.getD i [] → decB (kindL.getD i [] ++ (32 :: (decDigits m ++ T))) = decN i (32 :: (decDigits m ++ T)) := by
    intro i hi T _
    have hmem : kindL.getD i [] ∈ kindL := by
      rw [List.getD_eq_getElem?_getD, List.getElem?_eq_getElem (show i < kindL.length from hi)]
      exact List.getElem_mem _
    unfold decB
    rw [word_app _ _ (kind_no32 _ hmem), rest_app _ _ (kind_no32 _ hmem), kidx_at ⟨i, hi⟩, if_pos hi]
  have keyE : ∀ (i : Nat), decN i (32 :: (decDigits m ++ [])) = some ⟨((i + 1 : Nat) : Int), (m : Int), ⟨#[]⟩⟩ := by
    intro i
    rw [List.append_nil, decN_cons, word_all _ (dig_no32 m), rest_all _ (dig_no32 m), readR_dig m hmm, if_neg (by simp)]
    rfl
  have keyT : ∀ (i : Nat) (T : List UInt8), decN i (32 :: (decDigits m ++ (32 :: T))) = decT i (m : Int) (32 :: T) := by
    intro i T
    rw [decN_cons, word_app _ _ (dig_no32 m), rest_app _ _ (dig_no32 m), readR_dig m hmm, if_neg (by simp)]
  rcases hk with h | h | h | h | h | h
  · subst h
    have hz := h2 rfl
    have hs := h3 (.inl rfl)
    have hz' : m = 0 := by omega
    subst hz' hs
    rfl
  · subst h
    have hs := h3 (.inr (.inl rfl))
    subst hs
    have e : lineB ⟨2, (m : Int), ⟨#[]⟩⟩ = kindL.getD 1 [] ++ (32 :: (decDigits m ++ [])) := by
      unfold lineB
      rw [digL_dec m hmm]
      rfl
    rw [e, key 1 (by omega) _ rfl, keyE]
    rfl
  · subst h
    have e : lineB ⟨3, (m : Int), s⟩ = kindL.getD 2 [] ++ (32 :: (decDigits m ++ (32 :: hexL s.data.toList))) := by
      unfold lineB
      rw [digL_dec m hmm]
      simp [kindW]
    rw [e, key 2 (by omega) _ rfl, keyT]
    rw [decT_cons, if_pos rfl, bytesU_hex]
    show some (⟨((2 + 1 : Nat) : Int), (m : Int), bsOf s.data.toList⟩ : SH) = _
    rw [bs_of]
    rfl
  · subst h
    have e : lineB ⟨4, (m : Int), s⟩ = kindL.getD 3 [] ++ (32 :: (decDigits m ++ (32 :: quotedL s.data.toList))) := by
      unfold lineB
      rw [digL_dec m hmm]
      simp [kindW]
    rw [e, key 3 (by omega) _ rfl, keyT]
    rw [decT_cons, if_neg (by decide), textU_quoted, bs_of]
    rfl
  · subst h
    have e : lineB ⟨5, (m : Int), s⟩ = kindL.getD 4 [] ++ (32 :: (decDigits m ++ (32 :: quotedL s.data.toList))) := by
      unfold lineB
      rw [digL_dec m hmm]
      simp [kindW]
    rw [e, key 4 (by omega) _ rfl, keyT]
    rw [decT_cons, if_neg (by decide), textU_quoted, bs_of]
    rfl
  · subst h
    have hs := h3 (.inr (.inr rfl))
    subst hs
    have e : lineB ⟨6, (m : Int), ⟨#[]⟩⟩ = kindL.getD 5 [] ++ (32 :: (decDigits m ++ [])) := by
      unfold lineB
      rw [digL_dec m hmm]
      rfl
    rw [e, key 5 (by omega) _ rfl, keyE]
    rfl
theorem RD_line {h : SH} (hm : mayB h = true) : RD (lineB h) = some h := by
  unfold RD
  rw [dec_line hm]
  show (if _ then _ else _) = _
  rw [if_pos ⟨hm, rfl⟩]

theorem unq_len : ∀ (n : Nat) (l : List UInt8), l.length ≤ n → (unq l).length ≤ l.length := by
  intro n
  induction n with
  | zero => intro l hl; have : l = [] := List.length_eq_zero_iff.1 (by omega); subst this; simp [unq]
  | succ n ih =>
    intro l hl
    match l, hl with
    | [], _ => simp [unq]
    | [_], _ => simp [unq]
    | c :: d :: r, hl =>
      rw [unq]
      simp only [List.length_cons] at hl ⊢
      split
      · have := ih r (by omega)
        rw [List.length_cons]; omega
      · have := ih (d :: r) (by simp; omega)
        rw [List.length_cons] at this
        rw [List.length_cons]; omega
theorem textU_len (l : List UInt8) : (textU l).length ≤ l.length := by
  unfold textU
  split
  · omega
  · have h1 := unq_len _ l.tail (Nat.le_refl _)
    have h2 : l.tail.length ≤ l.length := by simp
    omega
theorem hexU_len : ∀ (n : Nat) (l r : List UInt8), l.length ≤ n → hexU l = some r → r.length ≤ l.length := by
  intro n
  induction n with
  | zero => intro l r hl h; have : l = [] := List.length_eq_zero_iff.1 (by omega); subst this; simp [hexU] at h; subst h; simp
  | succ n ih =>
    intro l r hl h
    match l, hl, h with
    | [], _, h => simp [hexU] at h; subst h; simp
    | [_], _, h => simp [hexU] at h; subst h; simp
    | a :: b :: t, hl, h =>
      rw [hexU] at h
      simp only [List.length_cons] at hl ⊢
      cases hp : hexP2 a b with
      | none => rw [hp] at h; cases h
      | some x =>
        rw [hp] at h
        simp only [Option.map_eq_some_iff] at h
        obtain ⟨q, hq, rfl⟩ := h
        have := ih t q (by omega) hq
        rw [List.length_cons]; omega
theorem bytesU_len {l r : List UInt8} (h : bytesU l = some r) : r.length ≤ l.length := by
  unfold bytesU at h
  split at h
  · cases h; simp
  · exact hexU_len _ l r (Nat.le_refl _) h
theorem restOf_len (l : List UInt8) : (restOf l).length ≤ l.length := by
  unfold restOf
  exact (List.dropWhile_sublist _).length_le
theorem wordOf_len (l : List UInt8) : (wordOf l).length ≤ l.length := by
  unfold wordOf
  exact (List.takeWhile_sublist _).length_le
end Go.Proofs.YtmcjfnebkpifnaaGreatDoor

/- Printed texts of this seat, cut to what is used. -/
namespace Go.Proofs.YtmcjfnebkpifnaaGreatDoor
open Go.RowKit Go.Proofs.YtmcjfnebkpifnaaGreatDoorW.PrintWords Go.Proofs.YtmcjfnebkpifnaaGreatDoorW.PrintLast Go.Proofs.YtmcjfnebkpifnaaGreatDoorW.PrintMore Go.Proofs.YtmcjfnebkpifnaaGreatDoor.PScriptReads
open Go.Lib (decDigits)
set_option linter.unusedVariables false
set_option linter.unusedSimpArgs false

/-- Lines, and what stands behind the last one: in quotes or not, behind a backslash or not, with what the line has so far. -/
def cutL : Bool → Bool → List UInt8 → List UInt8 → List (List UInt8) × List UInt8
  | _, _, cur, [] => ([], cur)
  | q, true, cur, c :: r => cutL q false (cur ++ [c]) r
  | q, false, cur, c :: r =>
    if c = 92 ∧ q = true then cutL q true (cur ++ [c]) r
    else if c = 34 then cutL (!q) false (cur ++ [c]) r
    else if c = 10 ∧ q = false then (cur :: (cutL false false [] r).1, (cutL false false [] r).2)
    else cutL q false (cur ++ [c]) r
/-- The first line, and what stands behind its end. -/
def scanL : Bool → Bool → List UInt8 → Option (List UInt8 × List UInt8)
  | _, _, [] => none
  | q, true, c :: r => (scanL q false r).map (fun p => (c :: p.1, p.2))
  | q, false, c :: r =>
    if c = 92 ∧ q = true then (scanL q true r).map (fun p => (c :: p.1, p.2))
    else if c = 34 then (scanL (!q) false r).map (fun p => (c :: p.1, p.2))
    else if c = 10 ∧ q = false then some ([], r)
    else (scanL q false r).map (fun p => (c :: p.1, p.2))
def joinP (cur l : List UInt8) : Option (List UInt8 × List UInt8) → List (List UInt8) × List UInt8
  | none => ([], cur ++ l)
  | some (a, r) => ((cur ++ a) :: (cutL false false [] r).1, (cutL false false [] r).2)
theorem joinP_map (cur r : List UInt8) (c : UInt8) (x : Option (List UInt8 × List UInt8)) : joinP cur (c :: r) (x.map (fun p => (c :: p.1, p.2))) = joinP (cur ++ [c]) r x := by
  cases x with
  | none => simp [joinP]
  | some p => simp [joinP]
theorem cut_scan (l : List UInt8) : ∀ (q sk : Bool) (cur : List UInt8), cutL q sk cur l = joinP cur l (scanL q sk l) := by
  induction l with
  | nil => intro q sk cur; cases sk <;> simp [cutL, scanL, joinP]
  | cons c r ih =>
    intro q sk cur
    cases sk with
    | true =>
      rw [cutL, scanL, joinP_map, ih]
    | false =>
      rw [cutL, scanL]
      by_cases h1 : c = 92 ∧ q = true
      · rw [if_pos h1, if_pos h1, joinP_map, ih]
      · rw [if_neg h1, if_neg h1]
        by_cases h2 : c = 34
        · rw [if_pos h2, if_pos h2, joinP_map, ih]
        · rw [if_neg h2, if_neg h2]
          by_cases h3 : c = 10 ∧ q = false
          · rw [if_pos h3, if_pos h3]
            simp [joinP]
          · rw [if_neg h3, if_neg h3, joinP_map, ih]
/-- The happenings of lines from the one of some number on, or the number of the first that is none. -/
def readLs : Nat → List (List UInt8) → Nat ⊕ List SH
  | _, [] => .inr []
  | i, l :: r => match RD l with
    | none => .inl i
    | some h => if i < 2000 then (match readLs (i + 1) r with
      | .inl p => .inl p
      | .inr hs => .inr (h :: hs)) else .inl i
/-- .. of a text. -/
def readA (n : Nat) (p : List (List UInt8) × List UInt8) : Nat ⊕ List SH := match readLs n p.1 with
  | .inl i => .inl i
  | .inr hs => if p.2 = [] then .inr hs else .inl (n + p.1.length)
def readTxt (l : List UInt8) : Nat ⊕ List SH := readA 0 (cutL false false [] l)
theorem readA_nil (n : Nat) : readA n (cutL false false [] []) = .inr [] := by simp [cutL, readA, readLs]
theorem readA_some (n : Nat) (l a r : List UInt8) (h : scanL false false l = some (a, r)) : readA n (cutL false false [] l) = match RD a with
    | none => .inl n
    | some x => if n < 2000 then (match readA (n + 1) (cutL false false [] r) with
      | .inl p => .inl p
      | .inr hs => .inr (x :: hs)) else .inl n := by
  rw [cut_scan, h]
  simp only [joinP, List.nil_append]
  unfold readA
  simp only [readLs]
  cases RD a with
  | none => rfl
  | some x =>
    simp only
    by_cases hn : n < 2000
    · rw [if_pos hn, if_pos hn]
      cases readLs (n + 1) (cutL false false [] r).1 with
      | inl p => rfl
      | inr hs =>
        simp only
        by_cases he : (cutL false false [] r).2 = []
        · rw [if_pos he, if_pos he]
        · rw [if_neg he, if_neg he, List.length_cons]
          simp only
          rw [show n + ((cutL false false [] r).1.length + 1) = n + 1 + (cutL false false [] r).1.length by omega]
    · rw [if_neg hn, if_neg hn]

/-- Lines, each with its end, and what stands behind them, are the text. -/
theorem cut_join (l : List UInt8) : ∀ (q sk : Bool) (cur : List UInt8), (cutL q sk cur l).1.flatMap (fun a => a ++ [10]) ++ (cutL q sk cur l).2 = cur ++ l := by
  induction l with
  | nil => intro q sk cur; cases sk <;> simp [cutL]
  | cons c r ih =>
    intro q sk cur
    cases sk with
    | true => rw [cutL, ih]; simp
    | false =>
      rw [cutL]
      by_cases h1 : c = 92 ∧ q = true
      · rw [if_pos h1, ih]; simp
      · rw [if_neg h1]
        by_cases h2 : c = 34
        · rw [if_pos h2, ih]; simp
        · rw [if_neg h2]
          by_cases h3 : c = 10 ∧ q = false
          · rw [if_pos h3]
            simp only
            rw [List.flatMap_cons, List.append_assoc, ih, h3.1]
            simp
          · rw [if_neg h3, ih]; simp

end Go.Proofs.YtmcjfnebkpifnaaGreatDoor
