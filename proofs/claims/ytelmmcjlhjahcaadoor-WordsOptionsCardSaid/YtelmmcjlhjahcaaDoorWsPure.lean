/-
  The options of a command. Pure, and the reference's values.
-/
import Derived.Test.YtelmmcjlhjahcaaDoorWoOPrint
import Derived.Test.YtelmmcjlhjahcaaDoorPWordsOptionsx3
namespace Go.Proofs.YtelmmcjlhjahcaaDoor
open Go.RowKit Go.Proofs.YtelmmcjlhjahcaaDoorW.PrintWords Go.Proofs.YtelmmcjlhjahcaaDoorW.PrintLast Go.Proofs.YtelmmcjlhjahcaaDoorW.PrintMore Go.Proofs.YtelmmcjlhjahcaaDoor.PWordsOptions
set_option linter.unusedVariables false
set_option linter.unusedSimpArgs false

abbrev SO := S105
def dashB (s : ByteArray) : Bool := s.toList == ([45, 45] : List UInt8)
def optB (s : ByteArray) : Bool := decide (s.size = 2 ∧ bt s 0 = 45 ∧ 97 ≤ bt s 1 ∧ bt s 1 ≤ 122)
def takesB (t : ByteArray) (c : Int) : Bool := t.data.toList.any (fun b => decide ((b.toNat : Int) = c))
def optL (tk : ByteArray) : Nat → List ByteArray → List SO → List SO × Nat × Int × Int
  | i, [], os => (os, i, 0, 0)
  | i, w :: ws, os =>
    if dashB w = true then (os, i + 1, 0, 0)
    else if optB w = false then (os, i, 0, 0)
    else if takesB tk (bt w 1) = false then optL tk (i + 1) ws (os ++ [⟨bt w 1, ⟨#[]⟩⟩])
    else match ws with
      | [] => ([], 0, 2, i)
      | v :: ws' => optL tk (i + 2) ws' (os ++ [⟨bt w 1, v⟩])
theorem optL_nil (tk : ByteArray) (i : Nat) (os : List SO) : optL tk i [] os = (os, i, 0, 0) := by rw [optL]
theorem optL_dash (tk : ByteArray) (i : Nat) (w : ByteArray) (ws : List ByteArray) (os : List SO) (h : dashB w = true) : optL tk i (w :: ws) os = (os, i + 1, 0, 0) := by rw [optL.eq_def]; simp only; rw [if_pos h]
theorem optL_stop (tk : ByteArray) (i : Nat) (w : ByteArray) (ws : List ByteArray) (os : List SO) (h : ¬ dashB w = true) (h2 : optB w = false) : optL tk i (w :: ws) os = (os, i, 0, 0) := by rw [optL.eq_def]; simp only; rw [if_neg h, if_pos h2]
theorem optL_flag (tk : ByteArray) (i : Nat) (w : ByteArray) (ws : List ByteArray) (os : List SO) (h : ¬ dashB w = true) (h2 : ¬ optB w = false) (h3 : takesB tk (bt w 1) = false) : optL tk i (w :: ws) os = optL tk (i + 1) ws (os ++ [⟨bt w 1, ⟨#[]⟩⟩]) := by rw [optL.eq_def]; simp only; rw [if_neg h, if_neg h2, if_pos h3]
theorem optL_last (tk : ByteArray) (i : Nat) (w : ByteArray) (os : List SO) (h : ¬ dashB w = true) (h2 : ¬ optB w = false) (h3 : ¬ takesB tk (bt w 1) = false) : optL tk i [w] os = ([], 0, 2, (i : Int)) := by rw [optL.eq_def]; simp only; rw [if_neg h, if_neg h2, if_neg h3]
theorem optL_val (tk : ByteArray) (i : Nat) (w v : ByteArray) (ws : List ByteArray) (os : List SO) (h : ¬ dashB w = true) (h2 : ¬ optB w = false) (h3 : ¬ takesB tk (bt w 1) = false) : optL tk i (w :: v :: ws) os = optL tk (i + 2) ws (os ++ [⟨bt w 1, v⟩]) := by rw [optL.eq_def]; simp only; rw [if_neg h, if_neg h2, if_neg h3]

/-! ### the values -/
def valOf (os : List SO) (c : Int) : ByteArray := ((os.reverse.find? (fun o => decide (o.f0 = c))).map (·.f1)).getD ⟨#[]⟩
def hasOf (os : List SO) (c : Int) : Bool := os.any (fun o => decide (o.f0 = c))
theorem valOf_nil (c : Int) : valOf [] c = ⟨#[]⟩ := rfl
theorem hasOf_nil (c : Int) : hasOf [] c = false := rfl
theorem valOf_add (os : List SO) (o : SO) (c : Int) : valOf (os ++ [o]) c = if o.f0 = c then o.f1 else valOf os c := by
  unfold valOf
  rw [List.reverse_append, List.reverse_singleton, List.singleton_append, List.find?_cons]
  by_cases h : o.f0 = c
  · simp [h]
  · simp [h]
theorem hasOf_add (os : List SO) (o : SO) (c : Int) : hasOf (os ++ [o]) c = (hasOf os c || decide (o.f0 = c)) := by simp [hasOf]
def cntOf (h : Int → Bool) : Nat := (List.range 256).countP (fun c : Nat => h (c : Int))
theorem count_put (p : Nat → Bool) (c : Nat) : ∀ l : List Nat, l.Nodup → l.countP (fun x => p x || decide (c = x)) = l.countP p + (if p c = false ∧ c ∈ l then 1 else 0) := by
  intro l
  induction l with
  | nil => intro _; simp
  | cons x l ih =>
    intro hn
    obtain ⟨h1, h2⟩ := List.nodup_cons.1 hn
    rw [List.countP_cons, List.countP_cons, ih h2]
    by_cases hx : c = x
    · subst hx
      cases hp : p c <;> simp [h1]
    · have e : (c ∈ x :: l) ↔ c ∈ l := by simp [hx]
      simp only [e, hx, decide_false, Bool.or_false]
      omega
theorem cnt_put (h : Int → Bool) (c : Int) (h0 : 0 ≤ c) (h1 : c < 256) : cntOf (fun x => h x || decide (c = x)) = if h c = true then cntOf h else cntOf h + 1 := by
  obtain ⟨n, rfl⟩ : ∃ n : Nat, c = (n : Int) := ⟨c.toNat, by omega⟩
  have := count_put (fun x => h (x : Int)) n (List.range 256) List.nodup_range
  unfold cntOf
  have e : (List.range 256).countP (fun x : Nat => h (x : Int) || decide ((n : Int) = (x : Int))) = (List.range 256).countP (fun x : Nat => h (x : Int) || decide (n = x)) := by
    apply List.countP_congr
    intro x _
    simp [Int.ofNat_inj]
  rw [e, this]
  have hm : n ∈ List.range 256 := List.mem_range.2 (by omega)
  cases hc : h (n : Int) <;> simp [hm]

/-! ### the reference -/
theorem wi1 (i : Nat) (h : i < 1000000000) : wrap64 ((i : Int) + 1) = ((i + 1 : Nat) : Int) := by unfold wrap64; omega
theorem wi2 (i : Nat) (h : i < 1000000000) : wrap64 ((i : Int) + 2) = ((i + 2 : Nat) : Int) := by unfold wrap64; omega
theorem btO (s : ByteArray) (n : Nat) (h : n < s.size) : bt s (n : Int) = (s[n].toNat : Int) := by
  unfold bt
  rw [dif_pos (show ((n : Int)).toNat < s.size by omega)]
  rfl
theorem dropO (s : ByteArray) (k : Nat) (h : k < s.size) : s.data.toList.drop k = s[k] :: s.data.toList.drop (k + 1) := by
  have h' : k < s.data.toList.length := by simpa using h
  rw [List.drop_eq_getElem_cons h']; rfl
theorem takes_l0 (t : ByteArray) (ht : t.size ≤ 100000) (c : Int) : ∀ (d k i : Nat), t.size - i = d → i ≤ t.size → d < k → sashref20_takes.l0 k t c (i : Int) = some ((t.data.toList.drop i).any (fun b => decide ((b.toNat : Int) = c))) := by
  intro d
  induction d with
  | zero =>
    intro k i hd hi hk
    obtain ⟨k, rfl⟩ : ∃ m, k = m + 1 := ⟨k - 1, by omega⟩
    have he : t.data.toList.drop i = [] := List.drop_eq_nil_of_le (by have hq : t.data.toList.length = t.size := (by simp); omega)
    simp only [sashref20_takes.l0]
    rw [if_neg (by omega), he]; rfl
  | succ d ih =>
    intro k i hd hi hk
    obtain ⟨k, rfl⟩ : ∃ m, k = m + 1 := ⟨k - 1, by omega⟩
    have hlt : i < t.size := by omega
    simp only [sashref20_takes.l0]
    rw [if_pos (by omega), if_pos (by omega), btO t i hlt, dropO t i hlt, List.any_cons, wi1 i (by omega)]
    by_cases h : (t[i].toNat : Int) = c
    · rw [if_pos h, decide_eq_true h]; rfl
    · rw [if_neg h, decide_eq_false h, Bool.false_or]
      exact ih k (i + 1) (by omega) (by omega) (by omega)
theorem takes_f (t : ByteArray) (ht : t.size ≤ 100000) (c : Int) (k : Nat) (hk : t.size < k) : sashref20_takes.f k t c = some (takesB t c) := by
  unfold sashref20_takes.f
  have := takes_l0 t ht c t.size k 0 (by omega) (by omega) (by omega)
  simpa [takesB] using this

def optFin (l : List ByteArray) (r : List SO × Nat × Int × Int) : List SO × List ByteArray × Int × Int := (r.1, if r.2.2.1 = 0 then l.drop r.2.1 else [], r.2.2.1, r.2.2.2)

theorem j1_stop (k : Nat) (l : List ByteArray) (tk : ByteArray) (os : List SO) (i : Nat) (w : ByteArray) (hi : i ≤ l.length) : sashref20_Options.j1 (k + 1) l tk os (i : Int) w true = some (os, l.drop i, 0, 0) := by
  simp only [sashref20_Options.j1]
  rw [if_pos trivial, if_neg (by omega), if_pos (by omega), if_pos (by omega)]
  simp
theorem rdO (l : List ByteArray) (i : Nat) (h : i < l.length) : rdOf ByteArray.empty l (i : Int) = l[i] := by
  unfold rdOf
  rw [Int.toNat_natCast, List.getD_eq_getElem?_getD, List.getElem?_eq_getElem h]; rfl

theorem Options_l0 (l : List ByteArray) (tk : ByteArray) (hl : l.length ≤ 10000) (ht : tk.size ≤ 1000) : ∀ (D d i : Nat), l.length - i = d → d ≤ D → i ≤ l.length → ∀ (k : Nat) (os : List SO), 2 * d + 1100 < k → os.length ≤ i →
    sashref20_Options.l0 k l tk os (i : Int) = some (optFin l (optL tk i (l.drop i) os)) := by
  intro D
  induction D with
  | zero =>
    intro d i hd hD hi k os hk ho
    obtain ⟨k, rfl⟩ : ∃ m, k = m + 1 := ⟨k - 1, by omega⟩
    have he : l.drop i = [] := List.drop_eq_nil_of_le (by omega)
    rw [he, optL_nil]
    simp only [sashref20_Options.l0]
    rw [if_neg (by omega), if_neg (by omega), if_pos (by omega), if_pos (by omega)]
    simp [optFin]
  | succ D ih =>
    intro d i hd hD hi k os hk ho
    by_cases hz : d = 0
    · exact ih d i hd (by omega) hi k os hk ho
    obtain ⟨k, rfl⟩ : ∃ m, k = m + 2 := ⟨k - 2, by omega⟩
    have hlt : i < l.length := by omega
    have he : l.drop i = l[i] :: l.drop (i + 1) := List.drop_eq_getElem_cons hlt
    have hw1 := wi1 i (by omega)
    have hw2 := wi2 i (by omega)
    rw [he]
    generalize hw : l[i] = w
    by_cases hda : dashB w = true
    · rw [optL_dash _ _ _ _ _ hda]
      have hda' : w.toList = ([45, 45] : List UInt8) := by simpa [dashB] using hda
      simp only [sashref20_Options.l0]
      rw [if_pos (by omega), if_pos (by omega), rdO l i hlt, hw, if_pos hda', hw1, if_pos (by omega), if_pos (by omega)]
      simp [optFin]
    · have hda' : ¬ w.toList = ([45, 45] : List UInt8) := by simpa [dashB] using hda
      -- to the test's place
      have step : sashref20_Options.l0 (k + 2) l tk os (i : Int) = sashref20_Options.j1 (k + 1) l tk os (i : Int) w (!optB w) := by
        rw [sashref20_Options.l0]
        rw [if_pos (by omega), if_pos (by omega), rdO l i hlt, hw, if_neg hda']
        by_cases h2 : w.size = 2
        · rw [if_pos (by omega), if_pos (by omega)]
          by_cases h45 : bt w 0 = 45
          · rw [if_pos h45, if_pos (by omega)]
            by_cases h97 : bt w 1 < 97
            · rw [if_pos h97]
              have : optB w = false := decide_eq_false (by omega)
              rw [this]; rfl
            · rw [if_neg h97]
              congr 1
              unfold optB
              by_cases h122 : bt w 1 ≤ 122
              · rw [decide_eq_false (by omega), decide_eq_true (by omega)]; rfl
              · rw [decide_eq_true (by omega), decide_eq_false (by omega)]; rfl
          · rw [if_neg h45]
            have : optB w = false := decide_eq_false (by omega)
            rw [this]; rfl
        · rw [if_neg (by omega)]
          have : optB w = false := decide_eq_false (by omega)
          rw [this]; rfl
      rw [step]
      by_cases hop : optB w = false
      · rw [hop, optL_stop _ _ _ _ _ hda hop]
        show sashref20_Options.j1 (k + 1) l tk os (i : Int) w true = _
        rw [j1_stop _ _ _ _ _ _ (by omega)]
        simp [optFin]
      · have hop' : optB w = true := by cases h : optB w with | true => rfl | false => exact absurd h hop
        have hsz : w.size = 2 := (of_decide_eq_true hop').1
        rw [hop']
        show sashref20_Options.j1 (k + 1) l tk os (i : Int) w false = _
        rw [sashref20_Options.j1, if_neg (by decide), if_pos (by omega), takes_f tk (by omega) _ k (by omega), Option.bind_some]
        by_cases hta : takesB tk (bt w 1) = false
        · rw [hta, if_neg (by decide), if_pos (by omega), hw1, optL_flag _ _ _ _ _ hda hop hta]
          exact ih (l.length - (i + 1)) (i + 1) rfl (by omega) (by omega) k _ (by omega) (by rw [List.length_append, List.length_singleton]; omega)
        · have hta' : takesB tk (bt w 1) = true := by cases h : takesB tk (bt w 1) with | true => rfl | false => exact absurd h hta
          rw [hta', if_pos rfl, hw1]
          by_cases hlast : i + 1 = l.length
          · have he1 : l.drop (i + 1) = [] := List.drop_eq_nil_of_le (by omega)
            rw [if_pos (by omega), he1, optL_last _ _ _ _ hda hop hta]
            rfl
          · have he1 : l.drop (i + 1) = l[i + 1] :: l.drop (i + 2) := List.drop_eq_getElem_cons (by omega)
            rw [if_neg (by omega), if_pos (by omega), if_pos (by omega), if_pos (by omega), rdO l (i + 1) (by omega), hw2, he1, optL_val _ _ _ _ _ _ hda hop hta]
            exact ih (l.length - (i + 2)) (i + 2) rfl (by omega) (by omega) k _ (by omega) (by rw [List.length_append, List.length_singleton]; omega)
/-- What the options are. -/
def optAns (tk : ByteArray) (l : List ByteArray) : List SO × Nat × Int × Int := optL tk 1 (l.drop 1) []
theorem Options_f (l : List ByteArray) (tk : ByteArray) (hl : l.length ≤ 10000) (ht : tk.size ≤ 1000) (k : Nat) (hk : 30000 < k) : sashref20_Options.f k l tk = some (optFin l (optAns tk l)) := by
  unfold sashref20_Options.f optAns
  cases l with
  | nil =>
    obtain ⟨k, rfl⟩ : ∃ m, k = m + 1 := ⟨k - 1, by omega⟩
    rw [List.drop_nil, optL_nil]
    rfl
  | cons x xs =>
    exact Options_l0 (x :: xs) tk hl ht (x :: xs).length _ 1 rfl (by omega) (by simp) k [] (by simp; simp at hl; omega) (by simp)

theorem Value_l0 (os : List SO) (hl : os.length ≤ 100000) (c : Int) : ∀ (n k : Nat), n ≤ os.length → n < k → sashref20_Value.l0 k os c ((n : Int) - 1) = some (valOf (os.take n) c, hasOf (os.take n) c) := by
  intro n
  induction n with
  | zero =>
    intro k hn hk
    obtain ⟨k, rfl⟩ : ∃ m, k = m + 1 := ⟨k - 1, by omega⟩
    simp only [sashref20_Value.l0]
    rw [if_neg (by omega)]; rfl
  | succ n ih =>
    intro k hn hk
    obtain ⟨k, rfl⟩ : ∃ m, k = m + 1 := ⟨k - 1, by omega⟩
    have hlt : n < os.length := by omega
    have e0 : ((n + 1 : Nat) : Int) - 1 = (n : Int) := by omega
    have et : os.take (n + 1) = os.take n ++ [os[n]] := by rw [List.take_add_one, List.getElem?_eq_getElem hlt]; rfl
    have er : rd_T105 os (n : Int) = os[n] := by simp [rd_T105, hlt]
    have ew : wrap64 ((n : Int) - 1) = (n : Int) - 1 := by unfold wrap64; omega
    rw [e0, et, valOf_add, hasOf_add]
    simp only [sashref20_Value.l0]
    rw [if_pos (by omega), if_pos (by omega), if_pos (by omega), er, ew]
    by_cases h : os[n].f0 = c
    · rw [if_pos h, if_pos h, decide_eq_true h, Bool.or_true]
    · rw [if_neg h, if_neg h, decide_eq_false h, Bool.or_false]
      exact ih k (by omega) (by omega)
theorem Value_f (os : List SO) (hl : os.length ≤ 100000) (c : Int) (k : Nat) (hk : os.length < k) : sashref20_Value.f k os c = some (valOf os c, hasOf os c) := by
  unfold sashref20_Value.f
  have ew : wrap64 ((os.length : Int) - 1) = (os.length : Int) - 1 := by unfold wrap64; omega
  have := Value_l0 os hl c os.length k (by omega) hk
  rw [List.take_length] at this
  rw [ew, this]
end Go.Proofs.YtelmmcjlhjahcaaDoor
