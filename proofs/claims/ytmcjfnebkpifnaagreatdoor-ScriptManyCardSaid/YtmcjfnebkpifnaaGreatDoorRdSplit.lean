/- Printed texts of this seat, cut to what is used. -/
import Derived.Test.YtmcjfnebkpifnaaGreatDoorRdAll
import Derived.Test.YtmcjfnebkpifnaaGreatDoorShelf
import Derived.Test.YtmcjfnebkpifnaaGreatDoorScTop
import Derived.Test.YtmcjfnebkpifnaaGreatDoorPScriptReadsx4
import Derived.Lib.Split
import Derived.Lib.IndexBytes
import Derived.Lib.IndexLaws
namespace Go.Proofs.YtmcjfnebkpifnaaGreatDoor
open Go.RowKit Go.Proofs.YtmcjfnebkpifnaaGreatDoorW.PrintWords Go.Proofs.YtmcjfnebkpifnaaGreatDoorW.PrintLast Go.Proofs.YtmcjfnebkpifnaaGreatDoorW.PrintMore Go.Proofs.YtmcjfnebkpifnaaGreatDoor.PScriptReads
set_option linter.unusedVariables false
set_option linter.unusedSimpArgs false

theorem idx_space (s : ByteArray) : Lib.indexB s ⟨#[32]⟩ = Lib.indexByte s.data.toList 32 := by
  have h := Lib.one s ⟨#[32]⟩ rfl
  rw [h]
  rfl
theorem indexByte_word (l : List UInt8) : Lib.indexByte l 32 = if restOf l = [] then -1 else ((wordOf l).length : Int) := by
  induction l with
  | nil => rfl
  | cons b l ih =>
    unfold Lib.indexByte
    by_cases h : b = 32
    · subst h
      rfl
    · have e1 : restOf (b :: l) = restOf l := by
        unfold restOf
        rw [List.dropWhile_cons, if_pos (by simpa using h)]
      have e2 : wordOf (b :: l) = b :: wordOf l := by
        unfold wordOf
        rw [List.takeWhile_cons, if_pos (by simpa using h)]
      rw [if_neg (by simpa using h), ih, e1, e2]
      by_cases hr : restOf l = []
      · rw [if_pos hr, if_pos hr]; rfl
      · rw [if_neg hr, if_neg hr, if_neg (by simp), List.length_cons, Int.natCast_add]
        rfl
theorem word_rest (l : List UInt8) : wordOf l ++ restOf l = l := List.takeWhile_append_dropWhile
def splitP (l : List UInt8) : List (List UInt8) := wordOf l :: (match restOf l with
  | [] => []
  | _ :: r => wordOf r :: (match restOf r with
    | [] => []
    | _ :: t => [t]))
theorem split_none (s : ByteArray) (k : Nat) (h : restOf s.data.toList = []) : Lib.splitB ⟨#[32]⟩ 0 k s = [bsOf (wordOf s.data.toList)] := by
  rw [Lib.splitB_miss _ _ _ _ (by rw [idx_space, indexByte_word, if_pos h])]
  have hw := word_rest s.data.toList
  rw [h, List.append_nil] at hw
  rw [hw, bs_of]
theorem split_some (s : ByteArray) (k : Nat) (c : UInt8) (r : List UInt8) (h : restOf s.data.toList = c :: r) : Lib.splitB ⟨#[32]⟩ 0 (k + 1) s = bsOf (wordOf s.data.toList) :: Lib.splitB ⟨#[32]⟩ 0 k (bsOf r) := by
  have hw := word_rest s.data.toList
  rw [h] at hw
  have hl : s.size = s.data.toList.length := by simp
  rw [Lib.splitB_hit _ _ _ _ (wordOf s.data.toList).length (by rw [idx_space, indexByte_word, if_neg (by rw [h]; simp)])]
  generalize wordOf s.data.toList = Wd at *
  have e1 : s.extract 0 ((Wd).length + 0) = bsOf (Wd) := by
    apply bs_ext
    rw [bs_list, ByteArray.data_extract, Array.toList_extract, List.extract_eq_take_drop]
    conv => lhs; rw [← hw]
    simp
  have e2 : s.extract ((Wd).length + (⟨#[32]⟩ : ByteArray).size) s.size = bsOf r := by
    apply bs_ext
    rw [bs_list, ByteArray.data_extract, Array.toList_extract, List.extract_eq_take_drop, hl]
    have e3 : s.data.toList.drop ((Wd).length + (⟨#[32]⟩ : ByteArray).size) = r := by
      conv => lhs; rw [← hw]
      show (Wd ++ c :: r).drop ((Wd).length + 1) = r
      rw [List.drop_append]
      simp
    rw [e3]
    have e4 : s.data.toList.length = (Wd).length + (r.length + 1) := by
      conv => lhs; rw [← hw]
      simp
    exact List.take_of_length_le (by rw [e4]; show r.length ≤ _ + (r.length + 1) - (_ + 1); omega)
  rw [e1, e2]
theorem splitP_eq (s : ByteArray) : Lib.splitB ⟨#[32]⟩ 0 (min 3 (s.size + 1) - 1) s = (splitP s.data.toList).map bsOf := by
  have hl : s.data.toList.length = s.size := by simp
  have hw := word_rest s.data.toList
  unfold splitP
  cases h : restOf s.data.toList with
  | nil => rw [split_none s _ h]; rfl
  | cons c r =>
    rw [h] at hw
    have h1 : s.size = (wordOf s.data.toList).length + (r.length + 1) := by
      rw [← hl]
      conv => lhs; rw [← hw]
      simp
    obtain ⟨k, hk⟩ : ∃ k, min 3 (s.size + 1) - 1 = k + 1 := ⟨min 3 (s.size + 1) - 2, by omega⟩
    rw [hk, split_some s k c r h]
    simp only
    cases h2 : restOf r with
    | nil =>
      rw [split_none (bsOf r) _ (by rw [bs_list]; exact h2), bs_list]
      rfl
    | cons d t =>
      have hr := word_rest r
      rw [h2] at hr
      have h3 : r.length = (wordOf r).length + (t.length + 1) := by
        conv => lhs; rw [← hr]
        simp
      have hk2 : k = 0 + 1 := by omega
      rw [hk2, split_some (bsOf r) 0 d t (by rw [bs_list]; exact h2), bs_list]
      rfl
/-- The library's variable holds a number. -/
structure MaxT (w : World) : Prop where
  ml : ∃ m, w.cell? ⟨1, 0, none⟩ = some (.int .i64 m)
theorem MaxT.below {w w' : World} (h : MaxT w) (hb : Below w.heap.size w w') : MaxT w' := by
  obtain ⟨m, hm⟩ := h.ml
  exact ⟨m, cell_below hm hb⟩
theorem splitn_calls (s : ByteArray) (w : World) (hs : s.size ≤ 1000000) (hM : MaxT w) :
    Calls Tryz.prog 44 #[.string s, .string ⟨#[32]⟩, .int .i64 3] w fun e w' => ∃ c, e = .returned (.slice (some ⟨w.heap.size, 0, none⟩) (splitP s.data.toList).length c) ∧ (splitP s.data.toList).length ≤ c ∧
      (∀ i, i < (splitP s.data.toList).length → w'.cell? ⟨w.heap.size, i, none⟩ = some (.string (bsOf ((splitP s.data.toList).getD i [])))) ∧ Below w.heap.size w w' := by
  obtain ⟨m, hm⟩ := hM.ml
  refine (Tryz.strings_SplitN s ⟨#[32]⟩ 3 m w (by omega) hm (by decide) (by decide) (by decide)).mono ?_
  rintro e w' ⟨rfl, rfl⟩
  rw [splitP_eq]
  refine ⟨_, by rw [List.length_map], ?_, fun i hi => ?_, below_alloc (Below.refl _ _) _⟩
  · have hl : s.data.toList.length = s.size := by simp
    have hw := word_rest s.data.toList
    unfold splitP
    cases h : restOf s.data.toList with
    | nil => simp; omega
    | cons c r =>
      rw [h] at hw
      have h1 : s.size = (wordOf s.data.toList).length + (r.length + 1) := by
        rw [← hl]
        conv => lhs; rw [← hw]
        simp
      simp only
      cases h2 : restOf r with
      | nil => simp; omega
      | cons d t =>
        have hr := word_rest r
        rw [h2] at hr
        have h3 : r.length = (wordOf r).length + (t.length + 1) := by
          conv => lhs; rw [← hr]
          simp
        simp; omega
  · rw [Lib.cell_of_heap (heap_alloc_new w _)]
    have hi2 : i < ((splitP s.data.toList).map bsOf).length := by rw [List.length_map]; exact hi
    simp only [Lib.cellsOf]
    rw [List.getElem?_toArray, List.getElem?_append_left (by rw [List.length_map]; exact hi2), List.getElem?_map, List.getElem?_map, List.getElem?_eq_getElem hi, List.getD_eq_getElem?_getD, List.getElem?_eq_getElem hi]
    rfl

def kindS : List ByteArray := kindL.map bsOf
def kI (p : List UInt8) : Int := if kidx p < 6 then (kidx p : Int) else -1
theorem idx_loop (xs : List (List UInt8)) (p : List UInt8) (hx : xs.length ≤ 1000) : ∀ (d j : Nat), j + d = xs.length → slices_Index_string_string.l0 (d + 1) (xs.map bsOf) (bsOf p) ((xs.map bsOf).length : Int) (j : Int) = some (if (xs.drop j).findIdx (fun x => x == p) < d then ((j + (xs.drop j).findIdx (fun x => x == p) : Nat) : Int) else -1) := by
  intro d
  induction d with
  | zero =>
    intro j hj
    rw [slices_Index_string_string.l0, if_neg (by rw [List.length_map]; omega), if_neg (by omega)]
  | succ d ih =>
    intro j hj
    have hjl : j < xs.length := by omega
    have e : (rdOf ByteArray.empty (xs.map bsOf) (j : Int)).toList = xs[j] := by
      unfold rdOf
      rw [show ((j : Int)).toNat = j by omega, List.getD_eq_getElem?_getD, List.getElem?_map, List.getElem?_eq_getElem hjl]
      show (bsOf xs[j]).toList = _
      rw [ByteArray.toList_eq, bs_list]
    have hw : wrap64 ((j : Int) + 1) = ((j + 1 : Nat) : Int) := by unfold wrap64; omega
    rw [slices_Index_string_string.l0, if_pos (by rw [List.length_map]; omega), if_pos (by omega), if_pos (by rw [List.length_map]; omega), e, List.drop_eq_getElem_cons hjl, List.findIdx_cons, ByteArray.toList_eq, bs_list, hw, ih (j + 1) (by omega)]
    by_cases h : p = xs[j]
    · rw [if_pos h, show (xs[j] == p) = true from beq_iff_eq.2 h.symm]
      simp
    · rw [if_neg h, show (xs[j] == p) = false from beq_eq_false_iff_ne.2 (fun hh => h hh.symm)]
      simp only [cond_false]
      by_cases h2 : (xs.drop (j + 1)).findIdx (fun x => x == p) < d
      · rw [if_pos h2, if_pos (by omega)]
        congr 2
        omega
      · rw [if_neg h2, if_neg (by omega)]
theorem idx_f (p : List UInt8) : slices_Index_string_string.f 7 kindS (bsOf p) = some (kI p) := by
  have h := idx_loop kindL p (by decide) 6 0 rfl
  unfold slices_Index_string_string.f
  show slices_Index_string_string.l0 (6 + 1) (kindL.map bsOf) (bsOf p) ((kindL.map bsOf).length : Int) ((0 : Nat) : Int) = _
  rw [h]
  unfold kI kidx
  rw [List.drop_zero, Nat.zero_add]
theorem sidx_calls (W : World) (A : Option Addr) (c : Nat) (p : List UInt8) (hr : Kd.string.C W A 6 kindS) (hc : 6 ≤ c) :
    Calls Tryz.prog 45 #[.slice A 6 c, .string (bsOf p)] W fun e w' => e = .returned (.int .i64 (kI p)) ∧ Below W.heap.size W w' :=
  (slices_Index_string_string.calls 7 A c kindS (bsOf p) (kI p) W hr hc (idx_f p)).mono fun e w' ⟨q1, q2⟩ => ⟨q1, q2.below⟩
theorem kinds_calls (W : World) : Calls Tryz.prog 34 #[] W fun e w' => ∃ A c, e = .returned (.slice (some A) 6 c) ∧ 6 ≤ c ∧ Kd.string.C w' (some A) 6 kindS ∧ Below W.heap.size W w' :=
  (script_kinds.calls _ W rfl).mono fun e w' (h : ∃ v0_ : Value, e = .returned v0_ ∧ _ ∧ _) => by
    obtain ⟨v, h1, h2, h3⟩ := h
    obtain ⟨A2, n2, c2, rfl⟩ := sl_of_R h2
    obtain ⟨q1, q2, q3⟩ := Kd.R_reads' h2
    obtain rfl : n2 = 6 := q1
    obtain ⟨ad, hA, _⟩ := str_cell q3 0 (by decide)
    subst hA
    exact ⟨ad, c2, h1, q2, q3, h3⟩
end Go.Proofs.YtmcjfnebkpifnaaGreatDoor
