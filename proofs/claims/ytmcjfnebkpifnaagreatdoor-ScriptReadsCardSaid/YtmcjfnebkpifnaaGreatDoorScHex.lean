/-
  Joined texts: ScBuild, ScPure, ScHex.
-/
import Derived.Test.YtmcjfnebkpifnaaGreatDoorMem
import Derived.Lib.Builder
import Derived.Lib.AppendStr
import Derived.Shelf.Strings.Builder1
import Derived.Test.YtmcjfnebkpifnaaGreatDoorPScriptReadsx3
import Derived.Test.YtmcjfnebkpifnaaGreatDoorNumPureP
import Derived.Test.YtmcjfnebkpifnaaGreatDoorWqWalkS
/- Printed texts of this seat, cut to what is used. -/
namespace Go.Proofs.YtmcjfnebkpifnaaGreatDoor
open Go.RowKit Go.Proofs.YtmcjfnebkpifnaaGreatDoorW.PrintWords Go.Proofs.YtmcjfnebkpifnaaGreatDoorW.PrintLast Go.Proofs.YtmcjfnebkpifnaaGreatDoorW.PrintMore
set_option linter.unusedVariables false
set_option linter.unusedSimpArgs false
set_option maxRecDepth 100000

/-- A text's builder that holds these bytes. -/
def TextAt (B b : Nat) (p : Value) (l : List UInt8) (w : World) : Prop := Lib.BuilderAt 49 5 B b p (Lib.byteCells l) w
def TextIs (B b : Nat) (l : List UInt8) (w : World) : Prop := TextAt B b (.pointer none) l w ∨ TextAt B b (.pointer (some ⟨b, 0, none⟩)) l w

/-- Blocks that are no bytes, and not the text, stay. -/
def KeepT (b : Nat) (w w' : World) : Prop := ∀ (x : Nat) (cs : Array Value) (t : Nat), w.heap[x]? = some (.cells cs t (0, 0)) → x ≠ b → t ≠ 5 → w'.heap[x]? = some (.cells cs t (0, 0))
theorem KeepT.trans {b : Nat} {w w' w'' : World} (h : KeepT b w w') (k : KeepT b w' w'') : KeepT b w w'' := fun x cs t h1 h2 h3 => k x cs t (h x cs t h1 h2 h3) h2 h3
theorem KeepT.ofBelow {b : Nat} {w w' : World} (h : Below w.heap.size w w') : KeepT b w w' := fun x cs t h1 _ _ => (h.block x (blk_lt h1)).trans h1
theorem KeepT.set {b : Nat} {w w' : World} (h : KeepT b w w') (i : Nat) (v : Value) : KeepT b w (w'.setCell ⟨b, i, none⟩ v) := fun x cs t h1 h2 h3 => (Below.heap_setCell _ _ _ _ h2).trans (h x cs t h1 h2 h3)
theorem KeepT.own {b B : Nat} {w w1 w2 : World} {v : Value} {n : Nat} {xs : List Value} (h : KeepT b w w1) (hown : w1.ownsRow B 5 1 v n xs) (hg : w1.grownBy w2 v.ownBlock) : KeepT b w w2 := fun x cs t h1 h2 h3 => by
  have h4 := h x cs t h1 h2 h3
  exact (hg.block x (blk_lt h4) (fun e => Lib.ownBlock_ne hown h4 h3 e.symm)).trans h4

theorem sizeText : (Tryz.prog.info? 49).map (fun i => i.size) = some 2 := by kernel_rfl
set_option maxHeartbeats 1000000 in
theorem copy_used (b : Nat) (w : World) (h0 : w.cell? ⟨b, 0, none⟩ = some (.pointer (some ⟨b, 0, none⟩))) :
    Calls Tryz.prog 33 #[.pointer (some ⟨b, 0, none⟩)] w fun e w' => e = .returned (.tuple #[]) ∧ w' = w := by
  obtain ⟨j, hj, _⟩ := Option.map_eq_some_iff.1 sizeText
  go_enter Tryz.func33, Tryz.ntmps33
  go_wp2
  try rw [Lib.run_neq_ptr_same w _ Tryz.underlying46 hj]
  go_wp2
  go_end0
  exact ⟨rfl, rfl⟩

set_option maxHeartbeats 1000000 in
theorem copy_fresh (b : Nat) (w : World) (h0 : w.cell? ⟨b, 0, none⟩ = some (.pointer none)) (hsh : w.shape? b = some (49, 2)) (hfz : w.frozen? ⟨b, 0, none⟩ = false) :
    Calls Tryz.prog 33 #[.pointer (some ⟨b, 0, none⟩)] w fun e w' => e = .returned (.tuple #[]) ∧ w' = w.setCell ⟨b, 0, none⟩ (.pointer (some ⟨b, 0, none⟩)) := by
  obtain ⟨j, hj, hjs⟩ := Option.map_eq_some_iff.1 sizeText
  go_enter Tryz.func33, Tryz.ntmps33
  go_wp2
  rw [Lib.run_to_unsafe w ⟨b, 0, none⟩ Tryz.underlying46 Tryz.underlying87 hj (by rw [hjs]; decide) hsh (Nat.zero_lt_succ 1)]
  simp only [Result.andThen]
  rw [Oper.upon_value]
  go_wp2
  rw [run_callFunc_extern Tryz.func56 (by kernel_rfl) (by kernel_rfl) (by kernel_rfl) (e := Extern.AbiNoEscape.same) (by kernel_rfl)]
  rw [Lib.run_noEscape]
  simp only [Result.andThen]
  rw [Oper.upon_value]
  go_wp2
  rw [Lib.run_from_unsafe w ⟨b, 0, none⟩ Tryz.underlying87 Tryz.underlying46 hj hsh (by kernel_rfl)]
  simp only [Result.andThen]
  rw [Oper.upon_value]
  go_wp2
  go_end0
  exact ⟨rfl, rfl⟩
theorem copy_calls (B b : Nat) (l : List UInt8) (w : World) (h : TextIs B b l w) :
    Calls Tryz.prog 33 #[.pointer (some ⟨b, 0, none⟩)] w fun e w' => e = .returned (.tuple #[]) ∧ (TextAt B b (.pointer (some ⟨b, 0, none⟩)) l w' ∧ Below B w w' ∧ KeepT b w w') := by
  rcases h with h | h
  · refine (copy_fresh b w h.cell0 h.shape h.frozen0).mono ?_
    rintro e w' ⟨rfl, rfl⟩
    exact ⟨rfl, h.used _, (Below.refl B w).setCell (p := ⟨b, 0, none⟩) h.1 _, (KeepT.ofBelow (Below.refl _ _)).set 0 _⟩
  · refine (copy_used b w h.cell0).mono ?_
    rintro e w' ⟨rfl, rfl⟩
    exact ⟨rfl, h, Below.refl B _, KeepT.ofBelow (Below.refl _ _)⟩

theorem byteCells_str (l : List UInt8) (s : ByteArray) : Lib.byteCells (l ++ s.data.toList) = Lib.byteCells l ++ Lib.strCells s := by
  simp [Lib.byteCells, Lib.strCells]

set_option maxHeartbeats 2000000 in
theorem wstr_calls (B b : Nat) (l : List UInt8) (s : ByteArray) (w : World) (h : TextIs B b l w) (hlen : l.length + s.size ≤ 140737488355328) (hBw : B ≤ w.heap.size) :
    Calls Tryz.prog 17 #[.pointer (some ⟨b, 0, none⟩), .string s] w fun e w' => e = .returned (.tuple #[.int .i64 s.size, .nilIface]) ∧ (TextAt B b (.pointer (some ⟨b, 0, none⟩)) (l ++ s.data.toList) w' ∧ Below B w w' ∧ KeepT b w w') := by
  obtain ⟨i0, hi, hz⟩ := Option.map_eq_some_iff.1 (show (Tryz.prog.info? 5).map (fun i => (i.zero, i.size, i.bytes)) = some (some (.int .u8 0), 1, 1) by kernel_rfl)
  obtain ⟨hz0, hz1, hz2⟩ : i0.zero = some (.int .u8 0) ∧ i0.size = 1 ∧ i0.bytes = 1 := by simpa using hz
  have hbl : (Lib.byteCells l).length = l.length := Lib.byteCells_length l
  have HCC := Aside0.mk (copy_calls B b l w h)
  go_enter Tryz.func17, Tryz.ntmps17
  go_wp2_with (go_at_call 33; refine HCC.out.mono ?_)
  rintro e w1 ⟨rfl, h1, hb1, hk1⟩
  obtain ⟨hB, v, hbk, hown, hne⟩ := h1
  have c0 : w1.cell? ⟨b, 0, none⟩ = some (.pointer (some ⟨b, 0, none⟩)) := by rw [Lib.cell_of_heap hbk]; rfl
  have c1 : w1.cell? ⟨b, 1, none⟩ = some v := by rw [Lib.cell_of_heap hbk]; rfl
  go_wp2_with (at_builtin; refine Lib.wpList_append_own_string _ rfl _ _ 47 9 rfl B 5 i0 Tryz.underlying47 Tryz.underlying9 hi hz0 hz1 hz2 _ _ _ rfl hown s rfl ?c3 ?c4 ?c5 ?_)
  case c3 => unfold maxLen; omega
  case c4 => omega
  case c5 => have := hb1.size; omega
  intro v' w2 hown' hgrow _
  have hlt : b < w1.heap.size := by
    rcases Nat.lt_or_ge b w1.heap.size with h' | h'
    · exact h'
    · simp [Array.getElem?_eq_none h'] at hbk
  have hb2 : w2.heap[b]? = some (.cells #[.pointer (some ⟨b, 0, none⟩), v] 49 (0, 0)) := by
    rw [hgrow.block b hlt (fun e => hne e.symm)]
    exact hbk
  have d0 : w2.cell? ⟨b, 0, none⟩ = some (.pointer (some ⟨b, 0, none⟩)) := by rw [Lib.cell_of_heap hb2]; rfl
  have d1 : w2.cell? ⟨b, 1, none⟩ = some v := by rw [Lib.cell_of_heap hb2]; rfl
  have f1 : w2.frozen? ⟨b, 1, none⟩ = false := Lib.frozen_of_heap hb2 1
  obtain ⟨ao, n', cap, rfl⟩ : ∃ ao n' cap, v' = .slice ao n' cap := by
    rcases hown'.2 with ⟨hv, _⟩ | ⟨g, cap, cur, hv, _⟩
    · exact ⟨_, _, _, hv⟩
    · exact ⟨_, _, _, hv⟩
  go_wp2
  go_ret2
  refine ⟨rfl, ?_, ?_, ?_⟩
  · unfold TextAt
    rw [byteCells_str]
    exact Lib.BuilderAt.put (T := 49) (e := 5) hB hb2 (bs' := Lib.byteCells l ++ Lib.strCells s) (by simpa [Lib.strCells_length, hbl] using hown') (by decide)
  · exact (hb1.grown hgrow (by have := hb1.size; omega) (fun k hk => (hown.lt k hk).1)).setCell (p := ⟨b, 1, none⟩) hB _
  · exact (hk1.own hown hgrow).set 1 _

set_option maxHeartbeats 2000000 in
theorem bstr_calls (B b : Nat) (l : List UInt8) (w : World) (h : TextIs B b l w) (h0 : l ≠ []) :
    Calls Tryz.prog 20 #[.pointer (some ⟨b, 0, none⟩)] w fun e w' => e = .returned (.string ⟨l.toArray⟩) ∧ Below B w w' := by
  obtain ⟨p, hB, v, hbk, hown, hne⟩ : ∃ p, TextAt B b p l w := by
    rcases h with h | h
    · exact ⟨_, h⟩
    · exact ⟨_, h⟩
  have hl0 : l.length ≠ 0 := by simpa using h0
  rw [Lib.byteCells_length] at hown
  obtain ⟨g, cap, cur, rfl, hbg, hg, hnc, hcm, hcs, htake⟩ : ∃ g cap cur, v = .slice (some ⟨g, 0, none⟩) l.length cap ∧ B ≤ g ∧ w.heap[g]? = some (.cells cur 5 (0, 0)) ∧ l.length ≤ cap ∧ cap ≤ maxLen ∧ cur.size = cap * 1 ∧ cur.toList.take (l.length * 1) = Lib.byteCells l := by
    rcases hown.2 with ⟨_, hz⟩ | ⟨g, cap, cur, hv, r⟩
    · exact absurd hz hl0
    · exact ⟨g, cap, cur, hv, r⟩
  have c1 : w.drew.cell? ⟨b, 1, none⟩ = some (.slice (some ⟨g, 0, none⟩) l.length cap) := by
    have : w.drew.heap[b]? = some (.cells #[p, .slice (some ⟨g, 0, none⟩) l.length cap] 49 (0, 0)) := hbk
    rw [Lib.cell_of_heap this]; rfl
  have hSD : (Builtin.unsafeSliceData_ #[47] 75 #[.slice (some ⟨g, 0, none⟩) l.length cap]).run Tryz.prog w.drew = .ok (.pointer (some ⟨g, 0, none⟩)) w.drew :=
    Lib.run_unsafeSliceData_row _ _ _ _ _ _ (by omega)
  have hUS : (Builtin.unsafeString_ #[75, 3] 9 #[.pointer (some ⟨g, 0, none⟩), .int .i64 l.length]).run Tryz.prog w.drew = .ok (.string ⟨l.toArray⟩) (w.drew.freeze ⟨g, 0, none⟩ l.length) := by
    refine Lib.run_unsafeString_row w.drew 75 3 9 5 Tryz.underlying75 (by kernel_rfl) g cur.size (by have hg' : w.drew.heap[g]? = some (.cells cur 5 (0, 0)) := hg; simp [World.shape?, hg']) l h0 (by omega) (by unfold maxLen at hcm; omega) ?_
    intro j x hx
    have := hown.cells (g := g) rfl j (.int .u8 x.toNat) (by simp [Lib.byteCells, hx])
    exact this
  have mixed : Tryz.prog.follows Departure.mixedOrders = true := by kernel_rfl
  go_enter Tryz.func20, Tryz.ntmps20
  go_wp2
  go_region_o
  all_goals (go_wp2; go_ret; exact ⟨rfl, Lib.below_freeze (Below.drew (Below.refl B w)) (p := ⟨g, 0, none⟩) hbg _⟩)
end Go.Proofs.YtmcjfnebkpifnaaGreatDoor

/- Printed texts of this seat, cut to what is used. -/
namespace Go.Proofs.YtmcjfnebkpifnaaGreatDoor
open Go.RowKit Go.Proofs.YtmcjfnebkpifnaaGreatDoorW.PrintWords Go.Proofs.YtmcjfnebkpifnaaGreatDoorW.PrintLast Go.Proofs.YtmcjfnebkpifnaaGreatDoorW.PrintMore Go.Proofs.YtmcjfnebkpifnaaGreatDoor.PScriptReads
set_option linter.unusedVariables false
set_option linter.unusedSimpArgs false

abbrev SH := S43
theorem bs_ext {a b : ByteArray} (h : a.data.toList = b.data.toList) : a = b := by
  apply ByteArray.ext
  exact Array.ext' h
def bsOf (l : List UInt8) : ByteArray := ⟨l.toArray⟩
theorem bs_list (l : List UInt8) : (bsOf l).data.toList = l := rfl
theorem bs_size (l : List UInt8) : (bsOf l).size = l.length := by simp [bsOf, ByteArray.size]
theorem bs_app (a b : List UInt8) : bsOf a ++ bsOf b = bsOf (a ++ b) := by
  apply bs_ext
  rw [ByteArray.data_append, Array.toList_append, bs_list, bs_list, bs_list]
theorem bs_of (s : ByteArray) : bsOf s.data.toList = s := bs_ext rfl
def digL (n : Int) : List UInt8 := (digS n).data.toList
theorem bs_dig (n : Int) : digS n = bsOf (digL n) := (bs_of _).symm
theorem digL_len (n : Int) : (digL n).length ≤ 21 := by
  have := digS_size n
  unfold digL
  simpa using this
/-- Two digits of base 16. -/
def hex2 (b : UInt8) : List UInt8 := (hex4 (b.toNat : Int)).data.toList.drop 2
theorem hex2_len (b : UInt8) : (hex2 b).length = 2 := rfl
def hexL (l : List UInt8) : List UInt8 := if l = [] then [110, 111, 110, 101] else l.flatMap hex2
theorem hexF_len (l : List UInt8) : (l.flatMap hex2).length = 2 * l.length := by
  induction l with
  | nil => rfl
  | cons b l ih => rw [List.flatMap_cons, List.length_append, ih, hex2_len, List.length_cons]; omega
theorem hexF_take (l : List UInt8) (j : Nat) (hj : j < l.length) : (l.take (j + 1)).flatMap hex2 = (l.take j).flatMap hex2 ++ hex2 l[j] := by
  rw [List.take_succ_eq_append_getElem hj, List.flatMap_append]; simp
def kindL : List (List UInt8) := [[97, 116, 116, 97, 99, 104], [100, 101, 116, 97, 99, 104], [100, 97, 116, 97], [108, 105, 110, 101], [105, 110, 112, 117, 116], [101, 120, 105, 116]]
def kindW (k : Int) : List UInt8 := kindL.getD (k - 1).toNat []
def lineB (h : SH) : List UInt8 :=
  kindW h.f0 ++ (if h.f0 = 1 then [] else [32] ++ digL h.f1) ++
    (if h.f0 = 3 then [32] ++ hexL h.f2.data.toList else if h.f0 = 4 ∨ h.f0 = 5 then [32] ++ quotedL h.f2.data.toList else [])
theorem kindW_len (k : Int) : (kindW k).length ≤ 6 := by
  unfold kindW
  rw [List.getD_eq_getElem?_getD]
  cases h : kindL[(k - 1).toNat]? with
  | none => simp
  | some x =>
    have hm := List.mem_of_getElem? h
    exact (show ∀ x ∈ kindL, x.length ≤ 6 by decide) x hm
theorem hexL_len (l : List UInt8) : (hexL l).length ≤ 2 * l.length + 4 := by
  unfold hexL
  split
  · simp
  · rw [hexF_len]; omega
theorem lineB_len (h : SH) : (lineB h).length ≤ 2 * h.f2.size + 33 := by
  have h1 := kindW_len h.f0
  have h2 := digL_len h.f1
  have h3 := hexL_len h.f2.data.toList
  have h4 := quotedL_len h.f2.data.toList
  have e : h.f2.data.toList.length = h.f2.size := by simp
  unfold lineB
  simp only [List.length_append]
  have a : (if h.f0 = 1 then ([] : List UInt8) else [32] ++ digL h.f1).length ≤ 22 := by split <;> simp <;> omega
  have b : (if h.f0 = 3 then [32] ++ hexL h.f2.data.toList else if h.f0 = 4 ∨ h.f0 = 5 then [32] ++ quotedL h.f2.data.toList else []).length ≤ 2 * h.f2.size + 5 := by
    split
    · simp only [List.length_append, List.length_singleton]; omega
    · split
      · simp only [List.length_append, List.length_singleton]; omega
      · simp
  omega
def mayB (h : SH) : Bool := (script_may.f h.f0 h.f1 h.f2).getD false
theorem may_f (h : SH) : script_may.f h.f0 h.f1 h.f2 = some (mayB h) := by
  have : ∃ r, script_may.f h.f0 h.f1 h.f2 = some r := by
    unfold script_may.f
    repeat' first | exact ⟨_, rfl⟩ | split
  obtain ⟨r, hr⟩ := this
  unfold mayB
  rw [hr]; rfl
theorem may_kind {h : SH} (hm : mayB h = true) : h.f0 = 1 ∨ h.f0 = 2 ∨ h.f0 = 3 ∨ h.f0 = 4 ∨ h.f0 = 5 ∨ h.f0 = 6 := by
  by_cases a : h.f0 = 1 ∨ h.f0 = 2 ∨ h.f0 = 3 ∨ h.f0 = 4 ∨ h.f0 = 5 ∨ h.f0 = 6
  · exact a
  · exfalso
    unfold mayB script_may.f at hm
    rw [if_neg (by omega), if_neg (by omega), if_neg (by omega), if_neg (by omega), if_neg (by omega), if_neg (by omega)] at hm
    cases hm
/-- The lines of happenings, each with its end. -/
def textL (l : List SH) : List UInt8 := l.flatMap (fun h => lineB h ++ [10])
theorem textL_app (a b : List SH) : textL (a ++ b) = textL a ++ textL b := by unfold textL; rw [List.flatMap_append]
theorem textL_take (l : List SH) (j : Nat) (hj : j < l.length) : textL (l.take (j + 1)) = textL (l.take j) ++ (lineB (l.getD j z43) ++ [10]) := by
  rw [List.take_succ_eq_append_getElem hj, textL_app, List.getD_eq_getElem?_getD, List.getElem?_eq_getElem hj]
  simp [textL]
end Go.Proofs.YtmcjfnebkpifnaaGreatDoor

/-
  script.hex: what it returns; how much a builder holds.
-/
namespace Go.Proofs.YtmcjfnebkpifnaaGreatDoor
open Go.RowKit Go.Proofs.YtmcjfnebkpifnaaGreatDoorW.PrintWords Go.Proofs.YtmcjfnebkpifnaaGreatDoorW.PrintLast Go.Proofs.YtmcjfnebkpifnaaGreatDoorW.PrintMore Go.Proofs.YtmcjfnebkpifnaaGreatDoor.PScriptReads
set_option linter.unusedVariables false
set_option linter.unusedSimpArgs false
set_option maxRecDepth 100000

theorem TextIs.below {B b : Nat} {l : List UInt8} {w w' : World} (h : TextIs B b l w) (hb : Below w.heap.size w w') : TextIs B b l w' := by
  have k : ∀ p, TextAt B b p l w → TextAt B b p l w' := fun p ⟨h1, v, h2, h3, h4⟩ => ⟨h1, v, (hb.block b (blk_lt h2)).trans h2, h3.kept (row := none) ⟨hb.os, hb.tape, hb.output, hb.size, fun i hi _ => hb.block i hi⟩ (Classical.em _), h4⟩
  exact h.imp (k _) (k _)
theorem TextIs.new (w : World) : TextIs w.heap.size w.heap.size [] (w.alloc (.cells #[.pointer none, .slice none 0 0] 49)) :=
  Or.inl ⟨Nat.le_refl _, .slice none 0 0, heap_alloc_new w _, own_nil _ _ _ _, by simp [Value.ownBlock]⟩
set_option maxHeartbeats 1000000 in
theorem blen_calls (B b : Nat) (l : List UInt8) (w : World) (h : TextIs B b l w) :
    Calls Tryz.prog 19 #[.pointer (some ⟨b, 0, none⟩)] w fun e w' => e = .returned (.int .i64 l.length) ∧ w' = w := by
  obtain ⟨p, hB, v, hbk, hown, hne⟩ : ∃ p, TextAt B b p l w := by
    rcases h with h | h
    · exact ⟨_, h⟩
    · exact ⟨_, h⟩
  rw [Lib.byteCells_length] at hown
  obtain ⟨ao, cap, rfl⟩ : ∃ ao cap, v = .slice ao l.length cap := by
    rcases hown.2 with ⟨hv, h0⟩ | ⟨g, cap, cur, hv, _⟩
    · exact ⟨none, 0, by rw [hv, h0]⟩
    · exact ⟨_, _, hv⟩
  have c1 : w.cell? ⟨b, 1, none⟩ = some (.slice ao l.length cap) := by rw [Lib.cell_of_heap hbk]; rfl
  go_enter Tryz.func19, Tryz.ntmps19
  go_wp2
  go_ret
  exact ⟨rfl, rfl⟩
theorem hex_drop (b : UInt8) : (hex4 (b.toNat : Int)).extract 2 4 = bsOf (hex2 b) := by
  apply bs_ext
  rw [bs_list]
  rfl
set_option maxHeartbeats 4000000 in
theorem shex_calls (s : ByteArray) (w : World) (hs : s.size ≤ 50000) (hT : NumT w) :
    Calls Tryz.prog 36 #[.string s] w fun e w' => e = .returned (.string (bsOf (hexL s.data.toList))) ∧ Below w.heap.size w w' := by
  have hln : s.data.toList.length = s.size := by simp
  by_cases h : s.data.toList = []
  · have e0 : s.toList = [] := by rw [ByteArray.toList_eq]; exact h
    have e1 : hexL s.data.toList = [110, 111, 110, 101] := by unfold hexL; rw [if_pos h]
    rw [e1]
    have e2 : (s.toList == ([] : List UInt8)) = true := by rw [e0]; rfl
    clear hT e1 h e0 hln
    go_enter Tryz.func36, Tryz.ntmps36
    go_wp2
    go_ret
    exact ⟨rfl, Below.refl _ _⟩
  · have e1 : hexL s.data.toList = s.data.toList.flatMap hex2 := by unfold hexL; rw [if_neg h]
    rw [e1]
    have e2 : (s.toList == ([] : List UInt8)) = false := by
      rw [ByteArray.toList_eq]
      cases hq : s.data.toList with
      | nil => exact absurd hq h
      | cons x l => rfl
    have HNE : Aside0 (s.data.toList.flatMap hex2 ≠ []) := ⟨fun hq => by
      have := congrArg List.length hq
      rw [hexF_len] at this
      cases hq2 : s.data.toList with
      | nil => exact h hq2
      | cons x l => rw [hq2] at this; simp at this⟩
    have HT := Aside0.mk hT
    have HLN := Aside0.mk hln
    have HTX := Aside0.mk (TextIs.new w)
    have HW0 : Aside0 (Below w.heap.size w (w.alloc (.cells #[.pointer none, .slice none 0 0] 49))) := ⟨below_alloc (Below.refl _ _) _⟩
    clear hT e1 h hln
    go_enter Tryz.func36, Tryz.ntmps36
    go_wp2
    go_loopw [9] (fun i wr => ∃ j : Nat, j ≤ s.size ∧ i = .int .i64 j ∧ Aside0 (TextIs w.heap.size w.heap.size ((s.data.toList.take j).flatMap hex2) wr ∧ Below w.heap.size w wr)) (fun i _ => s.size - (intOf i).toNat)
    case atStart => exact ⟨0, by omega, rfl, ⟨HTX.out, HW0.out⟩⟩
    case round =>
      obtain ⟨j, hj, rfl, HR⟩ := hrel
      have hsr := HR.out.2.size
      by_cases hlt : j < s.size
      · have hjl : j < s.data.toList.length := by have := HLN.out; omega
        have HTK := Aside0.mk (hexF_take s.data.toList j hjl)
        obtain ⟨b, hb⟩ : ∃ b, b = s.data.toList[j] := ⟨_, rfl⟩
        rw [← hb] at HTK
        have hb2 : s[j] = b := by rw [hb]; rfl
        have hbr : b.toNat < 256 := b.toNat_lt
        have HHX := Aside0.mk (hex_calls (b.toNat : Int) (by omega) (by omega) wr (HT.out.below HR.out.2))
        have HTL : Aside0 (((s.data.toList.take j).flatMap hex2).length ≤ 100000) := ⟨by rw [hexF_len, List.length_take]; have := HLN.out; omega⟩
        clear hb
        go_wp2_with fail
        with_reducible refine HHX.out.mono ?_
        rintro e w2 ⟨rfl, hbx⟩
        have hz4 : (hex4 (b.toNat : Int)).size = 4 := rfl
        have hex := hex_drop b
        have HWS := Aside0.mk (wstr_calls w.heap.size w.heap.size ((s.data.toList.take j).flatMap hex2) (bsOf (hex2 b)) w2 (HR.out.1.below hbx) (by rw [bs_size, hex2_len]; have := HTL.out; omega) (Nat.le_trans hsr hbx.size))
        have HB2 := Aside0.mk (HR.out.2.trans (hbx.mono hsr))
        generalize hex4 (b.toNat : Int) = x4 at *
        clear hbx HHX
        go_wp2_with fail
        with_reducible refine HWS.out.mono ?_
        rintro e w3 ⟨rfl, h3, hb3, _⟩
        rw [bs_list, ← HTK.out] at h3
        have HX3 : Aside0 (TextIs w.heap.size w.heap.size ((s.data.toList.take (j + 1)).flatMap hex2) w3 ∧ Below w.heap.size w w3) := ⟨Or.inr h3, HB2.out.trans hb3⟩
        clear h3 hb3
        go_wp2
        go_roundw
        case rel => exact ⟨j + 1, by omega, by go_num, HX3⟩
        case measure => simp [intOf]; omega
      · have hjn : j = s.size := by omega
        have hR := HR.out
        rw [List.take_of_length_le (by have := HLN.out; omega)] at hR
        have HST := Aside0.mk (bstr_calls w.heap.size w.heap.size (s.data.toList.flatMap hex2) wr hR.1 HNE.out)
        have HBR := Aside0.mk hR.2
        clear hR
        go_wp2_with fail
        with_reducible refine HST.out.mono ?_
        rintro e w3 ⟨rfl, hb⟩
        have HB3 := Aside0.mk (HBR.out.trans hb)
        clear hb
        go_wp2
        go_ret
        exact ⟨rfl, HB3.out⟩
end Go.Proofs.YtmcjfnebkpifnaaGreatDoor
