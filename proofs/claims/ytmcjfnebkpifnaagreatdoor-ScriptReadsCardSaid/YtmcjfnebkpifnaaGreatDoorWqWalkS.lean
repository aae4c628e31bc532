/-
  Joined texts: WqPureS, WqWalkS.
-/
import Derived.Test.YtmcjfnebkpifnaaGreatDoorMem
import Derived.Lib.Join
import Derived.Lib.SlTrimSet
import Derived.Test.YtmcjfnebkpifnaaGreatDoorNumPureP
import Derived.Lib.AtoiErrMem
import Derived.Test.YtmcjfnebkpifnaaGreatDoorShelf
/-
  A word in quotes: what it is. Pure.
-/
namespace Go.Proofs.YtmcjfnebkpifnaaGreatDoor
open Go.RowKit Go.Proofs.YtmcjfnebkpifnaaGreatDoorW.PrintWords Go.Proofs.YtmcjfnebkpifnaaGreatDoorW.PrintLast Go.Proofs.YtmcjfnebkpifnaaGreatDoorW.PrintMore
set_option linter.unusedVariables false
set_option linter.unusedSimpArgs false

def escB (b : UInt8) : List UInt8 := if b.toNat = 34 ∨ b.toNat = 92 then [92, b] else [b]
def plainSet : ByteArray := ⟨#[97, 98, 99, 100, 101, 102, 103, 104, 105, 106, 107, 108, 109, 110, 111, 112, 113, 114, 115, 116, 117, 118, 119, 120, 121, 122, 65, 66, 67, 68, 69, 70, 71, 72, 73, 74, 75, 76, 77, 78, 79, 80, 81, 82, 83, 84, 85, 86, 87, 88, 89, 90, 48, 49, 50, 51, 52, 53, 54, 55, 56, 57, 45, 95, 46, 58, 47, 37, 64, 36, 43, 44, 61]⟩
def bareL (l : List UInt8) : Bool := !l.isEmpty && l.all (fun b => plainSet.data.toList.contains b)
def quotedL (l : List UInt8) : List UInt8 := if bareL l = true then l else 34 :: (l.flatMap escB ++ [34])
def lineL (xs : List (List UInt8)) : List UInt8 := Lib.join (xs.map quotedL) [32]
theorem dropWhile_nil (p : UInt8 → Bool) : ∀ l : List UInt8, (l.dropWhile p = []) ↔ ∀ x ∈ l, p x = true := by
  intro l
  induction l with
  | nil => simp
  | cons b l ih =>
    rw [List.dropWhile_cons]
    by_cases h : p b = true
    · rw [if_pos h, ih]; simp [h]
    · rw [if_neg h]; simp [h]
theorem trimS_nil (l cs : List UInt8) : (Lib.trimS l cs = []) ↔ l.all (fun b => cs.contains b) = true := by
  unfold Lib.trimS Lib.trimLeftS Lib.trimRightS
  rw [dropWhile_nil, List.all_eq_true]
  constructor
  · intro h
    have key : ∀ m : List UInt8, (∀ x ∈ m.dropWhile (fun b => cs.contains b), cs.contains x = true) → ∀ x ∈ m, cs.contains x = true := by
      intro m
      induction m with
      | nil => simp
      | cons b m ih =>
        intro hm x hx
        rw [List.dropWhile_cons] at hm
        by_cases hb : cs.contains b = true
        · rw [if_pos hb] at hm
          rcases List.mem_cons.1 hx with e | e
          · rw [e]; exact hb
          · exact ih hm x e
        · rw [if_neg hb] at hm
          exact hm x hx
    exact fun x hx => key l.reverse (fun y hy => h y (List.mem_reverse.2 hy)) x (List.mem_reverse.2 hx)
  · intro h x hx
    exact h x (List.mem_reverse.1 ((List.dropWhile_sublist _).subset (List.mem_reverse.1 hx)))
def nums (l : List UInt8) : List Int := l.map (fun b => (b.toNat : Int))
theorem join_two (a b : List UInt8) (r : List (List UInt8)) (sep : List UInt8) : Lib.join (a :: b :: r) sep = a ++ (sep ++ Lib.join (b :: r) sep) := by
  simp [Lib.join, List.intercalate, List.intersperse]
theorem join_one (a sep : List UInt8) : Lib.join [a] sep = a := by simp [Lib.join, List.intercalate]
theorem escB_len (l : List UInt8) : (l.flatMap escB).length ≤ 2 * l.length := by
  induction l with
  | nil => simp
  | cons b l ih =>
    rw [List.flatMap_cons, List.length_append, List.length_cons]
    have : (escB b).length ≤ 2 := by unfold escB; split <;> simp
    omega
theorem quotedL_len (l : List UInt8) : (quotedL l).length ≤ 2 * l.length + 2 := by
  unfold quotedL
  split
  · omega
  · have := escB_len l
    rw [List.length_cons, List.length_append, List.length_singleton]; omega
theorem lineL_len (B : Nat) : ∀ (xs : List (List UInt8)), (∀ x ∈ xs, x.length ≤ B) → (lineL xs).length ≤ xs.length * (2 * B + 3) := by
  intro xs
  induction xs with
  | nil => intro _; simp [lineL, Lib.join, List.intercalate]
  | cons x xs ih =>
    intro h
    have hx := quotedL_len x
    have hB := h x (by simp)
    cases xs with
    | nil => simp [lineL, join_one]; omega
    | cons y ys =>
      have h2 := ih (fun z hz => h z (by simp [hz]))
      have e : lineL (x :: y :: ys) = quotedL x ++ (32 :: lineL (y :: ys)) := by simp only [lineL, List.map_cons, join_two]; rfl
      rw [e, List.length_append, List.length_cons, List.length_cons, Nat.add_mul]
      omega
end Go.Proofs.YtmcjfnebkpifnaaGreatDoor

/-
  words.Quote: the walk.
-/
namespace Go.Proofs.YtmcjfnebkpifnaaGreatDoor
open Go.RowKit Go.Proofs.YtmcjfnebkpifnaaGreatDoorW.PrintWords Go.Proofs.YtmcjfnebkpifnaaGreatDoorW.PrintLast Go.Proofs.YtmcjfnebkpifnaaGreatDoorW.PrintMore
set_option linter.unusedVariables false
set_option linter.unusedSimpArgs false

theorem ba_nil (s : ByteArray) (h : s.data.toList = []) : s = ⟨#[]⟩ := by
  apply ByteArray.ext
  apply Array.toList_inj.1
  exact h
theorem bare_calls (w : World) (s : ByteArray) (hs : s.size ≤ 1000000) :
    Calls Tryz.prog 73 #[.string s] w fun e w' => e = .returned (.bool (bareL s.data.toList)) ∧ Below w.heap.size w w' := by
  by_cases h : s.data.toList = []
  · obtain rfl := ba_nil s h
    clear h
    go_enter Tryz.func73, Tryz.ntmps73
    go_wp2
    go_ret
    exact ⟨rfl, Below.refl _ _⟩
  · have hl : s.toList = s.data.toList := ByteArray.toList_eq s
    have e1 : s.toList.isEmpty = false := by rw [hl]; cases hh : s.data.toList with | nil => exact absurd hh h | cons => rfl
    have e2 : (s.toList == ([] : List UInt8)) = false := by rw [hl]; cases hh : s.data.toList with | nil => exact absurd hh h | cons => rfl
    have e3 : bareL s.data.toList = (Lib.trimS s.data.toList plainSet.data.toList).isEmpty := by
      unfold bareL
      have := trimS_nil s.data.toList plainSet.data.toList
      have h5 : s.data.toList.isEmpty = false := by rw [← hl]; exact e1
      rw [h5, Bool.not_false, Bool.true_and]
      cases hb : s.data.toList.all (fun b => plainSet.data.toList.contains b) with
      | true => rw [this.2 hb]; rfl
      | false =>
        cases ht : Lib.trimS s.data.toList plainSet.data.toList with
        | nil => rw [this.1 ht] at hb; exact absurd hb (by decide)
        | cons => rfl
    rw [e3]
    have HT := Aside0.mk (Tryz.strings_Trim s plainSet w (by omega) (by decide) (by
      intro j b hj
      have hm := List.mem_of_getElem? hj
      exact (show ∀ b ∈ plainSet.data.toList, b.toNat < 128 by decide) b hm))
    clear e3 hl h
    generalize Lib.trimS s.data.toList plainSet.data.toList = t at *
    have e4 : (⟨t.toArray⟩ : ByteArray).toList = t := by rw [ByteArray.toList_eq]
    cases t with
    | nil =>
      clear e4
      go_enter Tryz.func73, Tryz.ntmps73
      go_wp2_with fail
      refine HT.out.mono ?_
      rintro e w' ⟨rfl, hb⟩
      have HB := Aside0.mk hb
      clear hb HT
      go_wp2
      go_ret
      exact ⟨rfl, HB.out⟩
    | cons a t =>
      generalize (⟨(a :: t).toArray⟩ : ByteArray) = z at *
      have e6 : z.toList.isEmpty = false := by rw [e4]; rfl
      have e7 : (z.toList == ([] : List UInt8)) = false := by rw [e4]; rfl
      clear e4
      go_enter Tryz.func73, Tryz.ntmps73
      go_wp2_with fail
      refine HT.out.mono ?_
      rintro e w' ⟨rfl, hb⟩
      have HB := Aside0.mk hb
      clear hb HT
      go_wp2
      go_ret
      exact ⟨rfl, HB.out⟩

theorem infoQ : (Tryz.prog.info? 5).map (fun i => (i.zero, i.size, i.bytes)) = some (some (.int .u8 0), 1, 1) := by kernel_rfl
theorem nums_of (l : List UInt8) : strOfNums (nums l) = ⟨l.toArray⟩ := by
  have h : ∀ l : List UInt8, (nums l).map (fun n => UInt8.ofNat n.toNat) = l := by
    intro l
    induction l with
    | nil => rfl
    | cons b l ih =>
      show UInt8.ofNat (((b.toNat : Nat) : Int).toNat) :: (nums l).map (fun n => UInt8.ofNat n.toNat) = b :: l
      rw [ih, Int.toNat_natCast, UInt8.ofNat_toNat]
  apply ByteArray.ext
  apply Array.toList_inj.1
  show ((nums l).map (fun n => UInt8.ofNat n.toNat)) = l
  exact h l
theorem nums_add (l : List UInt8) (b : UInt8) : nums l ++ [(b.toNat : Int)] = nums (l ++ [b]) := by simp [nums]
theorem nums_len (l : List UInt8) : (nums l).length = l.length := by simp [nums]

def quotedS (s : ByteArray) : ByteArray := ⟨(quotedL s.data.toList).toArray⟩

set_option maxHeartbeats 4000000 in
theorem quoted_calls (w : World) (s : ByteArray) (hs : s.size ≤ 100000) :
    Calls Tryz.prog 60 #[.string s] w fun e w' => e = .returned (.string (quotedS s)) ∧ Below w.heap.size w w' := by
  have HQ := Aside0.mk (bare_calls w s (by omega))
  by_cases hbare : bareL s.data.toList = true
  · have e1 : quotedS s = s := by unfold quotedS quotedL; rw [if_pos hbare]
    rw [e1]
    rw [hbare] at HQ
    clear hbare e1
    go_enter Tryz.func60, Tryz.ntmps60
    go_wp2_with fail
    refine HQ.out.mono ?_
    rintro e w' ⟨rfl, hb⟩
    have HB := Aside0.mk hb
    clear hb HQ
    go_wp2
    go_ret
    exact ⟨rfl, HB.out⟩
  · have e1 : quotedS s = ⟨(34 :: (s.data.toList.flatMap escB ++ [34])).toArray⟩ := by unfold quotedS quotedL; rw [if_neg hbare]
    have hf : bareL s.data.toList = false := by cases h : bareL s.data.toList with | true => exact absurd h hbare | false => rfl
    rw [e1]
    rw [hf] at HQ
    clear hbare e1 hf
    go_enter Tryz.func60, Tryz.ntmps60
    go_wp2_with fail
    refine HQ.out.mono ?_
    rintro e w1 ⟨rfl, hb⟩
    have HB := Aside0.mk hb
    clear hb HQ
    go_wp2_with ((with_reducible refine gate_dst (N := 8) rfl ?_); refine Aside0.out ?zz)
    refine ⟨?_⟩
    refine Kd.R_lit (Kd.int .u8) (w0 := w) w.heap.size 5 ?hg (N := 8) ?hd (xs := [(34 : Int)]) (inner := [.int .u8 34]) (ok := fun _ => True) (okp := fun _ => False) ?hr ?hp (fun _ _ => trivial) trivial HB.out HB.out.size (by simp) ?_
    case hd => rfl
    case hg => rfl
    case hp => exact Kd.reps_scalar (enc := Value.int .u8) [34]
    case hr => first | (go_simp; done) | (go_simp; rfl)
    intro v8 w2 ho hb2 hg_ hnew_
    obtain ⟨A, n, c, rfl⟩ := sl_of_R ho
    have RO := Aside0.mk ho
    have HB2 := Aside0.mk hb2
    clear ho hb2 hg_ hnew_ HB
    go_wp2
    go_loopw [3, 11] (fun v i wr => ∃ k : Nat, k ≤ s.size ∧ i = .int .i64 k ∧ ∃ A' n' c', v = .slice A' n' c' ∧ (Kd.int .u8).R 5 wr w.heap.size (fun _ => True) v (nums (34 :: (s.data.toList.take k).flatMap escB)) ∧ Below w.heap.size w wr) (fun _ i _ => s.size - (intOf i).toNat)
    case atStart => exact ⟨0, by omega, rfl, _, _, _, rfl, RO.out, HB2.out⟩
    case round =>
      obtain ⟨k, hk, rfl, A', n', c', rfl, hR3, hB3⟩ := hrel
      have HR3 := Aside0.mk hR3
      have HB3 := Aside0.mk hB3
      have hsz := hB3.size
      clear hR3 hB3 RO HB2
      have hlen : (nums (34 :: (s.data.toList.take k).flatMap escB)).length ≤ 2 * k + 1 := by
        have h1 := escB_len (s.data.toList.take k)
        have h2 : (s.data.toList.take k).length ≤ k := by rw [List.length_take]; omega
        rw [nums_len, List.length_cons]
        omega
      by_cases hlt : k < s.size
      · have hlt' : k < s.data.toList.length := by simpa using hlt
        have hT : Aside0 (s.data.toList.take (k + 1) = s.data.toList.take k ++ [s[k]]) := ⟨by
          rw [List.take_add_one, List.getElem?_eq_getElem hlt']; rfl⟩
        have hby := UInt8.toNat_lt s[k]
        generalize hxs : nums (34 :: (s.data.toList.take k).flatMap escB) = xs at *
        by_cases hE : s[k].toNat = 34 ∨ s[k].toNat = 92
        · have hF : Aside0 (nums (34 :: (s.data.toList.take (k + 1)).flatMap escB) = (xs ++ [92]) ++ [(s[k].toNat : Int)]) := ⟨by
            rw [hT.out, List.flatMap_append, ← hxs]
            have e : [s[k]].flatMap escB = [92, s[k]] := by
              show escB s[k] ++ [] = _
              unfold escB; rw [if_pos hE]; rfl
            rw [e]
            simp [nums]⟩
          by_cases h34 : s[k].toNat = 34
          · have h34b : ((s[k].toNat : Int) == 34) = true := beq_iff_eq.2 (by omega)
            clear hE h34 hxs hT
            go_wp2_with (at_builtin; refine Kd.R_append (Kd.int .u8) (w0 := w) w.heap.size rfl (.tmp 24) (.tmp 25) 47 5 (.int .u8 0) 1 rfl Tryz.underlying47 infoQ rfl (by decide) (by decide) (.slice A' n' c') xs 92 [.int .u8 92] (fun _ => True) (fun _ => False) rfl rfl rfl (fun _ h => h.elim) (fun _ _ => trivial) HR3.out HB3.out hsz (by omega) ?_)
            intro v1 w4 ho hb4 _ _
            obtain ⟨A4, n4, c4, rfl⟩ := sl_of_R ho
            have HR4 := Aside0.mk ho
            have HB4 := Aside0.mk hb4
            have hsz4 := hb4.size
            have hl4 : (xs ++ [92]).length ≤ 2 * k + 2 := by rw [List.length_append, List.length_singleton]; omega
            clear ho hb4 HR3 HB3 hsz
            generalize xs ++ [92] = ys at *
            go_wp2_with (at_builtin; refine Kd.R_append (Kd.int .u8) (w0 := w) w.heap.size rfl (.tmp 27) (.tmp 31) 47 5 (.int .u8 0) 1 rfl Tryz.underlying47 infoQ rfl (by decide) (by decide) (.slice A4 n4 c4) ys (s[k].toNat : Int) [.int .u8 (s[k].toNat : Int)] (fun _ => True) (fun _ => False) rfl rfl rfl (fun _ h => h.elim) (fun _ _ => trivial) HR4.out HB4.out hsz4 (by omega) ?_)
            intro v1 w5 ho hb5 _ _
            obtain ⟨A5, n5, c5, rfl⟩ := sl_of_R ho
            rw [← hF.out] at ho
            have HR5 := Aside0.mk ho
            have HB5 := Aside0.mk hb5
            clear ho hb5
            go_wp2
            go_roundw
            case rel => exact ⟨k + 1, by omega, by go_num, _, _, _, rfl, HR5.out, HB5.out⟩
            case measure => simp [intOf]; omega
          · have h34b : ((s[k].toNat : Int) == 34) = false := beq_eq_false_iff_ne.2 (by omega)
            have h92b : ((s[k].toNat : Int) == 92) = true := beq_iff_eq.2 (by omega)
            clear hE h34 hxs hT
            go_wp2_with (at_builtin; refine Kd.R_append (Kd.int .u8) (w0 := w) w.heap.size rfl (.tmp 24) (.tmp 25) 47 5 (.int .u8 0) 1 rfl Tryz.underlying47 infoQ rfl (by decide) (by decide) (.slice A' n' c') xs 92 [.int .u8 92] (fun _ => True) (fun _ => False) rfl rfl rfl (fun _ h => h.elim) (fun _ _ => trivial) HR3.out HB3.out hsz (by omega) ?_)
            intro v1 w4 ho hb4 _ _
            obtain ⟨A4, n4, c4, rfl⟩ := sl_of_R ho
            have HR4 := Aside0.mk ho
            have HB4 := Aside0.mk hb4
            have hsz4 := hb4.size
            have hl4 : (xs ++ [92]).length ≤ 2 * k + 2 := by rw [List.length_append, List.length_singleton]; omega
            clear ho hb4 HR3 HB3 hsz
            generalize xs ++ [92] = ys at *
            go_wp2_with (at_builtin; refine Kd.R_append (Kd.int .u8) (w0 := w) w.heap.size rfl (.tmp 27) (.tmp 31) 47 5 (.int .u8 0) 1 rfl Tryz.underlying47 infoQ rfl (by decide) (by decide) (.slice A4 n4 c4) ys (s[k].toNat : Int) [.int .u8 (s[k].toNat : Int)] (fun _ => True) (fun _ => False) rfl rfl rfl (fun _ h => h.elim) (fun _ _ => trivial) HR4.out HB4.out hsz4 (by omega) ?_)
            intro v1 w5 ho hb5 _ _
            obtain ⟨A5, n5, c5, rfl⟩ := sl_of_R ho
            rw [← hF.out] at ho
            have HR5 := Aside0.mk ho
            have HB5 := Aside0.mk hb5
            clear ho hb5
            go_wp2
            go_roundw
            case rel => exact ⟨k + 1, by omega, by go_num, _, _, _, rfl, HR5.out, HB5.out⟩
            case measure => simp [intOf]; omega
        · have hF : Aside0 (nums (34 :: (s.data.toList.take (k + 1)).flatMap escB) = xs ++ [(s[k].toNat : Int)]) := ⟨by
            rw [hT.out, List.flatMap_append, ← hxs]
            have e : [s[k]].flatMap escB = [s[k]] := by
              show escB s[k] ++ [] = _
              unfold escB; rw [if_neg hE]; rfl
            rw [e]
            simp [nums]⟩
          have h34b : ((s[k].toNat : Int) == 34) = false := beq_eq_false_iff_ne.2 (by omega)
          have h92b : ((s[k].toNat : Int) == 92) = false := beq_eq_false_iff_ne.2 (by omega)
          clear hE hxs hT
          go_wp2_with (at_builtin; refine Kd.R_append (Kd.int .u8) (w0 := w) w.heap.size rfl (.tmp 27) (.tmp 31) 47 5 (.int .u8 0) 1 rfl Tryz.underlying47 infoQ rfl (by decide) (by decide) (.slice A' n' c') xs (s[k].toNat : Int) [.int .u8 (s[k].toNat : Int)] (fun _ => True) (fun _ => False) rfl rfl rfl (fun _ h => h.elim) (fun _ _ => trivial) HR3.out HB3.out hsz (by omega) ?_)
          intro v1 w5 ho hb5 _ _
          obtain ⟨A5, n5, c5, rfl⟩ := sl_of_R ho
          rw [← hF.out] at ho
          have HR5 := Aside0.mk ho
          have HB5 := Aside0.mk hb5
          clear ho hb5
          go_wp2
          go_roundw
          case rel => exact ⟨k + 1, by omega, by go_num, _, _, _, rfl, HR5.out, HB5.out⟩
          case measure => simp [intOf]; omega
      · have hkn : k = s.size := by omega
        have HF : Aside0 (strOfNums (nums (34 :: (s.data.toList.take k).flatMap escB) ++ [(34 : Int)]) = ⟨(34 :: (s.data.toList.flatMap escB ++ [34])).toArray⟩) := ⟨by
          rw [hkn, List.take_of_length_le (by simp)]
          have e : nums (34 :: s.data.toList.flatMap escB) ++ [(34 : Int)] = nums (34 :: (s.data.toList.flatMap escB ++ [34])) := by simp [nums]
          rw [e, nums_of]⟩
        generalize nums (34 :: (s.data.toList.take k).flatMap escB) = xs at *
        have hlt2 : decide ((k : Int) < (s.size : Int)) = false := decide_eq_false (by omega)
        clear hkn
        go_wp2_with (at_builtin; refine Kd.R_append (Kd.int .u8) (w0 := w) w.heap.size rfl (.tmp 34) (.tmp 35) 47 5 (.int .u8 0) 1 rfl Tryz.underlying47 infoQ rfl (by decide) (by decide) (.slice A' n' c') xs 34 [.int .u8 34] (fun _ => True) (fun _ => False) rfl rfl rfl (fun _ h => h.elim) (fun _ _ => trivial) HR3.out HB3.out hsz (by omega) ?_)
        intro v1 w5 ho hb5 _ _
        obtain ⟨A5, n5, c5, rfl⟩ := sl_of_R ho
        have hcv : (convert 47 9 (.slice A5 n5 c5)).run Tryz.prog w5 = .ok (.string (strOfNums (xs ++ [34]))) w5 := own_string Tryz.underlying47 Tryz.underlying5 Tryz.underlying9 (Kd.own_of_R ho)
        have HB5 := Aside0.mk hb5
        clear ho hb5
        go_wp2
        go_ret
        exact ⟨by rw [HF.out]; rfl, HB5.out⟩

def lineS (l : List ByteArray) : ByteArray := ⟨(lineL (l.map (·.data.toList))).toArray⟩
theorem infoQs : (Tryz.prog.info? 9).map (fun i => (i.zero, i.size, i.bytes)) = some (some (.string ByteArray.empty), 1, 16) := by kernel_rfl
theorem line_join (l : List ByteArray) : lineL (l.map (·.data.toList)) = Lib.join ((l.map quotedS).map (·.data.toList)) [32] := by
  unfold lineL
  rw [List.map_map, List.map_map]
  rfl
theorem lineL_len0 (B n : Nat) (l : List ByteArray) (hn : l.length ≤ n) (h : ∀ x ∈ l, x.size ≤ B) : (lineL (l.map (·.data.toList))).length ≤ n * (2 * B + 3) := by
  have h1 := lineL_len B (l.map (·.data.toList)) (by
    intro x hx
    obtain ⟨y, hy, rfl⟩ := List.mem_map.1 hx
    have := h y hy
    simpa using this)
  rw [List.length_map] at h1
  exact Nat.le_trans h1 (Nat.mul_le_mul_right _ hn)

theorem str_cellQ {w : World} {A : Option Addr} {n : Nat} {zs : List ByteArray} (h : Kd.string.C w A n zs) (k : Nat) (hk : k < n) : ∃ ad, A = some ad ∧ w.cell? (ad.add k) = some (.string (zs.getD k ByteArray.empty)) := by
  obtain ⟨ad, c, rfl, _, hK, hc⟩ := Kd.C_get h ByteArray.empty (k : Int) (by omega) (by omega)
  have e : ((k : Int)).toNat = k := Int.toNat_natCast k
  rw [e] at hK hc
  refine ⟨ad, rfl, ?_⟩
  obtain rfl := hK
  have hq := hc 0 _ rfl
  rwa [show Kd.string.sz = 1 from rfl, Nat.mul_one, Nat.add_zero] at hq
theorem joinQ_calls (w : World) (A : Option Addr) (c : Nat) (l : List ByteArray) (h : Kd.string.C w A l.length l) (hc : l.length ≤ c) (hN : l.length ≤ 1000000) (hl : (Lib.join (l.map (·.data.toList)) [32]).length ≤ 140737488355328) :
    Calls Tryz.prog 58 #[.slice A l.length c, .string ⟨#[32]⟩] w fun e w' => e = .returned (.string ⟨(Lib.join (l.map (·.data.toList)) [32]).toArray⟩) ∧ Below w.heap.size w w' := by
  by_cases h0 : l.length = 0
  · have hl0 : l = [] := List.eq_nil_of_length_eq_zero h0
    subst hl0
    exact (Tryz.strings_Join_none A c _ w).mono fun e w' ⟨h1, h2⟩ => ⟨by rw [h1]; rfl, by rw [h2]; exact Below.refl _ _⟩
  · obtain ⟨⟨bk, o, sub⟩, rfl, hc0⟩ := str_cellQ h 0 (by omega)
    have hsub : sub = none := by
      cases sub with
      | none => rfl
      | some s => simp only [World.cell?, Addr.add] at hc0; split at hc0 <;> cases hc0
    subst hsub
    refine Tryz.strings_Join bk o c l ⟨#[32]⟩ w (fun j x hj => ?_) (Lib.lt_of_cell hc0) (by omega) hc hl
    have hjl : j < l.length := (List.getElem?_eq_some_iff.1 hj).1
    obtain ⟨ad, had, hcj⟩ := str_cellQ h j hjl
    obtain rfl := (Option.some.inj had).symm
    rw [List.getD_eq_getElem?_getD, hj] at hcj
    by_cases h00 : j = 0
    · subst h00; simpa [Addr.add] using hcj
    · simpa [Addr.add, h00] using hcj
theorem take_mapQ {α β : Type} (f : α → β) (d : α) (l : List α) (k : Nat) (hk : k < l.length) : (l.map f).take (k + 1) = (l.map f).take k ++ [f (l.getD k d)] := by
  rw [List.take_add_one, List.getElem?_map, List.getElem?_eq_getElem hk, List.getD_eq_getElem?_getD, List.getElem?_eq_getElem hk]
  rfl

set_option maxHeartbeats 4000000 in
theorem quote_calls (w : World) (A : Option Addr) (n c : Nat) (l : List ByteArray) (hr : Kd.string.C w A n l) (hn : n ≤ 20) (hi : ∀ x ∈ l, x.size ≤ 50000) :
    Calls Tryz.prog 37 #[.slice A n c] w fun e w' => e = .returned (.string (lineS l)) ∧ Below w.heap.size w w' := by
  have hlen := Kd.C_len hr
  have HR := Aside0.mk hr
  have HDS := Aside0.mk (take_mapQ quotedS ByteArray.empty l)
  have hjl := lineL_len0 50000 20 l (by omega) hi
  rw [line_join] at hjl
  have HF : Aside0 (lineS l = ⟨(Lib.join ((l.map quotedS).map (·.data.toList)) [32]).toArray⟩) := ⟨by unfold lineS; rw [line_join]⟩
  have hml : (l.map quotedS).length = n := by simp; omega
  have HI : Aside0 (∀ k, k < n → (l.getD k ByteArray.empty).size ≤ 100000) := ⟨fun k hk => by
    have : l.getD k ByteArray.empty ∈ l := by
      rw [List.getD_eq_getElem?_getD, List.getElem?_eq_getElem (by omega)]
      exact List.getElem_mem _
    have := hi _ this
    omega⟩
  rw [HF.out]
  generalize l.map quotedS = ds at *
  clear hr hi HF
  go_enter Tryz.func37, Tryz.ntmps37
  go_wp2
  go_loopw [3, 8] (fun v i wr => ∃ k : Nat, k ≤ n ∧ i = .int .i64 k ∧ ∃ A' n' c', v = .slice A' n' c' ∧ Kd.string.R 9 wr w.heap.size (fun _ => True) v (ds.take k) ∧ Below w.heap.size w wr) (fun _ i _ => n - (intOf i).toNat)
  case atStart => exact ⟨0, by omega, rfl, none, 0, 0, rfl, Kd.R_nil _ _ _ _ _, Below.refl _ _⟩
  case round =>
    obtain ⟨k, hk, rfl, A', n', c', rfl, hR2, hB2⟩ := hrel
    have HR2 := Aside0.mk hR2
    have HB2 := Aside0.mk hB2
    have hsz := hB2.size
    clear hR2 hB2
    by_cases hlt : k < n
    · obtain ⟨ad, rfl, hcell⟩ := str_cellQ (Kd.C_below HR.out HB2.out) k hlt
      have HTK := Aside0.mk (HDS.out k (by omega))
      have hIk := HI.out k hlt
      obtain ⟨z, hz⟩ : ∃ z, z = l.getD k ByteArray.empty := ⟨_, rfl⟩
      rw [← hz] at hcell HTK hIk
      have HD := Aside0.mk (quoted_calls wr z hIk)
      clear hz hIk
      go_wp2_with (go_at_call 60; refine HD.out.mono ?_; rintro e w1 ⟨rfl, hb1⟩; refine Hid.out ?_)
      have HC2 := Aside0.mk (nlitC w1 9 [quotedS z] (by simp))
      have HB3 := Aside0.mk (below_alloc (HB2.out.trans (hb1.mono HB2.out.size)) (.cells #[.string (quotedS z)] 9))
      have HR3 := Aside0.mk (Kd.R_alloc (Kd.R_below HR2.out hb1) (.cells #[.string (quotedS z)] 9))
      have hsz1 := hb1.size
      have hle : (ds.take k).length ≤ 1000 := by rw [List.length_take]; omega
      clear hb1 HD
      refine Lib.hid ?_
      go_wp2_with (at_builtin; refine Kd.R_append_row Value.string ByteArray.empty (w0 := w) w.heap.size rfl (.tmp 12) (.tmp 15) 57 9 (.string ByteArray.empty) 16 rfl Tryz.underlying57 infoQs rfl (by decide) (.slice A' n' c') (ds.take k) [quotedS z] (some ⟨w1.heap.size, 0, none⟩) 1 1 (fun _ => True) rfl rfl (fun _ _ => trivial) HR3.out HC2.out HB3.out ?aS ?aL ?_)
      case aS => simp; omega
      case aL => omega
      intro v1 w2 ho hb2 _ _
      obtain ⟨A4, n4, c4, rfl⟩ := sl_of_R ho
      rw [← HTK.out] at ho
      have RO := Aside0.mk ho
      have HBO := Aside0.mk hb2
      clear ho hb2
      go_wp2
      go_roundw
      case rel => exact ⟨k + 1, by omega, by go_num, _, _, _, rfl, RO.out, HBO.out⟩
      case measure => simp [intOf]; omega
    · have hkn : k = n := by omega
      have HK : ds.take k = ds := by rw [hkn, ← hml, List.take_length]
      rw [HK] at HR2
      clear HK
      obtain ⟨hn', hc', hC'⟩ := Kd.R_reads' HR2.out
      subst hn'
      have HJ := Aside0.mk (joinQ_calls wr A' c' ds hC' hc' (by omega) (by omega))
      clear hC' hjl hml hkn
      go_wp2_with (go_at_call 58; refine HJ.out.mono ?_; rintro e w1 ⟨rfl, hb1⟩)
      go_ret
      exact ⟨rfl, HB2.out.trans (hb1.mono HB2.out.size)⟩
end Go.Proofs.YtmcjfnebkpifnaaGreatDoor
