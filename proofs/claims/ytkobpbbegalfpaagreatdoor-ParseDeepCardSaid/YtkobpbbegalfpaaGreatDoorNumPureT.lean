/-
  Joined texts: NuAheadP, NuHeadP, NumPureT.
-/
import Derived.Test.YtkobpbbegalfpaaGreatDoorNuErrP
import Derived.Lib.OthersKept
import Derived.Laws.RangeAny
/-
 num.ahead: what it returns.
-/
namespace Go.Proofs.YtkobpbbegalfpaaGreatDoor
open Go.RowKit Go.Proofs.YtkobpbbegalfpaaGreatDoorW.PrintWords Go.Proofs.YtkobpbbegalfpaaGreatDoorW.PrintLast Go.Proofs.YtkobpbbegalfpaaGreatDoorW.PrintMore
set_option linter.unusedVariables false

/-- The digits with which a text begins. -/
def headL (s : ByteArray) : List UInt8 := s.data.toList.takeWhile isD
theorem drop_cons (s : ByteArray) (pos : Nat) (h : pos < s.size) : s.data.toList.drop pos = s[pos] :: s.data.toList.drop (pos + 1) := by
 have hl : pos < s.data.toList.length := by simpa using h
 rw [List.drop_eq_getElem_cons hl]
 rfl
theorem headL_le (s : ByteArray) : (headL s).length ≤ s.size := by
 have h := (List.takeWhile_prefix (p := isD) (l := s.data.toList)).length_le
 have e : s.data.toList.length = s.size := by simp
 unfold headL; omega
set_option maxHeartbeats 1000000 in
theorem ahead_calls (s : ByteArray) (w : World) (hs : s.size ≤ 9223372036854775806) : Calls Tryz.prog 113 #[.string s] w fun e w' => e = .returned (.int .i64 ((headL s).length : Int)) ∧ Below w.heap.size w w' := by
 have hk0 : (w.iter s 0).heap[w.heap.size]? = some (.stringIter s 0) := World.iter_heap w s 0
 have hb0 : Below w.heap.size w (w.iter s 0) := (Below.refl _ w).alloc (Nat.le_refl _) _
 have hr0 : Aside0 ((headL s).length = 0 + ((s.data.toList.drop 0).takeWhile isD).length) := ⟨by simp [headL]⟩
 go_enter Tryz.func113, Tryz.ntmps113
 go_wp2
 go_loopw [3] (fun _ wr => ∃ pos : Nat, pos ≤ s.size ∧ wr.heap[w.heap.size]? = some (.stringIter s pos) ∧ Below w.heap.size w wr ∧ Aside0 ((headL s).length = pos + ((s.data.toList.drop pos).takeWhile isD).length))
  (fun _ wr => s.size - wr.iterPos w.heap.size)
 case atStart => exact ⟨0, Nat.zero_le _, hk0, hb0, hr0⟩
 case round =>
  obtain ⟨pos, hps, hk, hnx, hr⟩ := hrel
  clear hr0 hk0 hb0
  by_cases hp : pos < s.size
  ·by_cases h128 : (s[pos]'hp).toNat < 128
   ·have hnext : ∀ ty, (Instr.next (.pointer (some ⟨w.heap.size, 0, none⟩)) true ty).run Tryz.prog wr = _ := fun ty => Lib.run_next_ascii_at wr w.heap.size s pos ty hk hp h128
    have hk1 := Lib.iterAt_heap wr w.heap.size s pos (pos + 1) hk
    have hnx1 : Below w.heap.size w (wr.iterAt w.heap.size s (pos + 1)) := Lib.below_iterAt hnx (by omega) s (pos + 1)
    have hmu : wr.iterPos w.heap.size = pos := by simp [World.iterPos, hk]
    generalize wr.iterAt w.heap.size s (pos + 1) = W1 at hnext hk1 hnx1
    have hd := drop_cons s pos hp
    by_cases hdg : 48 ≤ (s[pos]'hp).toNat ∧ (s[pos]'hp).toNat ≤ 57
    ·have hD : isD s[pos] = true := by simp [isD, hdg.1, hdg.2]
     have hr1 : Aside0 ((headL s).length = (pos + 1) + ((s.data.toList.drop (pos + 1)).takeWhile isD).length) := ⟨by
      have := hr.out; rw [hd, List.takeWhile_cons, if_pos hD, List.length_cons] at this; omega⟩
     obtain ⟨g1, g2⟩ := hdg
     clear hd hr hD
     go_wp2
     go_roundw
     case rel => exact ⟨pos + 1, by omega, hk1, hnx1, hr1⟩
     case measure =>
      have hmu2 : W1.iterPos w.heap.size = pos + 1 := by simp [World.iterPos, hk1]
      rw [hmu, hmu2]; omega
    ·have hD : isD s[pos] = false := by
      unfold isD
      by_cases g : 48 ≤ (s[pos]'hp).toNat
      ·have g' : ¬ (s[pos]'hp).toNat ≤ 57 := fun g' => hdg ⟨g, g'⟩
       simp [g']
      ·simp [g]
     have hr1 : Aside0 ((headL s).length = pos) := ⟨by
      have := hr.out; rw [hd, List.takeWhile_cons, if_neg (by simp [hD])] at this; simpa using this⟩
     clear hd hr hD
     by_cases g : 48 ≤ (s[pos]'hp).toNat
     ·have g' : ¬ (s[pos]'hp).toNat ≤ 57 := fun g' => hdg ⟨g, g'⟩
      clear hdg
      go_wp2
      go_ret
      exact ⟨by rw [hr1.out]; rfl, hnx1⟩
     ·clear hdg
      go_wp2
      go_ret
      exact ⟨by rw [hr1.out]; rfl, hnx1⟩
   ·have hhi := (decode_high s pos hp (by omega)).1
    have hnext : ∀ ty, (Instr.next (.pointer (some ⟨w.heap.size, 0, none⟩)) true ty).run Tryz.prog wr = _ := fun ty => Lib.run_next_any_at wr w.heap.size s pos ty hk hp
    have hnx1 : Below w.heap.size w (wr.iterAt w.heap.size s (pos + (Utf8.decode s pos).2)) := Lib.below_iterAt hnx (by omega) s _
    generalize wr.iterAt w.heap.size s (pos + (Utf8.decode s pos).2) = W1 at hnext hnx1
    generalize (Utf8.decode s pos).1 = r at hnext hhi
    have hd := drop_cons s pos hp
    have hD : isD s[pos] = false := by
     unfold isD
     have g' : ¬ (s[pos]'hp).toNat ≤ 57 := by omega
     simp [g']
    have hr1 : Aside0 ((headL s).length = pos) := ⟨by
     have := hr.out; rw [hd, List.takeWhile_cons, if_neg (by simp [hD])] at this; simpa using this⟩
    have g1 : ¬ r < 48 := by omega
    have g2 : ¬ r ≤ 57 := by omega
    clear hd hr hD h128 hk
    go_wp2
    go_ret
    exact ⟨by rw [hr1.out]; rfl, hnx1⟩
  ·have hnext : ∀ ty, (Instr.next (.pointer (some ⟨w.heap.size, 0, none⟩)) true ty).run Tryz.prog wr = _ := fun ty => Lib.run_next_end_at wr w.heap.size s pos ty hk hp
   have hr1 : Aside0 ((headL s).length = s.size) := ⟨by
    have := hr.out
    rw [List.drop_eq_nil_of_le (by simp; omega)] at this
    simp at this; omega⟩
   clear hr
   go_wp2
   go_ret
   exact ⟨by rw [hr1.out]; rfl, hnx⟩
end Go.Proofs.YtkobpbbegalfpaaGreatDoor

/-
 num.Head: what it returns.
-/
namespace Go.Proofs.YtkobpbbegalfpaaGreatDoor
open Go.RowKit Go.Proofs.YtkobpbbegalfpaaGreatDoorW.PrintWords Go.Proofs.YtkobpbbegalfpaaGreatDoorW.PrintLast Go.Proofs.YtkobpbbegalfpaaGreatDoorW.PrintMore
set_option linter.unusedVariables false

/-- What Head answers with. -/
def headR (s : ByteArray) : Int × Int × Int :=
 if (headL s).length = 0 then (0, 0, 2) else if 1 < (headL s).length ∧ (headL s).getD 0 0 = 48 then (0, 0, 2)
 else match Lib.parseUintM 2147483647 0 (headL s) with
  | .ok u => ((u : Int), ((headL s).length : Int), 0)
  | _ => (0, 0, 3)
theorem parse_not_syntax (M : Nat) : ∀ (l : List UInt8) (acc : Nat), (∀ b ∈ l, isD b = true) → Lib.parseUintM M acc l ≠ Lib.NumEnd.syntax
 | [], acc, _ => by simp [Lib.parseUintM]
 | c :: r, acc, h => by
  have hc := h c List.mem_cons_self
  simp only [isD, Bool.and_eq_true, decide_eq_true_eq] at hc
  unfold Lib.parseUintM
  rw [if_pos hc]
  split
  ·simp
  ·split
   ·simp
   ·exact parse_not_syntax M r _ (fun b hb => h b (List.mem_cons_of_mem _ hb))
theorem headL_all (s : ByteArray) : ∀ b ∈ headL s, isD b = true := fun b hb => List.all_eq_true.1 (List.all_takeWhile (p := isD) (l := s.data.toList)) b hb
theorem parse_bound (M : Nat) : ∀ (l : List UInt8) (acc u : Nat), acc ≤ M → Lib.parseUintM M acc l = .ok u → u ≤ M
 | [], acc, u, h0, h => by unfold Lib.parseUintM at h; injection h with h; omega
 | c :: r, acc, u, h0, h => by
  unfold Lib.parseUintM at h
  split at h
  ·split at h
   ·cases h
   ·split at h
    ·cases h
    ·exact parse_bound M r _ u (by omega) h
  ·cases h
theorem headL_extract (s : ByteArray) : (s.extract 0 (headL s).length).data.toList = headL s := by
 have h := List.takeWhile_prefix (p := isD) (l := s.data.toList)
 have e := List.prefix_iff_eq_take.1 h
 rw [ByteArray.data_extract, Array.toList_extract]
 simp only [List.extract, Nat.sub_zero, List.drop_zero]
 exact e.symm
theorem headL_first (s : ByteArray) (h : 0 < s.size) (h1 : 0 < (headL s).length) : s[0] = (headL s).getD 0 0 := by
 have hc := drop_cons s 0 h
 rw [List.drop_zero] at hc
 unfold headL at h1 ⊢
 rw [hc] at h1 ⊢
 rw [List.takeWhile_cons] at h1 ⊢
 split
 ·rfl
 ·rename_i hn; rw [if_neg hn] at h1; simp at h1
theorem byte48 (b : UInt8) : b = 48 ↔ b.toNat = 48 := by
 constructor
 ·rintro rfl; rfl
 ·intro h; exact UInt8.toNat_inj.1 h

/-- Three numbers, in a world that has grown. -/
def Out3 (w : World) (r : Int × Int × Int) (e : Ending) (w' : World) : Prop := e = .returned (.tuple #[.int .i64 r.1, .int .i64 r.2.1, .int .i64 r.2.2]) ∧ Below w.heap.size w w'
set_option maxHeartbeats 1000000 in
theorem head_calls (s : ByteArray) (hs : s.size ≤ 140737488355328) (w : World) (hE : NumE w) : Calls Tryz.prog 95 #[.string s] w (Out3 w (headR s)) := by
 have HA := Aside0.mk (ahead_calls s w (by omega))
 have hle := headL_le s
 have hall := Aside0.mk (headL_all s)
 have hex := Aside0.mk (headL_extract s)
 have hfst := Aside0.mk (headL_first s)
 unfold headR
 obtain ⟨l, hl⟩ : ∃ l, l = headL s := ⟨_, rfl⟩
 rw [← hl] at HA hle hall hex hfst ⊢
 clear hl
 by_cases h0 : l.length = 0
 ·rw [if_pos h0]
  rw [h0] at HA
  clear hE hall hex hle hfst h0
  go_enter Tryz.func95, Tryz.ntmps95
  go_wp2_with (go_at_call 113; refine HA.out.mono ?_; rintro e w1 ⟨rfl, hb⟩)
  refine bodyPost_ret (v := .tuple #[.int .i64 0, .int .i64 0, .int .i64 2]) (by simp [results, Tryz.results95, go_sem]) rfl ⟨rfl, hb⟩
 ·rw [if_neg h0]
  have hsz : 0 < s.size := by omega
  by_cases h1 : 1 < l.length ∧ l.getD 0 0 = 48
  ·rw [if_pos h1]
   have hb48 : ((s[0]'hsz).toNat : Int) = 48 := by rw [hfst.out hsz (by omega), h1.2]; rfl
   obtain ⟨n, hn⟩ : ∃ n, n = l.length := ⟨_, rfl⟩
   rw [← hn] at HA hle
   have hn1 : 1 < n := by omega
   clear hE hall hex hfst h0 h1 hn
   go_enter Tryz.func95, Tryz.ntmps95
   go_wp2_with (go_at_call 113; refine HA.out.mono ?_; rintro e w1 ⟨rfl, hb⟩)
   refine bodyPost_ret (v := .tuple #[.int .i64 0, .int .i64 0, .int .i64 2]) (by simp [results, Tryz.results95, go_sem]) rfl ⟨rfl, hb⟩
  ·rw [if_neg h1]
   have hxs : (s.extract 0 l.length).size ≠ 0 := by
    have := congrArg List.length hex.out
    have e : (s.extract 0 l.length).data.toList.length = (s.extract 0 l.length).size := by simp
    omega
   have hxl : (s.extract 0 l.length).size ≤ 281474976710656 := by simp; omega
   have hns := parse_not_syntax 2147483647 l 0 hall.out
   have hb48 : ¬ (1 < l.length) ∨ (1 < l.length ∧ ¬ ((s[0]'hsz).toNat : Int) = 48) := by
    by_cases h2 : 1 < l.length
    ·refine .inr ⟨h2, fun h48 => ?_⟩
     exact h1 ⟨h2, by rw [← hfst.out hsz (by omega)]; exact (byte48 _).2 (by omega)⟩
    ·exact .inl h2
   rcases hp : Lib.parseUintM 2147483647 0 l with u | _ | _
   ·have hu := parse_bound 2147483647 l 0 u (by omega) hp
    have HP : Aside0 (∀ w1, Calls Tryz.prog 82 #[.string (s.extract 0 l.length), .int .i64 10, .int .i64 31] w1 fun e w' => e = .returned (.tuple #[.int .u64 u, .nilIface]) ∧ Below w1.heap.size w1 w') :=
     ⟨fun w1 => puint31_ok _ hxs hxl u (by rw [hex.out]; exact hp) w1⟩
    obtain ⟨n, hn⟩ : ∃ n, n = l.length := ⟨_, rfl⟩
    rw [← hn] at HA hle hb48 HP ⊢
    have hn0 : ¬ n = 0 := by omega
    have q0 : ((n : Int) == 0) = false := by simp; omega
    clear hE hall hex hfst h0 h1 hn hxs hxl hns hp
    rcases hb48 with hb48 | ⟨hn1, hb48⟩
    all_goals (try have q1 : (((s[0]'hsz).toNat : Int) == 48) = false := by simpa using hb48)
    all_goals
     go_enter Tryz.func95, Tryz.ntmps95
     go_wp2_with (first | (go_at_call 113; refine HA.out.mono ?_; rintro e w1 ⟨rfl, hb⟩) | (go_at_call 82; refine (HP.out _).mono ?_; rintro e w2 ⟨rfl, hb2⟩))
     all_goals refine bodyPost_ret (v := .tuple #[.int .i64 u, .int .i64 n, .int .i64 0]) (by simp [results, Tryz.results95, go_sem]) rfl ⟨rfl, hb.trans (hb2.mono hb.size)⟩
   ·exact absurd hp hns
   ·have HP : Aside0 (∀ w1, NumE w1 → Calls Tryz.prog 82 #[.string (s.extract 0 l.length), .int .i64 10, .int .i64 31] w1 (ErrOut w1)) :=
     ⟨fun w1 h1 => puint31_range _ hxs hxl (by rw [hex.out]; exact hp) w1 h1⟩
    obtain ⟨n, hn⟩ : ∃ n, n = l.length := ⟨_, rfl⟩
    rw [← hn] at HA hle hb48 HP
    have hn0 : ¬ n = 0 := by omega
    have q0 : ((n : Int) == 0) = false := by simp; omega
    have hE' := Aside0.mk hE
    clear hE hall hex hfst h0 h1 hn hxs hxl hns hp
    rcases hb48 with hb48 | ⟨hn1, hb48⟩
    all_goals (try have q1 : (((s[0]'hsz).toNat : Int) == 48) = false := by simpa using hb48)
    all_goals
     go_enter Tryz.func95, Tryz.ntmps95
     go_wp2_with (first | (go_at_call 113; refine HA.out.mono ?_; rintro e w1 ⟨rfl, hb⟩; replace hb := Aside0.mk hb) | (go_at_call 82; refine (HP.out _ (hE'.out.below hb.out)).mono ?_; rintro e w2 ⟨x, N, rfl, hb2⟩))
     all_goals refine bodyPost_ret (v := .tuple #[.int .i64 0, .int .i64 0, .int .i64 3]) (by simp [results, Tryz.results95, go_sem]) rfl ⟨rfl, hb.out.trans (hb2.mono hb.out.size)⟩

end Go.Proofs.YtkobpbbegalfpaaGreatDoor

/- Printed texts of this seat, cut to what is used. -/
namespace Go.Proofs.YtkobpbbegalfpaaGreatDoor
open Go.RowKit Go.Proofs.YtkobpbbegalfpaaGreatDoorW.PrintWords Go.Proofs.YtkobpbbegalfpaaGreatDoorW.PrintLast Go.Proofs.YtkobpbbegalfpaaGreatDoorW.PrintMore
open Go.Lib (parseUintM decDigits)
set_option linter.unusedVariables false

theorem isD_of (c : UInt8) (h : isD c = true) : 48 ≤ c.toNat ∧ c.toNat ≤ 57 := by
 unfold isD at h
 simpa using h
theorem parse_back (M : Nat) (hM : M ≤ 2147483647) (n : Nat) : ∀ (l : List UInt8) (u : Nat), l.length = n → l ≠ [] → (∀ b ∈ l, isD b = true) → (1 < l.length → l.getD 0 0 ≠ 48) → parseUintM M 0 l = .ok u → decDigits u = l := by
 induction n with
 | zero => intro l u hn h0; exact absurd (List.length_eq_zero_iff.1 hn) h0
 | succ n ih =>
  intro l u hn h0 hall hfst hp
  obtain ⟨a, c, rfl⟩ : ∃ a c, l = a ++ [c] := ⟨l.dropLast, l.getLast h0, (List.dropLast_concat_getLast h0).symm⟩
  have hc := isD_of c (hall c (by simp))
  have e48 : UInt8.ofNat (48 + (c.toNat - 48)) = c := by
   rw [show 48 + (c.toNat - 48) = c.toNat from by omega]
   simp
  by_cases ha : a = []
  ·subst ha
   rw [List.nil_append] at hp ⊢
   unfold parseUintM at hp
   rw [if_pos hc] at hp
   split at hp
   ·cases hp
   ·split at hp
    ·cases hp
    ·unfold parseUintM at hp
     injection hp with hp
     rw [dec_one u (by omega)]
     congr 1
     rw [← e48]
     congr 1
     omega
  ·have hal : a.length = n := by simpa using hn
   have hfa : a.getD 0 0 ≠ 48 := by
    have := hfst (by rw [List.length_append]; have := List.length_pos_iff.2 ha; simp; omega)
    rwa [getD_append ha] at this
   rw [parse_append] at hp
   rcases hv : parseUintM M 0 a with v | _ | _
   ·rw [hv] at hp
    have hd := ih a v hal ha (fun b hb => hall b (by simp [hb])) (fun _ => hfa) hv
    have hv1 : 1 ≤ v := by
     rcases Nat.eq_zero_or_pos v with h | h
     ·subst h
      rw [← hd, dec_one 0 (by omega)] at hfa
      exact absurd rfl hfa
     ·exact h
    have hp : parseUintM M v [c] = .ok u := hp
    unfold parseUintM at hp
    rw [if_pos hc] at hp
    split at hp
    ·cases hp
    ·split at hp
     ·cases hp
     ·unfold parseUintM at hp
      injection hp with hp
      have hu1 : u / 10 = v := by omega
      have hu2 : u % 10 = c.toNat - 48 := by omega
      rw [dec_step u (by omega), hu1, hd, hu2, e48]
   ·rw [hv] at hp; cases hp
   ·rw [hv] at hp; cases hp
theorem head_ok {s : ByteArray} (h : (headR s).2.2 = 0) : (∃ u : Nat, u ≤ 2147483647 ∧ (headR s).1 = (u : Int) ∧ decDigits u = headL s) ∧ (headR s).2.1 = ((headL s).length : Int) ∧ 0 < (headL s).length := by
 unfold headR at h ⊢
 by_cases h0 : (headL s).length = 0
 ·rw [if_pos h0] at h; exact absurd h (by decide)
 ·rw [if_neg h0] at h ⊢
  by_cases h2 : 1 < (headL s).length ∧ (headL s).getD 0 0 = 48
  ·rw [if_pos h2] at h; exact absurd h (by decide)
  ·rw [if_neg h2] at h ⊢
   rcases hp : parseUintM 2147483647 0 (headL s) with u | _ | _
   ·have hu := parse_bound 2147483647 (headL s) 0 u (by omega) hp
    have hd := parse_back 2147483647 (by omega) _ (headL s) u rfl (fun h => h0 (by rw [h]; rfl)) (headL_all s) (fun hl he => h2 ⟨hl, he⟩) hp
    exact ⟨⟨u, hu, rfl, hd⟩, rfl, by omega⟩
   ·rw [hp] at h; exact absurd (show (3 : Int) = 0 from h) (by decide)
   ·rw [hp] at h; exact absurd (show (3 : Int) = 0 from h) (by decide)
theorem headR_range (s : ByteArray) : (headR s).2.2 = 0 ∨ (headR s).2.2 = 2 ∨ (headR s).2.2 = 3 := by
 unfold headR
 split
 ·simp
 ·split
  ·simp
  ·split <;> simp
theorem headB_headR (s : ByteArray) : 0 ≤ (headR s).2.1 ∧ (headR s).2.1 ≤ (s.size : Int) := by
 rcases headR_range s with h | h | h
 ·obtain ⟨_, e, _⟩ := head_ok h
  have := headL_le s
  omega
 all_goals
  unfold headR at h ⊢
  have hl := headL_le s
  split
  ·exact ⟨Int.le_refl _, by simp⟩
  ·split
   ·exact ⟨Int.le_refl _, by simp⟩
   ·split
    ·exact ⟨by simp, by simpa using hl⟩
    ·exact ⟨Int.le_refl _, by simp⟩
end Go.Proofs.YtkobpbbegalfpaaGreatDoor
