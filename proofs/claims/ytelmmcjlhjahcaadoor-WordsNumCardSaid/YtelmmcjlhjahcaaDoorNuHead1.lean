/-
  num: Head, Read, ReadHex: what they return.
-/
import Derived.Test.YtelmmcjlhjahcaaDoorNuNum1
namespace Go.Proofs.YtelmmcjlhjahcaaDoor
open Go.RowKit Go.Proofs.YtelmmcjlhjahcaaDoorW.PrintWords Go.Proofs.YtelmmcjlhjahcaaDoorW.PrintLast Go.Proofs.YtelmmcjlhjahcaaDoorW.PrintMore
set_option linter.unusedVariables false

/-- What Head answers with. -/
def headR (s : ByteArray) : Int × Int × Int :=
  if (headL s).length = 0 then (0, 0, 2) else if 1 < (headL s).length ∧ (headL s).getD 0 0 = 48 then (0, 0, 2)
  else match Lib.parseUintM 2147483647 0 (headL s) with
    | .ok u => ((u : Int), ((headL s).length : Int), 0)
    | _ => (0, 0, 3)
theorem parse_not_syntax (M : Nat) : ∀ (l : List UInt8) (acc : Nat), (∀ b ∈ l, isD b = true) → Lib.parseUintM M acc l ≠ Lib.NumEnd.syntax
  | [], acc, _ => by simp [Lib.parseUintM]
  | c :: r, acc, h => by
    have hc := h c List.mem_cons_self
    simp only [isD, Bool.and_eq_true, decide_eq_true_eq] at hc
    unfold Lib.parseUintM
    rw [if_pos hc]
    split
    · simp
    · split
      · simp
      · exact parse_not_syntax M r _ (fun b hb => h b (List.mem_cons_of_mem _ hb))
theorem headL_all (s : ByteArray) : ∀ b ∈ headL s, isD b = true := fun b hb => List.all_eq_true.1 (List.all_takeWhile (p := isD) (l := s.data.toList)) b hb
theorem parse_bound (M : Nat) : ∀ (l : List UInt8) (acc u : Nat), acc ≤ M → Lib.parseUintM M acc l = .ok u → u ≤ M
  | [], acc, u, h0, h => by unfold Lib.parseUintM at h; injection h with h; omega
  | c :: r, acc, u, h0, h => by
    unfold Lib.parseUintM at h
    split at h
    · split at h
      · cases h
      · split at h
        · cases h
        · exact parse_bound M r _ u (by omega) h
    · cases h
theorem headL_extract (s : ByteArray) : (s.extract 0 (headL s).length).data.toList = headL s := by
  have h := List.takeWhile_prefix (p := isD) (l := s.data.toList)
  have e := List.prefix_iff_eq_take.1 h
  rw [ByteArray.data_extract, Array.toList_extract]
  simp only [List.extract, Nat.sub_zero, List.drop_zero]
  exact e.symm
theorem headL_first (s : ByteArray) (h : 0 < s.size) (h1 : 0 < (headL s).length) : s[0] = (headL s).getD 0 0 := by
  have hc := drop_cons s 0 h
  rw [List.drop_zero] at hc
  unfold headL at h1 ⊢
  rw [hc] at h1 ⊢
  rw [List.takeWhile_cons] at h1 ⊢
  split
  · rfl
  · rename_i hn; rw [if_neg hn] at h1; simp at h1
theorem byte48 (b : UInt8) : b = 48 ↔ b.toNat = 48 := by
  constructor
  · rintro rfl; rfl
  · intro h; exact UInt8.toNat_inj.1 h

/-- Three numbers, in a world that has grown. -/
def Out3 (w : World) (r : Int × Int × Int) (e : Ending) (w' : World) : Prop := e = .returned (.tuple #[.int .i64 r.1, .int .i64 r.2.1, .int .i64 r.2.2]) ∧ Below w.heap.size w w'
set_option maxHeartbeats 1000000 in
theorem head_calls (s : ByteArray) (hs : s.size ≤ 140737488355328) (w : World) (hE : NumE w) : Calls Tryd.prog 75 #[.string s] w (Out3 w (headR s)) := by
  have HA := Aside0.mk (ahead_calls s w (by omega))
  have hle := headL_le s
  have hall := Aside0.mk (headL_all s)
  have hex := Aside0.mk (headL_extract s)
  have hfst := Aside0.mk (headL_first s)
  unfold headR
  obtain ⟨l, hl⟩ : ∃ l, l = headL s := ⟨_, rfl⟩
  rw [← hl] at HA hle hall hex hfst ⊢
  clear hl
  by_cases h0 : l.length = 0
  · rw [if_pos h0]
    rw [h0] at HA
    clear hE hall hex hle hfst h0
    go_enter Tryd.func75, Tryd.ntmps75
    go_wp2_with (go_at_call 74; refine HA.out.mono ?_; rintro e w1 ⟨rfl, hb⟩)
    refine bodyPost_ret (v := .tuple #[.int .i64 0, .int .i64 0, .int .i64 2]) (by simp [results, Tryd.results75, go_sem]) rfl ⟨rfl, hb⟩
  · rw [if_neg h0]
    have hsz : 0 < s.size := by omega
    by_cases h1 : 1 < l.length ∧ l.getD 0 0 = 48
    · rw [if_pos h1]
      have hb48 : ((s[0]'hsz).toNat : Int) = 48 := by rw [hfst.out hsz (by omega), h1.2]; rfl
      obtain ⟨n, hn⟩ : ∃ n, n = l.length := ⟨_, rfl⟩
      rw [← hn] at HA hle
      have hn1 : 1 < n := by omega
      clear hE hall hex hfst h0 h1 hn
      go_enter Tryd.func75, Tryd.ntmps75
      go_wp2_with (go_at_call 74; refine HA.out.mono ?_; rintro e w1 ⟨rfl, hb⟩)
      refine bodyPost_ret (v := .tuple #[.int .i64 0, .int .i64 0, .int .i64 2]) (by simp [results, Tryd.results75, go_sem]) rfl ⟨rfl, hb⟩
    · rw [if_neg h1]
      have hxs : (s.extract 0 l.length).size ≠ 0 := by
        have := congrArg List.length hex.out
        have e : (s.extract 0 l.length).data.toList.length = (s.extract 0 l.length).size := by simp
        omega
      have hxl : (s.extract 0 l.length).size ≤ 281474976710656 := by simp; omega
      have hns := parse_not_syntax 2147483647 l 0 hall.out
      have hb48 : ¬ (1 < l.length) ∨ (1 < l.length ∧ ¬ ((s[0]'hsz).toNat : Int) = 48) := by
        by_cases h2 : 1 < l.length
        · refine .inr ⟨h2, fun h48 => ?_⟩
          exact h1 ⟨h2, by rw [← hfst.out hsz (by omega)]; exact (byte48 _).2 (by omega)⟩
        · exact .inl h2
      rcases hp : Lib.parseUintM 2147483647 0 l with u | _ | _
      · have hu := parse_bound 2147483647 l 0 u (by omega) hp
        have HP : Aside0 (∀ w1, Calls Tryd.prog 83 #[.string (s.extract 0 l.length), .int .i64 10, .int .i64 31] w1 fun e w' => e = .returned (.tuple #[.int .u64 u, .nilIface]) ∧ Below w1.heap.size w1 w') :=
          ⟨fun w1 => puint31_ok _ hxs hxl u (by rw [hex.out]; exact hp) w1⟩
        obtain ⟨n, hn⟩ : ∃ n, n = l.length := ⟨_, rfl⟩
        rw [← hn] at HA hle hb48 HP ⊢
        have hn0 : ¬ n = 0 := by omega
        have q0 : ((n : Int) == 0) = false := by simp; omega
        clear hE hall hex hfst h0 h1 hn hxs hxl hns hp
        rcases hb48 with hb48 | ⟨hn1, hb48⟩
        all_goals (try have q1 : (((s[0]'hsz).toNat : Int) == 48) = false := by simpa using hb48)
        all_goals
          go_enter Tryd.func75, Tryd.ntmps75
          go_wp2_with (first | (go_at_call 74; refine HA.out.mono ?_; rintro e w1 ⟨rfl, hb⟩) | (go_at_call 83; refine (HP.out _).mono ?_; rintro e w2 ⟨rfl, hb2⟩))
          all_goals refine bodyPost_ret (v := .tuple #[.int .i64 u, .int .i64 n, .int .i64 0]) (by simp [results, Tryd.results75, go_sem]) rfl ⟨rfl, hb.trans (hb2.mono hb.size)⟩
      · exact absurd hp hns
      · have HP : Aside0 (∀ w1, NumE w1 → Calls Tryd.prog 83 #[.string (s.extract 0 l.length), .int .i64 10, .int .i64 31] w1 (ErrOut w1)) :=
          ⟨fun w1 h1 => puint31_range _ hxs hxl (by rw [hex.out]; exact hp) w1 h1⟩
        obtain ⟨n, hn⟩ : ∃ n, n = l.length := ⟨_, rfl⟩
        rw [← hn] at HA hle hb48 HP
        have hn0 : ¬ n = 0 := by omega
        have q0 : ((n : Int) == 0) = false := by simp; omega
        have hE' := Aside0.mk hE
        clear hE hall hex hfst h0 h1 hn hxs hxl hns hp
        rcases hb48 with hb48 | ⟨hn1, hb48⟩
        all_goals (try have q1 : (((s[0]'hsz).toNat : Int) == 48) = false := by simpa using hb48)
        all_goals
          go_enter Tryd.func75, Tryd.ntmps75
          go_wp2_with (first | (go_at_call 74; refine HA.out.mono ?_; rintro e w1 ⟨rfl, hb⟩; replace hb := Aside0.mk hb) | (go_at_call 83; refine (HP.out _ (hE'.out.below hb.out)).mono ?_; rintro e w2 ⟨x, N, rfl, hb2⟩))
          all_goals refine bodyPost_ret (v := .tuple #[.int .i64 0, .int .i64 0, .int .i64 3]) (by simp [results, Tryd.results75, go_sem]) rfl ⟨rfl, hb.out.trans (hb2.mono hb.out.size)⟩

/-- What Read answers with. -/
def readR (s : ByteArray) : Int × Int := if (headL s).length < s.size then (0, 2) else ((headR s).1, (headR s).2.2)
def Out2 (w : World) (r : Int × Int) (e : Ending) (w' : World) : Prop := e = .returned (.tuple #[.int .i64 r.1, .int .i64 r.2]) ∧ Below w.heap.size w w'
theorem read_calls (s : ByteArray) (hs : s.size ≤ 140737488355328) (w : World) (hE : NumE w) : Calls Tryd.prog 57 #[.string s] w (Out2 w (readR s)) := by
  have HA := Aside0.mk (ahead_calls s w (by omega))
  have HH := Aside0.mk (fun w1 h1 => head_calls s hs w1 h1)
  unfold readR
  obtain ⟨n, hn⟩ : ∃ n, n = (headL s).length := ⟨_, rfl⟩
  rw [← hn] at HA ⊢
  clear hn
  obtain ⟨⟨a, b, c⟩, hr⟩ : ∃ r, r = headR s := ⟨_, rfl⟩
  rw [← hr] at HH ⊢
  clear hr
  have hE' := Aside0.mk hE
  clear hE hs
  by_cases hlt : n < s.size
  · rw [if_pos hlt]
    clear HH
    go_enter Tryd.func57, Tryd.ntmps57
    go_wp2_with (go_at_call 74; refine HA.out.mono ?_; rintro e w1 ⟨rfl, hb⟩)
    go_ret2
    exact ⟨rfl, hb⟩
  · rw [if_neg hlt]
    go_enter Tryd.func57, Tryd.ntmps57
    go_wp2_with (first | (go_at_call 74; refine HA.out.mono ?_; rintro e w1 ⟨rfl, hb⟩; replace hb := Aside0.mk hb) | (go_at_call 75; refine (HH.out _ (hE'.out.below hb.out)).mono ?_; rintro e w2 ⟨rfl, hb2⟩))
    go_ret2
    exact ⟨rfl, hb.out.trans (hb2.mono hb.out.size)⟩
end Go.Proofs.YtelmmcjlhjahcaaDoor
