/-
  Joined texts: NuErrS, NuAhead, NuHeadS, NumPureS.
-/
import Derived.Test.YtmcjfnebkpifnaaGreatDoorNuUintB
import Derived.Test.YtmcjfnebkpifnaaGreatDoorNumPureP
import Derived.Lib.OthersKept
import Derived.Laws.RangeAny
/-
  strconv.ParseUint at base 10 and 31 bits, and at base 16 and 8 bits.
-/
namespace Go.Proofs.YtmcjfnebkpifnaaGreatDoor
open Go.RowKit Go.Proofs.YtmcjfnebkpifnaaGreatDoorW.PrintWords Go.Proofs.YtmcjfnebkpifnaaGreatDoorW.PrintLast Go.Proofs.YtmcjfnebkpifnaaGreatDoorW.PrintMore
set_option linter.unusedVariables false

/-- The errors' variables hold interface values. -/
structure NumE (w : World) : Prop where
  sy : ∃ tp p, w.cell? ⟨2, 0, none⟩ = some (.iface tp p)
  ra : ∃ tp p, w.cell? ⟨3, 0, none⟩ = some (.iface tp p)
theorem NumE.below {w w' : World} (h : NumE w) (hb : Below w.heap.size w w') : NumE w' := by
  obtain ⟨⟨t, p, h1⟩, u, q, h2⟩ := h
  exact ⟨⟨t, p, cell_below h1 hb⟩, u, q, cell_below h2 hb⟩

/-- An error that isn't nil, in a world that has grown. -/
def ErrOut (w : World) (e : Ending) (w' : World) : Prop := ∃ (n : Int) (N : Nat), e = .returned (.tuple #[.int .u64 n, .iface 144 (.pointer (some ⟨N, 0, none⟩))]) ∧ Below w.heap.size w w'

/-- The public one, over an inner one that tells a number. -/
theorem puint_ok (s : ByteArray) (base bts u : Int) (w : World)
    (h : Calls Tryz.prog 77 #[.string s, .int .i64 base, .int .i64 bts] w fun e w' => e = .returned (.tuple #[.int .u64 u, .nilIface]) ∧ Below w.heap.size w w') :
    Calls Tryz.prog 65 #[.string s, .int .i64 base, .int .i64 bts] w fun e w' => e = .returned (.tuple #[.int .u64 u, .nilIface]) ∧ Below w.heap.size w w' := by
  have H := Aside0.mk h
  clear h
  go_enter Tryz.func65, Tryz.ntmps65
  go_wp2_with (go_at_call 77; refine H.out.mono ?_; rintro e w' ⟨rfl, hb⟩)
  go_ret2
  exact ⟨rfl, hb⟩
/-- .. over one that tells an error. -/
theorem puint_err (s : ByteArray) (base bts u c : Int) (hc : c = 1 ∨ c = 2) (hlim : s.size ≤ 281474976710656) (w : World) (hE : NumE w)
    (h : Calls Tryz.prog 77 #[.string s, .int .i64 base, .int .i64 bts] w fun e w' => e = .returned (.tuple #[.int .u64 u, .iface 142 (.int .i64 c)]) ∧ Below w.heap.size w w') :
    Calls Tryz.prog 65 #[.string s, .int .i64 base, .int .i64 bts] w (ErrOut w) := by
  have HT : ∀ w1, Below w.heap.size w w1 → Calls Tryz.prog 78 #[.string ⟨#[80, 97, 114, 115, 101, 85, 105, 110, 116]⟩, .string s, .int .i64 base, .int .i64 bts, .iface 142 (.int .i64 c)] w1 fun e w' => ∃ N, e = .returned (.iface 144 (.pointer (some ⟨N, 0, none⟩))) ∧ Below w.heap.size w w' := by
    intro w1 hb
    obtain ⟨⟨t1, p1, h1⟩, t2, p2, h2⟩ := hE.below hb
    rcases hc with rfl | rfl
    · exact (Tryz.strconv_toError_range _ s base bts _ w1 hlim h2 (.inr ⟨_, _, rfl⟩)).mono fun e w' ⟨N, he, _, _, hb2⟩ => ⟨N, he, hb.trans (hb2.mono hb.size)⟩
    · exact (Tryz.strconv_toError_syntax _ s base bts _ w1 hlim h1 (.inr ⟨_, _, rfl⟩)).mono fun e w' ⟨N, he, _, _, hb2⟩ => ⟨N, he, hb.trans (hb2.mono hb.size)⟩
  replace HT := Aside0.mk HT
  have H := Aside0.mk h
  clear h hE hc hlim
  go_enter Tryz.func65, Tryz.ntmps65
  go_wp2_with (first | (go_at_call 77; refine H.out.mono ?_; rintro e w1 ⟨rfl, hb⟩; replace hb := Aside0.mk hb) | (go_at_call 78; refine (HT.out _ hb.out).mono ?_; rintro e w' ⟨N, rfl, hb2⟩))
  go_ret2
  exact ⟨_, N, rfl, hb2⟩

theorem bytes_below {w w' : World} {t : TypeId} {s : ByteArray} (h : w' = Lib.bytesWorld w t s) : Below w.heap.size w w' := by rw [h]; exact Lib.bytesWorld_below _ _ _
theorem puint31_ok (s : ByteArray) (hne : s.size ≠ 0) (hs : s.size ≤ 281474976710656) (u : Nat) (h : Lib.parseUintM 2147483647 0 s.data.toList = .ok u) (w : World) :
    Calls Tryz.prog 65 #[.string s, .int .i64 10, .int .i64 31] w fun e w' => e = .returned (.tuple #[.int .u64 u, .nilIface]) ∧ Below w.heap.size w w' :=
  puint_ok s 10 31 u w ((uint31_calls s hne (by omega) w).mono fun e w' ⟨h1, h2⟩ => ⟨by rw [h1, h]; rfl, bytes_below h2⟩)
theorem puint31_range (s : ByteArray) (hne : s.size ≠ 0) (hs : s.size ≤ 281474976710656) (h : Lib.parseUintM 2147483647 0 s.data.toList = .range) (w : World) (hE : NumE w) :
    Calls Tryz.prog 65 #[.string s, .int .i64 10, .int .i64 31] w (ErrOut w) :=
  puint_err s 10 31 2147483647 1 (.inl rfl) hs w hE ((uint31_calls s hne (by omega) w).mono fun e w' ⟨h1, h2⟩ => ⟨by rw [h1, h]; rfl, bytes_below h2⟩)

/-- What a text tells as a number of base 16 and 8 bits. -/
def hexReadB (s : ByteArray) : Option Int := match parseHexB 0 s.data.toList with
  | .ok n => some n
  | _ => none
theorem puint8_ok (s : ByteArray) (hne : s.size ≠ 0) (hs : s.size ≤ 281474976710656) (u : Int) (h : hexReadB s = some u) (w : World) :
    Calls Tryz.prog 65 #[.string s, .int .i64 16, .int .i64 8] w fun e w' => e = .returned (.tuple #[.int .u64 u, .nilIface]) ∧ Below w.heap.size w w' := by
  unfold hexReadB at h
  refine puint_ok s 16 8 u w ((uint8_calls s hne (by omega) w).mono fun e w' ⟨h1, h2⟩ => ⟨?_, bytes_below h2⟩)
  rw [h1]
  rcases hp : parseHexB 0 s.data.toList with n | _ | _
  · rw [hp] at h; injection h with h; rw [h]; rfl
  · rw [hp] at h; cases h
  · rw [hp] at h; cases h
theorem puint8_err (s : ByteArray) (hne : s.size ≠ 0) (hs : s.size ≤ 281474976710656) (h : hexReadB s = none) (w : World) (hE : NumE w) :
    Calls Tryz.prog 65 #[.string s, .int .i64 16, .int .i64 8] w (ErrOut w) := by
  unfold hexReadB at h
  have HU := uint8_calls s hne (by omega) w
  rcases hp : parseHexB 0 s.data.toList with n | _ | _
  · rw [hp] at h; cases h
  · rw [hp] at HU
    exact puint_err s 16 8 0 2 (.inr rfl) hs w hE (HU.mono fun e w' ⟨h1, h2⟩ => ⟨h1, bytes_below h2⟩)
  · rw [hp] at HU
    exact puint_err s 16 8 255 1 (.inl rfl) hs w hE (HU.mono fun e w' ⟨h1, h2⟩ => ⟨h1, bytes_below h2⟩)
end Go.Proofs.YtmcjfnebkpifnaaGreatDoor

/-
  num.ahead: what it returns.
-/
namespace Go.Proofs.YtmcjfnebkpifnaaGreatDoor
open Go.RowKit Go.Proofs.YtmcjfnebkpifnaaGreatDoorW.PrintWords Go.Proofs.YtmcjfnebkpifnaaGreatDoorW.PrintLast Go.Proofs.YtmcjfnebkpifnaaGreatDoorW.PrintMore
set_option linter.unusedVariables false

/-- The digits with which a text begins. -/
def headL (s : ByteArray) : List UInt8 := s.data.toList.takeWhile isD
theorem drop_cons (s : ByteArray) (pos : Nat) (h : pos < s.size) : s.data.toList.drop pos = s[pos] :: s.data.toList.drop (pos + 1) := by
  have hl : pos < s.data.toList.length := by simpa using h
  rw [List.drop_eq_getElem_cons hl]
  rfl
theorem headL_le (s : ByteArray) : (headL s).length ≤ s.size := by
  have h := (List.takeWhile_prefix (p := isD) (l := s.data.toList)).length_le
  have e : s.data.toList.length = s.size := by simp
  unfold headL; omega
set_option maxHeartbeats 1000000 in
theorem ahead_calls (s : ByteArray) (w : World) (hs : s.size ≤ 9223372036854775806) : Calls Tryz.prog 63 #[.string s] w fun e w' => e = .returned (.int .i64 ((headL s).length : Int)) ∧ Below w.heap.size w w' := by
  have hk0 : (w.iter s 0).heap[w.heap.size]? = some (.stringIter s 0) := World.iter_heap w s 0
  have hb0 : Below w.heap.size w (w.iter s 0) := (Below.refl _ w).alloc (Nat.le_refl _) _
  have hr0 : Aside0 ((headL s).length = 0 + ((s.data.toList.drop 0).takeWhile isD).length) := ⟨by simp [headL]⟩
  go_enter Tryz.func63, Tryz.ntmps63
  go_wp2
  go_loopw [3] (fun _ wr => ∃ pos : Nat, pos ≤ s.size ∧ wr.heap[w.heap.size]? = some (.stringIter s pos) ∧ Below w.heap.size w wr ∧ Aside0 ((headL s).length = pos + ((s.data.toList.drop pos).takeWhile isD).length))
    (fun _ wr => s.size - wr.iterPos w.heap.size)
  case atStart => exact ⟨0, Nat.zero_le _, hk0, hb0, hr0⟩
  case round =>
    obtain ⟨pos, hps, hk, hnx, hr⟩ := hrel
    clear hr0 hk0 hb0
    by_cases hp : pos < s.size
    · by_cases h128 : (s[pos]'hp).toNat < 128
      · have hnext : ∀ ty, (Instr.next (.pointer (some ⟨w.heap.size, 0, none⟩)) true ty).run Tryz.prog wr = _ := fun ty => Lib.run_next_ascii_at wr w.heap.size s pos ty hk hp h128
        have hk1 := Lib.iterAt_heap wr w.heap.size s pos (pos + 1) hk
        have hnx1 : Below w.heap.size w (wr.iterAt w.heap.size s (pos + 1)) := Lib.below_iterAt hnx (by omega) s (pos + 1)
        have hmu : wr.iterPos w.heap.size = pos := by simp [World.iterPos, hk]
        generalize wr.iterAt w.heap.size s (pos + 1) = W1 at hnext hk1 hnx1
        have hd := drop_cons s pos hp
        by_cases hdg : 48 ≤ (s[pos]'hp).toNat ∧ (s[pos]'hp).toNat ≤ 57
        · have hD : isD s[pos] = true := by simp [isD, hdg.1, hdg.2]
          have hr1 : Aside0 ((headL s).length = (pos + 1) + ((s.data.toList.drop (pos + 1)).takeWhile isD).length) := ⟨by
            have := hr.out; rw [hd, List.takeWhile_cons, if_pos hD, List.length_cons] at this; omega⟩
          obtain ⟨g1, g2⟩ := hdg
          clear hd hr hD
          go_wp2
          go_roundw
          case rel => exact ⟨pos + 1, by omega, hk1, hnx1, hr1⟩
          case measure =>
            have hmu2 : W1.iterPos w.heap.size = pos + 1 := by simp [World.iterPos, hk1]
            rw [hmu, hmu2]; omega
        · have hD : isD s[pos] = false := by
            unfold isD
            by_cases g : 48 ≤ (s[pos]'hp).toNat
            · have g' : ¬ (s[pos]'hp).toNat ≤ 57 := fun g' => hdg ⟨g, g'⟩
              simp [g']
            · simp [g]
          have hr1 : Aside0 ((headL s).length = pos) := ⟨by
            have := hr.out; rw [hd, List.takeWhile_cons, if_neg (by simp [hD])] at this; simpa using this⟩
          clear hd hr hD
          by_cases g : 48 ≤ (s[pos]'hp).toNat
          · have g' : ¬ (s[pos]'hp).toNat ≤ 57 := fun g' => hdg ⟨g, g'⟩
            clear hdg
            go_wp2
            go_ret
            exact ⟨by rw [hr1.out]; rfl, hnx1⟩
          · clear hdg
            go_wp2
            go_ret
            exact ⟨by rw [hr1.out]; rfl, hnx1⟩
      · have hhi := (decode_high s pos hp (by omega)).1
        have hnext : ∀ ty, (Instr.next (.pointer (some ⟨w.heap.size, 0, none⟩)) true ty).run Tryz.prog wr = _ := fun ty => Lib.run_next_any_at wr w.heap.size s pos ty hk hp
        have hnx1 : Below w.heap.size w (wr.iterAt w.heap.size s (pos + (Utf8.decode s pos).2)) := Lib.below_iterAt hnx (by omega) s _
        generalize wr.iterAt w.heap.size s (pos + (Utf8.decode s pos).2) = W1 at hnext hnx1
        generalize (Utf8.decode s pos).1 = r at hnext hhi
        have hd := drop_cons s pos hp
        have hD : isD s[pos] = false := by
          unfold isD
          have g' : ¬ (s[pos]'hp).toNat ≤ 57 := by omega
          simp [g']
        have hr1 : Aside0 ((headL s).length = pos) := ⟨by
          have := hr.out; rw [hd, List.takeWhile_cons, if_neg (by simp [hD])] at this; simpa using this⟩
        have g1 : ¬ r < 48 := by omega
        have g2 : ¬ r ≤ 57 := by omega
        clear hd hr hD h128 hk
        go_wp2
        go_ret
        exact ⟨by rw [hr1.out]; rfl, hnx1⟩
    · have hnext : ∀ ty, (Instr.next (.pointer (some ⟨w.heap.size, 0, none⟩)) true ty).run Tryz.prog wr = _ := fun ty => Lib.run_next_end_at wr w.heap.size s pos ty hk hp
      have hr1 : Aside0 ((headL s).length = s.size) := ⟨by
        have := hr.out
        rw [List.drop_eq_nil_of_le (by simp; omega)] at this
        simp at this; omega⟩
      clear hr
      go_wp2
      go_ret
      exact ⟨by rw [hr1.out]; rfl, hnx⟩
end Go.Proofs.YtmcjfnebkpifnaaGreatDoor

/-
  num: Head, Read, ReadHex: what they return.
-/
namespace Go.Proofs.YtmcjfnebkpifnaaGreatDoor
open Go.RowKit Go.Proofs.YtmcjfnebkpifnaaGreatDoorW.PrintWords Go.Proofs.YtmcjfnebkpifnaaGreatDoorW.PrintLast Go.Proofs.YtmcjfnebkpifnaaGreatDoorW.PrintMore
set_option linter.unusedVariables false

/-- What Head answers with. -/
def headR (s : ByteArray) : Int × Int × Int :=
  if (headL s).length = 0 then (0, 0, 2) else if 1 < (headL s).length ∧ (headL s).getD 0 0 = 48 then (0, 0, 2)
  else match Lib.parseUintM 2147483647 0 (headL s) with
    | .ok u => ((u : Int), ((headL s).length : Int), 0)
    | _ => (0, 0, 3)
theorem parse_not_syntax (M : Nat) : ∀ (l : List UInt8) (acc : Nat), (∀ b ∈ l, isD b = true) → Lib.parseUintM M acc l ≠ Lib.NumEnd.syntax
  | [], acc, _ => by simp [Lib.parseUintM]
  | c :: r, acc, h => by
    have hc := h c List.mem_cons_self
    simp only [isD, Bool.and_eq_true, decide_eq_true_eq] at hc
    unfold Lib.parseUintM
    rw [if_pos hc]
    split
    · simp
    · split
      · simp
      · exact parse_not_syntax M r _ (fun b hb => h b (List.mem_cons_of_mem _ hb))
theorem headL_all (s : ByteArray) : ∀ b ∈ headL s, isD b = true := fun b hb => List.all_eq_true.1 (List.all_takeWhile (p := isD) (l := s.data.toList)) b hb
theorem parse_bound (M : Nat) : ∀ (l : List UInt8) (acc u : Nat), acc ≤ M → Lib.parseUintM M acc l = .ok u → u ≤ M
  | [], acc, u, h0, h => by unfold Lib.parseUintM at h; injection h with h; omega
  | c :: r, acc, u, h0, h => by
    unfold Lib.parseUintM at h
    split at h
    · split at h
      · cases h
      · split at h
        · cases h
        · exact parse_bound M r _ u (by omega) h
    · cases h
theorem headL_extract (s : ByteArray) : (s.extract 0 (headL s).length).data.toList = headL s := by
  have h := List.takeWhile_prefix (p := isD) (l := s.data.toList)
  have e := List.prefix_iff_eq_take.1 h
  rw [ByteArray.data_extract, Array.toList_extract]
  simp only [List.extract, Nat.sub_zero, List.drop_zero]
  exact e.symm
theorem headL_first (s : ByteArray) (h : 0 < s.size) (h1 : 0 < (headL s).length) : s[0] = (headL s).getD 0 0 := by
  have hc := drop_cons s 0 h
  rw [List.drop_zero] at hc
  unfold headL at h1 ⊢
  rw [hc] at h1 ⊢
  rw [List.takeWhile_cons] at h1 ⊢
  split
  · rfl
  · rename_i hn; rw [if_neg hn] at h1; simp at h1
theorem byte48 (b : UInt8) : b = 48 ↔ b.toNat = 48 := by
  constructor
  · rintro rfl; rfl
  · intro h; exact UInt8.toNat_inj.1 h

/-- Three numbers, in a world that has grown. -/
def Out3 (w : World) (r : Int × Int × Int) (e : Ending) (w' : World) : Prop := e = .returned (.tuple #[.int .i64 r.1, .int .i64 r.2.1, .int .i64 r.2.2]) ∧ Below w.heap.size w w'
set_option maxHeartbeats 1000000 in
theorem head_calls (s : ByteArray) (hs : s.size ≤ 140737488355328) (w : World) (hE : NumE w) : Calls Tryz.prog 64 #[.string s] w (Out3 w (headR s)) := by
  have HA := Aside0.mk (ahead_calls s w (by omega))
  have hle := headL_le s
  have hall := Aside0.mk (headL_all s)
  have hex := Aside0.mk (headL_extract s)
  have hfst := Aside0.mk (headL_first s)
  unfold headR
  obtain ⟨l, hl⟩ : ∃ l, l = headL s := ⟨_, rfl⟩
  rw [← hl] at HA hle hall hex hfst ⊢
  clear hl
  by_cases h0 : l.length = 0
  · rw [if_pos h0]
    rw [h0] at HA
    clear hE hall hex hle hfst h0
    go_enter Tryz.func64, Tryz.ntmps64
    go_wp2_with (go_at_call 63; refine HA.out.mono ?_; rintro e w1 ⟨rfl, hb⟩)
    refine bodyPost_ret (v := .tuple #[.int .i64 0, .int .i64 0, .int .i64 2]) (by simp [results, Tryz.results64, go_sem]) rfl ⟨rfl, hb⟩
  · rw [if_neg h0]
    have hsz : 0 < s.size := by omega
    by_cases h1 : 1 < l.length ∧ l.getD 0 0 = 48
    · rw [if_pos h1]
      have hb48 : ((s[0]'hsz).toNat : Int) = 48 := by rw [hfst.out hsz (by omega), h1.2]; rfl
      obtain ⟨n, hn⟩ : ∃ n, n = l.length := ⟨_, rfl⟩
      rw [← hn] at HA hle
      have hn1 : 1 < n := by omega
      clear hE hall hex hfst h0 h1 hn
      go_enter Tryz.func64, Tryz.ntmps64
      go_wp2_with (go_at_call 63; refine HA.out.mono ?_; rintro e w1 ⟨rfl, hb⟩)
      refine bodyPost_ret (v := .tuple #[.int .i64 0, .int .i64 0, .int .i64 2]) (by simp [results, Tryz.results64, go_sem]) rfl ⟨rfl, hb⟩
    · rw [if_neg h1]
      have hxs : (s.extract 0 l.length).size ≠ 0 := by
        have := congrArg List.length hex.out
        have e : (s.extract 0 l.length).data.toList.length = (s.extract 0 l.length).size := by simp
        omega
      have hxl : (s.extract 0 l.length).size ≤ 281474976710656 := by simp; omega
      have hns := parse_not_syntax 2147483647 l 0 hall.out
      have hb48 : ¬ (1 < l.length) ∨ (1 < l.length ∧ ¬ ((s[0]'hsz).toNat : Int) = 48) := by
        by_cases h2 : 1 < l.length
        · refine .inr ⟨h2, fun h48 => ?_⟩
          exact h1 ⟨h2, by rw [← hfst.out hsz (by omega)]; exact (byte48 _).2 (by omega)⟩
        · exact .inl h2
      rcases hp : Lib.parseUintM 2147483647 0 l with u | _ | _
      · have hu := parse_bound 2147483647 l 0 u (by omega) hp
        have HP : Aside0 (∀ w1, Calls Tryz.prog 65 #[.string (s.extract 0 l.length), .int .i64 10, .int .i64 31] w1 fun e w' => e = .returned (.tuple #[.int .u64 u, .nilIface]) ∧ Below w1.heap.size w1 w') :=
          ⟨fun w1 => puint31_ok _ hxs hxl u (by rw [hex.out]; exact hp) w1⟩
        obtain ⟨n, hn⟩ : ∃ n, n = l.length := ⟨_, rfl⟩
        rw [← hn] at HA hle hb48 HP ⊢
        have hn0 : ¬ n = 0 := by omega
        have q0 : ((n : Int) == 0) = false := by simp; omega
        clear hE hall hex hfst h0 h1 hn hxs hxl hns hp
        rcases hb48 with hb48 | ⟨hn1, hb48⟩
        all_goals (try have q1 : (((s[0]'hsz).toNat : Int) == 48) = false := by simpa using hb48)
        all_goals
          go_enter Tryz.func64, Tryz.ntmps64
          go_wp2_with (first | (go_at_call 63; refine HA.out.mono ?_; rintro e w1 ⟨rfl, hb⟩) | (go_at_call 65; refine (HP.out _).mono ?_; rintro e w2 ⟨rfl, hb2⟩))
          all_goals refine bodyPost_ret (v := .tuple #[.int .i64 u, .int .i64 n, .int .i64 0]) (by simp [results, Tryz.results64, go_sem]) rfl ⟨rfl, hb.trans (hb2.mono hb.size)⟩
      · exact absurd hp hns
      · have HP : Aside0 (∀ w1, NumE w1 → Calls Tryz.prog 65 #[.string (s.extract 0 l.length), .int .i64 10, .int .i64 31] w1 (ErrOut w1)) :=
          ⟨fun w1 h1 => puint31_range _ hxs hxl (by rw [hex.out]; exact hp) w1 h1⟩
        obtain ⟨n, hn⟩ : ∃ n, n = l.length := ⟨_, rfl⟩
        rw [← hn] at HA hle hb48 HP
        have hn0 : ¬ n = 0 := by omega
        have q0 : ((n : Int) == 0) = false := by simp; omega
        have hE' := Aside0.mk hE
        clear hE hall hex hfst h0 h1 hn hxs hxl hns hp
        rcases hb48 with hb48 | ⟨hn1, hb48⟩
        all_goals (try have q1 : (((s[0]'hsz).toNat : Int) == 48) = false := by simpa using hb48)
        all_goals
          go_enter Tryz.func64, Tryz.ntmps64
          go_wp2_with (first | (go_at_call 63; refine HA.out.mono ?_; rintro e w1 ⟨rfl, hb⟩; replace hb := Aside0.mk hb) | (go_at_call 65; refine (HP.out _ (hE'.out.below hb.out)).mono ?_; rintro e w2 ⟨x, N, rfl, hb2⟩))
          all_goals refine bodyPost_ret (v := .tuple #[.int .i64 0, .int .i64 0, .int .i64 3]) (by simp [results, Tryz.results64, go_sem]) rfl ⟨rfl, hb.out.trans (hb2.mono hb.out.size)⟩

/-- What Read answers with. -/
def readR (s : ByteArray) : Int × Int := if (headL s).length < s.size then (0, 2) else ((headR s).1, (headR s).2.2)
def Out2 (w : World) (r : Int × Int) (e : Ending) (w' : World) : Prop := e = .returned (.tuple #[.int .i64 r.1, .int .i64 r.2]) ∧ Below w.heap.size w w'
theorem read_calls (s : ByteArray) (hs : s.size ≤ 140737488355328) (w : World) (hE : NumE w) : Calls Tryz.prog 46 #[.string s] w (Out2 w (readR s)) := by
  have HA := Aside0.mk (ahead_calls s w (by omega))
  have HH := Aside0.mk (fun w1 h1 => head_calls s hs w1 h1)
  unfold readR
  obtain ⟨n, hn⟩ : ∃ n, n = (headL s).length := ⟨_, rfl⟩
  rw [← hn] at HA ⊢
  clear hn
  obtain ⟨⟨a, b, c⟩, hr⟩ : ∃ r, r = headR s := ⟨_, rfl⟩
  rw [← hr] at HH ⊢
  clear hr
  have hE' := Aside0.mk hE
  clear hE hs
  by_cases hlt : n < s.size
  · rw [if_pos hlt]
    clear HH
    go_enter Tryz.func46, Tryz.ntmps46
    go_wp2_with (go_at_call 63; refine HA.out.mono ?_; rintro e w1 ⟨rfl, hb⟩)
    go_ret2
    exact ⟨rfl, hb⟩
  · rw [if_neg hlt]
    go_enter Tryz.func46, Tryz.ntmps46
    go_wp2_with (first | (go_at_call 63; refine HA.out.mono ?_; rintro e w1 ⟨rfl, hb⟩; replace hb := Aside0.mk hb) | (go_at_call 64; refine (HH.out _ (hE'.out.below hb.out)).mono ?_; rintro e w2 ⟨rfl, hb2⟩))
    go_ret2
    exact ⟨rfl, hb.out.trans (hb2.mono hb.out.size)⟩
end Go.Proofs.YtmcjfnebkpifnaaGreatDoor

/- Printed texts of this seat, cut to what is used. -/
namespace Go.Proofs.YtmcjfnebkpifnaaGreatDoor
open Go.RowKit Go.Proofs.YtmcjfnebkpifnaaGreatDoorW.PrintWords Go.Proofs.YtmcjfnebkpifnaaGreatDoorW.PrintLast Go.Proofs.YtmcjfnebkpifnaaGreatDoorW.PrintMore
open Go.Lib (parseUintM decDigits)
set_option linter.unusedVariables false

theorem head_dig (n : Nat) (h : n ≤ 2147483647) : headL (digS (n : Int)) = decDigits n := by
  unfold headL
  rw [digS_in n h]
  exact takeWhile_all _ _ (dec_all n)
theorem size_list (s : ByteArray) : s.size = s.data.toList.length := by simp
theorem read_dig (n : Nat) (h : n ≤ 2147483647) : readR (digS (n : Int)) = ((n : Int), 0) := by
  have hl := head_dig n h
  have hz : (digS (n : Int)).size = (decDigits n).length := by rw [size_list, digS_in n h]
  have hp : 0 < (decDigits n).length := List.length_pos_iff.2 (dec_ne n)
  unfold readR headR
  rw [hl, hz, if_neg (by omega), if_neg (by omega)]
  have h2 : ¬ (1 < (decDigits n).length ∧ (decDigits n).getD 0 0 = 48) := by
    rintro ⟨h1, h2⟩
    by_cases h9 : n < 10
    · rw [dec_one n h9] at h1; simp at h1
    · exact dec_first n (by omega) h2
  rw [if_neg h2, parse_dec _ (by omega) n h]

theorem isD_of (c : UInt8) (h : isD c = true) : 48 ≤ c.toNat ∧ c.toNat ≤ 57 := by
  unfold isD at h
  simpa using h
end Go.Proofs.YtmcjfnebkpifnaaGreatDoor
