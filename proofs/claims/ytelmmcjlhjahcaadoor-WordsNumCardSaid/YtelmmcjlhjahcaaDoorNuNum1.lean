/-
  num.ahead: what it returns.
-/
import Derived.Test.YtelmmcjlhjahcaaDoorNuErr1
import Derived.Lib.OthersKept
import Derived.Laws.RangeAny
namespace Go.Proofs.YtelmmcjlhjahcaaDoor
open Go.RowKit Go.Proofs.YtelmmcjlhjahcaaDoorW.PrintWords Go.Proofs.YtelmmcjlhjahcaaDoorW.PrintLast Go.Proofs.YtelmmcjlhjahcaaDoorW.PrintMore
set_option linter.unusedVariables false

def isD (b : UInt8) : Bool := decide (48 ≤ b.toNat) && decide (b.toNat ≤ 57)
/-- The digits with which a text begins. -/
def headL (s : ByteArray) : List UInt8 := s.data.toList.takeWhile isD
theorem drop_cons (s : ByteArray) (pos : Nat) (h : pos < s.size) : s.data.toList.drop pos = s[pos] :: s.data.toList.drop (pos + 1) := by
  have hl : pos < s.data.toList.length := by simpa using h
  rw [List.drop_eq_getElem_cons hl]
  rfl
theorem headL_le (s : ByteArray) : (headL s).length ≤ s.size := by
  have h := (List.takeWhile_prefix (p := isD) (l := s.data.toList)).length_le
  have e : s.data.toList.length = s.size := by simp
  unfold headL; omega
set_option maxHeartbeats 1000000 in
theorem ahead_calls (s : ByteArray) (w : World) (hs : s.size ≤ 9223372036854775806) : Calls Tryd.prog 74 #[.string s] w fun e w' => e = .returned (.int .i64 ((headL s).length : Int)) ∧ Below w.heap.size w w' := by
  have hk0 : (w.iter s 0).heap[w.heap.size]? = some (.stringIter s 0) := World.iter_heap w s 0
  have hb0 : Below w.heap.size w (w.iter s 0) := (Below.refl _ w).alloc (Nat.le_refl _) _
  have hr0 : Aside0 ((headL s).length = 0 + ((s.data.toList.drop 0).takeWhile isD).length) := ⟨by simp [headL]⟩
  go_enter Tryd.func74, Tryd.ntmps74
  go_wp2
  go_loopw [3] (fun _ wr => ∃ pos : Nat, pos ≤ s.size ∧ wr.heap[w.heap.size]? = some (.stringIter s pos) ∧ Below w.heap.size w wr ∧ Aside0 ((headL s).length = pos + ((s.data.toList.drop pos).takeWhile isD).length))
    (fun _ wr => s.size - wr.iterPos w.heap.size)
  case atStart => exact ⟨0, Nat.zero_le _, hk0, hb0, hr0⟩
  case round =>
    obtain ⟨pos, hps, hk, hnx, hr⟩ := hrel
    clear hr0 hk0 hb0
    by_cases hp : pos < s.size
    · by_cases h128 : (s[pos]'hp).toNat < 128
      · have hnext : ∀ ty, (Instr.next (.pointer (some ⟨w.heap.size, 0, none⟩)) true ty).run Tryd.prog wr = _ := fun ty => Lib.run_next_ascii_at wr w.heap.size s pos ty hk hp h128
        have hk1 := Lib.iterAt_heap wr w.heap.size s pos (pos + 1) hk
        have hnx1 : Below w.heap.size w (wr.iterAt w.heap.size s (pos + 1)) := Lib.below_iterAt hnx (by omega) s (pos + 1)
        have hmu : wr.iterPos w.heap.size = pos := by simp [World.iterPos, hk]
        generalize wr.iterAt w.heap.size s (pos + 1) = W1 at hnext hk1 hnx1
        have hd := drop_cons s pos hp
        by_cases hdg : 48 ≤ (s[pos]'hp).toNat ∧ (s[pos]'hp).toNat ≤ 57
        · have hD : isD s[pos] = true := by simp [isD, hdg.1, hdg.2]
          have hr1 : Aside0 ((headL s).length = (pos + 1) + ((s.data.toList.drop (pos + 1)).takeWhile isD).length) := ⟨by
            have := hr.out; rw [hd, List.takeWhile_cons, if_pos hD, List.length_cons] at this; omega⟩
          obtain ⟨g1, g2⟩ := hdg
          clear hd hr hD
          go_wp2
          go_roundw
          case rel => exact ⟨pos + 1, by omega, hk1, hnx1, hr1⟩
          case measure =>
            have hmu2 : W1.iterPos w.heap.size = pos + 1 := by simp [World.iterPos, hk1]
            rw [hmu, hmu2]; omega
        · have hD : isD s[pos] = false := by
            unfold isD
            by_cases g : 48 ≤ (s[pos]'hp).toNat
            · have g' : ¬ (s[pos]'hp).toNat ≤ 57 := fun g' => hdg ⟨g, g'⟩
              simp [g']
            · simp [g]
          have hr1 : Aside0 ((headL s).length = pos) := ⟨by
            have := hr.out; rw [hd, List.takeWhile_cons, if_neg (by simp [hD])] at this; simpa using this⟩
          clear hd hr hD
          by_cases g : 48 ≤ (s[pos]'hp).toNat
          · have g' : ¬ (s[pos]'hp).toNat ≤ 57 := fun g' => hdg ⟨g, g'⟩
            clear hdg
            go_wp2
            go_ret
            exact ⟨by rw [hr1.out]; rfl, hnx1⟩
          · clear hdg
            go_wp2
            go_ret
            exact ⟨by rw [hr1.out]; rfl, hnx1⟩
      · have hhi := (decode_high s pos hp (by omega)).1
        have hnext : ∀ ty, (Instr.next (.pointer (some ⟨w.heap.size, 0, none⟩)) true ty).run Tryd.prog wr = _ := fun ty => Lib.run_next_any_at wr w.heap.size s pos ty hk hp
        have hnx1 : Below w.heap.size w (wr.iterAt w.heap.size s (pos + (Utf8.decode s pos).2)) := Lib.below_iterAt hnx (by omega) s _
        generalize wr.iterAt w.heap.size s (pos + (Utf8.decode s pos).2) = W1 at hnext hnx1
        generalize (Utf8.decode s pos).1 = r at hnext hhi
        have hd := drop_cons s pos hp
        have hD : isD s[pos] = false := by
          unfold isD
          have g' : ¬ (s[pos]'hp).toNat ≤ 57 := by omega
          simp [g']
        have hr1 : Aside0 ((headL s).length = pos) := ⟨by
          have := hr.out; rw [hd, List.takeWhile_cons, if_neg (by simp [hD])] at this; simpa using this⟩
        have g1 : ¬ r < 48 := by omega
        have g2 : ¬ r ≤ 57 := by omega
        clear hd hr hD h128 hk
        go_wp2
        go_ret
        exact ⟨by rw [hr1.out]; rfl, hnx1⟩
    · have hnext : ∀ ty, (Instr.next (.pointer (some ⟨w.heap.size, 0, none⟩)) true ty).run Tryd.prog wr = _ := fun ty => Lib.run_next_end_at wr w.heap.size s pos ty hk hp
      have hr1 : Aside0 ((headL s).length = s.size) := ⟨by
        have := hr.out
        rw [List.drop_eq_nil_of_le (by simp; omega)] at this
        simp at this; omega⟩
      clear hr
      go_wp2
      go_ret
      exact ⟨by rw [hr1.out]; rfl, hnx⟩
end Go.Proofs.YtelmmcjlhjahcaaDoor
