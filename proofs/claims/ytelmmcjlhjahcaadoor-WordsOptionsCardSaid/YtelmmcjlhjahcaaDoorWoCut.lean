/-
  words.Cut: what it returns for every line.
-/
import Derived.Test.YtelmmcjlhjahcaaDoorWoCutter
import Derived.Test.YtelmmcjlhjahcaaDoorFault
namespace Go.Proofs.YtelmmcjlhjahcaaDoor
open Go.RowKit Go.Proofs.YtelmmcjlhjahcaaDoorW.PrintWords Go.Proofs.YtelmmcjlhjahcaaDoorW.PrintLast Go.Proofs.YtelmmcjlhjahcaaDoorW.PrintMore
set_option linter.unusedVariables false
set_option linter.unusedSimpArgs false

/-- The loop of Cut, from the byte at i on. -/
def cutL : Nat → List UInt8 → Int → CS → Int × CS
  | _, [], q, s => (q, s)
  | i, [b], q, s => if b.toNat = 92 then (if q < 0 then (i : Int) else q, s)
      else if b.toNat = 34 then (if 0 ≤ q then (-1, s) else (i, { s with begun := true }))
      else if 0 ≤ q then (q, s.putW b.toNat) else (q, s.plainW b.toNat)
  | i, b :: c :: t, q, s => if b.toNat = 92 then cutL (i + 2) t q (s.putW c.toNat)
      else if b.toNat = 34 then (if 0 ≤ q then cutL (i + 1) (c :: t) (-1) s else cutL (i + 1) (c :: t) i { s with begun := true })
      else if 0 ≤ q then cutL (i + 1) (c :: t) q (s.putW b.toNat) else cutL (i + 1) (c :: t) q (s.plainW b.toNat)

theorem cutL_nil (i : Nat) (q : Int) (s : CS) : cutL i [] q s = (q, s) := by rw [cutL]
theorem cutL_slash (i : Nat) (c : UInt8) (t : List UInt8) (q : Int) (s : CS) (b : UInt8) (hb : b.toNat = 92) : cutL i (b :: c :: t) q s = cutL (i + 2) t q (s.putW c.toNat) := by
  rw [cutL, if_pos hb]
theorem cutL_slash1 (i : Nat) (q : Int) (s : CS) (b : UInt8) (hb : b.toNat = 92) : cutL i [b] q s = (if q < 0 then (i : Int) else q, s) := by
  rw [cutL, if_pos hb]
theorem cutL_close (i : Nat) (t : List UInt8) (q : Int) (s : CS) (b : UInt8) (hb : b.toNat = 34) (hq : 0 ≤ q) : cutL i (b :: t) q s = cutL (i + 1) t (-1) s := by
  cases t with
  | nil => rw [cutL_nil, cutL, if_neg (by omega), if_pos hb, if_pos hq]
  | cons c t => rw [cutL, if_neg (by omega), if_pos hb, if_pos hq]
theorem cutL_open (i : Nat) (t : List UInt8) (q : Int) (s : CS) (b : UInt8) (hb : b.toNat = 34) (hq : ¬ 0 ≤ q) : cutL i (b :: t) q s = cutL (i + 1) t i { s with begun := true } := by
  cases t with
  | nil => rw [cutL_nil, cutL, if_neg (by omega), if_pos hb, if_neg hq]
  | cons c t => rw [cutL, if_neg (by omega), if_pos hb, if_neg hq]
theorem cutL_in (i : Nat) (t : List UInt8) (q : Int) (s : CS) (b : UInt8) (hb : b.toNat ≠ 92) (hb' : b.toNat ≠ 34) (hq : 0 ≤ q) : cutL i (b :: t) q s = cutL (i + 1) t q (s.putW b.toNat) := by
  cases t with
  | nil => rw [cutL_nil, cutL, if_neg hb, if_neg hb', if_pos hq]
  | cons c t => rw [cutL, if_neg hb, if_neg hb', if_pos hq]
theorem cutL_out (i : Nat) (t : List UInt8) (q : Int) (s : CS) (b : UInt8) (hb : b.toNat ≠ 92) (hb' : b.toNat ≠ 34) (hq : ¬ 0 ≤ q) : cutL i (b :: t) q s = cutL (i + 1) t q (s.plainW b.toNat) := by
  cases t with
  | nil => rw [cutL_nil, cutL, if_neg hb, if_neg hb', if_neg hq]
  | cons c t => rw [cutL, if_neg hb, if_neg hb', if_neg hq]
theorem drop_at (s : ByteArray) (k : Nat) (h : k < s.size) : s.data.toList.drop k = s[k] :: s.data.toList.drop (k + 1) := by
  rw [List.drop_eq_getElem_cons (by simpa using h)]; rfl

theorem CutAt.mono {w : World} {base g n m : Nat} {s : CS} (h : CutAt w base g n s) (hn : n ≤ m) : CutAt w base g m s := ⟨Nat.le_trans h.1 hn, Nat.le_trans h.2.1 hn, Nat.le_trans h.2.2.1 hn, h.2.2.2⟩

def CS.init : CS := { cmds := [], words := [], word := [], begun := false }

theorem init_at (w : World) : CutAt (w.alloc (.cells #[.slice none 0 0, .slice none 0 0, .slice none 0 0, .bool false] 96)) w.heap.size w.heap.size 0 CS.init :=
  ⟨by simp [CS.init], by simp [CS.init], by simp [CS.init], _, _, _, Nat.le_refl _, heap_alloc_new w _, Kd.R_nil _ _ _ _ _, Kd.R_nil _ _ _ _ _, Kd.R_nil _ _ _ _ _⟩

/-- What the error of a line is: its number, its place. -/
def CutErr (w : World) (base : Nat) (v : Value) (e at_ : Int) : Prop :=
  ∃ g f, v = .iface 83 (.pointer (some ⟨g, 0, none⟩)) ∧ Inside w base g (.iface 77 (.pointer (some ⟨f, 0, none⟩))) [(⟨#[108, 105, 110, 101]⟩ : ByteArray)] ∧ base ≤ f ∧ w.heap[f]? = some (.cells #[.int .i64 e, .int .i64 at_] 81 (0, 0))

set_option maxHeartbeats 4000000 in
theorem cut_calls (s : ByteArray) (w : World) (hs : s.size ≤ 4096) :
    Calls Tryd.prog 23 #[.string s] w fun e w' => Below w.heap.size w w' ∧
      (0 ≤ (cutL 0 s.data.toList (-1) CS.init).1 → ∃ v, e = .returned (.tuple #[.slice none 0 0, v]) ∧ CutErr w' w.heap.size v 2 (cutL 0 s.data.toList (-1) CS.init).1) ∧
      ((cutL 0 s.data.toList (-1) CS.init).1 < 0 → ∃ A n c, e = .returned (.tuple #[.slice A n c, .nilIface]) ∧ (Kd.slice 9 Kd.string).R 36 w' w.heap.size (fun _ => True) (.slice A n c) (cutL 0 s.data.toList (-1) CS.init).2.commandW.cmds ∧ (cutL 0 s.data.toList (-1) CS.init).2.commandW.cmds.length ≤ 10000) := by
  obtain ⟨r, hr⟩ : ∃ r, r = cutL 0 s.data.toList (-1) CS.init := ⟨_, rfl⟩
  rw [← hr]
  have HR := Aside0.mk hr
  clear hr
  have hd : decide ((4096 : Int) < (s.size : Int)) = false := decide_eq_false (by omega)
  have HI := Aside0.mk (init_at w)
  have HB := Aside0.mk (below_alloc (Below.refl w.heap.size w) (.cells #[.slice none 0 0, .slice none 0 0, .slice none 0 0, .bool false] 96))
  go_enter Tryd.func23, Tryd.ntmps23
  go_wp2
  go_loopw [5, 6] (fun q i wr => ∃ (k : Nat) (x : Int) (t : CS), i = .int .i64 k ∧ q = .int .i64 x ∧ k ≤ s.size + 1 ∧ Aside0 (cutL k (s.data.toList.drop k) x t = r) ∧ CutAt wr w.heap.size w.heap.size (2 * k) t ∧ Below w.heap.size w wr) (fun _ i _ => s.size + 1 - (intOf i).toNat)
  case atStart => exact ⟨0, -1, CS.init, rfl, rfl, by omega, ⟨HR.out.symm⟩, HI.out, HB.out⟩
  case round =>
    obtain ⟨k, x, t, rfl, rfl, hk, hL, hC, hB⟩ := hrel
    have HC := Aside0.mk hC
    have HB := Aside0.mk hB
    have hsz := hB.size
    clear hC hB
    by_cases hlt : k < s.size
    · have hD := drop_at s k hlt
      have hby := UInt8.toNat_lt s[k]
      by_cases h92 : s[k].toNat = 92
      · have h92b : ((s[k].toNat : Int) == 92) = true := beq_iff_eq.2 (by omega)
        by_cases hlast : k + 1 = s.size
        · have hD1 : s.data.toList.drop (k + 1) = [] := List.drop_eq_nil_of_le (by simp; exact Nat.le_of_eq hlast.symm)
          have HL : Aside0 ((if x < 0 then (k : Int) else x, t) = r) := ⟨by rw [← hL.out, hD, hD1, cutL_slash1 _ _ _ _ h92]⟩
          have hl2 : ((k : Int) + 1 == (s.size : Int)) = true := beq_iff_eq.2 (by omega)
          have HN : Aside0 (s.data.toList.drop (k + 1 + 1) = []) := ⟨List.drop_eq_nil_of_le (by simp; exact Nat.le_succ_of_le (Nat.le_of_eq hlast.symm))⟩
          have HK := Aside0.mk hlast
          have hk2 : k + 1 ≤ s.size := by omega
          clear hL hD h92 hD1 hlast
          by_cases hx : x < 0
          · have hxb : decide (x < 0) = true := decide_eq_true hx
            have HL2 : Aside0 (cutL (k + 2) [] (k : Int) t = r) := ⟨by rw [← HL.out, if_pos hx, cutL_nil]⟩
            clear HL hx
            go_wp2
            go_roundw
            case rel => exact ⟨k + 2, k, t, by go_num, by go_num, by omega, ⟨by rw [HN.out]; exact HL2.out⟩, HC.out.mono (by omega), HB.out⟩
            case measure => simp [intOf]; omega
          · have hxb : decide (x < 0) = false := decide_eq_false hx
            have HL2 : Aside0 (cutL (k + 2) [] x t = r) := ⟨by rw [← HL.out, if_neg hx, cutL_nil]⟩
            clear HL hx
            go_wp2
            go_roundw
            case rel => exact ⟨k + 2, x, t, by go_num, rfl, by omega, ⟨by rw [HN.out]; exact HL2.out⟩, HC.out.mono (by omega), HB.out⟩
            case measure => simp [intOf]; omega
        · have hlt2 : k + 1 < s.size := by omega
          have hl2 : ((k : Int) + 1 == (s.size : Int)) = false := beq_eq_false_iff_ne.2 (by omega)
          have hD1 := drop_at s (k + 1) hlt2
          have HL : Aside0 (cutL (k + 2) (s.data.toList.drop (k + 2)) x (t.putW s[k + 1].toNat) = r) := ⟨by rw [← hL.out, hD, hD1, cutL_slash _ _ _ _ _ _ h92]⟩
          have hby2 := UInt8.toNat_lt s[k + 1]
          clear hL hD h92 hD1 hlast
          go_wp2_with (go_at_call 45; refine (put_at wr _ _ _ t (s[k + 1].toNat : Int) (by omega) (by omega) HC.out (by omega) (by omega)).mono ?_; rintro e w' ⟨rfl, hq⟩)
          go_roundw
          case rel => exact ⟨k + 2, x, _, by go_num, rfl, by omega, HL, hq.1.mono (by omega), HB.out.trans hq.2⟩
          case measure => simp [intOf]; omega
      · have h92b : ((s[k].toNat : Int) == 92) = false := beq_eq_false_iff_ne.2 (by omega)
        by_cases h34 : s[k].toNat = 34
        · have h34b : ((s[k].toNat : Int) == 34) = true := beq_iff_eq.2 (by omega)
          by_cases hx : 0 ≤ x
          · have hxb : decide (0 ≤ x) = true := decide_eq_true hx
            have HL : Aside0 (cutL (k + 1) (s.data.toList.drop (k + 1)) (-1) t = r) := ⟨by rw [← hL.out, hD, cutL_close _ _ _ _ _ h34 hx]⟩
            clear hL hD h92 h34
            go_wp2
            go_roundw
            case rel => exact ⟨k + 1, -1, t, by go_num, rfl, by omega, HL, HC.out.mono (by omega), HB.out⟩
            case measure => simp [intOf]; omega
          · have hxb : decide (0 ≤ x) = false := decide_eq_false hx
            have HL : Aside0 (cutL (k + 1) (s.data.toList.drop (k + 1)) k { t with begun := true } = r) := ⟨by rw [← hL.out, hD, cutL_open _ _ _ _ _ h34 hx]⟩
            obtain ⟨l1, l2, l3, vC, vW, vB, c⟩ := HC.out
            have c3 : wr.cell? ⟨w.heap.size, 3, none⟩ = some (.bool t.begun) := by rw [blk_cell c.blk]; rfl
            have e3 : wr.frozen? ⟨w.heap.size, 3, none⟩ = false := blk_frozen c.blk 3
            have F1 : Aside0 (CutAt (wr.setCell ⟨w.heap.size, 3, none⟩ (.bool true)) w.heap.size w.heap.size (2 * k) { t with begun := true }) :=
              ⟨⟨l1, l2, l3, vC, vW, vB, c.hg, blk_set c.blk 3 (.bool true), Kd.R_set c.rC c.blk (by decide) _ _, Kd.R_set c.rW c.blk (by decide) _ _, Kd.R_set c.rB c.blk (by decide) _ _⟩⟩
            have F2 : Aside0 (Below w.heap.size w (wr.setCell ⟨w.heap.size, 3, none⟩ (.bool true))) := ⟨HB.out.setCell (Nat.le_refl _) _⟩
            clear hL hD h92 h34 c hx l1 l2 l3
            go_wp2
            go_roundw
            case rel => exact ⟨k + 1, k, _, by go_num, rfl, by omega, HL, F1.out.mono (by omega), F2.out⟩
            case measure => simp [intOf]; omega
        · have h34b : ((s[k].toNat : Int) == 34) = false := beq_eq_false_iff_ne.2 (by omega)
          by_cases hx : 0 ≤ x
          · have hxb : decide (0 ≤ x) = true := decide_eq_true hx
            have HL : Aside0 (cutL (k + 1) (s.data.toList.drop (k + 1)) x (t.putW s[k].toNat) = r) := ⟨by rw [← hL.out, hD, cutL_in _ _ _ _ _ h92 h34 hx]⟩
            clear hL hD h92 h34 hx
            go_wp2_with (go_at_call 45; refine (put_at wr _ _ _ t (s[k].toNat : Int) (by omega) (by omega) HC.out (by omega) (by omega)).mono ?_; rintro e w' ⟨rfl, hq⟩)
            go_roundw
            case rel => exact ⟨k + 1, x, _, by go_num, rfl, by omega, HL, hq.1.mono (by omega), HB.out.trans hq.2⟩
            case measure => simp [intOf]; omega
          · have hxb : decide (0 ≤ x) = false := decide_eq_false hx
            have HL : Aside0 (cutL (k + 1) (s.data.toList.drop (k + 1)) x (t.plainW s[k].toNat) = r) := ⟨by rw [← hL.out, hD, cutL_out _ _ _ _ _ h92 h34 hx]⟩
            clear hL hD h92 h34 hx
            go_wp2_with (go_at_call 46; refine (plain_calls wr _ _ _ t (s[k].toNat : Int) (by omega) (by omega) HC.out (by omega) (by omega)).mono ?_; rintro e w' ⟨rfl, hq⟩)
            go_roundw
            case rel => exact ⟨k + 1, x, _, by go_num, rfl, by omega, HL, hq.1.mono (by omega), HB.out.trans hq.2⟩
            case measure => simp [intOf]; omega
    · have hN : s.data.toList.drop k = [] := List.drop_eq_nil_of_le (by simp; exact Nat.le_of_not_lt hlt)
      have HL : Aside0 ((x, t) = r) := ⟨by rw [← hL.out, hN, cutL_nil]⟩
      have hkb : decide ((k : Int) < (s.size : Int)) = false := decide_eq_false (by omega)
      clear hL hN
      by_cases hx : 0 ≤ x
      · have hxb : decide (0 ≤ x) = true := decide_eq_true hx
        go_wp2_with fail
        refine (new_calls 2 x wr rfl).mono ?_
        rintro e w1 ⟨rfl, rfl⟩
        have HE := Aside0.mk (in_calls 77 (.pointer (some ⟨wr.heap.size, 0, none⟩)) ⟨wr.heap.size + 1, 0, none⟩ 1 1 [(⟨#[108, 105, 110, 101]⟩ : ByteArray)] ((wr.alloc (.cells #[.int .i64 2, .int .i64 x] 81)).alloc (.cells #[.string ((⟨#[108, 105, 110, 101]⟩ : ByteArray))] 9)) rfl (by omega) (by omega) (by omega) (by
          have := litC (wr.alloc (.cells #[.int .i64 2, .int .i64 x] 81)) 9 [(⟨#[108, 105, 110, 101]⟩ : ByteArray)] (by decide)
          simpa [encs] using this))
        have hblk : ((wr.alloc (.cells #[.int .i64 2, .int .i64 x] 81)).alloc (.cells #[.string ((⟨#[108, 105, 110, 101]⟩ : ByteArray))] 9)).heap[wr.heap.size]? = some (.cells #[.int .i64 2, .int .i64 x] 81 (0, 0)) := by
          rw [Below.heap_alloc _ _ _ (by simp)]; exact heap_alloc_new wr _
        have HW : Aside0 (Below w.heap.size w ((wr.alloc (.cells #[.int .i64 2, .int .i64 x] 81)).alloc (.cells #[.string ((⟨#[108, 105, 110, 101]⟩ : ByteArray))] 9))) := ⟨(HB.out.alloc hsz _).alloc (by simp; omega) _⟩
        have HK := Aside0.mk hblk
        clear hblk
        go_wp2_with fail
        refine HE.out.mono ?_
        rintro e w2 ⟨gg, rfl, hin, hb2⟩
        have hF : CutErr w2 w.heap.size (.iface 83 (.pointer (some ⟨gg, 0, none⟩))) 2 x := by
          obtain ⟨k1, v, k2, k3⟩ := hin
          exact ⟨gg, wr.heap.size, rfl, ⟨by simp at k1; omega, v, k2, Kd.R_lower k3 (by simp; omega)⟩, by omega, (hb2.block _ (by simp; omega)).trans HK.out⟩
        have HF := Aside0.mk hF
        have HB2 : Aside0 (Below w.heap.size w w2) := ⟨HW.out.trans (hb2.mono (by simp; omega))⟩
        clear hF hin hb2
        go_wp2
        go_ret2
        refine ⟨HB2.out, fun _ => ⟨_, rfl, ?_⟩, fun h => absurd h ?_⟩
        · have := HF.out; rw [← HL.out]; exact this
        · rw [← HL.out]; show ¬ x < 0; omega
      · have hxb : decide (0 ≤ x) = false := decide_eq_false hx
        go_wp2_with fail
        refine (command_calls wr _ _ _ t HC.out (by omega) (by omega)).mono ?_
        rintro e w1 ⟨rfl, hc, hb⟩
        obtain ⟨hlen, _, _, vC, vW, vB, c⟩ := hc
        have HLEN := Aside0.mk hlen
        clear hlen
        obtain ⟨A, m, c', rfl⟩ := sl_of_R c.rC
        have c0 : w1.cell? ⟨w.heap.size, 0, none⟩ = some (.slice A m c') := by rw [blk_cell c.blk]; rfl
        have RC : Aside0 ((Kd.slice 9 Kd.string).R 36 w1 w.heap.size (fun _ => True) (.slice A m c') t.commandW.cmds) := ⟨Kd.R_mono c.rC (fun _ _ => trivial)⟩
        have HB2 : Aside0 (Below w.heap.size w w1) := ⟨HB.out.trans hb⟩
        clear c hb
        go_wp2
        go_ret2
        refine ⟨HB2.out, fun h => absurd h ?_, fun _ => ⟨_, _, _, rfl, ?_, ?_⟩⟩
        · rw [← HL.out]; show ¬ 0 ≤ x; omega
        · have := RC.out; rw [← HL.out]; exact this
        · have := HLEN.out; rw [← HL.out]; show t.commandW.cmds.length ≤ _; omega
end Go.Proofs.YtelmmcjlhjahcaaDoor
