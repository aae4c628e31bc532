/-
  Joined texts: PsTot, NuFmt, Shelf.
-/
import Derived.Test.YtkobpbbegalfpaaGreatDoorPsAll
import Derived.Test.YtkobpbbegalfpaaGreatDoorPsBase
import Derived.Handy
import Derived.Laws.BitsLemmas
import Derived.Lib.ConvBytes
import Derived.Laws.IdiomStrings
import Derived.Shelf.Strings.Builder1
import Derived.Shelf.Strings.Builder2
import Derived.Shelf.Strings.OnBuilder
import Derived.Shelf.Strings.BuilderF
import Derived.Shelf.Strconv.Itoa0
import Derived.Shelf.Strconv.Itoa1
import Derived.Shelf.LaysM
import Derived.Shelf.Strconv.Itoa2
import Derived.Shelf.Strconv.Itoa3
import Derived.Shelf.Strconv.Clone
import Derived.Shelf.Strconv.SyntaxError
import Derived.Shelf.LaysC
import Derived.Shelf.Strconv.ToError
import Derived.Shelf.Strconv.RangeError
import Derived.Shelf.Strconv.ToErrorRange
import Derived.Shelf.Strings.Prefix
import Derived.Shelf.Bits.Mul64
import Derived.Shelf.Strings.Repeat
import Derived.Test.YtkobpbbegalfpaaGreatDoorProg
/-
 A cell is always read in so many steps. Pure.
-/
namespace Go.Proofs.YtkobpbbegalfpaaGreatDoor
open Go.RowKit Go.Proofs.YtkobpbbegalfpaaGreatDoorW.PrintWords Go.Proofs.YtkobpbbegalfpaaGreatDoorW.PrintLast Go.Proofs.YtkobpbbegalfpaaGreatDoorW.PrintMore Go.Proofs.YtkobpbbegalfpaaGreatDoor.PParseBodies
set_option linter.unusedVariables false

theorem total (hd : ByteArray → Int × Int × Int) (hb : HeadB hd) (s : ByteArray) : ∀ n,
  (∀ i deep k, s.size - i ≤ n → i ≤ s.size → 2 * n + 3 ≤ k → cellP hd s k i deep ≠ none) ∧
  (∀ c deep i k, s.size - i ≤ n → i < s.size → ¬ c = 0 → 2 * n + 3 ≤ k → kidsP hd s k c deep i ≠ none) ∧
  (∀ c deep out j k, s.size - j ≤ n → j ≤ s.size → ¬ c = 0 → 2 * n + 3 ≤ k → loopP hd s k c deep out j ≠ none) := by
 intro n
 induction n using Nat.strongRecOn with
 | ind n ih =>
  refine ⟨?_, ?_, ?_⟩
  ·intro i deep k hn hi hk
   obtain ⟨k, rfl⟩ : ∃ k', k = k' + 1 := ⟨k - 1, by omega⟩
   rw [cellP]
   cases hr : rectP hd s i with
   | error q => simp
   | ok r =>
    have g1 := rectP_gt hr
    have g2 := rectP_le hb hi hr
    simp only
    by_cases h1 : aheadI s r.2 = 123
    ·rw [if_pos h1]
     have hl := aheadI_lt (by decide) h1
     have := (ih (n - 1) (by omega)).2.1 125 deep r.2 k (by omega) hl (by decide) (by omega)
     cases hk2 : kidsP hd s k 125 deep r.2 with
     | none => exact absurd hk2 this
     | some x => cases x <;> simp
    ·rw [if_neg h1]
     by_cases h2 : aheadI s r.2 = 91
     ·rw [if_pos h2]
      have hl := aheadI_lt (by decide) h2
      have := (ih (n - 1) (by omega)).2.1 93 deep r.2 k (by omega) hl (by decide) (by omega)
      cases hk2 : kidsP hd s k 93 deep r.2 with
      | none => exact absurd hk2 this
      | some x => cases x <;> simp
     ·rw [if_neg h2]
      cases eatP s r.2 44 with
      | error q => simp
      | ok a =>
       simp only
       cases numP hd s a <;> simp
  ·intro c deep i k hn hi hc hk
   obtain ⟨k, rfl⟩ : ∃ k', k = k' + 1 := ⟨k - 1, by omega⟩
   rw [kidsP]
   by_cases hdp : 1000 ≤ deep
   ·rw [if_pos hdp]; simp
   ·rw [if_neg hdp]
    have h1 := (ih (n - 1) (by omega)).1 (i + 1) (deep + 1) k (by omega) (by omega) (by omega)
    cases hc2 : cellP hd s k (i + 1) (deep + 1) with
    | none => exact absurd hc2 h1
    | some x =>
     cases x with
     | error q => simp
     | ok p =>
      have hp := (places hd hb s k).1 (i + 1) (deep + 1) p (by omega) hc2
      simp only
      exact (ih (n - 1) (by omega)).2.2 c deep [p.1] p.2 k (by omega) hp.2 hc (by omega)
  ·intro c deep out j k hn hj hc hk
   obtain ⟨k, rfl⟩ : ∃ k', k = k' + 1 := ⟨k - 1, by omega⟩
   rw [loopP]
   by_cases hcn : out.length < 2 ∨ ¬ aheadI s j = c
   ·rw [if_pos hcn]
    cases he : eatP s j 44 with
    | error q => simp
    | ok a =>
     obtain ⟨e1, e2, _⟩ := eatP_le (by decide) he
     simp only
     have h1 := (ih (n - 1) (by omega)).1 a (deep + 1) k (by omega) (by omega) (by omega)
     cases hc2 : cellP hd s k a (deep + 1) with
     | none => exact absurd hc2 h1
     | some x =>
      cases x with
      | error q => simp
      | ok p =>
       have hp := (places hd hb s k).1 a (deep + 1) p (by omega) hc2
       simp only
       exact (ih (n - 1) (by omega)).2.2 c deep (out ++ [p.1]) p.2 k (by omega) hp.2 hc (by omega)
   ·rw [if_neg hcn]; simp
/-- What a text's first cell comes to. -/
theorem cellP_some (hd : ByteArray → Int × Int × Int) (hb : HeadB hd) (s : ByteArray) : ∃ r, cellP hd s (2 * s.size + 3) 0 1 = some r :=
 Option.ne_none_iff_exists'.1 ((total hd hb s s.size).1 0 1 _ (by omega) (Nat.zero_le _) (Nat.le_refl _))
end Go.Proofs.YtkobpbbegalfpaaGreatDoor

/-
 internal/strconv.formatBits at base 16 and a number of 16 bits.
-/
namespace Go.Proofs.YtkobpbbegalfpaaGreatDoor
open Go.RowKit Go.Proofs.YtkobpbbegalfpaaGreatDoorW.PrintWords Go.Proofs.YtkobpbbegalfpaaGreatDoorW.PrintLast Go.Proofs.YtkobpbbegalfpaaGreatDoorW.PrintMore
set_option linter.unusedVariables false

theorem tz64_calls (w : World) (h : w.cell? ⟨6, 15, none⟩ = some (.int .u8 4)) : Calls Tryz.prog 152 #[.int .u64 16] w fun e w' => e = .returned (.int .i64 4) ∧ w' = w := by
 have hz : IntKind.u64.wrap (bits .and .u64 16 (IntKind.u64.wrap (-16)) * 285870213051353865) / 288230376151711744 = 15 := by kernel_rfl
 go_enter Tryz.func152, Tryz.ntmps152
 go_wp2
 go_ret
 exact ⟨rfl, rfl⟩
theorem tz_calls (w : World) (h : w.cell? ⟨6, 15, none⟩ = some (.int .u8 4)) : Calls Tryz.prog 147 #[.int .u64 16] w fun e w' => e = .returned (.int .i64 4) ∧ w' = w := by
 go_enter Tryz.func147, Tryz.ntmps147
 go_wp2_with (go_at_call 152; refine (tz64_calls _ h).mono ?_; rintro e w' ⟨rfl, rfl⟩)
 go_ret
 exact ⟨rfl, rfl⟩
theorem pow_calls (w : World) : Calls Tryz.prog 146 #[.int .i64 16] w fun e w' => e = .returned (.bool true) ∧ w' = w := by
 go_enter Tryz.func146, Tryz.ntmps146
 go_wp2
 go_ret
 exact ⟨rfl, rfl⟩

/-- A digit of base 16. -/
def dgt (k : Int) : UInt8 := [48, 49, 50, 51, 52, 53, 54, 55, 56, 57, 97, 98, 99, 100, 101, 102].getD k.toNat 0
theorem dgt_tab (k : Int) (h0 : 0 ≤ k) (h1 : k < 16) (h : k.toNat < (⟨#[48, 49, 50, 51, 52, 53, 54, 55, 56, 57, 97, 98, 99, 100, 101, 102, 103, 104, 105, 106, 107, 108, 109, 110, 111, 112, 113, 114, 115, 116, 117, 118, 119, 120, 121, 122]⟩ : ByteArray).size) : (⟨#[48, 49, 50, 51, 52, 53, 54, 55, 56, 57, 97, 98, 99, 100, 101, 102, 103, 104, 105, 106, 107, 108, 109, 110, 111, 112, 113, 114, 115, 116, 117, 118, 119, 120, 121, 122]⟩ : ByteArray)[k.toNat] = dgt k := by
 obtain ⟨m, rfl⟩ := Int.eq_ofNat_of_zero_le h0
 have hm : m < 16 := by omega
 match m, hm with
 | 0, _ => rfl
 | 1, _ => rfl
 | 2, _ => rfl
 | 3, _ => rfl
 | 4, _ => rfl
 | 5, _ => rfl
 | 6, _ => rfl
 | 7, _ => rfl
 | 8, _ => rfl
 | 9, _ => rfl
 | 10, _ => rfl
 | 11, _ => rfl
 | 12, _ => rfl
 | 13, _ => rfl
 | 14, _ => rfl
 | 15, _ => rfl
theorem mask4 (n : Int) (h0 : 0 ≤ n) (h1 : n < 65536) : bits .and .u64 n 15 = n % 16 :=
 bits_mask .u64 16 (by decide) (fun n h0 h1 => by rw [IntKind.wrap_u64]; omega) 4 (by decide) n h0 h1

theorem conv1 (W : World) (b o c : Nat) (d : UInt8) (h : W.cell? ⟨b, o, none⟩ = some (.int .u8 (d.toNat : Int))) :
  (convert 64 9 (.slice (some ⟨b, o, none⟩) 1 c)).run Tryz.prog W = .ok (.string ⟨#[d]⟩) W :=
 run_convert_bytes_back (P := Tryz.prog) W 64 9 5 ⟨b, o, none⟩ c [d] Tryz.underlying64 Tryz.underlying5 Tryz.underlying9 (fun j hj => by
  match j, hj with
  | 0, _ => exact h)
theorem conv2 (W : World) (b o c : Nat) (d e : UInt8) (h : W.cell? ⟨b, o, none⟩ = some (.int .u8 (d.toNat : Int))) (h1 : W.cell? ⟨b, o + 1, none⟩ = some (.int .u8 (e.toNat : Int))) :
  (convert 64 9 (.slice (some ⟨b, o, none⟩) 2 c)).run Tryz.prog W = .ok (.string ⟨#[d, e]⟩) W :=
 run_convert_bytes_back (P := Tryz.prog) W 64 9 5 ⟨b, o, none⟩ c [d, e] Tryz.underlying64 Tryz.underlying5 Tryz.underlying9 (fun j hj => by
  match j, hj with
  | 0, _ => exact h
  | 1, _ => exact h1)
theorem conv3 (W : World) (b o c : Nat) (d e f : UInt8) (h : W.cell? ⟨b, o, none⟩ = some (.int .u8 (d.toNat : Int))) (h1 : W.cell? ⟨b, o + 1, none⟩ = some (.int .u8 (e.toNat : Int))) (h2 : W.cell? ⟨b, o + 2, none⟩ = some (.int .u8 (f.toNat : Int))) :
  (convert 64 9 (.slice (some ⟨b, o, none⟩) 3 c)).run Tryz.prog W = .ok (.string ⟨#[d, e, f]⟩) W :=
 run_convert_bytes_back (P := Tryz.prog) W 64 9 5 ⟨b, o, none⟩ c [d, e, f] Tryz.underlying64 Tryz.underlying5 Tryz.underlying9 (fun j hj => by
  match j, hj with
  | 0, _ => exact h
  | 1, _ => exact h1
  | 2, _ => exact h2)
theorem conv4 (W : World) (b o c : Nat) (d e f g : UInt8) (h : W.cell? ⟨b, o, none⟩ = some (.int .u8 (d.toNat : Int))) (h1 : W.cell? ⟨b, o + 1, none⟩ = some (.int .u8 (e.toNat : Int))) (h2 : W.cell? ⟨b, o + 2, none⟩ = some (.int .u8 (f.toNat : Int))) (h3 : W.cell? ⟨b, o + 3, none⟩ = some (.int .u8 (g.toNat : Int))) :
  (convert 64 9 (.slice (some ⟨b, o, none⟩) 4 c)).run Tryz.prog W = .ok (.string ⟨#[d, e, f, g]⟩) W :=
 run_convert_bytes_back (P := Tryz.prog) W 64 9 5 ⟨b, o, none⟩ c [d, e, f, g] Tryz.underlying64 Tryz.underlying5 Tryz.underlying9 (fun j hj => by
  match j, hj with
  | 0, _ => exact h
  | 1, _ => exact h1
  | 2, _ => exact h2
  | 3, _ => exact h3)
/-- A cell of the block that was just made. -/
theorem made_cell (w : World) (C : Array Value) (t : TypeId) (o : Nat) : (w.alloc (.cells C t)).cell? ⟨w.heap.size, o, none⟩ = C[o]? := cell_of_row _ _ _ _ _ _ (heap_alloc_new w _)

set_option maxRecDepth 100000 in
set_option maxHeartbeats 4000000 in
theorem fbits1_calls (n : Int) (h0 : 0 ≤ n) (h1 : n < 16) (w : World) (h : ∀ o, (w.alloc o).cell? ⟨6, 15, none⟩ = some (.int .u8 4)) :
  Calls Tryz.prog 131 #[.slice none 0 0, .int .u64 n, .int .i64 16, .bool false, .bool false] w fun e w' => e = .returned (.tuple #[.slice none 0 0, .string ⟨#[dgt n]⟩]) ∧ Below w.heap.size w w' := by
 have hl0 : 0 ≤ n := by omega
 have hg0 : n < 16 := by omega
 clear h0 h1
 go_enter Tryz.func131, Tryz.ntmps131
 go_wp2_with (first | (go_at_call 147; refine (tz_calls _ (h _)).mono ?_; rintro e w' ⟨rfl, rfl⟩) | (go_at_call 146; refine (pow_calls _).mono ?_; rintro e w' ⟨rfl, rfl⟩))
 refine wp_loop_rounds 1 ?_
 repeat any_goals (rw [rounds_succ]; go_wp2)
 rw [conv1 _ _ 64 _ (dgt n) ?_]
 ·go_wp2
  go_ret2
  exact ⟨rfl, (Below.refl _ _).alloc (Nat.le_refl _) _⟩
 all_goals (rw [made_cell]; simp (disch := omega) [Array.getElem?_setIfInBounds, dgt_tab])

set_option maxRecDepth 100000 in
set_option maxHeartbeats 4000000 in
theorem fbits2_calls (n : Int) (h0 : 16 ≤ n) (h1 : n < 256) (w : World) (h : ∀ o, (w.alloc o).cell? ⟨6, 15, none⟩ = some (.int .u8 4)) :
  Calls Tryz.prog 131 #[.slice none 0 0, .int .u64 n, .int .i64 16, .bool false, .bool false] w fun e w' => e = .returned (.tuple #[.slice none 0 0, .string ⟨#[dgt (n / 16), dgt (n % 16)]⟩]) ∧ Below w.heap.size w w' := by
 have hm0 : bits .and .u64 n 15 = n % 16 := mask4 _ (by omega) (by omega)
 have hl0 : 0 ≤ n := by omega
 have hg0 : 16 ≤ n := by omega
 have hq0 : 0 ≤ n % 16 := by omega
 have hr0 : n % 16 < 16 := by omega
 have hl1 : 0 ≤ n / 16 := by omega
 have hg1 : n / 16 < 16 := by omega
 clear h0 h1
 go_enter Tryz.func131, Tryz.ntmps131
 go_wp2_with (first | (go_at_call 147; refine (tz_calls _ (h _)).mono ?_; rintro e w' ⟨rfl, rfl⟩) | (go_at_call 146; refine (pow_calls _).mono ?_; rintro e w' ⟨rfl, rfl⟩))
 refine wp_loop_rounds 2 ?_
 repeat any_goals (rw [rounds_succ]; go_wp2)
 rw [conv2 _ _ 63 _ (dgt (n / 16)) (dgt (n % 16)) ?_ ?_]
 ·go_wp2
  go_ret2
  exact ⟨rfl, (Below.refl _ _).alloc (Nat.le_refl _) _⟩
 all_goals (rw [made_cell]; simp (disch := omega) [Array.getElem?_setIfInBounds, dgt_tab])

set_option maxRecDepth 100000 in
set_option maxHeartbeats 4000000 in
theorem fbits3_calls (n : Int) (h0 : 256 ≤ n) (h1 : n < 4096) (w : World) (h : ∀ o, (w.alloc o).cell? ⟨6, 15, none⟩ = some (.int .u8 4)) :
  Calls Tryz.prog 131 #[.slice none 0 0, .int .u64 n, .int .i64 16, .bool false, .bool false] w fun e w' => e = .returned (.tuple #[.slice none 0 0, .string ⟨#[dgt (n / 16 / 16), dgt (n / 16 % 16), dgt (n % 16)]⟩]) ∧ Below w.heap.size w w' := by
 have hm0 : bits .and .u64 n 15 = n % 16 := mask4 _ (by omega) (by omega)
 have hm1 : bits .and .u64 (n / 16) 15 = n / 16 % 16 := mask4 _ (by omega) (by omega)
 have hl0 : 0 ≤ n := by omega
 have hg0 : 16 ≤ n := by omega
 have hq0 : 0 ≤ n % 16 := by omega
 have hr0 : n % 16 < 16 := by omega
 have hl1 : 0 ≤ n / 16 := by omega
 have hg1 : 16 ≤ n / 16 := by omega
 have hq1 : 0 ≤ n / 16 % 16 := by omega
 have hr1 : n / 16 % 16 < 16 := by omega
 have hl2 : 0 ≤ n / 16 / 16 := by omega
 have hg2 : n / 16 / 16 < 16 := by omega
 clear h0 h1
 go_enter Tryz.func131, Tryz.ntmps131
 go_wp2_with (first | (go_at_call 147; refine (tz_calls _ (h _)).mono ?_; rintro e w' ⟨rfl, rfl⟩) | (go_at_call 146; refine (pow_calls _).mono ?_; rintro e w' ⟨rfl, rfl⟩))
 refine wp_loop_rounds 3 ?_
 repeat any_goals (rw [rounds_succ]; go_wp2)
 rw [conv3 _ _ 62 _ (dgt (n / 16 / 16)) (dgt (n / 16 % 16)) (dgt (n % 16)) ?_ ?_ ?_]
 ·go_wp2
  go_ret2
  exact ⟨rfl, (Below.refl _ _).alloc (Nat.le_refl _) _⟩
 all_goals (rw [made_cell]; simp (disch := omega) [Array.getElem?_setIfInBounds, dgt_tab])

set_option maxRecDepth 100000 in
set_option maxHeartbeats 4000000 in
theorem fbits4_calls (n : Int) (h0 : 4096 ≤ n) (h1 : n < 65536) (w : World) (h : ∀ o, (w.alloc o).cell? ⟨6, 15, none⟩ = some (.int .u8 4)) :
  Calls Tryz.prog 131 #[.slice none 0 0, .int .u64 n, .int .i64 16, .bool false, .bool false] w fun e w' => e = .returned (.tuple #[.slice none 0 0, .string ⟨#[dgt (n / 16 / 16 / 16), dgt (n / 16 / 16 % 16), dgt (n / 16 % 16), dgt (n % 16)]⟩]) ∧ Below w.heap.size w w' := by
 have hm0 : bits .and .u64 n 15 = n % 16 := mask4 _ (by omega) (by omega)
 have hm1 : bits .and .u64 (n / 16) 15 = n / 16 % 16 := mask4 _ (by omega) (by omega)
 have hm2 : bits .and .u64 (n / 16 / 16) 15 = n / 16 / 16 % 16 := mask4 _ (by omega) (by omega)
 have hl0 : 0 ≤ n := by omega
 have hg0 : 16 ≤ n := by omega
 have hq0 : 0 ≤ n % 16 := by omega
 have hr0 : n % 16 < 16 := by omega
 have hl1 : 0 ≤ n / 16 := by omega
 have hg1 : 16 ≤ n / 16 := by omega
 have hq1 : 0 ≤ n / 16 % 16 := by omega
 have hr1 : n / 16 % 16 < 16 := by omega
 have hl2 : 0 ≤ n / 16 / 16 := by omega
 have hg2 : 16 ≤ n / 16 / 16 := by omega
 have hq2 : 0 ≤ n / 16 / 16 % 16 := by omega
 have hr2 : n / 16 / 16 % 16 < 16 := by omega
 have hl3 : 0 ≤ n / 16 / 16 / 16 := by omega
 have hg3 : n / 16 / 16 / 16 < 16 := by omega
 clear h0 h1
 go_enter Tryz.func131, Tryz.ntmps131
 go_wp2_with (first | (go_at_call 147; refine (tz_calls _ (h _)).mono ?_; rintro e w' ⟨rfl, rfl⟩) | (go_at_call 146; refine (pow_calls _).mono ?_; rintro e w' ⟨rfl, rfl⟩))
 refine wp_loop_rounds 4 ?_
 repeat any_goals (rw [rounds_succ]; go_wp2)
 rw [conv4 _ _ 61 _ (dgt (n / 16 / 16 / 16)) (dgt (n / 16 / 16 % 16)) (dgt (n / 16 % 16)) (dgt (n % 16)) ?_ ?_ ?_ ?_]
 ·go_wp2
  go_ret2
  exact ⟨rfl, (Below.refl _ _).alloc (Nat.le_refl _) _⟩
 all_goals (rw [made_cell]; simp (disch := omega) [Array.getElem?_setIfInBounds, dgt_tab])

end Go.Proofs.YtkobpbbegalfpaaGreatDoor

/- Printed texts of this seat, cut to what is used. -/
namespace Go.Proofs
open Go.Shelf
def Tryz.laysC245_ren : Go.Shelf.Ren := ⟨fun | 245 => 103 | 279 => 122 | 280 => 123 | 281 => 124 | 282 => 125 | 316 => 140 | 171 => 127 | 205 => 141 | 243 => 142 | 246 => 150 | 283 => 128 | 284 => 129 | 285 => 130 | 286 => 131 | 129 => 144 | 317 => 143 | 318 => 145 | 319 => 146 | 320 => 147 | 337 => 151 | 338 => 152 | n => n, fun | 9 => 9 | 3 => 3 | 75 => 29 | 167 => 180 | 4 => 4 | 168 => 182 | 210 => 201 | 37 => 64 | 0 => 0 | 127 => 142 | 145 => 213 | 143 => 211 | 2 => 2 | 171 => 186 | 53 => 134 | 5 => 5 | 173 => 189 | 212 => 205 | 51 => 191 | 20 => 20 | 213 => 206 | 46 => 173 | 232 => 218 | 233 => 219 | 80 => 107 | n => n, fun | 15 => 1 | 16 => 2 | 17 => 3 | 18 => 5 | 19 => 6 | n => n⟩
theorem Tryz.laysC245 : Go.Proofs.LaysC.n245 Tryz.prog Tryz.laysC245_ren := {
 mixed := by kernel_rfl
 f129 := Tryz.func144.trans (congrArg some (by kernel_rfl))
 f171 := Tryz.func127.trans (congrArg some (by kernel_rfl))
 f205 := Tryz.func141.trans (congrArg some (by kernel_rfl))
 f243 := Tryz.func142.trans (congrArg some (by kernel_rfl))
 f245 := Tryz.func103.trans (congrArg some (by kernel_rfl))
 f246 := Tryz.func150.trans (congrArg some (by kernel_rfl))
 f279 := Tryz.func122.trans (congrArg some (by kernel_rfl))
 f280 := Tryz.func123.trans (congrArg some (by kernel_rfl))
 f281 := Tryz.func124.trans (congrArg some (by kernel_rfl))
 f282 := Tryz.func125.trans (congrArg some (by kernel_rfl))
 f283 := Tryz.func128.trans (congrArg some (by kernel_rfl))
 f284 := Tryz.func129.trans (congrArg some (by kernel_rfl))
 f285 := Tryz.func130.trans (congrArg some (by kernel_rfl))
 f286 := Tryz.func131.trans (congrArg some (by kernel_rfl))
 f316 := Tryz.func140.trans (congrArg some (by kernel_rfl))
 f317 := Tryz.func143.trans (congrArg some (by kernel_rfl))
 f318 := Tryz.func145.trans (congrArg some (by kernel_rfl))
 f319 := Tryz.func146.trans (congrArg some (by kernel_rfl))
 f320 := Tryz.func147.trans (congrArg some (by kernel_rfl))
 f337 := Tryz.func151.trans (congrArg some (by kernel_rfl))
 f338 := Tryz.func152.trans (congrArg some (by kernel_rfl))
 t0 := Tryz.underlying0
 a0 := Tryz.isAgg0
 z0 := Tryz.sizeOf0
 v0 := Tryz.zeroValue0
 t2 := Tryz.underlying2
 a2 := Tryz.isAgg2
 z2 := Tryz.sizeOf2
 v2 := Tryz.zeroValue2
 t3 := Tryz.underlying3
 a3 := Tryz.isAgg3
 z3 := Tryz.sizeOf3
 v3 := Tryz.zeroValue3
 t4 := Tryz.underlying4
 a4 := Tryz.isAgg4
 z4 := Tryz.sizeOf4
 v4 := Tryz.zeroValue4
 t5 := Tryz.underlying5
 a5 := Tryz.isAgg5
 z5 := Tryz.sizeOf5
 v5 := Tryz.zeroValue5
 t9 := Tryz.underlying9
 a9 := Tryz.isAgg9
 z9 := Tryz.sizeOf9
 v9 := Tryz.zeroValue9
 t20 := Tryz.underlying20
 a20 := Tryz.isAgg20
 z20 := Tryz.sizeOf20
 v20 := Tryz.zeroValue20
 t37 := Tryz.underlying64
 a37 := Tryz.isAgg64
 z37 := Tryz.sizeOf64
 v37 := Tryz.zeroValue64
 t46 := Tryz.underlying173
 a46 := Tryz.isAgg173
 z46 := Tryz.sizeOf173
 v46 := Tryz.zeroValue173
 t51 := Tryz.underlying191
 a51 := Tryz.isAgg191
 z51 := Tryz.sizeOf191
 v51 := Tryz.zeroValue191
 t53 := Tryz.underlying134
 a53 := Tryz.isAgg134
 z53 := Tryz.sizeOf134
 v53 := Tryz.zeroValue134
 t75 := Tryz.underlying29
 a75 := Tryz.isAgg29
 z75 := Tryz.sizeOf29
 v75 := Tryz.zeroValue29
 t127 := Tryz.underlying142
 a127 := Tryz.isAgg142
 z127 := Tryz.sizeOf142
 v127 := Tryz.zeroValue142
 t143 := Tryz.underlying211
 a143 := Tryz.isAgg211
 z143 := Tryz.sizeOf211
 v143 := Tryz.zeroValue211
 t145 := Tryz.underlying213
 a145 := Tryz.isAgg213
 z145 := Tryz.sizeOf213
 v145 := Tryz.zeroValue213
 t167 := Tryz.underlying180
 a167 := Tryz.isAgg180
 z167 := Tryz.sizeOf180
 v167 := Tryz.zeroValue180
 t168 := Tryz.underlying182
 a168 := Tryz.isAgg182
 z168 := Tryz.sizeOf182
 v168 := Tryz.zeroValue182
 t171 := Tryz.underlying186
 a171 := Tryz.isAgg186
 z171 := Tryz.sizeOf186
 v171 := Tryz.zeroValue186
 t173 := Tryz.underlying189
 a173 := Tryz.isAgg189
 z173 := Tryz.sizeOf189
 v173 := Tryz.zeroValue189
 t210 := Tryz.underlying201
 a210 := Tryz.isAgg201
 z210 := Tryz.sizeOf201
 v210 := Tryz.zeroValue201
 t212 := Tryz.underlying205
 a212 := Tryz.isAgg205
 z212 := Tryz.sizeOf205
 v212 := Tryz.zeroValue205
 t213 := Tryz.underlying206
 a213 := Tryz.isAgg206
 z213 := Tryz.sizeOf206
 t232 := Tryz.underlying218
 a232 := Tryz.isAgg218
 z232 := Tryz.sizeOf218
 v232 := Tryz.zeroValue218
 t233 := Tryz.underlying219
 a233 := Tryz.isAgg219
 z233 := Tryz.sizeOf219
 v233 := Tryz.zeroValue219
 g15 := by kernel_rfl
 g16 := by kernel_rfl
 g17 := by kernel_rfl
 g18 := by kernel_rfl
 g19 := by kernel_rfl
 t80 := Tryz.underlying107
 a80 := Tryz.isAgg107
 z80 := Tryz.sizeOf107
 v80 := Tryz.zeroValue107
 i0 := by kernel_rfl
 i2 := by kernel_rfl
 i3 := by kernel_rfl
 i4 := by kernel_rfl
 i5 := by kernel_rfl
 i9 := by kernel_rfl
 i20 := by kernel_rfl
 i37 := by kernel_rfl
 i46 := by kernel_rfl
 i51 := by kernel_rfl
 i53 := by kernel_rfl
 i75 := by kernel_rfl
 i80 := by kernel_rfl
 i127 := by kernel_rfl
 i143 := by kernel_rfl
 i145 := by kernel_rfl
 i167 := by kernel_rfl
 i168 := by kernel_rfl
 i171 := by kernel_rfl
 i173 := by kernel_rfl
 i210 := by kernel_rfl
 i212 := by kernel_rfl
 i232 := by kernel_rfl
 i233 := by kernel_rfl
 m15 := by kernel_rfl
 m16 := by kernel_rfl
 m17 := by kernel_rfl
 m18 := by kernel_rfl
 m19 := by kernel_rfl
 c0 := by kernel_rfl
 c2 := by kernel_rfl
 c3 := by kernel_rfl
 c4 := by kernel_rfl
 c5 := by kernel_rfl
 c9 := by kernel_rfl
 c20 := by kernel_rfl
 c37 := by kernel_rfl
 c46 := by kernel_rfl
 c51 := by kernel_rfl
 c53 := by kernel_rfl
 c75 := by kernel_rfl
 c80 := by kernel_rfl
 c127 := by kernel_rfl
 c143 := by kernel_rfl
 c145 := by kernel_rfl
 c167 := by kernel_rfl
 c168 := by kernel_rfl
 c171 := by kernel_rfl
 c173 := by kernel_rfl
 c210 := by kernel_rfl
 c212 := by kernel_rfl
 c213 := by kernel_rfl
 c232 := by kernel_rfl
 c233 := by kernel_rfl }
open Go.RowKit in
theorem Tryz.strconv_toError_syntax (fn s : ByteArray) (base bits : Int) (ev : Value) (w : World) (hlim : s.size ≤ 281474976710656) (hv : w.cell? ⟨1, 0, none⟩ = some ev) (hev : ev = .nilIface ∨ ∃ te pe, ev = .iface te pe) :
  Calls Tryz.prog 103 #[.string fn, .string s, .int .i64 base, .int .i64 bits, .iface 180 (.int .i64 2)] w fun e w' => ∃ N, e = .returned (.iface 182 (.pointer (some ⟨N, 0, none⟩))) ∧ w.heap.size ≤ N ∧ w'.heap[N]? = some (.cells #[.string fn, .string s, ev] 201 (0, 0)) ∧ Below w.heap.size w w' := Any.strconv_toError_syntax Tryz.laysC245 fn s base bits ev w hlim hv hev
open Go.RowKit in
theorem Tryz.strconv_toError_range (fn s : ByteArray) (base bits : Int) (ev : Value) (w : World) (hlim : s.size ≤ 281474976710656) (hv : w.cell? ⟨2, 0, none⟩ = some ev) (hev : ev = .nilIface ∨ ∃ te pe, ev = .iface te pe) :
  Calls Tryz.prog 103 #[.string fn, .string s, .int .i64 base, .int .i64 bits, .iface 180 (.int .i64 1)] w fun e w' => ∃ N, e = .returned (.iface 182 (.pointer (some ⟨N, 0, none⟩))) ∧ w.heap.size ≤ N ∧ w'.heap[N]? = some (.cells #[.string fn, .string s, ev] 201 (0, 0)) ∧ Below w.heap.size w w' := Any.strconv_toError_range Tryz.laysC245 fn s base bits ev w hlim hv hev
def Tryz.lays105_ren : Go.Shelf.Ren := ⟨fun | 105 => 89 | 212 => 109 | 99 => 110 | 165 => 111 | 166 => 84 | 170 => 112 | 169 => 60 | 263 => 132 | 264 => 133 | 206 => 134 | 240 => 105 | 241 => 135 | 276 => 126 | 277 => 148 | n => n, fun | 9 => 9 | 3 => 3 | 4 => 4 | 20 => 20 | 0 => 0 | 46 => 173 | 109 => 174 | 5 => 5 | 72 => 103 | 76 => 138 | 51 => 191 | 146 => 192 | 53 => 134 | 148 => 194 | 70 => 101 | 37 => 64 | 75 => 29 | 127 => 142 | 164 => 110 | 80 => 107 | n => n, fun | n => n⟩
theorem Tryz.lays105 : Go.Proofs.Lays.n105 Tryz.prog Tryz.lays105_ren := {
 mixed := by kernel_rfl
 f99 := Tryz.func110.trans (congrArg some (by kernel_rfl))
 f105 := Tryz.func89.trans (congrArg some (by kernel_rfl))
 f165 := Tryz.func111.trans (congrArg some (by kernel_rfl))
 f166 := Tryz.func84.trans (congrArg some (by kernel_rfl))
 f169 := Tryz.func60.trans (congrArg some (by kernel_rfl))
 f170 := Tryz.func112.trans (congrArg some (by kernel_rfl))
 f206 := Tryz.func134.trans (congrArg some (by kernel_rfl))
 f212 := Tryz.func109.trans (congrArg some (by kernel_rfl))
 f240 := Tryz.func105.trans (congrArg some (by kernel_rfl))
 f241 := Tryz.func135.trans (congrArg some (by kernel_rfl))
 f263 := Tryz.func132.trans (congrArg some (by kernel_rfl))
 f264 := Tryz.func133.trans (congrArg some (by kernel_rfl))
 f276 := Tryz.func126.trans (congrArg some (by kernel_rfl))
 f277 := Tryz.func148.trans (congrArg some (by kernel_rfl))
 t0 := Tryz.underlying0
 a0 := Tryz.isAgg0
 z0 := Tryz.sizeOf0
 v0 := Tryz.zeroValue0
 t3 := Tryz.underlying3
 a3 := Tryz.isAgg3
 z3 := Tryz.sizeOf3
 v3 := Tryz.zeroValue3
 t4 := Tryz.underlying4
 a4 := Tryz.isAgg4
 z4 := Tryz.sizeOf4
 v4 := Tryz.zeroValue4
 t5 := Tryz.underlying5
 a5 := Tryz.isAgg5
 z5 := Tryz.sizeOf5
 v5 := Tryz.zeroValue5
 t9 := Tryz.underlying9
 a9 := Tryz.isAgg9
 z9 := Tryz.sizeOf9
 v9 := Tryz.zeroValue9
 t20 := Tryz.underlying20
 a20 := Tryz.isAgg20
 z20 := Tryz.sizeOf20
 v20 := Tryz.zeroValue20
 t37 := Tryz.underlying64
 a37 := Tryz.isAgg64
 z37 := Tryz.sizeOf64
 v37 := Tryz.zeroValue64
 t46 := Tryz.underlying173
 a46 := Tryz.isAgg173
 z46 := Tryz.sizeOf173
 v46 := Tryz.zeroValue173
 t51 := Tryz.underlying191
 a51 := Tryz.isAgg191
 z51 := Tryz.sizeOf191
 v51 := Tryz.zeroValue191
 t53 := Tryz.underlying134
 a53 := Tryz.isAgg134
 z53 := Tryz.sizeOf134
 v53 := Tryz.zeroValue134
 t70 := Tryz.underlying101
 a70 := Tryz.isAgg101
 z70 := Tryz.sizeOf101
 v70 := Tryz.zeroValue101
 t72 := Tryz.underlying103
 a72 := Tryz.isAgg103
 z72 := Tryz.sizeOf103
 v72 := Tryz.zeroValue103
 t75 := Tryz.underlying29
 a75 := Tryz.isAgg29
 z75 := Tryz.sizeOf29
 v75 := Tryz.zeroValue29
 t76 := Tryz.underlying138
 a76 := Tryz.isAgg138
 z76 := Tryz.sizeOf138
 v76 := Tryz.zeroValue138
 t109 := Tryz.underlying174
 a109 := Tryz.isAgg174
 z109 := Tryz.sizeOf174
 v109 := Tryz.zeroValue174
 t127 := Tryz.underlying142
 a127 := Tryz.isAgg142
 z127 := Tryz.sizeOf142
 v127 := Tryz.zeroValue142
 t146 := Tryz.underlying192
 a146 := Tryz.isAgg192
 z146 := Tryz.sizeOf192
 v146 := Tryz.zeroValue192
 t148 := Tryz.underlying194
 a148 := Tryz.isAgg194
 z148 := Tryz.sizeOf194
 v148 := Tryz.zeroValue194
 t164 := Tryz.underlying110
 a164 := Tryz.isAgg110
 z164 := Tryz.sizeOf110
 v164 := Tryz.zeroValue110 }
theorem Tryz.Builder_Extra_105 : Builder.Extra Tryz.prog Tryz.lays105_ren := {
 sizeBuilder := by kernel_rfl
 liesBuilder := by kernel_rfl
 t5 := Tryz.underlying5
 a5 := Tryz.isAgg5
 z5 := Tryz.sizeOf5
 v5 := Tryz.zeroValue5
 infoByte := by kernel_rfl
 cellsByte := by kernel_rfl
 sizeByte := by kernel_rfl
 neB5 := by decide }
open Go.RowKit Go.Lib in
theorem Tryz.strings_Repeat (s : ByteArray) (c : Nat) (w : World) (hc : c ≤ 9223372036854775807) (hlen : s.size * c ≤ 140737488355328) :
  Calls Tryz.prog 89 #[.string s, .int .i64 c] w fun e w' => e = .returned (.string ⟨(Lib.repeatL s.data.toList c).toArray⟩) ∧ Below w.heap.size w w' := Any.strings_Repeat Tryz.lays105 Tryz.Builder_Extra_105 s c w hc hlen
end Go.Proofs
