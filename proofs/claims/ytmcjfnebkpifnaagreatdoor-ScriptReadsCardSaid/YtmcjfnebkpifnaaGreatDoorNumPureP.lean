/-
  Joined texts: NuFmt, NuHexP, NuNumP, NuDigitsP, NumPureP.
-/
import Derived.Test.YtmcjfnebkpifnaaGreatDoorMem
import Derived.Handy
import Derived.Laws.BitsLemmas
import Derived.Lib.ConvBytes
import Derived.Laws.IdiomStrings
import Derived.Test.YtmcjfnebkpifnaaGreatDoorShelf
import Derived.Lib.SmallJoins
import Derived.Lib.AtoiErrMem
import Derived.Lib.OthersKept
import Derived.Lib.ItoaMem
import Derived.Lib.AppendIntMem
import Derived.Lib.ItoaLen
import Derived.Lib.ItoaNum
import Derived.Lib.ParseIntB
/-
  internal/strconv.formatBits at base 16 and a number of 16 bits.
-/
namespace Go.Proofs.YtmcjfnebkpifnaaGreatDoor
open Go.RowKit Go.Proofs.YtmcjfnebkpifnaaGreatDoorW.PrintWords Go.Proofs.YtmcjfnebkpifnaaGreatDoorW.PrintLast Go.Proofs.YtmcjfnebkpifnaaGreatDoorW.PrintMore
set_option linter.unusedVariables false

theorem tz64_calls (w : World) (h : w.cell? ⟨8, 15, none⟩ = some (.int .u8 4)) : Calls Tryz.prog 129 #[.int .u64 16] w fun e w' => e = .returned (.int .i64 4) ∧ w' = w := by
  have hz : IntKind.u64.wrap (bits .and .u64 16 (IntKind.u64.wrap (-16)) * 285870213051353865) / 288230376151711744 = 15 := by kernel_rfl
  go_enter Tryz.func129, Tryz.ntmps129
  go_wp2
  go_ret
  exact ⟨rfl, rfl⟩
theorem tz_calls (w : World) (h : w.cell? ⟨8, 15, none⟩ = some (.int .u8 4)) : Calls Tryz.prog 122 #[.int .u64 16] w fun e w' => e = .returned (.int .i64 4) ∧ w' = w := by
  go_enter Tryz.func122, Tryz.ntmps122
  go_wp2_with (go_at_call 129; refine (tz64_calls _ h).mono ?_; rintro e w' ⟨rfl, rfl⟩)
  go_ret
  exact ⟨rfl, rfl⟩
theorem pow_calls (w : World) : Calls Tryz.prog 121 #[.int .i64 16] w fun e w' => e = .returned (.bool true) ∧ w' = w := by
  go_enter Tryz.func121, Tryz.ntmps121
  go_wp2
  go_ret
  exact ⟨rfl, rfl⟩

/-- A digit of base 16. -/
def dgt (k : Int) : UInt8 := [48, 49, 50, 51, 52, 53, 54, 55, 56, 57, 97, 98, 99, 100, 101, 102].getD k.toNat 0
theorem dgt_tab (k : Int) (h0 : 0 ≤ k) (h1 : k < 16) (h : k.toNat < (⟨#[48, 49, 50, 51, 52, 53, 54, 55, 56, 57, 97, 98, 99, 100, 101, 102, 103, 104, 105, 106, 107, 108, 109, 110, 111, 112, 113, 114, 115, 116, 117, 118, 119, 120, 121, 122]⟩ : ByteArray).size) : (⟨#[48, 49, 50, 51, 52, 53, 54, 55, 56, 57, 97, 98, 99, 100, 101, 102, 103, 104, 105, 106, 107, 108, 109, 110, 111, 112, 113, 114, 115, 116, 117, 118, 119, 120, 121, 122]⟩ : ByteArray)[k.toNat] = dgt k := by
  obtain ⟨m, rfl⟩ := Int.eq_ofNat_of_zero_le h0
  have hm : m < 16 := by omega
  match m, hm with
  | 0, _ => rfl
  | 1, _ => rfl
  | 2, _ => rfl
  | 3, _ => rfl
  | 4, _ => rfl
  | 5, _ => rfl
  | 6, _ => rfl
  | 7, _ => rfl
  | 8, _ => rfl
  | 9, _ => rfl
  | 10, _ => rfl
  | 11, _ => rfl
  | 12, _ => rfl
  | 13, _ => rfl
  | 14, _ => rfl
  | 15, _ => rfl
theorem mask4 (n : Int) (h0 : 0 ≤ n) (h1 : n < 65536) : bits .and .u64 n 15 = n % 16 :=
  bits_mask .u64 16 (by decide) (fun n h0 h1 => by rw [IntKind.wrap_u64]; omega) 4 (by decide) n h0 h1

theorem conv1 (W : World) (b o c : Nat) (d : UInt8) (h : W.cell? ⟨b, o, none⟩ = some (.int .u8 (d.toNat : Int))) :
    (convert 47 9 (.slice (some ⟨b, o, none⟩) 1 c)).run Tryz.prog W = .ok (.string ⟨#[d]⟩) W :=
  run_convert_bytes_back (P := Tryz.prog) W 47 9 5 ⟨b, o, none⟩ c [d] Tryz.underlying47 Tryz.underlying5 Tryz.underlying9 (fun j hj => by
    match j, hj with
    | 0, _ => exact h)
theorem conv2 (W : World) (b o c : Nat) (d e : UInt8) (h : W.cell? ⟨b, o, none⟩ = some (.int .u8 (d.toNat : Int))) (h1 : W.cell? ⟨b, o + 1, none⟩ = some (.int .u8 (e.toNat : Int))) :
    (convert 47 9 (.slice (some ⟨b, o, none⟩) 2 c)).run Tryz.prog W = .ok (.string ⟨#[d, e]⟩) W :=
  run_convert_bytes_back (P := Tryz.prog) W 47 9 5 ⟨b, o, none⟩ c [d, e] Tryz.underlying47 Tryz.underlying5 Tryz.underlying9 (fun j hj => by
    match j, hj with
    | 0, _ => exact h
    | 1, _ => exact h1)
theorem conv3 (W : World) (b o c : Nat) (d e f : UInt8) (h : W.cell? ⟨b, o, none⟩ = some (.int .u8 (d.toNat : Int))) (h1 : W.cell? ⟨b, o + 1, none⟩ = some (.int .u8 (e.toNat : Int))) (h2 : W.cell? ⟨b, o + 2, none⟩ = some (.int .u8 (f.toNat : Int))) :
    (convert 47 9 (.slice (some ⟨b, o, none⟩) 3 c)).run Tryz.prog W = .ok (.string ⟨#[d, e, f]⟩) W :=
  run_convert_bytes_back (P := Tryz.prog) W 47 9 5 ⟨b, o, none⟩ c [d, e, f] Tryz.underlying47 Tryz.underlying5 Tryz.underlying9 (fun j hj => by
    match j, hj with
    | 0, _ => exact h
    | 1, _ => exact h1
    | 2, _ => exact h2)
theorem conv4 (W : World) (b o c : Nat) (d e f g : UInt8) (h : W.cell? ⟨b, o, none⟩ = some (.int .u8 (d.toNat : Int))) (h1 : W.cell? ⟨b, o + 1, none⟩ = some (.int .u8 (e.toNat : Int))) (h2 : W.cell? ⟨b, o + 2, none⟩ = some (.int .u8 (f.toNat : Int))) (h3 : W.cell? ⟨b, o + 3, none⟩ = some (.int .u8 (g.toNat : Int))) :
    (convert 47 9 (.slice (some ⟨b, o, none⟩) 4 c)).run Tryz.prog W = .ok (.string ⟨#[d, e, f, g]⟩) W :=
  run_convert_bytes_back (P := Tryz.prog) W 47 9 5 ⟨b, o, none⟩ c [d, e, f, g] Tryz.underlying47 Tryz.underlying5 Tryz.underlying9 (fun j hj => by
    match j, hj with
    | 0, _ => exact h
    | 1, _ => exact h1
    | 2, _ => exact h2
    | 3, _ => exact h3)
/-- A cell of the block that was just made. -/
theorem made_cell (w : World) (C : Array Value) (t : TypeId) (o : Nat) : (w.alloc (.cells C t)).cell? ⟨w.heap.size, o, none⟩ = C[o]? := cell_of_row _ _ _ _ _ _ (heap_alloc_new w _)

set_option maxRecDepth 100000 in
set_option maxHeartbeats 4000000 in
theorem fbits1_calls (n : Int) (h0 : 0 ≤ n) (h1 : n < 16) (w : World) (h : ∀ o, (w.alloc o).cell? ⟨8, 15, none⟩ = some (.int .u8 4)) :
    Calls Tryz.prog 100 #[.slice none 0 0, .int .u64 n, .int .i64 16, .bool false, .bool false] w fun e w' => e = .returned (.tuple #[.slice none 0 0, .string ⟨#[dgt n]⟩]) ∧ Below w.heap.size w w' := by
  have hl0 : 0 ≤ n := by omega
  have hg0 : n < 16 := by omega
  clear h0 h1
  go_enter Tryz.func100, Tryz.ntmps100
  go_wp2_with (first | (go_at_call 122; refine (tz_calls _ (h _)).mono ?_; rintro e w' ⟨rfl, rfl⟩) | (go_at_call 121; refine (pow_calls _).mono ?_; rintro e w' ⟨rfl, rfl⟩))
  refine wp_loop_rounds 1 ?_
  repeat any_goals (rw [rounds_succ]; go_wp2)
  rw [conv1 _ _ 64 _ (dgt n) ?_]
  · go_wp2
    go_ret2
    exact ⟨rfl, (Below.refl _ _).alloc (Nat.le_refl _) _⟩
  all_goals (rw [made_cell]; simp (disch := omega) [Array.getElem?_setIfInBounds, dgt_tab])

set_option maxRecDepth 100000 in
set_option maxHeartbeats 4000000 in
theorem fbits2_calls (n : Int) (h0 : 16 ≤ n) (h1 : n < 256) (w : World) (h : ∀ o, (w.alloc o).cell? ⟨8, 15, none⟩ = some (.int .u8 4)) :
    Calls Tryz.prog 100 #[.slice none 0 0, .int .u64 n, .int .i64 16, .bool false, .bool false] w fun e w' => e = .returned (.tuple #[.slice none 0 0, .string ⟨#[dgt (n / 16), dgt (n % 16)]⟩]) ∧ Below w.heap.size w w' := by
  have hm0 : bits .and .u64 n 15 = n % 16 := mask4 _ (by omega) (by omega)
  have hl0 : 0 ≤ n := by omega
  have hg0 : 16 ≤ n := by omega
  have hq0 : 0 ≤ n % 16 := by omega
  have hr0 : n % 16 < 16 := by omega
  have hl1 : 0 ≤ n / 16 := by omega
  have hg1 : n / 16 < 16 := by omega
  clear h0 h1
  go_enter Tryz.func100, Tryz.ntmps100
  go_wp2_with (first | (go_at_call 122; refine (tz_calls _ (h _)).mono ?_; rintro e w' ⟨rfl, rfl⟩) | (go_at_call 121; refine (pow_calls _).mono ?_; rintro e w' ⟨rfl, rfl⟩))
  refine wp_loop_rounds 2 ?_
  repeat any_goals (rw [rounds_succ]; go_wp2)
  rw [conv2 _ _ 63 _ (dgt (n / 16)) (dgt (n % 16)) ?_ ?_]
  · go_wp2
    go_ret2
    exact ⟨rfl, (Below.refl _ _).alloc (Nat.le_refl _) _⟩
  all_goals (rw [made_cell]; simp (disch := omega) [Array.getElem?_setIfInBounds, dgt_tab])

set_option maxRecDepth 100000 in
set_option maxHeartbeats 4000000 in
theorem fbits3_calls (n : Int) (h0 : 256 ≤ n) (h1 : n < 4096) (w : World) (h : ∀ o, (w.alloc o).cell? ⟨8, 15, none⟩ = some (.int .u8 4)) :
    Calls Tryz.prog 100 #[.slice none 0 0, .int .u64 n, .int .i64 16, .bool false, .bool false] w fun e w' => e = .returned (.tuple #[.slice none 0 0, .string ⟨#[dgt (n / 16 / 16), dgt (n / 16 % 16), dgt (n % 16)]⟩]) ∧ Below w.heap.size w w' := by
  have hm0 : bits .and .u64 n 15 = n % 16 := mask4 _ (by omega) (by omega)
  have hm1 : bits .and .u64 (n / 16) 15 = n / 16 % 16 := mask4 _ (by omega) (by omega)
  have hl0 : 0 ≤ n := by omega
  have hg0 : 16 ≤ n := by omega
  have hq0 : 0 ≤ n % 16 := by omega
  have hr0 : n % 16 < 16 := by omega
  have hl1 : 0 ≤ n / 16 := by omega
  have hg1 : 16 ≤ n / 16 := by omega
  have hq1 : 0 ≤ n / 16 % 16 := by omega
  have hr1 : n / 16 % 16 < 16 := by omega
  have hl2 : 0 ≤ n / 16 / 16 := by omega
  have hg2 : n / 16 / 16 < 16 := by omega
  clear h0 h1
  go_enter Tryz.func100, Tryz.ntmps100
  go_wp2_with (first | (go_at_call 122; refine (tz_calls _ (h _)).mono ?_; rintro e w' ⟨rfl, rfl⟩) | (go_at_call 121; refine (pow_calls _).mono ?_; rintro e w' ⟨rfl, rfl⟩))
  refine wp_loop_rounds 3 ?_
  repeat any_goals (rw [rounds_succ]; go_wp2)
  rw [conv3 _ _ 62 _ (dgt (n / 16 / 16)) (dgt (n / 16 % 16)) (dgt (n % 16)) ?_ ?_ ?_]
  · go_wp2
    go_ret2
    exact ⟨rfl, (Below.refl _ _).alloc (Nat.le_refl _) _⟩
  all_goals (rw [made_cell]; simp (disch := omega) [Array.getElem?_setIfInBounds, dgt_tab])

set_option maxRecDepth 100000 in
set_option maxHeartbeats 4000000 in
theorem fbits4_calls (n : Int) (h0 : 4096 ≤ n) (h1 : n < 65536) (w : World) (h : ∀ o, (w.alloc o).cell? ⟨8, 15, none⟩ = some (.int .u8 4)) :
    Calls Tryz.prog 100 #[.slice none 0 0, .int .u64 n, .int .i64 16, .bool false, .bool false] w fun e w' => e = .returned (.tuple #[.slice none 0 0, .string ⟨#[dgt (n / 16 / 16 / 16), dgt (n / 16 / 16 % 16), dgt (n / 16 % 16), dgt (n % 16)]⟩]) ∧ Below w.heap.size w w' := by
  have hm0 : bits .and .u64 n 15 = n % 16 := mask4 _ (by omega) (by omega)
  have hm1 : bits .and .u64 (n / 16) 15 = n / 16 % 16 := mask4 _ (by omega) (by omega)
  have hm2 : bits .and .u64 (n / 16 / 16) 15 = n / 16 / 16 % 16 := mask4 _ (by omega) (by omega)
  have hl0 : 0 ≤ n := by omega
  have hg0 : 16 ≤ n := by omega
  have hq0 : 0 ≤ n % 16 := by omega
  have hr0 : n % 16 < 16 := by omega
  have hl1 : 0 ≤ n / 16 := by omega
  have hg1 : 16 ≤ n / 16 := by omega
  have hq1 : 0 ≤ n / 16 % 16 := by omega
  have hr1 : n / 16 % 16 < 16 := by omega
  have hl2 : 0 ≤ n / 16 / 16 := by omega
  have hg2 : 16 ≤ n / 16 / 16 := by omega
  have hq2 : 0 ≤ n / 16 / 16 % 16 := by omega
  have hr2 : n / 16 / 16 % 16 < 16 := by omega
  have hl3 : 0 ≤ n / 16 / 16 / 16 := by omega
  have hg3 : n / 16 / 16 / 16 < 16 := by omega
  clear h0 h1
  go_enter Tryz.func100, Tryz.ntmps100
  go_wp2_with (first | (go_at_call 122; refine (tz_calls _ (h _)).mono ?_; rintro e w' ⟨rfl, rfl⟩) | (go_at_call 121; refine (pow_calls _).mono ?_; rintro e w' ⟨rfl, rfl⟩))
  refine wp_loop_rounds 4 ?_
  repeat any_goals (rw [rounds_succ]; go_wp2)
  rw [conv4 _ _ 61 _ (dgt (n / 16 / 16 / 16)) (dgt (n / 16 / 16 % 16)) (dgt (n / 16 % 16)) (dgt (n % 16)) ?_ ?_ ?_ ?_]
  · go_wp2
    go_ret2
    exact ⟨rfl, (Below.refl _ _).alloc (Nat.le_refl _) _⟩
  all_goals (rw [made_cell]; simp (disch := omega) [Array.getElem?_setIfInBounds, dgt_tab])

end Go.Proofs.YtmcjfnebkpifnaaGreatDoor

/-
  num.Hex: four digits. What the functions of numbers read of the library's variables.
-/
namespace Go.Proofs.YtmcjfnebkpifnaaGreatDoor
open Go.RowKit Go.Proofs.YtmcjfnebkpifnaaGreatDoorW.PrintWords Go.Proofs.YtmcjfnebkpifnaaGreatDoorW.PrintLast Go.Proofs.YtmcjfnebkpifnaaGreatDoorW.PrintMore
set_option linter.unusedVariables false

/-- The tables that the functions of numbers read. -/
structure NumT (w : World) : Prop where
  tab : Lib.TabIs Tryz.prog w "internal/strconv.uint64pow10" .u64 Lib.pow10Tab
  de : w.cell? ⟨8, 15, none⟩ = some (.int .u8 4)
theorem cell_below {w w' : World} {b o : Nat} {v : Value} (h : w.cell? ⟨b, o, none⟩ = some v) (hb : Below w.heap.size w w') : w'.cell? ⟨b, o, none⟩ = some v :=
  (hb.cell (p := ⟨b, o, none⟩) (Lib.lt_of_cell h)).trans h
theorem NumT.below {w w' : World} (h : NumT w) (hb : Below w.heap.size w w') : NumT w' :=
  ⟨Joins.tab_stays (g := 4) (by kernel_rfl) h.tab hb (Nat.le_refl _), cell_below h.de hb⟩

/-- The digits of base 16. -/
def hexS (n : Int) : ByteArray := if n < 16 then ⟨#[dgt n]⟩ else if n < 256 then ⟨#[dgt (n / 16), dgt (n % 16)]⟩ else if n < 4096 then ⟨#[dgt (n / 16 / 16), dgt (n / 16 % 16), dgt (n % 16)]⟩ else ⟨#[dgt (n / 16 / 16 / 16), dgt (n / 16 / 16 % 16), dgt (n / 16 % 16), dgt (n % 16)]⟩
theorem fbits_calls (n : Int) (h0 : 0 ≤ n) (h1 : n < 65536) (w : World) (h : NumT w) :
    Calls Tryz.prog 100 #[.slice none 0 0, .int .u64 n, .int .i64 16, .bool false, .bool false] w fun e w' => e = .returned (.tuple #[.slice none 0 0, .string (hexS n)]) ∧ Below w.heap.size w w' := by
  have hd : ∀ o, (w.alloc o).cell? ⟨8, 15, none⟩ = some (.int .u8 4) := fun o => cell_below h.de (below_alloc (Below.refl _ _) o)
  unfold hexS
  by_cases a : n < 16
  · rw [if_pos a]; exact fbits1_calls n h0 a w hd
  · rw [if_neg a]
    by_cases b : n < 256
    · rw [if_pos b]; exact fbits2_calls n (by omega) b w hd
    · rw [if_neg b]
      by_cases c : n < 4096
      · rw [if_pos c]; exact fbits3_calls n (by omega) c w hd
      · rw [if_neg c]; exact fbits4_calls n (by omega) h1 w hd
theorem fu_calls (n : Int) (h0 : 0 ≤ n) (h1 : n < 65536) (w : World) (h : NumT w) :
    Calls Tryz.prog 71 #[.int .u64 n, .int .i64 16] w fun e w' => e = .returned (.string (hexS n)) ∧ Below w.heap.size w w' := by
  have HF := Aside0.mk (fbits_calls n h0 h1 w h)
  have HI : Aside0 (Calls Tryz.prog 81 #[.int .u64 n, .int .i64 16] w fun e w' => e = .returned (.string (hexS n)) ∧ Below w.heap.size w w') := by
    refine Aside0.mk ?_
    clear h
    go_enter Tryz.func81, Tryz.ntmps81
    go_wp2_with (go_at_call 100; refine HF.out.mono ?_; rintro e w' ⟨rfl, hb⟩)
    go_ret
    exact ⟨rfl, hb⟩
  clear h HF
  go_enter Tryz.func71, Tryz.ntmps71
  go_wp2_with (go_at_call 81; refine HI.out.mono ?_; rintro e w' ⟨rfl, hb⟩)
  go_ret
  exact ⟨rfl, hb⟩

theorem ret_str {a b : ByteArray} (h : a = b) : Ending.returned (.string a) = .returned (.string b) := by rw [h]
/-- Four digits. -/
def hex4 (n : Int) : ByteArray := ⟨#[dgt (n / 4096), dgt (n / 256 % 16), dgt (n / 16 % 16), dgt (n % 16)]⟩
theorem rep_calls (c : Nat) (hc : c ≤ 4) (w : World) : Calls Tryz.prog 72 #[.string ⟨#[48]⟩, .int .i64 c] w fun e w' => e = .returned (.string ⟨(Lib.repeatL [48] c).toArray⟩) ∧ Below w.heap.size w w' :=
  Tryz.strings_Repeat ⟨#[48]⟩ c w (by omega) (by show 1 * c ≤ _; omega)
theorem hexS_size (n : Int) : (hexS n).size = if n < 16 then 1 else if n < 256 then 2 else if n < 4096 then 3 else 4 := by
  unfold hexS; split
  · rfl
  · split
    · rfl
    · split <;> rfl
theorem hexS_pad (n : Int) (h0 : 0 ≤ n) (h1 : n < 65536) : (⟨(Lib.repeatL [48] (4 - (hexS n).size)).toArray⟩ : ByteArray) ++ hexS n = hex4 n := by
  have d0 : dgt 0 = 48 := rfl
  rw [hexS_size]
  unfold hexS hex4
  by_cases a : n < 16
  · simp only [if_pos a]
    have e1 : n / 4096 = 0 := by omega
    have e2 : n / 256 % 16 = 0 := by omega
    have e3 : n / 16 % 16 = 0 := by omega
    have e4 : n % 16 = n := by omega
    rw [e1, e2, e3, e4, d0]; rfl
  · simp only [if_neg a]
    by_cases b : n < 256
    · simp only [if_pos b]
      have e1 : n / 4096 = 0 := by omega
      have e2 : n / 256 % 16 = 0 := by omega
      have e3 : n / 16 % 16 = n / 16 := by omega
      rw [e1, e2, e3, d0]; rfl
    · simp only [if_neg b]
      by_cases c : n < 4096
      · simp only [if_pos c]
        have e1 : n / 4096 = 0 := by omega
        have e2 : n / 256 % 16 = n / 16 / 16 := by omega
        rw [e1, e2, d0]; rfl
      · simp only [if_neg c]
        have e1 : n / 4096 = n / 16 / 16 / 16 := by omega
        have e2 : n / 256 % 16 = n / 16 / 16 % 16 := by omega
        rw [e1, e2]; rfl
set_option maxHeartbeats 1000000 in
theorem hex_calls (n : Int) (h0 : 0 ≤ n) (h1 : n < 65536) (w : World) (h : NumT w) :
    Calls Tryz.prog 59 #[.int .u16 n] w fun e w' => e = .returned (.string (hex4 n)) ∧ Below w.heap.size w w' := by
  have HF := Aside0.mk (fu_calls n h0 h1 w h)
  have hz : 1 ≤ (hexS n).size ∧ (hexS n).size ≤ 4 := by rw [hexS_size]; split <;> (try split) <;> (try split) <;> omega
  have HP := Aside0.mk (hexS_pad n h0 h1)
  obtain ⟨s, hs⟩ : ∃ s, s = hexS n := ⟨_, rfl⟩
  rw [← hs] at HF hz HP
  obtain ⟨c, hc⟩ : ∃ c, c = 4 - s.size := ⟨_, rfl⟩
  have hr : ∀ w, Calls Tryz.prog 72 #[.string ⟨#[48]⟩, .int .i64 (4 - (s.size : Int))] w fun e w' => e = .returned (.string ⟨(Lib.repeatL [48] c).toArray⟩) ∧ Below w.heap.size w w' := fun w => by
    have e : (4 - (s.size : Int)) = ((c : Nat) : Int) := by omega
    rw [e]; exact rep_calls c (by omega) w
  rw [← hc] at HP
  have HR := Aside0.mk hr
  have hl : ((⟨(Lib.repeatL [48] c).toArray⟩ : ByteArray).size + s.size ≤ 9223372036854775807) := by
    have := congrArg ByteArray.size HP.out
    rw [ByteArray.size_append] at this
    have h4 : (hex4 n).size = 4 := rfl
    omega
  clear hr h hs hc
  obtain ⟨hz1, hz4⟩ := hz
  go_enter Tryz.func59, Tryz.ntmps59
  go_wp2_with (first | (go_at_call 71; refine HF.out.mono ?_; rintro e w1 ⟨rfl, hb1⟩) | (go_at_call 72; refine (HR.out _).mono ?_; rintro e w2 ⟨rfl, hb2⟩))
  go_ret
  exact ⟨ret_str HP.out, hb1.trans (hb2.mono hb1.size)⟩
end Go.Proofs.YtmcjfnebkpifnaaGreatDoor

/-
  num: digits, ahead, Head, Read, ReadHex: what they return.
-/
namespace Go.Proofs.YtmcjfnebkpifnaaGreatDoor
open Go.RowKit Go.Proofs.YtmcjfnebkpifnaaGreatDoorW.PrintWords Go.Proofs.YtmcjfnebkpifnaaGreatDoorW.PrintLast Go.Proofs.YtmcjfnebkpifnaaGreatDoorW.PrintMore
set_option linter.unusedVariables false

/-- A number's digits. -/
def digS (n : Int) : ByteArray := if n < 0 ∨ 2147483647 < n then ⟨#[]⟩ else ⟨(Lib.itoa n).toArray⟩
theorem digits_calls (n : Int) (w : World) (hT : NumT w) : Calls Tryz.prog 57 #[.int .i64 n] w fun e w' => e = .returned (.string (digS n)) ∧ Below w.heap.size w w' := by
  unfold digS
  by_cases h : n < 0
  · rw [if_pos (.inl h)]
    clear hT
    go_enter Tryz.func57, Tryz.ntmps57
    go_wp2
    go_ret
    exact ⟨rfl, Below.refl _ _⟩
  · by_cases h2 : 2147483647 < n
    · rw [if_pos (.inr h2)]
      clear hT
      go_enter Tryz.func57, Tryz.ntmps57
      go_wp2
      go_ret
      exact ⟨rfl, Below.refl _ _⟩
    · rw [if_neg (by omega)]
      have HI : Aside0 (Calls Tryz.prog 69 #[.int .i64 n] w fun e w' => e = .returned (.string ⟨(Lib.itoa n).toArray⟩) ∧ Below w.heap.size w w') :=
        Aside0.mk ((Tryz.strconv_Itoa n (by omega) (by omega) w hT.tab).mono fun e w' ⟨h1, k, os, h2⟩ => ⟨h1, by rw [h2]; exact Lib.below_grow _ _ (Nat.le_refl _) _ _⟩)
      clear hT
      go_enter Tryz.func57, Tryz.ntmps57
      go_wp2_with (go_at_call 69; refine HI.out.mono ?_; rintro e w' ⟨rfl, hb⟩)
      go_ret
      exact ⟨rfl, hb⟩

def isD (b : UInt8) : Bool := decide (48 ≤ b.toNat) && decide (b.toNat ≤ 57)
end Go.Proofs.YtmcjfnebkpifnaaGreatDoor

/-
  num.Digits: what it returns.
-/
namespace Go.Proofs.YtmcjfnebkpifnaaGreatDoor
open Go.RowKit Go.Proofs.YtmcjfnebkpifnaaGreatDoorW.PrintWords Go.Proofs.YtmcjfnebkpifnaaGreatDoorW.PrintLast Go.Proofs.YtmcjfnebkpifnaaGreatDoorW.PrintMore
set_option linter.unusedVariables false

theorem ninfoS : (Tryz.prog.info? 9).map (fun i => (i.zero, i.size, i.bytes)) = some (some (.string ByteArray.empty), 1, 16) := by kernel_rfl
theorem int_cell {w : World} {A : Option Addr} {n : Nat} {zs : List Int} (h : (Kd.int .i64).C w A n zs) (k : Nat) (hk : k < n) : ∃ ad, A = some ad ∧ w.cell? (ad.add k) = some (.int .i64 (zs.getD k 0)) := by
  obtain ⟨ad, c, rfl, _, hK, hc⟩ := Kd.C_get h 0 (k : Int) (by omega) (by omega)
  have e : ((k : Int)).toNat = k := Int.toNat_natCast k
  rw [e] at hK hc
  refine ⟨ad, rfl, ?_⟩
  obtain rfl := hK
  have hq := hc 0 _ rfl
  rwa [show (Kd.int .i64).sz = 1 from rfl, Nat.mul_one, Nat.add_zero] at hq
theorem str_cell {w : World} {A : Option Addr} {n : Nat} {zs : List ByteArray} (h : Kd.string.C w A n zs) (k : Nat) (hk : k < n) : ∃ ad, A = some ad ∧ w.cell? (ad.add k) = some (.string (zs.getD k ByteArray.empty)) := by
  obtain ⟨ad, c, rfl, _, hK, hc⟩ := Kd.C_get h ByteArray.empty (k : Int) (by omega) (by omega)
  have e : ((k : Int)).toNat = k := Int.toNat_natCast k
  rw [e] at hK hc
  refine ⟨ad, rfl, ?_⟩
  obtain rfl := hK
  have hq := hc 0 _ rfl
  rwa [show Kd.string.sz = 1 from rfl, Nat.mul_one, Nat.add_zero] at hq

theorem nlit_strings (W : World) (base : Nat) (e : Nat) (xs : List ByteArray) (hb : base ≤ W.heap.size) (hm : xs.length ≤ 100000) : Kd.string.R e (W.alloc (.cells (encs Value.string xs).toArray e)) base (fun _ => True) (.slice (some ⟨W.heap.size, 0, none⟩) xs.length xs.length) xs :=
  Kd.R_of_own (own_lit_of W base e xs hb (by omega)) (fun _ _ => trivial)
theorem nlitC (W : World) (e : Nat) (xs : List ByteArray) (hm : xs.length ≤ 100000) : Kd.string.C (W.alloc (.cells (encs Value.string xs).toArray e)) (some ⟨W.heap.size, 0, none⟩) xs.length xs :=
  (Kd.R_reads' (nlit_strings W 0 e xs (Nat.zero_le _) hm)).2.2
theorem nlit_ints (W : World) (base : Nat) (e : Nat) (xs : List Int) (hb : base ≤ W.heap.size) (hm : xs.length ≤ 100000) : (Kd.int .i64).R e (W.alloc (.cells (encs (Value.int .i64) xs).toArray e)) base (fun _ => True) (.slice (some ⟨W.heap.size, 0, none⟩) xs.length xs.length) xs :=
  Kd.R_of_own (own_lit_of W base e xs hb (by omega)) (fun _ _ => trivial)
theorem nlitI (W : World) (e : Nat) (xs : List Int) (hm : xs.length ≤ 100000) : (Kd.int .i64).C (W.alloc (.cells (encs (Value.int .i64) xs).toArray e)) (some ⟨W.heap.size, 0, none⟩) xs.length xs :=
  (Kd.R_reads' (nlit_ints W 0 e xs (Nat.zero_le _) hm)).2.2
/-- Texts, a comma between. -/
def joinS (l : List ByteArray) : ByteArray := ⟨(Lib.join (l.map (·.data.toList)) [44]).toArray⟩
theorem digS_size (n : Int) : (digS n).size ≤ 21 := by
  unfold digS
  split
  · decide
  · have := Lib.itoa_length_le n (by omega) (by omega)
    show (Lib.itoa n).toArray.size ≤ 21
    simpa using this
theorem lens_le : ∀ (l : List (List UInt8)), (∀ x ∈ l, x.length ≤ 21) → Lib.lens l ≤ 21 * l.length
  | [], _ => by simp [Lib.lens]
  | x :: r, h => by
    have h1 := h x List.mem_cons_self
    have h2 := lens_le r (fun y hy => h y (List.mem_cons_of_mem _ hy))
    simp only [Lib.lens, List.map_cons, List.sum_cons, List.length_cons] at h2 ⊢
    omega
theorem joinS_len (zs : List Int) (sep : List UInt8) (hs : sep.length = 1) : (Lib.join ((zs.map digS).map (·.data.toList)) sep).length ≤ 22 * zs.length := by
  cases zs with
  | nil => simp [Lib.join_nil]
  | cons z r =>
    rw [List.map_cons, List.map_cons, Lib.join_length]
    have h := lens_le (((digS z).data.toList) :: ((r.map digS).map (·.data.toList))) (fun x hx => by
      rcases List.mem_cons.1 hx with rfl | hx
      · have := digS_size z; simpa using this
      · obtain ⟨y, hy, rfl⟩ := List.mem_map.1 hx
        obtain ⟨u, _, rfl⟩ := List.mem_map.1 hy
        have := digS_size u; simpa using this)
    simp only [List.length_cons, List.length_map] at h ⊢
    rw [hs]
    omega
theorem join_calls (w : World) (A : Option Addr) (c : Nat) (l : List ByteArray) (h : Kd.string.C w A l.length l) (hc : l.length ≤ c) (hN : l.length ≤ 1000000) (hl : (Lib.join (l.map (·.data.toList)) [44]).length ≤ 140737488355328) :
    Calls Tryz.prog 58 #[.slice A l.length c, .string ⟨#[44]⟩] w fun e w' => e = .returned (.string (joinS l)) ∧ Below w.heap.size w w' := by
  by_cases h0 : l.length = 0
  · have hl0 : l = [] := List.eq_nil_of_length_eq_zero h0
    subst hl0
    exact (Tryz.strings_Join_none A c _ w).mono fun e w' ⟨h1, h2⟩ => ⟨by rw [h1]; rfl, by rw [h2]; exact Below.refl _ _⟩
  · obtain ⟨⟨bk, o, sub⟩, rfl, hc0⟩ := str_cell h 0 (by omega)
    have hsub : sub = none := by
      cases sub with
      | none => rfl
      | some s => simp only [World.cell?, Addr.add] at hc0; split at hc0 <;> cases hc0
    subst hsub
    refine Tryz.strings_Join bk o c l ⟨#[44]⟩ w (fun j x hj => ?_) (Lib.lt_of_cell hc0) (by omega) hc hl
    have hjl : j < l.length := (List.getElem?_eq_some_iff.1 hj).1
    obtain ⟨ad, had, hcj⟩ := str_cell h j hjl
    obtain rfl := (Option.some.inj had).symm
    rw [List.getD_eq_getElem?_getD, hj] at hcj
    by_cases h00 : j = 0
    · subst h00; simpa [Addr.add] using hcj
    · simpa [Addr.add, h00] using hcj

theorem take_map {α β : Type} (f : α → β) (d : α) (l : List α) (k : Nat) (hk : k < l.length) : (l.map f).take (k + 1) = (l.map f).take k ++ [f (l.getD k d)] := by
  rw [List.take_add_one, List.getElem?_map, List.getElem?_eq_getElem hk, List.getD_eq_getElem?_getD, List.getElem?_eq_getElem hk]
  rfl
set_option maxHeartbeats 4000000 in
theorem digits_all (w : World) (A : Option Addr) (n c : Nat) (zs : List Int) (hr : (Kd.int .i64).C w A n zs) (hn : n ≤ 1000) (hT : NumT w) :
    Calls Tryz.prog 35 #[.slice A n c] w fun e w' => e = .returned (.string (joinS (zs.map digS))) ∧ Below w.heap.size w w' := by
  have hlen := Kd.C_len hr
  have HR := Aside0.mk hr
  have HT := Aside0.mk hT
  have HDS := Aside0.mk (take_map digS 0 zs)
  have hjl := joinS_len zs [44] rfl
  have hml : (zs.map digS).length = n := by simp; omega
  generalize zs.map digS = ds at *
  clear hr hT
  go_enter Tryz.func35, Tryz.ntmps35
  go_wp2
  go_loopw [3, 8] (fun v i wr => ∃ k : Nat, k ≤ n ∧ i = .int .i64 k ∧ ∃ A' n' c', v = .slice A' n' c' ∧ Kd.string.R 9 wr w.heap.size (fun _ => True) v (ds.take k) ∧ Below w.heap.size w wr) (fun _ i _ => n - (intOf i).toNat)
  case atStart => exact ⟨0, by omega, rfl, none, 0, 0, rfl, Kd.R_nil _ _ _ _ _, Below.refl _ _⟩
  case round =>
    obtain ⟨k, hk, rfl, A', n', c', rfl, hR2, hB2⟩ := hrel
    have HR2 := Aside0.mk hR2
    have HB2 := Aside0.mk hB2
    have hsz := hB2.size
    clear hR2 hB2
    by_cases hlt : k < n
    · obtain ⟨ad, rfl, hcell⟩ := int_cell (Kd.C_below HR.out HB2.out) k hlt
      have HTK := Aside0.mk (HDS.out k (by omega))
      obtain ⟨z, hz⟩ : ∃ z, z = zs.getD k 0 := ⟨_, rfl⟩
      rw [← hz] at hcell HTK
      have HD := Aside0.mk (digits_calls z wr (HT.out.below HB2.out))
      clear hz
      go_wp2_with (go_at_call 57; refine HD.out.mono ?_; rintro e w1 ⟨rfl, hb1⟩; refine Hid.out ?_)
      have hCL := nlitC w1 9 [digS z] (by simp)
      have HC2 := Aside0.mk (nlitC w1 9 [digS z] (by simp))
      have HB3 := Aside0.mk (below_alloc (HB2.out.trans (hb1.mono HB2.out.size)) (.cells #[.string (digS z)] 9))
      have HR3 := Aside0.mk (Kd.R_alloc (Kd.R_below HR2.out hb1) (.cells #[.string (digS z)] 9))
      have hsz1 := hb1.size
      have hle : (ds.take k).length ≤ 1000 := by rw [List.length_take]; omega
      clear hCL hb1 HD
      refine Lib.hid ?_
      go_wp2_with (at_builtin; refine Kd.R_append_row Value.string ByteArray.empty (w0 := w) w.heap.size rfl (.tmp 12) (.tmp 15) 57 9 (.string ByteArray.empty) 16 rfl Tryz.underlying57 ninfoS rfl (by decide) (.slice A' n' c') (ds.take k) [digS z] (some ⟨w1.heap.size, 0, none⟩) 1 1 (fun _ => True) rfl rfl (fun _ _ => trivial) HR3.out HC2.out HB3.out ?aS ?aL ?_)
      case aS => simp; omega
      case aL => omega
      intro v1 w2 ho hb2 _ _
      obtain ⟨A4, n4, c4, rfl⟩ := sl_of_R ho
      rw [← HTK.out] at ho
      have RO := Aside0.mk ho
      have HBO := Aside0.mk hb2
      clear ho hb2
      go_wp2
      go_roundw
      case rel => exact ⟨k + 1, by omega, by go_num, _, _, _, rfl, RO.out, HBO.out⟩
      case measure => simp [intOf]; omega
    · have hkn : k = n := by omega
      have HK : ds.take k = ds := by rw [hkn, ← hml, List.take_length]
      rw [HK] at HR2
      clear HK
      obtain ⟨hn', hc', hC'⟩ := Kd.R_reads' HR2.out
      subst hn'
      have HJ := Aside0.mk (join_calls wr A' c' ds hC' hc' (by omega) (by omega))
      clear hC' hjl hml hkn
      go_wp2_with (go_at_call 58; refine HJ.out.mono ?_; rintro e w1 ⟨rfl, hb1⟩)
      go_ret
      exact ⟨rfl, HB2.out.trans (hb1.mono HB2.out.size)⟩
end Go.Proofs.YtmcjfnebkpifnaaGreatDoor

/-
  Numbers and their digits, there and back: pure.
-/
namespace Go.Proofs.YtmcjfnebkpifnaaGreatDoor
open Go.RowKit Go.Proofs.YtmcjfnebkpifnaaGreatDoorW.PrintWords Go.Proofs.YtmcjfnebkpifnaaGreatDoorW.PrintLast Go.Proofs.YtmcjfnebkpifnaaGreatDoorW.PrintMore
open Go.Lib (parseUintM decDigits)
set_option linter.unusedVariables false

theorem dec_step (n : Nat) (h : ¬ n < 10) : decDigits n = decDigits (n / 10) ++ [UInt8.ofNat (48 + n % 10)] := by
  rw [decDigits, dif_neg h]
theorem dec_one (n : Nat) (h : n < 10) : decDigits n = [UInt8.ofNat (48 + n)] := by
  rw [decDigits, dif_pos h]
theorem ofNat_toNat (m : Nat) (h : m < 256) : (UInt8.ofNat m).toNat = m := by
  rw [show (UInt8.ofNat m).toNat = m % 256 by simp]; omega
theorem digit_isD (m : Nat) (h : m < 10) : isD (UInt8.ofNat (48 + m)) = true := by
  unfold isD
  rw [ofNat_toNat _ (by omega)]
  simp; omega
theorem parse_append (M : Nat) : ∀ (a b : List UInt8) (acc : Nat), parseUintM M acc (a ++ b) = match parseUintM M acc a with
    | .ok u => parseUintM M u b
    | e => e
  | [], b, acc => rfl
  | c :: r, b, acc => by
    have e : ∀ r : List UInt8, parseUintM M acc (c :: r) = if 48 ≤ c.toNat ∧ c.toNat ≤ 57 then if 1844674407370955162 ≤ acc then .range else if M < acc * 10 + (c.toNat - 48) then .range else parseUintM M (acc * 10 + (c.toNat - 48)) r else Lib.NumEnd.syntax := fun _ => rfl
    rw [List.cons_append, e, e]
    split
    · split
      · rfl
      · split
        · rfl
        · exact parse_append M r b _
    · rfl
theorem parse_digit (M acc m : Nat) (h : m < 10) (hM : M ≤ 2147483647) (hacc : acc * 10 + m ≤ M) : parseUintM M acc [UInt8.ofNat (48 + m)] = .ok (acc * 10 + m) := by
  unfold parseUintM
  rw [ofNat_toNat _ (by omega), if_pos (by omega), if_neg (by omega), if_neg (by omega)]
  show Lib.NumEnd.ok (acc * 10 + (48 + m - 48)) = _
  rw [Nat.add_sub_cancel_left]
theorem parse_dec (M : Nat) (hM : M ≤ 2147483647) (n : Nat) : n ≤ M → parseUintM M 0 (decDigits n) = .ok n := by
  induction n using Nat.strongRecOn with
  | ind n ih =>
    intro hn
    by_cases h : n < 10
    · rw [dec_one n h]
      have := parse_digit M 0 n h hM (by omega)
      rw [Nat.zero_mul, Nat.zero_add] at this
      exact this
    · rw [dec_step n h, parse_append, ih (n / 10) (by omega) (by omega)]
      have := parse_digit M (n / 10) (n % 10) (by omega) hM (by omega)
      rw [show n / 10 * 10 + n % 10 = n from by omega] at this
      exact this
theorem dec_all (n : Nat) : ∀ b ∈ decDigits n, isD b = true := by
  induction n using Nat.strongRecOn with
  | ind n ih =>
    intro b hb
    by_cases h : n < 10
    · rw [dec_one n h] at hb
      rw [List.mem_singleton.1 hb]
      exact digit_isD n h
    · rw [dec_step n h] at hb
      rcases List.mem_append.1 hb with hb | hb
      · exact ih (n / 10) (by omega) b hb
      · rw [List.mem_singleton.1 hb]
        exact digit_isD _ (by omega)
theorem dec_ne (n : Nat) : decDigits n ≠ [] := by
  by_cases h : n < 10
  · rw [dec_one n h]; simp
  · rw [dec_step n h]; simp
theorem getD_append {a b : List UInt8} (h : a ≠ []) : (a ++ b).getD 0 0 = a.getD 0 0 := by
  cases a with
  | nil => exact absurd rfl h
  | cons x r => rfl
theorem dec_first (n : Nat) : 1 ≤ n → (decDigits n).getD 0 0 ≠ 48 := by
  induction n using Nat.strongRecOn with
  | ind n ih =>
    intro h1
    by_cases h : n < 10
    · rw [dec_one n h]
      show UInt8.ofNat (48 + n) ≠ 48
      intro he
      have := congrArg UInt8.toNat he
      rw [ofNat_toNat _ (by omega)] at this
      have e : (48 : UInt8).toNat = 48 := rfl
      omega
    · rw [dec_step n h, getD_append (dec_ne _)]
      exact ih (n / 10) (by omega) (by omega)
theorem takeWhile_all (p : UInt8 → Bool) : ∀ (l : List UInt8), (∀ b ∈ l, p b = true) → l.takeWhile p = l
  | [], _ => rfl
  | x :: r, h => by
    rw [List.takeWhile_cons, if_pos (h x List.mem_cons_self), takeWhile_all p r (fun b hb => h b (List.mem_cons_of_mem _ hb))]
theorem digS_in (n : Nat) (h : n ≤ 2147483647) : (digS (n : Int)).data.toList = decDigits n := by
  unfold digS
  rw [if_neg (by omega)]
  show (Lib.itoa (n : Int)).toArray.toList = _
  rw [Lib.itoa_nonneg]
end Go.Proofs.YtmcjfnebkpifnaaGreatDoor
