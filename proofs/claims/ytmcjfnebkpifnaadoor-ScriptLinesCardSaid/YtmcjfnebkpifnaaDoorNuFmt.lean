/-
  internal/strconv.formatBits at base 16 and a number of 16 bits.
-/
import Derived.Test.YtmcjfnebkpifnaaDoorMem
import Derived.Handy
import Derived.Laws.BitsLemmas
import Derived.Lib.ConvBytes
import Derived.Laws.IdiomStrings
namespace Go.Proofs.YtmcjfnebkpifnaaDoor
open Go.RowKit Go.Proofs.YtmcjfnebkpifnaaDoorW.PrintWords Go.Proofs.YtmcjfnebkpifnaaDoorW.PrintLast Go.Proofs.YtmcjfnebkpifnaaDoorW.PrintMore
set_option linter.unusedVariables false

theorem tz64_calls (w : World) (h : w.cell? ⟨4, 15, none⟩ = some (.int .u8 4)) : Calls Tryd.prog 110 #[.int .u64 16] w fun e w' => e = .returned (.int .i64 4) ∧ w' = w := by
  have hz : IntKind.u64.wrap (bits .and .u64 16 (IntKind.u64.wrap (-16)) * 285870213051353865) / 288230376151711744 = 15 := by kernel_rfl
  go_enter Tryd.func110, Tryd.ntmps110
  go_wp2
  go_ret
  exact ⟨rfl, rfl⟩
theorem tz_calls (w : World) (h : w.cell? ⟨4, 15, none⟩ = some (.int .u8 4)) : Calls Tryd.prog 104 #[.int .u64 16] w fun e w' => e = .returned (.int .i64 4) ∧ w' = w := by
  go_enter Tryd.func104, Tryd.ntmps104
  go_wp2_with (go_at_call 110; refine (tz64_calls _ h).mono ?_; rintro e w' ⟨rfl, rfl⟩)
  go_ret
  exact ⟨rfl, rfl⟩
theorem pow_calls (w : World) : Calls Tryd.prog 103 #[.int .i64 16] w fun e w' => e = .returned (.bool true) ∧ w' = w := by
  go_enter Tryd.func103, Tryd.ntmps103
  go_wp2
  go_ret
  exact ⟨rfl, rfl⟩

/-- A digit of base 16. -/
def dgt (k : Int) : UInt8 := [48, 49, 50, 51, 52, 53, 54, 55, 56, 57, 97, 98, 99, 100, 101, 102].getD k.toNat 0
theorem dgt_tab (k : Int) (h0 : 0 ≤ k) (h1 : k < 16) (h : k.toNat < (⟨#[48, 49, 50, 51, 52, 53, 54, 55, 56, 57, 97, 98, 99, 100, 101, 102, 103, 104, 105, 106, 107, 108, 109, 110, 111, 112, 113, 114, 115, 116, 117, 118, 119, 120, 121, 122]⟩ : ByteArray).size) : (⟨#[48, 49, 50, 51, 52, 53, 54, 55, 56, 57, 97, 98, 99, 100, 101, 102, 103, 104, 105, 106, 107, 108, 109, 110, 111, 112, 113, 114, 115, 116, 117, 118, 119, 120, 121, 122]⟩ : ByteArray)[k.toNat] = dgt k := by
  obtain ⟨m, rfl⟩ := Int.eq_ofNat_of_zero_le h0
  have hm : m < 16 := by omega
  match m, hm with
  | 0, _ => rfl
  | 1, _ => rfl
  | 2, _ => rfl
  | 3, _ => rfl
  | 4, _ => rfl
  | 5, _ => rfl
  | 6, _ => rfl
  | 7, _ => rfl
  | 8, _ => rfl
  | 9, _ => rfl
  | 10, _ => rfl
  | 11, _ => rfl
  | 12, _ => rfl
  | 13, _ => rfl
  | 14, _ => rfl
  | 15, _ => rfl
theorem mask4 (n : Int) (h0 : 0 ≤ n) (h1 : n < 65536) : bits .and .u64 n 15 = n % 16 :=
  bits_mask .u64 16 (by decide) (fun n h0 h1 => by rw [IntKind.wrap_u64]; omega) 4 (by decide) n h0 h1

theorem conv1 (W : World) (b o c : Nat) (d : UInt8) (h : W.cell? ⟨b, o, none⟩ = some (.int .u8 (d.toNat : Int))) :
    (convert 27 9 (.slice (some ⟨b, o, none⟩) 1 c)).run Tryd.prog W = .ok (.string ⟨#[d]⟩) W :=
  run_convert_bytes_back (P := Tryd.prog) W 27 9 5 ⟨b, o, none⟩ c [d] Tryd.underlying27 Tryd.underlying5 Tryd.underlying9 (fun j hj => by
    match j, hj with
    | 0, _ => exact h)
theorem conv2 (W : World) (b o c : Nat) (d e : UInt8) (h : W.cell? ⟨b, o, none⟩ = some (.int .u8 (d.toNat : Int))) (h1 : W.cell? ⟨b, o + 1, none⟩ = some (.int .u8 (e.toNat : Int))) :
    (convert 27 9 (.slice (some ⟨b, o, none⟩) 2 c)).run Tryd.prog W = .ok (.string ⟨#[d, e]⟩) W :=
  run_convert_bytes_back (P := Tryd.prog) W 27 9 5 ⟨b, o, none⟩ c [d, e] Tryd.underlying27 Tryd.underlying5 Tryd.underlying9 (fun j hj => by
    match j, hj with
    | 0, _ => exact h
    | 1, _ => exact h1)
theorem conv3 (W : World) (b o c : Nat) (d e f : UInt8) (h : W.cell? ⟨b, o, none⟩ = some (.int .u8 (d.toNat : Int))) (h1 : W.cell? ⟨b, o + 1, none⟩ = some (.int .u8 (e.toNat : Int))) (h2 : W.cell? ⟨b, o + 2, none⟩ = some (.int .u8 (f.toNat : Int))) :
    (convert 27 9 (.slice (some ⟨b, o, none⟩) 3 c)).run Tryd.prog W = .ok (.string ⟨#[d, e, f]⟩) W :=
  run_convert_bytes_back (P := Tryd.prog) W 27 9 5 ⟨b, o, none⟩ c [d, e, f] Tryd.underlying27 Tryd.underlying5 Tryd.underlying9 (fun j hj => by
    match j, hj with
    | 0, _ => exact h
    | 1, _ => exact h1
    | 2, _ => exact h2)
theorem conv4 (W : World) (b o c : Nat) (d e f g : UInt8) (h : W.cell? ⟨b, o, none⟩ = some (.int .u8 (d.toNat : Int))) (h1 : W.cell? ⟨b, o + 1, none⟩ = some (.int .u8 (e.toNat : Int))) (h2 : W.cell? ⟨b, o + 2, none⟩ = some (.int .u8 (f.toNat : Int))) (h3 : W.cell? ⟨b, o + 3, none⟩ = some (.int .u8 (g.toNat : Int))) :
    (convert 27 9 (.slice (some ⟨b, o, none⟩) 4 c)).run Tryd.prog W = .ok (.string ⟨#[d, e, f, g]⟩) W :=
  run_convert_bytes_back (P := Tryd.prog) W 27 9 5 ⟨b, o, none⟩ c [d, e, f, g] Tryd.underlying27 Tryd.underlying5 Tryd.underlying9 (fun j hj => by
    match j, hj with
    | 0, _ => exact h
    | 1, _ => exact h1
    | 2, _ => exact h2
    | 3, _ => exact h3)
/-- A cell of the block that was just made. -/
theorem made_cell (w : World) (C : Array Value) (t : TypeId) (o : Nat) : (w.alloc (.cells C t)).cell? ⟨w.heap.size, o, none⟩ = C[o]? := cell_of_row _ _ _ _ _ _ (heap_alloc_new w _)

set_option maxRecDepth 100000 in
set_option maxHeartbeats 4000000 in
theorem fbits1_calls (n : Int) (h0 : 0 ≤ n) (h1 : n < 16) (w : World) (h : ∀ o, (w.alloc o).cell? ⟨4, 15, none⟩ = some (.int .u8 4)) :
    Calls Tryd.prog 89 #[.slice none 0 0, .int .u64 n, .int .i64 16, .bool false, .bool false] w fun e w' => e = .returned (.tuple #[.slice none 0 0, .string ⟨#[dgt n]⟩]) ∧ Below w.heap.size w w' := by
  have hl0 : 0 ≤ n := by omega
  have hg0 : n < 16 := by omega
  clear h0 h1
  go_enter Tryd.func89, Tryd.ntmps89
  go_wp2_with (first | (go_at_call 104; refine (tz_calls _ (h _)).mono ?_; rintro e w' ⟨rfl, rfl⟩) | (go_at_call 103; refine (pow_calls _).mono ?_; rintro e w' ⟨rfl, rfl⟩))
  refine wp_loop_rounds 1 ?_
  repeat any_goals (rw [rounds_succ]; go_wp2)
  rw [conv1 _ _ 64 _ (dgt n) ?_]
  · go_wp2
    go_ret2
    exact ⟨rfl, (Below.refl _ _).alloc (Nat.le_refl _) _⟩
  all_goals (rw [made_cell]; simp (disch := omega) [Array.getElem?_setIfInBounds, dgt_tab])

set_option maxRecDepth 100000 in
set_option maxHeartbeats 4000000 in
theorem fbits2_calls (n : Int) (h0 : 16 ≤ n) (h1 : n < 256) (w : World) (h : ∀ o, (w.alloc o).cell? ⟨4, 15, none⟩ = some (.int .u8 4)) :
    Calls Tryd.prog 89 #[.slice none 0 0, .int .u64 n, .int .i64 16, .bool false, .bool false] w fun e w' => e = .returned (.tuple #[.slice none 0 0, .string ⟨#[dgt (n / 16), dgt (n % 16)]⟩]) ∧ Below w.heap.size w w' := by
  have hm0 : bits .and .u64 n 15 = n % 16 := mask4 _ (by omega) (by omega)
  have hl0 : 0 ≤ n := by omega
  have hg0 : 16 ≤ n := by omega
  have hq0 : 0 ≤ n % 16 := by omega
  have hr0 : n % 16 < 16 := by omega
  have hl1 : 0 ≤ n / 16 := by omega
  have hg1 : n / 16 < 16 := by omega
  clear h0 h1
  go_enter Tryd.func89, Tryd.ntmps89
  go_wp2_with (first | (go_at_call 104; refine (tz_calls _ (h _)).mono ?_; rintro e w' ⟨rfl, rfl⟩) | (go_at_call 103; refine (pow_calls _).mono ?_; rintro e w' ⟨rfl, rfl⟩))
  refine wp_loop_rounds 2 ?_
  repeat any_goals (rw [rounds_succ]; go_wp2)
  rw [conv2 _ _ 63 _ (dgt (n / 16)) (dgt (n % 16)) ?_ ?_]
  · go_wp2
    go_ret2
    exact ⟨rfl, (Below.refl _ _).alloc (Nat.le_refl _) _⟩
  all_goals (rw [made_cell]; simp (disch := omega) [Array.getElem?_setIfInBounds, dgt_tab])

set_option maxRecDepth 100000 in
set_option maxHeartbeats 4000000 in
theorem fbits3_calls (n : Int) (h0 : 256 ≤ n) (h1 : n < 4096) (w : World) (h : ∀ o, (w.alloc o).cell? ⟨4, 15, none⟩ = some (.int .u8 4)) :
    Calls Tryd.prog 89 #[.slice none 0 0, .int .u64 n, .int .i64 16, .bool false, .bool false] w fun e w' => e = .returned (.tuple #[.slice none 0 0, .string ⟨#[dgt (n / 16 / 16), dgt (n / 16 % 16), dgt (n % 16)]⟩]) ∧ Below w.heap.size w w' := by
  have hm0 : bits .and .u64 n 15 = n % 16 := mask4 _ (by omega) (by omega)
  have hm1 : bits .and .u64 (n / 16) 15 = n / 16 % 16 := mask4 _ (by omega) (by omega)
  have hl0 : 0 ≤ n := by omega
  have hg0 : 16 ≤ n := by omega
  have hq0 : 0 ≤ n % 16 := by omega
  have hr0 : n % 16 < 16 := by omega
  have hl1 : 0 ≤ n / 16 := by omega
  have hg1 : 16 ≤ n / 16 := by omega
  have hq1 : 0 ≤ n / 16 % 16 := by omega
  have hr1 : n / 16 % 16 < 16 := by omega
  have hl2 : 0 ≤ n / 16 / 16 := by omega
  have hg2 : n / 16 / 16 < 16 := by omega
  clear h0 h1
  go_enter Tryd.func89, Tryd.ntmps89
  go_wp2_with (first | (go_at_call 104; refine (tz_calls _ (h _)).mono ?_; rintro e w' ⟨rfl, rfl⟩) | (go_at_call 103; refine (pow_calls _).mono ?_; rintro e w' ⟨rfl, rfl⟩))
  refine wp_loop_rounds 3 ?_
  repeat any_goals (rw [rounds_succ]; go_wp2)
  rw [conv3 _ _ 62 _ (dgt (n / 16 / 16)) (dgt (n / 16 % 16)) (dgt (n % 16)) ?_ ?_ ?_]
  · go_wp2
    go_ret2
    exact ⟨rfl, (Below.refl _ _).alloc (Nat.le_refl _) _⟩
  all_goals (rw [made_cell]; simp (disch := omega) [Array.getElem?_setIfInBounds, dgt_tab])

set_option maxRecDepth 100000 in
set_option maxHeartbeats 4000000 in
theorem fbits4_calls (n : Int) (h0 : 4096 ≤ n) (h1 : n < 65536) (w : World) (h : ∀ o, (w.alloc o).cell? ⟨4, 15, none⟩ = some (.int .u8 4)) :
    Calls Tryd.prog 89 #[.slice none 0 0, .int .u64 n, .int .i64 16, .bool false, .bool false] w fun e w' => e = .returned (.tuple #[.slice none 0 0, .string ⟨#[dgt (n / 16 / 16 / 16), dgt (n / 16 / 16 % 16), dgt (n / 16 % 16), dgt (n % 16)]⟩]) ∧ Below w.heap.size w w' := by
  have hm0 : bits .and .u64 n 15 = n % 16 := mask4 _ (by omega) (by omega)
  have hm1 : bits .and .u64 (n / 16) 15 = n / 16 % 16 := mask4 _ (by omega) (by omega)
  have hm2 : bits .and .u64 (n / 16 / 16) 15 = n / 16 / 16 % 16 := mask4 _ (by omega) (by omega)
  have hl0 : 0 ≤ n := by omega
  have hg0 : 16 ≤ n := by omega
  have hq0 : 0 ≤ n % 16 := by omega
  have hr0 : n % 16 < 16 := by omega
  have hl1 : 0 ≤ n / 16 := by omega
  have hg1 : 16 ≤ n / 16 := by omega
  have hq1 : 0 ≤ n / 16 % 16 := by omega
  have hr1 : n / 16 % 16 < 16 := by omega
  have hl2 : 0 ≤ n / 16 / 16 := by omega
  have hg2 : 16 ≤ n / 16 / 16 := by omega
  have hq2 : 0 ≤ n / 16 / 16 % 16 := by omega
  have hr2 : n / 16 / 16 % 16 < 16 := by omega
  have hl3 : 0 ≤ n / 16 / 16 / 16 := by omega
  have hg3 : n / 16 / 16 / 16 < 16 := by omega
  clear h0 h1
  go_enter Tryd.func89, Tryd.ntmps89
  go_wp2_with (first | (go_at_call 104; refine (tz_calls _ (h _)).mono ?_; rintro e w' ⟨rfl, rfl⟩) | (go_at_call 103; refine (pow_calls _).mono ?_; rintro e w' ⟨rfl, rfl⟩))
  refine wp_loop_rounds 4 ?_
  repeat any_goals (rw [rounds_succ]; go_wp2)
  rw [conv4 _ _ 61 _ (dgt (n / 16 / 16 / 16)) (dgt (n / 16 / 16 % 16)) (dgt (n / 16 % 16)) (dgt (n % 16)) ?_ ?_ ?_ ?_]
  · go_wp2
    go_ret2
    exact ⟨rfl, (Below.refl _ _).alloc (Nat.le_refl _) _⟩
  all_goals (rw [made_cell]; simp (disch := omega) [Array.getElem?_setIfInBounds, dgt_tab])

end Go.Proofs.YtmcjfnebkpifnaaDoor
