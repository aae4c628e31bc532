/-
  Joined texts: NuFmt, Shelf, NuHexP, NuNumP, NuDigitsP, NumPureP, NuUint.
-/
import Derived.Test.YtkobpbbegalfpaaGreatDoorPsBase
import Derived.Handy
import Derived.Laws.BitsLemmas
import Derived.Lib.ConvBytes
import Derived.Laws.IdiomStrings
import Derived.Shelf.Strings.Builder1
import Derived.Shelf.Strings.Builder2
import Derived.Shelf.Strings.OnBuilder
import Derived.Shelf.Strings.BuilderF
import Derived.Shelf.Strconv.Itoa0
import Derived.Shelf.Strconv.Itoa1
import Derived.Shelf.LaysM
import Derived.Shelf.Strconv.Itoa2
import Derived.Shelf.Strconv.Itoa3
import Derived.Shelf.Strconv.Clone
import Derived.Shelf.Strconv.SyntaxError
import Derived.Shelf.LaysC
import Derived.Shelf.Strconv.ToError
import Derived.Shelf.Strconv.RangeError
import Derived.Shelf.Strconv.ToErrorRange
import Derived.Shelf.Strings.Prefix
import Derived.Shelf.Bits.Mul64
import Derived.Shelf.Strings.Repeat
import Derived.Test.YtkobpbbegalfpaaGreatDoorProg
import Derived.Lib.SmallJoins
import Derived.Lib.AtoiErrMem
import Derived.Lib.OthersKept
import Derived.Lib.ItoaMem
import Derived.Lib.AppendIntMem
import Derived.Lib.ItoaLen
import Derived.Lib.ItoaNum
import Derived.Lib.ParseIntB
import Derived.Lib.Strings
import Derived.Lib.Walk
import Derived.Lib.ParseIntBMem
import Derived.Lib.Hide
import Derived.Laws.Strings3
import Derived.Laws.Closers25
import Derived.Laws.Closers25b
import Derived.WalkKit
import Derived.BigCall
import Derived.BigGuard
namespace Go.Proofs.YtkobpbbegalfpaaGreatDoor
open Go.RowKit YtkobpbbegalfpaaGreatDoorW.PrintWords YtkobpbbegalfpaaGreatDoorW.PrintLast YtkobpbbegalfpaaGreatDoorW.PrintMore
set_option linter.unusedVariables false
theorem tz64_calls (w : World) (h : w.cell? ⟨6, 15, none⟩ = some (.int .u8 4)) : Calls Tryz.prog 152 #[.int .u64 16] w fun e w' => e = .returned (.int .i64 4) ∧ w' = w := by
 have hz : IntKind.u64.wrap (bits .and .u64 16 (IntKind.u64.wrap (-16)) * 285870213051353865) / 288230376151711744 = 15 := by kernel_rfl
 go_enter Tryz.func152, Tryz.ntmps152
 go_wp2
 go_ret
 exact ⟨rfl, rfl⟩
theorem tz_calls (w : World) (h : w.cell? ⟨6, 15, none⟩ = some (.int .u8 4)) : Calls Tryz.prog 147 #[.int .u64 16] w fun e w' => e = .returned (.int .i64 4) ∧ w' = w := by
 go_enter Tryz.func147, Tryz.ntmps147
 go_wp2_with (go_at_call 152; refine (tz64_calls _ h).mono ?_; rintro e w' ⟨rfl, rfl⟩)
 go_ret
 exact ⟨rfl, rfl⟩
theorem pow_calls (w : World) : Calls Tryz.prog 146 #[.int .i64 16] w fun e w' => e = .returned (.bool true) ∧ w' = w := by
 go_enter Tryz.func146, Tryz.ntmps146
 go_wp2
 go_ret
 exact ⟨rfl, rfl⟩
def dgt (k : Int) : UInt8 := [48, 49, 50, 51, 52, 53, 54, 55, 56, 57, 97, 98, 99, 100, 101, 102].getD k.toNat 0
theorem dgt_tab (k : Int) (h0 : 0 ≤ k) (h1 : k < 16) (h : k.toNat < (⟨#[48, 49, 50, 51, 52, 53, 54, 55, 56, 57, 97, 98, 99, 100, 101, 102, 103, 104, 105, 106, 107, 108, 109, 110, 111, 112, 113, 114, 115, 116, 117, 118, 119, 120, 121, 122]⟩ : ByteArray).size) : (⟨#[48, 49, 50, 51, 52, 53, 54, 55, 56, 57, 97, 98, 99, 100, 101, 102, 103, 104, 105, 106, 107, 108, 109, 110, 111, 112, 113, 114, 115, 116, 117, 118, 119, 120, 121, 122]⟩ : ByteArray)[k.toNat] = dgt k := by
 obtain ⟨m, rfl⟩ := Int.eq_ofNat_of_zero_le h0
 have hm : m < 16 := by omega
 match m, hm with
 | 0, _ => rfl
 | 1, _ => rfl
 | 2, _ => rfl
 | 3, _ => rfl
 | 4, _ => rfl
 | 5, _ => rfl
 | 6, _ => rfl
 | 7, _ => rfl
 | 8, _ => rfl
 | 9, _ => rfl
 | 10, _ => rfl
 | 11, _ => rfl
 | 12, _ => rfl
 | 13, _ => rfl
 | 14, _ => rfl
 | 15, _ => rfl
theorem mask4 (n : Int) (h0 : 0 ≤ n) (h1 : n < 65536) : bits .and .u64 n 15 = n % 16 :=
 bits_mask .u64 16 (by decide) (fun n h0 h1 => by rw [IntKind.wrap_u64]; omega) 4 (by decide) n h0 h1
theorem conv1 (W : World) (b o c : Nat) (d : UInt8) (h : W.cell? ⟨b, o, none⟩ = some (.int .u8 (d.toNat : Int))) :
  (convert 64 9 (.slice (some ⟨b, o, none⟩) 1 c)).run Tryz.prog W = .ok (.string ⟨#[d]⟩) W :=
 run_convert_bytes_back (P := Tryz.prog) W 64 9 5 ⟨b, o, none⟩ c [d] Tryz.underlying64 Tryz.underlying5 Tryz.underlying9 (fun j hj => by
  match j, hj with
  | 0, _ => exact h)
theorem conv2 (W : World) (b o c : Nat) (d e : UInt8) (h : W.cell? ⟨b, o, none⟩ = some (.int .u8 (d.toNat : Int))) (h1 : W.cell? ⟨b, o + 1, none⟩ = some (.int .u8 (e.toNat : Int))) :
  (convert 64 9 (.slice (some ⟨b, o, none⟩) 2 c)).run Tryz.prog W = .ok (.string ⟨#[d, e]⟩) W :=
 run_convert_bytes_back (P := Tryz.prog) W 64 9 5 ⟨b, o, none⟩ c [d, e] Tryz.underlying64 Tryz.underlying5 Tryz.underlying9 (fun j hj => by
  match j, hj with
  | 0, _ => exact h
  | 1, _ => exact h1)
theorem conv3 (W : World) (b o c : Nat) (d e f : UInt8) (h : W.cell? ⟨b, o, none⟩ = some (.int .u8 (d.toNat : Int))) (h1 : W.cell? ⟨b, o + 1, none⟩ = some (.int .u8 (e.toNat : Int))) (h2 : W.cell? ⟨b, o + 2, none⟩ = some (.int .u8 (f.toNat : Int))) :
  (convert 64 9 (.slice (some ⟨b, o, none⟩) 3 c)).run Tryz.prog W = .ok (.string ⟨#[d, e, f]⟩) W :=
 run_convert_bytes_back (P := Tryz.prog) W 64 9 5 ⟨b, o, none⟩ c [d, e, f] Tryz.underlying64 Tryz.underlying5 Tryz.underlying9 (fun j hj => by
  match j, hj with
  | 0, _ => exact h
  | 1, _ => exact h1
  | 2, _ => exact h2)
theorem conv4 (W : World) (b o c : Nat) (d e f g : UInt8) (h : W.cell? ⟨b, o, none⟩ = some (.int .u8 (d.toNat : Int))) (h1 : W.cell? ⟨b, o + 1, none⟩ = some (.int .u8 (e.toNat : Int))) (h2 : W.cell? ⟨b, o + 2, none⟩ = some (.int .u8 (f.toNat : Int))) (h3 : W.cell? ⟨b, o + 3, none⟩ = some (.int .u8 (g.toNat : Int))) :
  (convert 64 9 (.slice (some ⟨b, o, none⟩) 4 c)).run Tryz.prog W = .ok (.string ⟨#[d, e, f, g]⟩) W :=
 run_convert_bytes_back (P := Tryz.prog) W 64 9 5 ⟨b, o, none⟩ c [d, e, f, g] Tryz.underlying64 Tryz.underlying5 Tryz.underlying9 (fun j hj => by
  match j, hj with
  | 0, _ => exact h
  | 1, _ => exact h1
  | 2, _ => exact h2
  | 3, _ => exact h3)
theorem made_cell (w : World) (C : Array Value) (t : TypeId) (o : Nat) : (w.alloc (.cells C t)).cell? ⟨w.heap.size, o, none⟩ = C[o]? := cell_of_row _ _ _ _ _ _ (heap_alloc_new w _)
set_option maxRecDepth 100000 in
set_option maxHeartbeats 4000000 in
theorem fbits1_calls (n : Int) (h0 : 0 ≤ n) (h1 : n < 16) (w : World) (h : ∀ o, (w.alloc o).cell? ⟨6, 15, none⟩ = some (.int .u8 4)) :
  Calls Tryz.prog 131 #[.slice none 0 0, .int .u64 n, .int .i64 16, .bool false, .bool false] w fun e w' => e = .returned (.tuple #[.slice none 0 0, .string ⟨#[dgt n]⟩]) ∧ Below w.heap.size w w' := by
 have hl0 : 0 ≤ n := by omega
 have hg0 : n < 16 := by omega
 clear h0 h1
 go_enter Tryz.func131, Tryz.ntmps131
 go_wp2_with (first | (go_at_call 147; refine (tz_calls _ (h _)).mono ?_; rintro e w' ⟨rfl, rfl⟩) | (go_at_call 146; refine (pow_calls _).mono ?_; rintro e w' ⟨rfl, rfl⟩))
 refine wp_loop_rounds 1 ?_
 repeat any_goals (rw [rounds_succ]; go_wp2)
 rw [conv1 _ _ 64 _ (dgt n) ?_]
 ·go_wp2
  go_ret2
  exact ⟨rfl, (Below.refl _ _).alloc (Nat.le_refl _) _⟩
 all_goals (rw [made_cell]; simp (disch := omega) [Array.getElem?_setIfInBounds, dgt_tab])
set_option maxRecDepth 100000 in
set_option maxHeartbeats 4000000 in
theorem fbits2_calls (n : Int) (h0 : 16 ≤ n) (h1 : n < 256) (w : World) (h : ∀ o, (w.alloc o).cell? ⟨6, 15, none⟩ = some (.int .u8 4)) :
  Calls Tryz.prog 131 #[.slice none 0 0, .int .u64 n, .int .i64 16, .bool false, .bool false] w fun e w' => e = .returned (.tuple #[.slice none 0 0, .string ⟨#[dgt (n / 16), dgt (n % 16)]⟩]) ∧ Below w.heap.size w w' := by
 have hm0 : bits .and .u64 n 15 = n % 16 := mask4 _ (by omega) (by omega)
 have hl0 : 0 ≤ n := by omega
 have hg0 : 16 ≤ n := by omega
 have hq0 : 0 ≤ n % 16 := by omega
 have hr0 : n % 16 < 16 := by omega
 have hl1 : 0 ≤ n / 16 := by omega
 have hg1 : n / 16 < 16 := by omega
 clear h0 h1
 go_enter Tryz.func131, Tryz.ntmps131
 go_wp2_with (first | (go_at_call 147; refine (tz_calls _ (h _)).mono ?_; rintro e w' ⟨rfl, rfl⟩) | (go_at_call 146; refine (pow_calls _).mono ?_; rintro e w' ⟨rfl, rfl⟩))
 refine wp_loop_rounds 2 ?_
 repeat any_goals (rw [rounds_succ]; go_wp2)
 rw [conv2 _ _ 63 _ (dgt (n / 16)) (dgt (n % 16)) ?_ ?_]
 ·go_wp2
  go_ret2
  exact ⟨rfl, (Below.refl _ _).alloc (Nat.le_refl _) _⟩
 all_goals (rw [made_cell]; simp (disch := omega) [Array.getElem?_setIfInBounds, dgt_tab])
set_option maxRecDepth 100000 in
set_option maxHeartbeats 4000000 in
theorem fbits3_calls (n : Int) (h0 : 256 ≤ n) (h1 : n < 4096) (w : World) (h : ∀ o, (w.alloc o).cell? ⟨6, 15, none⟩ = some (.int .u8 4)) :
  Calls Tryz.prog 131 #[.slice none 0 0, .int .u64 n, .int .i64 16, .bool false, .bool false] w fun e w' => e = .returned (.tuple #[.slice none 0 0, .string ⟨#[dgt (n / 16 / 16), dgt (n / 16 % 16), dgt (n % 16)]⟩]) ∧ Below w.heap.size w w' := by
 have hm0 : bits .and .u64 n 15 = n % 16 := mask4 _ (by omega) (by omega)
 have hm1 : bits .and .u64 (n / 16) 15 = n / 16 % 16 := mask4 _ (by omega) (by omega)
 have hl0 : 0 ≤ n := by omega
 have hg0 : 16 ≤ n := by omega
 have hq0 : 0 ≤ n % 16 := by omega
 have hr0 : n % 16 < 16 := by omega
 have hl1 : 0 ≤ n / 16 := by omega
 have hg1 : 16 ≤ n / 16 := by omega
 have hq1 : 0 ≤ n / 16 % 16 := by omega
 have hr1 : n / 16 % 16 < 16 := by omega
 have hl2 : 0 ≤ n / 16 / 16 := by omega
 have hg2 : n / 16 / 16 < 16 := by omega
 clear h0 h1
 go_enter Tryz.func131, Tryz.ntmps131
 go_wp2_with (first | (go_at_call 147; refine (tz_calls _ (h _)).mono ?_; rintro e w' ⟨rfl, rfl⟩) | (go_at_call 146; refine (pow_calls _).mono ?_; rintro e w' ⟨rfl, rfl⟩))
 refine wp_loop_rounds 3 ?_
 repeat any_goals (rw [rounds_succ]; go_wp2)
 rw [conv3 _ _ 62 _ (dgt (n / 16 / 16)) (dgt (n / 16 % 16)) (dgt (n % 16)) ?_ ?_ ?_]
 ·go_wp2
  go_ret2
  exact ⟨rfl, (Below.refl _ _).alloc (Nat.le_refl _) _⟩
 all_goals (rw [made_cell]; simp (disch := omega) [Array.getElem?_setIfInBounds, dgt_tab])
set_option maxRecDepth 100000 in
set_option maxHeartbeats 4000000 in
theorem fbits4_calls (n : Int) (h0 : 4096 ≤ n) (h1 : n < 65536) (w : World) (h : ∀ o, (w.alloc o).cell? ⟨6, 15, none⟩ = some (.int .u8 4)) :
  Calls Tryz.prog 131 #[.slice none 0 0, .int .u64 n, .int .i64 16, .bool false, .bool false] w fun e w' => e = .returned (.tuple #[.slice none 0 0, .string ⟨#[dgt (n / 16 / 16 / 16), dgt (n / 16 / 16 % 16), dgt (n / 16 % 16), dgt (n % 16)]⟩]) ∧ Below w.heap.size w w' := by
 have hm0 : bits .and .u64 n 15 = n % 16 := mask4 _ (by omega) (by omega)
 have hm1 : bits .and .u64 (n / 16) 15 = n / 16 % 16 := mask4 _ (by omega) (by omega)
 have hm2 : bits .and .u64 (n / 16 / 16) 15 = n / 16 / 16 % 16 := mask4 _ (by omega) (by omega)
 have hl0 : 0 ≤ n := by omega
 have hg0 : 16 ≤ n := by omega
 have hq0 : 0 ≤ n % 16 := by omega
 have hr0 : n % 16 < 16 := by omega
 have hl1 : 0 ≤ n / 16 := by omega
 have hg1 : 16 ≤ n / 16 := by omega
 have hq1 : 0 ≤ n / 16 % 16 := by omega
 have hr1 : n / 16 % 16 < 16 := by omega
 have hl2 : 0 ≤ n / 16 / 16 := by omega
 have hg2 : 16 ≤ n / 16 / 16 := by omega
 have hq2 : 0 ≤ n / 16 / 16 % 16 := by omega
 have hr2 : n / 16 / 16 % 16 < 16 := by omega
 have hl3 : 0 ≤ n / 16 / 16 / 16 := by omega
 have hg3 : n / 16 / 16 / 16 < 16 := by omega
 clear h0 h1
 go_enter Tryz.func131, Tryz.ntmps131
 go_wp2_with (first | (go_at_call 147; refine (tz_calls _ (h _)).mono ?_; rintro e w' ⟨rfl, rfl⟩) | (go_at_call 146; refine (pow_calls _).mono ?_; rintro e w' ⟨rfl, rfl⟩))
 refine wp_loop_rounds 4 ?_
 repeat any_goals (rw [rounds_succ]; go_wp2)
 rw [conv4 _ _ 61 _ (dgt (n / 16 / 16 / 16)) (dgt (n / 16 / 16 % 16)) (dgt (n / 16 % 16)) (dgt (n % 16)) ?_ ?_ ?_ ?_]
 ·go_wp2
  go_ret2
  exact ⟨rfl, (Below.refl _ _).alloc (Nat.le_refl _) _⟩
 all_goals (rw [made_cell]; simp (disch := omega) [Array.getElem?_setIfInBounds, dgt_tab])
end Go.Proofs.YtkobpbbegalfpaaGreatDoor
namespace Go.Proofs
open Go.Shelf
def Tryz.lays156_ren : Go.Shelf.Ren := ⟨fun | 156 => 107 | 165 => 111 | 166 => 84 | 169 => 60 | 240 => 105 | 241 => 135 | 276 => 126 | 277 => 148 | n => n, fun | 31 => 69 | 9 => 9 | 3 => 3 | 4 => 4 | 0 => 0 | 20 => 20 | 72 => 103 | 76 => 138 | 70 => 101 | 37 => 64 | 75 => 29 | 127 => 142 | 164 => 110 | 5 => 5 | 80 => 107 | n => n, fun | n => n⟩
theorem Tryz.lays156 : Go.Proofs.Lays.n156 Tryz.prog Tryz.lays156_ren := {
 mixed := by kernel_rfl
 f156 := Tryz.func107.trans (congrArg some (by kernel_rfl))
 f165 := Tryz.func111.trans (congrArg some (by kernel_rfl))
 f166 := Tryz.func84.trans (congrArg some (by kernel_rfl))
 f169 := Tryz.func60.trans (congrArg some (by kernel_rfl))
 f240 := Tryz.func105.trans (congrArg some (by kernel_rfl))
 f241 := Tryz.func135.trans (congrArg some (by kernel_rfl))
 f276 := Tryz.func126.trans (congrArg some (by kernel_rfl))
 f277 := Tryz.func148.trans (congrArg some (by kernel_rfl))
 t0 := Tryz.underlying0
 a0 := Tryz.isAgg0
 z0 := Tryz.sizeOf0
 v0 := Tryz.zeroValue0
 t3 := Tryz.underlying3
 a3 := Tryz.isAgg3
 z3 := Tryz.sizeOf3
 v3 := Tryz.zeroValue3
 t4 := Tryz.underlying4
 a4 := Tryz.isAgg4
 z4 := Tryz.sizeOf4
 v4 := Tryz.zeroValue4
 t9 := Tryz.underlying9
 a9 := Tryz.isAgg9
 z9 := Tryz.sizeOf9
 v9 := Tryz.zeroValue9
 t20 := Tryz.underlying20
 a20 := Tryz.isAgg20
 z20 := Tryz.sizeOf20
 v20 := Tryz.zeroValue20
 t31 := Tryz.underlying69
 a31 := Tryz.isAgg69
 z31 := Tryz.sizeOf69
 v31 := Tryz.zeroValue69
 t37 := Tryz.underlying64
 a37 := Tryz.isAgg64
 z37 := Tryz.sizeOf64
 v37 := Tryz.zeroValue64
 t70 := Tryz.underlying101
 a70 := Tryz.isAgg101
 z70 := Tryz.sizeOf101
 v70 := Tryz.zeroValue101
 t72 := Tryz.underlying103
 a72 := Tryz.isAgg103
 z72 := Tryz.sizeOf103
 v72 := Tryz.zeroValue103
 t75 := Tryz.underlying29
 a75 := Tryz.isAgg29
 z75 := Tryz.sizeOf29
 v75 := Tryz.zeroValue29
 t76 := Tryz.underlying138
 a76 := Tryz.isAgg138
 z76 := Tryz.sizeOf138
 v76 := Tryz.zeroValue138
 t127 := Tryz.underlying142
 a127 := Tryz.isAgg142
 z127 := Tryz.sizeOf142
 v127 := Tryz.zeroValue142
 t164 := Tryz.underlying110
 a164 := Tryz.isAgg110
 z164 := Tryz.sizeOf110
 v164 := Tryz.zeroValue110 }
theorem Tryz.Builder_Extra_156 : Builder.Extra Tryz.prog Tryz.lays156_ren := {
 sizeBuilder := by kernel_rfl
 liesBuilder := by kernel_rfl
 t5 := Tryz.underlying5
 a5 := Tryz.isAgg5
 z5 := Tryz.sizeOf5
 v5 := Tryz.zeroValue5
 infoByte := by kernel_rfl
 cellsByte := by kernel_rfl
 sizeByte := by kernel_rfl
 neB5 := by decide }
open Go.RowKit in
theorem Tryz.strings_Join_none (a : Option Addr) (c : Nat) (sep : ByteArray) (w : World) :
  Calls Tryz.prog 107 #[.slice a 0 c, .string sep] w fun e w' => e = .returned (.string ⟨#[]⟩) ∧ w' = w := Any.strings_Join_none Tryz.lays156 Tryz.Builder_Extra_156 a c sep w
open Go.RowKit in
theorem Tryz.strings_Join (bk o c : Nat) (xs : List ByteArray) (sep : ByteArray) (w : World) (hcells : ∀ (j : Nat) x, xs[j]? = some x → w.cell? ⟨bk, o + j, none⟩ = some (.string x)) (hbk : bk < w.heap.size) (hN : xs.length ≤ 140737488355328) (hcap : xs.length ≤ c) (hlen : (Lib.join (xs.map (·.data.toList)) sep.data.toList).length ≤ 140737488355328) :
  Calls Tryz.prog 107 #[.slice (some ⟨bk, o, none⟩) xs.length c, .string sep] w fun e w' => e = .returned (.string ⟨(Lib.join (xs.map (·.data.toList)) sep.data.toList).toArray⟩) ∧ Below w.heap.size w w' := Any.strings_Join Tryz.lays156 Tryz.Builder_Extra_156 bk o c xs sep w hcells hbk hN hcap hlen
def Tryz.laysM171_ren : Go.Shelf.Ren := ⟨fun | 171 => 127 | 243 => 142 | 246 => 150 | 283 => 128 | 284 => 129 | 285 => 130 | 286 => 131 | 129 => 144 | 317 => 143 | 318 => 145 | 319 => 146 | 320 => 147 | 337 => 151 | 338 => 152 | n => n, fun | 3 => 3 | 9 => 9 | 2 => 2 | 4 => 4 | 171 => 186 | 0 => 0 | 53 => 134 | 37 => 64 | 5 => 5 | 173 => 189 | 212 => 205 | 51 => 191 | 20 => 20 | 213 => 206 | 46 => 173 | 232 => 218 | 233 => 219 | n => n, fun | 17 => 3 | 18 => 5 | 19 => 6 | n => n⟩
theorem Tryz.laysM171 : Go.Proofs.LaysM.n171 Tryz.prog Tryz.laysM171_ren := {
 mixed := by kernel_rfl
 f129 := Tryz.func144.trans (congrArg some (by kernel_rfl))
 f171 := Tryz.func127.trans (congrArg some (by kernel_rfl))
 f243 := Tryz.func142.trans (congrArg some (by kernel_rfl))
 f246 := Tryz.func150.trans (congrArg some (by kernel_rfl))
 f283 := Tryz.func128.trans (congrArg some (by kernel_rfl))
 f284 := Tryz.func129.trans (congrArg some (by kernel_rfl))
 f285 := Tryz.func130.trans (congrArg some (by kernel_rfl))
 f286 := Tryz.func131.trans (congrArg some (by kernel_rfl))
 f317 := Tryz.func143.trans (congrArg some (by kernel_rfl))
 f318 := Tryz.func145.trans (congrArg some (by kernel_rfl))
 f319 := Tryz.func146.trans (congrArg some (by kernel_rfl))
 f320 := Tryz.func147.trans (congrArg some (by kernel_rfl))
 f337 := Tryz.func151.trans (congrArg some (by kernel_rfl))
 f338 := Tryz.func152.trans (congrArg some (by kernel_rfl))
 t0 := Tryz.underlying0
 a0 := Tryz.isAgg0
 z0 := Tryz.sizeOf0
 v0 := Tryz.zeroValue0
 t2 := Tryz.underlying2
 a2 := Tryz.isAgg2
 z2 := Tryz.sizeOf2
 v2 := Tryz.zeroValue2
 t3 := Tryz.underlying3
 a3 := Tryz.isAgg3
 z3 := Tryz.sizeOf3
 v3 := Tryz.zeroValue3
 t4 := Tryz.underlying4
 a4 := Tryz.isAgg4
 z4 := Tryz.sizeOf4
 v4 := Tryz.zeroValue4
 t5 := Tryz.underlying5
 a5 := Tryz.isAgg5
 z5 := Tryz.sizeOf5
 v5 := Tryz.zeroValue5
 t9 := Tryz.underlying9
 a9 := Tryz.isAgg9
 z9 := Tryz.sizeOf9
 v9 := Tryz.zeroValue9
 t20 := Tryz.underlying20
 a20 := Tryz.isAgg20
 z20 := Tryz.sizeOf20
 v20 := Tryz.zeroValue20
 t37 := Tryz.underlying64
 a37 := Tryz.isAgg64
 z37 := Tryz.sizeOf64
 v37 := Tryz.zeroValue64
 t46 := Tryz.underlying173
 a46 := Tryz.isAgg173
 z46 := Tryz.sizeOf173
 v46 := Tryz.zeroValue173
 t51 := Tryz.underlying191
 a51 := Tryz.isAgg191
 z51 := Tryz.sizeOf191
 v51 := Tryz.zeroValue191
 t53 := Tryz.underlying134
 a53 := Tryz.isAgg134
 z53 := Tryz.sizeOf134
 v53 := Tryz.zeroValue134
 t171 := Tryz.underlying186
 a171 := Tryz.isAgg186
 z171 := Tryz.sizeOf186
 v171 := Tryz.zeroValue186
 t173 := Tryz.underlying189
 a173 := Tryz.isAgg189
 z173 := Tryz.sizeOf189
 v173 := Tryz.zeroValue189
 t212 := Tryz.underlying205
 a212 := Tryz.isAgg205
 z212 := Tryz.sizeOf205
 v212 := Tryz.zeroValue205
 t213 := Tryz.underlying206
 a213 := Tryz.isAgg206
 z213 := Tryz.sizeOf206
 t232 := Tryz.underlying218
 a232 := Tryz.isAgg218
 z232 := Tryz.sizeOf218
 v232 := Tryz.zeroValue218
 t233 := Tryz.underlying219
 a233 := Tryz.isAgg219
 z233 := Tryz.sizeOf219
 v233 := Tryz.zeroValue219
 g17 := by kernel_rfl
 g18 := by kernel_rfl
 g19 := by kernel_rfl
 i0 := by kernel_rfl
 i2 := by kernel_rfl
 i3 := by kernel_rfl
 i4 := by kernel_rfl
 i5 := by kernel_rfl
 i9 := by kernel_rfl
 i20 := by kernel_rfl
 i37 := by kernel_rfl
 i46 := by kernel_rfl
 i51 := by kernel_rfl
 i53 := by kernel_rfl
 i171 := by kernel_rfl
 i173 := by kernel_rfl
 i212 := by kernel_rfl
 i232 := by kernel_rfl
 i233 := by kernel_rfl
 m17 := by kernel_rfl
 m18 := by kernel_rfl
 m19 := by kernel_rfl }
open Go.RowKit Go.Sort Go.Lib in
theorem Tryz.strconv_Itoa (n : Int) (h0 : -9223372036854775808 ≤ n) (h1 : n ≤ 9223372036854775807) (w : World) (htab : Lib.TabIs Tryz.prog w "internal/strconv.uint64pow10" .u64 Lib.pow10Tab) :
  Calls Tryz.prog 127 #[.int .i64 n] w fun e w' => e = .returned (.string ⟨(Lib.itoa n).toArray⟩) ∧ ∃ k os, w' = grow (w.drewN k) os := Any.strconv_Itoa Tryz.laysM171 n h0 h1 w htab
def Tryz.laysC245_ren : Go.Shelf.Ren := ⟨fun | 245 => 103 | 279 => 122 | 280 => 123 | 281 => 124 | 282 => 125 | 316 => 140 | 171 => 127 | 205 => 141 | 243 => 142 | 246 => 150 | 283 => 128 | 284 => 129 | 285 => 130 | 286 => 131 | 129 => 144 | 317 => 143 | 318 => 145 | 319 => 146 | 320 => 147 | 337 => 151 | 338 => 152 | n => n, fun | 9 => 9 | 3 => 3 | 75 => 29 | 167 => 180 | 4 => 4 | 168 => 182 | 210 => 201 | 37 => 64 | 0 => 0 | 127 => 142 | 145 => 213 | 143 => 211 | 2 => 2 | 171 => 186 | 53 => 134 | 5 => 5 | 173 => 189 | 212 => 205 | 51 => 191 | 20 => 20 | 213 => 206 | 46 => 173 | 232 => 218 | 233 => 219 | 80 => 107 | n => n, fun | 15 => 1 | 16 => 2 | 17 => 3 | 18 => 5 | 19 => 6 | n => n⟩
theorem Tryz.laysC245 : Go.Proofs.LaysC.n245 Tryz.prog Tryz.laysC245_ren := {
 mixed := by kernel_rfl
 f129 := Tryz.func144.trans (congrArg some (by kernel_rfl))
 f171 := Tryz.func127.trans (congrArg some (by kernel_rfl))
 f205 := Tryz.func141.trans (congrArg some (by kernel_rfl))
 f243 := Tryz.func142.trans (congrArg some (by kernel_rfl))
 f245 := Tryz.func103.trans (congrArg some (by kernel_rfl))
 f246 := Tryz.func150.trans (congrArg some (by kernel_rfl))
 f279 := Tryz.func122.trans (congrArg some (by kernel_rfl))
 f280 := Tryz.func123.trans (congrArg some (by kernel_rfl))
 f281 := Tryz.func124.trans (congrArg some (by kernel_rfl))
 f282 := Tryz.func125.trans (congrArg some (by kernel_rfl))
 f283 := Tryz.func128.trans (congrArg some (by kernel_rfl))
 f284 := Tryz.func129.trans (congrArg some (by kernel_rfl))
 f285 := Tryz.func130.trans (congrArg some (by kernel_rfl))
 f286 := Tryz.func131.trans (congrArg some (by kernel_rfl))
 f316 := Tryz.func140.trans (congrArg some (by kernel_rfl))
 f317 := Tryz.func143.trans (congrArg some (by kernel_rfl))
 f318 := Tryz.func145.trans (congrArg some (by kernel_rfl))
 f319 := Tryz.func146.trans (congrArg some (by kernel_rfl))
 f320 := Tryz.func147.trans (congrArg some (by kernel_rfl))
 f337 := Tryz.func151.trans (congrArg some (by kernel_rfl))
 f338 := Tryz.func152.trans (congrArg some (by kernel_rfl))
 t0 := Tryz.underlying0
 a0 := Tryz.isAgg0
 z0 := Tryz.sizeOf0
 v0 := Tryz.zeroValue0
 t2 := Tryz.underlying2
 a2 := Tryz.isAgg2
 z2 := Tryz.sizeOf2
 v2 := Tryz.zeroValue2
 t3 := Tryz.underlying3
 a3 := Tryz.isAgg3
 z3 := Tryz.sizeOf3
 v3 := Tryz.zeroValue3
 t4 := Tryz.underlying4
 a4 := Tryz.isAgg4
 z4 := Tryz.sizeOf4
 v4 := Tryz.zeroValue4
 t5 := Tryz.underlying5
 a5 := Tryz.isAgg5
 z5 := Tryz.sizeOf5
 v5 := Tryz.zeroValue5
 t9 := Tryz.underlying9
 a9 := Tryz.isAgg9
 z9 := Tryz.sizeOf9
 v9 := Tryz.zeroValue9
 t20 := Tryz.underlying20
 a20 := Tryz.isAgg20
 z20 := Tryz.sizeOf20
 v20 := Tryz.zeroValue20
 t37 := Tryz.underlying64
 a37 := Tryz.isAgg64
 z37 := Tryz.sizeOf64
 v37 := Tryz.zeroValue64
 t46 := Tryz.underlying173
 a46 := Tryz.isAgg173
 z46 := Tryz.sizeOf173
 v46 := Tryz.zeroValue173
 t51 := Tryz.underlying191
 a51 := Tryz.isAgg191
 z51 := Tryz.sizeOf191
 v51 := Tryz.zeroValue191
 t53 := Tryz.underlying134
 a53 := Tryz.isAgg134
 z53 := Tryz.sizeOf134
 v53 := Tryz.zeroValue134
 t75 := Tryz.underlying29
 a75 := Tryz.isAgg29
 z75 := Tryz.sizeOf29
 v75 := Tryz.zeroValue29
 t127 := Tryz.underlying142
 a127 := Tryz.isAgg142
 z127 := Tryz.sizeOf142
 v127 := Tryz.zeroValue142
 t143 := Tryz.underlying211
 a143 := Tryz.isAgg211
 z143 := Tryz.sizeOf211
 v143 := Tryz.zeroValue211
 t145 := Tryz.underlying213
 a145 := Tryz.isAgg213
 z145 := Tryz.sizeOf213
 v145 := Tryz.zeroValue213
 t167 := Tryz.underlying180
 a167 := Tryz.isAgg180
 z167 := Tryz.sizeOf180
 v167 := Tryz.zeroValue180
 t168 := Tryz.underlying182
 a168 := Tryz.isAgg182
 z168 := Tryz.sizeOf182
 v168 := Tryz.zeroValue182
 t171 := Tryz.underlying186
 a171 := Tryz.isAgg186
 z171 := Tryz.sizeOf186
 v171 := Tryz.zeroValue186
 t173 := Tryz.underlying189
 a173 := Tryz.isAgg189
 z173 := Tryz.sizeOf189
 v173 := Tryz.zeroValue189
 t210 := Tryz.underlying201
 a210 := Tryz.isAgg201
 z210 := Tryz.sizeOf201
 v210 := Tryz.zeroValue201
 t212 := Tryz.underlying205
 a212 := Tryz.isAgg205
 z212 := Tryz.sizeOf205
 v212 := Tryz.zeroValue205
 t213 := Tryz.underlying206
 a213 := Tryz.isAgg206
 z213 := Tryz.sizeOf206
 t232 := Tryz.underlying218
 a232 := Tryz.isAgg218
 z232 := Tryz.sizeOf218
 v232 := Tryz.zeroValue218
 t233 := Tryz.underlying219
 a233 := Tryz.isAgg219
 z233 := Tryz.sizeOf219
 v233 := Tryz.zeroValue219
 g15 := by kernel_rfl
 g16 := by kernel_rfl
 g17 := by kernel_rfl
 g18 := by kernel_rfl
 g19 := by kernel_rfl
 t80 := Tryz.underlying107
 a80 := Tryz.isAgg107
 z80 := Tryz.sizeOf107
 v80 := Tryz.zeroValue107
 i0 := by kernel_rfl
 i2 := by kernel_rfl
 i3 := by kernel_rfl
 i4 := by kernel_rfl
 i5 := by kernel_rfl
 i9 := by kernel_rfl
 i20 := by kernel_rfl
 i37 := by kernel_rfl
 i46 := by kernel_rfl
 i51 := by kernel_rfl
 i53 := by kernel_rfl
 i75 := by kernel_rfl
 i80 := by kernel_rfl
 i127 := by kernel_rfl
 i143 := by kernel_rfl
 i145 := by kernel_rfl
 i167 := by kernel_rfl
 i168 := by kernel_rfl
 i171 := by kernel_rfl
 i173 := by kernel_rfl
 i210 := by kernel_rfl
 i212 := by kernel_rfl
 i232 := by kernel_rfl
 i233 := by kernel_rfl
 m15 := by kernel_rfl
 m16 := by kernel_rfl
 m17 := by kernel_rfl
 m18 := by kernel_rfl
 m19 := by kernel_rfl
 c0 := by kernel_rfl
 c2 := by kernel_rfl
 c3 := by kernel_rfl
 c4 := by kernel_rfl
 c5 := by kernel_rfl
 c9 := by kernel_rfl
 c20 := by kernel_rfl
 c37 := by kernel_rfl
 c46 := by kernel_rfl
 c51 := by kernel_rfl
 c53 := by kernel_rfl
 c75 := by kernel_rfl
 c80 := by kernel_rfl
 c127 := by kernel_rfl
 c143 := by kernel_rfl
 c145 := by kernel_rfl
 c167 := by kernel_rfl
 c168 := by kernel_rfl
 c171 := by kernel_rfl
 c173 := by kernel_rfl
 c210 := by kernel_rfl
 c212 := by kernel_rfl
 c213 := by kernel_rfl
 c232 := by kernel_rfl
 c233 := by kernel_rfl }
open Go.RowKit in
theorem Tryz.strconv_toError_syntax (fn s : ByteArray) (base bits : Int) (ev : Value) (w : World) (hlim : s.size ≤ 281474976710656) (hv : w.cell? ⟨1, 0, none⟩ = some ev) (hev : ev = .nilIface ∨ ∃ te pe, ev = .iface te pe) :
  Calls Tryz.prog 103 #[.string fn, .string s, .int .i64 base, .int .i64 bits, .iface 180 (.int .i64 2)] w fun e w' => ∃ N, e = .returned (.iface 182 (.pointer (some ⟨N, 0, none⟩))) ∧ w.heap.size ≤ N ∧ w'.heap[N]? = some (.cells #[.string fn, .string s, ev] 201 (0, 0)) ∧ Below w.heap.size w w' := Any.strconv_toError_syntax Tryz.laysC245 fn s base bits ev w hlim hv hev
open Go.RowKit in
theorem Tryz.strconv_toError_range (fn s : ByteArray) (base bits : Int) (ev : Value) (w : World) (hlim : s.size ≤ 281474976710656) (hv : w.cell? ⟨2, 0, none⟩ = some ev) (hev : ev = .nilIface ∨ ∃ te pe, ev = .iface te pe) :
  Calls Tryz.prog 103 #[.string fn, .string s, .int .i64 base, .int .i64 bits, .iface 180 (.int .i64 1)] w fun e w' => ∃ N, e = .returned (.iface 182 (.pointer (some ⟨N, 0, none⟩))) ∧ w.heap.size ≤ N ∧ w'.heap[N]? = some (.cells #[.string fn, .string s, ev] 201 (0, 0)) ∧ Below w.heap.size w w' := Any.strconv_toError_range Tryz.laysC245 fn s base bits ev w hlim hv hev
def Tryz.lays105_ren : Go.Shelf.Ren := ⟨fun | 105 => 89 | 212 => 109 | 99 => 110 | 165 => 111 | 166 => 84 | 170 => 112 | 169 => 60 | 263 => 132 | 264 => 133 | 206 => 134 | 240 => 105 | 241 => 135 | 276 => 126 | 277 => 148 | n => n, fun | 9 => 9 | 3 => 3 | 4 => 4 | 20 => 20 | 0 => 0 | 46 => 173 | 109 => 174 | 5 => 5 | 72 => 103 | 76 => 138 | 51 => 191 | 146 => 192 | 53 => 134 | 148 => 194 | 70 => 101 | 37 => 64 | 75 => 29 | 127 => 142 | 164 => 110 | 80 => 107 | n => n, fun | n => n⟩
theorem Tryz.lays105 : Go.Proofs.Lays.n105 Tryz.prog Tryz.lays105_ren := {
 mixed := by kernel_rfl
 f99 := Tryz.func110.trans (congrArg some (by kernel_rfl))
 f105 := Tryz.func89.trans (congrArg some (by kernel_rfl))
 f165 := Tryz.func111.trans (congrArg some (by kernel_rfl))
 f166 := Tryz.func84.trans (congrArg some (by kernel_rfl))
 f169 := Tryz.func60.trans (congrArg some (by kernel_rfl))
 f170 := Tryz.func112.trans (congrArg some (by kernel_rfl))
 f206 := Tryz.func134.trans (congrArg some (by kernel_rfl))
 f212 := Tryz.func109.trans (congrArg some (by kernel_rfl))
 f240 := Tryz.func105.trans (congrArg some (by kernel_rfl))
 f241 := Tryz.func135.trans (congrArg some (by kernel_rfl))
 f263 := Tryz.func132.trans (congrArg some (by kernel_rfl))
 f264 := Tryz.func133.trans (congrArg some (by kernel_rfl))
 f276 := Tryz.func126.trans (congrArg some (by kernel_rfl))
 f277 := Tryz.func148.trans (congrArg some (by kernel_rfl))
 t0 := Tryz.underlying0
 a0 := Tryz.isAgg0
 z0 := Tryz.sizeOf0
 v0 := Tryz.zeroValue0
 t3 := Tryz.underlying3
 a3 := Tryz.isAgg3
 z3 := Tryz.sizeOf3
 v3 := Tryz.zeroValue3
 t4 := Tryz.underlying4
 a4 := Tryz.isAgg4
 z4 := Tryz.sizeOf4
 v4 := Tryz.zeroValue4
 t5 := Tryz.underlying5
 a5 := Tryz.isAgg5
 z5 := Tryz.sizeOf5
 v5 := Tryz.zeroValue5
 t9 := Tryz.underlying9
 a9 := Tryz.isAgg9
 z9 := Tryz.sizeOf9
 v9 := Tryz.zeroValue9
 t20 := Tryz.underlying20
 a20 := Tryz.isAgg20
 z20 := Tryz.sizeOf20
 v20 := Tryz.zeroValue20
 t37 := Tryz.underlying64
 a37 := Tryz.isAgg64
 z37 := Tryz.sizeOf64
 v37 := Tryz.zeroValue64
 t46 := Tryz.underlying173
 a46 := Tryz.isAgg173
 z46 := Tryz.sizeOf173
 v46 := Tryz.zeroValue173
 t51 := Tryz.underlying191
 a51 := Tryz.isAgg191
 z51 := Tryz.sizeOf191
 v51 := Tryz.zeroValue191
 t53 := Tryz.underlying134
 a53 := Tryz.isAgg134
 z53 := Tryz.sizeOf134
 v53 := Tryz.zeroValue134
 t70 := Tryz.underlying101
 a70 := Tryz.isAgg101
 z70 := Tryz.sizeOf101
 v70 := Tryz.zeroValue101
 t72 := Tryz.underlying103
 a72 := Tryz.isAgg103
 z72 := Tryz.sizeOf103
 v72 := Tryz.zeroValue103
 t75 := Tryz.underlying29
 a75 := Tryz.isAgg29
 z75 := Tryz.sizeOf29
 v75 := Tryz.zeroValue29
 t76 := Tryz.underlying138
 a76 := Tryz.isAgg138
 z76 := Tryz.sizeOf138
 v76 := Tryz.zeroValue138
 t109 := Tryz.underlying174
 a109 := Tryz.isAgg174
 z109 := Tryz.sizeOf174
 v109 := Tryz.zeroValue174
 t127 := Tryz.underlying142
 a127 := Tryz.isAgg142
 z127 := Tryz.sizeOf142
 v127 := Tryz.zeroValue142
 t146 := Tryz.underlying192
 a146 := Tryz.isAgg192
 z146 := Tryz.sizeOf192
 v146 := Tryz.zeroValue192
 t148 := Tryz.underlying194
 a148 := Tryz.isAgg194
 z148 := Tryz.sizeOf194
 v148 := Tryz.zeroValue194
 t164 := Tryz.underlying110
 a164 := Tryz.isAgg110
 z164 := Tryz.sizeOf110
 v164 := Tryz.zeroValue110 }
theorem Tryz.Builder_Extra_105 : Builder.Extra Tryz.prog Tryz.lays105_ren := {
 sizeBuilder := by kernel_rfl
 liesBuilder := by kernel_rfl
 t5 := Tryz.underlying5
 a5 := Tryz.isAgg5
 z5 := Tryz.sizeOf5
 v5 := Tryz.zeroValue5
 infoByte := by kernel_rfl
 cellsByte := by kernel_rfl
 sizeByte := by kernel_rfl
 neB5 := by decide }
open Go.RowKit Go.Lib in
theorem Tryz.strings_Repeat (s : ByteArray) (c : Nat) (w : World) (hc : c ≤ 9223372036854775807) (hlen : s.size * c ≤ 140737488355328) :
  Calls Tryz.prog 89 #[.string s, .int .i64 c] w fun e w' => e = .returned (.string ⟨(Lib.repeatL s.data.toList c).toArray⟩) ∧ Below w.heap.size w w' := Any.strings_Repeat Tryz.lays105 Tryz.Builder_Extra_105 s c w hc hlen
end Go.Proofs
namespace Go.Proofs.YtkobpbbegalfpaaGreatDoor
open Go.RowKit YtkobpbbegalfpaaGreatDoorW.PrintWords YtkobpbbegalfpaaGreatDoorW.PrintLast YtkobpbbegalfpaaGreatDoorW.PrintMore
set_option linter.unusedVariables false
structure NumT (w : World) : Prop where
 tab : Lib.TabIs Tryz.prog w "internal/strconv.uint64pow10" .u64 Lib.pow10Tab
 de : w.cell? ⟨6, 15, none⟩ = some (.int .u8 4)
theorem cell_below {w w' : World} {b o : Nat} {v : Value} (h : w.cell? ⟨b, o, none⟩ = some v) (hb : Below w.heap.size w w') : w'.cell? ⟨b, o, none⟩ = some v :=
 (hb.cell (p := ⟨b, o, none⟩) (Lib.lt_of_cell h)).trans h
theorem NumT.below {w w' : World} (h : NumT w) (hb : Below w.heap.size w w') : NumT w' :=
 ⟨Joins.tab_stays (g := 3) (by kernel_rfl) h.tab hb (Nat.le_refl _), cell_below h.de hb⟩
def hexS (n : Int) : ByteArray := if n < 16 then ⟨#[dgt n]⟩ else if n < 256 then ⟨#[dgt (n / 16), dgt (n % 16)]⟩ else if n < 4096 then ⟨#[dgt (n / 16 / 16), dgt (n / 16 % 16), dgt (n % 16)]⟩ else ⟨#[dgt (n / 16 / 16 / 16), dgt (n / 16 / 16 % 16), dgt (n / 16 % 16), dgt (n % 16)]⟩
theorem fbits_calls (n : Int) (h0 : 0 ≤ n) (h1 : n < 65536) (w : World) (h : NumT w) :
  Calls Tryz.prog 131 #[.slice none 0 0, .int .u64 n, .int .i64 16, .bool false, .bool false] w fun e w' => e = .returned (.tuple #[.slice none 0 0, .string (hexS n)]) ∧ Below w.heap.size w w' := by
 have hd : ∀ o, (w.alloc o).cell? ⟨6, 15, none⟩ = some (.int .u8 4) := fun o => cell_below h.de (below_alloc (Below.refl _ _) o)
 unfold hexS
 by_cases a : n < 16
 ·rw [if_pos a]; exact fbits1_calls n h0 a w hd
 ·rw [if_neg a]
  by_cases b : n < 256
  ·rw [if_pos b]; exact fbits2_calls n (by omega) b w hd
  ·rw [if_neg b]
   by_cases c : n < 4096
   ·rw [if_pos c]; exact fbits3_calls n (by omega) c w hd
   ·rw [if_neg c]; exact fbits4_calls n (by omega) h1 w hd
theorem fu_calls (n : Int) (h0 : 0 ≤ n) (h1 : n < 65536) (w : World) (h : NumT w) :
  Calls Tryz.prog 88 #[.int .u64 n, .int .i64 16] w fun e w' => e = .returned (.string (hexS n)) ∧ Below w.heap.size w w' := by
 have HF := ak (fbits_calls n h0 h1 w h)
 have HI : Aside0 (Calls Tryz.prog 108 #[.int .u64 n, .int .i64 16] w fun e w' => e = .returned (.string (hexS n)) ∧ Below w.heap.size w w') := by
  refine ak ?_
  clear h
  go_enter Tryz.func108, Tryz.ntmps108
  go_wp2_with (go_at_call 131; refine HF.out.mono ?_; rintro e w' ⟨rfl, hb⟩)
  go_ret
  exact ⟨rfl, hb⟩
 clear h HF
 go_enter Tryz.func88, Tryz.ntmps88
 go_wp2_with (go_at_call 108; refine HI.out.mono ?_; rintro e w' ⟨rfl, hb⟩)
 go_ret
 exact ⟨rfl, hb⟩
theorem ret_str {a b : ByteArray} (h : a = b) : Ending.returned (.string a) = .returned (.string b) := by rw [h]
def hex4 (n : Int) : ByteArray := ⟨#[dgt (n / 4096), dgt (n / 256 % 16), dgt (n / 16 % 16), dgt (n % 16)]⟩
theorem rep_calls (c : Nat) (hc : c ≤ 4) (w : World) : Calls Tryz.prog 89 #[.string ⟨#[48]⟩, .int .i64 c] w fun e w' => e = .returned (.string ⟨(Lib.repeatL [48] c).toArray⟩) ∧ Below w.heap.size w w' :=
 Tryz.strings_Repeat ⟨#[48]⟩ c w (by omega) (by show 1 * c ≤ _; omega)
theorem hexS_size (n : Int) : (hexS n).size = if n < 16 then 1 else if n < 256 then 2 else if n < 4096 then 3 else 4 := by
 unfold hexS; split
 ·rfl
 ·split
  ·rfl
  ·split <;> rfl
theorem hexS_pad (n : Int) (h0 : 0 ≤ n) (h1 : n < 65536) : (⟨(Lib.repeatL [48] (4 - (hexS n).size)).toArray⟩ : ByteArray) ++ hexS n = hex4 n := by
 have d0 : dgt 0 = 48 := rfl
 rw [hexS_size]
 unfold hexS hex4
 by_cases a : n < 16
 ·simp only [if_pos a]
  have e1 : n / 4096 = 0 := by omega
  have e2 : n / 256 % 16 = 0 := by omega
  have e3 : n / 16 % 16 = 0 := by omega
  have e4 : n % 16 = n := by omega
  rw [e1, e2, e3, e4, d0]; rfl
 ·simp only [if_neg a]
  by_cases b : n < 256
  ·simp only [if_pos b]
   have e1 : n / 4096 = 0 := by omega
   have e2 : n / 256 % 16 = 0 := by omega
   have e3 : n / 16 % 16 = n / 16 := by omega
   rw [e1, e2, e3, d0]; rfl
  ·simp only [if_neg b]
   by_cases c : n < 4096
   ·simp only [if_pos c]
    have e1 : n / 4096 = 0 := by omega
    have e2 : n / 256 % 16 = n / 16 / 16 := by omega
    rw [e1, e2, d0]; rfl
   ·simp only [if_neg c]
    have e1 : n / 4096 = n / 16 / 16 / 16 := by omega
    have e2 : n / 256 % 16 = n / 16 / 16 % 16 := by omega
    rw [e1, e2]; rfl
set_option maxHeartbeats 1000000 in
theorem hex_calls (n : Int) (h0 : 0 ≤ n) (h1 : n < 65536) (w : World) (h : NumT w) :
  Calls Tryz.prog 61 #[.int .u16 n] w fun e w' => e = .returned (.string (hex4 n)) ∧ Below w.heap.size w w' := by
 have HF := ak (fu_calls n h0 h1 w h)
 have hz : 1 ≤ (hexS n).size ∧ (hexS n).size ≤ 4 := by rw [hexS_size]; split <;> (try split) <;> (try split) <;> omega
 have HP := ak (hexS_pad n h0 h1)
 obtain ⟨s, hs⟩ : ∃ s, s = hexS n := ⟨_, rfl⟩
 rw [← hs] at HF hz HP
 obtain ⟨c, hc⟩ : ∃ c, c = 4 - s.size := ⟨_, rfl⟩
 have hr : ∀ w, Calls Tryz.prog 89 #[.string ⟨#[48]⟩, .int .i64 (4 - (s.size : Int))] w fun e w' => e = .returned (.string ⟨(Lib.repeatL [48] c).toArray⟩) ∧ Below w.heap.size w w' := fun w => by
  have e : (4 - (s.size : Int)) = ((c : Nat) : Int) := by omega
  rw [e]; exact rep_calls c (by omega) w
 rw [← hc] at HP
 have HR := ak hr
 have hl : ((⟨(Lib.repeatL [48] c).toArray⟩ : ByteArray).size + s.size ≤ 9223372036854775807) := by
  have := congrArg ByteArray.size HP.out
  rw [ByteArray.size_append] at this
  have h4 : (hex4 n).size = 4 := rfl
  omega
 clear hr h hs hc
 obtain ⟨hz1, hz4⟩ := hz
 go_enter Tryz.func61, Tryz.ntmps61
 go_wp2_with (first | (go_at_call 88; refine HF.out.mono ?_; rintro e w1 ⟨rfl, hb1⟩) | (go_at_call 89; refine (HR.out _).mono ?_; rintro e w2 ⟨rfl, hb2⟩))
 go_ret
 exact ⟨ret_str HP.out, hb1.trans (hb2.mono hb1.size)⟩
def digS (n : Int) : ByteArray := if n < 0 ∨ 2147483647 < n then ⟨#[]⟩ else ⟨(Lib.itoa n).toArray⟩
theorem digits_calls (n : Int) (w : World) (hT : NumT w) : Calls Tryz.prog 106 #[.int .i64 n] w fun e w' => e = .returned (.string (digS n)) ∧ Below w.heap.size w w' := by
 unfold digS
 by_cases h : n < 0
 ·rw [if_pos (.inl h)]
  clear hT
  go_enter Tryz.func106, Tryz.ntmps106
  go_wp2
  go_ret
  exact ⟨rfl, Below.refl _ _⟩
 ·by_cases h2 : 2147483647 < n
  ·rw [if_pos (.inr h2)]
   clear hT
   go_enter Tryz.func106, Tryz.ntmps106
   go_wp2
   go_ret
   exact ⟨rfl, Below.refl _ _⟩
  ·rw [if_neg (by omega)]
   have HI : Aside0 (Calls Tryz.prog 127 #[.int .i64 n] w fun e w' => e = .returned (.string ⟨(Lib.itoa n).toArray⟩) ∧ Below w.heap.size w w') :=
    ak ((Tryz.strconv_Itoa n (by omega) (by omega) w hT.tab).mono fun e w' ⟨h1, k, os, h2⟩ => ⟨h1, by rw [h2]; exact Lib.below_grow _ _ (Nat.le_refl _) _ _⟩)
   clear hT
   go_enter Tryz.func106, Tryz.ntmps106
   go_wp2_with (go_at_call 127; refine HI.out.mono ?_; rintro e w' ⟨rfl, hb⟩)
   go_ret
   exact ⟨rfl, hb⟩
def isD (b : UInt8) : Bool := decide (48 ≤ b.toNat) && decide (b.toNat ≤ 57)
theorem ninfoS : (Tryz.prog.info? 9).map (fun i => (i.zero, i.size, i.bytes)) = some (some (.string ByteArray.empty), 1, 16) := by kernel_rfl
theorem int_cell {w : World} {A : Option Addr} {n : Nat} {zs : List Int} (h : (Kd.int .i64).C w A n zs) (k : Nat) (hk : k < n) : ∃ ad, A = some ad ∧ w.cell? (ad.add k) = some (.int .i64 (zs.getD k 0)) := by
 obtain ⟨ad, c, rfl, _, hK, hc⟩ := Kd.C_get h 0 (k : Int) (by omega) (by omega)
 have e : ((k : Int)).toNat = k := Int.toNat_natCast k
 rw [e] at hK hc
 refine ⟨ad, rfl, ?_⟩
 obtain rfl := hK
 have hq := hc 0 _ rfl
 rwa [show (Kd.int .i64).sz = 1 from rfl, Nat.mul_one, Nat.add_zero] at hq
theorem str_cell {w : World} {A : Option Addr} {n : Nat} {zs : List ByteArray} (h : Kd.string.C w A n zs) (k : Nat) (hk : k < n) : ∃ ad, A = some ad ∧ w.cell? (ad.add k) = some (.string (zs.getD k ByteArray.empty)) := by
 obtain ⟨ad, c, rfl, _, hK, hc⟩ := Kd.C_get h ByteArray.empty (k : Int) (by omega) (by omega)
 have e : ((k : Int)).toNat = k := Int.toNat_natCast k
 rw [e] at hK hc
 refine ⟨ad, rfl, ?_⟩
 obtain rfl := hK
 have hq := hc 0 _ rfl
 rwa [show Kd.string.sz = 1 from rfl, Nat.mul_one, Nat.add_zero] at hq
theorem nlit_strings (W : World) (base : Nat) (e : Nat) (xs : List ByteArray) (hb : base ≤ W.heap.size) (hm : xs.length ≤ 100000) : Kd.string.R e (W.alloc (.cells (encs Value.string xs).toArray e)) base (fun _ => True) (.slice (some ⟨W.heap.size, 0, none⟩) xs.length xs.length) xs :=
 Kd.R_of_own (own_lit_of W base e xs hb (by omega)) (fun _ _ => trivial)
theorem nlitC (W : World) (e : Nat) (xs : List ByteArray) (hm : xs.length ≤ 100000) : Kd.string.C (W.alloc (.cells (encs Value.string xs).toArray e)) (some ⟨W.heap.size, 0, none⟩) xs.length xs :=
 (Kd.R_reads' (nlit_strings W 0 e xs (Nat.zero_le _) hm)).2.2
theorem nlit_ints (W : World) (base : Nat) (e : Nat) (xs : List Int) (hb : base ≤ W.heap.size) (hm : xs.length ≤ 100000) : (Kd.int .i64).R e (W.alloc (.cells (encs (Value.int .i64) xs).toArray e)) base (fun _ => True) (.slice (some ⟨W.heap.size, 0, none⟩) xs.length xs.length) xs :=
 Kd.R_of_own (own_lit_of W base e xs hb (by omega)) (fun _ _ => trivial)
theorem nlitI (W : World) (e : Nat) (xs : List Int) (hm : xs.length ≤ 100000) : (Kd.int .i64).C (W.alloc (.cells (encs (Value.int .i64) xs).toArray e)) (some ⟨W.heap.size, 0, none⟩) xs.length xs :=
 (Kd.R_reads' (nlit_ints W 0 e xs (Nat.zero_le _) hm)).2.2
def joinS (l : List ByteArray) : ByteArray := ⟨(Lib.join (l.map (·.data.toList)) [44]).toArray⟩
theorem digS_size (n : Int) : (digS n).size ≤ 21 := by
 unfold digS
 split
 ·decide
 ·have := Lib.itoa_length_le n (by omega) (by omega)
  show (Lib.itoa n).toArray.size ≤ 21
  simpa using this
theorem lens_le : ∀ (l : List (List UInt8)), (∀ x ∈ l, x.length ≤ 21) → Lib.lens l ≤ 21 * l.length
 | [], _ => by simp [Lib.lens]
 | x :: r, h => by
  have h1 := h x List.mem_cons_self
  have h2 := lens_le r (fun y hy => h y (List.mem_cons_of_mem _ hy))
  simp only [Lib.lens, List.map_cons, List.sum_cons, List.length_cons] at h2 ⊢
  omega
theorem joinS_len (zs : List Int) (sep : List UInt8) (hs : sep.length = 1) : (Lib.join ((zs.map digS).map (·.data.toList)) sep).length ≤ 22 * zs.length := by
 cases zs with
 | nil => simp [Lib.join_nil]
 | cons z r =>
  rw [List.map_cons, List.map_cons, Lib.join_length]
  have h := lens_le (((digS z).data.toList) :: ((r.map digS).map (·.data.toList))) (fun x hx => by
   rcases List.mem_cons.1 hx with rfl | hx
   ·have := digS_size z; simpa using this
   ·obtain ⟨y, hy, rfl⟩ := List.mem_map.1 hx
    obtain ⟨u, _, rfl⟩ := List.mem_map.1 hy
    have := digS_size u; simpa using this)
  simp only [List.length_cons, List.length_map] at h ⊢
  rw [hs]
  omega
theorem join_calls (w : World) (A : Option Addr) (c : Nat) (l : List ByteArray) (h : Kd.string.C w A l.length l) (hc : l.length ≤ c) (hN : l.length ≤ 1000000) (hl : (Lib.join (l.map (·.data.toList)) [44]).length ≤ 140737488355328) :
  Calls Tryz.prog 107 #[.slice A l.length c, .string ⟨#[44]⟩] w fun e w' => e = .returned (.string (joinS l)) ∧ Below w.heap.size w w' := by
 by_cases h0 : l.length = 0
 ·have hl0 : l = [] := List.eq_nil_of_length_eq_zero h0
  subst hl0
  exact (Tryz.strings_Join_none A c _ w).mono fun e w' ⟨h1, h2⟩ => ⟨by rw [h1]; rfl, by rw [h2]; exact Below.refl _ _⟩
 ·obtain ⟨⟨bk, o, sub⟩, rfl, hc0⟩ := str_cell h 0 (by omega)
  have hsub : sub = none := by
   cases sub with
   | none => rfl
   | some s => simp only [World.cell?, Addr.add] at hc0; split at hc0 <;> cases hc0
  subst hsub
  refine Tryz.strings_Join bk o c l ⟨#[44]⟩ w (fun j x hj => ?_) (Lib.lt_of_cell hc0) (by omega) hc hl
  have hjl : j < l.length := (List.getElem?_eq_some_iff.1 hj).1
  obtain ⟨ad, had, hcj⟩ := str_cell h j hjl
  obtain rfl := (Option.some.inj had).symm
  rw [List.getD_eq_getElem?_getD, hj] at hcj
  by_cases h00 : j = 0
  ·subst h00; simpa [Addr.add] using hcj
  ·simpa [Addr.add, h00] using hcj
theorem take_map {α β : Type} (f : α → β) (d : α) (l : List α) (k : Nat) (hk : k < l.length) : (l.map f).take (k + 1) = (l.map f).take k ++ [f (l.getD k d)] := by
 rw [List.take_add_one, List.getElem?_map, List.getElem?_eq_getElem hk, List.getD_eq_getElem?_getD, List.getElem?_eq_getElem hk]
 rfl
set_option maxHeartbeats 4000000 in
theorem digits_all (w : World) (A : Option Addr) (n c : Nat) (zs : List Int) (hr : (Kd.int .i64).C w A n zs) (hn : n ≤ 1000) (hT : NumT w) :
  Calls Tryz.prog 86 #[.slice A n c] w fun e w' => e = .returned (.string (joinS (zs.map digS))) ∧ Below w.heap.size w w' := by
 have hlen := Kd.C_len hr
 have HR := ak hr
 have HT := ak hT
 have HDS := ak (take_map digS 0 zs)
 have hjl := joinS_len zs [44] rfl
 have hml : (zs.map digS).length = n := by simp; omega
 generalize zs.map digS = ds at *
 clear hr hT
 go_enter Tryz.func86, Tryz.ntmps86
 go_wp2
 go_loopw [3, 8] (fun v i wr => ∃ k : Nat, k ≤ n ∧ i = .int .i64 k ∧ ∃ A' n' c', v = .slice A' n' c' ∧ Kd.string.R 9 wr w.heap.size (fun _ => True) v (ds.take k) ∧ Below w.heap.size w wr) (fun _ i _ => n - (intOf i).toNat)
 case atStart => exact ⟨0, by omega, rfl, none, 0, 0, rfl, Kd.R_nil _ _ _ _ _, Below.refl _ _⟩
 case round =>
  obtain ⟨k, hk, rfl, A', n', c', rfl, hR2, hB2⟩ := hrel
  have HR2 := ak hR2
  have HB2 := ak hB2
  have hsz := hB2.size
  clear hR2 hB2
  by_cases hlt : k < n
  ·obtain ⟨ad, rfl, hcell⟩ := int_cell (Kd.C_below HR.out HB2.out) k hlt
   have HTK := ak (HDS.out k (by omega))
   obtain ⟨z, hz⟩ : ∃ z, z = zs.getD k 0 := ⟨_, rfl⟩
   rw [← hz] at hcell HTK
   have HD := ak (digits_calls z wr (HT.out.below HB2.out))
   clear hz
   go_wp2_with (go_at_call 106; refine HD.out.mono ?_; rintro e w1 ⟨rfl, hb1⟩; refine Hid.out ?_)
   have hCL := nlitC w1 9 [digS z] (by simp)
   have HC2 := ak (nlitC w1 9 [digS z] (by simp))
   have HB3 := ak (below_alloc (HB2.out.trans (hb1.mono HB2.out.size)) (.cells #[.string (digS z)] 9))
   have HR3 := ak (Kd.R_alloc (Kd.R_below HR2.out hb1) (.cells #[.string (digS z)] 9))
   have hsz1 := hb1.size
   have hle : (ds.take k).length ≤ 1000 := by rw [List.length_take]; omega
   clear hCL hb1 HD
   refine Lib.hid ?_
   go_wp2_with (at_builtin; refine Kd.R_append_row Value.string ByteArray.empty (w0 := w) w.heap.size rfl (.tmp 12) (.tmp 15) 69 9 (.string ByteArray.empty) 16 rfl Tryz.underlying69 ninfoS rfl (by decide) (.slice A' n' c') (ds.take k) [digS z] (some ⟨w1.heap.size, 0, none⟩) 1 1 (fun _ => True) rfl rfl (fun _ _ => trivial) HR3.out HC2.out HB3.out ?aS ?aL ?_)
   case aS => simp; omega
   case aL => omega
   intro v1 w2 ho hb2 _ _
   obtain ⟨A4, n4, c4, rfl⟩ := sl_of_R ho
   rw [← HTK.out] at ho
   have RO := ak ho
   have HBO := ak hb2
   clear ho hb2
   go_wp2
   go_roundw
   case rel => exact ⟨k + 1, by omega, by go_num, _, _, _, rfl, RO.out, HBO.out⟩
   case measure => simp [intOf]; omega
  ·have hkn : k = n := by omega
   have HK : ds.take k = ds := by rw [hkn, ← hml, List.take_length]
   rw [HK] at HR2
   clear HK
   obtain ⟨hn', hc', hC'⟩ := Kd.R_reads' HR2.out
   subst hn'
   have HJ := ak (join_calls wr A' c' ds hC' hc' (by omega) (by omega))
   clear hC' hjl hml hkn
   go_wp2_with (go_at_call 107; refine HJ.out.mono ?_; rintro e w1 ⟨rfl, hb1⟩)
   go_ret
   exact ⟨rfl, HB2.out.trans (hb1.mono HB2.out.size)⟩
open Go.Lib (parseUintM decDigits)
theorem dec_step (n : Nat) (h : ¬ n < 10) : decDigits n = decDigits (n / 10) ++ [UInt8.ofNat (48 + n % 10)] := by
 rw [decDigits, dif_neg h]
theorem dec_one (n : Nat) (h : n < 10) : decDigits n = [UInt8.ofNat (48 + n)] := by
 rw [decDigits, dif_pos h]
theorem ofNat_toNat (m : Nat) (h : m < 256) : (UInt8.ofNat m).toNat = m := by
 rw [show (UInt8.ofNat m).toNat = m % 256 by simp]; omega
theorem digit_isD (m : Nat) (h : m < 10) : isD (UInt8.ofNat (48 + m)) = true := by
 unfold isD
 rw [ofNat_toNat _ (by omega)]
 simp; omega
theorem parse_append (M : Nat) : ∀ (a b : List UInt8) (acc : Nat), parseUintM M acc (a ++ b) = match parseUintM M acc a with
  | .ok u => parseUintM M u b
  | e => e
 | [], b, acc => rfl
 | c :: r, b, acc => by
  have e : ∀ r : List UInt8, parseUintM M acc (c :: r) = if 48 ≤ c.toNat ∧ c.toNat ≤ 57 then if 1844674407370955162 ≤ acc then .range else if M < acc * 10 + (c.toNat - 48) then .range else parseUintM M (acc * 10 + (c.toNat - 48)) r else Lib.NumEnd.syntax := fun _ => rfl
  rw [List.cons_append, e, e]
  split
  ·split
   ·rfl
   ·split
    ·rfl
    ·exact parse_append M r b _
  ·rfl
theorem parse_digit (M acc m : Nat) (h : m < 10) (hM : M ≤ 2147483647) (hacc : acc * 10 + m ≤ M) : parseUintM M acc [UInt8.ofNat (48 + m)] = .ok (acc * 10 + m) := by
 unfold parseUintM
 rw [ofNat_toNat _ (by omega), if_pos (by omega), if_neg (by omega), if_neg (by omega)]
 show Lib.NumEnd.ok (acc * 10 + (48 + m - 48)) = _
 rw [Nat.add_sub_cancel_left]
theorem parse_dec (M : Nat) (hM : M ≤ 2147483647) (n : Nat) : n ≤ M → parseUintM M 0 (decDigits n) = .ok n := by
 induction n using Nat.strongRecOn with
 | ind n ih =>
  intro hn
  by_cases h : n < 10
  ·rw [dec_one n h]
   have := parse_digit M 0 n h hM (by omega)
   rw [Nat.zero_mul, Nat.zero_add] at this
   exact this
  ·rw [dec_step n h, parse_append, ih (n / 10) (by omega) (by omega)]
   have := parse_digit M (n / 10) (n % 10) (by omega) hM (by omega)
   rw [show n / 10 * 10 + n % 10 = n from by omega] at this
   exact this
theorem dec_all (n : Nat) : ∀ b ∈ decDigits n, isD b = true := by
 induction n using Nat.strongRecOn with
 | ind n ih =>
  intro b hb
  by_cases h : n < 10
  ·rw [dec_one n h] at hb
   rw [List.mem_singleton.1 hb]
   exact digit_isD n h
  ·rw [dec_step n h] at hb
   rcases List.mem_append.1 hb with hb | hb
   ·exact ih (n / 10) (by omega) b hb
   ·rw [List.mem_singleton.1 hb]
    exact digit_isD _ (by omega)
theorem dec_ne (n : Nat) : decDigits n ≠ [] := by
 by_cases h : n < 10
 ·rw [dec_one n h]; simp
 ·rw [dec_step n h]; simp
theorem getD_append {a b : List UInt8} (h : a ≠ []) : (a ++ b).getD 0 0 = a.getD 0 0 := by
 cases a with
 | nil => exact absurd rfl h
 | cons x r => rfl
theorem dec_first (n : Nat) : 1 ≤ n → (decDigits n).getD 0 0 ≠ 48 := by
 induction n using Nat.strongRecOn with
 | ind n ih =>
  intro h1
  by_cases h : n < 10
  ·rw [dec_one n h]
   show UInt8.ofNat (48 + n) ≠ 48
   intro he
   have := congrArg UInt8.toNat he
   rw [ofNat_toNat _ (by omega)] at this
   have e : (48 : UInt8).toNat = 48 := rfl
   omega
  ·rw [dec_step n h, getD_append (dec_ne _)]
   exact ih (n / 10) (by omega) (by omega)
theorem digS_in (n : Nat) (h : n ≤ 2147483647) : (digS (n : Int)).data.toList = decDigits n := by
 unfold digS
 rw [if_neg (by omega)]
 show (Lib.itoa (n : Int)).toArray.toList = _
 rw [Lib.itoa_nonneg]
end Go.Proofs.YtkobpbbegalfpaaGreatDoor
namespace Go.Proofs.YtkobpbbegalfpaaGreatDoor
open Go.RowKit
set_option linter.unusedVariables false
def hexV (c : Int) : Int := if 48 ≤ c ∧ c ≤ 57 then c - 48 else if 97 ≤ bits .or .u8 c 32 ∧ bits .or .u8 c 32 ≤ 102 then bits .or .u8 c 32 - 87 else -1
def parseHexM (acc : Int) : List UInt8 → Lib.NumEnd Int
 | [] => .ok acc
 | c :: r => if hexV (c.toNat : Int) < 0 then Lib.NumEnd.syntax else if 65535 < acc * 16 + hexV (c.toNat : Int) then .range else parseHexM (acc * 16 + hexV (c.toNat : Int)) r
def hexTuple (T : TypeId) : Lib.NumEnd Int → Value
 | .ok n => .tuple #[.int .u64 n, .nilIface]
 | Lib.NumEnd.syntax => .tuple #[.int .u64 0, .iface T (.int .i64 2)]
 | .range => .tuple #[.int .u64 65535, .iface T (.int .i64 1)]
theorem lower_calls (c : Int) (w : World) : Calls Tryz.prog 120 #[.int .u8 c] w fun e w' => e = .returned (.int .u8 (bits .or .u8 c 32)) ∧ w' = w := by
 go_enter Tryz.func120, Tryz.ntmps120
 go_wp2
 go_ret
 exact ⟨rfl, rfl⟩
set_option maxHeartbeats 32000000 in
set_option maxRecDepth 100000 in
theorem uint31_calls (t : ByteArray) (hne : t.size ≠ 0) (hmax : t.size ≤ 9223372036854775806) (w : World) :
  Calls Tryz.prog 102 #[.string t, .int .i64 10, .int .i64 31] w fun e w' => e = .returned (Lib.uintTupleM 180 2147483647 (Lib.parseUintM 2147483647 0 t.data.toList)) ∧ w' = Lib.bytesWorld w 5 t := by
 have hemp : t.toList.isEmpty = false := by
  rw [← decide_eq_emptyBytes]
  exact decide_eq_false (fun h => hne (by rw [h]; rfl))
 have hcv := Lib.run_convert_string_bytes (P := Tryz.prog) w 9 64 5 t (u := .string) Tryz.underlying9 Tryz.underlying64 Tryz.underlying5
 have hB : ∀ j, j < t.size → (Lib.bytesWorld w 5 t).cell? ⟨w.heap.size, j, none⟩ = some (.int .u8 (t.data.toList.getD j 0).toNat) := fun j hj => Lib.bytesWorld_cell w 5 t j hj
 obtain ⟨W1, hW1⟩ : ∃ W1, W1 = Lib.bytesWorld w 5 t := ⟨_, rfl⟩
 rw [← hW1] at hcv hB ⊢
 clear hW1
 obtain ⟨bs, hL⟩ : ∃ bs, bs = t.data.toList := ⟨_, rfl⟩
 have hLn : bs.length = t.size := by rw [hL, Lib.size_eq]
 rw [← hL] at hB ⊢
 clear hL
 have hmv : IntKind.u64.wrap (IntKind.u64.wrap 2147483648 - 1) = 2147483647 := by
  rw [IntKind.wrap_u64, IntKind.wrap_u64]
  decide
 go_enter Tryz.func102, Tryz.ntmps102
 go_wp2
 go_loop [12, 13, 101] (fun vu vn vi => ∃ (k acc : Nat) (a : Int), vu = .bool false ∧ vn = .int .u64 a ∧ vi = .int .i64 k ∧ k ≤ t.size ∧ Hid (a = (acc : Int) ∧ acc ≤ 2147483647 ∧ Lib.parseUintM 2147483647 0 bs = Lib.parseUintM 2147483647 acc (bs.drop k)))
  (fun _ _ vi => t.size - (intOf vi).toNat)
 case atStart => exact ⟨0, 0, 0, rfl, rfl, rfl, by omega, rfl, by omega, rfl⟩
 case round =>
  obtain ⟨k, acc, a, rfl, rfl, rfl, hk, hh⟩ := hrel
  obtain ⟨ha, hacc, hdec⟩ := hh.out
  clear hh
  have a0 : 0 ≤ a := by omega
  have a1 : a ≤ 2147483647 := by omega
  by_cases hkn : k < t.size
  ·have hc := hB k hkn
   have hdrop : bs.drop k = bs[k]'(by omega) :: bs.drop (k + 1) := List.drop_eq_getElem_cons (by omega)
   have hget : bs.getD k 0 = bs[k]'(by omega) := by simp [List.getD, List.getElem?_eq_getElem (show k < bs.length by omega)]
   rw [hdrop] at hdec
   rw [hget] at hc
   generalize bs[k]'(by omega) = c at hc hdec
   have hc256 : c.toNat < 256 := c.toNat_lt
   clear hB hdrop hget
   by_cases hdig : 48 ≤ c.toNat ∧ c.toNat ≤ 57
   ·obtain ⟨hd0, hd1⟩ := hdig
    have hcut : ¬ 1844674407370955162 ≤ acc := by omega
    by_cases hov : 2147483647 < acc * 10 + (c.toNat - 48)
    ·have hF : Lib.parseUintM 2147483647 acc (c :: bs.drop (k + 1)) = .range := by simp [Lib.parseUintM, hd0, hd1, hcut, hov]
     rw [hF] at hdec
     have iov : 2147483647 < a * 10 + ((c.toNat : Int) - 48) := by omega
     clear hcut hacc hF hov ha
     go_wp2
     go_ret2
     exact ⟨rfl, rfl⟩
    ·have hF : Lib.parseUintM 2147483647 acc (c :: bs.drop (k + 1)) = Lib.parseUintM 2147483647 (acc * 10 + (c.toNat - 48)) (bs.drop (k + 1)) := by simp [Lib.parseUintM, hd0, hd1, hcut, hov]
     have HN : Hid (a * 10 + ((c.toNat : Int) - 48) = ((acc * 10 + (c.toNat - 48) : Nat) : Int) ∧ acc * 10 + (c.toNat - 48) ≤ 2147483647 ∧ Lib.parseUintM 2147483647 0 bs = Lib.parseUintM 2147483647 (acc * 10 + (c.toNat - 48)) (bs.drop (k + 1))) := Lib.hid ⟨by omega, by omega, hdec.trans hF⟩
     have iov : a * 10 + ((c.toNat : Int) - 48) ≤ 2147483647 := by omega
     clear hcut hacc hF hov hdec ha
     go_wp2
     refine ⟨⟨k + 1, acc * 10 + (c.toNat - 48), a * 10 + ((c.toNat : Int) - 48), rfl, (by first | rfl | (congr 1; omega)), (by first | rfl | (congr 1; omega)), by omega, HN⟩, by simp [intOf]; omega⟩
   ·have hF : Lib.parseUintM 2147483647 acc (c :: bs.drop (k + 1)) = Lib.NumEnd.syntax := by simp [Lib.parseUintM, hdig]
    rw [hF] at hdec
    clear hacc hF ha
    have hv0 := bits_lo_u8 .or (c.toNat : Int) 32
    have hv1 := bits_hi_u8 .or (c.toNat : Int) 32
    have hu0 := bits_lo_u8 .or 95 32
    have hu1 := bits_hi_u8 .or 95 32
    go_wp2_with (go_at_call 120; refine (lower_calls _ _).mono ?_; rintro e w' ⟨rfl, rfl⟩)
    all_goals go_ret2
    all_goals first | exact ⟨rfl, rfl⟩ | exact ⟨by rw [hdec]; rfl, rfl⟩
  ·have hkk : k = t.size := by omega
   subst hkk
   have hF : Lib.parseUintM 2147483647 acc (bs.drop t.size) = .ok acc := by rw [List.drop_eq_nil_of_le (by omega)]; rfl
   rw [hF] at hdec
   subst ha
   clear hacc hF a0 a1
   go_wp2
   go_ret2
   exact ⟨rfl, rfl⟩
end Go.Proofs.YtkobpbbegalfpaaGreatDoor
