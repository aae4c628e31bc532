/- Printed texts of this seat, cut to what is used. -/
import Derived.Test.YtakhnigalkjhhaaDoorPrTop
namespace Go.Proofs.YtakhnigalkjhhaaDoor
open Go.RowKit Go.Proofs.YtakhnigalkjhhaaDoorW.PrintWords Go.Proofs.YtakhnigalkjhhaaDoorW.PrintLast Go.Proofs.YtakhnigalkjhhaaDoorW.PrintMore Go.Proofs.YtakhnigalkjhhaaDoor.PTileChecks
open Go.Lib (decDigits)
set_option linter.unusedVariables false
set_option linter.unusedSimpArgs false
set_option maxRecDepth 100000

def awP : SC := ⟨1, ⟨0, 0, 80, 24⟩, 1, []⟩
theorem digL_1 (n : Nat) (h : n < 10) : digL (n : Int) = [UInt8.ofNat (48 + n)] := by
  rw [digL_dec _ ⟨by omega, by omega⟩, Int.toNat_natCast, dec_one n h]
theorem digL_2 (n : Nat) (h0 : ¬ n < 10) (h : n < 100) : digL (n : Int) = [UInt8.ofNat (48 + n / 10), UInt8.ofNat (48 + n % 10)] := by
  rw [digL_dec _ ⟨by omega, by omega⟩, Int.toNat_natCast, dec_step n h0, dec_one (n / 10) (by omega)]
  rfl
theorem awP_body : bodyL awP = [56, 48, 120, 50, 52, 44, 48, 44, 48, 44, 49] := by
  have a := digL_2 80 (by decide) (by decide)
  have b := digL_2 24 (by decide) (by decide)
  have c := digL_1 0 (by decide)
  have d := digL_1 1 (by decide)
  rw [bodyL_eq]
  show headB ⟨0, 0, 80, 24⟩ ++ (if (1 : Int) = 1 then [44] ++ digL 1 else _) = _
  rw [if_pos rfl]
  unfold headB
  show digL ((80 : Nat) : Int) ++ [120] ++ digL ((24 : Nat) : Int) ++ [44] ++ digL ((0 : Nat) : Int) ++ [44] ++ digL ((0 : Nat) : Int) ++ ([44] ++ digL ((1 : Nat) : Int)) = _
  rw [a, b, c, d]
  rfl
theorem awP_tiles : tilesB awP = true := by decide
theorem awP_text : textAns awP = (⟨#[98, 50, 53, 101, 44, 56, 48, 120, 50, 52, 44, 48, 44, 48, 44, 49]⟩, 0) := by
  unfold textAns
  rw [if_pos awP_tiles, awP_body]
  kernel_rfl
set_option maxHeartbeats 4000000 in
theorem pawake_calls (w : World) (hT : NumT w) : Calls Tryd.prog 16 #[] w fun e w' => e = .returned (.bool true) ∧ Below w.heap.size w w' := by
  have h := ptext_calls awP w none 0 (by decide) (Nat.le_refl _) (Kd.C_nil _ _) hT
  rw [awP_text] at h
  have HP : Aside0 (Calls Tryd.prog 17 #[.agg #[.int .u8 1, .int .i64 0, .int .i64 0, .int .i64 80, .int .i64 24, .int .i64 1, .slice none 0 0]] w fun e w' => e = .returned (.tuple #[.string ⟨#[98, 50, 53, 101, 44, 56, 48, 120, 50, 52, 44, 48, 44, 48, 44, 49]⟩, .int .i64 0]) ∧ Below w.heap.size w w') := ⟨h⟩
  clear h hT
  go_enter Tryd.func16, Tryd.ntmps16
  go_wp2_with fail
  with_reducible refine HP.out.mono ?_
  rintro e w1 ⟨rfl, hb⟩
  have HB := Aside0.mk hb
  clear hb HP
  go_wp2
  go_ret
  exact ⟨rfl, HB.out⟩


end Go.Proofs.YtakhnigalkjhhaaDoor
