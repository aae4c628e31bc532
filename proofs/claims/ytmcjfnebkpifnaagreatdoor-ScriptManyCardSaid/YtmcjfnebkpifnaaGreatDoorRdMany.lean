/-
  ScriptMany: what the statement returns.
-/
import Derived.Test.YtmcjfnebkpifnaaGreatDoorRdTop
namespace Go.Proofs.YtmcjfnebkpifnaaGreatDoor
open Go.RowKit Go.Proofs.YtmcjfnebkpifnaaGreatDoorW.PrintWords Go.Proofs.YtmcjfnebkpifnaaGreatDoorW.PrintLast Go.Proofs.YtmcjfnebkpifnaaGreatDoorW.PrintMore Go.Proofs.YtmcjfnebkpifnaaGreatDoor.PScriptReads
set_option linter.unusedVariables false
set_option linter.unusedSimpArgs false
set_option maxRecDepth 100000

def A1 : SH := ⟨1, 0, ⟨#[]⟩⟩
def attB : ByteArray := ⟨#[97, 116, 116, 97, 99, 104, 10]⟩
theorem A1_may : mayB A1 = true := by decide +kernel
def manyL (n : Nat) : List SH := List.replicate n A1
theorem manyL_all (n : Nat) : (manyL n).all mayB = true := by unfold manyL; rw [List.all_replicate]; simp [A1_may]
theorem manyL_len (n : Nat) : (textL (manyL n)).length = 7 * n := by
  induction n with
  | zero => rfl
  | succ n ih =>
    have e : textL (manyL (n + 1)) = (lineB A1 ++ [10]) ++ textL (manyL n) := by unfold textL manyL; rw [List.replicate_succ, List.flatMap_cons]
    rw [e, List.length_append, ih]
    have : (lineB A1 ++ [10]).length = 7 := rfl
    omega
theorem manyL_add (a b : Nat) : textL (manyL a) ++ textL (manyL b) = textL (manyL (a + b)) := by
  unfold manyL
  rw [← textL_app, List.replicate_append_replicate]
theorem many_step (i : Nat) : bsOf (textL (manyL i)) ++ attB = bsOf (textL (manyL (i + 1))) := by
  rw [← manyL_add i 1]
  exact bs_app _ _
theorem many_hundred (i : Nat) : bsOf (textL (manyL (100 * i))) ++ bsOf (textL (manyL 100)) = bsOf (textL (manyL (100 * (i + 1)))) := by
  rw [bs_app, manyL_add, show 100 * i + 100 = 100 * (i + 1) by omega]
theorem many_cut (j : Nat) (hj : j ≤ 100) : (bsOf (textL (manyL 100))).extract 0 (7 * j) = bsOf (textL (manyL j)) := by
  rw [ext_list, bs_list, List.drop_zero, ← show j + (100 - j) = 100 by omega, ← manyL_add j (100 - j), List.take_append_of_le_length (by rw [manyL_len]; omega), List.take_of_length_le (by rw [manyL_len]; omega)]
theorem readA_many (hs : List SH) : ∀ (n : Nat), hs.all mayB = true → n ≤ 2000 → 2000 < n + hs.length → readA n (cutL false false [] (textL hs)) = .inl 2000 := by
  induction hs with
  | nil => intro n _ h1 h2; rw [List.length_nil] at h2; omega
  | cons h t ih =>
    intro n hm h1 h2
    rw [List.all_cons, Bool.and_eq_true] at hm
    rw [List.length_cons] at h2
    have e : textL (h :: t) = lineB h ++ 10 :: textL t := by
      unfold textL
      rw [List.flatMap_cons]
      simp
    rw [e, readA_some n _ _ _ (scan_line h (textL t)), RD_line hm.1]
    simp only
    by_cases h3 : n < 2000
    · rw [if_pos h3, ih (n + 1) hm.2 (by omega) (by omega)]
    · rw [if_neg h3]
      congr 1
      omega
theorem many_read (n : Nat) (h : n ≤ 2000) : readTxt (textL (manyL n)) = .inr (manyL n) := readTxt_print _ (manyL_all n) (by unfold manyL; rw [List.length_replicate]; exact h)
theorem many_over (n : Nat) (h : 2000 < n) : readTxt (textL (manyL n)) = .inl 2000 := readA_many _ 0 (manyL_all n) (by omega) (by unfold manyL; rw [List.length_replicate]; omega)

set_option maxHeartbeats 8000000 in
theorem many0_calls (w : World) (more : Int) (h0 : 0 ≤ more) (h1 : more ≤ 255) (hm : more % 5 = 0) (hT : NumT w) (hE : NumE w) (hM : MaxT w) (hG : As.ErrT w) :
    Calls Tryz.prog 4 #[.int .u8 more] w fun e w' => e = .returned (.bool true) ∧ Below w.heap.size w w' := by
  have ht : Int.tmod more 5 = 0 := by rw [Int.tmod_eq_emod_of_nonneg h0]; exact hm
  have HT := Aside0.mk hT
  have HE := Aside0.mk hE
  have HM := Aside0.mk hM
  have HG := Aside0.mk hG
  have HAW := Aside0.mk (fun (W : World) (k : NumT W) => awake_calls W k)
  have HSZ := Aside0.mk manyL_len
  have HST := Aside0.mk many_step
  have HHU := Aside0.mk many_hundred
  have HCU := Aside0.mk (many_cut 98 (by omega))
  have HFI := Aside0.mk (manyL_add 1900 98)
  have HRD : Aside0 (Calls Tryz.prog 10 #[.string (bsOf (textL (manyL 1998)))] w (TxtPost w (.inr (manyL 1998)))) := ⟨by
    have h := sread_calls w (bsOf (textL (manyL 1998))) (by rw [bs_size, manyL_len]; omega) hT hE hM
    rw [bs_list, many_read 1998 (by omega)] at h
    exact h⟩
  obtain ⟨st, hst⟩ : ∃ st : Nat → ByteArray, st = fun i => bsOf (textL (manyL i)) := ⟨_, rfl⟩
  have S0 : Aside0 (st 0 = ⟨#[]⟩) := ⟨by rw [hst]; rfl⟩
  have SS : Aside0 (∀ i, (st i).size = 7 * i) := ⟨fun i => by rw [hst]; show (bsOf _).size = _; rw [bs_size, manyL_len]⟩
  have S1 : Aside0 (∀ i, st i ++ attB = st (i + 1)) := ⟨fun i => by rw [hst]; exact many_step i⟩
  have S2 : Aside0 (∀ i, st (100 * i) ++ st 100 = st (100 * (i + 1))) := ⟨fun i => by rw [hst]; exact many_hundred i⟩
  have S3 : Aside0 ((st 100).extract 0 686 = st 98) := ⟨by rw [hst]; exact HCU.out⟩
  have S4 : Aside0 (st 1900 ++ st 98 = st 1998) := ⟨by rw [hst]; show bsOf _ ++ bsOf _ = bsOf _; rw [bs_app, HFI.out]⟩
  have hlen : (manyL 1998).length = 1998 := by unfold manyL; rw [List.length_replicate]
  rw [show bsOf (textL (manyL 1998)) = st 1998 by rw [hst]] at HRD
  clear hst hT hE hM hG HSZ HST HHU HCU HFI hm
  go_enter Tryz.func4, Tryz.ntmps4
  go_wp2
  go_loopw [4, 5] (fun v i wr => ∃ j : Nat, j ≤ 100 ∧ i = .int .i64 j ∧ v = .string (st j) ∧ w = wr) (fun _ i _ => 100 - (intOf i).toNat)
  case atStart => exact ⟨0, by omega, rfl, by rw [S0.out], rfl⟩
  case round =>
    obtain ⟨j, hj, rfl, rfl, rfl⟩ := hrel
    by_cases hlt : j < 100
    · have z0 : (9223372036854775807 < (st j).size + 7) = False := eq_false (by rw [SS.out]; omega)
      have hs1 := Aside0.mk (S1.out j)
      go_wp2
      go_roundw
      case rel => exact ⟨j + 1, by omega, by go_num, by rw [← hs1.out]; rfl, by first | trivial | rfl⟩
      case measure => simp [intOf]; omega
    · obtain rfl : j = 100 := by omega
      go_wp2
      go_loopw [6, 7] (fun v i wr => ∃ j : Nat, j ≤ 19 ∧ i = .int .i64 j ∧ v = .string (st (100 * j)) ∧ w = wr) (fun _ i _ => 19 - (intOf i).toNat)
      case atStart => exact ⟨0, by omega, rfl, by rw [Nat.mul_zero, S0.out], rfl⟩
      case round =>
        obtain ⟨j, hj, rfl, rfl, rfl⟩ := hrel
        by_cases hlt : j < 19
        · have z0 : (9223372036854775807 < (st (100 * j)).size + (st 100).size) = False := eq_false (by rw [SS.out, SS.out]; omega)
          have hs1 := Aside0.mk (S2.out j)
          go_wp2
          go_roundw
          case rel => exact ⟨j + 1, by omega, by go_num, by rw [← hs1.out], by first | trivial | rfl⟩
          case measure => simp [intOf]; omega
        · obtain rfl : j = 19 := by omega
          have hz : (st 100).size = 700 := SS.out 100
          have hx := S3.out
          have z1 : (9223372036854775807 < (st (100 * 19)).size + (st 98).size) = False := eq_false (by rw [SS.out, SS.out]; omega)
          have hcat : st (100 * 19) ++ st 98 = st 1998 := S4.out
          simp only [Nat.reduceMul] at z1 hcat ⊢
          go_wp2_with fail
          with_reducible refine HRD.out.mono ?_

          rintro e w1 ⟨A1', n1, c1, rfl, hn1, hc1, hC1, hb⟩
          have hn2 : n1 = 1998 := by rw [hn1, hlen]
          subst hn2
          have HB1 := Aside0.mk hb
          clear hb hC1 hn1 hcat z1 hx hz
          go_wp2_with fail
          with_reducible refine (HAW.out _ (HT.out.below HB1.out)).mono ?_
          rintro e w2 ⟨rfl, hb⟩
          have HB2 := Aside0.mk (HB1.out.trans (hb.mono HB1.out.size))
          clear hb
          go_wp2
          go_ret
          exact ⟨rfl, HB2.out⟩

set_option maxHeartbeats 8000000 in
theorem many1_calls (w : World) (more : Int) (h0 : 0 ≤ more) (h1 : more ≤ 255) (hm : more % 5 = 1) (hT : NumT w) (hE : NumE w) (hM : MaxT w) (hG : As.ErrT w) :
    Calls Tryz.prog 4 #[.int .u8 more] w fun e w' => e = .returned (.bool true) ∧ Below w.heap.size w w' := by
  have ht : Int.tmod more 5 = 1 := by rw [Int.tmod_eq_emod_of_nonneg h0]; exact hm
  have HT := Aside0.mk hT
  have HE := Aside0.mk hE
  have HM := Aside0.mk hM
  have HG := Aside0.mk hG
  have HAW := Aside0.mk (fun (W : World) (k : NumT W) => awake_calls W k)
  have HSZ := Aside0.mk manyL_len
  have HST := Aside0.mk many_step
  have HHU := Aside0.mk many_hundred
  have HCU := Aside0.mk (many_cut 99 (by omega))
  have HFI := Aside0.mk (manyL_add 1900 99)
  have HRD : Aside0 (Calls Tryz.prog 10 #[.string (bsOf (textL (manyL 1999)))] w (TxtPost w (.inr (manyL 1999)))) := ⟨by
    have h := sread_calls w (bsOf (textL (manyL 1999))) (by rw [bs_size, manyL_len]; omega) hT hE hM
    rw [bs_list, many_read 1999 (by omega)] at h
    exact h⟩
  obtain ⟨st, hst⟩ : ∃ st : Nat → ByteArray, st = fun i => bsOf (textL (manyL i)) := ⟨_, rfl⟩
  have S0 : Aside0 (st 0 = ⟨#[]⟩) := ⟨by rw [hst]; rfl⟩
  have SS : Aside0 (∀ i, (st i).size = 7 * i) := ⟨fun i => by rw [hst]; show (bsOf _).size = _; rw [bs_size, manyL_len]⟩
  have S1 : Aside0 (∀ i, st i ++ attB = st (i + 1)) := ⟨fun i => by rw [hst]; exact many_step i⟩
  have S2 : Aside0 (∀ i, st (100 * i) ++ st 100 = st (100 * (i + 1))) := ⟨fun i => by rw [hst]; exact many_hundred i⟩
  have S3 : Aside0 ((st 100).extract 0 693 = st 99) := ⟨by rw [hst]; exact HCU.out⟩
  have S4 : Aside0 (st 1900 ++ st 99 = st 1999) := ⟨by rw [hst]; show bsOf _ ++ bsOf _ = bsOf _; rw [bs_app, HFI.out]⟩
  have hlen : (manyL 1999).length = 1999 := by unfold manyL; rw [List.length_replicate]
  rw [show bsOf (textL (manyL 1999)) = st 1999 by rw [hst]] at HRD
  clear hst hT hE hM hG HSZ HST HHU HCU HFI hm
  go_enter Tryz.func4, Tryz.ntmps4
  go_wp2
  go_loopw [4, 5] (fun v i wr => ∃ j : Nat, j ≤ 100 ∧ i = .int .i64 j ∧ v = .string (st j) ∧ w = wr) (fun _ i _ => 100 - (intOf i).toNat)
  case atStart => exact ⟨0, by omega, rfl, by rw [S0.out], rfl⟩
  case round =>
    obtain ⟨j, hj, rfl, rfl, rfl⟩ := hrel
    by_cases hlt : j < 100
    · have z0 : (9223372036854775807 < (st j).size + 7) = False := eq_false (by rw [SS.out]; omega)
      have hs1 := Aside0.mk (S1.out j)
      go_wp2
      go_roundw
      case rel => exact ⟨j + 1, by omega, by go_num, by rw [← hs1.out]; rfl, by first | trivial | rfl⟩
      case measure => simp [intOf]; omega
    · obtain rfl : j = 100 := by omega
      go_wp2
      go_loopw [6, 7] (fun v i wr => ∃ j : Nat, j ≤ 19 ∧ i = .int .i64 j ∧ v = .string (st (100 * j)) ∧ w = wr) (fun _ i _ => 19 - (intOf i).toNat)
      case atStart => exact ⟨0, by omega, rfl, by rw [Nat.mul_zero, S0.out], rfl⟩
      case round =>
        obtain ⟨j, hj, rfl, rfl, rfl⟩ := hrel
        by_cases hlt : j < 19
        · have z0 : (9223372036854775807 < (st (100 * j)).size + (st 100).size) = False := eq_false (by rw [SS.out, SS.out]; omega)
          have hs1 := Aside0.mk (S2.out j)
          go_wp2
          go_roundw
          case rel => exact ⟨j + 1, by omega, by go_num, by rw [← hs1.out], by first | trivial | rfl⟩
          case measure => simp [intOf]; omega
        · obtain rfl : j = 19 := by omega
          have hz : (st 100).size = 700 := SS.out 100
          have hx := S3.out
          have z1 : (9223372036854775807 < (st (100 * 19)).size + (st 99).size) = False := eq_false (by rw [SS.out, SS.out]; omega)
          have hcat : st (100 * 19) ++ st 99 = st 1999 := S4.out
          simp only [Nat.reduceMul] at z1 hcat ⊢
          go_wp2_with fail
          with_reducible refine HRD.out.mono ?_

          rintro e w1 ⟨A1', n1, c1, rfl, hn1, hc1, hC1, hb⟩
          have hn2 : n1 = 1999 := by rw [hn1, hlen]
          subst hn2
          have HB1 := Aside0.mk hb
          clear hb hC1 hn1 hcat z1 hx hz
          go_wp2_with fail
          with_reducible refine (HAW.out _ (HT.out.below HB1.out)).mono ?_
          rintro e w2 ⟨rfl, hb⟩
          have HB2 := Aside0.mk (HB1.out.trans (hb.mono HB1.out.size))
          clear hb
          go_wp2
          go_ret
          exact ⟨rfl, HB2.out⟩

set_option maxHeartbeats 8000000 in
theorem many2_calls (w : World) (more : Int) (h0 : 0 ≤ more) (h1 : more ≤ 255) (hm : more % 5 = 2) (hT : NumT w) (hE : NumE w) (hM : MaxT w) (hG : As.ErrT w) :
    Calls Tryz.prog 4 #[.int .u8 more] w fun e w' => e = .returned (.bool true) ∧ Below w.heap.size w w' := by
  have ht : Int.tmod more 5 = 2 := by rw [Int.tmod_eq_emod_of_nonneg h0]; exact hm
  have HT := Aside0.mk hT
  have HE := Aside0.mk hE
  have HM := Aside0.mk hM
  have HG := Aside0.mk hG
  have HAW := Aside0.mk (fun (W : World) (k : NumT W) => awake_calls W k)
  have HSZ := Aside0.mk manyL_len
  have HST := Aside0.mk many_step
  have HHU := Aside0.mk many_hundred
  have HCU := Aside0.mk (many_cut 0 (by omega))
  have HFI := Aside0.mk (manyL_add 2000 0)
  have HRD : Aside0 (Calls Tryz.prog 10 #[.string (bsOf (textL (manyL 2000)))] w (TxtPost w (.inr (manyL 2000)))) := ⟨by
    have h := sread_calls w (bsOf (textL (manyL 2000))) (by rw [bs_size, manyL_len]; omega) hT hE hM
    rw [bs_list, many_read 2000 (by omega)] at h
    exact h⟩
  obtain ⟨st, hst⟩ : ∃ st : Nat → ByteArray, st = fun i => bsOf (textL (manyL i)) := ⟨_, rfl⟩
  have S0 : Aside0 (st 0 = ⟨#[]⟩) := ⟨by rw [hst]; rfl⟩
  have SS : Aside0 (∀ i, (st i).size = 7 * i) := ⟨fun i => by rw [hst]; show (bsOf _).size = _; rw [bs_size, manyL_len]⟩
  have S1 : Aside0 (∀ i, st i ++ attB = st (i + 1)) := ⟨fun i => by rw [hst]; exact many_step i⟩
  have S2 : Aside0 (∀ i, st (100 * i) ++ st 100 = st (100 * (i + 1))) := ⟨fun i => by rw [hst]; exact many_hundred i⟩
  have S3 : Aside0 ((st 100).extract 0 0 = st 0) := ⟨by rw [hst]; exact HCU.out⟩
  have S4 : Aside0 (st 2000 ++ st 0 = st 2000) := ⟨by rw [hst]; show bsOf _ ++ bsOf _ = bsOf _; rw [bs_app, HFI.out]⟩
  have hlen : (manyL 2000).length = 2000 := by unfold manyL; rw [List.length_replicate]
  rw [show bsOf (textL (manyL 2000)) = st 2000 by rw [hst]] at HRD
  clear hst hT hE hM hG HSZ HST HHU HCU HFI hm
  go_enter Tryz.func4, Tryz.ntmps4
  go_wp2
  go_loopw [4, 5] (fun v i wr => ∃ j : Nat, j ≤ 100 ∧ i = .int .i64 j ∧ v = .string (st j) ∧ w = wr) (fun _ i _ => 100 - (intOf i).toNat)
  case atStart => exact ⟨0, by omega, rfl, by rw [S0.out], rfl⟩
  case round =>
    obtain ⟨j, hj, rfl, rfl, rfl⟩ := hrel
    by_cases hlt : j < 100
    · have z0 : (9223372036854775807 < (st j).size + 7) = False := eq_false (by rw [SS.out]; omega)
      have hs1 := Aside0.mk (S1.out j)
      go_wp2
      go_roundw
      case rel => exact ⟨j + 1, by omega, by go_num, by rw [← hs1.out]; rfl, by first | trivial | rfl⟩
      case measure => simp [intOf]; omega
    · obtain rfl : j = 100 := by omega
      go_wp2
      go_loopw [6, 7] (fun v i wr => ∃ j : Nat, j ≤ 20 ∧ i = .int .i64 j ∧ v = .string (st (100 * j)) ∧ w = wr) (fun _ i _ => 20 - (intOf i).toNat)
      case atStart => exact ⟨0, by omega, rfl, by rw [Nat.mul_zero, S0.out], rfl⟩
      case round =>
        obtain ⟨j, hj, rfl, rfl, rfl⟩ := hrel
        by_cases hlt : j < 20
        · have z0 : (9223372036854775807 < (st (100 * j)).size + (st 100).size) = False := eq_false (by rw [SS.out, SS.out]; omega)
          have hs1 := Aside0.mk (S2.out j)
          go_wp2
          go_roundw
          case rel => exact ⟨j + 1, by omega, by go_num, by rw [← hs1.out], by first | trivial | rfl⟩
          case measure => simp [intOf]; omega
        · obtain rfl : j = 20 := by omega
          have hz : (st 100).size = 700 := SS.out 100
          have hx := S3.out
          have z1 : (9223372036854775807 < (st 2000).size) = False := eq_false (by rw [SS.out]; omega)
          have z2 : (9223372036854775807 < (st 2000).size + ByteArray.empty.size) = False := eq_false (by rw [SS.out]; show ¬ (9223372036854775807 < 7 * 2000 + 0); omega)
          have hcat : st 2000 ++ ByteArray.empty = st 2000 := ByteArray.append_empty
          simp only [Nat.reduceMul]
          go_wp2_with fail
          with_reducible refine HRD.out.mono ?_

          rintro e w1 ⟨A1', n1, c1, rfl, hn1, hc1, hC1, hb⟩
          have hn2 : n1 = 2000 := by rw [hn1, hlen]
          subst hn2
          have HB1 := Aside0.mk hb
          clear hb hC1 hn1 hcat z1 hx hz
          go_wp2_with fail
          with_reducible refine (HAW.out _ (HT.out.below HB1.out)).mono ?_
          rintro e w2 ⟨rfl, hb⟩
          have HB2 := Aside0.mk (HB1.out.trans (hb.mono HB1.out.size))
          clear hb
          go_wp2
          go_ret
          exact ⟨rfl, HB2.out⟩

set_option maxHeartbeats 8000000 in
theorem many3_calls (w : World) (more : Int) (h0 : 0 ≤ more) (h1 : more ≤ 255) (hm : more % 5 = 3) (hT : NumT w) (hE : NumE w) (hM : MaxT w) (hG : As.ErrT w) :
    Calls Tryz.prog 4 #[.int .u8 more] w fun e w' => e = .returned (.bool true) ∧ Below w.heap.size w w' := by
  have ht : Int.tmod more 5 = 3 := by rw [Int.tmod_eq_emod_of_nonneg h0]; exact hm
  have HT := Aside0.mk hT
  have HE := Aside0.mk hE
  have HM := Aside0.mk hM
  have HG := Aside0.mk hG
  have HAW := Aside0.mk (fun (W : World) (k : NumT W) => awake_calls W k)
  have HSZ := Aside0.mk manyL_len
  have HST := Aside0.mk many_step
  have HHU := Aside0.mk many_hundred
  have HCU := Aside0.mk (many_cut 1 (by omega))
  have HFI := Aside0.mk (manyL_add 2000 1)
  have HRD : Aside0 (Calls Tryz.prog 10 #[.string (bsOf (textL (manyL 2001)))] w (TxtPost w (.inl 2000))) := ⟨by
    have h := sread_calls w (bsOf (textL (manyL 2001))) (by rw [bs_size, manyL_len]; omega) hT hE hM
    rw [bs_list, many_over 2001 (by omega)] at h
    exact h⟩
  obtain ⟨st, hst⟩ : ∃ st : Nat → ByteArray, st = fun i => bsOf (textL (manyL i)) := ⟨_, rfl⟩
  have S0 : Aside0 (st 0 = ⟨#[]⟩) := ⟨by rw [hst]; rfl⟩
  have SS : Aside0 (∀ i, (st i).size = 7 * i) := ⟨fun i => by rw [hst]; show (bsOf _).size = _; rw [bs_size, manyL_len]⟩
  have S1 : Aside0 (∀ i, st i ++ attB = st (i + 1)) := ⟨fun i => by rw [hst]; exact many_step i⟩
  have S2 : Aside0 (∀ i, st (100 * i) ++ st 100 = st (100 * (i + 1))) := ⟨fun i => by rw [hst]; exact many_hundred i⟩
  have S3 : Aside0 ((st 100).extract 0 7 = st 1) := ⟨by rw [hst]; exact HCU.out⟩
  have S4 : Aside0 (st 2000 ++ st 1 = st 2001) := ⟨by rw [hst]; show bsOf _ ++ bsOf _ = bsOf _; rw [bs_app, HFI.out]⟩
  have hlen : (manyL 2001).length = 2001 := by unfold manyL; rw [List.length_replicate]
  rw [show bsOf (textL (manyL 2001)) = st 2001 by rw [hst]] at HRD
  clear hst hT hE hM hG HSZ HST HHU HCU HFI hm
  go_enter Tryz.func4, Tryz.ntmps4
  go_wp2
  go_loopw [4, 5] (fun v i wr => ∃ j : Nat, j ≤ 100 ∧ i = .int .i64 j ∧ v = .string (st j) ∧ w = wr) (fun _ i _ => 100 - (intOf i).toNat)
  case atStart => exact ⟨0, by omega, rfl, by rw [S0.out], rfl⟩
  case round =>
    obtain ⟨j, hj, rfl, rfl, rfl⟩ := hrel
    by_cases hlt : j < 100
    · have z0 : (9223372036854775807 < (st j).size + 7) = False := eq_false (by rw [SS.out]; omega)
      have hs1 := Aside0.mk (S1.out j)
      go_wp2
      go_roundw
      case rel => exact ⟨j + 1, by omega, by go_num, by rw [← hs1.out]; rfl, by first | trivial | rfl⟩
      case measure => simp [intOf]; omega
    · obtain rfl : j = 100 := by omega
      go_wp2
      go_loopw [6, 7] (fun v i wr => ∃ j : Nat, j ≤ 20 ∧ i = .int .i64 j ∧ v = .string (st (100 * j)) ∧ w = wr) (fun _ i _ => 20 - (intOf i).toNat)
      case atStart => exact ⟨0, by omega, rfl, by rw [Nat.mul_zero, S0.out], rfl⟩
      case round =>
        obtain ⟨j, hj, rfl, rfl, rfl⟩ := hrel
        by_cases hlt : j < 20
        · have z0 : (9223372036854775807 < (st (100 * j)).size + (st 100).size) = False := eq_false (by rw [SS.out, SS.out]; omega)
          have hs1 := Aside0.mk (S2.out j)
          go_wp2
          go_roundw
          case rel => exact ⟨j + 1, by omega, by go_num, by rw [← hs1.out], by first | trivial | rfl⟩
          case measure => simp [intOf]; omega
        · obtain rfl : j = 20 := by omega
          have hz : (st 100).size = 700 := SS.out 100
          have hx := S3.out
          have z1 : (9223372036854775807 < (st (100 * 20)).size + (st 1).size) = False := eq_false (by rw [SS.out, SS.out]; omega)
          have hcat : st (100 * 20) ++ st 1 = st 2001 := S4.out
          simp only [Nat.reduceMul] at z1 hcat ⊢
          go_wp2_with fail
          with_reducible refine HRD.out.mono ?_

          rintro e w1 ⟨u, p, rfl, hev, hb⟩
          have HB1 := Aside0.mk hb
          have HEV := Aside0.mk hev
          have HC := Aside0.mk (fun (W : World) (hb : Below w1.heap.size w1 W) => As.code_calls _ _ _ W (As.EV_keep hb HEV.out) (HG.out.below (HB1.out.trans (hb.mono HB1.out.size))))
          have HA := Aside0.mk (As.at_calls _ _ _ w1 hev (HG.out.below hb))
          clear hb hev hcat z1 hx hz
          go_wp2_with fail
          with_reducible refine HA.out.mono ?_
          rintro e w2 ⟨rfl, hb⟩
          have HB2 := Aside0.mk hb
          clear hb HA
          go_wp2_with fail
          with_reducible refine (HC.out _ HB2.out).mono ?_
          rintro e w3 ⟨rfl, hb⟩
          have HB3 := Aside0.mk (HB1.out.trans ((HB2.out.trans (hb.mono HB2.out.size)).mono HB1.out.size))
          clear hb
          go_wp2_with fail
          with_reducible refine (HAW.out _ (HT.out.below HB3.out)).mono ?_
          rintro e w4 ⟨rfl, hb⟩
          have HB4 := Aside0.mk (HB3.out.trans (hb.mono HB3.out.size))
          clear hb
          go_wp2
          go_ret
          exact ⟨rfl, HB4.out⟩

set_option maxHeartbeats 8000000 in
theorem many4_calls (w : World) (more : Int) (h0 : 0 ≤ more) (h1 : more ≤ 255) (hm : more % 5 = 4) (hT : NumT w) (hE : NumE w) (hM : MaxT w) (hG : As.ErrT w) :
    Calls Tryz.prog 4 #[.int .u8 more] w fun e w' => e = .returned (.bool true) ∧ Below w.heap.size w w' := by
  have ht : Int.tmod more 5 = 4 := by rw [Int.tmod_eq_emod_of_nonneg h0]; exact hm
  have HT := Aside0.mk hT
  have HE := Aside0.mk hE
  have HM := Aside0.mk hM
  have HG := Aside0.mk hG
  have HAW := Aside0.mk (fun (W : World) (k : NumT W) => awake_calls W k)
  have HSZ := Aside0.mk manyL_len
  have HST := Aside0.mk many_step
  have HHU := Aside0.mk many_hundred
  have HCU := Aside0.mk (many_cut 2 (by omega))
  have HFI := Aside0.mk (manyL_add 2000 2)
  have HRD : Aside0 (Calls Tryz.prog 10 #[.string (bsOf (textL (manyL 2002)))] w (TxtPost w (.inl 2000))) := ⟨by
    have h := sread_calls w (bsOf (textL (manyL 2002))) (by rw [bs_size, manyL_len]; omega) hT hE hM
    rw [bs_list, many_over 2002 (by omega)] at h
    exact h⟩
  obtain ⟨st, hst⟩ : ∃ st : Nat → ByteArray, st = fun i => bsOf (textL (manyL i)) := ⟨_, rfl⟩
  have S0 : Aside0 (st 0 = ⟨#[]⟩) := ⟨by rw [hst]; rfl⟩
  have SS : Aside0 (∀ i, (st i).size = 7 * i) := ⟨fun i => by rw [hst]; show (bsOf _).size = _; rw [bs_size, manyL_len]⟩
  have S1 : Aside0 (∀ i, st i ++ attB = st (i + 1)) := ⟨fun i => by rw [hst]; exact many_step i⟩
  have S2 : Aside0 (∀ i, st (100 * i) ++ st 100 = st (100 * (i + 1))) := ⟨fun i => by rw [hst]; exact many_hundred i⟩
  have S3 : Aside0 ((st 100).extract 0 14 = st 2) := ⟨by rw [hst]; exact HCU.out⟩
  have S4 : Aside0 (st 2000 ++ st 2 = st 2002) := ⟨by rw [hst]; show bsOf _ ++ bsOf _ = bsOf _; rw [bs_app, HFI.out]⟩
  have hlen : (manyL 2002).length = 2002 := by unfold manyL; rw [List.length_replicate]
  rw [show bsOf (textL (manyL 2002)) = st 2002 by rw [hst]] at HRD
  clear hst hT hE hM hG HSZ HST HHU HCU HFI hm
  go_enter Tryz.func4, Tryz.ntmps4
  go_wp2
  go_loopw [4, 5] (fun v i wr => ∃ j : Nat, j ≤ 100 ∧ i = .int .i64 j ∧ v = .string (st j) ∧ w = wr) (fun _ i _ => 100 - (intOf i).toNat)
  case atStart => exact ⟨0, by omega, rfl, by rw [S0.out], rfl⟩
  case round =>
    obtain ⟨j, hj, rfl, rfl, rfl⟩ := hrel
    by_cases hlt : j < 100
    · have z0 : (9223372036854775807 < (st j).size + 7) = False := eq_false (by rw [SS.out]; omega)
      have hs1 := Aside0.mk (S1.out j)
      go_wp2
      go_roundw
      case rel => exact ⟨j + 1, by omega, by go_num, by rw [← hs1.out]; rfl, by first | trivial | rfl⟩
      case measure => simp [intOf]; omega
    · obtain rfl : j = 100 := by omega
      go_wp2
      go_loopw [6, 7] (fun v i wr => ∃ j : Nat, j ≤ 20 ∧ i = .int .i64 j ∧ v = .string (st (100 * j)) ∧ w = wr) (fun _ i _ => 20 - (intOf i).toNat)
      case atStart => exact ⟨0, by omega, rfl, by rw [Nat.mul_zero, S0.out], rfl⟩
      case round =>
        obtain ⟨j, hj, rfl, rfl, rfl⟩ := hrel
        by_cases hlt : j < 20
        · have z0 : (9223372036854775807 < (st (100 * j)).size + (st 100).size) = False := eq_false (by rw [SS.out, SS.out]; omega)
          have hs1 := Aside0.mk (S2.out j)
          go_wp2
          go_roundw
          case rel => exact ⟨j + 1, by omega, by go_num, by rw [← hs1.out], by first | trivial | rfl⟩
          case measure => simp [intOf]; omega
        · obtain rfl : j = 20 := by omega
          have hz : (st 100).size = 700 := SS.out 100
          have hx := S3.out
          have z1 : (9223372036854775807 < (st (100 * 20)).size + (st 2).size) = False := eq_false (by rw [SS.out, SS.out]; omega)
          have hcat : st (100 * 20) ++ st 2 = st 2002 := S4.out
          simp only [Nat.reduceMul] at z1 hcat ⊢
          go_wp2_with fail
          with_reducible refine HRD.out.mono ?_

          rintro e w1 ⟨u, p, rfl, hev, hb⟩
          have HB1 := Aside0.mk hb
          have HEV := Aside0.mk hev
          have HC := Aside0.mk (fun (W : World) (hb : Below w1.heap.size w1 W) => As.code_calls _ _ _ W (As.EV_keep hb HEV.out) (HG.out.below (HB1.out.trans (hb.mono HB1.out.size))))
          have HA := Aside0.mk (As.at_calls _ _ _ w1 hev (HG.out.below hb))
          clear hb hev hcat z1 hx hz
          go_wp2_with fail
          with_reducible refine HA.out.mono ?_
          rintro e w2 ⟨rfl, hb⟩
          have HB2 := Aside0.mk hb
          clear hb HA
          go_wp2_with fail
          with_reducible refine (HC.out _ HB2.out).mono ?_
          rintro e w3 ⟨rfl, hb⟩
          have HB3 := Aside0.mk (HB1.out.trans ((HB2.out.trans (hb.mono HB2.out.size)).mono HB1.out.size))
          clear hb
          go_wp2_with fail
          with_reducible refine (HAW.out _ (HT.out.below HB3.out)).mono ?_
          rintro e w4 ⟨rfl, hb⟩
          have HB4 := Aside0.mk (HB3.out.trans (hb.mono HB3.out.size))
          clear hb
          go_wp2
          go_ret
          exact ⟨rfl, HB4.out⟩

theorem many_calls (w : World) (more : Int) (h0 : 0 ≤ more) (h1 : more ≤ 255) (hT : NumT w) (hE : NumE w) (hM : MaxT w) (hG : As.ErrT w) :
    Calls Tryz.prog 4 #[.int .u8 more] w fun e w' => e = .returned (.bool true) ∧ Below w.heap.size w w' := by
  have h : more % 5 = 0 ∨ more % 5 = 1 ∨ more % 5 = 2 ∨ more % 5 = 3 ∨ more % 5 = 4 := by omega
  rcases h with h | h | h | h | h
  · exact many0_calls w more h0 h1 h hT hE hM hG
  · exact many1_calls w more h0 h1 h hT hE hM hG
  · exact many2_calls w more h0 h1 h hT hE hM hG
  · exact many3_calls w more h0 h1 h hT hE hM hG
  · exact many4_calls w more h0 h1 h hT hE hM hG
end Go.Proofs.YtmcjfnebkpifnaaGreatDoor
