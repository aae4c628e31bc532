/-
  The document's digits, and digits with commas; the statements' example.
-/
import Derived.Test.YtlnipkhdaikdkaaDoorNumPure
import Derived.Test.YtlnipkhdaikdkaaDoorNuPrint
namespace Go.Proofs.YtlnipkhdaikdkaaDoor
open Go.RowKit Go.Proofs.YtlnipkhdaikdkaaDoorW.PrintWords Go.Proofs.YtlnipkhdaikdkaaDoorW.PrintLast Go.Proofs.YtlnipkhdaikdkaaDoorW.PrintMore
open Go.Lib (decDigits)
set_option linter.unusedVariables false

theorem data_ext' {a b : ByteArray} (h : a.data.toList = b.data.toList) : a = b := by
  apply ByteArray.ext
  exact Array.ext' h
theorem app_nil (a : ByteArray) : a ++ (⟨#[]⟩ : ByteArray) = a := by
  apply data_ext'
  rw [ByteArray.data_append, Array.toList_append]
  simp
theorem ten_digit (m : Nat) (h : m < 10) : PNumDigits.sashref01_Digit.f (m : Int) = some (⟨#[UInt8.ofNat (48 + m)]⟩ : ByteArray) := by
  match m, h with
  | 0, _ => show PNumDigits.sashref01_Digit.f 0 = some (⟨#[UInt8.ofNat (48 + 0)]⟩ : ByteArray); kernel_rfl
  | 1, _ => show PNumDigits.sashref01_Digit.f 1 = some (⟨#[UInt8.ofNat (48 + 1)]⟩ : ByteArray); kernel_rfl
  | 2, _ => show PNumDigits.sashref01_Digit.f 2 = some (⟨#[UInt8.ofNat (48 + 2)]⟩ : ByteArray); kernel_rfl
  | 3, _ => show PNumDigits.sashref01_Digit.f 3 = some (⟨#[UInt8.ofNat (48 + 3)]⟩ : ByteArray); kernel_rfl
  | 4, _ => show PNumDigits.sashref01_Digit.f 4 = some (⟨#[UInt8.ofNat (48 + 4)]⟩ : ByteArray); kernel_rfl
  | 5, _ => show PNumDigits.sashref01_Digit.f 5 = some (⟨#[UInt8.ofNat (48 + 5)]⟩ : ByteArray); kernel_rfl
  | 6, _ => show PNumDigits.sashref01_Digit.f 6 = some (⟨#[UInt8.ofNat (48 + 6)]⟩ : ByteArray); kernel_rfl
  | 7, _ => show PNumDigits.sashref01_Digit.f 7 = some (⟨#[UInt8.ofNat (48 + 7)]⟩ : ByteArray); kernel_rfl
  | 8, _ => show PNumDigits.sashref01_Digit.f 8 = some (⟨#[UInt8.ofNat (48 + 8)]⟩ : ByteArray); kernel_rfl
  | 9, _ => show PNumDigits.sashref01_Digit.f 9 = some (⟨#[UInt8.ofNat (48 + 9)]⟩ : ByteArray); kernel_rfl

theorem nw64 (x : Int) (h0 : 0 ≤ x) (h1 : x ≤ 4294967296) : wrap64 x = x := by unfold wrap64; omega
theorem tdiv10 (n : Nat) (h : n ≤ 2147483647) : wrap64 (Int.tdiv (n : Int) 10) = ((n / 10 : Nat) : Int) := by
  rw [Int.tdiv_eq_ediv_of_nonneg (by omega), nw64 _ (by omega) (by omega)]
  rfl
theorem tmod10 (n : Nat) : Int.tmod (n : Int) 10 = ((n % 10 : Nat) : Int) := by
  rw [Int.tmod_eq_emod_of_nonneg (by omega)]
  rfl
theorem refDig_l0 (k : Nat) : ∀ (n : Nat) (suf : ByteArray), n < 10 ^ (k + 1) → n ≤ 2147483647 → suf.size + k ≤ 1000 →
    PNumDigits.sashref01_Digits.l0 (k + 1) (n : Int) ((⟨#[UInt8.ofNat (48 + n % 10)]⟩ : ByteArray) ++ suf) = some ((⟨(decDigits n).toArray⟩ : ByteArray) ++ suf) := by
  induction k with
  | zero =>
    intro n suf hn hm hs
    have h9 : n < 10 := by simpa using hn
    simp only [PNumDigits.sashref01_Digits.l0]
    rw [if_neg (by omega), dec_one n h9, Nat.mod_eq_of_lt h9]
  | succ k ih =>
    intro n suf hn hm hs
    by_cases h9 : n < 10
    · simp only [PNumDigits.sashref01_Digits.l0]
      rw [if_neg (by omega), dec_one n h9, Nat.mod_eq_of_lt h9]
    · have e : PNumDigits.sashref01_Digits.l0 (k + 1 + 1) (n : Int) ((⟨#[UInt8.ofNat (48 + n % 10)]⟩ : ByteArray) ++ suf) = PNumDigits.sashref01_Digits.l0 (k + 1) ((n / 10 : Nat) : Int) ((⟨#[UInt8.ofNat (48 + n / 10 % 10)]⟩ : ByteArray) ++ ((⟨#[UInt8.ofNat (48 + n % 10)]⟩ : ByteArray) ++ suf)) := by
        rw [PNumDigits.sashref01_Digits.l0]
        rw [if_pos (by omega), tdiv10 n hm, tmod10, ten_digit _ (by omega), Option.bind_some]
        rw [if_pos (by rw [ByteArray.size_append]; show 1 + (1 + suf.size) ≤ _; omega)]
      have hp : n / 10 < 10 ^ (k + 1) := by
        rw [Nat.pow_succ] at hn; omega
      rw [e, ih (n / 10) _ hp (by omega) (by rw [ByteArray.size_append]; show 1 + suf.size + k ≤ _; omega), dec_step n h9, ← ByteArray.append_assoc]
      congr 2
theorem refDigits_pure (n : Int) (h0 : -9223372036854775808 ≤ n) (h1 : n ≤ 9223372036854775807) : PNumDigits.sashref01_Digits.f 12 n = some (digS n) := by
  unfold PNumDigits.sashref01_Digits.f digS
  by_cases h : n < 0
  · rw [if_pos h, if_pos (.inl h)]
    rfl
  · rw [if_neg h]
    by_cases h2 : 2147483647 < n
    · rw [if_pos (.inr h2), decide_eq_true h2]
      rfl
    · rw [if_neg (by omega), decide_eq_false h2]
      obtain ⟨m, rfl⟩ := Int.eq_ofNat_of_zero_le (by omega : 0 ≤ n)
      have e : PNumDigits.sashref01_Digits.j0 12 (m : Int) false = PNumDigits.sashref01_Digits.l0 11 (m : Int) (⟨#[UInt8.ofNat (48 + m % 10)]⟩ : ByteArray) := by
        rw [PNumDigits.sashref01_Digits.j0]
        rw [if_neg (by decide), tmod10, ten_digit _ (by omega), Option.bind_some]
      have h := refDig_l0 10 m (⟨#[]⟩ : ByteArray) (by omega) (by omega) (by decide)
      rw [app_nil, app_nil] at h
      rw [e, h, Lib.itoa_nonneg]
theorem refDigits_calls (n : Int) (h0 : -9223372036854775808 ≤ n) (h1 : n ≤ 9223372036854775807) (w : World) : Calls Tryd.prog 35 #[.int .i64 n] w fun e w' => e = .returned (.string (digS n)) ∧ Drawn0 w w' :=
  PNumDigits.sashref01_Digits.calls 12 n _ w (refDigits_pure n h0 h1)
theorem joinTail_snoc (sep : List UInt8) : ∀ (r : List (List UInt8)) (y : List UInt8), Lib.joinTail sep (r ++ [y]) = Lib.joinTail sep r ++ (sep ++ y) := by
  intro r y
  unfold Lib.joinTail
  rw [List.map_append, List.flatten_append]
  simp
theorem joinS_snoc (l : List ByteArray) (y : ByteArray) : joinS (l ++ [y]) = if l = [] then y else joinS l ++ (⟨#[44]⟩ : ByteArray) ++ y := by
  cases l with
  | nil =>
    rw [if_pos rfl]
    apply data_ext'
    show (Lib.join [y.data.toList] [44]).toArray.toList = _
    rw [Lib.join_one]
  | cons x r =>
    rw [if_neg (by simp)]
    apply data_ext'
    rw [ByteArray.data_append, ByteArray.data_append, Array.toList_append, Array.toList_append]
    show (Lib.join ((x :: r ++ [y]).map (·.data.toList)) [44]).toArray.toList = (Lib.join ((x :: r).map (·.data.toList)) [44]).toArray.toList ++ [44] ++ y.data.toList
    have e : (x :: r ++ [y]).map (·.data.toList) = x.data.toList :: ((r.map (·.data.toList)) ++ [y.data.toList]) := by simp
    rw [e, Lib.join_cons, joinTail_snoc, List.map_cons, Lib.join_cons]
    simp
theorem joinS_take (zs : List Int) (k : Nat) (hk : k < zs.length) : joinS ((zs.map digS).take (k + 1)) = if k = 0 then digS (zs.getD k 0) else joinS ((zs.map digS).take k) ++ (⟨#[44]⟩ : ByteArray) ++ digS (zs.getD k 0) := by
  rw [take_map digS 0 zs k hk, joinS_snoc]
  by_cases h : k = 0
  · subst h; rw [if_pos rfl, if_pos (by simp)]
  · rw [if_neg h, if_neg]
    intro he
    have := congrArg List.length he
    rw [List.length_take, List.length_map, List.length_nil] at this
    omega
set_option maxHeartbeats 4000000 in
theorem refJoin_calls (w : World) (A : Option Addr) (n c : Nat) (zs : List Int) (hr : (Kd.int .i64).C w A n zs) (hn : n ≤ 1000) (hz : ∀ z ∈ zs, -9223372036854775808 ≤ z ∧ z ≤ 9223372036854775807) :
    Calls Tryd.prog 21 #[.slice A n c] w fun e w' => e = .returned (.string (joinS (zs.map digS))) ∧ Below w.heap.size w w' := by
  have hlen := Kd.C_len hr
  have HR := Aside0.mk hr
  have HZ : Aside0 (∀ k, k < n → -9223372036854775808 ≤ zs.getD k 0 ∧ zs.getD k 0 ≤ 9223372036854775807) := ⟨fun k hk => by
    rw [List.getD_eq_getElem?_getD, List.getElem?_eq_getElem (by omega)]
    exact hz _ (List.getElem_mem _)⟩
  have HDS := Aside0.mk (joinS_take zs)
  have hml : (zs.map digS).length = n := by simp; omega
  have hsz : ∀ z, (digS z).size ≤ 21 := digS_size
  have HS := Aside0.mk hsz
  generalize zs.map digS = ds at *
  clear hr hz hsz
  go_enter Tryd.func21, Tryd.ntmps21
  go_wp2
  go_loopw [3, 7] (fun v i wr => ∃ (k : Nat) (x : ByteArray), i = .int .i64 k ∧ v = .string x ∧ k ≤ n ∧ x.size ≤ 22 * k ∧ Aside0 (x = joinS (ds.take k) ∧ Below w.heap.size w wr)) (fun _ i _ => n - (intOf i).toNat)
  case atStart => exact ⟨0, ⟨#[]⟩, rfl, rfl, by omega, by decide, ⟨rfl, Below.refl _ _⟩⟩
  case round =>
    obtain ⟨k, x, rfl, rfl, hk, hxs, HX⟩ := hrel
    by_cases hlt : k < n
    · obtain ⟨ad, rfl, hcell⟩ := int_cell (Kd.C_below HR.out HX.out.2) k hlt
      have HD := Aside0.mk (HDS.out k (by omega))
      have HZ1 := Aside0.mk (HZ.out k hlt)
      obtain ⟨z, hz⟩ : ∃ z, z = zs.getD k 0 := ⟨_, rfl⟩
      rw [← hz] at hcell HD HZ1
      have HC := Aside0.mk (refDigits_calls z HZ1.out.1 HZ1.out.2)
      have hzs := HS.out z
      clear hz
      generalize digS z = d at *
      by_cases h0 : k = 0
      · have hx0 : x = ⟨#[]⟩ := by rw [HX.out.1, h0]; rfl
        subst hx0
        have HE : Aside0 ((⟨#[]⟩ : ByteArray) ++ d = joinS (ds.take (k + 1))) := ⟨by rw [HD.out, if_pos h0]; apply data_ext'; rw [ByteArray.data_append, Array.toList_append]; rfl⟩
        have hj : (⟨#[]⟩ : ByteArray).size + d.size ≤ 9223372036854775807 := by show 0 + d.size ≤ _; omega
        have hj2 : ((⟨#[]⟩ : ByteArray) ++ d).size ≤ 22 * (k + 1) := by rw [ByteArray.size_append]; show 0 + d.size ≤ _; omega
        have hk0 : ¬ 0 < k := by omega
        clear HD h0
        go_wp2_with (go_at_call 35; refine (HC.out _).mono ?_; rintro e w1 ⟨rfl, hb⟩; replace hb := Aside0.mk hb)
        go_roundw
        case rel => exact ⟨k + 1, _, by go_num, rfl, by omega, hj2, ⟨HE.out, HX.out.2.trans (hb.out.below.mono HX.out.2.size)⟩⟩
        case measure => simp [intOf]; omega
      · have HE : Aside0 (x ++ (⟨#[44]⟩ : ByteArray) ++ d = joinS (ds.take (k + 1))) := ⟨by rw [HD.out, if_neg h0, HX.out.1]⟩
        have hj1 : x.size + 1 ≤ 9223372036854775807 := by omega
        have hj3 : (x ++ (⟨#[44]⟩ : ByteArray)).size = x.size + 1 := by rw [ByteArray.size_append]; rfl
        have hj : (x ++ (⟨#[44]⟩ : ByteArray)).size + d.size ≤ 9223372036854775807 := by omega
        have hj2 : (x ++ (⟨#[44]⟩ : ByteArray) ++ d).size ≤ 22 * (k + 1) := by rw [ByteArray.size_append]; omega
        have hk0 : 0 < k := by omega
        clear hj3 HD h0
        go_wp2_with (go_at_call 35; refine (HC.out _).mono ?_; rintro e w1 ⟨rfl, hb⟩; replace hb := Aside0.mk hb)
        go_roundw
        case rel => exact ⟨k + 1, _, by go_num, rfl, by omega, hj2, ⟨HE.out, HX.out.2.trans (hb.out.below.mono HX.out.2.size)⟩⟩
        case measure => simp [intOf]; omega
    · have hkn : k = n := by omega
      have HK : Aside0 (x = joinS ds) := ⟨by rw [HX.out.1, hkn, ← hml, List.take_length]⟩
      go_wp2
      go_ret
      exact ⟨ret_str HK.out, HX.out.2⟩

theorem dec2 (n : Nat) (h1 : ¬ n < 10) (h2 : n < 100) : digS (n : Int) = (⟨#[UInt8.ofNat (48 + n / 10), UInt8.ofNat (48 + n % 10)]⟩ : ByteArray) := by
  apply data_ext'
  rw [digS_in n (by omega), Lib.decDigits_two h1 h2]
theorem awake_join : joinS [digS 80, digS 24] = (⟨#[56, 48, 44, 50, 52]⟩ : ByteArray) := by
  rw [show (80 : Int) = ((80 : Nat) : Int) from rfl, show (24 : Int) = ((24 : Nat) : Int) from rfl, dec2 80 (by decide) (by decide), dec2 24 (by decide) (by decide)]
  kernel_rfl
theorem awake_head : headR ⟨#[49, 50, 120, 51]⟩ = (12, 2, 0) := by kernel_rfl
theorem awakeN_calls (w : World) (hT : NumT w) (hE : NumE w) : Calls Tryd.prog 19 #[] w fun e w' => e = .returned (.bool true) ∧ Below w.heap.size w w' := by
  have HH := head_calls ⟨#[49, 50, 120, 51]⟩ (by decide) w hE
  rw [awake_head] at HH
  replace HH := Aside0.mk HH
  have HD : Aside0 (∀ w1, Below w.heap.size w w1 → Calls Tryd.prog 20 #[.slice (some ⟨w1.heap.size, 0, none⟩) 2 2] (w1.alloc (.cells #[.int .i64 80, .int .i64 24] 3)) fun e w' => e = .returned (.string ⟨#[56, 48, 44, 50, 52]⟩) ∧ Below w1.heap.size w1 w') := ⟨fun w1 hb => by
    have h := digits_all (w1.alloc (.cells #[.int .i64 80, .int .i64 24] 3)) (some ⟨w1.heap.size, 0, none⟩) 2 2 [80, 24] (litI w1 3 [80, 24] (by simp)) (by omega) (hT.below (below_alloc hb _))
    rw [show ([80, 24] : List Int).map digS = [digS 80, digS 24] from rfl, awake_join] at h
    exact h.mono fun e w' ⟨h1, h2⟩ => ⟨h1, (below_alloc (Below.refl _ _) _).trans (h2.mono (by simp))⟩⟩
  clear hT hE
  go_enter Tryd.func19, Tryd.ntmps19
  go_wp2_with (first | (go_at_call 22; refine HH.out.mono ?_; rintro e w1 ⟨rfl, hb⟩; replace hb := Aside0.mk hb) | (go_at_call 20; refine (HD.out _ hb.out).mono ?_; rintro e w2 ⟨rfl, hb2⟩))
  go_ret
  exact ⟨rfl, hb.out.trans (hb2.mono hb.out.size)⟩
end Go.Proofs.YtlnipkhdaikdkaaDoor
