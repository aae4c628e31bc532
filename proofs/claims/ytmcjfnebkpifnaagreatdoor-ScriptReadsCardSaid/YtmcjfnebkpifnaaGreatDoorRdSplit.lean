/-
  Joined texts: RdText, RdBytes, RdSplit.
-/
import Derived.Test.YtmcjfnebkpifnaaGreatDoorRdAll
import Derived.Test.YtmcjfnebkpifnaaGreatDoorWqWalkS
import Derived.Lib.ConvBytes
import Derived.Lib.AtoiErrMem
import Derived.Test.YtmcjfnebkpifnaaGreatDoorNumPureS
import Derived.Test.YtmcjfnebkpifnaaGreatDoorShelf
import Derived.Test.YtmcjfnebkpifnaaGreatDoorScTop
import Derived.Test.YtmcjfnebkpifnaaGreatDoorPScriptReadsx4
import Derived.Lib.Split
import Derived.Lib.IndexBytes
import Derived.Lib.IndexLaws
/-
  script.text: the text of a word in quotes.
-/
namespace Go.Proofs.YtmcjfnebkpifnaaGreatDoor
open Go.RowKit Go.Proofs.YtmcjfnebkpifnaaGreatDoorW.PrintWords Go.Proofs.YtmcjfnebkpifnaaGreatDoorW.PrintLast Go.Proofs.YtmcjfnebkpifnaaGreatDoorW.PrintMore
set_option linter.unusedVariables false
set_option linter.unusedSimpArgs false
set_option maxRecDepth 100000

theorem unq_short (l : List UInt8) (h : l.length ≤ 1) : unq l = [] := by
  match l, h with
  | [], _ => rfl
  | [_], _ => rfl
theorem unq_two (L : List UInt8) (k : Nat) (h : k + 1 < L.length) : unq (L.drop k) = if L[k] = 92 then L[k + 1] :: unq (L.drop (k + 2)) else L[k] :: unq (L.drop (k + 1)) := by
  have e1 : L.drop k = L[k] :: L.drop (k + 1) := List.drop_eq_getElem_cons (by omega)
  have e2 : L.drop (k + 1) = L[k + 1] :: L.drop (k + 2) := List.drop_eq_getElem_cons h
  rw [e1, e2, unq]

set_option maxHeartbeats 8000000 in
theorem text_calls (w : World) (s : ByteArray) (hs : s.size ≤ 100000) :
    Calls Tryz.prog 47 #[.string s] w fun e w' => e = .returned (.tuple #[.string (bsOf (textU s.data.toList)), .bool true]) ∧ Below w.heap.size w w' := by
  have hcv := Lib.run_convert_string_bytes (P := Tryz.prog) w 9 47 5 s (u := .string) Tryz.underlying9 Tryz.underlying47 Tryz.underlying5
  have hB : ∀ j, j < s.size → (Lib.bytesWorld w 5 s).cell? ⟨w.heap.size, j, none⟩ = some (.int .u8 (s.data.toList.getD j 0).toNat) := fun j hj => Lib.bytesWorld_cell w 5 s j hj
  have hW := Lib.bytesWorld_below w 5 s
  obtain ⟨W1, hW1⟩ : ∃ W1, W1 = Lib.bytesWorld w 5 s := ⟨_, rfl⟩
  rw [← hW1] at hcv hB hW
  clear hW1
  generalize grownCap w s.size 0 5 = cap at hcv
  obtain ⟨L, hLL⟩ : ∃ L, L = s.data.toList := ⟨_, rfl⟩
  have hLn : L.length = s.size := by rw [hLL]; simp
  have hG : ∀ j (hj : j < L.length), L.getD j 0 = L[j] := fun j hj => by simp [List.getD, List.getElem?_eq_getElem hj]
  by_cases h2 : s.size < 2
  · have e : bsOf (textU s.data.toList) = s := by
      unfold textU
      rw [if_pos (.inl (by rw [← hLL, hLn]; exact h2)), bs_of]
    rw [e]
    clear hB hG hLL hLn
    go_enter Tryz.func47, Tryz.ntmps47
    go_wp2
    go_ret2
    exact ⟨rfl, hW⟩
  · have c0 := hB 0 (by omega)
    rw [← hLL] at hB c0 ⊢
    have hh : L.headD 0 = L.getD 0 0 := by cases L <;> rfl
    by_cases h34 : L.getD 0 0 = 34
    · have e : textU L = unq (L.drop 1) := by
        unfold textU
        rw [if_neg (by rw [hh, h34, hLn]; simp; omega)]
        cases L <;> rfl
      rw [e]
      have HB0 := Aside0.mk hB
      have HW := Aside0.mk hW
      have HLN := Aside0.mk hLn
      have HG := Aside0.mk hG
      have HU := Aside0.mk (unq_two L)
      have HS := Aside0.mk (unq_short)
      rw [h34] at c0
      have R0 : Aside0 ((Kd.int .u8).R 5 W1 W1.heap.size (fun _ => True) (.slice none 0 0) (nums [])) := ⟨Kd.R_nil _ _ _ _ _⟩
      have HD0 : Aside0 (unq (L.drop 1) = [] ++ unq (L.drop 1)) := ⟨rfl⟩
      obtain ⟨U, hU⟩ : ∃ U, U = unq (L.drop 1) := ⟨_, rfl⟩
      rw [← hU] at HD0 ⊢
      have HD1 : Aside0 (U = [] ++ unq (L.drop 1)) := ⟨by rw [HD0.out, hU]⟩
      have h34d : (((34 : Int)) != 34) = false := by decide
      clear hU HD0
      clear hB hW hLn hG hLL hh h34 e
      go_enter Tryz.func47, Tryz.ntmps47
      go_wp2
      go_loopw [5, 6] (fun v i wr => ∃ k : Nat, 1 ≤ k ∧ k ≤ s.size ∧ i = .int .i64 k ∧ ∃ A' n' c' out, v = .slice A' n' c' ∧ (Kd.int .u8).R 5 wr W1.heap.size (fun _ => True) v (nums out) ∧ Below W1.heap.size W1 wr ∧ Aside0 (U = out ++ unq (L.drop k) ∧ out.length ≤ k)) (fun _ i _ => s.size - (intOf i).toNat)
      case atStart => exact ⟨1, by omega, by omega, rfl, _, _, _, [], rfl, R0.out, Below.refl _ _, HD1.out, by simp⟩
      case round =>
        obtain ⟨k, hk1, hk, rfl, A', n', c', out, rfl, hR2, hB2, HI⟩ := hrel
        have HR2 := Aside0.mk hR2
        have HB2 := Aside0.mk hB2
        have hsz := hB2.size
        have hlen : (nums out).length ≤ k := by rw [nums_len]; exact HI.out.2
        clear hR2 hB2
        by_cases hlt : k + 1 < s.size
        · have hkl : k + 1 < L.length := by rw [HLN.out]; exact hlt
          have c1 := pw_cell_below HB2.out (HB0.out k (by omega))
          have c2 := pw_cell_below HB2.out (HB0.out (k + 1) hlt)
          rw [HG.out k (by omega)] at c1
          rw [HG.out (k + 1) hkl] at c2
          have hun := HU.out k hkl
          generalize L[k] = c at c1 hun
          generalize L[k + 1] = d at c2 hun
          have hc256 := UInt8.toNat_lt c
          have hd256 := UInt8.toNat_lt d
          have hI1 := HI.out.1
          rw [hun] at hI1
          by_cases h92 : c = 92
          · rw [if_pos h92] at hI1
            have h92b : ((c.toNat : Int) == 92) = true := by rw [h92]; rfl
            have h92c : (c.toNat : Int) = 92 := by rw [h92]; rfl
            have HN : Aside0 (U = (out ++ [d]) ++ unq (L.drop (k + 2)) ∧ (out ++ [d]).length ≤ k + 2) := ⟨by rw [hI1]; simp, by have := HI.out.2; rw [List.length_append, List.length_singleton]; omega⟩
            have HE := Aside0.mk (nums_add out d)
            clear hun hI1 HI h92
            go_wp2_with (at_builtin; refine Kd.R_append (Kd.int .u8) (w0 := W1) W1.heap.size rfl (.tmp 33) (.tmp 38) 47 5 (.int .u8 0) 1 rfl Tryz.underlying47 infoQ rfl (by decide) (by decide) (.slice A' n' c') (nums out) (d.toNat : Int) [.int .u8 (d.toNat : Int)] (fun _ => True) (fun _ => False) rfl rfl rfl (fun _ h => h.elim) (fun _ _ => trivial) HR2.out HB2.out hsz (by omega) ?_)
            intro v1 w5 ho hb5 _ _
            obtain ⟨A5, n5, c5, rfl⟩ := sl_of_R ho
            rw [HE.out] at ho
            have HR5 := Aside0.mk ho
            have HB5 := Aside0.mk hb5
            clear ho hb5
            go_wp2
            go_roundw
            case rel => exact ⟨k + 2, by omega, by omega, by go_num, _, _, _, _, rfl, HR5.out, HB5.out, HN⟩
            case measure => simp [intOf]; omega
          · rw [if_neg h92] at hI1
            have h92c : ¬ (c.toNat : Int) = 92 := fun h => h92 ((by apply UInt8.toNat_inj.1; rw [show (92 : UInt8).toNat = 92 from rfl]; omega))
            have h92b : ((c.toNat : Int) == 92) = false := beq_eq_false_iff_ne.2 h92c
            have HN : Aside0 (U = (out ++ [c]) ++ unq (L.drop (k + 1)) ∧ (out ++ [c]).length ≤ k + 1) := ⟨by rw [hI1]; simp, by have := HI.out.2; rw [List.length_append, List.length_singleton]; omega⟩
            have HE := Aside0.mk (nums_add out c)
            clear hun hI1 HI h92
            go_wp2_with (at_builtin; refine Kd.R_append (Kd.int .u8) (w0 := W1) W1.heap.size rfl (.tmp 33) (.tmp 38) 47 5 (.int .u8 0) 1 rfl Tryz.underlying47 infoQ rfl (by decide) (by decide) (.slice A' n' c') (nums out) (c.toNat : Int) [.int .u8 (c.toNat : Int)] (fun _ => True) (fun _ => False) rfl rfl rfl (fun _ h => h.elim) (fun _ _ => trivial) HR2.out HB2.out hsz (by omega) ?_)
            intro v1 w5 ho hb5 _ _
            obtain ⟨A5, n5, c5, rfl⟩ := sl_of_R ho
            rw [HE.out] at ho
            have HR5 := Aside0.mk ho
            have HB5 := Aside0.mk hb5
            clear ho hb5
            go_wp2
            go_roundw
            case rel => exact ⟨k + 1, by omega, by omega, by go_num, _, _, _, _, rfl, HR5.out, HB5.out, HN⟩
            case measure => simp [intOf]; omega
        · have hun := HS.out (L.drop k) (by rw [List.length_drop, HLN.out]; omega)
          have HF : Aside0 (strOfNums (nums out) = bsOf U) := ⟨by
            rw [HI.out.1, hun, List.append_nil, nums_of]
            rfl⟩
          have hcs : (convert 47 9 (.slice A' n' c')).run Tryz.prog wr = .ok (.string (strOfNums (nums out))) wr := own_string Tryz.underlying47 Tryz.underlying5 Tryz.underlying9 (Kd.own_of_R HR2.out)
          rw [HF.out] at hcs
          clear hun HI hlen
          go_wp2
          go_ret2
          exact ⟨rfl, HW.out.trans (HB2.out.mono HW.out.size)⟩
    · have e : bsOf (textU L) = s := by
        unfold textU
        rw [if_pos (.inr (by rw [hh]; exact h34)), hLL, bs_of]
      rw [e]
      generalize L.getD 0 0 = c at c0 h34
      have hc256 := UInt8.toNat_lt c
      have h34c : ¬ (c.toNat : Int) = 34 := fun h => h34 ((by apply UInt8.toNat_inj.1; rw [show (34 : UInt8).toNat = 34 from rfl]; omega))
      have h34b : ((c.toNat : Int) == 34) = false := beq_eq_false_iff_ne.2 h34c
      have h34d : ((c.toNat : Int) != 34) = true := bne_iff_ne.2 h34c
      clear hB hG hLL hLn h34 hh e
      go_enter Tryz.func47, Tryz.ntmps47
      go_wp2
      go_ret2
      exact ⟨rfl, hW⟩
end Go.Proofs.YtmcjfnebkpifnaaGreatDoor

/-
  script.bytes: the bytes of digits of base 16.
-/
namespace Go.Proofs.YtmcjfnebkpifnaaGreatDoor
open Go.RowKit Go.Proofs.YtmcjfnebkpifnaaGreatDoorW.PrintWords Go.Proofs.YtmcjfnebkpifnaaGreatDoorW.PrintLast Go.Proofs.YtmcjfnebkpifnaaGreatDoorW.PrintMore
set_option linter.unusedVariables false
set_option linter.unusedSimpArgs false
set_option maxRecDepth 100000

theorem hexV_fin : ∀ i : Fin 256, hexV ((UInt8.ofNat i.val).toNat : Int) = (match hexD (UInt8.ofNat i.val) with | some x => (x : Int) | none => -1) ∧ ((hexD (UInt8.ofNat i.val)).all (fun x => decide (x < 16))) = true := by decide +kernel
theorem hexV_is (c : UInt8) : hexV (c.toNat : Int) = (match hexD c with | some x => (x : Int) | none => -1) ∧ (∀ x, hexD c = some x → x < 16) := by
  have h := hexV_fin ⟨c.toNat, c.toNat_lt⟩
  rw [show UInt8.ofNat (⟨c.toNat, c.toNat_lt⟩ : Fin 256).val = c by simp] at h
  refine ⟨h.1, fun x hx => ?_⟩
  have h2 := h.2
  rw [hx] at h2
  simpa using h2
theorem hexRead2 (a b : UInt8) : hexReadB (bsOf [a, b]) = (hexP2 a b).map (fun x => (x.toNat : Int)) := by
  obtain ⟨ha, ha2⟩ := hexV_is a
  obtain ⟨hb, hb2⟩ := hexV_is b
  unfold hexReadB hexP2
  rw [bs_list]
  simp only [parseHexB]
  rw [ha, hb]
  cases h1 : hexD a with
  | none => simp
  | some x =>
    have hx := ha2 x h1
    simp only
    rw [if_neg (by omega), if_neg (by omega)]
    cases h2 : hexD b with
    | none => simp
    | some y =>
      have hy := hb2 y h2
      simp only
      rw [if_neg (by omega), if_neg (by omega)]
      simp only [Option.map_some]
      rw [show (UInt8.ofNat (16 * x + y)).toNat = (16 * x + y) % 256 by simp]
      congr 1
      omega
theorem hexU_two (L : List UInt8) (k : Nat) (h : k + 1 < L.length) : hexU (L.drop k) = match hexP2 L[k] L[k + 1] with
    | none => none
    | some x => (hexU (L.drop (k + 2))).map (x :: ·) := by
  have e1 : L.drop k = L[k] :: L.drop (k + 1) := List.drop_eq_getElem_cons (by omega)
  have e2 : L.drop (k + 1) = L[k + 1] :: L.drop (k + 2) := List.drop_eq_getElem_cons h
  rw [e1, e2, hexU]
  rfl
theorem hexU_short (l : List UInt8) (h : l.length ≤ 1) : hexU l = some [] := by
  match l, h with
  | [], _ => rfl
  | [_], _ => rfl
theorem ext_two (s : ByteArray) (k : Nat) (h : k + 1 < s.data.toList.length) : s.extract k (k + 2) = bsOf [s.data.toList[k], s.data.toList[k + 1]] := by
  apply bs_ext
  have e1 : s.data.toList.drop k = s.data.toList[k] :: s.data.toList.drop (k + 1) := List.drop_eq_getElem_cons (by omega)
  have e2 : s.data.toList.drop (k + 1) = s.data.toList[k + 1] :: s.data.toList.drop (k + 2) := List.drop_eq_getElem_cons h
  rw [bs_list, ByteArray.data_extract, Array.toList_extract, List.extract_eq_take_drop, e1, e2, show k + 2 - k = 2 by omega]
  rfl
theorem wrap_u8 (x : UInt8) : IntKind.u8.wrap (x.toNat : Int) = (x.toNat : Int) := by
  have := x.toNat_lt
  rw [show IntKind.u8.wrap (x.toNat : Int) = (x.toNat : Int) % 256 by simp [IntKind.wrap, IntKind.bits, IntKind.signed]]
  omega

set_option maxHeartbeats 8000000 in
theorem sbytes0_calls (w : World) (s : ByteArray) (hs : s.size ≤ 100000) (hE : NumE w) :
    Calls Tryz.prog 48 #[.string s] w fun e w' => e = .returned (.tuple #[.string (bsOf ((bytesU s.data.toList).getD [])), .bool (bytesU s.data.toList).isSome]) ∧ Below w.heap.size w w' := by
  obtain ⟨L, hLL⟩ : ∃ L, L = s.data.toList := ⟨_, rfl⟩
  have hLn : L.length = s.size := by rw [hLL]; simp
  by_cases hno : L = [110, 111, 110, 101]
  · have e2 : (s.toList == ([110, 111, 110, 101] : List UInt8)) = true := by rw [ByteArray.toList_eq, ← hLL, hno]; rfl
    have e3 : s.toList = ([110, 111, 110, 101] : List UInt8) := by rw [ByteArray.toList_eq, ← hLL, hno]
    have er : bytesU s.data.toList = some [] := by rw [← hLL, hno]; rfl
    rw [er]
    clear er hno hLn hLL hE
    go_enter Tryz.func48, Tryz.ntmps48
    go_wp2
    go_ret2
    exact ⟨rfl, Below.refl _ _⟩
  · have e3 : ¬ s.toList = ([110, 111, 110, 101] : List UInt8) := by rw [ByteArray.toList_eq, ← hLL]; exact hno
    have e2 : (s.toList == ([110, 111, 110, 101] : List UInt8)) = false := by simpa using e3
    have er : bytesU L = hexU L := by unfold bytesU; rw [if_neg hno]
    rw [← hLL, er]
    have HE := Aside0.mk hE
    have HLN := Aside0.mk hLn
    have HU := Aside0.mk (hexU_two L)
    have HS := Aside0.mk (hexU_short)
    have HX : Aside0 (∀ k (h : k + 1 < L.length), s.extract k (k + 2) = bsOf [L[k], L[k + 1]]) := ⟨by subst hLL; exact ext_two s⟩
    have R0 : Aside0 ((Kd.int .u8).R 5 w w.heap.size (fun _ => True) (.slice none 0 0) (nums [])) := ⟨Kd.R_nil _ _ _ _ _⟩
    obtain ⟨U, hU⟩ : ∃ U, U = hexU L := ⟨_, rfl⟩
    rw [← hU]
    have HD1 : Aside0 (U = (hexU (L.drop 0)).map (fun r => [] ++ r)) := ⟨by rw [hU, List.drop_zero]; cases hexU L <;> rfl⟩
    clear hU er hno hLn hLL hE e3
    go_enter Tryz.func48, Tryz.ntmps48
    go_wp2
    go_loopw [4, 5] (fun v i wr => ∃ k : Nat, k ≤ s.size + 1 ∧ i = .int .i64 k ∧ ∃ A' n' c' out, v = .slice A' n' c' ∧ (Kd.int .u8).R 5 wr w.heap.size (fun _ => True) v (nums out) ∧ Below w.heap.size w wr ∧ Aside0 (U = (hexU (L.drop k)).map (fun r => out ++ r) ∧ out.length ≤ k)) (fun _ i _ => s.size + 1 - (intOf i).toNat)
    case atStart => exact ⟨0, by omega, rfl, _, _, _, [], rfl, R0.out, Below.refl _ _, ⟨HD1.out, by simp⟩⟩
    case round =>
      obtain ⟨k, hk, rfl, A', n', c', out, rfl, hR2, hB2, HI⟩ := hrel
      have HR2 := Aside0.mk hR2
      have HB2 := Aside0.mk hB2
      have hsz := hB2.size
      have hlen : (nums out).length ≤ k := by rw [nums_len]; exact HI.out.2
      clear hR2 hB2
      by_cases hlt : k + 1 < s.size
      · have hkl : k + 1 < L.length := by rw [HLN.out]; exact hlt
        have hun := HU.out k hkl
        have hx2 := HX.out k hkl
        generalize L[k] = c at hx2 hun
        generalize L[k + 1] = d at hx2 hun
        have hI1 := HI.out.1
        rw [hun] at hI1
        have hrd := hexRead2 c d
        have hz2 : (bsOf [c, d]).size = 2 := rfl
        cases hp : hexP2 c d with
        | none =>
          rw [hp] at hrd hI1
          have hI1 : U = none := hI1
          have HP := Aside0.mk (fun (W : World) (k1 : NumE W) => puint8_err (bsOf [c, d]) (by rw [hz2]; decide) (by rw [hz2]; decide) hrd W k1)
          rw [← hx2] at HP
          clear hrd hz2 hun hx2 hp HI
          subst hI1
          go_wp2_with fail
          with_reducible refine (HP.out _ (HE.out.below HB2.out)).mono ?_
          rintro e w1 ⟨x, N, rfl, hb⟩
          have HB3 := Aside0.mk (HB2.out.trans (hb.mono hsz))
          clear hb
          go_wp2
          go_ret2
          exact ⟨rfl, HB3.out⟩
        | some x =>
          rw [hp] at hrd hI1
          have hI1 : U = ((hexU (L.drop (k + 2))).map (x :: ·)).map (fun r => out ++ r) := hI1
          have HN : Aside0 (U = (hexU (L.drop (k + 2))).map (fun r => (out ++ [x]) ++ r) ∧ (out ++ [x]).length ≤ k + 2) := ⟨by
            rw [hI1, Option.map_map]
            congr 1
            funext r
            simp, by have := HI.out.2; rw [List.length_append, List.length_singleton]; omega⟩
          have HP := Aside0.mk (fun (W : World) => puint8_ok (bsOf [c, d]) (by rw [hz2]; decide) (by rw [hz2]; decide) (x.toNat : Int) hrd W)
          rw [← hx2] at HP
          have HEE := Aside0.mk (nums_add out x)
          have hwx := wrap_u8 x
          have hx256 := UInt8.toNat_lt x
          clear hrd hz2 hun hx2 hp HI hI1
          go_wp2_with fail
          with_reducible refine (HP.out _).mono ?_
          rintro e w1 ⟨rfl, hb⟩
          have HB3 := Aside0.mk (HB2.out.trans (hb.mono hsz))
          have HR3 := Aside0.mk (Kd.R_below HR2.out hb)
          have hsz3 := HB3.out.size
          clear hb
          go_wp2_with (at_builtin; refine Kd.R_append (Kd.int .u8) (w0 := w) w.heap.size rfl (.tmp 28) (.tmp 31) 47 5 (.int .u8 0) 1 rfl Tryz.underlying47 infoQ rfl (by decide) (by decide) (.slice A' n' c') (nums out) (x.toNat : Int) [.int .u8 (x.toNat : Int)] (fun _ => True) (fun _ => False) rfl rfl rfl (fun _ h => h.elim) (fun _ _ => trivial) HR3.out HB3.out hsz3 (by omega) ?_)
          intro v1 w5 ho hb5 _ _
          obtain ⟨A5, n5, c5, rfl⟩ := sl_of_R ho
          rw [HEE.out] at ho
          have HR5 := Aside0.mk ho
          have HB5 := Aside0.mk hb5
          clear ho hb5
          go_wp2
          go_roundw
          case rel => exact ⟨k + 2, by omega, by go_num, _, _, _, _, rfl, HR5.out, HB5.out, HN⟩
          case measure => simp [intOf]; omega
      · have hun := HS.out (L.drop k) (by rw [List.length_drop, HLN.out]; omega)
        have hI1 := HI.out.1
        rw [hun] at hI1
        have hI1 : U = some (out ++ []) := hI1
        rw [List.append_nil] at hI1
        have HF : Aside0 (strOfNums (nums out) = bsOf out) := ⟨nums_of out⟩
        have hcs : (convert 47 9 (.slice A' n' c')).run Tryz.prog wr = .ok (.string (strOfNums (nums out))) wr := own_string Tryz.underlying47 Tryz.underlying5 Tryz.underlying9 (Kd.own_of_R HR2.out)
        rw [HF.out] at hcs
        subst hI1
        clear hun HI hlen HF
        go_wp2
        go_ret2
        exact ⟨rfl, HB2.out⟩
end Go.Proofs.YtmcjfnebkpifnaaGreatDoor

/- Printed texts of this seat, cut to what is used. -/
namespace Go.Proofs.YtmcjfnebkpifnaaGreatDoor
open Go.RowKit Go.Proofs.YtmcjfnebkpifnaaGreatDoorW.PrintWords Go.Proofs.YtmcjfnebkpifnaaGreatDoorW.PrintLast Go.Proofs.YtmcjfnebkpifnaaGreatDoorW.PrintMore Go.Proofs.YtmcjfnebkpifnaaGreatDoor.PScriptReads
set_option linter.unusedVariables false
set_option linter.unusedSimpArgs false

theorem idx_space (s : ByteArray) : Lib.indexB s ⟨#[32]⟩ = Lib.indexByte s.data.toList 32 := by
  have h := Lib.one s ⟨#[32]⟩ rfl
  rw [h]
  rfl
theorem indexByte_word (l : List UInt8) : Lib.indexByte l 32 = if restOf l = [] then -1 else ((wordOf l).length : Int) := by
  induction l with
  | nil => rfl
  | cons b l ih =>
    unfold Lib.indexByte
    by_cases h : b = 32
    · subst h
      rfl
    · have e1 : restOf (b :: l) = restOf l := by
        unfold restOf
        rw [List.dropWhile_cons, if_pos (by simpa using h)]
      have e2 : wordOf (b :: l) = b :: wordOf l := by
        unfold wordOf
        rw [List.takeWhile_cons, if_pos (by simpa using h)]
      rw [if_neg (by simpa using h), ih, e1, e2]
      by_cases hr : restOf l = []
      · rw [if_pos hr, if_pos hr]; rfl
      · rw [if_neg hr, if_neg hr, if_neg (by simp), List.length_cons, Int.natCast_add]
        rfl
theorem word_rest (l : List UInt8) : wordOf l ++ restOf l = l := List.takeWhile_append_dropWhile
def splitP (l : List UInt8) : List (List UInt8) := wordOf l :: (match restOf l with
  | [] => []
  | _ :: r => wordOf r :: (match restOf r with
    | [] => []
    | _ :: t => [t]))
theorem split_none (s : ByteArray) (k : Nat) (h : restOf s.data.toList = []) : Lib.splitB ⟨#[32]⟩ 0 k s = [bsOf (wordOf s.data.toList)] := by
  rw [Lib.splitB_miss _ _ _ _ (by rw [idx_space, indexByte_word, if_pos h])]
  have hw := word_rest s.data.toList
  rw [h, List.append_nil] at hw
  rw [hw, bs_of]
theorem split_some (s : ByteArray) (k : Nat) (c : UInt8) (r : List UInt8) (h : restOf s.data.toList = c :: r) : Lib.splitB ⟨#[32]⟩ 0 (k + 1) s = bsOf (wordOf s.data.toList) :: Lib.splitB ⟨#[32]⟩ 0 k (bsOf r) := by
  have hw := word_rest s.data.toList
  rw [h] at hw
  have hl : s.size = s.data.toList.length := by simp
  rw [Lib.splitB_hit _ _ _ _ (wordOf s.data.toList).length (by rw [idx_space, indexByte_word, if_neg (by rw [h]; simp)])]
  generalize wordOf s.data.toList = Wd at *
  have e1 : s.extract 0 ((Wd).length + 0) = bsOf (Wd) := by
    apply bs_ext
    rw [bs_list, ByteArray.data_extract, Array.toList_extract, List.extract_eq_take_drop]
    conv => lhs; rw [← hw]
    simp
  have e2 : s.extract ((Wd).length + (⟨#[32]⟩ : ByteArray).size) s.size = bsOf r := by
    apply bs_ext
    rw [bs_list, ByteArray.data_extract, Array.toList_extract, List.extract_eq_take_drop, hl]
    have e3 : s.data.toList.drop ((Wd).length + (⟨#[32]⟩ : ByteArray).size) = r := by
      conv => lhs; rw [← hw]
      show (Wd ++ c :: r).drop ((Wd).length + 1) = r
      rw [List.drop_append]
      simp
    rw [e3]
    have e4 : s.data.toList.length = (Wd).length + (r.length + 1) := by
      conv => lhs; rw [← hw]
      simp
    exact List.take_of_length_le (by rw [e4]; show r.length ≤ _ + (r.length + 1) - (_ + 1); omega)
  rw [e1, e2]
theorem splitP_eq (s : ByteArray) : Lib.splitB ⟨#[32]⟩ 0 (min 3 (s.size + 1) - 1) s = (splitP s.data.toList).map bsOf := by
  have hl : s.data.toList.length = s.size := by simp
  have hw := word_rest s.data.toList
  unfold splitP
  cases h : restOf s.data.toList with
  | nil => rw [split_none s _ h]; rfl
  | cons c r =>
    rw [h] at hw
    have h1 : s.size = (wordOf s.data.toList).length + (r.length + 1) := by
      rw [← hl]
      conv => lhs; rw [← hw]
      simp
    obtain ⟨k, hk⟩ : ∃ k, min 3 (s.size + 1) - 1 = k + 1 := ⟨min 3 (s.size + 1) - 2, by omega⟩
    rw [hk, split_some s k c r h]
    simp only
    cases h2 : restOf r with
    | nil =>
      rw [split_none (bsOf r) _ (by rw [bs_list]; exact h2), bs_list]
      rfl
    | cons d t =>
      have hr := word_rest r
      rw [h2] at hr
      have h3 : r.length = (wordOf r).length + (t.length + 1) := by
        conv => lhs; rw [← hr]
        simp
      have hk2 : k = 0 + 1 := by omega
      rw [hk2, split_some (bsOf r) 0 d t (by rw [bs_list]; exact h2), bs_list]
      rfl
/-- The library's variable holds a number. -/
structure MaxT (w : World) : Prop where
  ml : ∃ m, w.cell? ⟨1, 0, none⟩ = some (.int .i64 m)
theorem MaxT.below {w w' : World} (h : MaxT w) (hb : Below w.heap.size w w') : MaxT w' := by
  obtain ⟨m, hm⟩ := h.ml
  exact ⟨m, cell_below hm hb⟩
theorem splitn_calls (s : ByteArray) (w : World) (hs : s.size ≤ 1000000) (hM : MaxT w) :
    Calls Tryz.prog 44 #[.string s, .string ⟨#[32]⟩, .int .i64 3] w fun e w' => ∃ c, e = .returned (.slice (some ⟨w.heap.size, 0, none⟩) (splitP s.data.toList).length c) ∧ (splitP s.data.toList).length ≤ c ∧
      (∀ i, i < (splitP s.data.toList).length → w'.cell? ⟨w.heap.size, i, none⟩ = some (.string (bsOf ((splitP s.data.toList).getD i [])))) ∧ Below w.heap.size w w' := by
  obtain ⟨m, hm⟩ := hM.ml
  refine (Tryz.strings_SplitN s ⟨#[32]⟩ 3 m w (by omega) hm (by decide) (by decide) (by decide)).mono ?_
  rintro e w' ⟨rfl, rfl⟩
  rw [splitP_eq]
  refine ⟨_, by rw [List.length_map], ?_, fun i hi => ?_, below_alloc (Below.refl _ _) _⟩
  · have hl : s.data.toList.length = s.size := by simp
    have hw := word_rest s.data.toList
    unfold splitP
    cases h : restOf s.data.toList with
    | nil => simp; omega
    | cons c r =>
      rw [h] at hw
      have h1 : s.size = (wordOf s.data.toList).length + (r.length + 1) := by
        rw [← hl]
        conv => lhs; rw [← hw]
        simp
      simp only
      cases h2 : restOf r with
      | nil => simp; omega
      | cons d t =>
        have hr := word_rest r
        rw [h2] at hr
        have h3 : r.length = (wordOf r).length + (t.length + 1) := by
          conv => lhs; rw [← hr]
          simp
        simp; omega
  · rw [Lib.cell_of_heap (heap_alloc_new w _)]
    have hi2 : i < ((splitP s.data.toList).map bsOf).length := by rw [List.length_map]; exact hi
    simp only [Lib.cellsOf]
    rw [List.getElem?_toArray, List.getElem?_append_left (by rw [List.length_map]; exact hi2), List.getElem?_map, List.getElem?_map, List.getElem?_eq_getElem hi, List.getD_eq_getElem?_getD, List.getElem?_eq_getElem hi]
    rfl

def kindS : List ByteArray := kindL.map bsOf
def kI (p : List UInt8) : Int := if kidx p < 6 then (kidx p : Int) else -1
theorem idx_loop (xs : List (List UInt8)) (p : List UInt8) (hx : xs.length ≤ 1000) : ∀ (d j : Nat), j + d = xs.length → slices_Index_string_string.l0 (d + 1) (xs.map bsOf) (bsOf p) ((xs.map bsOf).length : Int) (j : Int) = some (if (xs.drop j).findIdx (fun x => x == p) < d then ((j + (xs.drop j).findIdx (fun x => x == p) : Nat) : Int) else -1) := by
  intro d
  induction d with
  | zero =>
    intro j hj
    rw [slices_Index_string_string.l0, if_neg (by rw [List.length_map]; omega), if_neg (by omega)]
  | succ d ih =>
    intro j hj
    have hjl : j < xs.length := by omega
    have e : (rdOf ByteArray.empty (xs.map bsOf) (j : Int)).toList = xs[j] := by
      unfold rdOf
      rw [show ((j : Int)).toNat = j by omega, List.getD_eq_getElem?_getD, List.getElem?_map, List.getElem?_eq_getElem hjl]
      show (bsOf xs[j]).toList = _
      rw [ByteArray.toList_eq, bs_list]
    have hw : wrap64 ((j : Int) + 1) = ((j + 1 : Nat) : Int) := by unfold wrap64; omega
    rw [slices_Index_string_string.l0, if_pos (by rw [List.length_map]; omega), if_pos (by omega), if_pos (by rw [List.length_map]; omega), e, List.drop_eq_getElem_cons hjl, List.findIdx_cons, ByteArray.toList_eq, bs_list, hw, ih (j + 1) (by omega)]
    by_cases h : p = xs[j]
    · rw [if_pos h, show (xs[j] == p) = true from beq_iff_eq.2 h.symm]
      simp
    · rw [if_neg h, show (xs[j] == p) = false from beq_eq_false_iff_ne.2 (fun hh => h hh.symm)]
      simp only [cond_false]
      by_cases h2 : (xs.drop (j + 1)).findIdx (fun x => x == p) < d
      · rw [if_pos h2, if_pos (by omega)]
        congr 2
        omega
      · rw [if_neg h2, if_neg (by omega)]
theorem idx_f (p : List UInt8) : slices_Index_string_string.f 7 kindS (bsOf p) = some (kI p) := by
  have h := idx_loop kindL p (by decide) 6 0 rfl
  unfold slices_Index_string_string.f
  show slices_Index_string_string.l0 (6 + 1) (kindL.map bsOf) (bsOf p) ((kindL.map bsOf).length : Int) ((0 : Nat) : Int) = _
  rw [h]
  unfold kI kidx
  rw [List.drop_zero, Nat.zero_add]
theorem sidx_calls (W : World) (A : Option Addr) (c : Nat) (p : List UInt8) (hr : Kd.string.C W A 6 kindS) (hc : 6 ≤ c) :
    Calls Tryz.prog 45 #[.slice A 6 c, .string (bsOf p)] W fun e w' => e = .returned (.int .i64 (kI p)) ∧ Below W.heap.size W w' :=
  (slices_Index_string_string.calls 7 A c kindS (bsOf p) (kI p) W hr hc (idx_f p)).mono fun e w' ⟨q1, q2⟩ => ⟨q1, q2.below⟩
theorem kinds_calls (W : World) : Calls Tryz.prog 34 #[] W fun e w' => ∃ A c, e = .returned (.slice (some A) 6 c) ∧ 6 ≤ c ∧ Kd.string.C w' (some A) 6 kindS ∧ Below W.heap.size W w' :=
  (script_kinds.calls _ W rfl).mono fun e w' (h : ∃ v0_ : Value, e = .returned v0_ ∧ _ ∧ _) => by
    obtain ⟨v, h1, h2, h3⟩ := h
    obtain ⟨A2, n2, c2, rfl⟩ := sl_of_R h2
    obtain ⟨q1, q2, q3⟩ := Kd.R_reads' h2
    obtain rfl : n2 = 6 := q1
    obtain ⟨ad, hA, _⟩ := str_cell q3 0 (by decide)
    subst hA
    exact ⟨ad, c2, h1, q2, q3, h3⟩
end Go.Proofs.YtmcjfnebkpifnaaGreatDoor
