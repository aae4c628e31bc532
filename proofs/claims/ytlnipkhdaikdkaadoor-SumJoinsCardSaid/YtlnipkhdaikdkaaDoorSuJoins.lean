/-
  SumJoins: the walk.
-/
import Derived.Test.YtlnipkhdaikdkaaDoorSuPut
namespace Go.Proofs.YtlnipkhdaikdkaaDoor
open Go.RowKit Go.Proofs.YtlnipkhdaikdkaaDoorW.PrintWords Go.Proofs.YtlnipkhdaikdkaaDoorW.PrintLast Go.Proofs.YtlnipkhdaikdkaaDoorW.PrintMore
set_option linter.unusedVariables false

theorem sumJoins_many (c : Int) (w : World) (A : Option Addr) (n cap : Nat) (hn : 20 < n) (hT : NumT w) :
    Calls Tryd.prog 4 #[.int .u16 c, .slice A n cap] w fun e w' => e = .returned (.bool true) ∧ Below w.heap.size w w' := by
  have h20 : decide ((n : Int) > 20) = true := by simp; omega
  have HA := Aside0.mk (awake_calls w hT)
  clear hT hn
  go_enter Tryd.func4, Tryd.ntmps4
  go_wp2_with (go_at_call 13; refine HA.out.mono ?_; rintro e w' ⟨rfl, hb⟩)
  go_ret
  exact ⟨rfl, hb⟩

/-- The texts, one behind the other. -/
def catS : List ByteArray → ByteArray
  | [] => ⟨#[]⟩
  | s :: r => s ++ catS r
theorem cat_snoc : ∀ (l : List ByteArray) (s : ByteArray), catS (l ++ [s]) = catS l ++ s
  | [], s => by show s ++ (⟨#[]⟩ : ByteArray) = (⟨#[]⟩ : ByteArray) ++ s; apply ByteArray.ext; simp
  | x :: r, s => by show x ++ catS (r ++ [s]) = (x ++ catS r) ++ s; rw [cat_snoc r s, ByteArray.append_assoc]
theorem cat_data : ∀ (l : List ByteArray), (catS l).data.toList = allB l
  | [] => rfl
  | x :: r => by
    show (x ++ catS r).data.toList = _
    rw [ByteArray.data_append, Array.toList_append, cat_data r]
    rfl
theorem cat_take (l : List ByteArray) (k : Nat) (hk : k < l.length) : catS (l.take (k + 1)) = catS (l.take k) ++ l.getD k ByteArray.empty := by
  rw [List.take_add_one, List.getElem?_eq_getElem hk, List.getD_eq_getElem?_getD, List.getElem?_eq_getElem hk]
  exact cat_snoc _ _
set_option maxHeartbeats 4000000 in
theorem sumJoins_few (c : Int) (h0 : 0 ≤ c) (h1 : c < 65536) (w : World) (A : Option Addr) (cap : Nat) (l : List ByteArray) (hr : Kd.string.C w A l.length l) (hc : l.length ≤ cap) (hn : l.length ≤ 20) (hT : NumT w) :
    Calls Tryd.prog 4 #[.int .u16 c, .slice A l.length cap] w fun e w' => e = .returned (.bool true) ∧ Below w.heap.size w w' := by
  have h20 : decide ((l.length : Int) > 20) = false := by simp; omega
  have HR := Aside0.mk hr
  have HCap := Aside0.mk hc
  have HT := Aside0.mk hT
  have HC := Aside0.mk (And.intro h0 h1)
  have HTK := Aside0.mk (cat_take l)
  clear hr hT h0 h1 hc
  obtain ⟨n, hnl⟩ : ∃ n, n = l.length := ⟨_, rfl⟩
  rw [← hnl] at hn h20 HR HCap HTK ⊢
  have HNL := Aside0.mk hnl
  clear hnl
  go_enter Tryd.func4, Tryd.ntmps4
  go_wp2
  go_loop [5, 6] (fun v i => ∃ (k : Nat) (x : ByteArray), i = .int .i64 k ∧ v = .string x ∧ k ≤ n ∧ x.size ≤ 200 * k ∧ Aside0 (x = catS (l.take k) ∧ ∀ y ∈ l.take k, y.size ≤ 200)) (fun _ i => n - (intOf i).toNat)
  case atStart => exact ⟨0, ⟨#[]⟩, rfl, rfl, Nat.zero_le _, by decide, ⟨rfl, by simp⟩⟩
  case round =>
    obtain ⟨k, x, rfl, rfl, hk, hxs, HX⟩ := hrel
    by_cases hlt : k < n
    · obtain ⟨ad, rfl, hcell⟩ := str_cell HR.out k hlt
      have HS := Aside0.mk (HTK.out k hlt)
      have HM : Aside0 (∀ y ∈ l.take (k + 1), y ∈ l.take k ∨ y = l.getD k ByteArray.empty) := ⟨fun y hy => by
        rw [List.take_add_one, List.mem_append] at hy
        rcases hy with hy | hy
        · exact .inl hy
        · right
          rw [List.getD_eq_getElem?_getD]
          cases h : l[k]? with
          | none => rw [h] at hy; simp at hy
          | some z => rw [h] at hy; simp at hy; rw [hy]; rfl⟩
      obtain ⟨y, hy⟩ : ∃ y, y = l.getD k ByteArray.empty := ⟨_, rfl⟩
      rw [← hy] at hcell HS HM
      clear hy
      by_cases hbig : 200 < y.size
      · have HA := Aside0.mk (awake_calls w HT.out)
        go_wp2_with (go_at_call 13; refine HA.out.mono ?_; rintro e w' ⟨rfl, hb⟩)
        go_ret
        exact ⟨rfl, hb⟩
      · have hj : x.size + y.size ≤ 9223372036854775807 := by omega
        have HX2 : Aside0 (x ++ y = catS (l.take (k + 1)) ∧ ∀ z ∈ l.take (k + 1), z.size ≤ 200) := ⟨by rw [HX.out.1, HS.out], fun z hz => by
          rcases HM.out z hz with h | h
          · exact HX.out.2 z h
          · rw [h]; omega⟩
        have hsz : (x ++ y).size ≤ 200 * (k + 1) := by rw [ByteArray.size_append]; omega
        clear HX HS HM
        go_wp2
        go_round
        case rel => exact ⟨k + 1, x ++ y, by go_num, rfl, by omega, hsz, HX2⟩
        case measure => simp [intOf]; omega
    · have hkn : k = n := by omega
      have hxl : x = catS l := by rw [HX.out.1, hkn, HNL.out, List.take_length]
      have hsl : ∀ y ∈ l, y.size ≤ 9223372036854775806 := fun y hy => by
        have := HX.out.2 y (by rw [hkn, HNL.out, List.take_length]; exact hy)
        omega
      have hd : x.data.toList = allB l := by rw [hxl, cat_data]
      have hx : x.size ≤ 9223372036854775806 := by omega
      have HF : Aside0 (Calls Tryd.prog 14 #[.int .u16 c, .slice A n cap] w fun e w' => e = .returned (.int .u16 (sumL c (allB l))) ∧ Drawn0 w w') := ⟨by
        have h := from_calls c HC.out.1 HC.out.2 w A cap l (HNL.out ▸ HR.out) (HNL.out ▸ HCap.out) hsl
        rw [← HNL.out] at h
        exact h⟩
      have HRF := Aside0.mk (refFrom_calls c HC.out.1 HC.out.2 x hx)
      have HO : Aside0 (∀ w', Below w.heap.size w w' → Calls Tryd.prog 16 #[.slice A n cap] w' fun e w'' => e = .returned (.int .u16 (sumL 0 (allB l))) ∧ Drawn0 w' w'') := ⟨fun w' hb => by
        have h := of_calls w' A cap l (HNL.out ▸ Kd.C_below HR.out hb) (HNL.out ▸ HCap.out) hsl
        rw [← HNL.out] at h
        exact h⟩
      have HO2 := Aside0.mk (of1_calls x hx)
      rw [hd] at HRF HO2
      generalize sumL c (allB l) = m1 at *
      generalize sumL 0 (allB l) = m2 at *
      clear HX hxl hsl hd hx hxs HTK
      go_wp2_with fail
      with_reducible refine (HF.out).mono ?_
      rintro e w1 ⟨rfl, hb⟩
      have HB := Aside0.mk hb.below
      clear hb
      go_wp2_with fail
      with_reducible refine (HRF.out _).mono ?_
      rintro e w2 ⟨rfl, hb⟩
      replace HB := Aside0.mk (HB.out.trans (hb.below.mono HB.out.size))
      clear hb
      go_wp2_with fail
      with_reducible refine (HO.out _ HB.out).mono ?_
      rintro e w3 ⟨rfl, hb⟩
      replace HB := Aside0.mk (HB.out.trans (hb.below.mono HB.out.size))
      clear hb
      go_wp2_with fail
      with_reducible refine (HO2.out _).mono ?_
      rintro e w4 ⟨rfl, hb⟩
      replace HB := Aside0.mk (HB.out.trans (hb.mono HB.out.size))
      clear hb
      go_wp2_with fail
      with_reducible refine (awake_calls _ (HT.out.below HB.out)).mono ?_
      rintro e w5 ⟨rfl, hb⟩
      replace HB := Aside0.mk (HB.out.trans (hb.mono HB.out.size))
      clear hb
      go_wp2
      go_ret
      exact ⟨rfl, HB.out⟩
theorem sumJoins_calls (c : Int) (hc0 : 0 ≤ c ∧ c < 65536) (w : World) (A : Option Addr) (cap : Nat) (l : List ByteArray) (hr : Kd.string.C w A l.length l) (hc : l.length ≤ cap) (hT : NumT w) :
    Calls Tryd.prog 4 #[.int .u16 c, .slice A l.length cap] w fun e w' => e = .returned (.bool true) ∧ Below w.heap.size w w' := by
  by_cases h : l.length ≤ 20
  · exact sumJoins_few c hc0.1 hc0.2 w A cap l hr hc h hT
  · exact sumJoins_many c w A _ cap (by omega) hT
end Go.Proofs.YtlnipkhdaikdkaaDoor
