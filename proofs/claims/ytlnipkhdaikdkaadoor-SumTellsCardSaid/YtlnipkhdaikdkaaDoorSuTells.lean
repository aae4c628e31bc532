/-
  SumTells: the walk.
-/
import Derived.Test.YtlnipkhdaikdkaaDoorSuLaws
import Derived.IntWalk
namespace Go.Proofs.YtlnipkhdaikdkaaDoor
open Go.RowKit Go.Proofs.YtlnipkhdaikdkaaDoorW.PrintWords Go.Proofs.YtlnipkhdaikdkaaDoorW.PrintLast Go.Proofs.YtlnipkhdaikdkaaDoorW.PrintMore
set_option linter.unusedVariables false

theorem sumTells_many (s : ByteArray) (a c : Int) (hs : 1000 < s.size) (w : World) (hT : NumT w) :
    Calls Tryd.prog 10 #[.string s, .int .u16 a, .int .u8 c] w fun e w' => e = .returned (.bool true) ∧ Below w.heap.size w w' := by
  have h1000 : decide ((s.size : Int) > 1000) = true := by simp; omega
  have HA := Aside0.mk (awake_calls w hT)
  clear hT hs
  go_enter Tryd.func10, Tryd.ntmps10
  go_wp2_with (go_at_call 13; refine HA.out.mono ?_; rintro e w' ⟨rfl, hb⟩)
  go_ret
  exact ⟨rfl, hb⟩
theorem sumTells_none (s : ByteArray) (a c : Int) (hs : s.size = 0) (w : World) (hT : NumT w) :
    Calls Tryd.prog 10 #[.string s, .int .u16 a, .int .u8 c] w fun e w' => e = .returned (.bool true) ∧ Below w.heap.size w w' := by
  have e : s = ⟨#[]⟩ := by
    apply ByteArray.ext
    exact Array.eq_empty_of_size_eq_zero hs
  subst e
  have HA := Aside0.mk (awake_calls w hT)
  clear hT hs
  go_enter Tryd.func10, Tryd.ntmps10
  go_wp2_with (go_at_call 13; refine HA.out.mono ?_; rintro e w' ⟨rfl, hb⟩)
  go_ret
  exact ⟨rfl, hb⟩
/-- The text with another byte. -/
def turnS (s : ByteArray) (i : Nat) (c : UInt8) : ByteArray := (s.extract 0 i ++ (⟨#[c]⟩ : ByteArray)) ++ s.extract (i + 1) s.size
theorem turn_data (s : ByteArray) (i : Nat) (c : UInt8) : (turnS s i c).data.toList = s.data.toList.take i ++ c :: s.data.toList.drop (i + 1) := by
  unfold turnS
  rw [ByteArray.data_append, ByteArray.data_append, Array.toList_append, Array.toList_append, Lib.extract_data, Lib.extract_data, List.drop_zero, Nat.sub_zero]
  rw [List.take_of_length_le (l := s.data.toList.drop (i + 1)) (by rw [List.length_drop, slen]; exact Nat.le_refl _)]
  simp
theorem turn_size (s : ByteArray) (i : Nat) (c : UInt8) (h : i < s.size) : (turnS s i c).size = s.size := by
  have := congrArg List.length (turn_data s i c)
  rw [slen] at this
  rw [this, List.length_append, List.length_cons, List.length_take, List.length_drop, slen]
  omega
theorem turn_tells (s : ByteArray) (i : Nat) (c : UInt8) (h : i < s.size) (he : sumL 0 (turnS s i c).data.toList = sumL 0 s.data.toList) : turnS s i c = s := by
  have hd : s.data.toList = s.data.toList.take i ++ s[i] :: s.data.toList.drop (i + 1) := by
    rw [← sdrop s i h, List.take_append_drop]
  rw [turn_data] at he
  have hb := sum_tells _ _ c s[i] (by rw [he]; exact congrArg (sumL 0) hd)
  apply data_ext
  rw [turn_data, hb]
  exact hd.symm
set_option maxRecDepth 100000 in
set_option maxHeartbeats 4000000 in
theorem sumTells_few (s : ByteArray) (a : Int) (a0 : 0 ≤ a) (a1 : a < 65536) (c8 : UInt8) (hs : s.size ≤ 1000) (h0 : 0 < s.size) (w : World) (hT : NumT w) (hE : NumE w) :
    Calls Tryd.prog 10 #[.string s, .int .u16 a, .int .u8 (c8.toNat : Int)] w fun e w' => e = .returned (.bool true) ∧ Below w.heap.size w w' := by
  have h1000 : decide ((s.size : Int) > 1000) = false := by simp; omega
  have hz0 : ((s.size : Int) == 0) = false := by rw [beq_eq_false_iff_ne]; omega
  have HT := Aside0.mk hT
  have HE := Aside0.mk hE
  have hcv := conv1 (w.alloc (.cells #[.int .u8 (c8.toNat : Int)] 5)) w.heap.size 0 1 c8 (by rw [made_cell]; rfl)
  have hcv2 := conv1 (w.alloc (.cells #[.int .u8 (c8.toNat : Int)] 5)).drew w.heap.size 0 1 c8 (by show (w.alloc (.cells #[.int .u8 (c8.toNat : Int)] 5)).cell? _ = _; rw [made_cell]; rfl)
  obtain ⟨i, hi⟩ : ∃ i : Nat, (i : Int) = a % (s.size : Int) := ⟨(a % (s.size : Int)).toNat, Int.toNat_of_nonneg (Int.emod_nonneg a (b := (s.size : Int)) (by omega))⟩
  have hlt : i < s.size := by
    have h := Int.emod_lt_of_pos a (b := (s.size : Int)) (by omega)
    rw [← hi] at h
    exact Int.ofNat_lt.1 h
  have hlt2 : (i : Int) + 1 ≤ (s.size : Int) := by omega
  have hii : a % (s.size : Int) = (i : Int) := hi.symm
  have hi1 : IntKind.i64.wrap ((i : Int) + 1) = (i : Int) + 1 := IntWalk.i64_in _ (by omega)
  have hsz := turn_size s i c8 hlt
  have htell := turn_tells s i c8 hlt
  have HTU := Aside0.mk (show s.extract 0 i ++ (⟨#[c8]⟩ : ByteArray) ++ s.extract (i + 1) s.size = turnS s i c8 from rfl)
  have hps := headed_size (sumL 0 s.data.toList) s
  have hr := sumL_range s.data.toList 0 (by omega) (by omega)
  have HCT := cut_calls ((putS s).extract 0 5 ++ turnS s i c8) (by rw [ByteArray.size_append]; simp; omega)
  have h05 : (putS s).extract 0 5 = hex4 (sumL 0 s.data.toList) ++ (⟨#[44]⟩ : ByteArray) := headed_05 _ _
  rw [show cutR ((putS s).extract 0 5 ++ turnS s i c8) = cutR (hex4 (sumL 0 s.data.toList) ++ (⟨#[44]⟩ : ByteArray) ++ turnS s i c8) by rw [h05], cut_any _ hr.1 hr.2 _ (by omega)] at HCT
  have HP := Aside0.mk (put_calls s (by omega))
  have hps' : (putS s).size = s.size + 5 := hps
  have HO := Aside0.mk (of1_calls s (by omega))
  have HO2 := Aside0.mk (of1_calls (turnS s i c8) (by omega))
  generalize putS s = p at *
  generalize turnS s i c8 = t at *
  have hp5 : 5 ≤ p.size := by omega
  have hpz : (p.extract 0 5).size + t.size ≤ 9223372036854775807 := by simp; omega
  clear hT hE hi hps h05 hr
  by_cases he : t = s
  · subst he
    rw [if_pos rfl] at HCT
    replace HCT := Aside0.mk HCT
    clear htell hsz HO HO2
    go_enter Tryd.func10, Tryd.ntmps10
    go_wp2_with fail
    go_region
    rw [HTU.out]
    have HB : Aside0 (Below w.heap.size w (w.alloc (.cells #[.int .u8 (c8.toNat : Int)] 5)).drew) := ⟨below_drew (below_alloc (Below.refl _ _) _)⟩
    have hcell : True := trivial
    clear hcv hcv2 HTU
    generalize (w.alloc (.cells #[.int .u8 (c8.toNat : Int)] 5)).drew = w0 at *
    go_wp2_with fail
    with_reducible refine (HP.out _ (HT.out.below HB.out)).mono ?_
    rintro e w1 ⟨rfl, hb⟩
    replace HB := Aside0.mk (HB.out.trans (hb.mono HB.out.size))
    clear hb
    go_wp2_with fail
    with_reducible refine (HCT.out _ (HT.out.below HB.out) (HE.out.below HB.out)).mono ?_
    rintro e w2 ⟨rfl, hb⟩
    replace HB := Aside0.mk (HB.out.trans (hb.mono HB.out.size))
    clear hb
    go_wp2_with fail
    with_reducible refine (awake_calls _ (HT.out.below HB.out)).mono ?_
    rintro e w3 ⟨rfl, hb⟩
    replace HB := Aside0.mk (HB.out.trans (hb.mono HB.out.size))
    clear hb
    go_wp2
    go_ret
    exact ⟨rfl, HB.out⟩
  · have hne : ¬ sumL 0 s.data.toList = sumL 0 t.data.toList := fun h => he (htell h.symm)
    rw [if_neg hne] at HCT
    replace HCT := Aside0.mk HCT
    have q1 : ¬ t.toList = s.toList := fun h => he (bytes_ext h)
    have q2 : (t.toList == s.toList) = false := by simpa using q1
    generalize sumL 0 s.data.toList = n at *
    generalize sumL 0 t.data.toList = m at *
    have q3 : (n == m) = false := by simpa using hne
    have q4 : (n != m) = true := by simpa using hne
    clear htell he hsz
    go_enter Tryd.func10, Tryd.ntmps10
    go_wp2_with fail
    go_region
    rw [HTU.out]
    have HB : Aside0 (Below w.heap.size w (w.alloc (.cells #[.int .u8 (c8.toNat : Int)] 5)).drew) := ⟨below_drew (below_alloc (Below.refl _ _) _)⟩
    have hcell : True := trivial
    clear hcv hcv2 HTU
    generalize (w.alloc (.cells #[.int .u8 (c8.toNat : Int)] 5)).drew = w0 at *
    go_wp2_with fail
    with_reducible refine (HP.out _ (HT.out.below HB.out)).mono ?_
    rintro e w1 ⟨rfl, hb⟩
    replace HB := Aside0.mk (HB.out.trans (hb.mono HB.out.size))
    clear hb
    go_wp2_with fail
    with_reducible refine (HCT.out _ (HT.out.below HB.out) (HE.out.below HB.out)).mono ?_
    rintro e w2 ⟨rfl, hb⟩
    replace HB := Aside0.mk (HB.out.trans (hb.mono HB.out.size))
    clear hb
    go_wp2_with fail
    with_reducible refine (HO.out _).mono ?_
    rintro e w3 ⟨rfl, hb⟩
    replace HB := Aside0.mk (HB.out.trans (hb.mono HB.out.size))
    clear hb
    go_wp2_with fail
    with_reducible refine (HO2.out _).mono ?_
    rintro e w4 ⟨rfl, hb⟩
    replace HB := Aside0.mk (HB.out.trans (hb.mono HB.out.size))
    clear hb
    go_wp2_with fail
    with_reducible refine (awake_calls _ (HT.out.below HB.out)).mono ?_
    rintro e w5 ⟨rfl, hb⟩
    replace HB := Aside0.mk (HB.out.trans (hb.mono HB.out.size))
    clear hb
    go_wp2
    go_ret
    exact ⟨rfl, HB.out⟩
theorem sumTells_calls (s : ByteArray) (a c : Int) (ha : 0 ≤ a ∧ a < 65536) (hc : 0 ≤ c ∧ c < 256) (w : World) (hT : NumT w) (hE : NumE w) :
    Calls Tryd.prog 10 #[.string s, .int .u16 a, .int .u8 c] w fun e w' => e = .returned (.bool true) ∧ Below w.heap.size w w' := by
  by_cases h : s.size ≤ 1000
  · by_cases h0 : s.size = 0
    · exact sumTells_none s a c h0 w hT
    · have e : ((UInt8.ofNat c.toNat).toNat : Int) = c := by
        rw [show (UInt8.ofNat c.toNat).toNat = c.toNat % 256 by simp]
        omega
      rw [← e]
      exact sumTells_few s a ha.1 ha.2 _ h (by omega) w hT hE
  · exact sumTells_many s a c (by omega) w hT
end Go.Proofs.YtlnipkhdaikdkaaDoor
