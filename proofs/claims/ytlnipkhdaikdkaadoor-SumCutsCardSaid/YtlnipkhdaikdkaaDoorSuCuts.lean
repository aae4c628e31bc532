/-
  SumCuts: the walk.
-/
import Derived.Test.YtlnipkhdaikdkaaDoorSuLaws
namespace Go.Proofs.YtlnipkhdaikdkaaDoor
open Go.RowKit Go.Proofs.YtlnipkhdaikdkaaDoorW.PrintWords Go.Proofs.YtlnipkhdaikdkaaDoorW.PrintLast Go.Proofs.YtlnipkhdaikdkaaDoorW.PrintMore
set_option linter.unusedVariables false

theorem sumCuts_many (s : ByteArray) (hs : 2000 < s.size) (w : World) (hT : NumT w) :
    Calls Tryd.prog 9 #[.string s] w fun e w' => e = .returned (.bool true) ∧ Below w.heap.size w w' := by
  have h1000 : decide ((s.size : Int) > 2000) = true := by simp; omega
  have HA := Aside0.mk (awake_calls w hT)
  clear hT hs
  go_enter Tryd.func9, Tryd.ntmps9
  go_wp2_with (go_at_call 13; refine HA.out.mono ?_; rintro e w' ⟨rfl, hb⟩)
  go_ret
  exact ⟨rfl, hb⟩
set_option maxRecDepth 100000 in
set_option maxHeartbeats 4000000 in
theorem sumCuts_few (s : ByteArray) (hs : s.size ≤ 2000) (w : World) (hT : NumT w) (hE : NumE w) :
    Calls Tryd.prog 9 #[.string s] w fun e w' => e = .returned (.bool true) ∧ Below w.heap.size w w' := by
  have h1000 : decide ((s.size : Int) > 2000) = false := by simp; omega
  have HT := Aside0.mk hT
  have HE := Aside0.mk hE
  have HC := Aside0.mk (cut_calls s (by omega))
  have HRC := Aside0.mk (refCut_calls s (by omega))
  have HP := Aside0.mk (put_calls s (by omega))
  have hz := headed_size (sumL 0 s.data.toList) s
  have HCP := cut_calls (putS s) (by unfold putS; omega)
  rw [cut_put s (by omega)] at HCP
  replace HCP := Aside0.mk HCP
  have HZ := Aside0.mk (cutR_zero s)
  have h2 := cutR_two s
  obtain ⟨⟨x, e⟩, hr⟩ : ∃ r, r = cutR s := ⟨_, rfl⟩
  rw [← hr] at HC HRC HZ h2
  have HN : Aside0 (s.size ≤ 2000) := ⟨hs⟩
  obtain ⟨p, hp⟩ : ∃ p, p = putS s := ⟨_, rfl⟩
  rw [← hp] at HP HCP
  clear hr hp hz hT hE hs
  rcases h2 with h2 | h2
  · have h2' : e = 0 := h2
    subst h2'
    obtain ⟨hpx, hxs⟩ := HZ.out rfl
    have HPX := put_calls x (by have := HN.out; simp only at hxs; omega)
    rw [show putS x = s from hpx] at HPX
    replace HPX := Aside0.mk HPX
    clear hpx hxs HZ h2
    go_enter Tryd.func9, Tryd.ntmps9
    go_wp2_with fail
    with_reducible refine (HC.out w HT.out HE.out).mono ?_
    rintro e w1 ⟨rfl, hb⟩
    have HB := Aside0.mk hb
    clear hb
    go_wp2_with fail
    with_reducible refine (HRC.out _).mono ?_
    rintro e w2 ⟨rfl, hb⟩
    replace HB := Aside0.mk (HB.out.trans (hb.mono HB.out.size))
    clear hb
    go_wp2_with fail
    with_reducible refine (HP.out _ (HT.out.below HB.out)).mono ?_
    rintro e w3 ⟨rfl, hb⟩
    replace HB := Aside0.mk (HB.out.trans (hb.mono HB.out.size))
    clear hb
    go_wp2_with fail
    with_reducible refine (HCP.out _ (HT.out.below HB.out) (HE.out.below HB.out)).mono ?_
    rintro e w4 ⟨rfl, hb⟩
    replace HB := Aside0.mk (HB.out.trans (hb.mono HB.out.size))
    clear hb
    go_wp2_with fail
    with_reducible refine (HPX.out _ (HT.out.below HB.out)).mono ?_
    rintro e w5 ⟨rfl, hb⟩
    replace HB := Aside0.mk (HB.out.trans (hb.mono HB.out.size))
    clear hb
    go_wp2_with fail
    with_reducible refine (awake_calls _ (HT.out.below HB.out)).mono ?_
    rintro e w6 ⟨rfl, hb⟩
    replace HB := Aside0.mk (HB.out.trans (hb.mono HB.out.size))
    clear hb
    go_wp2
    go_ret
    exact ⟨rfl, HB.out⟩
  · have he : (e == 0) = false := by simp only at h2; simp; omega
    have he2 : (e != 0) = true := by simp only at h2; simp; omega
    have he3 : ¬ e = 0 := by simp only at h2; omega
    clear h2 HZ
    go_enter Tryd.func9, Tryd.ntmps9
    go_wp2_with fail
    with_reducible refine (HC.out w HT.out HE.out).mono ?_
    rintro e w1 ⟨rfl, hb⟩
    have HB := Aside0.mk hb
    clear hb
    go_wp2_with fail
    with_reducible refine (HRC.out _).mono ?_
    rintro e w2 ⟨rfl, hb⟩
    replace HB := Aside0.mk (HB.out.trans (hb.mono HB.out.size))
    clear hb
    go_wp2_with fail
    with_reducible refine (HP.out _ (HT.out.below HB.out)).mono ?_
    rintro e w3 ⟨rfl, hb⟩
    replace HB := Aside0.mk (HB.out.trans (hb.mono HB.out.size))
    clear hb
    go_wp2_with fail
    with_reducible refine (HCP.out _ (HT.out.below HB.out) (HE.out.below HB.out)).mono ?_
    rintro e w4 ⟨rfl, hb⟩
    replace HB := Aside0.mk (HB.out.trans (hb.mono HB.out.size))
    clear hb
    go_wp2_with fail
    with_reducible refine (awake_calls _ (HT.out.below HB.out)).mono ?_
    rintro e w6 ⟨rfl, hb⟩
    replace HB := Aside0.mk (HB.out.trans (hb.mono HB.out.size))
    clear hb
    go_wp2
    go_ret
    exact ⟨rfl, HB.out⟩
theorem sumCuts_calls (s : ByteArray) (w : World) (hT : NumT w) (hE : NumE w) :
    Calls Tryd.prog 9 #[.string s] w fun e w' => e = .returned (.bool true) ∧ Below w.heap.size w w' := by
  by_cases h : s.size ≤ 2000
  · exact sumCuts_few s h w hT hE
  · exact sumCuts_many s (by omega) w hT
end Go.Proofs.YtlnipkhdaikdkaaDoor
