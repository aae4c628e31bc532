/-
  The bytes of any frames, or the error, are the document's; they are read as these frames, and nothing waits: for every slice of frames the law answers true, and it reads as it did. No condition.
-/
import Derived.Test.YtmcjfnebkpifnaaFrAwake
import Derived.Test.YtmcjfnebkpifnaaOpen
import Derived.Test.YtmcjfnebkpifnaaRows
namespace Go.Proofs.Ytmcjfnebkpifnaa
open Go.RowKit Go.Proofs.YtmcjfnebkpifnaaW.PrintWords Go.Proofs.YtmcjfnebkpifnaaW.PrintLast Go.Proofs.YtmcjfnebkpifnaaW.PrintMore Go.Proofs.Ytmcjfnebkpifnaa.PFramePuts
set_option linter.unusedVariables false
set_option linter.unusedSimpArgs false

theorem frames_at {w : World} {A : Option Addr} {n : Nat} {fs : List S25} (h : (k25).C w A n fs) (i : Nat) (hi : i < n) :
    ∃ ad, A = some ad ∧ w.cell? ⟨(ad.add (i * 2)).block, (ad.add (i * 2)).off + 1, none⟩ = some (.string (rd_T25 fs i).f1) := by
  obtain ⟨ad, e, _, h2⟩ := at_T25 h (i : Int) (by omega) (by omega)
  rw [Int.toNat_natCast] at h2
  exact ⟨ad, e, h2⟩

set_option maxHeartbeats 4000000 in
theorem puts_many (w : World) (A : Option Addr) (n c : Nat) (h : 30 < n) : Calls Try.prog 3 #[.slice A n c] w fun e w' => e = .returned (.bool true) ∧ Below w.heap.size w w' := by
  have h1b : decide ((30 : Int) < (n : Int)) = true := decide_eq_true (by omega)
  go_enter Try.func3, Try.ntmps3
  go_wp2_with (go_at_call 4; refine (awake_calls _).mono ?_; rintro e w' ⟨rfl, hb⟩)
  go_ret
  exact ⟨rfl, hb⟩

set_option maxHeartbeats 8000000 in
theorem puts_few (w : World) (A : Option Addr) (n c : Nat) (fs : List S25) (h : n ≤ 30) (hr : (k25).C w A n fs) (hc : n ≤ c) (hgood : ∀ f ∈ fs, 0 ≤ f.f0 ∧ f.f0 ≤ 255) :
    Calls Try.prog 3 #[.slice A n c] w fun e w' => e = .returned (.bool true) ∧ Below w.heap.size w w' := by
  have hlen := Kd.C_len hr
  have h1b : decide ((30 : Int) < (n : Int)) = false := decide_eq_false (by omega)
  have HR := Aside0.mk hr
  clear hr
  go_enter Try.func3, Try.ntmps3
  go_wp2
  go_loop [3] (fun i => ∃ k : Nat, k ≤ n ∧ i = .int .i64 k ∧ Aside0 (∀ j, j < k → (rd_T25 fs j).f1.size ≤ 500)) (fun i => n - (intOf i).toNat)
  case atStart => exact ⟨0, by omega, rfl, ⟨fun j hj => absurd hj (by omega)⟩⟩
  case round =>
    obtain ⟨k, hk, rfl, HS⟩ := hrel
    by_cases hlt : k < n
    · obtain ⟨ad, rfl, hcell⟩ := frames_at HR.out k hlt
      by_cases hbig : 500 < (rd_T25 fs k).f1.size
      · obtain ⟨s, hs⟩ : ∃ s, s = (rd_T25 fs k).f1 := ⟨_, rfl⟩
        rw [← hs] at hcell hbig
        have hbb : decide ((500 : Int) < (s.size : Int)) = true := decide_eq_true (by omega)
        clear hs
        go_wp2_with (go_at_call 4; refine (awake_calls _).mono ?_; rintro e w' ⟨rfl, hb⟩)
        go_ret
        exact ⟨rfl, hb⟩
      · have HS2 : Aside0 (∀ j, j < k + 1 → (rd_T25 fs j).f1.size ≤ 500) := ⟨fun j hj => by
          by_cases e : j = k
          · rw [e]; omega
          · exact HS.out j (by omega)⟩
        obtain ⟨s, hs⟩ : ∃ s, s = (rd_T25 fs k).f1 := ⟨_, rfl⟩
        rw [← hs] at hcell hbig
        have hbb : decide ((500 : Int) < (s.size : Int)) = false := decide_eq_false (by omega)
        clear hs
        go_wp2
        go_round
        case rel => exact ⟨k + 1, by omega, by go_num, HS2⟩
        case measure => simp [intOf]; omega
    · have hkn : k = n := by omega
      have hs : ∀ f ∈ fs, f.f1.size ≤ 500 := by
        intro f hf
        obtain ⟨j, hj, rfl⟩ := List.mem_iff_getElem.1 hf
        have := HS.out j (by omega)
        unfold rd_T25 at this
        rw [Int.toNat_natCast, List.getD_eq_getElem?_getD, List.getElem?_eq_getElem hj] at this
        exact this
      subst hkn
      obtain ⟨r, hr0⟩ : ∃ r, r = putAllS [] fs := ⟨_, rfl⟩
      have hP := Put_f fs (by omega) hs 700 (by omega)
      have hA := All_f fs (by omega) hs 700 (by omega)
      rw [← hr0] at hP hA
      have hlenr := putAll_len fs hs []
      have hbyr := putAll_bytes fs hgood [] (fun x hx => by cases hx)
      have hback := back fs hs
      rw [← hr0] at hlenr hbyr hback
      have HP := Aside0.mk (frame_Put.calls 700 A c fs r.1 r.2 w (by rw [hlen]; exact HR.out) (by omega) hP)
      rw [hlen] at HP
      have HAA : ∀ W, Below w.heap.size w W → Aside0 (Calls Try.prog 6 #[.slice A k c] W fun e w' => ∃ v0_ : Value, e = .returned (.tuple #[v0_, .int .i64 r.2]) ∧ Kd.R (Kd.int .u8) 5 w' W.heap.size (fun _ => True) v0_ r.1 ∧ Below W.heap.size W w') := by
        intro W hW
        have := sashref23_All.calls 700 A c fs r.1 r.2 W (by rw [hlen]; exact Kd.C_below HR.out hW) (by omega) hA
        rw [hlen] at this
        exact ⟨this⟩
      have HAL := Aside0.mk HAA
      have HBK := Aside0.mk hback
      have HLR : r.1.length ≤ 20000 := by rw [hlen] at hlenr; simp at hlenr; omega
      have HBY := Aside0.mk hbyr
      have HSS := Aside0.mk hs
      have HLEN := Aside0.mk hlen
      clear hP hA hlenr hbyr hback hs HAA hr0 hlen
      go_wp2_with fail
      refine HP.out.mono ?_
      rintro e w1 ⟨v, rfl, hRv, hB1⟩
      obtain ⟨Av, nv, cv, rfl⟩ := sl_of_R hRv
      have HV := Aside0.mk hRv
      have HB1 := Aside0.mk hB1
      have HA1 := HAL.out w1 hB1
      clear hRv hB1 HP HAL
      go_wp2_with fail
      refine HA1.out.mono ?_
      rintro e w2 ⟨u, rfl, hRu, hB2⟩
      obtain ⟨Au, nu, cu, rfl⟩ := sl_of_R hRu
      have HV2 := Aside0.mk (Kd.R_below HV.out hB2)
      have HB2 : Aside0 (Below w.heap.size w w2) := ⟨HB1.out.trans (hB2.mono HB1.out.size)⟩
      have hcv1 : (convert 26 9 (.slice Av nv cv)).run Try.prog w2 = .ok (.string (strOfNums r.1)) w2 := own_string Try.underlying26 Try.underlying5 Try.underlying9 (Kd.own_of_R HV2.out)
      have hcv2 : (convert 26 9 (.slice Au nu cu)).run Try.prog w2 = .ok (.string (strOfNums r.1)) w2 := own_string Try.underlying26 Try.underlying5 Try.underlying9 (Kd.own_of_R hRu)
      clear hRu hB2 HA1
      obtain ⟨hnv, hcv, hCV⟩ := Kd.R_reads' HV2.out
      have HRD := read_calls w2 Av nv cv r.1 (by rw [hnv]; exact hCV) (by omega) (by omega) HBY.out
      have HRD := Aside0.mk HRD
      clear hnv hcv hCV
      go_wp2_with fail
      refine HRD.out.mono ?_
      rintro e w3 ⟨v3, ev, rfl, hB3, hF1, hF2, hF3⟩
      have HB3 : Aside0 (Below w.heap.size w w3) := ⟨HB2.out.trans (hB3.mono HB2.out.size)⟩
      by_cases hz : r.2 = 0
      · have hfb := HBK.out hz 0 false
        have hinit : DS.init = { bytes := [], fed := 0, over := false } := rfl
        rw [hinit, hfb] at hF1 hF2 hF3 ⊢
        obtain rfl := hF2 rfl
        have hw0 : (DS.mk [] (0 + (r.1.length : Int)) false).waits = 0 := rfl
        rw [hw0]
        obtain ⟨A3, n3, c3, rfl⟩ := sl_of_R hF1
        obtain ⟨hn3, hc3, hC3⟩ := Kd.R_reads' hF1
        have hn3' : n3 = fs.length := hn3
        have hs3 := sashref23_Same.calls 100 A3 c3 fs A c fs true w3 hC3 (by omega) (by rw [HLEN.out]; exact Kd.C_below HR.out HB3.out) (by rw [HLEN.out]; omega) (same_self fs (by rw [HLEN.out]; omega) 100 (by rw [HLEN.out]; omega))
        rw [HLEN.out] at hs3 hn3'
        subst hn3'
        have HS3 := Aside0.mk hs3
        have hz1 : (r.2 != 0) = false := by rw [hz]; rfl
        have HF : Aside0 True := ⟨trivial⟩
        clear hF1 hF2 hF3 hn3 hc3 hC3 hs3 hfb hw0 hB3 HRD hinit hz
        go_wp2_with fail
        refine HS3.out.mono ?_
        rintro e w4 ⟨rfl, hd⟩
        have HB4 : Aside0 (Below w.heap.size w w4) := ⟨HB3.out.trans (hd.below.mono HB3.out.size)⟩
        clear hd HS3
        go_wp2_with (go_at_call 4; refine (awake_calls _).mono ?_; rintro e w' ⟨rfl, hb⟩)
        go_ret
        exact ⟨rfl, HB4.out.trans (hb.mono HB4.out.size)⟩
      · have hz1 : (r.2 != 0) = true := bne_iff_ne.2 hz
        clear hF1 hF2 hF3 hB3 HRD hz
        generalize DS.init.feedL r.1 = q at *
        go_wp2_with (go_at_call 4; refine (awake_calls _).mono ?_; rintro e w' ⟨rfl, hb⟩)
        go_ret
        exact ⟨rfl, HB3.out.trans (hb.mono HB3.out.size)⟩

theorem puts_calls (w : World) (A : Option Addr) (n c : Nat) (fs : List S25) (hr : (k25).C w A n fs) (hc : n ≤ c) (hgood : ∀ f ∈ fs, 0 ≤ f.f0 ∧ f.f0 ≤ 255) :
    Calls Try.prog 3 #[.slice A n c] w fun e w' => e = .returned (.bool true) ∧ Below w.heap.size w w' := by
  by_cases h : 30 < n
  · exact puts_many w A n c h
  · exact puts_few w A n c fs (by omega) hr hc hgood
end Go.Proofs.Ytmcjfnebkpifnaa
namespace Go.Proofs.Ytmcjfnebkpifnaa.framePuts
open Go.ChangeShapes Go.WideShapes Go.ChangeAt Go.RowKit Go.Proofs.Ytmcjfnebkpifnaa Go.Proofs.Ytmcjfnebkpifnaa.PFramePuts Go.Proofs.YtmcjfnebkpifnaaW.PrintWords
open Go.ChangeMaps (open_string shut_string)
set_option linter.unusedVariables false

theorem own : ownKnob Try.prog.godebug = none := by kernel_rfl
theorem laidOut : laidOutB Try.prog = true := by kernel_rfl

theorem opens_frames {H : Type} (enc : TypeId × Value → H) (w : World) (base : Nat) (spare : Nat → Bool) (held : Bool) :
    Opens enc Try.prog w base spare held 22 (Kd.slice 25 k25) (fun l => ∀ x ∈ l, (Lit.int .u8 x.f0).wf = true ∧ x.f1.size ≤ maxLen) := by
  haveI : Inhabited S25 := ⟨z25⟩
  exact opens_slice Try.underlying22 (by kernel_rfl) (opens_iso (g := fun p => S25.mk p.1 p.2) (fun _ => rfl)
    (opens_pair Try.underlying25 rfl rfl (by kernel_rfl) (by kernel_rfl) (by kernel_rfl) (opens_int Try.underlying5) (opens_string Try.underlying9)))

set_option maxRecDepth 100000 in
theorem lifted (os : Os) (started : os.Started) (H : Type) (enc : TypeId × Value → H) :
    ReturnsInHanded {} Try.checked os 3 .any (Rows.framePutsSpec.pre6 enc Try.prog Try.f3 Rows.framePutsRow.domain false) (Rows.framePutsSpec.post enc Try.prog Try.f3 false true false false) := by
  refine returnsInHanded_of_change (C := Try.checked) own started (by kernel_rfl) Try.func3
    (ChangeSpec.witness6 (enc := enc) (C := Try.checked) false ⟨#[], #[.slice none 0 0], []⟩ 8 (by kernel_rfl) (by kernel_rfl) (by kernel_rfl) (by kernel_rfl)) ?_
  intro W base args ds gs before hval0 hW hcnd _
  have hval : ∀ (j : Nat) t v, Try.f3.params[j]? = some t → args[j]? = some v → Value.okWide Try.prog W .any base t v := hval0
  have hW' := hW
  obtain ⟨p, q, hA0, hV, rfl, hfz, hnd⟩ := hW
  have hA : DataW.TrodAll enc Try.prog W 0 (fun _ => true) true Try.f3.params.toList args.toList ds p := hA0
  rw [Try.params3] at hA hval
  obtain ⟨v0, vs0, d0, ds0, p0, q0, hargs, rfl, rfl, h0, r0⟩ := trodAll_cons hA
  obtain ⟨rfl, rfl, rfl⟩ := trodAll_nil r0
  obtain rfl : args = #[v0] := by cases args; simp_all
  obtain ⟨rfl, rfl⟩ := trodVars_none hV
  obtain ⟨A0, len0, cap0, rfl⟩ := okWide_slice Try.underlying22 (hval 0 22 v0 rfl rfl)
  have k0 := h0
  have lt0 : ∀ x ∈ p0, x.block < W.heap.size := by obtain ⟨m, hm⟩ := k0; exact DataW.trod_lt m _ _ _ hm
  obtain ⟨fs, ⟨B0, c0, hcs, hlc, hC⟩, hgood⟩ : ∃ fs, (Kd.slice 25 k25).K W fs [.slice A0 len0 cap0] ∧ ∀ x ∈ fs, (Lit.int .u8 x.f0).wf = true ∧ x.f1.size ≤ maxLen := by
    obtain ⟨fuel, hf⟩ := h0
    exact opens_frames enc W _ _ _ fuel _ _ hf
  obtain ⟨rfl, rfl, rfl⟩ : A0 = B0 ∧ len0 = fs.length ∧ cap0 = c0 := by simpa using hcs
  clear hA0 hval0
  refine (puts_calls W _ _ _ fs hC hlc (fun f hf => bounds_u8 (hgood f hf).1)).mono fun e W' ⟨he, bel⟩ => ?_
  subst he
  exact ⟨_, rfl, _, _, _, [], _, [], hW', trodAll_mk1 (shut_bool Try.underlying4 _), trodAll_cons_mk (Below.trod laidOut (by kernel_rfl) (of_decide_eq_true (by kernel_rfl)) k0 bel lt0) trodAll_mk0, rfl, bel.frame _, fun h => by cases h⟩

theorem over : Rows.framePutsRow.holds Try.pinned (OpenSpec.ofChange Rows.framePutsSpec) :=
  OpenClaim.holds_of_wide 3 Try.f3 rfl rfl rfl rfl rfl rfl rfl ⟨rfl, rfl, rfl, rfl, rfl⟩ rfl rfl rfl rfl rfl (by kernel_rfl) Try.func3 (by kernel_rfl)
    (of_decide_eq_true (by kernel_rfl)) (by unfold Func.isWrapper; first | (rw [if_pos (by decide +kernel)]; kernel_rfl) | (rw [if_neg (by decide +kernel)]; exact ⟨rfl, rfl⟩))
    (fun os started H enc _ => lifted os started H enc)

/-- THE STATEMENT. -/
theorem proved : Rows.FramePutsSaid := over
#print axioms proved
end Go.Proofs.Ytmcjfnebkpifnaa.framePuts
