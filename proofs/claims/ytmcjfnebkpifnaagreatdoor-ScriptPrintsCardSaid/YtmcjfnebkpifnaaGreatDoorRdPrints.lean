/-
  ScriptPrints: what the statement returns.
-/
import Derived.Test.YtmcjfnebkpifnaaGreatDoorRdPr
import Derived.Test.YtmcjfnebkpifnaaGreatDoorRdTop
import Derived.Test.YtmcjfnebkpifnaaGreatDoorScPrintL
import Derived.Test.YtmcjfnebkpifnaaGreatDoorScGreat
namespace Go.Proofs.YtmcjfnebkpifnaaGreatDoor
open Go.RowKit Go.Proofs.YtmcjfnebkpifnaaGreatDoorW.PrintWords Go.Proofs.YtmcjfnebkpifnaaGreatDoorW.PrintLast Go.Proofs.YtmcjfnebkpifnaaGreatDoorW.PrintMore Go.Proofs.YtmcjfnebkpifnaaGreatDoor.PScriptReads
set_option linter.unusedVariables false
set_option linter.unusedSimpArgs false
set_option maxRecDepth 100000

theorem readTxt_nil : readTxt [] = .inr [] := readA_nil 0
set_option maxHeartbeats 8000000 in
theorem prints_calls (A : Option Addr) (c : Nat) (l : List SH) (w : World) (hr : Kd.C k43 w A l.length l) (hc : l.length ≤ c) (hT : NumT w) (hE : NumE w) (hM : MaxT w) :
    Calls Tryz.prog 3 #[.slice A l.length c] w fun e w' => e = .returned (.bool true) ∧ Below w.heap.size w w' := by
  obtain ⟨r, hG, hS⟩ := great_calls A c l w hr hc
  obtain ⟨n, hN⟩ : ∃ n, n = l.length := ⟨_, rfl⟩
  have HG := Aside0.mk hG
  have HT := Aside0.mk hT
  have HE := Aside0.mk hE
  have HM := Aside0.mk hM
  have HAW := Aside0.mk (fun (W : World) (k : NumT W) => awake_calls W k)
  have HR := Aside0.mk hr
  have HN := Aside0.mk hN
  have hcc := hc
  rw [← hN] at HG HR hcc ⊢
  cases r with
  | true =>
    clear hS hT hE hM hr hN hG hc
    go_enter Tryz.func3, Tryz.ntmps3
    go_wp2_with fail
    with_reducible refine HG.out.mono ?_
    rintro e w1 ⟨rfl, hb⟩
    have HB := Aside0.mk hb
    clear hb
    go_wp2_with fail
    with_reducible refine (HAW.out _ (HT.out.below HB.out)).mono ?_
    rintro e w2 ⟨rfl, hb⟩
    have HB2 := Aside0.mk (HB.out.trans (hb.mono HB.out.size))
    clear hb
    go_wp2
    go_ret
    exact ⟨rfl, HB2.out⟩
  | false =>
    have HS := Aside0.mk (hS rfl)
    have hn40 : n ≤ 40 := by rw [hN]; exact HS.out.1
    have htl : (textL l).length ≤ 45000 := by
      have := textL_len l HS.out.2
      have := HS.out.1
      omega
    have hs5 : ∀ x ∈ l, x.f2.size ≤ 50000 := fun x hx => by have := HS.out.2 x hx; omega
    have HP : Aside0 (∀ W : World, Kd.C k43 W A n l → NumT W → Calls Tryz.prog 8 #[.slice A n c] W fun e w' => e = .returned (.tuple #[.string (bsOf (if l.all mayB then textL l else [])), .int .i64 (if l.all mayB then 0 else 1)]) ∧ Below W.heap.size W w') := ⟨fun W h k => by
      have := print_calls A c l W (by rw [← hN]; exact h) (by omega) hs5 (by omega) k
      rwa [← hN] at this⟩
    have HQ : Aside0 (∀ W : World, Kd.C k43 W A n l → Calls Tryz.prog 9 #[.slice A n c] W fun e w' => e = .returned (.tuple #[.string (bsOf (if l.all mayB then textL l else [])), .int .i64 (if l.all mayB then 0 else 1)]) ∧ Below W.heap.size W w') := ⟨fun W h => by
      have := Print_ref A c l W (by rw [← hN]; exact h) hc (by omega) hs5 (by omega)
      rwa [← hN] at this⟩
    have HSM : Aside0 (∀ (W : World) (B : Option Addr) (d : Nat), Kd.C k43 W A n l → Kd.C k43 W B n l → n ≤ d → Calls Tryz.prog 11 #[.slice B n d, .slice A n c] W fun e w' => e = .returned (.bool true) ∧ Below W.heap.size W w') := ⟨fun W B d h1 h2 hd => by
      have := Same_ref B A d c l W (by rw [← hN]; exact h2) (by omega) (by rw [← hN]; exact h1) hc (by omega)
      rwa [← hN] at this⟩
    cases hm : l.all mayB with
    | true =>
      rw [hm] at HP HQ
      have HRD : Aside0 (∀ W : World, NumT W → NumE W → MaxT W → Calls Tryz.prog 10 #[.string (bsOf (textL l))] W (TxtPost W (.inr l))) := ⟨fun W k1 k2 k3 => by
        have h := sread_calls W (bsOf (textL l)) (by rw [bs_size]; omega) k1 k2 k3
        rw [bs_list, readTxt_print l hm (by omega)] at h
        exact h⟩
      simp only [if_true] at HP HQ
      generalize bsOf (textL l) = str at *
      clear hS hT hE hM hr hN hG hc hm htl hs5 HS
      go_enter Tryz.func3, Tryz.ntmps3
      go_wp2_with fail
      with_reducible refine HG.out.mono ?_
      rintro e w1 ⟨rfl, hb⟩
      have HB1 := Aside0.mk hb
      clear hb HG
      go_wp2_with fail
      with_reducible refine (HP.out _ (Kd.C_below HR.out HB1.out) (HT.out.below HB1.out)).mono ?_
      rintro e w2 ⟨rfl, hb⟩
      have HB2 := Aside0.mk (HB1.out.trans (hb.mono HB1.out.size))
      clear hb
      go_wp2_with fail
      with_reducible refine (HQ.out _ (Kd.C_below HR.out HB2.out)).mono ?_
      rintro e w3 ⟨rfl, hb⟩
      have HB3 := Aside0.mk (HB2.out.trans (hb.mono HB2.out.size))
      clear hb
      go_wp2_with fail
      with_reducible refine (HRD.out _ (HT.out.below HB3.out) (HE.out.below HB3.out) (HM.out.below HB3.out)).mono ?_
      rintro e w4 ⟨A4, n4, c4, rfl, hn4, hc4, hC4, hb⟩
      have hn4' : n4 = n := by rw [hn4]; exact HN.out.symm
      subst hn4'
      have HB4 := Aside0.mk (HB3.out.trans (hb.mono HB3.out.size))
      have HC4 := Aside0.mk hC4
      clear hb hC4 hn4
      go_wp2_with fail
      with_reducible refine (HSM.out _ _ _ (Kd.C_below HR.out HB4.out) HC4.out hc4).mono ?_
      rintro e w5 ⟨rfl, hb⟩
      have HB5 := Aside0.mk (HB4.out.trans (hb.mono HB4.out.size))
      clear hb
      go_wp2_with fail
      with_reducible refine (HAW.out _ (HT.out.below HB5.out)).mono ?_
      rintro e w6 ⟨rfl, hb⟩
      have HB6 := Aside0.mk (HB5.out.trans (hb.mono HB5.out.size))
      clear hb
      go_wp2
      go_ret
      exact ⟨rfl, HB6.out⟩
    | false =>
      rw [hm] at HP HQ
      have HRD : Aside0 (∀ W : World, NumT W → NumE W → MaxT W → Calls Tryz.prog 10 #[.string (bsOf [])] W (TxtPost W (.inr []))) := ⟨fun W k1 k2 k3 => by
        have h := sread_calls W (bsOf []) (by decide) k1 k2 k3
        rw [bs_list, readTxt_nil] at h
        exact h⟩
      simp only [Bool.false_eq_true, if_false] at HP HQ
      generalize bsOf [] = str at *
      clear hS hT hE hM hr hN hG hc hm htl hs5 HS
      go_enter Tryz.func3, Tryz.ntmps3
      go_wp2_with fail
      with_reducible refine HG.out.mono ?_
      rintro e w1 ⟨rfl, hb⟩
      have HB1 := Aside0.mk hb
      clear hb HG
      go_wp2_with fail
      with_reducible refine (HP.out _ (Kd.C_below HR.out HB1.out) (HT.out.below HB1.out)).mono ?_
      rintro e w2 ⟨rfl, hb⟩
      have HB2 := Aside0.mk (HB1.out.trans (hb.mono HB1.out.size))
      clear hb
      go_wp2_with fail
      with_reducible refine (HQ.out _ (Kd.C_below HR.out HB2.out)).mono ?_
      rintro e w3 ⟨rfl, hb⟩
      have HB3 := Aside0.mk (HB2.out.trans (hb.mono HB2.out.size))
      clear hb
      go_wp2_with fail
      with_reducible refine (HRD.out _ (HT.out.below HB3.out) (HE.out.below HB3.out) (HM.out.below HB3.out)).mono ?_
      rintro e w4 ⟨A4, n4, c4, rfl, hn4, hc4, hC4, hb⟩
      have HB4 := Aside0.mk (HB3.out.trans (hb.mono HB3.out.size))
      clear hb hC4 hn4
      go_wp2_with fail
      with_reducible refine (HAW.out _ (HT.out.below HB4.out)).mono ?_
      rintro e w6 ⟨rfl, hb⟩
      have HB6 := Aside0.mk (HB4.out.trans (hb.mono HB4.out.size))
      clear hb
      go_wp2
      go_ret
      exact ⟨rfl, HB6.out⟩
end Go.Proofs.YtmcjfnebkpifnaaGreatDoor
