/-
  FaultJoins: the walk, the inputs that are left out; all of them.
-/
import Derived.Test.YtelmmcjlhjahcaaDoorFjLaw
namespace Go.Proofs.YtelmmcjlhjahcaaDoor
open Go.RowKit Go.Proofs.YtelmmcjlhjahcaaDoorW.PrintWords Go.Proofs.YtelmmcjlhjahcaaDoorW.PrintLast Go.Proofs.YtelmmcjlhjahcaaDoorW.PrintMore Go.Proofs.YtelmmcjlhjahcaaDoor.PFaultTells
set_option linter.unusedVariables false
set_option linter.unusedSimpArgs false
set_option maxRecDepth 100000

theorem joins_many (w : World) (L : Option Addr) (l cl : Nat) (fs : List S24) (B : Option Addr) (m d : Nat) (asked : Int) (r : Bool) (hr : (k24).C w L l fs) (hcl : l ≤ cl) (hgr : sashref03_Great.f 1000 fs = some r) (hc : r = true ∨ 19 < l ∨ 10 < m) (hE : As.ErrT w) :
    Calls Tryd.prog 8 #[.slice L l cl, .slice B m d, .int .i64 asked] w fun ev w' => ev = .returned (.bool true) ∧ Below w.heap.size w w' := by
  have HL := Aside0.mk (Kd.C_len hr)
  have hGt := sashref03_Great.calls 1000 L cl fs r w (by rw [HL.out]; exact hr) (by rw [HL.out]; exact hcl) hgr
  rw [HL.out] at hGt
  have HGt := Aside0.mk hGt
  have HG := Aside0.mk hE
  clear hGt hr hE hgr HL hcl
  rcases r with _ | _
  · have hc2 : 19 < l ∨ 10 < m := by rcases hc with h | h; cases h; exact h
    clear hc
    by_cases h19 : 19 < l
    · have t19 : (19 : Int) < (l : Int) := by omega
      clear hc2
      go_enter Tryd.func8, Tryd.ntmps8
      go_wp2_with fail
      with_reducible refine HGt.out.mono ?_
      rintro ev w3 ⟨rfl, hd⟩
      have HAW := Aside0.mk (awake3_calls w3 (HG.out.below hd.below))
      have HB3 := Aside0.mk hd.below
      clear hd HGt
      go_wp2_with fail
      with_reducible refine HAW.out.mono ?_
      rintro ev w4 ⟨rfl, hb⟩
      replace HB3 := Aside0.mk (HB3.out.trans (hb.mono HB3.out.size))
      clear hb HAW
      go_wp2
      go_ret
      exact ⟨rfl, HB3.out⟩
    · have t19 : ¬ (19 : Int) < (l : Int) := by omega
      have t10 : (10 : Int) < (m : Int) := by omega
      clear hc2
      go_enter Tryd.func8, Tryd.ntmps8
      go_wp2_with fail
      with_reducible refine HGt.out.mono ?_
      rintro ev w3 ⟨rfl, hd⟩
      have HAW := Aside0.mk (awake3_calls w3 (HG.out.below hd.below))
      have HB3 := Aside0.mk hd.below
      clear hd HGt
      go_wp2_with fail
      with_reducible refine HAW.out.mono ?_
      rintro ev w4 ⟨rfl, hb⟩
      replace HB3 := Aside0.mk (HB3.out.trans (hb.mono HB3.out.size))
      clear hb HAW
      go_wp2
      go_ret
      exact ⟨rfl, HB3.out⟩
  · clear hc
    go_enter Tryd.func8, Tryd.ntmps8
    go_wp2_with fail
    with_reducible refine HGt.out.mono ?_
    rintro ev w3 ⟨rfl, hd⟩
    have HAW := Aside0.mk (awake3_calls w3 (HG.out.below hd.below))
    have HB3 := Aside0.mk hd.below
    clear hd HGt
    go_wp2_with fail
    with_reducible refine HAW.out.mono ?_
    rintro ev w4 ⟨rfl, hb⟩
    replace HB3 := Aside0.mk (HB3.out.trans (hb.mono HB3.out.size))
    clear hb HAW
    go_wp2
    go_ret
    exact ⟨rfl, HB3.out⟩

theorem joins_calls (w : World) (L : Option Addr) (l cl : Nat) (fs : List S24) (B : Option Addr) (m d : Nat) (ws : List ByteArray) (asked : Int) (hr : (k24).C w L l fs) (hcl : l ≤ cl) (hz : Kd.string.C w B m ws) (hd : m ≤ d) (hE : As.ErrT w) :
    Calls Tryd.prog 8 #[.slice L l cl, .slice B m d, .int .i64 asked] w fun ev w' => ev = .returned (.bool true) ∧ Below w.heap.size w w' := by
  obtain ⟨r, hr1, hr2⟩ := great_all fs
  cases r with
  | true => exact joins_many w L l cl fs B m d asked true hr hcl hr1 (.inl rfl) hE
  | false =>
    by_cases h19 : 19 < l
    · exact joins_many w L l cl fs B m d asked false hr hcl hr1 (.inr (.inl h19)) hE
    · by_cases h10 : 10 < m
      · exact joins_many w L l cl fs B m d asked false hr hcl hr1 (.inr (.inr h10)) hE
      · exact joins_some w L l cl fs B m d ws asked hr hcl hz hd (by omega) (by omega) hr1 (hr2 rfl).2 hE
end Go.Proofs.YtelmmcjlhjahcaaDoor
