/-
  FrameFeeds: whatever the parts.
-/
import Derived.Test.YtmcjfnebkpifnaaDoorFfWalk
namespace Go.Proofs.YtmcjfnebkpifnaaDoor
open Go.RowKit Go.Proofs.YtmcjfnebkpifnaaDoorW.PrintWords Go.Proofs.YtmcjfnebkpifnaaDoorW.PrintLast Go.Proofs.YtmcjfnebkpifnaaDoorW.PrintMore Go.Proofs.YtmcjfnebkpifnaaDoor.PFrameFeeds
set_option linter.unusedVariables false
set_option linter.unusedSimpArgs false
set_option maxRecDepth 100000

set_option maxHeartbeats 4000000 in
theorem feeds_many (w : World) (A : Option Addr) (n c : Nat) (xss : List (List Int)) (hr : (Kd.slice 5 (Kd.int .u8)).C w A n xss) (hc : n ≤ c) (hgr : sashlaw23_great.f 100 xss = some true) :
    Calls Tryd.prog 3 #[.slice A n c] w fun e w' => e = .returned (.bool true) ∧ Below w.heap.size w w' := by
  have hlen := Kd.C_len hr
  subst hlen
  have HGt := Aside0.mk (sashlaw23_great.calls 100 A c xss true w hr hc hgr)
  generalize xss.length = n at *
  clear hr hgr hc
  go_enter Tryd.func3, Tryd.ntmps3
  go_wp2_with fail
  with_reducible refine HGt.out.mono ?_
  rintro e w1 ⟨rfl, hd⟩
  have HB := Aside0.mk hd.below
  clear hd HGt
  go_wp2_with fail
  refine (awake_calls _).mono ?_
  rintro e wz ⟨rfl, hb⟩
  replace HB := Aside0.mk (HB.out.trans (hb.mono HB.out.size))
  clear hb
  go_wp2
  go_ret
  exact ⟨rfl, HB.out⟩
theorem feeds_calls (w : World) (A : Option Addr) (n c : Nat) (xss : List (List Int)) (hr : (Kd.slice 5 (Kd.int .u8)).C w A n xss) (hc : n ≤ c) (hby : ∀ x ∈ xss, ∀ b ∈ x, 0 ≤ b ∧ b ≤ 255) (hE : As.ErrT w) :
    Calls Tryd.prog 3 #[.slice A n c] w fun e w' => e = .returned (.bool true) ∧ Below w.heap.size w w' := by
  obtain ⟨r, hr1, hr2⟩ := great_ok xss
  cases r with
  | true => exact feeds_many w A n c xss hr hc hr1
  | false =>
    obtain ⟨h1, h2⟩ := hr2 rfl
    refine feeds_few w A n c xss hr hc hr1 (by rw [← Kd.C_len hr]; exact h1) h2 (fun b hb => ?_) hE
    obtain ⟨x, hx, hb⟩ := List.mem_flatten.1 hb
    exact hby x hx b hb
end Go.Proofs.YtmcjfnebkpifnaaDoor
