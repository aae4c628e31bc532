/-
  num.ReadHex: what it returns.
-/
import Derived.Test.YtlnipkhdaikdkaaDoorHexPure
namespace Go.Proofs.YtlnipkhdaikdkaaDoor
open Go.RowKit Go.Proofs.YtlnipkhdaikdkaaDoorW.PrintWords Go.Proofs.YtlnipkhdaikdkaaDoorW.PrintLast Go.Proofs.YtlnipkhdaikdkaaDoorW.PrintMore
set_option linter.unusedVariables false

/-- Two numbers, in a world that has grown. -/
def OutH (w : World) (r : Int × Int) (e : Ending) (w' : World) : Prop := e = .returned (.tuple #[.int .u16 r.1, .int .i64 r.2]) ∧ Below w.heap.size w w'
set_option maxHeartbeats 1000000 in
theorem rhex_calls (s : ByteArray) (hs : s.size ≤ 140737488355328) (w : World) (hT : NumT w) (hE : NumE w) : Calls Tryd.prog 28 #[.string s] w (OutH w (rhR s)) := by
  rw [rhR_of]
  have HT := Aside0.mk hT
  have HE := Aside0.mk hE
  clear hT hE
  rcases hr : hexRead s with _ | u
  · have HP := Aside0.mk (puint16_err s (by omega) hr w HE.out)
    clear hr
    go_enter Tryd.func28, Tryd.ntmps28
    go_wp2_with (go_at_call 37; refine HP.out.mono ?_; rintro e w1 ⟨x, N, rfl, hb⟩)
    go_ret2
    exact ⟨rfl, hb⟩
  · have hr2 := hexRead_range hr
    have HP := Aside0.mk (puint16_ok s (by omega) u hr w)
    have HH := Aside0.mk (fun w1 (hb : Below w.heap.size w w1) => hex_calls u hr2.1 (by omega) w1 (HT.out.below hb))
    have hw : IntKind.u16.wrap u = u := by rw [show IntKind.u16.wrap u = u % 65536 by simp [IntKind.wrap, IntKind.bits, IntKind.signed]]; omega
    obtain ⟨h0, h1⟩ := hr2
    clear hr
    by_cases he : hex4 u = s
    · have hte : ((hex4 u).toList == s.toList) = true := by rw [he]; simp
      have hte2 : ((hex4 u).toList = s.toList) := by rw [he]
      simp only [if_pos he]
      have HQ := Aside0.mk he
      clear he
      generalize hex4 u = x at *
      go_enter Tryd.func28, Tryd.ntmps28
      go_wp2_with (first | (go_at_call 37; refine HP.out.mono ?_; rintro e w1 ⟨rfl, hb⟩; replace hb := Aside0.mk hb) | (go_at_call 30; refine (HH.out _ hb.out).mono ?_; rintro e w2 ⟨rfl, hb2⟩))
      go_ret2
      exact ⟨rfl, hb.out.trans (hb2.mono hb.out.size)⟩
    · have hte2 : ¬ (hex4 u).toList = s.toList := fun h => he (bytes_ext h)
      have hte : ((hex4 u).toList == s.toList) = false := by simpa using hte2
      simp only [if_neg he]
      clear he
      generalize hex4 u = x at *
      go_enter Tryd.func28, Tryd.ntmps28
      go_wp2_with (first | (go_at_call 37; refine HP.out.mono ?_; rintro e w1 ⟨rfl, hb⟩; replace hb := Aside0.mk hb) | (go_at_call 30; refine (HH.out _ hb.out).mono ?_; rintro e w2 ⟨rfl, hb2⟩))
      go_ret2
      exact ⟨rfl, hb.out.trans (hb2.mono hb.out.size)⟩
end Go.Proofs.YtlnipkhdaikdkaaDoor
