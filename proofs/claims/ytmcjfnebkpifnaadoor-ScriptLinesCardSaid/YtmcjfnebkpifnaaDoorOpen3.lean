/-
  What a struct of three fields reads as.
-/
import Derived.Test.YtmcjfnebkpifnaaDoorOpen
import Derived.Deep.Strs
namespace Go.Proofs.YtmcjfnebkpifnaaDoor
open Go.RowKit Go.Deep Go.ChangeShapes Go.ChangeMaps Go.Proofs.YtmcjfnebkpifnaaDoorW.PrintWords Go.Proofs.YtmcjfnebkpifnaaDoorW.PrintMore
set_option linter.unusedVariables false
section
variable {H : Type} {enc : TypeId × Value → H} {P : Program} {w : World} {base : Nat} {spare : Nat → Bool} {held : Bool}
theorem opens_triple {t : TypeId} {f0 f1 f2 : Field} {α β γ : Type} {a : Kd α} {b : Kd β} {c : Kd γ} {ga : α → Prop} {gb : β → Prop} {gc : γ → Prop} (ht : P.underlying t = some (.struct #[f0, f1, f2])) (o0 : f0.offset = 0) (o1 : f1.offset = a.sz) (o2 : f2.offset = a.sz + b.sz) (ca : P.cellsOf f0.type = a.sz) (cb : P.cellsOf f1.type = b.sz) (cc : P.cellsOf f2.type = c.sz) (ct : P.cellsOf t = a.sz + (b.sz + c.sz))
    (ha : Opens enc P w base spare held f0.type a ga) (hb : Opens enc P w base spare held f1.type b gb) (hc : Opens enc P w base spare held f2.type c gc) : Opens enc P w base spare held t (Kd.pair a (Kd.pair b c)) (fun x => ga x.1 ∧ gb x.2.1 ∧ gc x.2.2) := by
  intro fuel cs x h
  obtain ⟨y0, y1, y2, n, _, hl, h0, h1, h2⟩ := trod_struct3 ht h
  rw [o0, ca, List.drop_zero] at h0
  rw [o1, cb] at h1
  rw [o2, cc] at h2
  obtain ⟨p, hp, gp⟩ := ha _ _ _ h0
  obtain ⟨q, hq, gq⟩ := hb _ _ _ h1
  obtain ⟨r, hr, gr⟩ := hc _ _ _ h2
  refine ⟨(p, q, r), ⟨cs.take a.sz, cs.drop a.sz, by rw [List.take_append_drop], hp, ⟨(cs.drop a.sz).take b.sz, (cs.drop a.sz).drop b.sz, by rw [List.take_append_drop], hq, ?_⟩⟩, gp, gq, gr⟩
  rw [List.drop_drop]
  rw [List.take_of_length_le (l := cs.drop (a.sz + b.sz)) (by rw [List.length_drop, hl, ct]; omega)] at hr
  exact hr
end
end Go.Proofs.YtmcjfnebkpifnaaDoor
