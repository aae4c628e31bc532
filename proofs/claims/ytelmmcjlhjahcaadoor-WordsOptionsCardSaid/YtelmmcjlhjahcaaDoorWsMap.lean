/-
  The map of a command's options; the test of an option.
-/
import Derived.Test.YtelmmcjlhjahcaaDoorWsPure
import Derived.Test.YtelmmcjlhjahcaaDoorShelfO
import Derived.Maps.OwnSet
import Derived.Maps.StringElems
namespace Go.Proofs.YtelmmcjlhjahcaaDoor
open Go.RowKit Go.Proofs.YtelmmcjlhjahcaaDoorW.PrintWords Go.Proofs.YtelmmcjlhjahcaaDoorW.PrintLast Go.Proofs.YtelmmcjlhjahcaaDoorW.PrintMore Go.Proofs.YtelmmcjlhjahcaaDoor.PWordsOptions
set_option linter.unusedVariables false
set_option linter.unusedSimpArgs false

theorem wf8 {c : Int} (h0 : 0 ≤ c) (h1 : c < 256) : (Lit.int .u8 c).wf = true := WalkArith.wf_u8 ⟨h0, by omega⟩
def MapAt (w : World) (b u : Nat) (os : List SO) : Prop :=
  ∃ D : DataW Unit, w.ownsMap Tryd.prog 5 (plainElem Tryd.prog 9) b u D ∧
    (∀ c : Int, 0 ≤ c → c < 256 → D.atKey (.int .u8 c) (.lit (.string [])) = .lit (.string (valOf os c).data.toList)) ∧
    (∀ c : Int, 0 ≤ c → c < 256 → Maps.has D (.int .u8 c) = hasOf os c) ∧ Maps.size D = cntOf (hasOf os)
theorem MapAt.made (w : World) (u : Nat) : MapAt (w.alloc (.map #[] 0)) w.heap.size u [] :=
  ⟨.map [], (World.ownsMap_made w Tryd.prog 5 _).mono (Nat.zero_le _), fun c _ _ => rfl, fun c _ _ => rfl, by
    have : cntOf (hasOf []) = 0 := by unfold cntOf; simp [hasOf_nil]
    rw [this]; rfl⟩
theorem MapAt.below {w w' : World} {b u : Nat} {os : List SO} (h : MapAt w b u os) (hb : Below w.heap.size w w') : MapAt w' b u os := by
  obtain ⟨D, h1, h2⟩ := h
  exact ⟨D, h1.kept (grown_of_below hb none) (by simp), h2⟩
theorem MapAt.mono {w : World} {b u u' : Nat} {os : List SO} (h : MapAt w b u os) (hu : u ≤ u') : MapAt w b u' os := by
  obtain ⟨D, h1, h2⟩ := h
  exact ⟨D, h1.mono hu, h2⟩
theorem MapAt.congr {w : World} {b u : Nat} {os os' : List SO} (h : MapAt w b u os) (hv : ∀ c, valOf os c = valOf os' c) (hh : ∀ c, hasOf os c = hasOf os' c) : MapAt w b u os' := by
  obtain ⟨D, h1, h2, h3, h4⟩ := h
  have e : hasOf os = hasOf os' := funext hh
  exact ⟨D, h1, fun c a b => by rw [h2 c a b, hv c], fun c a b => by rw [h3 c a b, hh c], by rw [h4, e]⟩
theorem MapAt.look {w : World} {b u : Nat} {os : List SO} (h : MapAt w b u os) (c : Int) (h0 : 0 ≤ c) (h1 : c < 256) :
    (Instr.lookup 61 (.map (some b)) (.int .u8 c) true).run Tryd.prog w = .ok (.tuple #[.string (valOf os c), .bool (hasOf os c)]) w := by
  obtain ⟨D, g1, g2, g3, g4⟩ := h
  obtain ⟨v, ps, hr, hv⟩ := g1.look_ok (z := .string ⟨#[]⟩) (Go.Maps.int_keyed Tryd.underlying5) Tryd.underlying61 (by kernel_rfl) (plainElem_string Tryd.underlying9 (s := ⟨#[]⟩) (by decide)) (Go.Maps.keyOf_int_mk Tryd.underlying5 (wf8 h0 h1))
  have g2' := g2 c h0 h1
  rw [g3 c h0 h1] at hr
  obtain ⟨s, rfl, hz, _⟩ := plainElem_string_inv Tryd.underlying9 hv
  rw [hr]
  have e1 := (Prod.mk.inj hz).1
  have e1' : (DataW.lit (.string (valOf os c).data.toList) : DataW Unit) = .lit (.string s.data.toList) := g2'.symm.trans e1
  have e3 := Lit.string.inj (DataW.lit.inj e1')
  have e2 : s = valOf os c := by
    apply ByteArray.ext
    exact (Array.toList_inj.1 e3).symm
  rw [e2]
theorem MapAt.len {w : World} {b u : Nat} {os : List SO} (h : MapAt w b u os) (ty : TypeId) : (Builtin.len_ #[61] ty #[.map (some b)]).run Tryd.prog w = .ok (.int .i64 (cntOf (hasOf os))) w := by
  obtain ⟨D, g1, g2, g3, g4⟩ := h
  rw [g1.len Tryd.underlying61 ty, g4]
theorem MapAt.put {w : World} {b u : Nat} {os : List SO} (h : MapAt w b u os) (c : Int) (v : ByteArray) (h0 : 0 ≤ c) (h1 : c < 256) (hv : v.size ≤ 100000) (hu : u < 1000000) :
    ∃ w', (Instr.mapUpdate 61 (.map (some b)) (.int .u8 c) (.string v)).run Tryd.prog w = .ok () w' ∧ MapAt w' b (u + 1) (os ++ [⟨c, v⟩]) ∧ w.grownBy w' (some b) := by
  obtain ⟨D, g1, g2, g3, g4⟩ := h
  obtain ⟨w', hr, ho, hg⟩ := g1.update (val := .string v) (Go.Maps.int_keyed Tryd.underlying5) Tryd.underlying61 (by unfold maxLen; omega) (Go.Maps.keyOf_int_mk Tryd.underlying5 (wf8 h0 h1)) (plainElem_string Tryd.underlying9 (by unfold maxLen; omega))
  have hkey : WideAt.IsKeyLit (.int .u8 c) := by simp [WideAt.IsKeyLit]
  refine ⟨w', hr, ⟨_, ho, fun j j0 j1 => ?_, fun j j0 j1 => ?_, ?_⟩, hg⟩
  · rw [valOf_add]
    by_cases e : j = c
    · subst e
      rw [Go.Maps.atKey_put_same g1.isMap hkey, if_pos rfl]
    · rw [Go.Maps.atKey_put_other (by intro h; injection h with _ h; exact e h), g2 j j0 j1, if_neg (fun h => e h.symm)]
  · rw [hasOf_add]
    by_cases e : j = c
    · subst e
      rw [Go.Maps.has_put_same g1.isMap hkey]; simp
    · rw [Go.Maps.has_put_other (by intro h; injection h with _ h; exact e h), g3 j j0 j1, decide_eq_false (fun h => e h.symm), Bool.or_false]
  · rw [Go.Maps.size_put (g1.tidy (Go.Maps.int_keyed Tryd.underlying5)), g3 c h0 h1, g4]
    have e : hasOf (os ++ [⟨c, v⟩]) = fun x => hasOf os x || decide (c = x) := funext (fun x => hasOf_add os ⟨c, v⟩ x)
    rw [e, cnt_put _ c h0 h1]

theorem option_calls (s : ByteArray) (w : World) :
    Calls Tryd.prog 51 #[.string s] w fun e w' => e = .returned (.tuple #[.int .u8 (if optB s = true then bt s 1 else 0), .bool (optB s)]) ∧ w' = w := by
  by_cases h2 : s.size = 2
  · have e0 := btO s 0 (by omega)
    have e1 := btO s 1 (by omega)
    rw [show ((0 : Nat) : Int) = 0 from rfl] at e0
    rw [show ((1 : Nat) : Int) = 1 from rfl] at e1
    have hs2 : ((s.size : Int) == 2) = true := beq_iff_eq.2 (by omega)
    have hs2' : ((s.size : Int) != 2) = false := by simp [h2]
    have p0 : (0 : Int) < (s.size : Int) := by omega
    have p1 : (1 : Int) < (s.size : Int) := by omega
    have p0' : 0 < s.size := by omega
    have p1' : 1 < s.size := by omega
    by_cases h45 : s[0].toNat = 45
    · have b45 : ((s[0].toNat : Int) == 45) = true := beq_iff_eq.2 (by omega)
      have b45' : ((s[0].toNat : Int) != 45) = false := by simp [h45]
      by_cases h97 : 97 ≤ s[1].toNat
      · have b97 : decide ((s[1].toNat : Int) < 97) = false := decide_eq_false (by omega)
        by_cases h122 : s[1].toNat ≤ 122
        · have b122 : decide ((122 : Int) < (s[1].toNat : Int)) = false := decide_eq_false (by omega)
          have ho : optB s = true := decide_eq_true ⟨h2, by omega, by omega, by omega⟩
          rw [ho, if_pos rfl, e1]
          clear ho e0 e1 h45 h97 h122
          go_enter Tryd.func51, Tryd.ntmps51
          go_wp2
          go_ret2
          exact ⟨rfl, rfl⟩
        · have b122 : decide ((122 : Int) < (s[1].toNat : Int)) = true := decide_eq_true (by omega)
          have ho : optB s = false := decide_eq_false (by omega)
          rw [ho, if_neg (by decide)]
          clear ho e0 e1 h45 h97 h122
          go_enter Tryd.func51, Tryd.ntmps51
          go_wp2
          go_ret2
          exact ⟨rfl, rfl⟩
      · have b97 : decide ((s[1].toNat : Int) < 97) = true := decide_eq_true (by omega)
        have ho : optB s = false := decide_eq_false (by omega)
        rw [ho, if_neg (by decide)]
        clear ho e0 e1 h45 h97
        go_enter Tryd.func51, Tryd.ntmps51
        go_wp2
        go_ret2
        exact ⟨rfl, rfl⟩
    · have b45 : ((s[0].toNat : Int) == 45) = false := beq_eq_false_iff_ne.2 (by omega)
      have b45' : ((s[0].toNat : Int) != 45) = true := by simp [bne, b45]
      have ho : optB s = false := decide_eq_false (by omega)
      rw [ho, if_neg (by decide)]
      clear ho e0 e1 h45
      go_enter Tryd.func51, Tryd.ntmps51
      go_wp2
      go_ret2
      exact ⟨rfl, rfl⟩
  · have hs2 : ((s.size : Int) == 2) = false := beq_eq_false_iff_ne.2 (by omega)
    have hs2' : ((s.size : Int) != 2) = true := by simp [bne, hs2]
    have ho : optB s = false := decide_eq_false (fun h => h2 h.1)
    rw [ho, if_neg (by decide)]
    clear ho h2
    go_enter Tryd.func51, Tryd.ntmps51
    go_wp2
    go_ret2
    exact ⟨rfl, rfl⟩
end Go.Proofs.YtelmmcjlhjahcaaDoor
