/-
  fault.Is.
-/
import Derived.Test.YtelmmcjlhjahcaaDoorIsTop
import Derived.Test.YtelmmcjlhjahcaaDoorFaAl
namespace Go.Proofs.YtelmmcjlhjahcaaDoor
open Go.RowKit Go.Proofs.YtelmmcjlhjahcaaDoorW.PrintWords Go.Proofs.YtelmmcjlhjahcaaDoorW.PrintLast Go.Proofs.YtelmmcjlhjahcaaDoorW.PrintMore
set_option linter.unusedVariables false
set_option linter.unusedSimpArgs false
set_option maxRecDepth 100000

/-- The numbers that an error tells, from w on. -/
def Tells (w : World) (v : Value) (p : Int → Bool) : Prop := ∀ W, Below w.heap.size w W → ∀ k, Calls Tryd.prog 50 #[v, .iface 33 (.int .i64 k)] W fun e w' => e = .returned (.bool (p k)) ∧ w' = W
theorem Tells.below {w w' : World} {v : Value} {p : Int → Bool} (h : Tells w v p) (hb : Below w.heap.size w w') : Tells w' v p := fun W hw k => h W (hb.trans (hw.mono hb.size)) k

theorem fis1_calls (g : Nat) (v : Value) (p : Int → Bool) (k : Int) (w : World) (hc : w.cell? ⟨g, 0, none⟩ = some v) (ht : Tells w v p) :
    Calls Tryd.prog 49 #[.int .i64 k, .pointer (some ⟨g, 0, none⟩)] w fun e w' => e = .returned (.bool (p k)) ∧ w' = w := by
  have HC := Aside0.mk (ht w (Below.refl _ _) k)
  clear ht
  go_enter Tryd.func49, Tryd.ntmps49
  go_wp2_with (go_at_call 50; refine HC.out.mono ?_; rintro e w' ⟨rfl, rfl⟩)
  go_ret
  exact ⟨rfl, rfl⟩

theorem int_cellE {w : World} {A : Option Addr} {n : Nat} {zs : List Int} (h : (Kd.int .i64).C w A n zs) (k : Nat) (hk : k < n) : ∃ ad, A = some ad ∧ w.cell? (ad.add k) = some (.int .i64 (zs.getD k 0)) := by
  have hl := Kd.C_len h
  obtain ⟨a, rfl, hh⟩ := h.2.2 (by omega)
  refine ⟨a, rfl, ?_⟩
  have hz : zs[k]? = some (zs.getD k 0) := by rw [List.getD_eq_getElem?_getD, List.getElem?_eq_getElem (by omega)]; rfl
  obtain ⟨cs, h1, h2, h3⟩ := hh k _ hz
  have h1' : cs = [.int .i64 (zs.getD k 0)] := h2
  subst h1'
  have hq := h3 0 _ rfl
  rwa [show (Kd.int .i64).sz = 1 from rfl, Nat.mul_one, Nat.add_zero] at hq
theorem any_drop (p : Int → Bool) (xs : List Int) (k : Nat) (hk : k < xs.length) : (xs.drop k).any p = (p (xs.getD k 0) || (xs.drop (k + 1)).any p) := by
  rw [List.drop_eq_getElem_cons hk, List.any_cons, List.getD_eq_getElem?_getD, List.getElem?_eq_getElem hk]; rfl

set_option maxHeartbeats 4000000 in
theorem ifn_calls (g : Nat) (v : Value) (p : Int → Bool) (A : Option Addr) (n c : Nat) (xs : List Int) (w : World) (hl : n ≤ 100000) (hr : (Kd.int .i64).C w A n xs) (hc : w.cell? ⟨g, 0, none⟩ = some v) (ht : Tells w v p) :
    Calls Tryd.prog 65 #[.slice A n c, .func (.func 49) #[] #[.pointer (some ⟨g, 0, none⟩)]] w fun e w' => ∃ r : Int, e = .returned (.int .i64 r) ∧ (decide (0 ≤ r) = xs.any p) ∧ w' = w := by
  have HF : Aside0 (∀ k, Calls Tryd.prog 49 #[.int .i64 k, .pointer (some ⟨g, 0, none⟩)] w fun e w' => e = .returned (.bool (p k)) ∧ w' = w) := ⟨fun k => fis1_calls g v p k w hc ht⟩
  have HN := Aside0.mk (Kd.C_len hr)
  have HR := Aside0.mk hr
  clear hr hc ht
  go_enter Tryd.func65, Tryd.ntmps65
  go_wp2
  go_loopw [8] (fun i wr => wr = w ∧ ∃ k : Nat, k ≤ n ∧ i = .int .i64 k ∧ Aside0 ((xs.drop k).any p = xs.any p)) (fun i _ => n - (intOf i).toNat)
  case atStart => exact ⟨rfl, 0, by omega, rfl, ⟨rfl⟩⟩
  case round =>
    obtain ⟨rfl, k, hk, rfl, HA⟩ := hrel
    by_cases hlt : k < n
    · obtain ⟨ad, rfl, hcell⟩ := int_cellE HR.out k hlt
      have hd := any_drop p xs k (by have := HN.out; omega)
      rw [HA.out] at hd
      obtain ⟨z, hz⟩ : ∃ z, z = xs.getD k 0 := ⟨_, rfl⟩
      rw [← hz] at hcell hd
      clear hz
      cases hp : p z with
      | true =>
        have HFk := Aside0.mk (HF.out z)
        rw [hp] at HFk
        have HD : Aside0 (xs.any p = true) := ⟨by rw [hd, hp]; rfl⟩
        clear hd hp
        go_wp2_with (go_at_call 49; refine HFk.out.mono ?_; rintro e w1 ⟨rfl, rfl⟩)
        go_ret
        exact ⟨_, rfl, by rw [HD.out]; simp, rfl⟩
      | false =>
        have HFk := Aside0.mk (HF.out z)
        rw [hp] at HFk
        have HD : Aside0 ((xs.drop (k + 1)).any p = xs.any p) := ⟨by rw [hd, hp]; rfl⟩
        clear hd hp
        go_wp2_with (go_at_call 49; refine HFk.out.mono ?_; rintro e w1 ⟨rfl, rfl⟩)
        go_roundw
        case rel => exact ⟨trivial, k + 1, by omega, by go_num, HD⟩
        case measure => simp [intOf]; omega
    · have HD : Aside0 (xs.any p = false) := ⟨by rw [← HA.out, List.drop_eq_nil_of_le (by have := HN.out; omega)]; rfl⟩
      clear HA
      go_wp2
      go_ret
      exact ⟨_, rfl, by rw [HD.out]; rfl, rfl⟩

theorem cfn_calls (g : Nat) (v : Value) (p : Int → Bool) (A : Option Addr) (n c : Nat) (xs : List Int) (w : World) (hl : n ≤ 100000) (hr : (Kd.int .i64).C w A n xs) (hc : w.cell? ⟨g, 0, none⟩ = some v) (ht : Tells w v p) :
    Calls Tryd.prog 48 #[.slice A n c, .func (.func 49) #[] #[.pointer (some ⟨g, 0, none⟩)]] w fun e w' => e = .returned (.bool (xs.any p)) ∧ w' = w := by
  have HC := Aside0.mk (ifn_calls g v p A n c xs w hl hr hc ht)
  clear hr hc ht
  go_enter Tryd.func48, Tryd.ntmps48
  go_wp2_with (go_at_call 65; refine HC.out.mono ?_; rintro e w1 ⟨r, rfl, hr, rfl⟩)
  go_ret
  exact ⟨by rw [← hr]; rfl, rfl⟩

/-- fault.Is of an error (none: nil). -/
theorem fis_calls (o : Option (TypeId × Value)) (p : Int → Bool) (A : Option Addr) (n c : Nat) (xs : List Int) (w : World) (hl : n ≤ 100000) (hr : (Kd.int .i64).C w A n xs) (ht : Tells w (encE o) p) :
    Calls Tryd.prog 27 #[encE o, .slice A n c] w fun e w' => e = .returned (.bool (xs.any p)) ∧ Below w.heap.size w w' := by
  have hb : Below w.heap.size w (w.alloc (.cells #[encE o] 29)) := below_alloc (Below.refl _ _) _
  have HB := Aside0.mk hb
  have HC := Aside0.mk (cfn_calls w.heap.size (encE o) p A n c xs (w.alloc (.cells #[encE o] 29)) hl (Kd.C_below hr hb) (by simp) (ht.below hb))
  clear hb hr ht
  rcases o with _ | ⟨t, x⟩
  · simp only [encE] at HC HB ⊢
    go_enter Tryd.func27, Tryd.ntmps27
    go_wp2_with (go_at_call 48; refine HC.out.mono ?_; rintro e w1 ⟨rfl, rfl⟩)
    go_ret
    exact ⟨rfl, HB.out⟩
  · simp only [encE] at HC HB ⊢
    go_enter Tryd.func27, Tryd.ntmps27
    go_wp2_with (go_at_call 48; refine HC.out.mono ?_; rintro e w1 ⟨rfl, rfl⟩)
    go_ret
    exact ⟨rfl, HB.out⟩
end Go.Proofs.YtelmmcjlhjahcaaDoor
