/-
  num.Digits: what it returns.
-/
import Derived.Test.YtmcjfnebkpifnaaDoorNuNumP
import Derived.Lib.ItoaLen
namespace Go.Proofs.YtmcjfnebkpifnaaDoor
open Go.RowKit Go.Proofs.YtmcjfnebkpifnaaDoorW.PrintWords Go.Proofs.YtmcjfnebkpifnaaDoorW.PrintLast Go.Proofs.YtmcjfnebkpifnaaDoorW.PrintMore
set_option linter.unusedVariables false

theorem ninfoS : (Tryd.prog.info? 9).map (fun i => (i.zero, i.size, i.bytes)) = some (some (.string ByteArray.empty), 1, 16) := by kernel_rfl
theorem int_cell {w : World} {A : Option Addr} {n : Nat} {zs : List Int} (h : (Kd.int .i64).C w A n zs) (k : Nat) (hk : k < n) : ∃ ad, A = some ad ∧ w.cell? (ad.add k) = some (.int .i64 (zs.getD k 0)) := by
  obtain ⟨ad, c, rfl, _, hK, hc⟩ := Kd.C_get h 0 (k : Int) (by omega) (by omega)
  have e : ((k : Int)).toNat = k := Int.toNat_natCast k
  rw [e] at hK hc
  refine ⟨ad, rfl, ?_⟩
  obtain rfl := hK
  have hq := hc 0 _ rfl
  rwa [show (Kd.int .i64).sz = 1 from rfl, Nat.mul_one, Nat.add_zero] at hq
theorem str_cell {w : World} {A : Option Addr} {n : Nat} {zs : List ByteArray} (h : Kd.string.C w A n zs) (k : Nat) (hk : k < n) : ∃ ad, A = some ad ∧ w.cell? (ad.add k) = some (.string (zs.getD k ByteArray.empty)) := by
  obtain ⟨ad, c, rfl, _, hK, hc⟩ := Kd.C_get h ByteArray.empty (k : Int) (by omega) (by omega)
  have e : ((k : Int)).toNat = k := Int.toNat_natCast k
  rw [e] at hK hc
  refine ⟨ad, rfl, ?_⟩
  obtain rfl := hK
  have hq := hc 0 _ rfl
  rwa [show Kd.string.sz = 1 from rfl, Nat.mul_one, Nat.add_zero] at hq

theorem nlit_strings (W : World) (base : Nat) (e : Nat) (xs : List ByteArray) (hb : base ≤ W.heap.size) (hm : xs.length ≤ 100000) : Kd.string.R e (W.alloc (.cells (encs Value.string xs).toArray e)) base (fun _ => True) (.slice (some ⟨W.heap.size, 0, none⟩) xs.length xs.length) xs :=
  Kd.R_of_own (own_lit_of W base e xs hb (by omega)) (fun _ _ => trivial)
theorem nlitC (W : World) (e : Nat) (xs : List ByteArray) (hm : xs.length ≤ 100000) : Kd.string.C (W.alloc (.cells (encs Value.string xs).toArray e)) (some ⟨W.heap.size, 0, none⟩) xs.length xs :=
  (Kd.R_reads' (nlit_strings W 0 e xs (Nat.zero_le _) hm)).2.2
theorem nlit_ints (W : World) (base : Nat) (e : Nat) (xs : List Int) (hb : base ≤ W.heap.size) (hm : xs.length ≤ 100000) : (Kd.int .i64).R e (W.alloc (.cells (encs (Value.int .i64) xs).toArray e)) base (fun _ => True) (.slice (some ⟨W.heap.size, 0, none⟩) xs.length xs.length) xs :=
  Kd.R_of_own (own_lit_of W base e xs hb (by omega)) (fun _ _ => trivial)
theorem nlitI (W : World) (e : Nat) (xs : List Int) (hm : xs.length ≤ 100000) : (Kd.int .i64).C (W.alloc (.cells (encs (Value.int .i64) xs).toArray e)) (some ⟨W.heap.size, 0, none⟩) xs.length xs :=
  (Kd.R_reads' (nlit_ints W 0 e xs (Nat.zero_le _) hm)).2.2
/-- Texts, a comma between. -/
def joinS (l : List ByteArray) : ByteArray := ⟨(Lib.join (l.map (·.data.toList)) [44]).toArray⟩
theorem digS_size (n : Int) : (digS n).size ≤ 21 := by
  unfold digS
  split
  · decide
  · have := Lib.itoa_length_le n (by omega) (by omega)
    show (Lib.itoa n).toArray.size ≤ 21
    simpa using this
theorem lens_le : ∀ (l : List (List UInt8)), (∀ x ∈ l, x.length ≤ 21) → Lib.lens l ≤ 21 * l.length
  | [], _ => by simp [Lib.lens]
  | x :: r, h => by
    have h1 := h x List.mem_cons_self
    have h2 := lens_le r (fun y hy => h y (List.mem_cons_of_mem _ hy))
    simp only [Lib.lens, List.map_cons, List.sum_cons, List.length_cons] at h2 ⊢
    omega
theorem joinS_len (zs : List Int) (sep : List UInt8) (hs : sep.length = 1) : (Lib.join ((zs.map digS).map (·.data.toList)) sep).length ≤ 22 * zs.length := by
  cases zs with
  | nil => simp [Lib.join_nil]
  | cons z r =>
    rw [List.map_cons, List.map_cons, Lib.join_length]
    have h := lens_le (((digS z).data.toList) :: ((r.map digS).map (·.data.toList))) (fun x hx => by
      rcases List.mem_cons.1 hx with rfl | hx
      · have := digS_size z; simpa using this
      · obtain ⟨y, hy, rfl⟩ := List.mem_map.1 hx
        obtain ⟨u, _, rfl⟩ := List.mem_map.1 hy
        have := digS_size u; simpa using this)
    simp only [List.length_cons, List.length_map] at h ⊢
    rw [hs]
    omega
theorem join_calls (w : World) (A : Option Addr) (c : Nat) (l : List ByteArray) (h : Kd.string.C w A l.length l) (hc : l.length ≤ c) (hN : l.length ≤ 1000000) (hl : (Lib.join (l.map (·.data.toList)) [44]).length ≤ 140737488355328) :
    Calls Tryd.prog 70 #[.slice A l.length c, .string ⟨#[44]⟩] w fun e w' => e = .returned (.string (joinS l)) ∧ Below w.heap.size w w' := by
  by_cases h0 : l.length = 0
  · have hl0 : l = [] := List.eq_nil_of_length_eq_zero h0
    subst hl0
    exact (Tryd.strings_Join_none A c _ w).mono fun e w' ⟨h1, h2⟩ => ⟨by rw [h1]; rfl, by rw [h2]; exact Below.refl _ _⟩
  · obtain ⟨⟨bk, o, sub⟩, rfl, hc0⟩ := str_cell h 0 (by omega)
    have hsub : sub = none := by
      cases sub with
      | none => rfl
      | some s => simp only [World.cell?, Addr.add] at hc0; split at hc0 <;> cases hc0
    subst hsub
    refine Tryd.strings_Join bk o c l ⟨#[44]⟩ w (fun j x hj => ?_) (Lib.lt_of_cell hc0) (by omega) hc hl
    have hjl : j < l.length := (List.getElem?_eq_some_iff.1 hj).1
    obtain ⟨ad, had, hcj⟩ := str_cell h j hjl
    obtain rfl := (Option.some.inj had).symm
    rw [List.getD_eq_getElem?_getD, hj] at hcj
    by_cases h00 : j = 0
    · subst h00; simpa [Addr.add] using hcj
    · simpa [Addr.add, h00] using hcj

theorem take_map {α β : Type} (f : α → β) (d : α) (l : List α) (k : Nat) (hk : k < l.length) : (l.map f).take (k + 1) = (l.map f).take k ++ [f (l.getD k d)] := by
  rw [List.take_add_one, List.getElem?_map, List.getElem?_eq_getElem hk, List.getD_eq_getElem?_getD, List.getElem?_eq_getElem hk]
  rfl
set_option maxHeartbeats 4000000 in
theorem digits_all (w : World) (A : Option Addr) (n c : Nat) (zs : List Int) (hr : (Kd.int .i64).C w A n zs) (hn : n ≤ 1000) (hT : NumT w) :
    Calls Tryd.prog 58 #[.slice A n c] w fun e w' => e = .returned (.string (joinS (zs.map digS))) ∧ Below w.heap.size w w' := by
  have hlen := Kd.C_len hr
  have HR := Aside0.mk hr
  have HT := Aside0.mk hT
  have HDS := Aside0.mk (take_map digS 0 zs)
  have hjl := joinS_len zs [44] rfl
  have hml : (zs.map digS).length = n := by simp; omega
  generalize zs.map digS = ds at *
  clear hr hT
  go_enter Tryd.func58, Tryd.ntmps58
  go_wp2
  go_loopw [3, 8] (fun v i wr => ∃ k : Nat, k ≤ n ∧ i = .int .i64 k ∧ ∃ A' n' c', v = .slice A' n' c' ∧ Kd.string.R 9 wr w.heap.size (fun _ => True) v (ds.take k) ∧ Below w.heap.size w wr) (fun _ i _ => n - (intOf i).toNat)
  case atStart => exact ⟨0, by omega, rfl, none, 0, 0, rfl, Kd.R_nil _ _ _ _ _, Below.refl _ _⟩
  case round =>
    obtain ⟨k, hk, rfl, A', n', c', rfl, hR2, hB2⟩ := hrel
    have HR2 := Aside0.mk hR2
    have HB2 := Aside0.mk hB2
    have hsz := hB2.size
    clear hR2 hB2
    by_cases hlt : k < n
    · obtain ⟨ad, rfl, hcell⟩ := int_cell (Kd.C_below HR.out HB2.out) k hlt
      have HTK := Aside0.mk (HDS.out k (by omega))
      obtain ⟨z, hz⟩ : ∃ z, z = zs.getD k 0 := ⟨_, rfl⟩
      rw [← hz] at hcell HTK
      have HD := Aside0.mk (digits_calls z wr (HT.out.below HB2.out))
      clear hz
      go_wp2_with (go_at_call 69; refine HD.out.mono ?_; rintro e w1 ⟨rfl, hb1⟩; refine Hid.out ?_)
      have hCL := nlitC w1 9 [digS z] (by simp)
      have HC2 := Aside0.mk (nlitC w1 9 [digS z] (by simp))
      have HB3 := Aside0.mk (below_alloc (HB2.out.trans (hb1.mono HB2.out.size)) (.cells #[.string (digS z)] 9))
      have HR3 := Aside0.mk (Kd.R_alloc (Kd.R_below HR2.out hb1) (.cells #[.string (digS z)] 9))
      have hsz1 := hb1.size
      have hle : (ds.take k).length ≤ 1000 := by rw [List.length_take]; omega
      clear hCL hb1 HD
      refine Lib.hid ?_
      go_wp2_with (at_builtin; refine Kd.R_append_row Value.string ByteArray.empty (w0 := w) w.heap.size rfl (.tmp 12) (.tmp 15) 88 9 (.string ByteArray.empty) 16 rfl Tryd.underlying88 ninfoS rfl (by decide) (.slice A' n' c') (ds.take k) [digS z] (some ⟨w1.heap.size, 0, none⟩) 1 1 (fun _ => True) rfl rfl (fun _ _ => trivial) HR3.out HC2.out HB3.out ?aS ?aL ?_)
      case aS => simp; omega
      case aL => omega
      intro v1 w2 ho hb2 _ _
      obtain ⟨A4, n4, c4, rfl⟩ := sl_of_R ho
      rw [← HTK.out] at ho
      have RO := Aside0.mk ho
      have HBO := Aside0.mk hb2
      clear ho hb2
      go_wp2
      go_roundw
      case rel => exact ⟨k + 1, by omega, by go_num, _, _, _, rfl, RO.out, HBO.out⟩
      case measure => simp [intOf]; omega
    · have hkn : k = n := by omega
      have HK : ds.take k = ds := by rw [hkn, ← hml, List.take_length]
      rw [HK] at HR2
      clear HK
      obtain ⟨hn', hc', hC'⟩ := Kd.R_reads' HR2.out
      subst hn'
      have HJ := Aside0.mk (join_calls wr A' c' ds hC' hc' (by omega) (by omega))
      clear hC' hjl hml hkn
      go_wp2_with (go_at_call 70; refine HJ.out.mono ?_; rintro e w1 ⟨rfl, hb1⟩)
      go_ret
      exact ⟨rfl, HB2.out.trans (hb1.mono HB2.out.size)⟩
end Go.Proofs.YtmcjfnebkpifnaaDoor
