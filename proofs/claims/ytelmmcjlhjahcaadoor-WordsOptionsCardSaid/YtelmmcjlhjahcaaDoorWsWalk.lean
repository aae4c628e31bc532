/-
  words.Options: the walk.
-/
import Derived.Test.YtelmmcjlhjahcaaDoorWsMap
import Derived.Test.YtelmmcjlhjahcaaDoorFault
import Derived.Lib.IndexLaws
namespace Go.Proofs.YtelmmcjlhjahcaaDoor
open Go.RowKit Go.Proofs.YtelmmcjlhjahcaaDoorW.PrintWords Go.Proofs.YtelmmcjlhjahcaaDoorW.PrintLast Go.Proofs.YtelmmcjlhjahcaaDoorW.PrintMore Go.Proofs.YtelmmcjlhjahcaaDoor.PWordsOptions
attribute [local go_sem] min2_int min_two
set_option linter.unusedVariables false
set_option linter.unusedSimpArgs false

def optW : ByteArray := ⟨#[111, 112, 116, 105, 111, 110]⟩
/-- What the error of options is: its number, its place. -/
def OptErr (w : World) (base : Nat) (v : Value) (e at_ : Int) : Prop :=
  ∃ g f, v = .iface 83 (.pointer (some ⟨g, 0, none⟩)) ∧ Inside w base g (.iface 77 (.pointer (some ⟨f, 0, none⟩))) [optW] ∧ base ≤ f ∧ w.heap[f]? = some (.cells #[.int .i64 e, .int .i64 at_] 81 (0, 0))

theorem index_takes (t : ByteArray) (c : Int) (h0 : 0 ≤ c) (h1 : c ≤ 255) : decide (Lib.indexByte t.data.toList c.toNat.toUInt8 < 0) = !takesB t c := by
  have hge := Lib.indexByte_ge t.data.toList c.toNat.toUInt8
  have hc : ∀ b : UInt8, ((b.toNat : Int) = c) ↔ b = c.toNat.toUInt8 := by
    intro b
    constructor
    · intro h
      apply UInt8.toNat_inj.1
      have : c.toNat.toUInt8.toNat = c.toNat % 256 := by simp
      rw [this]; omega
    · intro h
      rw [h]
      have : c.toNat.toUInt8.toNat = c.toNat % 256 := by simp
      rw [this]; omega
  by_cases h : Lib.indexByte t.data.toList c.toNat.toUInt8 = -1
  · rw [h]
    have hn := Lib.indexByte_none h
    have : takesB t c = false := by
      unfold takesB
      rw [List.any_eq_false]
      intro b hb
      obtain ⟨k, hk⟩ := List.mem_iff_getElem?.1 hb
      have := hn k
      rw [hk] at this
      simp only [decide_eq_true_eq]
      intro e
      exact this (by rw [(hc b).1 e])
    rw [this]; rfl
  · obtain ⟨o, ho⟩ : ∃ o : Nat, Lib.indexByte t.data.toList c.toNat.toUInt8 = (o : Int) := ⟨(Lib.indexByte t.data.toList c.toNat.toUInt8).toNat, by omega⟩
    obtain ⟨hs, _⟩ := Lib.indexByte_some ho
    have : takesB t c = true := by
      unfold takesB
      rw [List.any_eq_true]
      exact ⟨_, List.mem_of_getElem? hs, decide_eq_true ((hc _).2 rfl)⟩
    rw [this, ho]
    exact decide_eq_false (by omega)

theorem clone_any (w : World) (A : Option Addr) (n c : Nat) (xs : List ByteArray) (hr : Kd.string.C w A n xs) (hc : n ≤ c) (hn : n ≤ 100000) :
    Calls Tryd.prog 41 #[.slice A n c] w fun ev w' => ∃ A2 m k, ev = .returned (.slice A2 m k) ∧ Kd.string.R 9 w' w.heap.size (fun _ => True) (.slice A2 m k) xs ∧ Below w.heap.size w w' := by
  have hl := Kd.C_len hr
  cases A with
  | none =>
    have h0 : xs = [] := by
      cases xs with
      | nil => rfl
      | cons x xs =>
        obtain ⟨ad, h, _⟩ := hr.2.2 (by simp at hl; omega)
        cases h
    subst h0
    exact (Tryd.slices_Clone_string_nil n c w).mono fun e w' ⟨h1, h2⟩ => ⟨none, 0, 0, h1, Kd.R_nil _ _ _ _ _, by rw [h2]; exact Below.refl _ _⟩
  | some a => exact clone_calls a n c xs w hl hc hn hr

theorem opt_range {s : ByteArray} (h : optB s = true) : 97 ≤ bt s 1 ∧ bt s 1 ≤ 122 := (of_decide_eq_true h).2.2
theorem str_cellO {w : World} {A : Option Addr} {n : Nat} {zs : List ByteArray} (h : Kd.string.C w A n zs) (k : Nat) (hk : k < n) : ∃ ad, A = some ad ∧ w.cell? (ad.add k) = some (.string (zs.getD k ByteArray.empty)) := by
  obtain ⟨ad, c, rfl, _, hK, hc⟩ := Kd.C_get h ByteArray.empty (k : Int) (by omega) (by omega)
  have e : ((k : Int)).toNat = k := Int.toNat_natCast k
  rw [e] at hK hc
  refine ⟨ad, rfl, ?_⟩
  obtain rfl := hK
  have hq := hc 0 _ rfl
  rwa [show Kd.string.sz = 1 from rfl, Nat.mul_one, Nat.add_zero] at hq
theorem dropL (l : List ByteArray) (i : Nat) (h : i < l.length) : l.drop i = l.getD i ByteArray.empty :: l.drop (i + 1) := by
  rw [List.drop_eq_getElem_cons h, List.getD_eq_getElem?_getD, List.getElem?_eq_getElem h]; rfl

/-- What Options leaves. -/
def OptPost (l : List ByteArray) (w : World) (r : List SO × Nat × Int × Int) (e : Ending) (w' : World) : Prop :=
  Below w.heap.size w w' ∧
    (r.2.2.1 = 0 → ∃ b A n c, e = .returned (.tuple #[.map (some b), .slice A n c, .nilIface]) ∧ MapAt w' b 1000 r.1 ∧ Kd.string.C w' A n (l.drop r.2.1) ∧ n ≤ c ∧ r.2.2.2 = 0) ∧
    (r.2.2.1 ≠ 0 → ∃ v, e = .returned (.tuple #[.map none, .slice none 0 0, v]) ∧ r.1 = [] ∧ r.2.2.1 = 2 ∧ OptErr w' w.heap.size v 2 r.2.2.2)
theorem rest_calls (w w1 : World) (A : Option Addr) (c : Nat) (l : List ByteArray) (m : Nat) (hm : m ≤ l.length) (hr : Kd.string.C w A l.length l) (hc : l.length ≤ c) (hl : l.length ≤ 100000) (hb : Below w.heap.size w w1) :
    Calls Tryd.prog 41 #[.slice (if c = m then A else A.map (·.add (m * 1))) (l.length - m) (c - m)] w1 fun ev w' => ∃ A2 n k, ev = .returned (.slice A2 n k) ∧ Kd.string.C w' A2 n (l.drop m) ∧ n ≤ k ∧ Below w1.heap.size w1 w' := by
  have h1 := Kd.C_drop (Kd.C_below hr hb) hm hc
  have e : (l.drop m).length = l.length - m := List.length_drop
  rw [e] at h1
  refine (clone_any w1 _ _ (c - m) (l.drop m) h1 (by omega) (by omega)).mono ?_
  rintro ev w' ⟨A2, n, k, q1, q2, q3⟩
  obtain ⟨r1, r2, r3⟩ := Kd.R_reads' q2
  exact ⟨A2, n, k, q1, by rw [r1]; exact r3, r2, q3⟩

set_option maxHeartbeats 8000000 in
theorem options_calls (w : World) (A : Option Addr) (c : Nat) (l : List ByteArray) (tk : ByteArray) (hr : Kd.string.C w A l.length l) (hc : l.length ≤ c) (hl : l.length ≤ 50) (hi : ∀ x ∈ l, x.size ≤ 100) :
    Calls Tryd.prog 32 #[.slice A l.length c, .string tk] w (OptPost l w (optAns tk l)) := by
  obtain ⟨r, hr0⟩ : ∃ r, r = optAns tk l := ⟨_, rfl⟩
  rw [← hr0]
  have HRR := Aside0.mk hr0
  have HR := Aside0.mk hr
  have HC := Aside0.mk hc
  have HI : Aside0 (∀ k, k < l.length → (l.getD k ByteArray.empty).size ≤ 100) := ⟨fun k hk => by
    have : l.getD k ByteArray.empty ∈ l := by
      rw [List.getD_eq_getElem?_getD, List.getElem?_eq_getElem hk]
      exact List.getElem_mem _
    exact hi _ this⟩
  obtain ⟨i0, hi0⟩ : ∃ i0, Tryd.prog.info? 9 = some i0 ∧ i0.size = 1 := by
    have h := finfoS
    cases hq : Tryd.prog.info? 9 with
    | none => rw [hq] at h; cases h
    | some i => rw [hq] at h; refine ⟨i, rfl, ?_⟩; simp at h; exact h.2.1
  have HCUT : Aside0 (∀ (m : Nat), m ≤ l.length → ∀ W : World, (Instr.slice 36 (.slice A l.length c) (some (.int .i64 (m : Int))) none none).run Tryd.prog W = .ok (.slice (if c = m then A else A.map (·.add (m * 1))) (l.length - m) (c - m)) W) := ⟨fun m hm W => by
    have := cut_from (P := Tryd.prog) 36 9 .i64 Tryd.underlying36 hi0.1 1 hi0.2 A l.length c (m : Int) (by omega) (by omega) W
    rwa [Int.toNat_natCast] at this⟩
  have HREST := Aside0.mk (fun (w1 : World) (m : Nat) (hm : m ≤ l.length) (hb : Below w.heap.size w w1) => rest_calls w w1 A c l m hm hr hc (by omega) hb)
  have HMADE := Aside0.mk (MapAt.made w 0)
  have HB0 := Aside0.mk (below_alloc (Below.refl w.heap.size w) (.map #[] 0))
  have hmm := @run_makeMap Tryd.prog
  clear hr0 hr hc hi hi0
  go_enter Tryd.func32, Tryd.ntmps32
  go_wp2
  go_loopw [8] (fun i wr => ∃ (k : Nat) (os : List SO), i = .int .i64 k ∧ k ≤ l.length + 1 ∧ Aside0 (1 ≤ k ∧ (k = l.length + 1 → l = [])) ∧ Aside0 (optL tk k (l.drop k) os = r) ∧ Aside0 (MapAt wr w.heap.size (2 * k) os) ∧ Aside0 (Below w.heap.size w wr)) (fun i _ => l.length + 1 - (intOf i).toNat)
  case atStart => exact ⟨1, [], rfl, by omega, ⟨Nat.le_refl _, fun h => List.eq_nil_of_length_eq_zero (by omega)⟩, ⟨HRR.out.symm⟩, ⟨HMADE.out.mono (by omega)⟩, HB0⟩
  case round =>
    obtain ⟨k, os, rfl, hk, HK1, HO, HM, HB⟩ := hrel
    have hsz := HB.out.size
    by_cases hlt : k < l.length
    · obtain ⟨ad, rfl, hcell⟩ := str_cellO (Kd.C_below HR.out HB.out) k hlt
      have HD := Aside0.mk (dropL l k hlt)
      have hz100 := HI.out k hlt
      have hm := Kd.C_max HR.out
      obtain ⟨z, hz⟩ : ∃ z, z = l.getD k ByteArray.empty := ⟨_, rfl⟩
      rw [← hz] at hcell HD hz100
      clear hz
      by_cases hda : dashB z = true
      · have hdb : (z.toList == ([45, 45] : List UInt8)) = true := hda
        have HE : Aside0 ((os, k + 1, 0, 0) = r) := ⟨by rw [← HO.out, HD.out, optL_dash _ _ _ _ _ hda]⟩
        clear hda HO HD
        obtain ⟨A1, hA1⟩ : ∃ A1, A1 = (if c = (k + 1) then (some ad : Option Addr) else (some ad : Option Addr).map (·.add ((k + 1) * 1))) := ⟨_, rfl⟩
        obtain ⟨n1, hn1⟩ : ∃ n1, n1 = l.length - (k + 1) := ⟨_, rfl⟩
        obtain ⟨c1, hc1⟩ : ∃ c1, c1 = c - (k + 1) := ⟨_, rfl⟩
        have hcut := HCUT.out (k + 1) (by omega)
        have HCL := HREST.out wr (k + 1) (by omega) HB.out
        rw [← hA1, ← hn1, ← hc1] at hcut HCL
        have HCL := Aside0.mk HCL
        have hmin : ((l.length : Int) < (((k + 1) : Nat) : Int)) = False := eq_false (by omega)
        try rw [show ((k + 1 : Nat) : Int) = (k : Int) + 1 from rfl] at hcut hmin
        clear hA1 hn1 hc1
        go_wp2_with fail
        with_reducible refine HCL.out.mono ?_
        rintro e w2 ⟨A2, n2, k2, rfl, hC2, hk2, hb2⟩
        have HB2 : Aside0 (Below w.heap.size w w2) := ⟨HB.out.trans (hb2.mono hsz)⟩
        have HF : Aside0 (MapAt w2 w.heap.size 1000 os ∧ Kd.string.C w2 A2 n2 (l.drop (k + 1)) ∧ n2 ≤ k2) := ⟨(HM.out.below hb2).mono (by omega), hC2, hk2⟩
        clear hC2 hk2 hb2 hcut HCL
        go_wp2
        go_ret3
        rw [← HE.out]
        exact ⟨HB2.out, fun _ => ⟨_, _, _, _, rfl, HF.out.1, HF.out.2.1, HF.out.2.2, rfl⟩, fun h => absurd rfl h⟩
      · have hdb : (z.toList == ([45, 45] : List UInt8)) = false := by cases h : dashB z with | true => exact absurd h hda | false => exact h
        have HOP := Aside0.mk (option_calls z wr)
        by_cases hop : optB z = false
        · have HE : Aside0 ((os, k, 0, 0) = r) := ⟨by rw [← HO.out, HD.out, optL_stop _ _ _ _ _ hda hop]⟩
          rw [hop, if_neg (by decide)] at HOP
          clear hda HO HD hop
          go_wp2_with fail
          refine HOP.out.mono ?_
          rintro e w9 ⟨rfl, h9⟩
          subst w9
          clear HOP
          obtain ⟨A1, hA1⟩ : ∃ A1, A1 = (if c = k then (some ad : Option Addr) else (some ad : Option Addr).map (·.add (k * 1))) := ⟨_, rfl⟩
          obtain ⟨n1, hn1⟩ : ∃ n1, n1 = l.length - k := ⟨_, rfl⟩
          obtain ⟨c1, hc1⟩ : ∃ c1, c1 = c - k := ⟨_, rfl⟩
          have hcut := HCUT.out k (by omega)
          have HCL := HREST.out wr k (by omega) HB.out
          rw [← hA1, ← hn1, ← hc1] at hcut HCL
          have HCL := Aside0.mk HCL
          have hmin : ((l.length : Int) < ((k : Nat) : Int)) = False := eq_false (by omega)
          try rw [show ((k + 1 : Nat) : Int) = (k : Int) + 1 from rfl] at hcut hmin
          clear hA1 hn1 hc1
          go_wp2_with fail
          with_reducible refine HCL.out.mono ?_
          rintro e w2 ⟨A2, n2, k2, rfl, hC2, hk2, hb2⟩
          have HB2 : Aside0 (Below w.heap.size w w2) := ⟨HB.out.trans (hb2.mono hsz)⟩
          have HF : Aside0 (MapAt w2 w.heap.size 1000 os ∧ Kd.string.C w2 A2 n2 (l.drop k) ∧ n2 ≤ k2) := ⟨(HM.out.below hb2).mono (by omega), hC2, hk2⟩
          clear hC2 hk2 hb2 hcut HCL
          go_wp2
          go_ret3
          rw [← HE.out]
          exact ⟨HB2.out, fun _ => ⟨_, _, _, _, rfl, HF.out.1, HF.out.2.1, HF.out.2.2, rfl⟩, fun h => absurd rfl h⟩
        · have hop' : optB z = true := by cases h : optB z with | true => rfl | false => exact absurd h hop
          have hrg := opt_range hop'
          rw [hop', if_pos rfl] at HOP
          have HIX := index_takes tk (bt z 1) (by omega) (by omega)
          have HIB := Aside0.mk (fun W => Tryd.strings_IndexByte tk (bt z 1) W)
          have HU : 2 * k + 2 < 1000000 := by omega
          obtain ⟨w1, hrun1, hM1, hg1⟩ := HM.out.put (bt z 1) ⟨#[]⟩ (by omega) (by omega) (by decide) (by omega)
          have HB1 : Aside0 (Below w.heap.size w w1) := ⟨HB.out.grown hg1 hsz (fun j hj => by injection hj with hj; omega)⟩
          have HM1 := Aside0.mk hM1
          have hsz1 := HB1.out.size
          obtain ⟨q, hq⟩ : ∃ q, q = bt z 1 := ⟨_, rfl⟩
          rw [← hq] at HOP HIX HIB hrun1 HM1 hrg
          have HQ := Aside0.mk hq
          generalize Lib.indexByte tk.data.toList q.toNat.toUInt8 = ix at *
          clear hM1 hg1 hq
          by_cases hta : takesB tk (bt z 1) = false
          · have HL : Aside0 (optL tk (k + 1) (l.drop (k + 1)) (os ++ [⟨bt z 1, ⟨#[]⟩⟩]) = r) := ⟨by rw [← HO.out, HD.out, optL_flag _ _ _ _ _ hda hop hta]⟩
            rw [← HQ.out] at HL hta
            rw [hta] at HIX
            have hixb : decide (ix < 0) = true := HIX
            clear hta hda hop hop' HO HD HIX
            go_wp2_with fail
            refine HOP.out.mono ?_
            rintro e w9 ⟨rfl, h9⟩
            subst w9
            clear HOP
            go_wp2_with fail
            refine (HIB.out _).mono ?_
            rintro e w9 ⟨rfl, h9⟩
            subst w9
            go_wp2
            go_roundw
            case rel => exact ⟨k + 1, _, by go_num, by omega, ⟨by omega, fun h => absurd h (by omega)⟩, HL, ⟨HM1.out.mono (by omega)⟩, HB1⟩
            case measure => simp [intOf]; omega
          · have hta' : takesB tk (bt z 1) = true := by cases h : takesB tk (bt z 1) with | true => rfl | false => exact absurd h hta
            have hixb : decide (ix < 0) = false := by
              rw [HQ.out, hta'] at HIX
              exact HIX
            by_cases hlast : k + 1 = l.length
            · have hD1 : l.drop (k + 1) = [] := List.drop_eq_nil_of_le (by omega)
              have HE : Aside0 (([], 0, 2, (k : Int)) = r) := ⟨by rw [← HO.out, HD.out, hD1, optL_last _ _ _ _ hda hop hta]⟩
              have hl2 : ((k : Int) + 1 == (l.length : Int)) = true := beq_iff_eq.2 (by omega)
              clear hta hta' hda hop hop' HO HD HIX hD1
              go_wp2_with fail
              with_reducible refine HOP.out.mono ?_
              rintro e w9 ⟨rfl, h9⟩
              subst w9
              clear HOP
              go_wp2_with fail
              with_reducible refine (HIB.out _).mono ?_
              rintro e w9 ⟨rfl, h9⟩
              subst w9
              go_wp2_with fail
              refine (new_calls 2 k w1 rfl).mono ?_
              rintro e w3 ⟨rfl, h3⟩
              subst w3
              have HE2 := Aside0.mk (in_calls 77 (.pointer (some ⟨w1.heap.size, 0, none⟩)) ⟨w1.heap.size + 1, 0, none⟩ 1 1 [optW] ((w1.alloc (.cells #[.int .i64 2, .int .i64 k] 81)).alloc (.cells #[.string optW] 9)) rfl (by omega) (by omega) (by omega) (by
                have := litC (w1.alloc (.cells #[.int .i64 2, .int .i64 k] 81)) 9 [optW] (by decide)
                simpa [encs] using this))
              have hblk : ((w1.alloc (.cells #[.int .i64 2, .int .i64 k] 81)).alloc (.cells #[.string optW] 9)).heap[w1.heap.size]? = some (.cells #[.int .i64 2, .int .i64 k] 81 (0, 0)) := by
                rw [Below.heap_alloc _ _ _ (by simp)]; exact heap_alloc_new w1 _
              have HW : Aside0 (Below w.heap.size w ((w1.alloc (.cells #[.int .i64 2, .int .i64 k] 81)).alloc (.cells #[.string optW] 9))) := ⟨(HB1.out.alloc hsz1 _).alloc (by simp; omega) _⟩
              have HK := Aside0.mk hblk
              clear hblk
              go_wp2_with fail
              refine HE2.out.mono ?_
              rintro e w2 ⟨gg, rfl, hin, hb2⟩
              have hF : OptErr w2 w.heap.size (.iface 83 (.pointer (some ⟨gg, 0, none⟩))) 2 k := by
                obtain ⟨k1, v, k2, k3⟩ := hin
                exact ⟨gg, w1.heap.size, rfl, ⟨by simp at k1; omega, v, k2, Kd.R_lower k3 (by simp; omega)⟩, by omega, (hb2.block _ (by simp; omega)).trans HK.out⟩
              have HF := Aside0.mk hF
              have HB2 : Aside0 (Below w.heap.size w w2) := ⟨HW.out.trans (hb2.mono (by simp; omega))⟩
              clear hF hin hb2
              go_wp2
              go_ret3
              rw [← HE.out]
              exact ⟨HB2.out, fun h => absurd h (by show ¬ (2 : Int) = 0; decide), fun _ => ⟨_, rfl, rfl, rfl, HF.out⟩⟩
            · have hlt1 : k + 1 < l.length := by omega
              have HD1 := dropL l (k + 1) hlt1
              have hz1 := HI.out (k + 1) hlt1
              obtain ⟨ad1, hA1, hcell1⟩ := str_cellO (Kd.C_below HR.out HB1.out) (k + 1) hlt1
              injection hA1 with hA1
              subst hA1
              obtain ⟨z1, hzz⟩ : ∃ z1, z1 = l.getD (k + 1) ByteArray.empty := ⟨_, rfl⟩
              rw [← hzz] at HD1 hz1 hcell1
              have hl2 : ((k : Int) + 1 == (l.length : Int)) = false := beq_eq_false_iff_ne.2 (by omega)
              obtain ⟨w2, hrun2, hM2, hg2⟩ := HM1.out.put q z1 (by omega) (by omega) (by omega) (by omega)
              have HB2 : Aside0 (Below w.heap.size w w2) := ⟨HB1.out.grown hg2 hsz1 (fun j hj => by injection hj with hj; omega)⟩
              have HM2 : Aside0 (MapAt w2 w.heap.size (2 * (k + 2)) (os ++ [⟨q, z1⟩])) := ⟨(hM2.congr (os' := os ++ [⟨q, z1⟩]) (fun c => by
                rw [valOf_add, valOf_add, valOf_add]
                by_cases h : q = c
                · simp [h]
                · simp [h]) (fun c => by
                rw [hasOf_add, hasOf_add, hasOf_add]
                cases hasOf os c <;> cases decide (q = c) <;> rfl)).mono (by omega)⟩
              have HL : Aside0 (optL tk (k + 2) (l.drop (k + 2)) (os ++ [⟨q, z1⟩]) = r) := ⟨by rw [HQ.out, ← HO.out, HD.out, HD1, optL_val _ _ _ _ _ _ hda hop hta]⟩
              have hsz2 := HB2.out.size
              have hcell2 : w1.cell? ⟨ad.block, ad.off + (k + 1), none⟩ = some (.string z1) := by simpa [Addr.add] using hcell1
              clear hcell1
              clear hta hta' hda hop hop' HO HD HIX HD1 hM2 hg2 hzz
              go_wp2_with fail
              with_reducible refine HOP.out.mono ?_
              rintro e w9 ⟨rfl, h9⟩
              subst w9
              clear HOP
              go_wp2_with fail
              with_reducible refine (HIB.out _).mono ?_
              rintro e w9 ⟨rfl, h9⟩
              subst w9
              go_wp2
              go_roundw
              case rel => exact ⟨k + 2, _, by go_num, by omega, ⟨by omega, fun h => absurd h (by omega)⟩, HL, HM2, HB2⟩
              case measure => simp [intOf]; omega
    · have hN : l.drop k = [] := List.drop_eq_nil_of_le (by omega)
      have HE : Aside0 ((os, k, 0, 0) = r) := ⟨by rw [← HO.out, hN, optL_nil]⟩
      have hkb : decide ((k : Int) < (l.length : Int)) = false := decide_eq_false (by omega)
      by_cases hkl : k = l.length
      · clear HO hN
        rw [hkl] at HE
        obtain ⟨A1, hA1⟩ : ∃ A1, A1 = (if c = l.length then (A : Option Addr) else (A : Option Addr).map (·.add (l.length * 1))) := ⟨_, rfl⟩
        obtain ⟨n1, hn1⟩ : ∃ n1, n1 = l.length - l.length := ⟨_, rfl⟩
        obtain ⟨c1, hc1⟩ : ∃ c1, c1 = c - l.length := ⟨_, rfl⟩
        have hcut := HCUT.out l.length (by omega)
        have HCL := HREST.out wr l.length (by omega) HB.out
        rw [← hA1, ← hn1, ← hc1] at hcut HCL
        have HCL := Aside0.mk HCL
        have hmin : ((l.length : Int) < ((l.length : Nat) : Int)) = False := eq_false (by omega)
        try rw [show ((k + 1 : Nat) : Int) = (k : Int) + 1 from rfl] at hcut hmin
        clear hA1 hn1 hc1
        go_wp2_with fail
        with_reducible refine HCL.out.mono ?_
        rintro e w2 ⟨A2, n2, k2, rfl, hC2, hk2, hb2⟩
        have HB2 : Aside0 (Below w.heap.size w w2) := ⟨HB.out.trans (hb2.mono hsz)⟩
        have HF : Aside0 (MapAt w2 w.heap.size 1000 os ∧ Kd.string.C w2 A2 n2 (l.drop l.length) ∧ n2 ≤ k2) := ⟨(HM.out.below hb2).mono (by omega), hC2, hk2⟩
        clear hC2 hk2 hb2 hcut HCL
        go_wp2
        go_ret3
        rw [← HE.out]
        exact ⟨HB2.out, fun _ => ⟨_, _, _, _, rfl, HF.out.1, HF.out.2.1, HF.out.2.2, rfl⟩, fun h => absurd rfl h⟩
      · have hdd : l.drop l.length = l.drop k := by rw [hN, List.drop_length]
        have hlk : l.length < k := by omega
        have HDD := Aside0.mk hdd
        clear HO hN hdd hkl
        obtain ⟨A1, hA1⟩ : ∃ A1, A1 = (if c = l.length then (A : Option Addr) else (A : Option Addr).map (·.add (l.length * 1))) := ⟨_, rfl⟩
        obtain ⟨n1, hn1⟩ : ∃ n1, n1 = l.length - l.length := ⟨_, rfl⟩
        obtain ⟨c1, hc1⟩ : ∃ c1, c1 = c - l.length := ⟨_, rfl⟩
        have hcut := HCUT.out l.length (by omega)
        have HCL := HREST.out wr l.length (by omega) HB.out
        rw [← hA1, ← hn1, ← hc1] at hcut HCL
        have HCL := Aside0.mk HCL
        have hmin : ((l.length : Int) < (k : Int)) = True := eq_true (by omega)
        clear hA1 hn1 hc1 hlk
        go_wp2_with fail
        with_reducible refine HCL.out.mono ?_
        rintro e w2 ⟨A2, n2, k2, rfl, hC2, hk2, hb2⟩
        rw [HDD.out] at hC2
        have HB2 : Aside0 (Below w.heap.size w w2) := ⟨HB.out.trans (hb2.mono hsz)⟩
        have HF : Aside0 (MapAt w2 w.heap.size 1000 os ∧ Kd.string.C w2 A2 n2 (l.drop k) ∧ n2 ≤ k2) := ⟨(HM.out.below hb2).mono (by omega), hC2, hk2⟩
        clear hC2 hk2 hb2 hcut HCL
        go_wp2
        go_ret3
        rw [← HE.out]
        exact ⟨HB2.out, fun _ => ⟨_, _, _, _, rfl, HF.out.1, HF.out.2.1, HF.out.2.2, rfl⟩, fun h => absurd rfl h⟩
end Go.Proofs.YtelmmcjlhjahcaaDoor
