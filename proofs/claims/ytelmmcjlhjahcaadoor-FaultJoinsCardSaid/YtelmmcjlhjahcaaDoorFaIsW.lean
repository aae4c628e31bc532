/-
  FaultIs: the walk.
-/
import Derived.Test.YtelmmcjlhjahcaaDoorFaAlW
import Derived.Test.YtelmmcjlhjahcaaDoorFaIs
namespace Go.Proofs.YtelmmcjlhjahcaaDoor
open Go.RowKit Go.Proofs.YtelmmcjlhjahcaaDoorW.PrintWords Go.Proofs.YtelmmcjlhjahcaaDoorW.PrintLast Go.Proofs.YtelmmcjlhjahcaaDoorW.PrintMore Go.Proofs.YtelmmcjlhjahcaaDoor.PFaultTells
set_option linter.unusedVariables false
set_option linter.unusedSimpArgs false
set_option maxRecDepth 100000

def hitP (e : Int) : Int → Bool := fun k => k == e && e != 0
theorem tells_EV {w : World} {v : Value} {ins : List (List ByteArray)} {b : As.Base} (h : As.EV w v ins b) : Tells w v (fun k => b.code == k) := fun W hb k => As.is_calls v ins b k W (As.EV_keep hb h)
theorem made_tells (w : World) (e a : Int) (A : Option Addr) (n c : Nat) (xss : List (List ByteArray)) (hr : (Kd.slice 9 Kd.string).C w A n xss) (hc : n ≤ c) (hn : n ≤ 10) (hx : ∀ x ∈ xss, x.length ≤ 10) :
    Calls Tryd.prog 14 #[.agg #[.int .i64 e, .int .i64 a, .slice A n c]] w fun ev w' => ∃ o, ev = .returned (encE o) ∧ Tells w' (encE o) (hitP e) ∧ Below w.heap.size w w' := by
  by_cases he : e = 0
  · subst he
    refine (made_zero w a A n c xss hr hn).mono ?_
    rintro ev w' ⟨rfl, hb⟩
    refine ⟨none, rfl, fun W _ k => ?_, hb⟩
    have := As.is_nilE k W
    simpa [hitP, encE] using this
  · refine (made_calls w e a A n c xss (beq_eq_false_iff_ne.2 he) hr hc (by omega) (fun x h => Nat.le_trans (hx x h) (by decide))).mono ?_
    rintro ev w' ⟨t, x, rfl, hv, hb⟩
    refine ⟨some (t, x), rfl, ?_, hb⟩
    have h := tells_EV hv
    have e1 : (fun k => (As.Base.fault e a).code == k) = hitP e := by
      funext k
      show (e == k) = (k == e && e != 0)
      rw [bne_iff_ne.2 he, Bool.and_true, Bool.beq_comm]
    rw [e1] at h
    exact h

theorem infoEn : (Tryd.prog.info? 33).map (fun i => (i.zero, i.size, i.bytes)) = some (some (.int .i64 0), 1, 8) := by kernel_rfl
theorem one_int {W : World} {g : Nat} {z : Int} {t : TypeId} (h : W.heap[g]? = some (.cells #[.int .i64 z] t (0, 0))) : (Kd.int .i64).C W (some ⟨g, 0, none⟩) 1 [z] := by
  refine ⟨rfl, by decide, fun _ => ⟨_, rfl, fun j p hj => ?_⟩⟩
  match j, hj with
  | 0, hj =>
    obtain rfl : z = p := by simpa using hj
    refine ⟨[.int .i64 z], rfl, rfl, fun i u hu => ?_⟩
    rw [Nat.zero_mul, Nat.zero_add, add_plain, cell_of_row _ _ _ _ _ _ h]
    simpa using hu
theorem take_any (p : Int → Bool) (zs : List Int) (k : Nat) (hk : k < zs.length) : (zs.take (k + 1)).any p = ((zs.take k).any p || p (zs.getD k 0)) := by
  rw [List.take_add_one, List.any_append, List.getD_eq_getElem?_getD, List.getElem?_eq_getElem hk]; simp
theorem take_snocI (zs : List Int) (k : Nat) (hk : k < zs.length) : zs.take (k + 1) = zs.take k ++ [zs.getD k 0] := by
  rw [List.take_add_one, List.getD_eq_getElem?_getD, List.getElem?_eq_getElem hk]; rfl

set_option maxHeartbeats 80000000 in
theorem isl_some (w : World) (e a : Int) (A : Option Addr) (n c : Nat) (xss : List (List ByteArray)) (B : Option Addr) (m d : Nat) (zs : List Int) (hr : (Kd.slice 9 Kd.string).C w A n xss) (hc : n ≤ c) (hz : (Kd.int .i64).C w B m zs) (hm : m ≤ 20) (hgr : sashref03_Great.f 100 [⟨e, a, xss⟩] = some false) (h10 : n ≤ 10) (hx : ∀ x ∈ xss, x.length ≤ 10) (hE : As.ErrT w) :
    Calls Tryd.prog 7 #[.agg #[.int .i64 e, .int .i64 a, .slice A n c], .slice B m d] w fun ev w' => ev = .returned (.bool true) ∧ Below w.heap.size w w' := by
  have hlen := Kd.C_len hr
  subst hlen
  obtain ⟨W1, hW1⟩ : ∃ W1, W1 = w.alloc (.cells #[.int .i64 e, .int .i64 a, .slice A xss.length c] 24) := ⟨_, rfl⟩
  obtain ⟨W2, hW2⟩ : ∃ W2, W2 = W1.alloc (.cells #[.int .i64 e, .int .i64 a, .slice A xss.length c] 24) := ⟨_, rfl⟩
  have hb1 : Below w.heap.size w W1 := by rw [hW1]; exact below_alloc (Below.refl _ _) _
  have hb2 : Below w.heap.size w W2 := by rw [hW2]; exact below_alloc hb1 _
  have hs1 : W1.heap.size = w.heap.size + 1 := by rw [hW1]; simp
  have hbl1 : W1.heap[w.heap.size]? = some (.cells #[.int .i64 e, .int .i64 a, .slice A xss.length c] 24 (0, 0)) := by rw [hW1]; exact heap_alloc_new w _
  have hbl2 : W2.heap[w.heap.size]? = some (.cells #[.int .i64 e, .int .i64 a, .slice A xss.length c] 24 (0, 0)) := by rw [hW2]; exact blk_alloc hbl1 _
  have hGt := sashref03_Great.calls 100 (some ⟨W1.heap.size, 0, none⟩) 1 [⟨e, a, xss⟩] false W2 (one_F1 ⟨e, a, xss⟩ (by rw [hW2]; exact heap_alloc_new W1 _) hc (Kd.C_below hr hb2)) (Nat.le_refl _) hgr
  rw [hs1] at hGt
  have HR2 : Aside0 ((Kd.slice 9 Kd.string).C W2 A xss.length xss) := ⟨Kd.C_below hr hb2⟩
  have HZ2 : Aside0 ((Kd.int .i64).C W2 B m zs) := ⟨Kd.C_below hz hb2⟩
  have HBL2 := Aside0.mk hbl2
  have HB2 := Aside0.mk hb2
  have HG := Aside0.mk hE
  have HW := Aside0.mk (And.intro hW1 hW2)
  have HGt : Aside0 (Calls Tryd.prog 12 #[.slice (some ⟨w.heap.size + 1, 0, none⟩) 1 1] W2 fun e w' => e = .returned (.bool false) ∧ Drawn0 W2 w') := ⟨hGt⟩
  have HX := Aside0.mk hx
  have hgt : ¬ (m : Int) > 20 := by omega
  clear hGt hbl1 hbl2 hb1 hb2 hW1 hW2 hs1 hr hgr hE hx hz
  obtain ⟨n, hn⟩ : ∃ n, n = xss.length := ⟨_, rfl⟩
  rw [← hn] at HR2 HBL2 HW hc h10 ⊢
  clear hn
  go_enter Tryd.func7, Tryd.ntmps7
  go_wp2_with fail
  rw [← HW.out.1, ← HW.out.2]
  with_reducible refine HGt.out.mono ?_
  rintro ev w3 ⟨rfl, hd⟩
  have hbl3 := (hd.below.block _ (blk_lt HBL2.out)).trans HBL2.out
  have HB3 := Aside0.mk (HB2.out.trans (hd.below.mono HB2.out.size))
  have HBL3 := Aside0.mk hbl3
  have HR3 : Aside0 ((Kd.slice 9 Kd.string).C w3 A n xss) := ⟨Kd.C_below HR2.out hd.below⟩
  have HZ3 : Aside0 ((Kd.int .i64).C w3 B m zs) := ⟨Kd.C_below HZ2.out hd.below⟩
  clear hbl3 hd HGt HB2 HBL2 HR2 HW HZ2
  have R0 : Aside0 ((Kd.int .i64).R 33 (w3.alloc (.cells #[] 33)) w3.heap.size (fun _ => True) (.slice (some ⟨w3.heap.size, 0, none⟩) 0 0) []) := ⟨R_empty (Kd.int .i64) _ _ _ _ (Nat.le_refl _) trivial⟩
  have B0 : Aside0 (Below w3.heap.size w3 (w3.alloc (.cells #[] 33))) := ⟨below_alloc (Below.refl _ _) _⟩
  have HL := Aside0.mk (Kd.C_len HZ3.out)
  have CELLS : Aside0 (∀ wr, Below w3.heap.size w3 wr → wr.cell? ⟨w.heap.size, 0, none⟩ = some (.int .i64 e) ∧ wr.cell? ⟨w.heap.size, 1, none⟩ = some (.int .i64 a) ∧ wr.cell? ⟨w.heap.size, 2, none⟩ = some (.slice A n c)) := ⟨fun wr hb => by
    have h := (hb.block _ (blk_lt HBL3.out)).trans HBL3.out
    exact ⟨(blk_cell h 0).trans rfl, (blk_cell h 1).trans rfl, (blk_cell h 2).trans rfl⟩⟩
  go_wp2
  go_loopw [5, 6, 7] (fun v want i wr => ∃ k : Nat, k ≤ m ∧ i = .int .i64 k ∧ want = .bool ((zs.take k).any (hitP e)) ∧ (∃ A' n' c', v = .slice A' n' c') ∧ Aside0 ((Kd.int .i64).R 33 wr w3.heap.size (fun _ => True) v (zs.take k) ∧ Below w3.heap.size w3 wr)) (fun _ _ i _ => m - (intOf i).toNat)
  case atStart => exact ⟨0, by omega, rfl, rfl, ⟨_, _, _, rfl⟩, ⟨R0.out, B0.out⟩⟩
  case round =>
    obtain ⟨k, hk, rfl, rfl, ⟨A', n', c', rfl⟩, HM⟩ := hrel
    by_cases hlt : k < m
    · have hkl : k < zs.length := by have := HL.out; omega
      obtain ⟨ad, rfl, hcell⟩ := int_cellE (Kd.C_below HZ3.out HM.out.2) k hlt
      have HA := Aside0.mk (take_any (hitP e) zs k hkl)
      have HT := Aside0.mk (take_snocI zs k hkl)
      have hle : (zs.take k).length ≤ 20 := by rw [List.length_take]; omega
      obtain ⟨z, hz⟩ : ∃ z, z = zs.getD k 0 := ⟨_, rfl⟩
      rw [← hz] at hcell HA HT
      have HZQ := Aside0.mk hz
      clear hz hkl
      obtain ⟨r0, hr0⟩ : ∃ r0, r0 = (zs.take k).any (hitP e) := ⟨_, rfl⟩
      rw [← hr0] at HA ⊢
      obtain ⟨ys, hys⟩ : ∃ ys, ys = zs.take k := ⟨_, rfl⟩
      rw [← hys] at HM HT hle
      clear hr0 hys
      have hba : Below wr.heap.size wr (wr.alloc (.cells #[.int .i64 z] 33)) := below_alloc (Below.refl _ _) _
      have HC := Aside0.mk (one_int (t := 33) (heap_alloc_new wr (.cells #[.int .i64 z] 33)))
      have HM2 := Aside0.mk (And.intro (Kd.R_below HM.out.1 hba) (HM.out.2.trans (hba.mono HM.out.2.size)))
      have hsz := HM.out.2.size
      clear hba HM
      go_wp2_with (at_builtin; refine Kd.R_append_row (Value.int .i64) 0 (w0 := w3) w3.heap.size rfl (.tmp 27) (.tmp 32) 53 33 (.int .i64 0) 8 rfl Tryd.underlying53 infoEn rfl (by decide) (.slice A' n' c') ys [z] (some ⟨wr.heap.size, 0, none⟩) 1 1 (fun _ => True) rfl rfl (fun _ _ => trivial) HM2.out.1 HC.out HM2.out.2 ?aS ?aL ?_)
      case aS => exact HM2.out.2.size
      case aL => first | omega | (simp; omega)
      intro v1 w5 ho hb5 _ _
      obtain ⟨A4, n4, c4, rfl⟩ := sl_of_R ho
      rw [← HT.out] at ho
      have RO : Aside0 ((Kd.int .i64).R 33 w5.drew w3.heap.size (fun _ => True) (.slice A4 n4 c4) (zs.take (k + 1)) ∧ Below w3.heap.size w3 w5.drew) := ⟨Kd.R_below (d := Kd.int .i64) ho (below_drew (Below.refl _ _)), below_drew hb5⟩
      obtain ⟨c0, _, _⟩ := CELLS.out _ hb5
      have cz : w5.cell? (ad.add k) = some (.int .i64 z) := by
        obtain ⟨ad2, hz1, hz2⟩ := int_cellE (Kd.C_below HZ3.out hb5) k hlt
        obtain rfl : ad = ad2 := by simpa using hz1
        rw [hz2, ← HZQ.out]
      have c0d : w5.drew.cell? ⟨w.heap.size, 0, none⟩ = some (.int .i64 e) := c0
      have czd : w5.drew.cell? (ad.add k) = some (.int .i64 z) := cz
      clear ho hb5 HM2 HC hcell hsz
      have fin : ∀ (b : Bool), b = (r0 || hitP e z) → Value.bool b = .bool ((zs.take (k + 1)).any (hitP e)) := fun b hb => by rw [hb, HA.out]
      have FIN := Aside0.mk fin
      clear fin
      cases r0 with
      | true =>
        go_wp2
        go_region
        go_wp2
        go_roundw
        case rel => exact ⟨k + 1, by omega, by go_num, FIN.out _ rfl, ⟨_, _, _, rfl⟩, RO⟩
        case measure => simp [intOf]; omega
      | false =>
        cases h1 : (z == e) with
        | false =>
          have h1' : (z != e) = true := by simp [bne, h1]
          have HH : Aside0 (hitP e z = false) := ⟨by simp [hitP, h1]⟩
          go_wp2
          go_region
          go_wp2
          go_roundw
          case rel => exact ⟨k + 1, by omega, by go_num, FIN.out _ (by rw [HH.out]; rfl), ⟨_, _, _, rfl⟩, RO⟩
          case measure => simp [intOf]; omega
        | true =>
          cases h2 : (e != 0) with
          | false =>
            have h2' : (e == 0) = true := by simpa [bne] using h2
            have HH : Aside0 (hitP e z = false) := ⟨by simp [hitP, h1, h2]⟩
            go_wp2
            go_region
            go_wp2
            go_roundw
            case rel => exact ⟨k + 1, by omega, by go_num, FIN.out _ (by rw [HH.out]; rfl), ⟨_, _, _, rfl⟩, RO⟩
            case measure => simp [intOf]; omega
          | true =>
            have h2' : (e == 0) = false := by simpa [bne] using h2
            have HH : Aside0 (hitP e z = true) := ⟨by simp [hitP, h1, h2]⟩
            go_wp2
            go_region
            go_wp2
            go_roundw
            case rel => exact ⟨k + 1, by omega, by go_num, FIN.out _ (by rw [HH.out]; rfl), ⟨_, _, _, rfl⟩, RO⟩
            case measure => simp [intOf]; omega
    · have hkm : k = m := by omega
      have HK : zs.take k = zs := by rw [hkm, ← HL.out, List.take_length]
      rw [HK] at HM ⊢
      obtain ⟨hn', hc', hC'⟩ := Kd.R_reads' HM.out.1
      have hnm : n' = m := by rw [hn']; exact HL.out
      subst hnm
      have HB5 := Aside0.mk (HB3.out.trans (HM.out.2.mono HB3.out.size))
      have HN5 : Aside0 ((Kd.int .i64).C wr A' n' zs) := ⟨by have hq := hC'; rw [HL.out] at hq; exact hq⟩
      have HR5 : Aside0 ((Kd.slice 9 Kd.string).C wr A n xss) := ⟨Kd.C_below HR3.out HM.out.2⟩
      have CEL5 : Aside0 (∀ w', Below wr.heap.size wr w' → w'.cell? ⟨w.heap.size, 0, none⟩ = some (.int .i64 e) ∧ w'.cell? ⟨w.heap.size, 1, none⟩ = some (.int .i64 a) ∧ w'.cell? ⟨w.heap.size, 2, none⟩ = some (.slice A n c)) := ⟨fun w' hb => CELLS.out w' (HM.out.2.trans (hb.mono HM.out.2.size))⟩
      obtain ⟨rr, hrr⟩ : ∃ rr, rr = zs.any (hitP e) := ⟨_, rfl⟩
      have HRR := Aside0.mk hrr
      rw [← hrr]
      clear HK hn' hC' HM CELLS HZ3 HR3 HBL3 R0 B0 hrr
      have hbx : Below wr.heap.size wr (wr.alloc (.cells #[.string ⟨#[120]⟩] 9)) := below_alloc (Below.refl _ _) _
      have HIN : Aside0 (Calls Tryd.prog 20 #[.iface 33 (.int .i64 5), .slice (some ⟨wr.heap.size, 0, none⟩) 1 1] (wr.alloc (.cells #[.string ⟨#[120]⟩] 9)) fun ev w' => ∃ t x, ev = .returned (.iface t x) ∧ Aside0 (As.EV w' (.iface t x) [[⟨#[120]⟩]] (.errno 5)) ∧ Below wr.heap.size wr w') :=
        ⟨(in_ev _ (.iface 33 (.int .i64 5)) [] (.errno 5) (some ⟨wr.heap.size, 0, none⟩) 1 1 [⟨#[120]⟩] rfl rfl (Nat.le_refl _) (by decide) (litC wr 9 [⟨#[120]⟩] (by decide))).mono fun ev w' ⟨t, x, h1, h2, h3⟩ => ⟨t, x, h1, ⟨h2⟩, hbx.trans (h3.mono hbx.size)⟩⟩
      clear hbx
      go_wp2_with fail
      with_reducible refine HIN.out.mono ?_
      rintro ev w6 ⟨t, x, rfl, HV6, hb6⟩
      have HB6 := Aside0.mk (HB5.out.trans (hb6.mono HB5.out.size))
      have HN6 : Aside0 ((Kd.int .i64).C w6 A' n' zs) := ⟨Kd.C_below HN5.out hb6⟩
      have HR6 : Aside0 ((Kd.slice 9 Kd.string).C w6 A n xss) := ⟨Kd.C_below HR5.out hb6⟩
      have CEL6 : Aside0 (∀ w', Below w6.heap.size w6 w' → w'.cell? ⟨w.heap.size, 0, none⟩ = some (.int .i64 e) ∧ w'.cell? ⟨w.heap.size, 1, none⟩ = some (.int .i64 a) ∧ w'.cell? ⟨w.heap.size, 2, none⟩ = some (.slice A n c)) := ⟨fun w' hb => CEL5.out w' (hb6.trans (hb.mono hb6.size))⟩
      have HAT : Aside0 (Calls Tryd.prog 15 #[.iface t x] w6 fun e w' => e = .returned (.tuple #[.int .i64 0, .bool false]) ∧ Below w6.heap.size w6 w') := ⟨As.at_calls _ _ _ w6 HV6.out (HG.out.below HB6.out)⟩
      clear hb6 HIN HB5 HN5 HR5 CEL5
      go_wp2_with fail
      with_reducible refine HAT.out.mono ?_
      rintro ev w7 ⟨rfl, hb7⟩
      have HV7 : Aside0 (As.EV w7 (.iface t x) [[⟨#[120]⟩]] (.errno 5)) := ⟨As.EV_keep hb7 HV6.out⟩
      have HB7 := Aside0.mk (HB6.out.trans (hb7.mono HB6.out.size))
      have HN7 : Aside0 ((Kd.int .i64).C w7 A' n' zs) := ⟨Kd.C_below HN6.out hb7⟩
      have HR7 : Aside0 ((Kd.slice 9 Kd.string).C w7 A n xss) := ⟨Kd.C_below HR6.out hb7⟩
      have CEL7 : Aside0 (∀ w', Below w7.heap.size w7 w' → w'.cell? ⟨w.heap.size, 0, none⟩ = some (.int .i64 e) ∧ w'.cell? ⟨w.heap.size, 1, none⟩ = some (.int .i64 a) ∧ w'.cell? ⟨w.heap.size, 2, none⟩ = some (.slice A n c)) := ⟨fun w' hb => CEL6.out w' (hb7.trans (hb.mono hb7.size))⟩
      clear hb7 HAT HB6 HN6 HR6 CEL6 HV6
      have HMA : Aside0 (∀ w', Below w7.heap.size w7 w' → Calls Tryd.prog 14 #[.agg #[.int .i64 e, .int .i64 a, .slice A n c]] w' fun ev w'' => ∃ o, ev = .returned (encE o) ∧ Aside0 (Tells w'' (encE o) (hitP e)) ∧ Below w7.heap.size w7 w'') :=
        ⟨fun w' hb => (made_tells w' e a A n c xss (Kd.C_below HR7.out hb) hc h10 HX.out).mono fun ev w'' ⟨o, h1, h2, h3⟩ => ⟨o, h1, ⟨h2⟩, hb.trans (h3.mono hb.size)⟩⟩
      have HFI : Aside0 (∀ w' o, Below w7.heap.size w7 w' → Tells w' (encE o) (hitP e) → Calls Tryd.prog 27 #[encE o, .slice A' n' c'] w' fun ev w'' => ev = .returned (.bool rr) ∧ Below w7.heap.size w7 w'') :=
        ⟨fun w' o hb ht => (fis_calls o (hitP e) A' n' c' zs w' (by omega) (Kd.C_below HN7.out hb) ht).mono fun ev w'' ⟨h1, h2⟩ => ⟨by rw [h1, HRR.out], hb.trans (h2.mono hb.size)⟩⟩
      have HCO : Aside0 (∀ w', Below w7.heap.size w7 w' → Calls Tryd.prog 16 #[.iface t x] w' fun ev w'' => ev = .returned (.int .i64 5) ∧ Below w7.heap.size w7 w'') :=
        ⟨fun w' hb => (As.code_calls _ _ _ w' (As.EV_keep hb HV7.out) ((HG.out.below HB7.out).below hb)).mono fun ev w'' ⟨h1, h2⟩ => ⟨h1, hb.trans (h2.mono hb.size)⟩⟩
      have HCN : Aside0 (∀ w', Below w7.heap.size w7 w' → Calls Tryd.prog 16 #[.nilIface] w' fun ev w'' => ev = .returned (.int .i64 0) ∧ Below w7.heap.size w7 w'') :=
        ⟨fun w' hb => (As.code_nil w').mono fun ev w'' ⟨h1, h2⟩ => ⟨h1, hb.trans (h2.mono hb.size)⟩⟩
      have HI0 : Aside0 (∀ w' A1 n1 c1, Below w7.heap.size w7 w' → Calls Tryd.prog 20 #[.nilIface, .slice A1 n1 c1] w' fun ev w'' => ev = .returned .nilIface ∧ Below w7.heap.size w7 w'') :=
        ⟨fun w' A1 n1 c1 hb => (in_nil w' A1 n1 c1).mono fun ev w'' ⟨h1, h2⟩ => ⟨h1, h2 ▸ hb⟩⟩
      have HAW : Aside0 (∀ w', Below w7.heap.size w7 w' → Calls Tryd.prog 13 #[] w' fun ev w'' => ev = .returned (.bool true) ∧ Below w7.heap.size w7 w'') :=
        ⟨fun w' hb => (awake3_calls w' ((HG.out.below HB7.out).below hb)).mono fun ev w'' ⟨q1, q2⟩ => ⟨q1, hb.trans (q2.mono hb.size)⟩⟩
      obtain ⟨c0, c1, c2⟩ := CEL7.out _ (Below.refl _ _)
      obtain ⟨c0d, c1d, c2d⟩ := CEL7.out _ (below_drew (Below.refl _ _))
      have hb7 : Below w7.heap.size w7 w7 := Below.refl _ _
      have hbd : Below w7.heap.size w7 w7.drew := below_drew hb7
      clear HV7 HN7 HR7
      go_wp2_with (first
        | (go_at_call 14; with_reducible refine (HMA.out _ (by assumption)).mono ?_; rintro ev wa ⟨o, rfl, hTo, hba⟩)
        | (go_at_call 27; with_reducible refine (HFI.out _ _ (by assumption) hTo.out).mono ?_; rintro ev wb ⟨rfl, hbb⟩)
        | (go_at_call 16; with_reducible refine (HCO.out _ (by assumption)).mono ?_; rintro ev wc ⟨rfl, hbc⟩)
        | (go_at_call 16; with_reducible refine (HCN.out _ (by assumption)).mono ?_; rintro ev wd ⟨rfl, hbe⟩)
        | (go_at_call 20; with_reducible refine (HI0.out _ _ _ _ (below_alloc (by assumption) _)).mono ?_; rintro ev wf ⟨rfl, hbf⟩)
        | (go_at_call 13; with_reducible refine (HAW.out _ (by assumption)).mono ?_; rintro ev wg ⟨rfl, hbg⟩))
      go_ret
      exact ⟨rfl, HB7.out.trans (hbg.mono HB7.out.size)⟩

theorem isl_many (w : World) (e a : Int) (A : Option Addr) (n c : Nat) (xss : List (List ByteArray)) (B : Option Addr) (m d : Nat) (r : Bool) (hr : (Kd.slice 9 Kd.string).C w A n xss) (hc : n ≤ c) (hgr : sashref03_Great.f 100 [⟨e, a, xss⟩] = some r) (hm : r = true ∨ 20 < m) (hE : As.ErrT w) :
    Calls Tryd.prog 7 #[.agg #[.int .i64 e, .int .i64 a, .slice A n c], .slice B m d] w fun ev w' => ev = .returned (.bool true) ∧ Below w.heap.size w w' := by
  have hlen := Kd.C_len hr
  subst hlen
  obtain ⟨W1, hW1⟩ : ∃ W1, W1 = w.alloc (.cells #[.int .i64 e, .int .i64 a, .slice A xss.length c] 24) := ⟨_, rfl⟩
  obtain ⟨W2, hW2⟩ : ∃ W2, W2 = W1.alloc (.cells #[.int .i64 e, .int .i64 a, .slice A xss.length c] 24) := ⟨_, rfl⟩
  have hb1 : Below w.heap.size w W1 := by rw [hW1]; exact below_alloc (Below.refl _ _) _
  have hb2 : Below w.heap.size w W2 := by rw [hW2]; exact below_alloc hb1 _
  have hs1 : W1.heap.size = w.heap.size + 1 := by rw [hW1]; simp
  have hGt := sashref03_Great.calls 100 (some ⟨W1.heap.size, 0, none⟩) 1 [⟨e, a, xss⟩] r W2 (one_F1 ⟨e, a, xss⟩ (by rw [hW2]; exact heap_alloc_new W1 _) hc (Kd.C_below hr hb2)) (Nat.le_refl _) hgr
  rw [hs1] at hGt
  have HG := Aside0.mk hE
  have HB2 := Aside0.mk hb2
  have HW := Aside0.mk (And.intro hW1 hW2)
  have HGt : Aside0 (Calls Tryd.prog 12 #[.slice (some ⟨w.heap.size + 1, 0, none⟩) 1 1] W2 fun e w' => e = .returned (.bool r) ∧ Drawn0 W2 w') := ⟨hGt⟩
  clear hGt hb1 hb2 hW1 hW2 hs1 hr hgr hE
  generalize xss.length = n at *
  have hgt : r = false → (20 : Int) < (m : Int) := fun h => by rcases hm with h' | h'; rw [h] at h'; cases h'; omega
  clear hm
  rcases r with _ | _
  · have hgt' := hgt rfl
    clear hgt
    go_enter Tryd.func7, Tryd.ntmps7
    go_wp2_with fail
    rw [← HW.out.1, ← HW.out.2]
    with_reducible refine HGt.out.mono ?_
    rintro ev w3 ⟨rfl, hd⟩
    have HB3 := Aside0.mk (HB2.out.trans (hd.below.mono HB2.out.size))
    have HAW := Aside0.mk (awake3_calls w3 (HG.out.below HB3.out))
    clear hd HGt HB2 HW
    go_wp2_with fail
    with_reducible refine HAW.out.mono ?_
    rintro ev w4 ⟨rfl, hb⟩
    replace HB3 := Aside0.mk (HB3.out.trans (hb.mono HB3.out.size))
    clear hb HAW
    go_wp2
    go_ret
    exact ⟨rfl, HB3.out⟩
  · clear hgt
    go_enter Tryd.func7, Tryd.ntmps7
    go_wp2_with fail
    rw [← HW.out.1, ← HW.out.2]
    with_reducible refine HGt.out.mono ?_
    rintro ev w3 ⟨rfl, hd⟩
    have HB3 := Aside0.mk (HB2.out.trans (hd.below.mono HB2.out.size))
    have HAW := Aside0.mk (awake3_calls w3 (HG.out.below HB3.out))
    clear hd HGt HB2 HW
    go_wp2_with fail
    with_reducible refine HAW.out.mono ?_
    rintro ev w4 ⟨rfl, hb⟩
    replace HB3 := Aside0.mk (HB3.out.trans (hb.mono HB3.out.size))
    clear hb HAW
    go_wp2
    go_ret
    exact ⟨rfl, HB3.out⟩

theorem isl_calls (w : World) (e a : Int) (A : Option Addr) (n c : Nat) (xss : List (List ByteArray)) (B : Option Addr) (m d : Nat) (zs : List Int) (hr : (Kd.slice 9 Kd.string).C w A n xss) (hc : n ≤ c) (hz : (Kd.int .i64).C w B m zs) (hE : As.ErrT w) :
    Calls Tryd.prog 7 #[.agg #[.int .i64 e, .int .i64 a, .slice A n c], .slice B m d] w fun ev w' => ev = .returned (.bool true) ∧ Below w.heap.size w w' := by
  obtain ⟨r, hr1, hr2⟩ := great_one ⟨e, a, xss⟩
  cases r with
  | true => exact isl_many w e a A n c xss B m d true hr hc hr1 (.inl rfl) hE
  | false =>
    by_cases hm : m ≤ 20
    · obtain ⟨h1, h2⟩ := hr2 rfl
      have h10 : n ≤ 10 := by rw [← Kd.C_len hr]; exact h1
      exact isl_some w e a A n c xss B m d zs hr hc hz hm hr1 h10 h2 hE
    · exact isl_many w e a A n c xss B m d false hr hc hr1 (.inr (by omega)) hE
end Go.Proofs.YtelmmcjlhjahcaaDoor
