/-
 (*text).put: what it writes.
-/
import Derived.Test.YtakhnigalkjhhaaGreatDoorPrHead
import Derived.Test.YtakhnigalkjhhaaGreatDoorPrBuild
import Derived.Test.YtakhnigalkjhhaaGreatDoorTiMem
namespace Go.Proofs.YtakhnigalkjhhaaGreatDoor
open Go.RowKit Go.Proofs.YtakhnigalkjhhaaGreatDoorW.PrintWords Go.Proofs.YtakhnigalkjhhaaGreatDoorW.PrintLast Go.Proofs.YtakhnigalkjhhaaGreatDoorW.PrintMore Go.Proofs.YtakhnigalkjhhaaGreatDoor.PPrintFits
set_option linter.unusedVariables false
set_option linter.unusedSimpArgs false
set_option maxRecDepth 100000

def CKind (c : SC) : Prop := ∀ x ∈ cells c, x.f0 = 1 ∨ x.f0 = 2 ∨ x.f0 = 3
theorem CKind.kid {c k : SC} (h : CKind c) (hk : k ∈ c.f3) : CKind k := fun x hx => h x (cells_kid hk x hx)
/-- What a call that writes on leaves. -/
def Wrote (B b : Nat) (l : List UInt8) (w w' : World) : Prop := TextIs B b l w' ∧ Below B w w' ∧ KeepT b w w'
theorem TextIs.below {B b : Nat} {l : List UInt8} {w w' : World} (h : TextIs B b l w) (hb : Below w.heap.size w w') : TextIs B b l w' := by
 have k : ∀ p, TextAt B b p l w → TextAt B b p l w' := fun p ⟨h1, v, h2, h3, h4⟩ => ⟨h1, v, (hb.block b (blk_lt h2)).trans h2, h3.kept (row := none) ⟨hb.os, hb.tape, hb.output, hb.size, fun i hi _ => hb.block i hi⟩ (Classical.em _), h4⟩
 exact h.imp (k _) (k _)
theorem TextIs.lt {B b : Nat} {l : List UInt8} {w : World} (h : TextIs B b l w) : b < w.heap.size := by
 rcases h with h | h <;> exact Lib.BuilderAt.lt h
theorem Wrote.below {B b : Nat} {l : List UInt8} {w w' w'' : World} (h : Wrote B b l w w') (hB : B ≤ w'.heap.size) (hb : Below w'.heap.size w' w'') : Wrote B b l w w'' := ⟨h.1.below hb, h.2.1.trans (hb.mono hB), h.2.2.trans (KeepT.ofBelow hb)⟩
theorem Wrote.then_ {B b : Nat} {l l' : List UInt8} {w w' w'' : World} (h : Wrote B b l w w') (k : Wrote B b l' w' w'') : Wrote B b l' w w'' := ⟨k.1, h.2.1.trans k.2.1, h.2.2.trans k.2.2⟩
theorem Wrote.new {B b : Nat} {l : List UInt8} {w w' : World} (h : TextIs B b l w) (hB : B ≤ w.heap.size) (hb : Below w.heap.size w w') : Wrote B b l w w' := ⟨h.below hb, hb.mono hB, KeepT.ofBelow hb⟩
/-- What put does with a cell. -/
def PutOk (w0 : World) (c : SC) : Prop := ∀ (b : Nat) (l : List UInt8) (w : World) (A : Option Addr) (cap : Nat), CKind c → Below w0.heap.size w0 w → Tr w0.heap.size w A c.f3.length c.f3 → c.f3.length ≤ cap → TextIs w0.heap.size b l w → l.length + (bodyL c).length ≤ 1000000000 →
 Calls Tryz.prog 27 #[.pointer (some ⟨b, 0, none⟩), .agg #[.int .u8 c.f0, .int .i64 c.f1.f0, .int .i64 c.f1.f1, .int .i64 c.f1.f2, .int .i64 c.f1.f3, .int .i64 c.f2, .slice A c.f3.length cap]] w fun e w' => e = .returned (.tuple #[]) ∧ Wrote w0.heap.size b (l ++ bodyL c) w w'

theorem wbyteA (B b : Nat) (l : List UInt8) (c : UInt8) (w : World) (n : Int) (hn : (c.toNat : Int) = n) (h : TextIs B b l w) (hlen : l.length + 1 ≤ 1000000001) (hB : B ≤ w.heap.size) :
  Calls Tryz.prog 40 #[.pointer (some ⟨b, 0, none⟩), .int .u8 n] w fun e w' => e = .returned .nilIface ∧ Wrote B b (l ++ [c]) w w' := by
 subst hn
 exact (wbyte_calls B b l c w h (by omega) hB).mono fun e w' ⟨h1, h2, h3, h4⟩ => ⟨h1, Or.inr h2, h3, h4⟩
theorem wstrA (B b : Nat) (l : List UInt8) (s : ByteArray) (w : World) (h : TextIs B b l w) (hlen : l.length + s.size ≤ 1000000001) (hB : B ≤ w.heap.size) :
  Calls Tryz.prog 37 #[.pointer (some ⟨b, 0, none⟩), .string s] w fun e w' => e = .returned (.tuple #[.int .i64 s.size, .nilIface]) ∧ Wrote B b (l ++ s.data.toList) w w' :=
 (wstr_calls B b l s w h (by omega) hB).mono fun e w' ⟨h1, h2, h3, h4⟩ => ⟨h1, Or.inr h2, h3, h4⟩

set_option maxHeartbeats 8000000 in
theorem put_cell (w0 : World) (hT : NumT w0) (c : SC) : PutOk w0 c := by
 refine cell_ind (P := PutOk w0) (fun c ih => ?_) c
 intro b l w A cap hK hB hTr hcap hX hl
 have hk := hK c (cells_self c)
 rw [bodyL_eq] at hl ⊢
 have HIH := Aside0.mk ih
 have HKids := Aside0.mk (fun k hk => hK.kid (c := c) (k := k) hk)
 have HTR := Aside0.mk hTr
 have HT := Aside0.mk hT
 have HB := Aside0.mk hB
 have HX := Aside0.mk hX
 have hszw := hB.size
 have hbw := hX.lt
 clear ih hK hTr hT hB hX
 obtain ⟨kd, r, id, kids⟩ := c
 simp only at hk hl HIH HKids HTR hcap ⊢
 obtain ⟨T, hTT⟩ : ∃ T, T = headB r ++ (if kd = 1 then [44] ++ digL id else [opn kd] ++ kidsL true kids ++ [cls kd]) := ⟨_, rfl⟩
 rw [← hTT]
 have HTT := Aside0.mk hTT
 clear hTT
 obtain ⟨w1, hw1⟩ : ∃ w1, w1 = w.alloc (.cells #[.int .u8 kd, .int .i64 r.f0, .int .i64 r.f1, .int .i64 r.f2, .int .i64 r.f3, .int .i64 id, .slice A kids.length cap] 30) := ⟨_, rfl⟩
 have hbx : w1.heap[w.heap.size]? = some (.cells #[.int .u8 kd, .int .i64 r.f0, .int .i64 r.f1, .int .i64 r.f2, .int .i64 r.f3, .int .i64 id, .slice A kids.length cap] 30 (0, 0)) := by rw [hw1]; exact heap_alloc_new w _
 have hs1 : w1.heap.size = w.heap.size + 1 := by rw [hw1]; simp
 have hb1 : Below w.heap.size w w1 := by rw [hw1]; exact below_alloc (Below.refl _ _) _
 have HW1 : Aside0 (Wrote w0.heap.size b l w w1) := ⟨Wrote.new HX.out hszw hb1⟩
 have CE : Aside0 (∀ W, KeepT b w1 W → W.cell? ⟨w.heap.size, 0, none⟩ = some (.int .u8 kd) ∧ W.cell? ⟨w.heap.size, 1, none⟩ = some (.int .i64 r.f0) ∧ W.cell? ⟨w.heap.size, 2, none⟩ = some (.int .i64 r.f1) ∧ W.cell? ⟨w.heap.size, 3, none⟩ = some (.int .i64 r.f2) ∧ W.cell? ⟨w.heap.size, 4, none⟩ = some (.int .i64 r.f3) ∧ W.cell? ⟨w.heap.size, 5, none⟩ = some (.int .i64 id) ∧ W.cell? ⟨w.heap.size, 6, none⟩ = some (.slice A kids.length cap)) := ⟨fun W hk => by
  have h := hk _ _ _ hbx (by omega) (by decide)
  exact ⟨(blk_cell h 0).trans rfl, (blk_cell h 1).trans rfl, (blk_cell h 2).trans rfl, (blk_cell h 3).trans rfl, (blk_cell h 4).trans rfl, (blk_cell h 5).trans rfl, (blk_cell h 6).trans rfl⟩⟩
 have HWW := Aside0.mk hw1
 have hbd : Below w1.heap.size w1 w1.drew := below_drew (Below.refl _ _)
 obtain ⟨a0, a1, a2, a3, a4, a5, a6⟩ := CE.out w1.drew (KeepT.ofBelow hbd)
 have hNT : ∀ W, Below w0.heap.size w W → NumT W := fun W h => HT.out.below (HB.out.trans h)
 have HNT := Aside0.mk hNT
 have HHD : Aside0 (Calls Tryz.prog 38 #[.agg #[.int .i64 r.f0, .int .i64 r.f1, .int .i64 r.f2, .int .i64 r.f3]] w1.drew fun e w' => e = .returned (.string ⟨(headB r).toArray⟩) ∧ Aside0 (Wrote w0.heap.size b l w1 w') ∧ (w'.cell? ⟨w.heap.size, 1, none⟩ = some (.int .i64 r.f0) ∧ w'.cell? ⟨w.heap.size, 2, none⟩ = some (.int .i64 r.f1) ∧ w'.cell? ⟨w.heap.size, 3, none⟩ = some (.int .i64 r.f2) ∧ w'.cell? ⟨w.heap.size, 4, none⟩ = some (.int .i64 r.f3))) :=
  ⟨(phead_calls r w1.drew (hNT _ (HW1.out.2.1.trans (hbd.mono (by omega))))).mono fun e w' ⟨h1, h2⟩ => by
   have hbb : Below w1.heap.size w1 w' := hbd.trans h2
   obtain ⟨_, q1, q2, q3, q4, _⟩ := CE.out w' (KeepT.ofBelow hbb)
   exact ⟨h1, ⟨Wrote.new HW1.out.1 (by omega) hbb⟩, q1, q2, q3, q4⟩⟩
 have hhl : (⟨(headB r).toArray⟩ : ByteArray).data.toList = headB r := rfl
 have hhz : (⟨(headB r).toArray⟩ : ByteArray).size = (headB r).length := by simp [ByteArray.size]
 rw [List.length_append] at hl
 have HWS : Aside0 (∀ W, Wrote w0.heap.size b l w1 W → Calls Tryz.prog 37 #[.pointer (some ⟨b, 0, none⟩), .string ⟨(headB r).toArray⟩] W fun e w' => e = .returned (.tuple #[.int .i64 (headB r).length, .nilIface]) ∧ Aside0 (Wrote w0.heap.size b (l ++ headB r) w1 w') ∧ (w'.cell? ⟨w.heap.size, 1, none⟩ = some (.int .i64 r.f0) ∧ w'.cell? ⟨w.heap.size, 2, none⟩ = some (.int .i64 r.f1) ∧ w'.cell? ⟨w.heap.size, 3, none⟩ = some (.int .i64 r.f2) ∧ w'.cell? ⟨w.heap.size, 4, none⟩ = some (.int .i64 r.f3))) := ⟨fun W hW => by
  refine (wstrA w0.heap.size b l _ W hW.1 (by rw [hhz]; omega) (Nat.le_trans (by omega) hW.2.1.size)).mono fun e w' ⟨h1, h2⟩ => ?_
  have h3 := hW.then_ h2
  obtain ⟨_, q1, q2, q3, q4, _⟩ := CE.out w' h3.2.2
  exact ⟨by rw [h1, hhz], ⟨h3⟩, q1, q2, q3, q4⟩⟩
 generalize (⟨(headB r).toArray⟩ : ByteArray) = hs at *
 have HN0 : Aside0 (Below w0.heap.size w w1) := ⟨HW1.out.2.1⟩
 clear hbx hb1 hw1 hNT hbd hhl hhz
 go_enter Tryz.func27, Tryz.ntmps27
 go_upto_region 1 with fail
 rw [← HWW.out]
 go_region_held3 (fun w' => w'.cell? ⟨w.heap.size, 1, none⟩ = some (.int .i64 r.f0) ∧ w'.cell? ⟨w.heap.size, 2, none⟩ = some (.int .i64 r.f1) ∧ w'.cell? ⟨w.heap.size, 3, none⟩ = some (.int .i64 r.f2) ∧ w'.cell? ⟨w.heap.size, 4, none⟩ = some (.int .i64 r.f3)) (first | exact ⟨a1, a2, a3, a4⟩ | assumption) (first
  | (go_at_call 38; with_reducible refine HHD.out.mono ?_; rintro e w2 ⟨rfl, H2, K2⟩)
  | (go_at_call 37; with_reducible refine (HWS.out _ H2.out).mono ?_; rintro e w3 ⟨rfl, H3, K3⟩))
 clear K2 H2 HHD HWS a0 a1 a2 a3 a4 a5 a6
 obtain ⟨a0, a1, a2, a3, a4, a5, a6⟩ := CE.out w3 H3.out.2.2
 have hs3 : w1.heap.size ≤ w3.heap.size := H3.out.2.1.size
 rcases hk with rfl | rfl | rfl
 ·rw [if_pos rfl] at hl
  have HT1 : Aside0 (T = headB r ++ ([44] ++ digL id)) := ⟨by rw [HTT.out, if_pos rfl]⟩
  simp only [List.length_append, List.length_singleton] at hl
  have hb3 : Below w3.heap.size w3 w3.drew := below_drew (Below.refl _ _)
  obtain ⟨wl, hwl⟩ : ∃ wl, wl = (w3.alloc (.cells #[.int .i64 id] 3)).drew := ⟨_, rfl⟩
  have hbl : Below w3.heap.size w3 wl := by rw [hwl]; exact below_drew (below_alloc (Below.refl _ _) _)
  have hCl : (Kd.int .i64).C wl (some ⟨w3.heap.size, 0, none⟩) 1 [id] := by rw [hwl]; exact Kd.C_drew (nlitI w3 3 [id] (by simp))
  have hjl := joinS_len [id] [44] rfl
  have hjz : (joinS [digS id]).size ≤ 1000 := by
   simp only [joinS, List.map_cons, List.map_nil, List.length_cons, List.length_nil] at hjl ⊢
   simpa [ByteArray.size] using (by omega : _ ≤ 1000)
  have HDG : Aside0 (Calls Tryz.prog 39 #[.slice (some ⟨w3.heap.size, 0, none⟩) 1 1] wl fun e w' => e = .returned (.string (joinS [digS id])) ∧ Aside0 (Wrote w0.heap.size b (l ++ headB r) w1 w') ∧ w'.cell? ⟨w.heap.size, 5, none⟩ = some (.int .i64 id)) :=
   ⟨(digits_all wl _ 1 1 [id] hCl (by decide) (HNT.out _ (HN0.out.trans (H3.out.2.1.trans (hbl.mono (by omega)))))).mono fun e w' ⟨h1, h2⟩ => by
    have h3 := H3.out.below (by omega) (hbl.trans (h2.mono hbl.size))
    exact ⟨h1, ⟨h3⟩, (CE.out w' h3.2.2).2.2.2.2.2.1⟩⟩
  have h44 : ((⟨#[44]⟩ : ByteArray) ++ joinS [digS id]).data.toList = [44] ++ digL id := by
   rw [ByteArray.data_append, Array.toList_append, joinS1]; rfl
  have h44z : ((⟨#[44]⟩ : ByteArray) ++ joinS [digS id]).size = 1 + (digL id).length := by
   have := congrArg List.length h44
   simp only [Array.length_toList, List.length_append, List.length_singleton] at this
   exact this
  have HW5 : Aside0 (∀ W, Wrote w0.heap.size b (l ++ headB r) w1 W → Calls Tryz.prog 37 #[.pointer (some ⟨b, 0, none⟩), .string ((⟨#[44]⟩ : ByteArray) ++ joinS [digS id])] W fun e w' => e = .returned (.tuple #[.int .i64 (1 + (digL id).length : Nat), .nilIface]) ∧ Aside0 (Wrote w0.heap.size b (l ++ (headB r ++ ([44] ++ digL id))) w1 w') ∧ w'.cell? ⟨w.heap.size, 5, none⟩ = some (.int .i64 id)) := ⟨fun W hW => by
   refine (wstrA w0.heap.size b (l ++ headB r) _ W hW.1 (by rw [h44z, List.length_append]; omega) (Nat.le_trans (by omega) hW.2.1.size)).mono fun e w' ⟨h1, h2⟩ => ?_
   rw [h44] at h2
   have h3 := hW.then_ h2
   rw [List.append_assoc] at h3
   exact ⟨by rw [h1, h44z], ⟨h3⟩, (CE.out w' h3.2.2).2.2.2.2.2.1⟩⟩
  have hcl : wl.cell? ⟨w.heap.size, 5, none⟩ = some (.int .i64 id) := (CE.out wl (H3.out.2.2.trans (KeepT.ofBelow hbl))).2.2.2.2.2.1
  have hcd : w3.drew.cell? ⟨w.heap.size, 5, none⟩ = some (.int .i64 id) := (CE.out w3.drew (H3.out.2.2.trans (KeepT.ofBelow hb3))).2.2.2.2.2.1
  generalize joinS [digS id] = ds at *
  have z0 : 1 + ds.size ≤ 9223372036854775807 := by omega
  have z1 : (9223372036854775807 < 1 + ds.size) = False := eq_false (by omega)
  have z2 : (9223372036854775807 < (⟨#[44]⟩ : ByteArray).size + ds.size) = False := eq_false (by have : (⟨#[44]⟩ : ByteArray).size = 1 := rfl; omega)
  have HWL := Aside0.mk hwl
  rw [hwl] at HDG hcl
  clear hwl hbl hCl hjl h44 h44z a1 a2 a3 a4 a6 hb3
  go_upto_region 7 with fail
  go_region_held3 (fun w' => w'.cell? ⟨w.heap.size, 5, none⟩ = some (.int .i64 id)) (first | exact hcd | exact hcl | assumption) (first
   | (go_at_call 39; with_reducible refine HDG.out.mono ?_; rintro e w4 ⟨rfl, H4, K4⟩)
   | (go_at_call 37; with_reducible refine (HW5.out _ H4.out).mono ?_; rintro e w5 ⟨rfl, H5, K5⟩))
  go_wp2
  exact bodyPost_ret (v := .tuple #[]) (by simp [results, Tryz.results27, go_sem]) rfl ⟨rfl, by rw [HT1.out]; exact HW1.out.then_ H5.out⟩
 ·rw [if_neg (by decide)] at hl
  simp only [List.length_append, List.length_singleton] at hl
  have e1 : opn 2 = 123 := rfl
  have e2 : cls 2 = 125 := rfl
  have HT2 : Aside0 (T = headB r ++ ([123] ++ kidsL true kids ++ [125])) := ⟨by rw [HTT.out, if_neg (by decide), e1, e2]⟩
  clear e1 e2
  have hb3 : Below w3.heap.size w3 w3.drew := below_drew (Below.refl _ _)
  have HWB : Aside0 (Calls Tryz.prog 40 #[.pointer (some ⟨b, 0, none⟩), .int .u8 123] w3.drew fun e w' => e = .returned .nilIface ∧ Aside0 (Wrote w0.heap.size b (l ++ headB r ++ [123]) w1 w')) :=
   ⟨(wbyteA w0.heap.size b (l ++ headB r) 123 w3.drew 123 rfl (H3.out.1.below hb3) (by rw [List.length_append]; omega) (Nat.le_trans (by omega) hb3.size)).mono fun e w' ⟨h1, h2⟩ => ⟨h1, ⟨(H3.out.below (by omega) hb3).then_ h2⟩⟩⟩
  clear hb3 a1 a2 a3 a4 a5
  go_upto_region 9 with fail
  go_region_held3 (fun w' => True) (first | trivial) (first
   | (go_at_call 40; show Calls Tryz.prog 40 #[.pointer (some ⟨b, 0, none⟩), .int .u8 123] _ _; with_reducible refine HWB.out.mono ?_; rintro e w4 ⟨rfl, H4⟩))
  clear HWB a0 a6
  have a6 := (CE.out w4 H4.out.2.2).2.2.2.2.2.2
  have HLEN := Aside0.mk HTR.out.len
  obtain ⟨n, hn⟩ : ∃ n, n = kids.length := ⟨_, rfl⟩
  have HN := Aside0.mk hn
  rw [← hn] at a6 HTR hcap
  have hnm : n ≤ 9223372036854775807 := HTR.out.max
  have HKL : Aside0 (∀ j, j < n → (l ++ headB r ++ [123] ++ kidsL true (kids.take j)).length + (sepK j).length + (bodyL (kids.getD j z30)).length + 2 ≤ 1000000001 ∧ kidsL true (kids.take (j + 1)) = kidsL true (kids.take j) ++ sepK j ++ bodyL (kids.getD j z30)) := ⟨fun j hj => by
   have h1 := kidsL_split kids j (by omega)
   have h2 := congrArg List.length h1
   simp only [List.length_append] at h2
   refine ⟨by simp only [List.length_append, List.length_singleton]; omega, kidsL_take kids j (by omega)⟩⟩
  have HKE : Aside0 ((l ++ headB r ++ [123] ++ kidsL true kids).length + 1 ≤ 1000000001) := ⟨by simp only [List.length_append, List.length_singleton]; omega⟩
  clear hn hl
  go_wp2_with fail
  go_loopw [40] (fun i wr => ∃ j : Nat, j ≤ n ∧ i = .int .i64 j ∧ Aside0 (Wrote w0.heap.size b (l ++ headB r ++ [123] ++ kidsL true (kids.take j)) w1 wr)) (fun i _ => n - (intOf i).toNat)
  case atStart => exact ⟨0, by omega, rfl, ⟨by rw [List.take_zero, kidsL_nil, List.append_nil]; exact H4.out⟩⟩
  case round =>
   obtain ⟨j, hj, rfl, HR⟩ := hrel
   have hsr : w1.heap.size ≤ wr.heap.size := HR.out.2.1.size
   by_cases hlt : j < n
   ·obtain ⟨ad, A6, c6, rfl, g0, g1, g2, g3, g4, g5, g6, hl6, hT6⟩ := (HTR.out.below (HN0.out.trans HR.out.2.1)).get j hlt
    obtain ⟨hln, hkt⟩ := HKL.out j hlt
    have hmem : kids.getD j z30 ∈ kids := by
     have hjl : j < kids.length := by rw [← HN.out]; exact hlt
     rw [List.getD_eq_getElem?_getD, List.getElem?_eq_getElem hjl]
     exact List.getElem_mem _
    obtain ⟨x, hx⟩ : ∃ x, x = kids.getD j z30 := ⟨_, rfl⟩
    rw [← hx] at g0 g1 g2 g3 g4 g5 g6 hl6 hT6 hln hkt hmem
    have HPUT := Aside0.mk (HIH.out x hmem)
    have HKX := Aside0.mk (HKids.out x hmem)
    obtain ⟨P, hP⟩ : ∃ P, P = l ++ headB r ++ [123] ++ kidsL true (kids.take j) := ⟨_, rfl⟩
    have hP2 : l ++ headB r ++ [123] ++ kidsL true (kids.take (j + 1)) = P ++ sepK j ++ bodyL x := by rw [hkt, hP]; simp [List.append_assoc]
    have HRP := HR.out
    rw [← hP] at hln HRP
    have HP2 := Aside0.mk hP2
    have HTX := Aside0.mk hT6
    clear hx hkt hmem hT6 hP hP2
    obtain ⟨wa, hwa⟩ : ∃ wa, wa = wr.alloc (.cells #[.int .u8 x.f0, .int .i64 x.f1.f0, .int .i64 x.f1.f1, .int .i64 x.f1.f2, .int .i64 x.f1.f3, .int .i64 x.f2, .slice A6 x.f3.length c6] 30) := ⟨_, rfl⟩
    have hba : Below wr.heap.size wr wa := by rw [hwa]; exact below_alloc (Below.refl _ _) _
    have hka : wa.heap[wr.heap.size]? = some (.cells #[.int .u8 x.f0, .int .i64 x.f1.f0, .int .i64 x.f1.f1, .int .i64 x.f1.f2, .int .i64 x.f1.f3, .int .i64 x.f2, .slice A6 x.f3.length c6] 30 (0, 0)) := by rw [hwa]; exact heap_alloc_new wr _
    have hA : Wrote w0.heap.size b P w1 wa := HRP.below (by omega) hba
    have hsa : wr.heap.size < wa.heap.size := by rw [hwa]; simp
    have hra : Below w0.heap.size wr wa := hba.mono (by omega)
    have HPX : Aside0 (∀ (P' : List UInt8) (W : World), Wrote w0.heap.size b P' wa W → P'.length + (bodyL x).length ≤ 1000000000 → Calls Tryz.prog 27 #[.pointer (some ⟨b, 0, none⟩), .agg #[.int .u8 x.f0, .int .i64 x.f1.f0, .int .i64 x.f1.f1, .int .i64 x.f1.f2, .int .i64 x.f1.f3, .int .i64 x.f2, .slice A6 x.f3.length c6]] W fun e w' => e = .returned (.tuple #[]) ∧ Aside0 (Wrote w0.heap.size b (P' ++ bodyL x) w1 w')) := ⟨fun P' W hW hlp =>
     (HPUT.out b P' W A6 c6 HKX.out (HB.out.trans (HN0.out.trans (hA.2.1.trans hW.2.1))) (HTX.out.below (hra.trans hW.2.1)) hl6 hW.1 hlp).mono fun e w' ⟨h1, h2⟩ => ⟨h1, ⟨(hA.then_ hW).then_ h2⟩⟩⟩
    have HA := Aside0.mk hA
    have HWA := Aside0.mk hwa
    have HKA := Aside0.mk hka
    clear hwa hba hka hA hra HRP HR HPUT HTX hl6
    by_cases h0 : j = 0
    ·have hj0 : decide ((j : Int) > 0) = false := decide_eq_false (by omega)
     have hj1 : ¬ (0 : Int) < (j : Int) := by omega
     have hsk : sepK j = [] := by unfold sepK; rw [if_pos h0]
     rw [hsk] at HP2
     clear h0
     have HP0 := Aside0.mk (HPX.out P wa ⟨HA.out.1, Below.refl _ _, KeepT.ofBelow (Below.refl _ _)⟩ (by omega))
     rw [HWA.out] at HP0
     go_wp2_with fail
     with_reducible refine HP0.out.mono ?_
     rintro e wz ⟨rfl, HZ⟩
     go_wp2
     go_roundw
     case rel => exact ⟨j + 1, by omega, by go_num, ⟨by rw [HP2.out, List.append_nil]; exact HZ.out⟩⟩
     case measure => simp [intOf]; omega
    ·have hjp : decide ((j : Int) > 0) = true := decide_eq_true (by omega)
     have hjp2 : (0 : Int) < (j : Int) := by omega
     have hsk : sepK j = [44] := by unfold sepK; rw [if_neg h0]
     rw [hsk] at hln HP2
     have HW4 : Aside0 (Calls Tryz.prog 40 #[.pointer (some ⟨b, 0, none⟩), .int .u8 44] wa fun e w' => e = .returned .nilIface ∧ Aside0 (Wrote w0.heap.size b (P ++ [44]) wa w') ∧ w'.cell? ⟨wr.heap.size, 0, none⟩ = some (.int .u8 x.f0) ∧ w'.cell? ⟨wr.heap.size, 1, none⟩ = some (.int .i64 x.f1.f0) ∧ w'.cell? ⟨wr.heap.size, 2, none⟩ = some (.int .i64 x.f1.f1) ∧ w'.cell? ⟨wr.heap.size, 3, none⟩ = some (.int .i64 x.f1.f2) ∧ w'.cell? ⟨wr.heap.size, 4, none⟩ = some (.int .i64 x.f1.f3) ∧ w'.cell? ⟨wr.heap.size, 5, none⟩ = some (.int .i64 x.f2) ∧ w'.cell? ⟨wr.heap.size, 6, none⟩ = some (.slice A6 x.f3.length c6)) :=
      ⟨(wbyteA w0.heap.size b P 44 wa 44 rfl HA.out.1 (by omega) (by omega)).mono fun e w' ⟨h1, h2⟩ => by
       have h := h2.2.2 _ _ _ HKA.out (by omega) (by decide)
       exact ⟨h1, ⟨h2⟩, (blk_cell h 0).trans rfl, (blk_cell h 1).trans rfl, (blk_cell h 2).trans rfl, (blk_cell h 3).trans rfl, (blk_cell h 4).trans rfl, (blk_cell h 5).trans rfl, (blk_cell h 6).trans rfl⟩⟩
     rw [HWA.out] at HW4 HPX
     have hlq : (P ++ [44]).length + (bodyL x).length ≤ 1000000000 := by rw [List.length_append, List.length_singleton]; simp only [List.length_singleton] at hln; omega
     go_wp2_with fail
     with_reducible refine HW4.out.mono ?_
     rintro e wy ⟨rfl, HY, q0, q1, q2, q3, q4, q5, q6⟩
     go_wp2_with fail
     with_reducible refine (HPX.out (P ++ [44]) _ HY.out hlq).mono ?_
     rintro e wz ⟨rfl, HZ⟩
     go_wp2
     go_roundw
     case rel => exact ⟨j + 1, by omega, by go_num, ⟨by rw [HP2.out]; exact HZ.out⟩⟩
     case measure => simp [intOf]; omega
   ·have hjn : j = n := by omega
    subst hjn
    have hR := HR.out
    rw [HN.out, List.take_length] at hR
    have hrd : Below wr.heap.size wr wr.drew := below_drew (Below.refl _ _)
    have HWE : Aside0 (Calls Tryz.prog 40 #[.pointer (some ⟨b, 0, none⟩), .int .u8 125] wr.drew fun e w' => e = .returned .nilIface ∧ Aside0 (Wrote w0.heap.size b (l ++ T) w1 w')) :=
     ⟨(wbyteA w0.heap.size b (l ++ headB r ++ [123] ++ kidsL true kids) 125 wr.drew 125 rfl (hR.1.below hrd) HKE.out (Nat.le_trans (by omega) hrd.size)).mono fun e w' ⟨h1, h2⟩ => ⟨h1, ⟨by
      have h3 := (hR.below (by omega) hrd).then_ h2
      have e3 : l ++ T = l ++ headB r ++ [123] ++ kidsL true kids ++ [125] := by rw [HT2.out]; simp [List.append_assoc]
      rw [e3]
      exact h3⟩⟩⟩
    clear hR hrd
    go_upto_region 17 with fail
    go_region_held3 (fun w' => True) (first | trivial) (first
     | (go_at_call 40; show Calls Tryz.prog 40 #[.pointer (some ⟨b, 0, none⟩), .int .u8 125] _ _; with_reducible refine HWE.out.mono ?_; rintro e wz ⟨rfl, HZ⟩))
    go_wp2
    go_end0
    exact ⟨rfl, HW1.out.then_ HZ.out⟩
 ·rw [if_neg (by decide)] at hl
  simp only [List.length_append, List.length_singleton] at hl
  have e1 : opn 3 = 91 := rfl
  have e2 : cls 3 = 93 := rfl
  have HT2 : Aside0 (T = headB r ++ ([91] ++ kidsL true kids ++ [93])) := ⟨by rw [HTT.out, if_neg (by decide), e1, e2]⟩
  clear e1 e2
  have hb3 : Below w3.heap.size w3 w3.drew := below_drew (Below.refl _ _)
  have HWB : Aside0 (Calls Tryz.prog 40 #[.pointer (some ⟨b, 0, none⟩), .int .u8 91] w3.drew fun e w' => e = .returned .nilIface ∧ Aside0 (Wrote w0.heap.size b (l ++ headB r ++ [91]) w1 w')) :=
   ⟨(wbyteA w0.heap.size b (l ++ headB r) 91 w3.drew 91 rfl (H3.out.1.below hb3) (by rw [List.length_append]; omega) (Nat.le_trans (by omega) hb3.size)).mono fun e w' ⟨h1, h2⟩ => ⟨h1, ⟨(H3.out.below (by omega) hb3).then_ h2⟩⟩⟩
  clear hb3 a1 a2 a3 a4 a5
  go_upto_region 9 with fail
  go_region_held3 (fun w' => True) (first | trivial) (first
   | (go_at_call 40; show Calls Tryz.prog 40 #[.pointer (some ⟨b, 0, none⟩), .int .u8 91] _ _; with_reducible refine HWB.out.mono ?_; rintro e w4 ⟨rfl, H4⟩))
  clear HWB a0 a6
  have a6 := (CE.out w4 H4.out.2.2).2.2.2.2.2.2
  have HLEN := Aside0.mk HTR.out.len
  obtain ⟨n, hn⟩ : ∃ n, n = kids.length := ⟨_, rfl⟩
  have HN := Aside0.mk hn
  rw [← hn] at a6 HTR hcap
  have hnm : n ≤ 9223372036854775807 := HTR.out.max
  have HKL : Aside0 (∀ j, j < n → (l ++ headB r ++ [91] ++ kidsL true (kids.take j)).length + (sepK j).length + (bodyL (kids.getD j z30)).length + 2 ≤ 1000000001 ∧ kidsL true (kids.take (j + 1)) = kidsL true (kids.take j) ++ sepK j ++ bodyL (kids.getD j z30)) := ⟨fun j hj => by
   have h1 := kidsL_split kids j (by omega)
   have h2 := congrArg List.length h1
   simp only [List.length_append] at h2
   refine ⟨by simp only [List.length_append, List.length_singleton]; omega, kidsL_take kids j (by omega)⟩⟩
  have HKE : Aside0 ((l ++ headB r ++ [91] ++ kidsL true kids).length + 1 ≤ 1000000001) := ⟨by simp only [List.length_append, List.length_singleton]; omega⟩
  clear hn hl
  go_wp2_with fail
  go_loopw [40] (fun i wr => ∃ j : Nat, j ≤ n ∧ i = .int .i64 j ∧ Aside0 (Wrote w0.heap.size b (l ++ headB r ++ [91] ++ kidsL true (kids.take j)) w1 wr)) (fun i _ => n - (intOf i).toNat)
  case atStart => exact ⟨0, by omega, rfl, ⟨by rw [List.take_zero, kidsL_nil, List.append_nil]; exact H4.out⟩⟩
  case round =>
   obtain ⟨j, hj, rfl, HR⟩ := hrel
   have hsr : w1.heap.size ≤ wr.heap.size := HR.out.2.1.size
   by_cases hlt : j < n
   ·obtain ⟨ad, A6, c6, rfl, g0, g1, g2, g3, g4, g5, g6, hl6, hT6⟩ := (HTR.out.below (HN0.out.trans HR.out.2.1)).get j hlt
    obtain ⟨hln, hkt⟩ := HKL.out j hlt
    have hmem : kids.getD j z30 ∈ kids := by
     have hjl : j < kids.length := by rw [← HN.out]; exact hlt
     rw [List.getD_eq_getElem?_getD, List.getElem?_eq_getElem hjl]
     exact List.getElem_mem _
    obtain ⟨x, hx⟩ : ∃ x, x = kids.getD j z30 := ⟨_, rfl⟩
    rw [← hx] at g0 g1 g2 g3 g4 g5 g6 hl6 hT6 hln hkt hmem
    have HPUT := Aside0.mk (HIH.out x hmem)
    have HKX := Aside0.mk (HKids.out x hmem)
    obtain ⟨P, hP⟩ : ∃ P, P = l ++ headB r ++ [91] ++ kidsL true (kids.take j) := ⟨_, rfl⟩
    have hP2 : l ++ headB r ++ [91] ++ kidsL true (kids.take (j + 1)) = P ++ sepK j ++ bodyL x := by rw [hkt, hP]; simp [List.append_assoc]
    have HRP := HR.out
    rw [← hP] at hln HRP
    have HP2 := Aside0.mk hP2
    have HTX := Aside0.mk hT6
    clear hx hkt hmem hT6 hP hP2
    obtain ⟨wa, hwa⟩ : ∃ wa, wa = wr.alloc (.cells #[.int .u8 x.f0, .int .i64 x.f1.f0, .int .i64 x.f1.f1, .int .i64 x.f1.f2, .int .i64 x.f1.f3, .int .i64 x.f2, .slice A6 x.f3.length c6] 30) := ⟨_, rfl⟩
    have hba : Below wr.heap.size wr wa := by rw [hwa]; exact below_alloc (Below.refl _ _) _
    have hka : wa.heap[wr.heap.size]? = some (.cells #[.int .u8 x.f0, .int .i64 x.f1.f0, .int .i64 x.f1.f1, .int .i64 x.f1.f2, .int .i64 x.f1.f3, .int .i64 x.f2, .slice A6 x.f3.length c6] 30 (0, 0)) := by rw [hwa]; exact heap_alloc_new wr _
    have hA : Wrote w0.heap.size b P w1 wa := HRP.below (by omega) hba
    have hsa : wr.heap.size < wa.heap.size := by rw [hwa]; simp
    have hra : Below w0.heap.size wr wa := hba.mono (by omega)
    have HPX : Aside0 (∀ (P' : List UInt8) (W : World), Wrote w0.heap.size b P' wa W → P'.length + (bodyL x).length ≤ 1000000000 → Calls Tryz.prog 27 #[.pointer (some ⟨b, 0, none⟩), .agg #[.int .u8 x.f0, .int .i64 x.f1.f0, .int .i64 x.f1.f1, .int .i64 x.f1.f2, .int .i64 x.f1.f3, .int .i64 x.f2, .slice A6 x.f3.length c6]] W fun e w' => e = .returned (.tuple #[]) ∧ Aside0 (Wrote w0.heap.size b (P' ++ bodyL x) w1 w')) := ⟨fun P' W hW hlp =>
     (HPUT.out b P' W A6 c6 HKX.out (HB.out.trans (HN0.out.trans (hA.2.1.trans hW.2.1))) (HTX.out.below (hra.trans hW.2.1)) hl6 hW.1 hlp).mono fun e w' ⟨h1, h2⟩ => ⟨h1, ⟨(hA.then_ hW).then_ h2⟩⟩⟩
    have HA := Aside0.mk hA
    have HWA := Aside0.mk hwa
    have HKA := Aside0.mk hka
    clear hwa hba hka hA hra HRP HR HPUT HTX hl6
    by_cases h0 : j = 0
    ·have hj0 : decide ((j : Int) > 0) = false := decide_eq_false (by omega)
     have hj1 : ¬ (0 : Int) < (j : Int) := by omega
     have hsk : sepK j = [] := by unfold sepK; rw [if_pos h0]
     rw [hsk] at HP2
     clear h0
     have HP0 := Aside0.mk (HPX.out P wa ⟨HA.out.1, Below.refl _ _, KeepT.ofBelow (Below.refl _ _)⟩ (by omega))
     rw [HWA.out] at HP0
     go_wp2_with fail
     with_reducible refine HP0.out.mono ?_
     rintro e wz ⟨rfl, HZ⟩
     go_wp2
     go_roundw
     case rel => exact ⟨j + 1, by omega, by go_num, ⟨by rw [HP2.out, List.append_nil]; exact HZ.out⟩⟩
     case measure => simp [intOf]; omega
    ·have hjp : decide ((j : Int) > 0) = true := decide_eq_true (by omega)
     have hjp2 : (0 : Int) < (j : Int) := by omega
     have hsk : sepK j = [44] := by unfold sepK; rw [if_neg h0]
     rw [hsk] at hln HP2
     have HW4 : Aside0 (Calls Tryz.prog 40 #[.pointer (some ⟨b, 0, none⟩), .int .u8 44] wa fun e w' => e = .returned .nilIface ∧ Aside0 (Wrote w0.heap.size b (P ++ [44]) wa w') ∧ w'.cell? ⟨wr.heap.size, 0, none⟩ = some (.int .u8 x.f0) ∧ w'.cell? ⟨wr.heap.size, 1, none⟩ = some (.int .i64 x.f1.f0) ∧ w'.cell? ⟨wr.heap.size, 2, none⟩ = some (.int .i64 x.f1.f1) ∧ w'.cell? ⟨wr.heap.size, 3, none⟩ = some (.int .i64 x.f1.f2) ∧ w'.cell? ⟨wr.heap.size, 4, none⟩ = some (.int .i64 x.f1.f3) ∧ w'.cell? ⟨wr.heap.size, 5, none⟩ = some (.int .i64 x.f2) ∧ w'.cell? ⟨wr.heap.size, 6, none⟩ = some (.slice A6 x.f3.length c6)) :=
      ⟨(wbyteA w0.heap.size b P 44 wa 44 rfl HA.out.1 (by omega) (by omega)).mono fun e w' ⟨h1, h2⟩ => by
       have h := h2.2.2 _ _ _ HKA.out (by omega) (by decide)
       exact ⟨h1, ⟨h2⟩, (blk_cell h 0).trans rfl, (blk_cell h 1).trans rfl, (blk_cell h 2).trans rfl, (blk_cell h 3).trans rfl, (blk_cell h 4).trans rfl, (blk_cell h 5).trans rfl, (blk_cell h 6).trans rfl⟩⟩
     rw [HWA.out] at HW4 HPX
     have hlq : (P ++ [44]).length + (bodyL x).length ≤ 1000000000 := by rw [List.length_append, List.length_singleton]; simp only [List.length_singleton] at hln; omega
     go_wp2_with fail
     with_reducible refine HW4.out.mono ?_
     rintro e wy ⟨rfl, HY, q0, q1, q2, q3, q4, q5, q6⟩
     go_wp2_with fail
     with_reducible refine (HPX.out (P ++ [44]) _ HY.out hlq).mono ?_
     rintro e wz ⟨rfl, HZ⟩
     go_wp2
     go_roundw
     case rel => exact ⟨j + 1, by omega, by go_num, ⟨by rw [HP2.out]; exact HZ.out⟩⟩
     case measure => simp [intOf]; omega
   ·have hjn : j = n := by omega
    subst hjn
    have hR := HR.out
    rw [HN.out, List.take_length] at hR
    have hrd : Below wr.heap.size wr wr.drew := below_drew (Below.refl _ _)
    have HWE : Aside0 (Calls Tryz.prog 40 #[.pointer (some ⟨b, 0, none⟩), .int .u8 93] wr.drew fun e w' => e = .returned .nilIface ∧ Aside0 (Wrote w0.heap.size b (l ++ T) w1 w')) :=
     ⟨(wbyteA w0.heap.size b (l ++ headB r ++ [91] ++ kidsL true kids) 93 wr.drew 93 rfl (hR.1.below hrd) HKE.out (Nat.le_trans (by omega) hrd.size)).mono fun e w' ⟨h1, h2⟩ => ⟨h1, ⟨by
      have h3 := (hR.below (by omega) hrd).then_ h2
      have e3 : l ++ T = l ++ headB r ++ [91] ++ kidsL true kids ++ [93] := by rw [HT2.out]; simp [List.append_assoc]
      rw [e3]
      exact h3⟩⟩⟩
    clear hR hrd
    go_upto_region 17 with fail
    go_region_held3 (fun w' => True) (first | trivial) (first
     | (go_at_call 40; show Calls Tryz.prog 40 #[.pointer (some ⟨b, 0, none⟩), .int .u8 93] _ _; with_reducible refine HWE.out.mono ?_; rintro e wz ⟨rfl, HZ⟩))
    go_wp2
    go_end0
    exact ⟨rfl, HW1.out.then_ HZ.out⟩
end Go.Proofs.YtakhnigalkjhhaaGreatDoor
