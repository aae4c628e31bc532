/-
  Joined texts: PrPut, PrTopP, PsRnd.
-/
import Derived.Test.YtkobpbbegalfpaaGreatDoorPrBuild
import Derived.Test.YtkobpbbegalfpaaGreatDoorPParseBodiesx2
import Derived.Test.YtkobpbbegalfpaaGreatDoorPsWhole2
import Derived.Test.YtkobpbbegalfpaaGreatDoorSuPutP
import Derived.Test.YtkobpbbegalfpaaGreatDoorPrPure
import Derived.Test.YtkobpbbegalfpaaGreatDoorPsTop
namespace Go.Proofs.YtkobpbbegalfpaaGreatDoor
open Go.RowKit YtkobpbbegalfpaaGreatDoorW.PrintWords YtkobpbbegalfpaaGreatDoorW.PrintLast YtkobpbbegalfpaaGreatDoorW.PrintMore PParseBodies
set_option linter.unusedVariables false
set_option linter.unusedSimpArgs false
set_option maxRecDepth 100000
def CKind (c : SC) : Prop := ∀ x ∈ cells c, x.f0 = 1 ∨ x.f0 = 2 ∨ x.f0 = 3
theorem CKind.kid {c k : SC} (h : CKind c) (hk : k ∈ c.f3) : CKind k := fun x hx => h x (cells_kid hk x hx)
def Wrote (B b : Nat) (l : List UInt8) (w w' : World) : Prop := TextIs B b l w' ∧ Below B w w' ∧ KeepT b w w'
theorem TextIs.below {B b : Nat} {l : List UInt8} {w w' : World} (h : TextIs B b l w) (hb : Below w.heap.size w w') : TextIs B b l w' := by
 have k : ∀ p, TextAt B b p l w → TextAt B b p l w' := fun p ⟨h1, v, h2, h3, h4⟩ => ⟨h1, v, (hb.block b (blk_lt h2)).trans h2, h3.kept (row := none) ⟨hb.os, hb.tape, hb.output, hb.size, fun i hi _ => hb.block i hi⟩ (Classical.em _), h4⟩
 exact h.imp (k _) (k _)
theorem TextIs.lt {B b : Nat} {l : List UInt8} {w : World} (h : TextIs B b l w) : b < w.heap.size := by
 rcases h with h | h <;> exact Lib.BuilderAt.lt h
theorem Wrote.below {B b : Nat} {l : List UInt8} {w w' w'' : World} (h : Wrote B b l w w') (hB : B ≤ w'.heap.size) (hb : Below w'.heap.size w' w'') : Wrote B b l w w'' := ⟨h.1.below hb, h.2.1.trans (hb.mono hB), h.2.2.trans (KeepT.ofBelow hb)⟩
theorem Wrote.then_ {B b : Nat} {l l' : List UInt8} {w w' w'' : World} (h : Wrote B b l w w') (k : Wrote B b l' w' w'') : Wrote B b l' w w'' := ⟨k.1, h.2.1.trans k.2.1, h.2.2.trans k.2.2⟩
theorem Wrote.new {B b : Nat} {l : List UInt8} {w w' : World} (h : TextIs B b l w) (hB : B ≤ w.heap.size) (hb : Below w.heap.size w w') : Wrote B b l w w' := ⟨h.below hb, hb.mono hB, KeepT.ofBelow hb⟩
def PutOk (w0 : World) (c : SC) : Prop := ∀ (b : Nat) (l : List UInt8) (w : World) (A : Option Addr) (cap : Nat), CKind c → Below w0.heap.size w0 w → Tr w0.heap.size w A c.f3.length c.f3 → c.f3.length ≤ cap → TextIs w0.heap.size b l w → l.length + (bodyL c).length ≤ 1000000000 →
 Calls Tryz.prog 59 #[.pointer (some ⟨b, 0, none⟩), .agg #[.int .u8 c.f0, .int .i64 c.f1.f0, .int .i64 c.f1.f1, .int .i64 c.f1.f2, .int .i64 c.f1.f3, .int .i64 c.f2, .slice A c.f3.length cap]] w fun e w' => e = .returned (.tuple #[]) ∧ Wrote w0.heap.size b (l ++ bodyL c) w w'
theorem wbyteA (B b : Nat) (l : List UInt8) (c : UInt8) (w : World) (n : Int) (hn : (c.toNat : Int) = n) (h : TextIs B b l w) (hlen : l.length + 1 ≤ 1000000001) (hB : B ≤ w.heap.size) :
  Calls Tryz.prog 87 #[.pointer (some ⟨b, 0, none⟩), .int .u8 n] w fun e w' => e = .returned .nilIface ∧ Wrote B b (l ++ [c]) w w' := by
 subst hn
 exact (wbyte_calls B b l c w h (by omega) hB).mono fun e w' ⟨h1, h2, h3, h4⟩ => ⟨h1, Or.inr h2, h3, h4⟩
theorem wstrA (B b : Nat) (l : List UInt8) (s : ByteArray) (w : World) (h : TextIs B b l w) (hlen : l.length + s.size ≤ 1000000001) (hB : B ≤ w.heap.size) :
  Calls Tryz.prog 84 #[.pointer (some ⟨b, 0, none⟩), .string s] w fun e w' => e = .returned (.tuple #[.int .i64 s.size, .nilIface]) ∧ Wrote B b (l ++ s.data.toList) w w' :=
 (wstr_calls B b l s w h (by omega) hB).mono fun e w' ⟨h1, h2, h3, h4⟩ => ⟨h1, Or.inr h2, h3, h4⟩
set_option maxHeartbeats 8000000 in
theorem put_cell (w0 : World) (hT : NumT w0) (c : SC) : PutOk w0 c := by
 refine cell_ind (P := PutOk w0) (fun c ih => ?_) c
 intro b l w A cap hK hB hTr hcap hX hl
 have hk := hK c (cells_self c)
 rw [bodyL_eq] at hl ⊢
 have HIH := ak ih
 have HKids := ak (fun k hk => hK.kid (c := c) (k := k) hk)
 have HTR := ak hTr
 have HT := ak hT
 have HB := ak hB
 have HX := ak hX
 have hszw := hB.size
 have hbw := hX.lt
 clear ih hK hTr hT hB hX
 obtain ⟨kd, r, id, kids⟩ := c
 simp only at hk hl HIH HKids HTR hcap ⊢
 obtain ⟨T, hTT⟩ : ∃ T, T = headB r ++ (if kd = 1 then [44] ++ digL id else [opn kd] ++ kidsL true kids ++ [cls kd]) := ⟨_, rfl⟩
 rw [← hTT]
 have HTT := ak hTT
 clear hTT
 obtain ⟨w1, hw1⟩ : ∃ w1, w1 = w.alloc (.cells #[.int .u8 kd, .int .i64 r.f0, .int .i64 r.f1, .int .i64 r.f2, .int .i64 r.f3, .int .i64 id, .slice A kids.length cap] 27) := ⟨_, rfl⟩
 have hbx : w1.heap[w.heap.size]? = some (.cells #[.int .u8 kd, .int .i64 r.f0, .int .i64 r.f1, .int .i64 r.f2, .int .i64 r.f3, .int .i64 id, .slice A kids.length cap] 27 (0, 0)) := by rw [hw1]; exact heap_alloc_new w _
 have hs1 : w1.heap.size = w.heap.size + 1 := by rw [hw1]; simp
 have hb1 : Below w.heap.size w w1 := by rw [hw1]; exact below_alloc (Below.refl _ _) _
 have HW1 : Aside0 (Wrote w0.heap.size b l w w1) := ⟨Wrote.new HX.out hszw hb1⟩
 have CE : Aside0 (∀ W, KeepT b w1 W → W.cell? ⟨w.heap.size, 0, none⟩ = some (.int .u8 kd) ∧ W.cell? ⟨w.heap.size, 1, none⟩ = some (.int .i64 r.f0) ∧ W.cell? ⟨w.heap.size, 2, none⟩ = some (.int .i64 r.f1) ∧ W.cell? ⟨w.heap.size, 3, none⟩ = some (.int .i64 r.f2) ∧ W.cell? ⟨w.heap.size, 4, none⟩ = some (.int .i64 r.f3) ∧ W.cell? ⟨w.heap.size, 5, none⟩ = some (.int .i64 id) ∧ W.cell? ⟨w.heap.size, 6, none⟩ = some (.slice A kids.length cap)) := ⟨fun W hk => by
  have h := hk _ _ _ hbx (by omega) (by decide)
  exact ⟨(blk_cell h 0).trans rfl, (blk_cell h 1).trans rfl, (blk_cell h 2).trans rfl, (blk_cell h 3).trans rfl, (blk_cell h 4).trans rfl, (blk_cell h 5).trans rfl, (blk_cell h 6).trans rfl⟩⟩
 have HWW := ak hw1
 have hbd : Below w1.heap.size w1 w1.drew := below_drew (Below.refl _ _)
 obtain ⟨a0, a1, a2, a3, a4, a5, a6⟩ := CE.out w1.drew (KeepT.ofBelow hbd)
 have hNT : ∀ W, Below w0.heap.size w W → NumT W := fun W h => HT.out.below (HB.out.trans h)
 have HNT := ak hNT
 have HHD : Aside0 (Calls Tryz.prog 85 #[.agg #[.int .i64 r.f0, .int .i64 r.f1, .int .i64 r.f2, .int .i64 r.f3]] w1.drew fun e w' => e = .returned (.string ⟨(headB r).toArray⟩) ∧ Aside0 (Wrote w0.heap.size b l w1 w') ∧ (w'.cell? ⟨w.heap.size, 1, none⟩ = some (.int .i64 r.f0) ∧ w'.cell? ⟨w.heap.size, 2, none⟩ = some (.int .i64 r.f1) ∧ w'.cell? ⟨w.heap.size, 3, none⟩ = some (.int .i64 r.f2) ∧ w'.cell? ⟨w.heap.size, 4, none⟩ = some (.int .i64 r.f3))) :=
  ⟨(phead_calls r w1.drew (hNT _ (HW1.out.2.1.trans (hbd.mono (by omega))))).mono fun e w' ⟨h1, h2⟩ => by
   have hbb : Below w1.heap.size w1 w' := hbd.trans h2
   obtain ⟨_, q1, q2, q3, q4, _⟩ := CE.out w' (KeepT.ofBelow hbb)
   exact ⟨h1, ⟨Wrote.new HW1.out.1 (by omega) hbb⟩, q1, q2, q3, q4⟩⟩
 have hhl : (⟨(headB r).toArray⟩ : ByteArray).data.toList = headB r := rfl
 have hhz : (⟨(headB r).toArray⟩ : ByteArray).size = (headB r).length := by simp [ByteArray.size]
 rw [List.length_append] at hl
 have HWS : Aside0 (∀ W, Wrote w0.heap.size b l w1 W → Calls Tryz.prog 84 #[.pointer (some ⟨b, 0, none⟩), .string ⟨(headB r).toArray⟩] W fun e w' => e = .returned (.tuple #[.int .i64 (headB r).length, .nilIface]) ∧ Aside0 (Wrote w0.heap.size b (l ++ headB r) w1 w') ∧ (w'.cell? ⟨w.heap.size, 1, none⟩ = some (.int .i64 r.f0) ∧ w'.cell? ⟨w.heap.size, 2, none⟩ = some (.int .i64 r.f1) ∧ w'.cell? ⟨w.heap.size, 3, none⟩ = some (.int .i64 r.f2) ∧ w'.cell? ⟨w.heap.size, 4, none⟩ = some (.int .i64 r.f3))) := ⟨fun W hW => by
  refine (wstrA w0.heap.size b l _ W hW.1 (by rw [hhz]; omega) (Nat.le_trans (by omega) hW.2.1.size)).mono fun e w' ⟨h1, h2⟩ => ?_
  have h3 := hW.then_ h2
  obtain ⟨_, q1, q2, q3, q4, _⟩ := CE.out w' h3.2.2
  exact ⟨by rw [h1, hhz], ⟨h3⟩, q1, q2, q3, q4⟩⟩
 generalize (⟨(headB r).toArray⟩ : ByteArray) = hs at *
 have HN0 : Aside0 (Below w0.heap.size w w1) := ⟨HW1.out.2.1⟩
 clear hbx hb1 hw1 hNT hbd hhl hhz
 go_enter Tryz.func59, Tryz.ntmps59
 go_upto_region 1 with fail
 rw [← HWW.out]
 go_region_held3 (fun w' => w'.cell? ⟨w.heap.size, 1, none⟩ = some (.int .i64 r.f0) ∧ w'.cell? ⟨w.heap.size, 2, none⟩ = some (.int .i64 r.f1) ∧ w'.cell? ⟨w.heap.size, 3, none⟩ = some (.int .i64 r.f2) ∧ w'.cell? ⟨w.heap.size, 4, none⟩ = some (.int .i64 r.f3)) (first | exact ⟨a1, a2, a3, a4⟩ | assumption) (first
  | (go_at_call 85; with_reducible refine HHD.out.mono ?_; rintro e w2 ⟨rfl, H2, K2⟩)
  | (go_at_call 84; with_reducible refine (HWS.out _ H2.out).mono ?_; rintro e w3 ⟨rfl, H3, K3⟩))
 clear K2 H2 HHD HWS a0 a1 a2 a3 a4 a5 a6
 obtain ⟨a0, a1, a2, a3, a4, a5, a6⟩ := CE.out w3 H3.out.2.2
 have hs3 : w1.heap.size ≤ w3.heap.size := H3.out.2.1.size
 rcases hk with rfl | rfl | rfl
 ·rw [if_pos rfl] at hl
  have HT1 : Aside0 (T = headB r ++ ([44] ++ digL id)) := ⟨by rw [HTT.out, if_pos rfl]⟩
  simp only [List.length_append, List.length_singleton] at hl
  have hb3 : Below w3.heap.size w3 w3.drew := below_drew (Below.refl _ _)
  obtain ⟨wl, hwl⟩ : ∃ wl, wl = (w3.alloc (.cells #[.int .i64 id] 3)).drew := ⟨_, rfl⟩
  have hbl : Below w3.heap.size w3 wl := by rw [hwl]; exact below_drew (below_alloc (Below.refl _ _) _)
  have hCl : (Kd.int .i64).C wl (some ⟨w3.heap.size, 0, none⟩) 1 [id] := by rw [hwl]; exact Kd.C_drew (nlitI w3 3 [id] (by simp))
  have hjl := joinS_len [id] [44] rfl
  have hjz : (joinS [digS id]).size ≤ 1000 := by
   simp only [joinS, List.map_cons, List.map_nil, List.length_cons, List.length_nil] at hjl ⊢
   simpa [ByteArray.size] using (by omega : _ ≤ 1000)
  have HDG : Aside0 (Calls Tryz.prog 86 #[.slice (some ⟨w3.heap.size, 0, none⟩) 1 1] wl fun e w' => e = .returned (.string (joinS [digS id])) ∧ Aside0 (Wrote w0.heap.size b (l ++ headB r) w1 w') ∧ w'.cell? ⟨w.heap.size, 5, none⟩ = some (.int .i64 id)) :=
   ⟨(digits_all wl _ 1 1 [id] hCl (by decide) (HNT.out _ (HN0.out.trans (H3.out.2.1.trans (hbl.mono (by omega)))))).mono fun e w' ⟨h1, h2⟩ => by
    have h3 := H3.out.below (by omega) (hbl.trans (h2.mono hbl.size))
    exact ⟨h1, ⟨h3⟩, (CE.out w' h3.2.2).2.2.2.2.2.1⟩⟩
  have h44 : ((⟨#[44]⟩ : ByteArray) ++ joinS [digS id]).data.toList = [44] ++ digL id := by
   rw [ByteArray.data_append, Array.toList_append, joinS1]; rfl
  have h44z : ((⟨#[44]⟩ : ByteArray) ++ joinS [digS id]).size = 1 + (digL id).length := by
   have := congrArg List.length h44
   simp only [Array.length_toList, List.length_append, List.length_singleton] at this
   exact this
  have HW5 : Aside0 (∀ W, Wrote w0.heap.size b (l ++ headB r) w1 W → Calls Tryz.prog 84 #[.pointer (some ⟨b, 0, none⟩), .string ((⟨#[44]⟩ : ByteArray) ++ joinS [digS id])] W fun e w' => e = .returned (.tuple #[.int .i64 (1 + (digL id).length : Nat), .nilIface]) ∧ Aside0 (Wrote w0.heap.size b (l ++ (headB r ++ ([44] ++ digL id))) w1 w') ∧ w'.cell? ⟨w.heap.size, 5, none⟩ = some (.int .i64 id)) := ⟨fun W hW => by
   refine (wstrA w0.heap.size b (l ++ headB r) _ W hW.1 (by rw [h44z, List.length_append]; omega) (Nat.le_trans (by omega) hW.2.1.size)).mono fun e w' ⟨h1, h2⟩ => ?_
   rw [h44] at h2
   have h3 := hW.then_ h2
   rw [List.append_assoc] at h3
   exact ⟨by rw [h1, h44z], ⟨h3⟩, (CE.out w' h3.2.2).2.2.2.2.2.1⟩⟩
  have hcl : wl.cell? ⟨w.heap.size, 5, none⟩ = some (.int .i64 id) := (CE.out wl (H3.out.2.2.trans (KeepT.ofBelow hbl))).2.2.2.2.2.1
  have hcd : w3.drew.cell? ⟨w.heap.size, 5, none⟩ = some (.int .i64 id) := (CE.out w3.drew (H3.out.2.2.trans (KeepT.ofBelow hb3))).2.2.2.2.2.1
  generalize joinS [digS id] = ds at *
  have z0 : 1 + ds.size ≤ 9223372036854775807 := by omega
  have z1 : (9223372036854775807 < 1 + ds.size) = False := eq_false (by omega)
  have z2 : (9223372036854775807 < (⟨#[44]⟩ : ByteArray).size + ds.size) = False := eq_false (by have : (⟨#[44]⟩ : ByteArray).size = 1 := rfl; omega)
  have HWL := ak hwl
  rw [hwl] at HDG hcl
  clear hwl hbl hCl hjl h44 h44z a1 a2 a3 a4 a6 hb3
  go_upto_region 7 with fail
  go_region_held3 (fun w' => w'.cell? ⟨w.heap.size, 5, none⟩ = some (.int .i64 id)) (first | exact hcd | exact hcl | assumption) (first
   | (go_at_call 86; with_reducible refine HDG.out.mono ?_; rintro e w4 ⟨rfl, H4, K4⟩)
   | (go_at_call 84; with_reducible refine (HW5.out _ H4.out).mono ?_; rintro e w5 ⟨rfl, H5, K5⟩))
  go_wp2
  exact bodyPost_ret (v := .tuple #[]) (by simp [results, Tryz.results59, go_sem]) rfl ⟨rfl, by rw [HT1.out]; exact HW1.out.then_ H5.out⟩
 ·rw [if_neg (by decide)] at hl
  simp only [List.length_append, List.length_singleton] at hl
  have e1 : opn 2 = 123 := rfl
  have e2 : cls 2 = 125 := rfl
  have HT2 : Aside0 (T = headB r ++ ([123] ++ kidsL true kids ++ [125])) := ⟨by rw [HTT.out, if_neg (by decide), e1, e2]⟩
  clear e1 e2
  have hb3 : Below w3.heap.size w3 w3.drew := below_drew (Below.refl _ _)
  have HWB : Aside0 (Calls Tryz.prog 87 #[.pointer (some ⟨b, 0, none⟩), .int .u8 123] w3.drew fun e w' => e = .returned .nilIface ∧ Aside0 (Wrote w0.heap.size b (l ++ headB r ++ [123]) w1 w')) :=
   ⟨(wbyteA w0.heap.size b (l ++ headB r) 123 w3.drew 123 rfl (H3.out.1.below hb3) (by rw [List.length_append]; omega) (Nat.le_trans (by omega) hb3.size)).mono fun e w' ⟨h1, h2⟩ => ⟨h1, ⟨(H3.out.below (by omega) hb3).then_ h2⟩⟩⟩
  clear hb3 a1 a2 a3 a4 a5
  go_upto_region 9 with fail
  go_region_held3 (fun w' => True) (first | trivial) (first
   | (go_at_call 87; show Calls Tryz.prog 87 #[.pointer (some ⟨b, 0, none⟩), .int .u8 123] _ _; with_reducible refine HWB.out.mono ?_; rintro e w4 ⟨rfl, H4⟩))
  clear HWB a0 a6
  have a6 := (CE.out w4 H4.out.2.2).2.2.2.2.2.2
  have HLEN := ak HTR.out.len
  obtain ⟨n, hn⟩ : ∃ n, n = kids.length := ⟨_, rfl⟩
  have HN := ak hn
  rw [← hn] at a6 HTR hcap
  have hnm : n ≤ 9223372036854775807 := HTR.out.max
  have HKL : Aside0 (∀ j, j < n → (l ++ headB r ++ [123] ++ kidsL true (kids.take j)).length + (sepK j).length + (bodyL (kids.getD j z27)).length + 2 ≤ 1000000001 ∧ kidsL true (kids.take (j + 1)) = kidsL true (kids.take j) ++ sepK j ++ bodyL (kids.getD j z27)) := ⟨fun j hj => by
   have h1 := kidsL_split kids j (by omega)
   have h2 := congrArg List.length h1
   simp only [List.length_append] at h2
   refine ⟨by simp only [List.length_append, List.length_singleton]; omega, kidsL_take kids j (by omega)⟩⟩
  have HKE : Aside0 ((l ++ headB r ++ [123] ++ kidsL true kids).length + 1 ≤ 1000000001) := ⟨by simp only [List.length_append, List.length_singleton]; omega⟩
  clear hn hl
  go_wp2_with fail
  go_loopw [40] (fun i wr => ∃ j : Nat, j ≤ n ∧ i = .int .i64 j ∧ Aside0 (Wrote w0.heap.size b (l ++ headB r ++ [123] ++ kidsL true (kids.take j)) w1 wr)) (fun i _ => n - (intOf i).toNat)
  case atStart => exact ⟨0, by omega, rfl, ⟨by rw [List.take_zero, kidsL_nil, List.append_nil]; exact H4.out⟩⟩
  case round =>
   obtain ⟨j, hj, rfl, HR⟩ := hrel
   have hsr : w1.heap.size ≤ wr.heap.size := HR.out.2.1.size
   by_cases hlt : j < n
   ·obtain ⟨ad, A6, c6, rfl, g0, g1, g2, g3, g4, g5, g6, hl6, hT6⟩ := (HTR.out.below (HN0.out.trans HR.out.2.1)).get j hlt
    obtain ⟨hln, hkt⟩ := HKL.out j hlt
    have hmem : kids.getD j z27 ∈ kids := by
     have hjl : j < kids.length := by rw [← HN.out]; exact hlt
     rw [List.getD_eq_getElem?_getD, List.getElem?_eq_getElem hjl]
     exact List.getElem_mem _
    obtain ⟨x, hx⟩ : ∃ x, x = kids.getD j z27 := ⟨_, rfl⟩
    rw [← hx] at g0 g1 g2 g3 g4 g5 g6 hl6 hT6 hln hkt hmem
    have HPUT := ak (HIH.out x hmem)
    have HKX := ak (HKids.out x hmem)
    obtain ⟨P, hP⟩ : ∃ P, P = l ++ headB r ++ [123] ++ kidsL true (kids.take j) := ⟨_, rfl⟩
    have hP2 : l ++ headB r ++ [123] ++ kidsL true (kids.take (j + 1)) = P ++ sepK j ++ bodyL x := by rw [hkt, hP]; simp [List.append_assoc]
    have HRP := HR.out
    rw [← hP] at hln HRP
    have HP2 := ak hP2
    have HTX := ak hT6
    clear hx hkt hmem hT6 hP hP2
    obtain ⟨wa, hwa⟩ : ∃ wa, wa = wr.alloc (.cells #[.int .u8 x.f0, .int .i64 x.f1.f0, .int .i64 x.f1.f1, .int .i64 x.f1.f2, .int .i64 x.f1.f3, .int .i64 x.f2, .slice A6 x.f3.length c6] 27) := ⟨_, rfl⟩
    have hba : Below wr.heap.size wr wa := by rw [hwa]; exact below_alloc (Below.refl _ _) _
    have hka : wa.heap[wr.heap.size]? = some (.cells #[.int .u8 x.f0, .int .i64 x.f1.f0, .int .i64 x.f1.f1, .int .i64 x.f1.f2, .int .i64 x.f1.f3, .int .i64 x.f2, .slice A6 x.f3.length c6] 27 (0, 0)) := by rw [hwa]; exact heap_alloc_new wr _
    have hA : Wrote w0.heap.size b P w1 wa := HRP.below (by omega) hba
    have hsa : wr.heap.size < wa.heap.size := by rw [hwa]; simp
    have hra : Below w0.heap.size wr wa := hba.mono (by omega)
    have HPX : Aside0 (∀ (P' : List UInt8) (W : World), Wrote w0.heap.size b P' wa W → P'.length + (bodyL x).length ≤ 1000000000 → Calls Tryz.prog 59 #[.pointer (some ⟨b, 0, none⟩), .agg #[.int .u8 x.f0, .int .i64 x.f1.f0, .int .i64 x.f1.f1, .int .i64 x.f1.f2, .int .i64 x.f1.f3, .int .i64 x.f2, .slice A6 x.f3.length c6]] W fun e w' => e = .returned (.tuple #[]) ∧ Aside0 (Wrote w0.heap.size b (P' ++ bodyL x) w1 w')) := ⟨fun P' W hW hlp =>
     (HPUT.out b P' W A6 c6 HKX.out (HB.out.trans (HN0.out.trans (hA.2.1.trans hW.2.1))) (HTX.out.below (hra.trans hW.2.1)) hl6 hW.1 hlp).mono fun e w' ⟨h1, h2⟩ => ⟨h1, ⟨(hA.then_ hW).then_ h2⟩⟩⟩
    have HA := ak hA
    have HWA := ak hwa
    have HKA := ak hka
    clear hwa hba hka hA hra HRP HR HPUT HTX hl6
    by_cases h0 : j = 0
    ·have hj0 : decide ((j : Int) > 0) = false := decide_eq_false (by omega)
     have hj1 : ¬ (0 : Int) < (j : Int) := by omega
     have hsk : sepK j = [] := by unfold sepK; rw [if_pos h0]
     rw [hsk] at HP2
     clear h0
     have HP0 := ak (HPX.out P wa ⟨HA.out.1, Below.refl _ _, KeepT.ofBelow (Below.refl _ _)⟩ (by omega))
     rw [HWA.out] at HP0
     go_wp2_with fail
     with_reducible refine HP0.out.mono ?_
     rintro e wz ⟨rfl, HZ⟩
     go_wp2
     go_roundw
     case rel => exact ⟨j + 1, by omega, by go_num, ⟨by rw [HP2.out, List.append_nil]; exact HZ.out⟩⟩
     case measure => simp [intOf]; omega
    ·have hjp : decide ((j : Int) > 0) = true := decide_eq_true (by omega)
     have hjp2 : (0 : Int) < (j : Int) := by omega
     have hsk : sepK j = [44] := by unfold sepK; rw [if_neg h0]
     rw [hsk] at hln HP2
     have HW4 : Aside0 (Calls Tryz.prog 87 #[.pointer (some ⟨b, 0, none⟩), .int .u8 44] wa fun e w' => e = .returned .nilIface ∧ Aside0 (Wrote w0.heap.size b (P ++ [44]) wa w') ∧ w'.cell? ⟨wr.heap.size, 0, none⟩ = some (.int .u8 x.f0) ∧ w'.cell? ⟨wr.heap.size, 1, none⟩ = some (.int .i64 x.f1.f0) ∧ w'.cell? ⟨wr.heap.size, 2, none⟩ = some (.int .i64 x.f1.f1) ∧ w'.cell? ⟨wr.heap.size, 3, none⟩ = some (.int .i64 x.f1.f2) ∧ w'.cell? ⟨wr.heap.size, 4, none⟩ = some (.int .i64 x.f1.f3) ∧ w'.cell? ⟨wr.heap.size, 5, none⟩ = some (.int .i64 x.f2) ∧ w'.cell? ⟨wr.heap.size, 6, none⟩ = some (.slice A6 x.f3.length c6)) :=
      ⟨(wbyteA w0.heap.size b P 44 wa 44 rfl HA.out.1 (by omega) (by omega)).mono fun e w' ⟨h1, h2⟩ => by
       have h := h2.2.2 _ _ _ HKA.out (by omega) (by decide)
       exact ⟨h1, ⟨h2⟩, (blk_cell h 0).trans rfl, (blk_cell h 1).trans rfl, (blk_cell h 2).trans rfl, (blk_cell h 3).trans rfl, (blk_cell h 4).trans rfl, (blk_cell h 5).trans rfl, (blk_cell h 6).trans rfl⟩⟩
     rw [HWA.out] at HW4 HPX
     have hlq : (P ++ [44]).length + (bodyL x).length ≤ 1000000000 := by rw [List.length_append, List.length_singleton]; simp only [List.length_singleton] at hln; omega
     go_wp2_with fail
     with_reducible refine HW4.out.mono ?_
     rintro e wy ⟨rfl, HY, q0, q1, q2, q3, q4, q5, q6⟩
     go_wp2_with fail
     with_reducible refine (HPX.out (P ++ [44]) _ HY.out hlq).mono ?_
     rintro e wz ⟨rfl, HZ⟩
     go_wp2
     go_roundw
     case rel => exact ⟨j + 1, by omega, by go_num, ⟨by rw [HP2.out]; exact HZ.out⟩⟩
     case measure => simp [intOf]; omega
   ·have hjn : j = n := by omega
    subst hjn
    have hR := HR.out
    rw [HN.out, List.take_length] at hR
    have hrd : Below wr.heap.size wr wr.drew := below_drew (Below.refl _ _)
    have HWE : Aside0 (Calls Tryz.prog 87 #[.pointer (some ⟨b, 0, none⟩), .int .u8 125] wr.drew fun e w' => e = .returned .nilIface ∧ Aside0 (Wrote w0.heap.size b (l ++ T) w1 w')) :=
     ⟨(wbyteA w0.heap.size b (l ++ headB r ++ [123] ++ kidsL true kids) 125 wr.drew 125 rfl (hR.1.below hrd) HKE.out (Nat.le_trans (by omega) hrd.size)).mono fun e w' ⟨h1, h2⟩ => ⟨h1, ⟨by
      have h3 := (hR.below (by omega) hrd).then_ h2
      have e3 : l ++ T = l ++ headB r ++ [123] ++ kidsL true kids ++ [125] := by rw [HT2.out]; simp [List.append_assoc]
      rw [e3]
      exact h3⟩⟩⟩
    clear hR hrd
    go_upto_region 17 with fail
    go_region_held3 (fun w' => True) (first | trivial) (first
     | (go_at_call 87; show Calls Tryz.prog 87 #[.pointer (some ⟨b, 0, none⟩), .int .u8 125] _ _; with_reducible refine HWE.out.mono ?_; rintro e wz ⟨rfl, HZ⟩))
    go_wp2
    go_end0
    exact ⟨rfl, HW1.out.then_ HZ.out⟩
 ·rw [if_neg (by decide)] at hl
  simp only [List.length_append, List.length_singleton] at hl
  have e1 : opn 3 = 91 := rfl
  have e2 : cls 3 = 93 := rfl
  have HT2 : Aside0 (T = headB r ++ ([91] ++ kidsL true kids ++ [93])) := ⟨by rw [HTT.out, if_neg (by decide), e1, e2]⟩
  clear e1 e2
  have hb3 : Below w3.heap.size w3 w3.drew := below_drew (Below.refl _ _)
  have HWB : Aside0 (Calls Tryz.prog 87 #[.pointer (some ⟨b, 0, none⟩), .int .u8 91] w3.drew fun e w' => e = .returned .nilIface ∧ Aside0 (Wrote w0.heap.size b (l ++ headB r ++ [91]) w1 w')) :=
   ⟨(wbyteA w0.heap.size b (l ++ headB r) 91 w3.drew 91 rfl (H3.out.1.below hb3) (by rw [List.length_append]; omega) (Nat.le_trans (by omega) hb3.size)).mono fun e w' ⟨h1, h2⟩ => ⟨h1, ⟨(H3.out.below (by omega) hb3).then_ h2⟩⟩⟩
  clear hb3 a1 a2 a3 a4 a5
  go_upto_region 9 with fail
  go_region_held3 (fun w' => True) (first | trivial) (first
   | (go_at_call 87; show Calls Tryz.prog 87 #[.pointer (some ⟨b, 0, none⟩), .int .u8 91] _ _; with_reducible refine HWB.out.mono ?_; rintro e w4 ⟨rfl, H4⟩))
  clear HWB a0 a6
  have a6 := (CE.out w4 H4.out.2.2).2.2.2.2.2.2
  have HLEN := ak HTR.out.len
  obtain ⟨n, hn⟩ : ∃ n, n = kids.length := ⟨_, rfl⟩
  have HN := ak hn
  rw [← hn] at a6 HTR hcap
  have hnm : n ≤ 9223372036854775807 := HTR.out.max
  have HKL : Aside0 (∀ j, j < n → (l ++ headB r ++ [91] ++ kidsL true (kids.take j)).length + (sepK j).length + (bodyL (kids.getD j z27)).length + 2 ≤ 1000000001 ∧ kidsL true (kids.take (j + 1)) = kidsL true (kids.take j) ++ sepK j ++ bodyL (kids.getD j z27)) := ⟨fun j hj => by
   have h1 := kidsL_split kids j (by omega)
   have h2 := congrArg List.length h1
   simp only [List.length_append] at h2
   refine ⟨by simp only [List.length_append, List.length_singleton]; omega, kidsL_take kids j (by omega)⟩⟩
  have HKE : Aside0 ((l ++ headB r ++ [91] ++ kidsL true kids).length + 1 ≤ 1000000001) := ⟨by simp only [List.length_append, List.length_singleton]; omega⟩
  clear hn hl
  go_wp2_with fail
  go_loopw [40] (fun i wr => ∃ j : Nat, j ≤ n ∧ i = .int .i64 j ∧ Aside0 (Wrote w0.heap.size b (l ++ headB r ++ [91] ++ kidsL true (kids.take j)) w1 wr)) (fun i _ => n - (intOf i).toNat)
  case atStart => exact ⟨0, by omega, rfl, ⟨by rw [List.take_zero, kidsL_nil, List.append_nil]; exact H4.out⟩⟩
  case round =>
   obtain ⟨j, hj, rfl, HR⟩ := hrel
   have hsr : w1.heap.size ≤ wr.heap.size := HR.out.2.1.size
   by_cases hlt : j < n
   ·obtain ⟨ad, A6, c6, rfl, g0, g1, g2, g3, g4, g5, g6, hl6, hT6⟩ := (HTR.out.below (HN0.out.trans HR.out.2.1)).get j hlt
    obtain ⟨hln, hkt⟩ := HKL.out j hlt
    have hmem : kids.getD j z27 ∈ kids := by
     have hjl : j < kids.length := by rw [← HN.out]; exact hlt
     rw [List.getD_eq_getElem?_getD, List.getElem?_eq_getElem hjl]
     exact List.getElem_mem _
    obtain ⟨x, hx⟩ : ∃ x, x = kids.getD j z27 := ⟨_, rfl⟩
    rw [← hx] at g0 g1 g2 g3 g4 g5 g6 hl6 hT6 hln hkt hmem
    have HPUT := ak (HIH.out x hmem)
    have HKX := ak (HKids.out x hmem)
    obtain ⟨P, hP⟩ : ∃ P, P = l ++ headB r ++ [91] ++ kidsL true (kids.take j) := ⟨_, rfl⟩
    have hP2 : l ++ headB r ++ [91] ++ kidsL true (kids.take (j + 1)) = P ++ sepK j ++ bodyL x := by rw [hkt, hP]; simp [List.append_assoc]
    have HRP := HR.out
    rw [← hP] at hln HRP
    have HP2 := ak hP2
    have HTX := ak hT6
    clear hx hkt hmem hT6 hP hP2
    obtain ⟨wa, hwa⟩ : ∃ wa, wa = wr.alloc (.cells #[.int .u8 x.f0, .int .i64 x.f1.f0, .int .i64 x.f1.f1, .int .i64 x.f1.f2, .int .i64 x.f1.f3, .int .i64 x.f2, .slice A6 x.f3.length c6] 27) := ⟨_, rfl⟩
    have hba : Below wr.heap.size wr wa := by rw [hwa]; exact below_alloc (Below.refl _ _) _
    have hka : wa.heap[wr.heap.size]? = some (.cells #[.int .u8 x.f0, .int .i64 x.f1.f0, .int .i64 x.f1.f1, .int .i64 x.f1.f2, .int .i64 x.f1.f3, .int .i64 x.f2, .slice A6 x.f3.length c6] 27 (0, 0)) := by rw [hwa]; exact heap_alloc_new wr _
    have hA : Wrote w0.heap.size b P w1 wa := HRP.below (by omega) hba
    have hsa : wr.heap.size < wa.heap.size := by rw [hwa]; simp
    have hra : Below w0.heap.size wr wa := hba.mono (by omega)
    have HPX : Aside0 (∀ (P' : List UInt8) (W : World), Wrote w0.heap.size b P' wa W → P'.length + (bodyL x).length ≤ 1000000000 → Calls Tryz.prog 59 #[.pointer (some ⟨b, 0, none⟩), .agg #[.int .u8 x.f0, .int .i64 x.f1.f0, .int .i64 x.f1.f1, .int .i64 x.f1.f2, .int .i64 x.f1.f3, .int .i64 x.f2, .slice A6 x.f3.length c6]] W fun e w' => e = .returned (.tuple #[]) ∧ Aside0 (Wrote w0.heap.size b (P' ++ bodyL x) w1 w')) := ⟨fun P' W hW hlp =>
     (HPUT.out b P' W A6 c6 HKX.out (HB.out.trans (HN0.out.trans (hA.2.1.trans hW.2.1))) (HTX.out.below (hra.trans hW.2.1)) hl6 hW.1 hlp).mono fun e w' ⟨h1, h2⟩ => ⟨h1, ⟨(hA.then_ hW).then_ h2⟩⟩⟩
    have HA := ak hA
    have HWA := ak hwa
    have HKA := ak hka
    clear hwa hba hka hA hra HRP HR HPUT HTX hl6
    by_cases h0 : j = 0
    ·have hj0 : decide ((j : Int) > 0) = false := decide_eq_false (by omega)
     have hj1 : ¬ (0 : Int) < (j : Int) := by omega
     have hsk : sepK j = [] := by unfold sepK; rw [if_pos h0]
     rw [hsk] at HP2
     clear h0
     have HP0 := ak (HPX.out P wa ⟨HA.out.1, Below.refl _ _, KeepT.ofBelow (Below.refl _ _)⟩ (by omega))
     rw [HWA.out] at HP0
     go_wp2_with fail
     with_reducible refine HP0.out.mono ?_
     rintro e wz ⟨rfl, HZ⟩
     go_wp2
     go_roundw
     case rel => exact ⟨j + 1, by omega, by go_num, ⟨by rw [HP2.out, List.append_nil]; exact HZ.out⟩⟩
     case measure => simp [intOf]; omega
    ·have hjp : decide ((j : Int) > 0) = true := decide_eq_true (by omega)
     have hjp2 : (0 : Int) < (j : Int) := by omega
     have hsk : sepK j = [44] := by unfold sepK; rw [if_neg h0]
     rw [hsk] at hln HP2
     have HW4 : Aside0 (Calls Tryz.prog 87 #[.pointer (some ⟨b, 0, none⟩), .int .u8 44] wa fun e w' => e = .returned .nilIface ∧ Aside0 (Wrote w0.heap.size b (P ++ [44]) wa w') ∧ w'.cell? ⟨wr.heap.size, 0, none⟩ = some (.int .u8 x.f0) ∧ w'.cell? ⟨wr.heap.size, 1, none⟩ = some (.int .i64 x.f1.f0) ∧ w'.cell? ⟨wr.heap.size, 2, none⟩ = some (.int .i64 x.f1.f1) ∧ w'.cell? ⟨wr.heap.size, 3, none⟩ = some (.int .i64 x.f1.f2) ∧ w'.cell? ⟨wr.heap.size, 4, none⟩ = some (.int .i64 x.f1.f3) ∧ w'.cell? ⟨wr.heap.size, 5, none⟩ = some (.int .i64 x.f2) ∧ w'.cell? ⟨wr.heap.size, 6, none⟩ = some (.slice A6 x.f3.length c6)) :=
      ⟨(wbyteA w0.heap.size b P 44 wa 44 rfl HA.out.1 (by omega) (by omega)).mono fun e w' ⟨h1, h2⟩ => by
       have h := h2.2.2 _ _ _ HKA.out (by omega) (by decide)
       exact ⟨h1, ⟨h2⟩, (blk_cell h 0).trans rfl, (blk_cell h 1).trans rfl, (blk_cell h 2).trans rfl, (blk_cell h 3).trans rfl, (blk_cell h 4).trans rfl, (blk_cell h 5).trans rfl, (blk_cell h 6).trans rfl⟩⟩
     rw [HWA.out] at HW4 HPX
     have hlq : (P ++ [44]).length + (bodyL x).length ≤ 1000000000 := by rw [List.length_append, List.length_singleton]; simp only [List.length_singleton] at hln; omega
     go_wp2_with fail
     with_reducible refine HW4.out.mono ?_
     rintro e wy ⟨rfl, HY, q0, q1, q2, q3, q4, q5, q6⟩
     go_wp2_with fail
     with_reducible refine (HPX.out (P ++ [44]) _ HY.out hlq).mono ?_
     rintro e wz ⟨rfl, HZ⟩
     go_wp2
     go_roundw
     case rel => exact ⟨j + 1, by omega, by go_num, ⟨by rw [HP2.out]; exact HZ.out⟩⟩
     case measure => simp [intOf]; omega
   ·have hjn : j = n := by omega
    subst hjn
    have hR := HR.out
    rw [HN.out, List.take_length] at hR
    have hrd : Below wr.heap.size wr wr.drew := below_drew (Below.refl _ _)
    have HWE : Aside0 (Calls Tryz.prog 87 #[.pointer (some ⟨b, 0, none⟩), .int .u8 93] wr.drew fun e w' => e = .returned .nilIface ∧ Aside0 (Wrote w0.heap.size b (l ++ T) w1 w')) :=
     ⟨(wbyteA w0.heap.size b (l ++ headB r ++ [91] ++ kidsL true kids) 93 wr.drew 93 rfl (hR.1.below hrd) HKE.out (Nat.le_trans (by omega) hrd.size)).mono fun e w' ⟨h1, h2⟩ => ⟨h1, ⟨by
      have h3 := (hR.below (by omega) hrd).then_ h2
      have e3 : l ++ T = l ++ headB r ++ [91] ++ kidsL true kids ++ [93] := by rw [HT2.out]; simp [List.append_assoc]
      rw [e3]
      exact h3⟩⟩⟩
    clear hR hrd
    go_upto_region 17 with fail
    go_region_held3 (fun w' => True) (first | trivial) (first
     | (go_at_call 87; show Calls Tryz.prog 87 #[.pointer (some ⟨b, 0, none⟩), .int .u8 93] _ _; with_reducible refine HWE.out.mono ?_; rintro e wz ⟨rfl, HZ⟩))
    go_wp2
    go_end0
    exact ⟨rfl, HW1.out.then_ HZ.out⟩
def BoxAt (w : World) (b : Nat) (c : SC) (A : Option Addr) (cap : Nat) : Prop := w.heap[b]? = some (.cells #[.int .u8 c.f0, .int .i64 c.f1.f0, .int .i64 c.f1.f1, .int .i64 c.f1.f2, .int .i64 c.f1.f3, .int .i64 c.f2, .slice A c.f3.length cap] 27 (0, 0))
theorem BoxAt.new (w : World) (c : SC) (A : Option Addr) (cap : Nat) : BoxAt (w.alloc (.cells #[.int .u8 c.f0, .int .i64 c.f1.f0, .int .i64 c.f1.f1, .int .i64 c.f1.f2, .int .i64 c.f1.f3, .int .i64 c.f2, .slice A c.f3.length cap] 27)) w.heap.size c A cap := heap_alloc_new w _
theorem BoxAt.below {w w' : World} {b : Nat} {c : SC} {A : Option Addr} {cap : Nat} (h : BoxAt w b c A cap) (hb : Below w.heap.size w w') : BoxAt w' b c A cap := (hb.block b (blk_lt h)).trans h
theorem BoxAt.cells {w : World} {b : Nat} {c : SC} {A : Option Addr} {cap : Nat} (h : BoxAt w b c A cap) :
  w.cell? ⟨b, 0, none⟩ = some (.int .u8 c.f0) ∧ w.cell? ⟨b, 1, none⟩ = some (.int .i64 c.f1.f0) ∧ w.cell? ⟨b, 2, none⟩ = some (.int .i64 c.f1.f1) ∧ w.cell? ⟨b, 3, none⟩ = some (.int .i64 c.f1.f2) ∧ w.cell? ⟨b, 4, none⟩ = some (.int .i64 c.f1.f3) ∧ w.cell? ⟨b, 5, none⟩ = some (.int .i64 c.f2) ∧ w.cell? ⟨b, 6, none⟩ = some (.slice A c.f3.length cap) := by
 refine ⟨?_, ?_, ?_, ?_, ?_, ?_, ?_⟩ <;> (rw [blk_cell h]; rfl)
theorem Depth_f (c : SC) : (cells c).length ≤ 100000 → ∀ k, 2 * (cells c).length < k → ∃ n : Int, cell_Depth.f k c.f0 c.f1.f0 c.f1.f1 c.f1.f2 c.f1.f3 c.f2 c.f3 = some n ∧ 1 ≤ n ∧ n ≤ (cells c).length := by
 refine cell_ind (P := fun c => (cells c).length ≤ 100000 → ∀ k, 2 * (cells c).length < k → ∃ n : Int, cell_Depth.f k c.f0 c.f1.f0 c.f1.f1 c.f1.f2 c.f1.f3 c.f2 c.f3 = some n ∧ 1 ≤ n ∧ n ≤ (cells c).length) (fun c ih hs k hk => ?_) c
 have hcl : (cells c).length = 1 + (cellsL c.f3).length := by rw [cells_eq]; simp; omega
 have hge := cellsL_ge c.f3
 obtain ⟨k, rfl⟩ : ∃ m, k = m + 1 := ⟨k - 1, by omega⟩
 have loop : ∀ (d k i : Nat) (a : Int), c.f3.length - i = d → i ≤ c.f3.length → 2 * (cellsL (c.f3.drop i)).length + 1 < k → 0 ≤ a → a ≤ (cellsL c.f3).length →
   ∃ n : Int, cell_Depth.l0 k a c.f3 (c.f3.length : Int) (i : Int) = some n ∧ 1 ≤ n ∧ n ≤ (cells c).length := by
  intro d
  induction d with
  | zero =>
   intro k i a hd hi hk h1 h2
   obtain ⟨k, rfl⟩ : ∃ m, k = m + 1 := ⟨k - 1, by omega⟩
   refine ⟨a + 1, ?_, by omega, by omega⟩
   simp only [cell_Depth.l0]
   rw [if_neg (by omega), w64s (n := a + 1) (by omega) (by omega)]
  | succ d ihd =>
   intro k i a hd hi hk h1 h2
   obtain ⟨k, rfl⟩ : ∃ m, k = m + 1 := ⟨k - 1, by omega⟩
   have hlt : i < c.f3.length := by omega
   have q1 := cellsL_drop c.f3 i hlt
   have q2 := cells_pos (c.f3.getD i z27)
   have q4 := kid_le _ c.f3 (getT_mem c.f3 i hlt)
   obtain ⟨m, hm, m1, m2⟩ := ih _ (getT_mem c.f3 i hlt) (by omega) k (by omega)
   have hmx : 0 ≤ mx a m ∧ mx a m ≤ (cellsL c.f3).length := by unfold mx; split <;> omega
   obtain ⟨n, hn, n1⟩ := ihd k (i + 1) (mx a m) (by omega) (by omega) (by omega) hmx.1 hmx.2
   refine ⟨n, ?_, n1⟩
   simp only [cell_Depth.l0]
   rw [if_pos (by omega), if_pos (by omega), if_pos (by omega), rd_T_getD, hm]
   simp only [Option.bind_some]
   rw [wi i (by omega)]
   exact hn
 have hz : ((0 : Nat) : Int) = 0 := rfl
 obtain ⟨n, hn, n1⟩ := loop c.f3.length k 0 0 (by omega) (by omega) (by rw [List.drop_zero]; omega) (by omega) (by omega)
 refine ⟨n, ?_, n1⟩
 simp only [cell_Depth.f]
 rw [hz] at hn
 exact hn
theorem tiles_cgood {c : SC} (h : tilesB c = true) : CGood c := fun x hx => by
 obtain ⟨h1, h2, _⟩ := tiles_good h x hx
 have h3 := (rectOk_iff x.f1).1 h2
 exact ⟨h1, ⟨by omega, by omega⟩, ⟨by omega, by omega⟩, ⟨by omega, by omega⟩, ⟨by omega, by omega⟩⟩
theorem CGood.kind {c : SC} (h : CGood c) : CKind c := fun x hx => by
 by_cases hk : x.f0 = 1
 ·exact Or.inl hk
 ·exact Or.inr (node_node (h x hx).1 hk).1
def bodyAns (c : SC) : ByteArray × Int := if tilesB c = true then (bsOf (bodyL c), 0) else (⟨#[]⟩, 1)
def textAns (c : SC) : ByteArray × Int := if tilesB c = true then (putS (bsOf (bodyL c)), 0) else (⟨#[]⟩, 1)
theorem put_size (s : ByteArray) : (putS s).size = 5 + s.size := by
 unfold putS
 rw [ByteArray.size_append, ByteArray.size_append, hex4_size]
 rfl
set_option maxHeartbeats 8000000 in
theorem pbody_calls (c : SC) (w : World) (A : Option Addr) (cap : Nat) (hl : (cells c).length ≤ 10000) (hcap : c.f3.length ≤ cap) (hr : (k27).C w A c.f3.length c.f3) (hT : NumT w) :
  Calls Tryz.prog 39 #[.agg #[.int .u8 c.f0, .int .i64 c.f1.f0, .int .i64 c.f1.f1, .int .i64 c.f1.f2, .int .i64 c.f1.f3, .int .i64 c.f2, .slice A c.f3.length cap]] w fun e w' => e = .returned (.tuple #[.string (bodyAns c).1, .int .i64 (bodyAns c).2]) ∧ Below w.heap.size w w' := by
 obtain ⟨w1, hw1⟩ : ∃ w1, w1 = w.alloc (.cells #[.int .u8 c.f0, .int .i64 c.f1.f0, .int .i64 c.f1.f1, .int .i64 c.f1.f2, .int .i64 c.f1.f3, .int .i64 c.f2, .slice A c.f3.length cap] 27) := ⟨_, rfl⟩
 have hb1 : Below w.heap.size w w1 := by rw [hw1]; exact below_alloc (Below.refl _ _) _
 have hx1 : BoxAt w1 w.heap.size c A cap := by rw [hw1]; exact BoxAt.new w c A cap
 have hr1 := Kd.C_below hr hb1
 have HTI : Calls Tryz.prog 50 #[.slice (some ⟨w1.heap.size, 0, none⟩) 1 1] (w1.alloc (.cells #[.int .u8 c.f0, .int .i64 c.f1.f0, .int .i64 c.f1.f1, .int .i64 c.f1.f2, .int .i64 c.f1.f3, .int .i64 c.f2, .slice A c.f3.length cap] 27)) fun e w' => e = .returned (.bool (tilesB c)) ∧ Below w1.heap.size w1 w' := by
  have h1 := tiles_calls [c] (w1.alloc (.cells #[.int .u8 c.f0, .int .i64 c.f1.f0, .int .i64 c.f1.f1, .int .i64 c.f1.f2, .int .i64 c.f1.f3, .int .i64 c.f2, .slice A c.f3.length cap] 27)) (some ⟨w1.heap.size, 0, none⟩) 1 1
   (fun z hz => by obtain rfl : z = c := by simpa using hz
                   omega) (one_row w1 c A cap hcap hr1)
  rw [show [c].all tilesB = tilesB c by simp] at h1
  exact h1.mono fun e w' ⟨q1, q2⟩ => ⟨q1, (below_alloc (Below.refl _ _) _).trans (q2.mono (by simp))⟩
 have hs1 : w1.heap.size = w.heap.size + 1 := by rw [hw1]; simp
 rw [hw1] at HTI
 rw [show (w.alloc (.cells #[.int .u8 c.f0, .int .i64 c.f1.f0, .int .i64 c.f1.f1, .int .i64 c.f1.f2, .int .i64 c.f1.f3, .int .i64 c.f2, .slice A c.f3.length cap] 27)).heap.size = w.heap.size + 1 by simp] at HTI
 have HTI := ak HTI
 have HB := ak hb1
 have HX := ak hx1
 have HR := ak hr1
 have HT := ak hT
 have HW := ak hw1
 have HPC := ak (fun (w0 : World) (h : NumT w0) => put_cell w0 h c)
 have hbl := body_len c
 have hne : bodyL c ≠ [] := by
  rw [bodyL_eq]
  intro h
  have h2 := congrArg List.length h
  simp only [List.length_append, headB, List.length_singleton, List.length_nil] at h2
  omega
 clear hw1 hb1 hx1 hr1 hr hT
 unfold bodyAns
 cases ht : tilesB c with
 | false =>
  rw [ht] at HTI
  rw [if_neg (by decide)]
  clear hne HPC
  go_enter Tryz.func39, Tryz.ntmps39
  go_wp2_with fail
  with_reducible refine HTI.out.mono ?_
  rintro e w2 ⟨rfl, hb⟩
  have HB2 : Aside0 (Below w.heap.size w w2) := ⟨by rw [← HW.out, ← hs1] at hb; exact HB.out.trans (hb.mono HB.out.size)⟩
  clear hb
  go_wp2
  go_ret2
  exact ⟨rfl, HB2.out⟩
 | true =>
  rw [ht] at HTI
  rw [if_pos rfl]
  have hgood := tiles_cgood ht
  have HK := ak hgood.kind
  clear ht hgood
  go_enter Tryz.func39, Tryz.ntmps39
  go_wp2_with fail
  with_reducible refine HTI.out.mono ?_
  rintro e w2 ⟨rfl, hb⟩
  rw [← HW.out, ← hs1] at hb
  have HB2 : Aside0 (Below w.heap.size w w2) := ⟨HB.out.trans (hb.mono HB.out.size)⟩
  obtain ⟨w3, hw3⟩ : ∃ w3, w3 = w2.alloc (.cells #[.pointer none, .slice none 0 0] 105) := ⟨_, rfl⟩
  have hb3 : Below w2.heap.size w2 w3 := by rw [hw3]; exact below_alloc (Below.refl _ _) _
  have hX3 : BoxAt w3 w.heap.size c A cap := (HX.out.below hb).below hb3
  have hR2 := Kd.C_below HR.out hb
  have hTx : TextIs w2.heap.size w2.heap.size [] w3 := Or.inl ⟨Nat.le_refl _, .slice none 0 0, by rw [hw3]; exact heap_alloc_new w2 _, own_nil _ _ _ _, by simp [Value.ownBlock]⟩
  have hP := (HPC.out w2 (HT.out.below HB2.out)) w2.heap.size [] w3 A cap HK.out hb3 ((Tr.of hR2).below hb3) hcap hTx (by simp only [List.length_nil]; omega)
  rw [hw3] at hP
  have HP := ak hP
  have HW3 := ak hw3
  obtain ⟨d0, d1, d2, d3, d4, d5, d6⟩ := hX3.cells
  rw [hw3] at d0 d1 d2 d3 d4 d5 d6
  clear hb hw3 hb3 hX3 hR2 hTx hP
  go_wp2_with fail
  with_reducible refine HP.out.mono ?_
  rintro e w4 ⟨rfl, hW⟩
  rw [List.nil_append, ← HW3.out] at hW
  have HB4 : Aside0 (Below w2.heap.size w2 w4) := ⟨by rw [HW3.out] at hW; exact (below_alloc (Below.refl _ _) _).trans hW.2.1⟩
  have HS := ak (bstr_calls w2.heap.size w2.heap.size (bodyL c) w4 hW.1 hne)
  clear hW d0 d1 d2 d3 d4 d5 d6
  go_wp2_with fail
  with_reducible refine HS.out.mono ?_
  rintro e w5 ⟨rfl, hb⟩
  have HB5 : Aside0 (Below w.heap.size w w5) := ⟨HB2.out.trans ((HB4.out.trans hb).mono HB2.out.size)⟩
  clear hb
  go_wp2
  go_ret2
  exact ⟨rfl, HB5.out⟩
set_option maxHeartbeats 8000000 in
theorem ptext_calls (c : SC) (w : World) (A : Option Addr) (cap : Nat) (hl : (cells c).length ≤ 500) (hcap : c.f3.length ≤ cap) (hr : (k27).C w A c.f3.length c.f3) (hT : NumT w) :
  Calls Tryz.prog 21 #[.agg #[.int .u8 c.f0, .int .i64 c.f1.f0, .int .i64 c.f1.f1, .int .i64 c.f1.f2, .int .i64 c.f1.f3, .int .i64 c.f2, .slice A c.f3.length cap]] w fun e w' => e = .returned (.tuple #[.string (textAns c).1, .int .i64 (textAns c).2]) ∧ Below w.heap.size w w' := by
 obtain ⟨w1, hw1⟩ : ∃ w1, w1 = w.alloc (.cells #[.int .u8 c.f0, .int .i64 c.f1.f0, .int .i64 c.f1.f1, .int .i64 c.f1.f2, .int .i64 c.f1.f3, .int .i64 c.f2, .slice A c.f3.length cap] 27) := ⟨_, rfl⟩
 have hb1 : Below w.heap.size w w1 := by rw [hw1]; exact below_alloc (Below.refl _ _) _
 have hx1 : BoxAt w1 w.heap.size c A cap := by rw [hw1]; exact BoxAt.new w c A cap
 have hr1 := Kd.C_below hr hb1
 have hPB := pbody_calls c w1 A cap (by omega) hcap hr1 (hT.below hb1)
 have hbl := body_len c
 obtain ⟨n, hn, n1, n2⟩ := Depth_f c (by omega) 2000 (by omega)
 have HB := ak hb1
 have HX := ak hx1
 have HR := ak hr1
 have HT := ak hT
 have HN := ak hn
 have HW := ak hw1
 unfold textAns
 unfold bodyAns at hPB
 rw [hw1] at hPB
 clear hw1 hb1 hx1 hr1 hr hT hn
 cases ht : tilesB c with
 | false =>
  rw [ht, if_neg (by decide)] at hPB
  rw [if_neg (by decide)]
  have HPB := ak hPB
  clear hPB ht
  go_enter Tryz.func21, Tryz.ntmps21
  go_wp2_with fail
  with_reducible refine HPB.out.mono ?_
  rintro e w2 ⟨rfl, hb⟩
  have HB2 : Aside0 (Below w.heap.size w w2) := ⟨by rw [← HW.out] at hb; exact HB.out.trans (hb.mono HB.out.size)⟩
  clear hb
  go_wp2
  go_ret2
  exact ⟨rfl, HB2.out⟩
 | true =>
  rw [ht, if_pos rfl] at hPB
  rw [if_pos rfl]
  have HPB := ak hPB
  clear hPB ht
  have hzb : (bsOf (bodyL c)).size ≤ 60000 := by rw [bs_size]; omega
  obtain ⟨s, hs⟩ : ∃ s, s = bsOf (bodyL c) := ⟨_, rfl⟩
  rw [← hs] at HPB hzb ⊢
  have hzp : (putS s).size ≤ 60005 := by rw [put_size]; omega
  have HPU := ak (fun (W : World) (h : NumT W) => put_calls s (by omega) W h)
  generalize putS s = ps at *
  clear hs
  go_enter Tryz.func21, Tryz.ntmps21
  go_wp2_with fail
  with_reducible refine HPB.out.mono ?_
  rintro e w2 ⟨rfl, hb⟩
  rw [← HW.out] at hb
  have HB2 : Aside0 (Below w.heap.size w w2) := ⟨HB.out.trans (hb.mono HB.out.size)⟩
  have HX2 := ak (HX.out.below hb)
  have HR2 := ak (Kd.C_below HR.out hb)
  have HP2 := ak (HPU.out w2 (HT.out.below HB2.out))
  clear hb HPB HPU
  go_wp2_with fail
  with_reducible refine HP2.out.mono ?_
  rintro e w3 ⟨rfl, hb⟩
  have HB3 : Aside0 (Below w.heap.size w w3) := ⟨HB2.out.trans (hb.mono HB2.out.size)⟩
  have HX3 := ak (HX2.out.below hb)
  have HR3 := ak (Kd.C_below HR2.out hb)
  have HD := ak (cell_Depth.calls 2000 _ _ _ _ _ _ A cap c.f3 n w3 HR3.out hcap HN.out)
  obtain ⟨d0, d1, d2, d3, d4, d5, d6⟩ := HX3.out.cells
  have hlz : decide ((ps.size : Int) > 65535) = false := decide_eq_false (by omega)
  have hlz2 : ¬ (65535 : Int) < (ps.size : Int) := by omega
  have hnz : decide (n > 1000) = false := decide_eq_false (by omega)
  have hnz2 : ¬ (1000 : Int) < n := by omega
  clear hb HP2
  go_wp2_with fail
  refine HD.out.mono ?_
  rintro e w4 ⟨rfl, h4⟩
  have HB4 : Aside0 (Below w.heap.size w w4) := ⟨HB3.out.trans (h4.mono HB3.out.size)⟩
  clear h4
  go_wp2
  go_ret2
  exact ⟨rfl, HB4.out⟩
theorem zC_tiles : tilesB zC = false := by kernel_rfl
def okB (s : ByteArray) : Bool := match textA s with
 | .ok _ => true
 | .error _ => false
theorem text_ans_ok {s : ByteArray} {x : SC} (h : textA s = .ok x) : textAns x = (s, 0) := by
 unfold textA at h
 by_cases hc : (cutR s).2 = 0
 ·rw [if_pos hc] at h
  obtain ⟨h1, h2, h3⟩ := whole_text h
  unfold textAns
  rw [if_pos h3, ← h1, (cutR_zero s hc).1]
 ·rw [if_neg hc] at h
  cases h
theorem text_ans_no : textAns zC = (⟨#[]⟩, 1) := by unfold textAns; rw [zC_tiles]; rfl
set_option maxHeartbeats 8000000 in
theorem rnd1_calls (w : World) (s : ByteArray) (hs : s.size ≤ 1000000 ∧ (cells (treeR (textA s))).length ≤ 500) (hT : NumT w) (hE : NumE w) :
  Calls Tryz.prog 38 #[.string s] w fun e w' => e = .returned (.bool (!okB s)) ∧ Below w.heap.size w w' := by
 have HB1 := text_uni w s hs.1 hT hE
 unfold UniPost at HB1
 have h5 := hs.2
 have HP : Aside0 (∀ W A c, Below w.heap.size w W → (k27).C W A (treeR (textA s)).f3.length (treeR (textA s)).f3 → (treeR (textA s)).f3.length ≤ c → Calls Tryz.prog 21 #[.agg #[.int .u8 (treeR (textA s)).f0, .int .i64 (treeR (textA s)).f1.f0, .int .i64 (treeR (textA s)).f1.f1, .int .i64 (treeR (textA s)).f1.f2, .int .i64 (treeR (textA s)).f1.f3, .int .i64 (treeR (textA s)).f2, .slice A (treeR (textA s)).f3.length c]] W fun e w' => e = .returned (.tuple #[.string (textAns (treeR (textA s))).1, .int .i64 (textAns (treeR (textA s))).2]) ∧ Below W.heap.size W w') :=
  ⟨fun W A c hb hC hc => ptext_calls _ W A c h5 hc hC (hT.below hb)⟩
 have hok : okB s = match textA s with | .ok _ => true | .error _ => false := rfl
 cases ht : textA s with
 | error q =>
  rw [ht] at HB1 HP hok
  have ha : textAns (treeR (Except.error q : Except (Int × Int) SC)) = (⟨#[]⟩, 1) := text_ans_no
  rw [ha] at HP
  rw [hok]
  replace HB1 := ak HB1
  generalize treeR (Except.error q : Except (Int × Int) SC) = x at *
  clear h5 hT hE hs ht hok ha
  go_enter Tryz.func38, Tryz.ntmps38
  go_wp2_with fail
  refine HB1.out.mono ?_
  rintro e w1 ⟨A1, c1, ev1, rfl, hr1, he1, hb1⟩
  obtain ⟨t, p, rfl, -⟩ := he1
  obtain ⟨W2, hW2⟩ : ∃ W2, W2 = w1.alloc (.cells #[.int .u8 x.f0, .int .i64 x.f1.f0, .int .i64 x.f1.f1, .int .i64 x.f1.f2, .int .i64 x.f1.f3, .int .i64 x.f2, .slice A1 x.f3.length c1] 27) := ⟨_, rfl⟩
  have HBB2 : Aside0 (Below w.heap.size w W2) := ⟨by rw [hW2]; exact Below.alloc hb1 hb1.size _⟩
  have HX2 : Aside0 (TreeAt W2 w1.heap.size x A1 c1) := ⟨by rw [hW2]; exact tree_new hr1⟩
  have HW2 := ak hW2
  clear hr1 hb1 hW2 HB1
  obtain ⟨y0, y1, y2, y3, y4, y5, y6⟩ := tree_cells HX2.out
  go_upto_region 2 with (fail)
  rw [← HW2.out]
  go_wp2_with fail
  with_reducible refine (HP.out W2 A1 c1 HBB2.out HX2.out.row HX2.out.cap).mono ?_
  rintro e w3 ⟨rfl, hb3⟩
  have HB3 : Aside0 (Below w.heap.size w w3) := ⟨HBB2.out.trans (hb3.mono HBB2.out.size)⟩
  clear hb3 y0 y1 y2 y3 y4 y5 y6
  go_wp2
  go_ret
  exact ⟨rfl, HB3.out⟩
 | ok x =>
  have ha := text_ans_ok ht
  rw [ht] at HB1 HP hok
  have hx : treeR (Except.ok x : Except (Int × Int) SC) = x := rfl
  rw [hx] at HB1 HP
  rw [ha] at HP
  rw [hok]
  replace HB1 := ak HB1
  clear h5 hT hE hs ht hok ha hx
  go_enter Tryz.func38, Tryz.ntmps38
  go_wp2_with fail
  refine HB1.out.mono ?_
  rintro e w1 ⟨A1, c1, ev1, rfl, hr1, he1, hb1⟩
  obtain rfl : ev1 = .nilIface := he1
  obtain ⟨W2, hW2⟩ : ∃ W2, W2 = w1.alloc (.cells #[.int .u8 x.f0, .int .i64 x.f1.f0, .int .i64 x.f1.f1, .int .i64 x.f1.f2, .int .i64 x.f1.f3, .int .i64 x.f2, .slice A1 x.f3.length c1] 27) := ⟨_, rfl⟩
  have HBB2 : Aside0 (Below w.heap.size w W2) := ⟨by rw [hW2]; exact Below.alloc hb1 hb1.size _⟩
  have HX2 : Aside0 (TreeAt W2 w1.heap.size x A1 c1) := ⟨by rw [hW2]; exact tree_new hr1⟩
  have HW2 := ak hW2
  clear hr1 hb1 hW2 HB1
  obtain ⟨y0, y1, y2, y3, y4, y5, y6⟩ := tree_cells HX2.out
  go_upto_region 2 with (fail)
  rw [← HW2.out]
  go_wp2_with fail
  with_reducible refine (HP.out W2 A1 c1 HBB2.out HX2.out.row HX2.out.cap).mono ?_
  rintro e w3 ⟨rfl, hb3⟩
  have HB3 : Aside0 (Below w.heap.size w w3) := ⟨HBB2.out.trans (hb3.mono HBB2.out.size)⟩
  clear hb3 y0 y1 y2 y3 y4 y5 y6
  go_wp2
  go_ret
  exact ⟨rfl, HB3.out⟩
theorem any_dropS (p : ByteArray → Bool) (xs : List ByteArray) (k : Nat) (hk : k < xs.length) : (xs.drop k).any p = (p (xs.getD k ByteArray.empty) || (xs.drop (k + 1)).any p) := by
 rw [List.drop_eq_getElem_cons hk, List.any_cons, List.getD_eq_getElem?_getD, List.getElem?_eq_getElem hk]; rfl
theorem getS_mem (l : List ByteArray) (i : Nat) (h : i < l.length) : l.getD i ByteArray.empty ∈ l := by
 rw [List.getD_eq_getElem?_getD, List.getElem?_eq_getElem h]; exact List.getElem_mem _
set_option maxHeartbeats 4000000 in
theorem ifs_calls (A : Option Addr) (n c : Nat) (xs : List ByteArray) (w : World) (hl : n ≤ 100000) (hx : ∀ x ∈ xs, x.size ≤ 1000000 ∧ (cells (treeR (textA x))).length ≤ 500) (hr : Kd.string.C w A n xs) (hT : NumT w) (hE : NumE w) :
  Calls Tryz.prog 58 #[.slice A n c, .func (.func 38) #[] #[]] w fun e w' => ∃ r : Int, e = .returned (.int .i64 r) ∧ (decide (0 ≤ r) = xs.any (fun s => !okB s)) ∧ Below w.heap.size w w' := by
 have HF : Aside0 (∀ k W, k ∈ xs → Below w.heap.size w W → Calls Tryz.prog 38 #[.string k] W fun e w' => e = .returned (.bool (!okB k)) ∧ Below W.heap.size W w') := ⟨fun k W hk hb => rnd1_calls W k (hx k hk) (hT.below hb) (hE.below hb)⟩
 have HN := ak (Kd.C_len hr)
 have HR := ak hr
 clear hr hT hE hx
 go_enter Tryz.func58, Tryz.ntmps58
 go_wp2
 go_loopw [8] (fun i wr => ∃ k : Nat, k ≤ n ∧ i = .int .i64 k ∧ Aside0 ((xs.drop k).any (fun s => !okB s) = xs.any (fun s => !okB s)) ∧ Aside0 (Below w.heap.size w wr)) (fun i _ => n - (intOf i).toNat)
 case atStart => exact ⟨0, by omega, rfl, ⟨rfl⟩, ⟨Below.refl _ _⟩⟩
 case round =>
  obtain ⟨k, hk, rfl, HA, HB⟩ := hrel
  by_cases hlt : k < n
  ·obtain ⟨ad, rfl, hcell⟩ := str_cell (Kd.C_below HR.out HB.out) k hlt
   have hd := any_dropS (fun s => !okB s) xs k (by have := HN.out; omega)
   have hm := getS_mem xs k (by have := HN.out; omega)
   rw [HA.out] at hd
   obtain ⟨z, hz⟩ : ∃ z, z = xs.getD k ByteArray.empty := ⟨_, rfl⟩
   rw [← hz] at hcell hd hm
   clear hz
   have HFk := ak (HF.out z wr hm HB.out)
   cases hp : okB z with
   | false =>
    rw [hp] at HFk
    have HD : Aside0 (xs.any (fun s => !okB s) = true) := ⟨by rw [hd]; simp [hp]⟩
    clear hd hp hm
    go_wp2_with (go_at_call 38; refine HFk.out.mono ?_; rintro e w1 ⟨rfl, hb1⟩)
    go_ret
    exact ⟨_, rfl, by rw [HD.out]; simp, HB.out.trans (hb1.mono HB.out.size)⟩
   | true =>
    rw [hp] at HFk
    have HD : Aside0 ((xs.drop (k + 1)).any (fun s => !okB s) = xs.any (fun s => !okB s)) := ⟨by rw [hd]; simp [hp]⟩
    clear hd hp hm
    go_wp2_with (go_at_call 38; refine HFk.out.mono ?_; rintro e w1 ⟨rfl, hb1⟩)
    go_roundw
    case rel => exact ⟨k + 1, by omega, by go_num, HD, ⟨HB.out.trans (hb1.mono HB.out.size)⟩⟩
    case measure => simp [intOf]; omega
  ·have HD : Aside0 (xs.any (fun s => !okB s) = false) := ⟨by rw [← HA.out, List.drop_eq_nil_of_le (by have := HN.out; omega)]; rfl⟩
   clear HA
   go_wp2
   go_ret
   exact ⟨_, rfl, by rw [HD.out]; rfl, HB.out⟩
set_option maxHeartbeats 4000000 in
theorem cfs_calls (A : Option Addr) (n c : Nat) (xs : List ByteArray) (w : World) (hl : n ≤ 100000) (hx : ∀ x ∈ xs, x.size ≤ 1000000 ∧ (cells (treeR (textA x))).length ≤ 500) (hr : Kd.string.C w A n xs) (hT : NumT w) (hE : NumE w) :
  Calls Tryz.prog 37 #[.slice A n c, .func (.func 38) #[] #[]] w fun e w' => e = .returned (.bool (xs.any (fun s => !okB s))) ∧ Below w.heap.size w w' := by
 have HC := ak (ifs_calls A n c xs w hl hx hr hT hE)
 clear hr hx hT hE
 go_enter Tryz.func37, Tryz.ntmps37
 go_wp2_with (go_at_call 58; refine HC.out.mono ?_; rintro e w1 ⟨r, rfl, hr, hb⟩)
 go_ret
 exact ⟨by rw [← hr]; rfl, hb⟩
set_option maxHeartbeats 4000000 in
theorem round_calls (A : Option Addr) (n c : Nat) (xs : List ByteArray) (w : World) (hl : n ≤ 100000) (hx : ∀ x ∈ xs, x.size ≤ 1000000 ∧ (cells (treeR (textA x))).length ≤ 500) (hr : Kd.string.C w A n xs) (hT : NumT w) (hE : NumE w) (b : Bool) (hb : xs.any (fun s => !okB s) = !b) :
  Calls Tryz.prog 20 #[.slice A n c] w fun e w' => e = .returned (.bool b) ∧ Below w.heap.size w w' := by
 have HC := cfs_calls A n c xs w hl hx hr hT hE
 rw [hb] at HC
 replace HC := ak HC
 clear hr hx hT hE hb
 cases b with
 | true =>
  go_enter Tryz.func20, Tryz.ntmps20
  go_wp2_with (go_at_call 37; refine HC.out.mono ?_; rintro e w1 ⟨rfl, hb⟩)
  go_ret
  exact ⟨rfl, hb⟩
 | false =>
  go_enter Tryz.func20, Tryz.ntmps20
  go_wp2_with (go_at_call 37; refine HC.out.mono ?_; rintro e w1 ⟨rfl, hb⟩)
  go_ret
  exact ⟨rfl, hb⟩
end Go.Proofs.YtkobpbbegalfpaaGreatDoor
