/-
  PrintIs, PrintHeads: the walks.
-/
import Derived.Test.YtakhnigalkjhhaaDoorPrTop
namespace Go.Proofs.YtakhnigalkjhhaaDoor
open Go.RowKit Go.Proofs.YtakhnigalkjhhaaDoorW.PrintWords Go.Proofs.YtakhnigalkjhhaaDoorW.PrintLast Go.Proofs.YtakhnigalkjhhaaDoorW.PrintMore Go.Proofs.YtakhnigalkjhhaaDoor.PTileChecks
open Go.Lib (decDigits)
set_option linter.unusedVariables false
set_option linter.unusedSimpArgs false
set_option maxRecDepth 100000

def awP : SC := ⟨1, ⟨0, 0, 80, 24⟩, 1, []⟩
theorem digL_1 (n : Nat) (h : n < 10) : digL (n : Int) = [UInt8.ofNat (48 + n)] := by
  rw [digL_dec _ ⟨by omega, by omega⟩, Int.toNat_natCast, dec_one n h]
theorem digL_2 (n : Nat) (h0 : ¬ n < 10) (h : n < 100) : digL (n : Int) = [UInt8.ofNat (48 + n / 10), UInt8.ofNat (48 + n % 10)] := by
  rw [digL_dec _ ⟨by omega, by omega⟩, Int.toNat_natCast, dec_step n h0, dec_one (n / 10) (by omega)]
  rfl
theorem awP_body : bodyL awP = [56, 48, 120, 50, 52, 44, 48, 44, 48, 44, 49] := by
  have a := digL_2 80 (by decide) (by decide)
  have b := digL_2 24 (by decide) (by decide)
  have c := digL_1 0 (by decide)
  have d := digL_1 1 (by decide)
  rw [bodyL_eq]
  show headB ⟨0, 0, 80, 24⟩ ++ (if (1 : Int) = 1 then [44] ++ digL 1 else _) = _
  rw [if_pos rfl]
  unfold headB
  show digL ((80 : Nat) : Int) ++ [120] ++ digL ((24 : Nat) : Int) ++ [44] ++ digL ((0 : Nat) : Int) ++ [44] ++ digL ((0 : Nat) : Int) ++ ([44] ++ digL ((1 : Nat) : Int)) = _
  rw [a, b, c, d]
  rfl
theorem awP_tiles : tilesB awP = true := by decide
theorem awP_text : textAns awP = (⟨#[98, 50, 53, 101, 44, 56, 48, 120, 50, 52, 44, 48, 44, 48, 44, 49]⟩, 0) := by
  unfold textAns
  rw [if_pos awP_tiles, awP_body]
  kernel_rfl
set_option maxHeartbeats 4000000 in
theorem pawake_calls (w : World) (hT : NumT w) : Calls Tryd.prog 16 #[] w fun e w' => e = .returned (.bool true) ∧ Below w.heap.size w w' := by
  have h := ptext_calls awP w none 0 (by decide) (Nat.le_refl _) (Kd.C_nil _ _) hT
  rw [awP_text] at h
  have HP : Aside0 (Calls Tryd.prog 17 #[.agg #[.int .u8 1, .int .i64 0, .int .i64 0, .int .i64 80, .int .i64 24, .int .i64 1, .slice none 0 0]] w fun e w' => e = .returned (.tuple #[.string ⟨#[98, 50, 53, 101, 44, 56, 48, 120, 50, 52, 44, 48, 44, 48, 44, 49]⟩, .int .i64 0]) ∧ Below w.heap.size w w') := ⟨h⟩
  clear h hT
  go_enter Tryd.func16, Tryd.ntmps16
  go_wp2_with fail
  with_reducible refine HP.out.mono ?_
  rintro e w1 ⟨rfl, hb⟩
  have HB := Aside0.mk hb
  clear hb HP
  go_wp2
  go_ret
  exact ⟨rfl, HB.out⟩

set_option maxHeartbeats 8000000 in
theorem printIs_calls (w : World) (c : SC) (A : Option Addr) (cap : Nat) (hr : (k26).C w A c.f3.length c.f3) (hcap : c.f3.length ≤ cap) (hl : (cells c).length ≤ 2000000) (hT : NumT w) :
    Calls Tryd.prog 4 #[.agg #[.int .u8 c.f0, .int .i64 c.f1.f0, .int .i64 c.f1.f1, .int .i64 c.f1.f2, .int .i64 c.f1.f3, .int .i64 c.f2, .slice A c.f3.length cap]] w fun e w' => e = .returned (.bool true) ∧ Below w.heap.size w w' := by
  obtain ⟨w1, hw1⟩ : ∃ w1, w1 = w.alloc (.cells #[.int .u8 c.f0, .int .i64 c.f1.f0, .int .i64 c.f1.f1, .int .i64 c.f1.f2, .int .i64 c.f1.f3, .int .i64 c.f2, .slice A c.f3.length cap] 26) := ⟨_, rfl⟩
  have hb1 : Below w.heap.size w w1 := by rw [hw1]; exact below_alloc (Below.refl _ _) _
  have hx1 : BoxAt w1 w.heap.size c A cap := by rw [hw1]; exact BoxAt.new w c A cap
  have hr1 := Kd.C_below hr hb1
  have HG := great_atP c hl w1 A cap hcap hr1
  rw [hw1] at HG
  have HG := Aside0.mk HG
  have HW := Aside0.mk hw1
  have HB := Aside0.mk hb1
  have HX := Aside0.mk hx1
  have HR := Aside0.mk hr1
  have HT := Aside0.mk hT
  have hs1 : w.heap.size < w1.heap.size := blk_lt hx1
  clear hw1 hb1 hx1 hr1 hr hT
  by_cases hbig : 200 < (cells c).length
  · rw [decide_eq_true hbig] at HG
    clear hl hbig
    go_enter Tryd.func4, Tryd.ntmps4
    go_wp2_with fail
    with_reducible refine HG.out.mono ?_
    rintro e w2 ⟨rfl, hb⟩
    rw [← HW.out] at hb
    have HB2 := Aside0.mk (HB.out.trans (hb.mono HB.out.size))
    clear hb HG
    go_wp2_with fail
    refine (pawake_calls _ (HT.out.below HB2.out)).mono ?_
    rintro e w3 ⟨rfl, hb⟩
    have HB3 := Aside0.mk (HB2.out.trans (hb.mono HB2.out.size))
    clear hb
    go_wp2
    go_ret
    exact ⟨rfl, HB3.out⟩
  · rw [decide_eq_false hbig] at HG
    have hl2 : (cells c).length ≤ 200 := by omega
    have HL := Aside0.mk hl2
    obtain ⟨kt, hkt⟩ := Text_f c hl2
    have HKT := Aside0.mk hkt
    clear hl hbig hkt
    go_enter Tryd.func4, Tryd.ntmps4
    go_wp2_with fail
    with_reducible refine HG.out.mono ?_
    rintro e w2 ⟨rfl, hb⟩
    rw [← HW.out] at hb
    have HB2 := Aside0.mk (HB.out.trans (hb.mono HB.out.size))
    have HX2 := Aside0.mk (HX.out.below hb)
    have HR2 := Aside0.mk (Kd.C_below HR.out hb)
    have HTX := Aside0.mk (ptext_calls c w2 A cap HL.out hcap HR2.out (HT.out.below HB2.out))
    obtain ⟨d0, d1, d2, d3, d4, d5, d6⟩ := HX2.out.cells
    clear hb HG
    go_wp2_with fail
    with_reducible refine HTX.out.mono ?_
    rintro e w3 ⟨rfl, hb⟩
    have HB3 := Aside0.mk (HB2.out.trans (hb.mono HB2.out.size))
    have HX3 := Aside0.mk (HX2.out.below hb)
    have HR3 := Aside0.mk (Kd.C_below HR2.out hb)
    have HRT := Aside0.mk (sashref10_Text.calls kt _ _ _ _ _ _ A cap c.f3 (textAns c).1 (textAns c).2 w3 HR3.out hcap HKT.out)
    clear hb HTX d0 d1 d2 d3 d4 d5 d6
    obtain ⟨d0, d1, d2, d3, d4, d5, d6⟩ := HX3.out.cells
    go_wp2_with fail
    refine HRT.out.mono ?_
    rintro e w4 ⟨rfl, hb⟩
    have HB4 := Aside0.mk (HB3.out.trans (hb.mono HB3.out.size))
    have HX4 := Aside0.mk (HX3.out.below hb)
    have HR4 := Aside0.mk (Kd.C_below HR3.out hb)
    have HPB := Aside0.mk (pbody_calls c w4 A cap (by have := HL.out; omega) hcap HR4.out (HT.out.below HB4.out))
    clear hb HRT d0 d1 d2 d3 d4 d5 d6
    obtain ⟨d0, d1, d2, d3, d4, d5, d6⟩ := HX4.out.cells
    go_wp2_with fail
    with_reducible refine HPB.out.mono ?_
    rintro e w5 ⟨rfl, hb⟩
    have HB5 := Aside0.mk (HB4.out.trans (hb.mono HB4.out.size))
    have HX5 := Aside0.mk (HX4.out.below hb)
    have HR5 := Aside0.mk (Kd.C_below HR4.out hb)
    have HTI := Aside0.mk (sashref06_Tiles.calls 100001 _ _ _ _ _ _ A cap c.f3 (tilesB c) w5 HR5.out hcap (Tiles_f c (by have := HL.out; omega) 100001 (by omega)))
    have hba : bodyAns c = if tilesB c = true then (bsOf (bodyL c), 0) else (⟨#[]⟩, 1) := rfl
    have HGD := Aside0.mk (fun (h : tilesB c = true) => (tiles_cgood h).cir)
    generalize (textAns c).1 = ts at *
    generalize (textAns c).2 = te at *
    clear hb HPB d0 d1 d2 d3 d4 d5 d6
    obtain ⟨d0, d1, d2, d3, d4, d5, d6⟩ := HX5.out.cells
    rw [hba]
    clear hba
    cases ht : tilesB c with
    | false =>
      rw [if_neg (by decide)]
      rw [ht] at HTI
      clear ht
      go_wp2_with fail
      refine HTI.out.mono ?_
      rintro e w6 ⟨rfl, hb⟩
      have HB6 := Aside0.mk (HB5.out.trans (hb.mono HB5.out.size))
      clear hb HTI
      go_wp2_with fail
      refine (pawake_calls _ (HT.out.below HB6.out)).mono ?_
      rintro e w7 ⟨rfl, hb⟩
      have HB7 := Aside0.mk (HB6.out.trans (hb.mono HB6.out.size))
      clear hb
      go_wp2
      go_ret
      exact ⟨rfl, HB7.out⟩
    | true =>
      rw [if_pos rfl]
      rw [ht] at HTI
      have HBF := Aside0.mk (Body_f c (HGD.out ht) (by have := HL.out; omega) 1000 (by have := HL.out; omega))
      generalize bsOf (bodyL c) = bs at *
      clear ht HGD
      go_wp2_with fail
      refine HTI.out.mono ?_
      rintro e w6 ⟨rfl, hb⟩
      have HB6 := Aside0.mk (HB5.out.trans (hb.mono HB5.out.size))
      have HX6 := Aside0.mk (HX5.out.below hb)
      have HR6 := Aside0.mk (Kd.C_below HR5.out hb)
      have HRB := Aside0.mk (sashref10_Body.calls 1000 _ _ _ _ _ _ A cap c.f3 bs w6 HR6.out hcap HBF.out)
      clear hb HTI d0 d1 d2 d3 d4 d5 d6
      obtain ⟨d0, d1, d2, d3, d4, d5, d6⟩ := HX6.out.cells
      go_wp2_with fail
      refine HRB.out.mono ?_
      rintro e w7 ⟨rfl, hb⟩
      have HB7 := Aside0.mk (HB6.out.trans (hb.mono HB6.out.size))
      clear hb HRB
      go_wp2_with fail
      refine (pawake_calls _ (HT.out.below HB7.out)).mono ?_
      rintro e w8 ⟨rfl, hb⟩
      have HB8 := Aside0.mk (HB7.out.trans (hb.mono HB7.out.size))
      clear hb
      go_wp2
      go_ret
      exact ⟨rfl, HB8.out⟩

set_option maxHeartbeats 8000000 in
theorem printHeads_calls (w : World) (r : SR) (hr : RIR r) (hT : NumT w) :
    Calls Tryd.prog 5 #[.agg #[.int .i64 r.f0, .int .i64 r.f1, .int .i64 r.f2, .int .i64 r.f3]] w fun e w' => e = .returned (.bool true) ∧ Below w.heap.size w w' := by
  obtain ⟨w1, hw1⟩ : ∃ w1, w1 = w.alloc (.cells #[.int .i64 r.f0, .int .i64 r.f1, .int .i64 r.f2, .int .i64 r.f3] 23) := ⟨_, rfl⟩
  have hb1 : Below w.heap.size w w1 := by rw [hw1]; exact below_alloc (Below.refl _ _) _
  have hblk : w1.heap[w.heap.size]? = some (.cells #[.int .i64 r.f0, .int .i64 r.f1, .int .i64 r.f2, .int .i64 r.f3] 23 (0, 0)) := by rw [hw1]; exact heap_alloc_new w _
  have CE : Aside0 (∀ w', Below w1.heap.size w1 w' → w'.cell? ⟨w.heap.size, 0, none⟩ = some (.int .i64 r.f0) ∧ w'.cell? ⟨w.heap.size, 1, none⟩ = some (.int .i64 r.f1) ∧ w'.cell? ⟨w.heap.size, 2, none⟩ = some (.int .i64 r.f2) ∧ w'.cell? ⟨w.heap.size, 3, none⟩ = some (.int .i64 r.f3)) := ⟨fun w' hb => by
    have h := (hb.block _ (blk_lt hblk)).trans hblk
    exact ⟨(blk_cell h 0).trans rfl, (blk_cell h 1).trans rfl, (blk_cell h 2).trans rfl, (blk_cell h 3).trans rfl⟩⟩
  have hNT : ∀ W, Below w1.heap.size w1 W → NumT W := fun W h => hT.below (hb1.trans (h.mono hb1.size))
  have HPH : Aside0 (∀ W, Below w1.heap.size w1 W → Calls Tryd.prog 22 #[.agg #[.int .i64 r.f0, .int .i64 r.f1, .int .i64 r.f2, .int .i64 r.f3]] W fun e w' => e = .returned (.string (bsOf (headB r))) ∧ Below w1.heap.size w1 w') := ⟨fun W hb => (phead_calls r W (hNT W hb)).mono fun e w' ⟨h1, h2⟩ => ⟨h1, hb.trans (h2.mono hb.size)⟩⟩
  have HRH : Aside0 (∀ W, Below w1.heap.size w1 W → Calls Tryd.prog 23 #[.agg #[.int .i64 r.f0, .int .i64 r.f1, .int .i64 r.f2, .int .i64 r.f3]] W fun e w' => e = .returned (.string (bsOf (headB r))) ∧ Below w1.heap.size w1 w') := ⟨fun W hb => (sashref10_Head.calls 12 _ _ _ _ _ W (Head_f r hr 12 (Nat.le_refl _))).mono fun e w' ⟨h1, h2⟩ => ⟨h1, hb.trans (h2.mono hb.size)⟩⟩
  have HAW : Aside0 (∀ W, Below w1.heap.size w1 W → Calls Tryd.prog 16 #[] W fun e w' => e = .returned (.bool true) ∧ Below w1.heap.size w1 w') := ⟨fun W hb => (pawake_calls W (hNT W hb)).mono fun e w' ⟨h1, h2⟩ => ⟨h1, hb.trans (h2.mono hb.size)⟩⟩
  generalize bsOf (headB r) = hs at *
  have hbd : Below w1.heap.size w1 w1.drew := below_drew (Below.refl _ _)
  have HW := Aside0.mk hw1
  have HB := Aside0.mk hb1
  clear hw1 hb1 hblk hNT hT hr
  go_enter Tryd.func5, Tryd.ntmps5
  go_upto_region 1 with fail
  rw [← HW.out]
  go_region_held3 (fun w' => w'.cell? ⟨w.heap.size, 0, none⟩ = some (.int .i64 r.f0) ∧ w'.cell? ⟨w.heap.size, 1, none⟩ = some (.int .i64 r.f1) ∧ w'.cell? ⟨w.heap.size, 2, none⟩ = some (.int .i64 r.f2) ∧ w'.cell? ⟨w.heap.size, 3, none⟩ = some (.int .i64 r.f3)) (first | exact CE.out _ (by assumption)) (first
    | (go_at_call 22; with_reducible refine (HPH.out _ (by assumption)).mono ?_; rintro e w2 ⟨rfl, hb2⟩)
    | (go_at_call 23; with_reducible refine (HRH.out _ (by assumption)).mono ?_; rintro e w3 ⟨rfl, hb3⟩)
    | (go_at_call 16; with_reducible refine (HAW.out _ (by assumption)).mono ?_; rintro e w4 ⟨rfl, hb4⟩))
  all_goals (go_wp2; go_ret; exact ⟨rfl, HB.out.trans (hb4.mono HB.out.size)⟩)
end Go.Proofs.YtakhnigalkjhhaaDoor
