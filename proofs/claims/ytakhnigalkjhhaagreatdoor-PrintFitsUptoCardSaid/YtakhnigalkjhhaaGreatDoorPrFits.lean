/-
  PrintFits: the walk.
-/
import Derived.Test.YtakhnigalkjhhaaGreatDoorPrTop
namespace Go.Proofs.YtakhnigalkjhhaaGreatDoor
open Go.RowKit Go.Proofs.YtakhnigalkjhhaaGreatDoorW.PrintWords Go.Proofs.YtakhnigalkjhhaaGreatDoorW.PrintLast Go.Proofs.YtakhnigalkjhhaaGreatDoorW.PrintMore Go.Proofs.YtakhnigalkjhhaaGreatDoor.PPrintFits
open Go.Lib (decDigits)
set_option linter.unusedVariables false
set_option linter.unusedSimpArgs false
set_option maxRecDepth 100000

def awP : SC := ⟨1, ⟨0, 0, 80, 24⟩, 1, []⟩
theorem digL_1 (n : Nat) (h : n < 10) : digL (n : Int) = [UInt8.ofNat (48 + n)] := by
  rw [digL_dec _ ⟨by omega, by omega⟩, Int.toNat_natCast, dec_one n h]
theorem digL_2 (n : Nat) (h0 : ¬ n < 10) (h : n < 100) : digL (n : Int) = [UInt8.ofNat (48 + n / 10), UInt8.ofNat (48 + n % 10)] := by
  rw [digL_dec _ ⟨by omega, by omega⟩, Int.toNat_natCast, dec_step n h0, dec_one (n / 10) (by omega)]
  rfl
theorem awP_body : bodyL awP = [56, 48, 120, 50, 52, 44, 48, 44, 48, 44, 49] := by
  have a := digL_2 80 (by decide) (by decide)
  have b := digL_2 24 (by decide) (by decide)
  have c := digL_1 0 (by decide)
  have d := digL_1 1 (by decide)
  rw [bodyL_eq]
  show headB ⟨0, 0, 80, 24⟩ ++ (if (1 : Int) = 1 then [44] ++ digL 1 else _) = _
  rw [if_pos rfl]
  unfold headB
  show digL ((80 : Nat) : Int) ++ [120] ++ digL ((24 : Nat) : Int) ++ [44] ++ digL ((0 : Nat) : Int) ++ [44] ++ digL ((0 : Nat) : Int) ++ ([44] ++ digL ((1 : Nat) : Int)) = _
  rw [a, b, c, d]
  rfl
theorem awP_tiles : tilesB awP = true := by decide
theorem awP_text : textAns awP = (⟨#[98, 50, 53, 101, 44, 56, 48, 120, 50, 52, 44, 48, 44, 48, 44, 49]⟩, 0) := by
  unfold textAns
  rw [if_pos awP_tiles, awP_body]
  kernel_rfl
set_option maxHeartbeats 4000000 in
theorem pawake_calls (w : World) (hT : NumT w) : Calls Tryz.prog 5 #[] w fun e w' => e = .returned (.bool true) ∧ Below w.heap.size w w' := by
  have h := ptext_calls awP w none 0 (by decide) (Nat.le_refl _) (Kd.C_nil _ _) hT
  rw [awP_text] at h
  have HP : Aside0 (Calls Tryz.prog 9 #[.agg #[.int .u8 1, .int .i64 0, .int .i64 0, .int .i64 80, .int .i64 24, .int .i64 1, .slice none 0 0]] w fun e w' => e = .returned (.tuple #[.string ⟨#[98, 50, 53, 101, 44, 56, 48, 120, 50, 52, 44, 48, 44, 48, 44, 49]⟩, .int .i64 0]) ∧ Below w.heap.size w w') := ⟨h⟩
  clear h hT
  go_enter Tryz.func5, Tryz.ntmps5
  go_wp2_with fail
  with_reducible refine HP.out.mono ?_
  rintro e w1 ⟨rfl, hb⟩
  have HB := Aside0.mk hb
  clear hb HP
  go_wp2
  go_ret
  exact ⟨rfl, HB.out⟩

theorem GreatAll_l0 (l : List SC) (hl : (cellsL l).length ≤ 2000000) (K : Nat) (hK : 4000000 < K) : ∀ (d k i : Nat), l.length - i = d → i ≤ l.length → d + K < k →
    sashref05_GreatAll.l0 k l (l.length : Int) (i : Int) = some ((l.drop i).any (fun c => decide (200 < (cells c).length))) := by
  have hge := cellsL_ge l
  intro d
  induction d with
  | zero =>
    intro k i hd hi hk
    obtain ⟨k, rfl⟩ : ∃ m, k = m + 1 := ⟨k - 1, by omega⟩
    simp only [sashref05_GreatAll.l0]
    rw [if_neg (by omega), List.drop_eq_nil_of_le (by omega)]; rfl
  | succ d ih =>
    intro k i hd hi hk
    obtain ⟨k, rfl⟩ : ∃ m, k = m + 1 := ⟨k - 1, by omega⟩
    have hm := kid_le _ l (getT_mem l i (by omega))
    simp only [sashref05_GreatAll.l0]
    rw [if_pos (by omega), if_pos (by omega), if_pos (by omega), rd_T_getD, great_f _ (by omega) k (by omega), dropT l i (by omega), List.any_cons, wi i (by omega)]
    simp only [Option.bind_some]
    cases h : decide (200 < (cells (l.getD i z30)).length) with
    | true => simp
    | false =>
      rw [if_neg (by decide), Bool.false_or]
      exact ih k (i + 1) (by omega) (by omega) (by omega)
def greatAllB (l : List SC) : Bool := decide (20 < l.length) || l.any (fun c => decide (200 < (cells c).length))
theorem GreatAll_f (l : List SC) (hl : (cellsL l).length ≤ 2000000) (k : Nat) (hk : 8000000 < k) : sashref05_GreatAll.f k l = some (greatAllB l) := by
  have hge := cellsL_ge l
  unfold sashref05_GreatAll.f greatAllB
  by_cases h : (l.length : Int) > 20
  · rw [if_pos h, decide_eq_true (by omega)]; rfl
  · rw [if_neg h, decide_eq_false (by omega), Bool.false_or]
    have := GreatAll_l0 l hl 4000001 (by omega) l.length k 0 (by omega) (by omega) (by omega)
    have hz : ((0 : Nat) : Int) = 0 := rfl
    rw [hz, List.drop_zero] at this
    exact this
theorem great_no {l : List SC} (h : greatAllB l = false) : l.length ≤ 20 ∧ ∀ c ∈ l, (cells c).length ≤ 200 := by
  unfold greatAllB at h
  rw [Bool.or_eq_false_iff, decide_eq_false_iff_not] at h
  refine ⟨by omega, fun c hc => ?_⟩
  have := List.any_eq_false.1 h.2 c hc
  simpa using this


theorem rtext_at (c : SC) (hl : (cells c).length ≤ 200) (w : World) (A : Option Addr) (cap : Nat) (hcap : c.f3.length ≤ cap) (hr : (k30).C w A c.f3.length c.f3) :
    Calls Tryz.prog 6 #[.agg #[.int .u8 c.f0, .int .i64 c.f1.f0, .int .i64 c.f1.f1, .int .i64 c.f1.f2, .int .i64 c.f1.f3, .int .i64 c.f2, .slice A c.f3.length cap]] w fun e w' => e = .returned (.tuple #[.string (textAns c).1, .int .i64 (textAns c).2]) ∧ Below w.heap.size w w' := by
  obtain ⟨k, hk⟩ := Text_f c hl
  exact sashref10_Text.calls k _ _ _ _ _ _ A cap c.f3 _ _ w hr hcap hk
theorem text_no (c : SC) : (textAns c).2 = if tilesB c = true then 0 else 1 := by unfold textAns; split <;> rfl
theorem enters15 : ∀ args w, (callFunc 15 args).run Tryz.prog w = .ok (.enter 15 args) w := enters_of Tryz.func15 (by kernel_rfl) rfl
set_option maxHeartbeats 4000000 in
theorem fits1_calls (c : SC) (w : World) (A : Option Addr) (cap : Nat) (hl : (cells c).length ≤ 200) (hcap : c.f3.length ≤ cap) (hr : (k30).C w A c.f3.length c.f3) (hT : NumT w) :
    Calls Tryz.prog 15 #[.agg #[.int .u8 c.f0, .int .i64 c.f1.f0, .int .i64 c.f1.f1, .int .i64 c.f1.f2, .int .i64 c.f1.f3, .int .i64 c.f2, .slice A c.f3.length cap]] w fun e w' => e = .returned (.bool (!tilesB c)) ∧ Below w.heap.size w w' := by
  obtain ⟨w1, hw1⟩ : ∃ w1, w1 = w.alloc (.cells #[.int .u8 c.f0, .int .i64 c.f1.f0, .int .i64 c.f1.f1, .int .i64 c.f1.f2, .int .i64 c.f1.f3, .int .i64 c.f2, .slice A c.f3.length cap] 30) := ⟨_, rfl⟩
  have hb1 : Below w.heap.size w w1 := by rw [hw1]; exact below_alloc (Below.refl _ _) _
  have hP := ptext_calls c w1 A cap hl hcap (Kd.C_below hr hb1) (hT.below hb1)
  rw [text_no] at hP
  rw [hw1] at hP
  have HB := Aside0.mk hb1
  have HW := Aside0.mk hw1
  generalize (textAns c).1 = ts at *
  cases ht : tilesB c with
  | true =>
    rw [ht, if_pos rfl] at hP
    have HP := Aside0.mk hP
    clear hP hr hT hb1 hw1 ht
    go_enter Tryz.func15, Tryz.ntmps15
    go_wp2_with fail
    with_reducible refine HP.out.mono ?_
    rintro e w2 ⟨rfl, hb⟩
    rw [← HW.out] at hb
    have HB2 := Aside0.mk (HB.out.trans (hb.mono HB.out.size))
    clear hb
    go_wp2
    go_ret
    exact ⟨rfl, HB2.out⟩
  | false =>
    rw [ht, if_neg (by decide)] at hP
    have HP := Aside0.mk hP
    clear hP hr hT hb1 hw1 ht
    go_enter Tryz.func15, Tryz.ntmps15
    go_wp2_with fail
    with_reducible refine HP.out.mono ?_
    rintro e w2 ⟨rfl, hb⟩
    rw [← HW.out] at hb
    have HB2 := Aside0.mk (HB.out.trans (hb.mono HB.out.size))
    clear hb
    go_wp2
    go_ret
    exact ⟨rfl, HB2.out⟩
def NumInv (w : World) (_ : Unit) (_ : Nat) : Prop := NumT w
theorem NumInv.stable : Stable NumInv := ⟨fun _ _ _ _ h hb => NumT.below h hb, fun _ _ _ _ h _ => h⟩
/-- print.Fits of several trees. -/
theorem fits_calls (l : List SC) (w : World) (A : Option Addr) (n cap : Nat) (hl : ∀ c ∈ l, (cells c).length ≤ 200) (hr : (k30).C w A n l) (hT : NumT w) :
    Calls Tryz.prog 7 #[.slice A n cap] w fun e w' => e = .returned (.bool (l.all tilesB)) ∧ Below w.heap.size w w' := by
  have hpred : PredF w.heap.size w.heap.size 0 15 #[] NumInv (fun _ => 0) (fun (_ : Unit) x => (!tilesB x, ())) l := fun x hx W st u A' cap' h1 _ h3 h4 h5 => by
    refine (fits1_calls x W A' cap' (hl x hx) h4 h5.now h1).mono ?_
    rintro e w' ⟨h1', h2⟩
    exact ⟨h1', NumT.below h1 h2, Mid.ofBelow h2⟩
  have HC := cfn_calls w.heap.size w.heap.size 0 15 #[] enters15 NumInv NumInv.stable (fun _ => 0) (fun (_ : Unit) x => (!tilesB x, ())) A n cap l w () 0 (Nat.le_refl _) (Nat.le_refl _) hpred (Tr.of hr) hT (by rw [wts_zero]; exact Nat.le_refl _)
  rw [anyL_unit (fun x => !tilesB x)] at HC
  have e : (!l.any (fun x => !tilesB x)) = l.all tilesB := not_any_not _ _
  rw [← e]
  have HCC := Aside0.mk HC
  generalize l.any (fun x => !tilesB x) = b at *
  clear hpred hr hl HC e hT
  go_enter Tryz.func7, Tryz.ntmps7
  go_wp2_with fail
  refine HCC.out.mono ?_
  rintro e w1 ⟨rfl, _, hm⟩
  have HM := Aside0.mk (hm.toB (Nat.le_refl _))
  clear hm
  go_wp2
  go_ret
  exact ⟨rfl, HM.out⟩

set_option maxHeartbeats 4000000 in
theorem printFits_calls (w : World) (A : Option Addr) (n c : Nat) (l : List SC) (hr : (k30).C w A n l) (hc : n ≤ c) (hl : (cellsL l).length ≤ 2000000) (hNT : NumT w) :
    Calls Tryz.prog 3 #[.slice A n c] w fun e w' => e = .returned (.bool true) ∧ Below w.heap.size w w' := by
  have hlen := Kd.C_len hr
  subst hlen
  have HG := Aside0.mk (sashref05_GreatAll.calls 8000001 A c l _ w hr hc (GreatAll_f l hl 8000001 (by omega)))
  have HNT := Aside0.mk hNT
  clear hNT
  cases hg : greatAllB l with
  | true =>
    rw [hg] at HG
    clear hr hl hg
    go_enter Tryz.func3, Tryz.ntmps3
    go_wp2_with fail
    refine HG.out.mono ?_
    rintro e w1 ⟨rfl, hb⟩
    have HB := Aside0.mk hb
    clear hb HG
    go_wp2_with fail
    refine (pawake_calls _ (HNT.out.below HB.out)).mono ?_
    rintro e w2 ⟨rfl, hb⟩
    have HB2 := Aside0.mk (HB.out.trans (hb.mono HB.out.size))
    clear hb
    go_wp2
    go_ret
    exact ⟨rfl, HB2.out⟩
  | false =>
    rw [hg] at HG
    obtain ⟨h20, h200⟩ := great_no hg
    have HS := Aside0.mk h200
    have HR := Aside0.mk hr
    have HT : Aside0 (Tr w.heap.size w A l.length l) := ⟨Tr.of hr⟩
    obtain ⟨n, hn⟩ : ∃ n, n = l.length := ⟨_, rfl⟩
    rw [← hn] at HG HT HR hc h20 ⊢
    have HN := Aside0.mk hn
    clear hr hl hg h200 hn
    go_enter Tryz.func3, Tryz.ntmps3
    go_wp2_with fail
    refine HG.out.mono ?_
    rintro e w1 ⟨rfl, hb⟩
    have HB := Aside0.mk hb
    clear hb HG
    go_wp2
    go_loopw [3, 4] (fun v i wr => ∃ (k : Nat) (b : Bool), k ≤ n ∧ i = .int .i64 k ∧ v = .bool b ∧ Aside0 (b = (l.take k).all tilesB ∧ Below w.heap.size w wr)) (fun _ i _ => n - (intOf i).toNat)
    case atStart => exact ⟨0, true, by omega, rfl, rfl, ⟨by simp, HB.out⟩⟩
    case round =>
      obtain ⟨k, b, hk, rfl, rfl, HA⟩ := hrel
      by_cases hlt : k < n
      · obtain ⟨ad, A6, c6, rfl, g0, g1, g2, g3, g4, g5, g6, hl6, hT6⟩ := (HT.out.below HA.out.2).get k hlt
        have htk := takeT l k (by have := HN.out; omega)
        have hmem := getT_mem l k (by have := HN.out; omega)
        generalize l.getD k z30 = x at *
        have hall : (l.take (k + 1)).all tilesB = ((l.take k).all tilesB && tilesB x) := by rw [htk, List.all_append]; simp
        have HALL := Aside0.mk hall
        have hC := rtext_at x (HS.out x hmem) wr A6 c6 hl6 hT6.now
        rw [text_no] at hC
        generalize (textAns x).1 = ts at *
        clear htk hall hmem hT6
        have HA2 := Aside0.mk HA.out.2
        have HA1 := Aside0.mk HA.out.1
        clear HA
        cases ht : tilesB x with
        | false =>
          rw [ht, if_neg (by decide)] at hC
          have HC := Aside0.mk hC
          have HTT := Aside0.mk ht
          clear hC ht
          cases b with
          | false =>
            go_wp2_with fail
            refine HC.out.mono ?_
            rintro e w2 ⟨rfl, hb⟩
            have HB2 := Aside0.mk (HA2.out.trans (hb.mono HA2.out.size))
            clear hb HC
            go_wp2
            go_roundw
            case rel => exact ⟨k + 1, false, by omega, by go_num, rfl, ⟨by rw [HALL.out, ← HA1.out]; rfl, HB2.out⟩⟩
            case measure => simp [intOf]; omega
          | true =>
            go_wp2_with fail
            refine HC.out.mono ?_
            rintro e w2 ⟨rfl, hb⟩
            have HB2 := Aside0.mk (HA2.out.trans (hb.mono HA2.out.size))
            clear hb HC
            go_wp2
            go_roundw
            case rel => exact ⟨k + 1, false, by omega, by go_num, rfl, ⟨by rw [HALL.out, ← HA1.out, HTT.out]; rfl, HB2.out⟩⟩
            case measure => simp [intOf]; omega
        | true =>
          rw [ht, if_pos rfl] at hC
          have HC := Aside0.mk hC
          have HTT := Aside0.mk ht
          clear hC ht
          cases b with
          | false =>
            go_wp2_with fail
            refine HC.out.mono ?_
            rintro e w2 ⟨rfl, hb⟩
            have HB2 := Aside0.mk (HA2.out.trans (hb.mono HA2.out.size))
            clear hb HC
            go_wp2
            go_roundw
            case rel => exact ⟨k + 1, false, by omega, by go_num, rfl, ⟨by rw [HALL.out, ← HA1.out]; rfl, HB2.out⟩⟩
            case measure => simp [intOf]; omega
          | true =>
            go_wp2_with fail
            refine HC.out.mono ?_
            rintro e w2 ⟨rfl, hb⟩
            have HB2 := Aside0.mk (HA2.out.trans (hb.mono HA2.out.size))
            clear hb HC
            go_wp2
            go_roundw
            case rel => exact ⟨k + 1, true, by omega, by go_num, rfl, ⟨by rw [HALL.out, ← HA1.out, HTT.out]; rfl, HB2.out⟩⟩
            case measure => simp [intOf]; omega
      · have HE : Aside0 (b = l.all tilesB) := ⟨by have := HA.out.1; rwa [List.take_of_length_le (by have := HN.out; omega)] at this⟩
        have HC := Aside0.mk (fits_calls l wr A n c (fun x hx => HS.out x hx) (Kd.C_below HR.out HA.out.2) (HNT.out.below HA.out.2))
        rw [← HE.out] at HC
        have HA2 := Aside0.mk HA.out.2
        clear HA HE
        go_wp2_with fail
        refine HC.out.mono ?_
        rintro e w2 ⟨rfl, hb⟩
        have HB2 := Aside0.mk (HA2.out.trans (hb.mono HA2.out.size))
        clear hb HC
        go_wp2_with fail
        refine (pawake_calls _ (HNT.out.below HB2.out)).mono ?_
        rintro e w3 ⟨rfl, hb⟩
        have HB3 := Aside0.mk (HB2.out.trans (hb.mono HB2.out.size))
        clear hb
        go_wp2
        go_ret
        exact ⟨rfl, HB3.out⟩
end Go.Proofs.YtakhnigalkjhhaaGreatDoor
