/-
  TileAll: the walk.
-/
import Derived.Test.YtakhnigalkjhhaaTiAwake
import Derived.Test.YtakhnigalkjhhaaTiPrint
namespace Go.Proofs.Ytakhnigalkjhhaa
open Go.RowKit Go.Proofs.YtakhnigalkjhhaaW.PrintWords Go.Proofs.YtakhnigalkjhhaaW.PrintLast Go.Proofs.YtakhnigalkjhhaaW.PrintMore Go.Proofs.Ytakhnigalkjhhaa.PTileHits
set_option linter.unusedVariables false
set_option linter.unusedSimpArgs false
set_option maxRecDepth 100000

theorem GreatAll_l0 (l : List SC) (hl : (cellsL l).length ≤ 2000000) (K : Nat) (hK : 4000000 < K) : ∀ (d k i : Nat), l.length - i = d → i ≤ l.length → d + K < k →
    sashref05_GreatAll.l0 k l (l.length : Int) (i : Int) = some ((l.drop i).any (fun c => decide (200 < (cells c).length))) := by
  have hge := cellsL_ge l
  intro d
  induction d with
  | zero =>
    intro k i hd hi hk
    obtain ⟨k, rfl⟩ : ∃ m, k = m + 1 := ⟨k - 1, by omega⟩
    simp only [sashref05_GreatAll.l0]
    rw [if_neg (by omega), List.drop_eq_nil_of_le (by omega)]; rfl
  | succ d ih =>
    intro k i hd hi hk
    obtain ⟨k, rfl⟩ : ∃ m, k = m + 1 := ⟨k - 1, by omega⟩
    have hm := kid_le _ l (getT_mem l i (by omega))
    simp only [sashref05_GreatAll.l0]
    rw [if_pos (by omega), if_pos (by omega), if_pos (by omega), rd_T_getD, great_f _ (by omega) k (by omega), dropT l i (by omega), List.any_cons, wi i (by omega)]
    simp only [Option.bind_some]
    cases h : decide (200 < (cells (l.getD i z29)).length) with
    | true => simp
    | false =>
      rw [if_neg (by decide), Bool.false_or]
      exact ih k (i + 1) (by omega) (by omega) (by omega)
def greatAllB (l : List SC) : Bool := decide (20 < l.length) || l.any (fun c => decide (200 < (cells c).length))
theorem GreatAll_f (l : List SC) (hl : (cellsL l).length ≤ 2000000) (k : Nat) (hk : 8000000 < k) : sashref05_GreatAll.f k l = some (greatAllB l) := by
  have hge := cellsL_ge l
  unfold sashref05_GreatAll.f greatAllB
  by_cases h : (l.length : Int) > 20
  · rw [if_pos h, decide_eq_true (by omega)]; rfl
  · rw [if_neg h, decide_eq_false (by omega), Bool.false_or]
    have := GreatAll_l0 l hl 4000001 (by omega) l.length k 0 (by omega) (by omega) (by omega)
    have hz : ((0 : Nat) : Int) = 0 := rfl
    rw [hz, List.drop_zero] at this
    exact this
theorem great_no {l : List SC} (h : greatAllB l = false) : l.length ≤ 20 ∧ ∀ c ∈ l, (cells c).length ≤ 200 := by
  unfold greatAllB at h
  rw [Bool.or_eq_false_iff, decide_eq_false_iff_not] at h
  refine ⟨by omega, fun c hc => ?_⟩
  have := List.any_eq_false.1 h.2 c hc
  simpa using this

theorem rtiles_at (c : SC) (hl : (cells c).length ≤ 300) (w : World) (A : Option Addr) (cap : Nat) (hcap : c.f3.length ≤ cap) (hr : (k29).C w A c.f3.length c.f3) :
    Calls Try.prog 9 #[.agg #[.int .u8 c.f0, .int .i64 c.f1.f0, .int .i64 c.f1.f1, .int .i64 c.f1.f2, .int .i64 c.f1.f3, .int .i64 c.f2, .slice A c.f3.length cap]] w fun e w' => e = .returned (.bool (tilesB c)) ∧ Below w.heap.size w w' :=
  sashref06_Tiles.calls 100001 _ _ _ _ _ _ A cap c.f3 _ w hr hcap (Tiles_f c hl 100001 (by omega))

set_option maxHeartbeats 4000000 in
theorem tileAll_calls (w : World) (A : Option Addr) (n c : Nat) (l : List SC) (hr : (k29).C w A n l) (hc : n ≤ c) (hl : (cellsL l).length ≤ 2000000) :
    Calls Try.prog 3 #[.slice A n c] w fun e w' => e = .returned (.bool true) ∧ Below w.heap.size w w' := by
  have hlen := Kd.C_len hr
  subst hlen
  have HG := Aside0.mk (sashref05_GreatAll.calls 8000001 A c l _ w hr hc (GreatAll_f l hl 8000001 (by omega)))
  cases hg : greatAllB l with
  | true =>
    rw [hg] at HG
    clear hr hl hg
    go_enter Try.func3, Try.ntmps3
    go_wp2_with fail
    refine HG.out.mono ?_
    rintro e w1 ⟨rfl, hb⟩
    have HB := Aside0.mk hb
    clear hb HG
    go_wp2_with fail
    refine (awake_calls _).mono ?_
    rintro e w2 ⟨rfl, hb⟩
    have HB2 := Aside0.mk (HB.out.trans (hb.mono HB.out.size))
    clear hb
    go_wp2
    go_ret
    exact ⟨rfl, HB2.out⟩
  | false =>
    rw [hg] at HG
    obtain ⟨h20, h200⟩ := great_no hg
    have HS := Aside0.mk h200
    have HR := Aside0.mk hr
    have HT : Aside0 (Tr w.heap.size w A l.length l) := ⟨Tr.of hr⟩
    obtain ⟨n, hn⟩ : ∃ n, n = l.length := ⟨_, rfl⟩
    rw [← hn] at HG HT HR hc h20 ⊢
    have HN := Aside0.mk hn
    clear hr hl hg h200 hn
    go_enter Try.func3, Try.ntmps3
    go_wp2_with fail
    refine HG.out.mono ?_
    rintro e w1 ⟨rfl, hb⟩
    have HB := Aside0.mk hb
    clear hb HG
    go_wp2
    go_loopw [3, 4] (fun v i wr => ∃ (k : Nat) (b : Bool), k ≤ n ∧ i = .int .i64 k ∧ v = .bool b ∧ Aside0 (b = (l.take k).all tilesB ∧ Below w.heap.size w wr)) (fun _ i _ => n - (intOf i).toNat)
    case atStart => exact ⟨0, true, by omega, rfl, rfl, ⟨by simp, HB.out⟩⟩
    case round =>
      obtain ⟨k, b, hk, rfl, rfl, HA⟩ := hrel
      by_cases hlt : k < n
      · obtain ⟨ad, A6, c6, rfl, g0, g1, g2, g3, g4, g5, g6, hl6, hT6⟩ := (HT.out.below HA.out.2).get k hlt
        have htk := takeT l k (by have := HN.out; omega)
        have hmem := getT_mem l k (by have := HN.out; omega)
        generalize l.getD k z29 = x at *
        have hall : (l.take (k + 1)).all tilesB = ((l.take k).all tilesB && tilesB x) := by rw [htk, List.all_append]; simp
        have HALL := Aside0.mk hall
        have hsx := HS.out x hmem
        have HC := Aside0.mk (rtiles_at x (by omega) wr A6 c6 hl6 hT6.now)
        clear htk hall hmem hT6 hsx
        cases b with
        | false =>
          go_wp2
          go_roundw
          case rel => exact ⟨k + 1, false, by omega, by go_num, rfl, ⟨by rw [HALL.out, ← HA.out.1]; rfl, HA.out.2⟩⟩
          case measure => simp [intOf]; omega
        | true =>
          have HA2 := Aside0.mk HA.out.2
          have HA1 := Aside0.mk HA.out.1
          clear HA
          generalize tilesB x = t at *
          go_wp2_with fail
          refine HC.out.mono ?_
          rintro e w2 ⟨rfl, hb⟩
          have HB2 := Aside0.mk (HA2.out.trans (hb.mono HA2.out.size))
          clear hb HC
          go_wp2
          go_roundw
          case rel => exact ⟨k + 1, t, by omega, by go_num, rfl, ⟨by rw [HALL.out, ← HA1.out]; rfl, HB2.out⟩⟩
          case measure => simp [intOf]; omega
      · have HE : Aside0 (b = l.all tilesB) := ⟨by have := HA.out.1; rwa [List.take_of_length_le (by have := HN.out; omega)] at this⟩
        have HC := Aside0.mk (tiles_calls l wr A n c (fun x hx => by have := HS.out x hx; omega) (Kd.C_below HR.out HA.out.2))
        rw [← HE.out] at HC
        have HA2 := Aside0.mk HA.out.2
        clear HA HE
        go_wp2_with fail
        refine HC.out.mono ?_
        rintro e w2 ⟨rfl, hb⟩
        have HB2 := Aside0.mk (HA2.out.trans (hb.mono HA2.out.size))
        clear hb HC
        go_wp2_with fail
        refine (awake_calls _).mono ?_
        rintro e w3 ⟨rfl, hb⟩
        have HB3 := Aside0.mk (HB2.out.trans (hb.mono HB2.out.size))
        clear hb
        go_wp2
        go_ret
        exact ⟨rfl, HB3.out⟩
end Go.Proofs.Ytakhnigalkjhhaa
