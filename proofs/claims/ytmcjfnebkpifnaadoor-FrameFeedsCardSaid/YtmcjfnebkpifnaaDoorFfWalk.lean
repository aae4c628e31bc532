/-
  FrameFeeds: the walk.
-/
import Derived.Test.YtmcjfnebkpifnaaDoorFfLaw
import Derived.Deep.RegionHeld3
namespace Go.Proofs.YtmcjfnebkpifnaaDoor
open Go.RowKit Go.Proofs.YtmcjfnebkpifnaaDoorW.PrintWords Go.Proofs.YtmcjfnebkpifnaaDoorW.PrintLast Go.Proofs.YtmcjfnebkpifnaaDoorW.PrintMore Go.Proofs.YtmcjfnebkpifnaaDoor.PFrameFeeds
set_option linter.unusedVariables false
set_option linter.unusedSimpArgs false
set_option maxRecDepth 100000

set_option maxHeartbeats 8000000 in
theorem feeds_few (w : World) (A : Option Addr) (n c : Nat) (xss : List (List Int)) (hr : (Kd.slice 5 (Kd.int .u8)).C w A n xss) (hc : n ≤ c) (hgr : sashlaw23_great.f 100 xss = some false) (h30 : n ≤ 30) (hl : ∀ x ∈ xss, x.length ≤ 500) (hby : Bytes xss.flatten) (hE : As.ErrT w) :
    Calls Tryd.prog 3 #[.slice A n c] w fun e w' => e = .returned (.bool true) ∧ Below w.heap.size w w' := by
  have hlen := Kd.C_len hr
  subst hlen
  have HGt := Aside0.mk (sashlaw23_great.calls 100 A c xss false w hr hc hgr)
  obtain ⟨n, hn⟩ : ∃ n, n = xss.length := ⟨_, rfl⟩
  rw [← hn] at HGt hr hc h30 ⊢
  have HR := Aside0.mk hr
  have HG := Aside0.mk hE
  have HBY := Aside0.mk hby
  have HN := Aside0.mk hn
  have HL := Aside0.mk hl
  clear hr hE hby hgr hn hl
  go_enter Tryd.func3, Tryd.ntmps3
  go_wp2_with fail
  with_reducible refine HGt.out.mono ?_
  rintro e w1 ⟨rfl, hd⟩
  have HB1 := Aside0.mk hd.below
  have hs1 := hd.below.size
  clear hd HGt
  go_wp2_with fail
  refine (newd_calls w1).mono ?_
  rintro e w2 ⟨rfl, rfl⟩
  have HST : Aside0 (Dec ((w1.alloc (.cells #[.slice none 0 0, .int .i64 0, .bool false] 67)).alloc (.cells #[.slice none 0 0, .int .i64 0, .bool false] 29)) (okD w1.heap.size none 0) w1.heap.size DS.init ∧
      ((w1.alloc (.cells #[.slice none 0 0, .int .i64 0, .bool false] 67)).alloc (.cells #[.slice none 0 0, .int .i64 0, .bool false] 29)).heap[w1.heap.size + 1]? = some (.cells #[.slice none 0 0, .int .i64 0, .bool false] 29 (0, 0)) ∧
      Below w1.heap.size w1 ((w1.alloc (.cells #[.slice none 0 0, .int .i64 0, .bool false] 67)).alloc (.cells #[.slice none 0 0, .int .i64 0, .bool false] 29))) := by
    refine ⟨?_, ?_, below_alloc (below_alloc (Below.refl _ _) _) _⟩
    · exact ((newd_dec w1 w1.heap.size (Nat.le_refl _)).bound.below (below_alloc (Below.refl _ _) _)).mono fun k hk => ⟨hk.1, by have := hk.2; simp at this; omega, nofun⟩
    · have := heap_alloc_new (w1.alloc (.cells #[.slice none 0 0, .int .i64 0, .bool false] 67)) (.cells #[.slice none 0 0, .int .i64 0, .bool false] 29)
      simpa using this
  go_wp2
  go_loopw [5] (fun i wr => ∃ (k : Nat) (st : DS) (d : RD) (A2 : Option Addr) (n2 c2 : Nat), k ≤ n ∧ i = .int .i64 k ∧ n2 ≤ c2 ∧ Aside0 (Dec wr (okD w1.heap.size A2 n2) w1.heap.size st) ∧ Aside0 (wr.heap[w1.heap.size + 1]? = some (.cells #[.slice A2 n2 c2, .int .i64 d.fed, .bool d.over] 29 (0, 0))) ∧
      Aside0 ((Kd.int .u8).C wr A2 n2 d.bytes) ∧ Aside0 (Below w1.heap.size w1 wr) ∧ Aside0 (FRel st d ∧ st.bytes.length ≤ st.fed ∧ st.fed ≤ 500 * k)) (fun i _ => n - (intOf i).toNat)
  case atStart => exact ⟨0, DS.init, ⟨[], 0, false⟩, none, 0, 0, by omega, rfl, Nat.le_refl _, ⟨HST.out.1⟩, ⟨HST.out.2.1⟩, ⟨Kd.C_nil _ _⟩, ⟨HST.out.2.2⟩, ⟨⟨rfl, fun _ => ⟨rfl, rfl, Wt.nil⟩, nofun⟩, by simp [DS.init], by simp [DS.init]⟩⟩
  case round =>
    obtain ⟨k, st, d, A2, n2, c2, hk, rfl, hc2, HD, HT, HC2, HBW, HF⟩ := hrel
    have hszw := HBW.out.size
    by_cases hlt : k < n
    · obtain ⟨ad, A3, c3, rfl, hcell, hc3, hr3⟩ := rows_at (Kd.C_below HR.out HB1.out) k hlt
      obtain ⟨xs, hxs⟩ : ∃ xs, xs = xss.getD k [] := ⟨_, rfl⟩
      have hmem : xs ∈ xss := by
        have hkl : k < xss.length := by rw [← HN.out]; exact hlt
        rw [hxs, List.getD_eq_getElem?_getD, List.getElem?_eq_getElem hkl]; exact List.getElem_mem hkl
      have hx5 : xs.length ≤ 500 := HL.out xs hmem
      have hbx : Bytes xs := fun b hb => HBY.out b (List.mem_flatten.2 ⟨xs, hmem, hb⟩)
      rw [← hxs] at hcell hc3 hr3
      have cellP : Aside0 (∀ w', Below w1.heap.size w1 w' → w'.cell? (ad.add k) = some (.slice A3 xs.length c3)) := ⟨fun w' hb => pw_cell_below hb hcell⟩
      have rowP : Aside0 (∀ w', Below w1.heap.size w1 w' → (Kd.int .u8).C w' A3 xs.length xs) := ⟨fun w' hb => Kd.C_below hr3 hb⟩
      have hcr := cellP.out wr HBW.out
      have HBX := Aside0.mk hbx
      obtain ⟨hrel, hbf, hf5⟩ := HF.out
      have hlx : [xs].flatten = xs := by simp
      have hL := lit_rows (d := Kd.int .u8) (e0 := 5) wr 27 [.slice A3 xs.length c3] [xs] (by simp) (fun i p hp => by
        match i, hp with
        | 0, hp =>
          obtain rfl : xs = p := by simpa using hp
          exact ⟨A3, c3, rfl, hc3, rowP.out wr HBW.out⟩)
      have hb0 : Below wr.heap.size wr (wr.alloc (.cells #[.slice A3 xs.length c3] 27)) := below_alloc (Below.refl _ _) _
      have hokF : ∀ j, wr.heap.size ≤ j → okD w1.heap.size A2 n2 j := fun j hj => ⟨by omega, by have := blk_lt HT.out; omega, fun a ha hn => by
        have h2 := HC2.out
        rw [ha] at h2
        have := Kd.C_lt h2 hn (by decide)
        omega⟩
      have hFD := dstep_calls _ (okD w1.heap.size A2 n2) w1.heap.size st _ 1 1 [xs] (HD.out.below hb0) (fun j hj => hokF j (Nat.le_trans hb0.size hj)) (by omega) (by omega) (by omega) hL (Nat.le_refl _) (by decide) (by rw [hlx]; omega) (by rw [hlx]; exact hbx)
      rw [hlx] at hFD
      have hag := step_agree st d xs hrel HD.out.2.1 hbx
      have hsz := stepD_sz st xs hbf
      have hnl := stepD_len st xs
      obtain ⟨r, hr⟩ : ∃ r, r = stepD st xs := ⟨_, rfl⟩
      obtain ⟨q, hq⟩ : ∃ q, q = stepR d xs := ⟨_, rfl⟩
      rw [← hr] at hFD hag hsz hnl
      rw [← hq] at hag
      obtain ⟨g1, g2, g3, g4, g5⟩ := hag
      rw [g1] at hFD hnl
      have HFD := Aside0.mk hFD
      have HQ := Aside0.mk hq
      have HRL := Aside0.mk (And.intro g1 (And.intro g2 (And.intro g3 (And.intro g4 g5))))
      have HSZ := Aside0.mk hsz
      have HLIT := Aside0.mk hb0
      clear hFD hq hr hsz g1 g2 g3 g4 g5 hL hb0 hcell hr3 hbx hmem hxs hlx hrel hokF
      go_wp2_with fail
      with_reducible refine HFD.out.mono ?_
      rintro e w8 ⟨Av, cv, ev, rfl, hD8, hK8, hcv, hCv, hEv, hAv⟩
      have hb8 : Below w1.heap.size w1 w8 := (HBW.out.trans (HLIT.out.mono hszw)).trans (hK8.toBelow (Nat.le_trans hszw HLIT.out.size) (fun j hj => hj.1))
      have ht8 : w8.heap[w1.heap.size + 1]? = some (.cells #[.slice A2 n2 c2, .int .i64 d.fed, .bool d.over] 29 (0, 0)) := (hK8.block _ (Nat.lt_of_lt_of_le (blk_lt HT.out) HLIT.out.size) (fun h => h.2.1 rfl)).trans ((HLIT.out.block _ (blk_lt HT.out)).trans HT.out)
      have hC8 : (Kd.int .u8).C w8 A2 n2 d.bytes := C_okD (Kd.C_below HC2.out HLIT.out) hK8
      have cells : ∀ w', Below w8.heap.size w8 w' → w'.cell? ⟨w1.heap.size + 1, 0, none⟩ = some (.slice A2 n2 c2) ∧ w'.cell? ⟨w1.heap.size + 1, 1, none⟩ = some (.int .i64 d.fed) ∧ w'.cell? ⟨w1.heap.size + 1, 2, none⟩ = some (.bool d.over) ∧ w'.cell? (ad.add k) = some (.slice A3 xs.length c3) := fun w' hb => by
        have h := (hb.block _ (blk_lt ht8)).trans ht8
        exact ⟨(blk_cell h 0).trans rfl, (blk_cell h 1).trans rfl, (blk_cell h 2).trans rfl, cellP.out w' (hb8.trans (hb.mono hb8.size))⟩
      have hBd : Bytes st.bytes := HD.out.2.1
      have hrel := HF.out.1
      have HRF : Aside0 (∀ w', Below w8.heap.size w8 w' → Calls Tryd.prog 13 #[.agg #[.slice A2 n2 c2, .int .i64 d.fed, .bool d.over], .slice A3 xs.length c3] w' fun e w'' => ∃ A4 n4 c4 Aw cw, e = .returned (.tuple #[.agg #[.slice A4 n4 c4, .int .i64 q.d.fed, .bool q.d.over], .slice Aw q.frames.length cw, .int .i64 q.no, .int .i64 q.at_]) ∧ Below w8.heap.size w8 w'' ∧
          (w''.cell? ⟨w1.heap.size + 1, 0, none⟩ = some (.slice A2 n2 c2) ∧ w''.cell? ⟨w1.heap.size + 1, 1, none⟩ = some (.int .i64 d.fed) ∧ w''.cell? ⟨w1.heap.size + 1, 2, none⟩ = some (.bool d.over) ∧ w''.cell? (ad.add k) = some (.slice A3 xs.length c3)) ∧
          Aside0 (Below w'.heap.size w' w'' ∧ (Kd.int .u8).C w'' A4 n4 q.d.bytes ∧ n4 ≤ c4 ∧ (∀ a', A4 = some a' → 0 < n4 → w'.heap.size ≤ a'.block) ∧ q.frames.length ≤ cw ∧ (k63).C w'' Aw q.frames.length q.frames ∧ (∀ a', Aw = some a' → 0 < q.frames.length → w'.heap.size ≤ a'.block))) := ⟨fun w' hb => by
        have hlb : d.bytes.length ≤ 15000 ∧ (d.over = false → 0 ≤ d.fed ∧ d.fed ≤ 1000000000) := by
          cases ho : d.over with
          | true => rw [hrel.2.2 ho]; exact ⟨by simp, nofun⟩
          | false => obtain ⟨q1, q2, _⟩ := hrel.2.1 ho; rw [q1, q2]; exact ⟨by omega, fun _ => by omega⟩
        have hby2 : Bytes (d.bytes ++ xs) := fun b hb => by
          rcases List.mem_append.1 hb with h | h
          · cases ho : d.over with
            | true => rw [hrel.2.2 ho] at h; cases h
            | false => rw [(hrel.2.1 ho).1] at h; exact hBd b h
          · exact HBX.out b h
        have h := rstep_calls w' A2 n2 c2 d A3 xs.length c3 xs (Kd.C_below hC8 hb) (rowP.out w' (hb8.trans (hb.mono hb8.size))) hc2 hc3 hlb.2 (by rw [List.length_append]; omega) hby2 hrel.2.2
        rw [← HQ.out] at h
        exact h.mono fun e w'' ⟨h1, A4, n4, c4, Aw, cw, h2, h3, h4, h5, h6, h7, h8⟩ => ⟨A4, n4, c4, Aw, cw, h2, hb.trans (h1.mono hb.size), cells _ (hb.trans (h1.mono hb.size)), ⟨h1, h3, h4, h5, h6, h7, h8⟩⟩⟩
      obtain ⟨a0, a1, a2, a3⟩ := cells w8.drew (below_drew (Below.refl _ _))
      have HB8 := Aside0.mk hb8
      have HT8 := Aside0.mk ht8
      have HC8 := Aside0.mk hC8
      have HD8 := Aside0.mk hD8
      have HEV := Aside0.mk hEv
      have HCV := Aside0.mk (And.intro hCv hAv)
      have HBB : Aside0 (Below w8.heap.size w8 w8.drew) := ⟨below_drew (Below.refl _ _)⟩
      have CE := Aside0.mk cells
      have HRFa := Aside0.mk (HRF.out w8.drew HBB.out)
      have HRFb := Aside0.mk ((HRF.out (w8.alloc (.cells #[.slice none 0 0, .int .i64 0, .bool false] 29)).drew (below_drew (below_alloc (Below.refl _ _) _))).mono fun e w'' ⟨A4, n4, c4, Aw, cw, h1, h2, h3, h4⟩ => by
        have hz : w''.heap[w8.heap.size]? = some (.cells #[.slice none 0 0, .int .i64 0, .bool false] 29 (0, 0)) := (h4.out.1.block w8.heap.size (show w8.heap.size < (w8.alloc _).heap.size by simp)).trans (show (w8.alloc (.cells #[.slice none 0 0, .int .i64 0, .bool false] 29)).heap[w8.heap.size]? = _ from heap_alloc_new w8 _)
        exact (⟨A4, n4, c4, Aw, cw, h1, h2, h3, h4, ⟨(blk_cell hz 0).trans rfl, (blk_cell hz 1).trans rfl, (blk_cell hz 2).trans rfl⟩, ⟨blk_frozen hz 0, blk_frozen hz 1, blk_frozen hz 2⟩, ⟨hz⟩⟩ : ∃ A4 n4 c4 Aw cw, e = .returned (.tuple #[.agg #[.slice A4 n4 c4, .int .i64 q.d.fed, .bool q.d.over], .slice Aw q.frames.length cw, .int .i64 q.no, .int .i64 q.at_]) ∧ Below w8.heap.size w8 w'' ∧
          (w''.cell? ⟨w1.heap.size + 1, 0, none⟩ = some (.slice A2 n2 c2) ∧ w''.cell? ⟨w1.heap.size + 1, 1, none⟩ = some (.int .i64 d.fed) ∧ w''.cell? ⟨w1.heap.size + 1, 2, none⟩ = some (.bool d.over) ∧ w''.cell? (ad.add k) = some (.slice A3 xs.length c3)) ∧
          Aside0 (Below (w8.alloc (.cells #[.slice none 0 0, .int .i64 0, .bool false] 29)).drew.heap.size (w8.alloc (.cells #[.slice none 0 0, .int .i64 0, .bool false] 29)).drew w'' ∧ (Kd.int .u8).C w'' A4 n4 q.d.bytes ∧ n4 ≤ c4 ∧ (∀ a', A4 = some a' → 0 < n4 → (w8.alloc (.cells #[.slice none 0 0, .int .i64 0, .bool false] 29)).drew.heap.size ≤ a'.block) ∧ q.frames.length ≤ cw ∧ (k63).C w'' Aw q.frames.length q.frames ∧ (∀ a', Aw = some a' → 0 < q.frames.length → (w8.alloc (.cells #[.slice none 0 0, .int .i64 0, .bool false] 29)).drew.heap.size ≤ a'.block)) ∧
          (w''.cell? ⟨w8.heap.size, 0, none⟩ = some (.slice none 0 0) ∧ w''.cell? ⟨w8.heap.size, 1, none⟩ = some (.int .i64 0) ∧ w''.cell? ⟨w8.heap.size, 2, none⟩ = some (.bool false)) ∧
          (w''.frozen? ⟨w8.heap.size, 0, none⟩ = false ∧ w''.frozen? ⟨w8.heap.size, 1, none⟩ = false ∧ w''.frozen? ⟨w8.heap.size, 2, none⟩ = false) ∧ Aside0 (w''.heap[w8.heap.size]? = some (.cells #[.slice none 0 0, .int .i64 0, .bool false] 29 (0, 0)))))
      obtain ⟨d0, d1, d2, d3⟩ := cells (w8.alloc (.cells #[.slice none 0 0, .int .i64 0, .bool false] 29)).drew (below_drew (below_alloc (Below.refl _ _) _))
      clear hb8 ht8 hC8 hD8 hEv hCv hAv hK8 hBd hrel HFD cells
      go_upto_region 8 with (fail)
      go_cut [8, 9, 10, 11] from 19 to 94 (fun s8 s9 s10 s11 wc => ∃ (t8 : Nat) (A4 : Option Addr) (n4 c4 : Nat) (Aw : Option Addr) (cw : Nat), s8 = .pointer (some ⟨t8, 0, none⟩) ∧ w8.heap.size ≤ t8 ∧ s9 = .slice Aw q.frames.length cw ∧ s10 = .int .i64 q.no ∧ s11 = .int .i64 q.at_ ∧ n4 ≤ c4 ∧ q.frames.length ≤ cw ∧
        Aside0 (wc.heap[t8]? = some (.cells #[.slice A4 n4 c4, .int .i64 q.d.fed, .bool q.d.over] 29 (0, 0)) ∧ Below w8.heap.size w8 wc ∧ (Kd.int .u8).C wc A4 n4 q.d.bytes ∧ (∀ a', A4 = some a' → 0 < n4 → w8.heap.size ≤ a'.block) ∧ (k63).C wc Aw q.frames.length q.frames ∧ (∀ a', Aw = some a' → 0 < q.frames.length → w8.heap.size ≤ a'.block)))
      case first =>
        go_region_held3 (fun w' => w'.cell? ⟨w1.heap.size + 1, 0, none⟩ = some (.slice A2 n2 c2) ∧ w'.cell? ⟨w1.heap.size + 1, 1, none⟩ = some (.int .i64 d.fed) ∧ w'.cell? ⟨w1.heap.size + 1, 2, none⟩ = some (.bool d.over) ∧ w'.cell? (ad.add k) = some (.slice A3 xs.length c3)) (first | exact ⟨a0, a1, a2, a3⟩ | exact ⟨b0, b1, b2, b3⟩ | exact ⟨d0, d1, d2, d3⟩ | exact CE.out _ (below_alloc (by assumption) _) | exact CE.out _ (((hb9.setCell (Nat.le_refl _) _).setCell (Nat.le_refl _) _).setCell (Nat.le_refl _) _)) (first
          | (go_at_call 13; with_reducible refine HRFa.out.mono ?_; rintro e w9 ⟨A4, n4, c4, Aw, cw, rfl, hb9, ⟨b0, b1, b2, b3⟩, HRES⟩)
          | (go_at_call 13; with_reducible refine HRFb.out.mono ?_; rintro e w9 ⟨A4, n4, c4, Aw, cw, rfl, hb9, ⟨b0, b1, b2, b3⟩, HRES, ⟨z0, z1, z2⟩, ⟨y0, y1, y2⟩, HZ9⟩))
        · go_wp2_with fail
          go_meet
          exact ⟨w9.heap.size, A4, n4, c4, Aw, cw, rfl, hb9.size, rfl, rfl, rfl, HRES.out.2.2.1, HRES.out.2.2.2.2.1, ⟨heap_alloc_new _ _, below_alloc hb9 _, Kd.C_alloc HRES.out.2.1 _, HRES.out.2.2.2.1, Kd.C_alloc HRES.out.2.2.2.2.2.1 _, HRES.out.2.2.2.2.2.2⟩⟩
        · have hne : ∀ B : Option Addr, ∀ m : Nat, (∀ a', B = some a' → 0 < m → (w8.alloc (.cells #[.slice none 0 0, .int .i64 0, .bool false] 29)).drew.heap.size ≤ a'.block) → (∀ a, B = some a → 0 < m → a.block ≠ w8.heap.size) ∧ (∀ a, B = some a → 0 < m → w8.heap.size ≤ a.block) := fun B m h => by
            have e : (w8.alloc (.cells #[.slice none 0 0, .int .i64 0, .bool false] 29)).drew.heap.size = w8.heap.size + 1 := by show (w8.alloc _).heap.size = _; simp
            rw [e] at h
            exact ⟨fun a ha hm => by have := h a ha hm; omega, fun a ha hm => by have := h a ha hm; omega⟩
          have n1 := hne A4 n4 HRES.out.2.2.2.1
          have n2' := hne Aw _ HRES.out.2.2.2.2.2.2
          go_wp2_with fail
          go_meet
          exact ⟨w8.heap.size, A4, n4, c4, Aw, cw, rfl, Nat.le_refl _, rfl, rfl, rfl, HRES.out.2.2.1, HRES.out.2.2.2.2.1, ⟨blk_set (blk_set (blk_set HZ9.out 0 _) 1 _) 2 _, ((hb9.setCell (Nat.le_refl _) _).setCell (Nat.le_refl _) _).setCell (Nat.le_refl _) _, C_away _ _ (C_away _ _ (C_away _ _ HRES.out.2.1 n1.1) n1.1) n1.1, n1.2, CF_away _ _ (CF_away _ _ (CF_away _ _ HRES.out.2.2.2.2.2.1 n2'.1) n2'.1) n2'.1, n2'.2⟩⟩
      case rest =>
        obtain ⟨t8, A4, n4, c4, Aw, cw, rfl, ht8, rfl, rfl, rfl, hc4, hcw, HC⟩ := hcut
        obtain ⟨hz8, hbc, hC4, hA4, hCw, hAw⟩ := HC.out
        have ht4c := (hbc.block _ (blk_lt HT8.out)).trans HT8.out
        have hlt4 : w1.heap.size + 1 < w8.heap.size := blk_lt HT8.out
        have x0 : wc.cell? ⟨t8, 0, none⟩ = some (.slice A4 n4 c4) := (blk_cell hz8 0).trans rfl
        have x1 : wc.cell? ⟨t8, 1, none⟩ = some (.int .i64 q.d.fed) := (blk_cell hz8 1).trans rfl
        have x2 : wc.cell? ⟨t8, 2, none⟩ = some (.bool q.d.over) := (blk_cell hz8 2).trans rfl
        have y0 : wc.cell? ⟨w1.heap.size + 1, 0, none⟩ = some (.slice A2 n2 c2) := (blk_cell ht4c 0).trans rfl
        have y1 : wc.cell? ⟨w1.heap.size + 1, 1, none⟩ = some (.int .i64 d.fed) := (blk_cell ht4c 1).trans rfl
        have y2 : wc.cell? ⟨w1.heap.size + 1, 2, none⟩ = some (.bool d.over) := (blk_cell ht4c 2).trans rfl
        have z0 : wc.frozen? ⟨w1.heap.size + 1, 0, none⟩ = false := blk_frozen ht4c 0
        have z1 : wc.frozen? ⟨w1.heap.size + 1, 1, none⟩ = false := blk_frozen ht4c 1
        have z2 : wc.frozen? ⟨w1.heap.size + 1, 2, none⟩ = false := blk_frozen ht4c 2
        obtain ⟨wd, hwd⟩ : ∃ wd, wd = ((wc.setCell ⟨w1.heap.size + 1, 0, none⟩ (.slice A4 n4 c4)).setCell ⟨w1.heap.size + 1, 1, none⟩ (.int .i64 q.d.fed)).setCell ⟨w1.heap.size + 1, 2, none⟩ (.bool q.d.over) := ⟨_, rfl⟩
        have hKd : Keeps (fun j => j = w1.heap.size + 1) w8 wd := by
          rw [hwd]
          have k0 : Keeps (fun j => j = w1.heap.size + 1) w8 wc := (Keeps.refl _ _).below hbc
          exact ((k0.setCell (ok := fun j => j = w1.heap.size + 1) (p := ⟨w1.heap.size + 1, 0, none⟩) (show w1.heap.size + 1 = w1.heap.size + 1 from rfl) _).setCell (ok := fun j => j = w1.heap.size + 1) (p := ⟨w1.heap.size + 1, 1, none⟩) (show w1.heap.size + 1 = w1.heap.size + 1 from rfl) _).setCell (ok := fun j => j = w1.heap.size + 1) (p := ⟨w1.heap.size + 1, 2, none⟩) (show w1.heap.size + 1 = w1.heap.size + 1 from rfl) _
        have HWD := Aside0.mk hwd
        have hTd : wd.heap[w1.heap.size + 1]? = some (.cells #[.slice A4 n4 c4, .int .i64 q.d.fed, .bool q.d.over] 29 (0, 0)) := by
          rw [hwd]; exact blk_set (blk_set (blk_set ht4c 0 _) 1 _) 2 _
        have hDd : Dec wd (okD w1.heap.size A4 n4) w1.heap.size r.1 := by
          rw [hwd]
          exact (((HD8.out.okD hbc hA4).set _ _ (fun j hj => hj.2.1)).set _ _ (fun j hj => hj.2.1)).set _ _ (fun j hj => hj.2.1)
        have hneA : ∀ a, A4 = some a → 0 < n4 → a.block ≠ w1.heap.size + 1 := fun a ha hn => by have := hA4 a ha hn; omega
        have hneW : ∀ a, Aw = some a → 0 < q.frames.length → a.block ≠ w1.heap.size + 1 := fun a ha hn => by have := hAw a ha hn; omega
        have hneV : ∀ a, Av = some a → 0 < q.frames.length → a.block ≠ w1.heap.size + 1 := fun a ha hn => (HCV.out.2 a ha hn).2.1
        have hCd : (Kd.int .u8).C wd A4 n4 q.d.bytes := by
          rw [hwd]; exact C_away _ _ (C_away _ _ (C_away _ _ hC4 hneA) hneA) hneA
        have hCwd : (k63).C wd Aw q.frames.length q.frames := by
          rw [hwd]; exact CF_away _ _ (CF_away _ _ (CF_away _ _ hCw hneW) hneW) hneW
        have hCvd : (k63).C wd Av q.frames.length q.frames := by
          rw [hwd]; exact CF_away _ _ (CF_away _ _ (CF_away _ _ (Kd.C_below HCV.out.1 hbc) hneV) hneV) hneV
        have hBd : Below w1.heap.size w1 wd := HB8.out.trans (hKd.toBelow HB8.out.size (fun j hj => by omega))
        have hEd : EvOK wd ev r.2.2 := (HEV.out.keeps (hKd.mono (fun j hj => by have := blk_lt HT.out; have := HLIT.out.size; omega))).ev
        have hGd : As.ErrT wd := ((HG.out.below HB1.out).below hBd)
        have hsame := HRL.out
        obtain ⟨g1, g2, g3, g4, g5⟩ := hsame
        have hwt := rel_waits _ _ g5
        have hn4 : q.d.bytes.length = n4 := Kd.C_len hCd
        rw [hn4] at hwt
        have hAT := atB_calls wd ev r.2.2 hEd hGd
        rw [g3] at hAT
        have cells : ∀ w', Below wd.heap.size wd w' → w'.cell? ⟨w1.heap.size + 1, 0, none⟩ = some (.slice A4 n4 c4) ∧ w'.cell? ⟨w1.heap.size + 1, 2, none⟩ = some (.bool q.d.over) := fun w' hb => by
          have h := (hb.block _ (blk_lt hTd)).trans hTd
          exact ⟨(blk_cell h 0).trans rfl, (blk_cell h 2).trans rfl⟩
        have hfl : q.frames.length ≤ 500 := by omega
        have HSM : Aside0 (∀ w', Below wd.heap.size wd w' → Calls Tryd.prog 15 #[.slice Av q.frames.length cv, .slice Aw q.frames.length cw] w' fun e w'' => e = .returned (.bool true) ∧ Below wd.heap.size wd w'' ∧ w''.cell? ⟨w1.heap.size + 1, 0, none⟩ = some (.slice A4 n4 c4) ∧ w''.cell? ⟨w1.heap.size + 1, 2, none⟩ = some (.bool q.d.over)) :=
          ⟨fun w' hb => (sashref23_Same.calls 20000 Av cv q.frames Aw cw q.frames true w' (Kd.C_below hCvd hb) hcv (Kd.C_below hCwd hb) hcw (same_self q.frames (by omega) 20000 (by omega))).mono fun e w'' ⟨h1, h2⟩ => ⟨h1, hb.trans (h2.below.mono hb.size), cells _ (hb.trans (h2.below.mono hb.size))⟩⟩
        have HCO : Aside0 (∀ w', Below wd.heap.size wd w' → Calls Tryd.prog 16 #[ev] w' fun e w'' => e = .returned (.int .i64 q.no) ∧ Below wd.heap.size wd w'' ∧ w''.cell? ⟨w1.heap.size + 1, 0, none⟩ = some (.slice A4 n4 c4) ∧ w''.cell? ⟨w1.heap.size + 1, 2, none⟩ = some (.bool q.d.over)) :=
          ⟨fun w' hb => (codeE_calls w' ev r.2.2 (hEd.below hb) (hGd.below hb)).mono fun e w'' ⟨h1, h2⟩ => ⟨by rw [h1, g2], hb.trans (h2.mono hb.size), cells _ (hb.trans (h2.mono hb.size))⟩⟩
        have HOV : Aside0 (∀ w', Below wd.heap.size wd w' → Calls Tryd.prog 17 #[.pointer (some ⟨w1.heap.size, 0, none⟩)] w' fun e w'' => e = .returned (.bool q.d.over) ∧ Below wd.heap.size wd w'' ∧ w''.cell? ⟨w1.heap.size + 1, 0, none⟩ = some (.slice A4 n4 c4) ∧ w''.cell? ⟨w1.heap.size + 1, 2, none⟩ = some (.bool q.d.over)) :=
          ⟨fun w' hb => (over_calls w' _ _ _ (hDd.below hb)).mono fun e w'' ⟨h1, h2⟩ => by subst h2; exact ⟨by rw [h1, g5.1], hb, cells _ hb⟩⟩
        have HWT : Aside0 (∀ w', Below wd.heap.size wd w' → Calls Tryd.prog 18 #[.pointer (some ⟨w1.heap.size, 0, none⟩)] w' fun e w'' => e = .returned (.int .i64 (n4 : Int)) ∧ Below wd.heap.size wd w'' ∧ w''.cell? ⟨w1.heap.size + 1, 0, none⟩ = some (.slice A4 n4 c4) ∧ w''.cell? ⟨w1.heap.size + 1, 2, none⟩ = some (.bool q.d.over)) :=
          ⟨fun w' hb => (waits_calls w' _ _ _ (hDd.below hb)).mono fun e w'' ⟨h1, h2⟩ => by subst h2; exact ⟨by rw [h1, hwt], hb, cells _ hb⟩⟩
        have HAT := Aside0.mk hAT
        have HEND : Aside0 (Dec wd (okD w1.heap.size A4 n4) w1.heap.size r.1 ∧ wd.heap[w1.heap.size + 1]? = some (.cells #[.slice A4 n4 c4, .int .i64 q.d.fed, .bool q.d.over] 29 (0, 0)) ∧ (Kd.int .u8).C wd A4 n4 q.d.bytes ∧ Below w1.heap.size w1 wd ∧ FRel r.1 q.d) := ⟨hDd, hTd, hCd, hBd, g5⟩
        have hcase : (r.2.2.isSome = false ∧ ev = .nilIface ∧ q.no = 0) ∨ (r.2.2.isSome = true ∧ (∃ t x, ev = .iface t x) ∧ q.no ≠ 0) := by
          rcases hEd.nil_iff with ⟨h1, h2⟩ | ⟨h1, h2⟩
          · exact Or.inl ⟨by rw [h1]; rfl, h2, g4.1 h1⟩
          · exact Or.inr ⟨h1, h2, fun h => by rw [g4.2 h] at h1; cases h1⟩
        have CE2 := Aside0.mk cells
        clear hz8 hbc hC4 hA4 hCw hAw ht4c hwd hKd hTd hDd hneA hneW hneV hCd hCwd hCvd hBd hEd hGd g1 g2 g3 g4 g5 hwt hn4 hAT cells hfl
        rcases hcase with ⟨hs, rfl, hno⟩ | ⟨hs, ⟨et, ex, rfl⟩, hno⟩
        · rw [hs] at HAT
          rw [hno] at HCO ⊢
          go_wp2_with fail
          rw [← HWD.out]
          with_reducible refine HAT.out.mono ?_
          rintro e we ⟨rfl, hbe⟩
          obtain ⟨a0, a2⟩ := CE2.out we.drew (below_drew hbe)
          have hbed : Below wd.heap.size wd we.drew := below_drew hbe
          go_upto_region 11 with (fail)
          go_region_held3 (fun w' => w'.cell? ⟨w1.heap.size + 1, 0, none⟩ = some (.slice A4 n4 c4) ∧ w'.cell? ⟨w1.heap.size + 1, 2, none⟩ = some (.bool q.d.over)) (first | exact ⟨a0, a2⟩ | exact ⟨b0, b2⟩ | exact ⟨d0, d2⟩ | exact ⟨f0, f2⟩ | exact ⟨h0, h2⟩) (first
            | (go_at_call 15; with_reducible refine (HSM.out _ (by assumption)).mono ?_; rintro e wf ⟨rfl, hb1, b0, b2⟩)
            | (go_at_call 16; with_reducible refine (HCO.out _ (by assumption)).mono ?_; rintro e wg ⟨rfl, hb2, d0, d2⟩)
            | (go_at_call 17; with_reducible refine (HOV.out _ (by assumption)).mono ?_; rintro e wh ⟨rfl, hb3, f0, f2⟩)
            | (go_at_call 18; with_reducible refine (HWT.out _ (by assumption)).mono ?_; rintro e wi ⟨rfl, hb4, h0, h2⟩))
          go_wp2
          go_roundw
          case rel => exact ⟨k + 1, r.1, q.d, A4, n4, c4, by omega, by go_num, hc4, ⟨HEND.out.1.below hb4⟩, ⟨(hb4.block _ (blk_lt HEND.out.2.1)).trans HEND.out.2.1⟩, ⟨Kd.C_below HEND.out.2.2.1 hb4⟩, ⟨HEND.out.2.2.2.1.trans (hb4.mono HEND.out.2.2.2.1.size)⟩, ⟨HEND.out.2.2.2.2, HSZ.out.1, by have := HSZ.out.2; push_cast; omega⟩⟩
          case measure => simp [intOf]; omega
        · rw [hs] at HAT
          have hno1 : (q.no == 0) = false := beq_eq_false_iff_ne.2 hno
          have hno2 : decide (q.no = 0) = false := decide_eq_false hno
          have hno3 : (q.no != 0) = true := by simp [hno]
          go_wp2_with fail
          rw [← HWD.out]
          with_reducible refine HAT.out.mono ?_
          rintro e we ⟨rfl, hbe⟩
          obtain ⟨a0, a2⟩ := CE2.out we.drew (below_drew hbe)
          have hbed : Below wd.heap.size wd we.drew := below_drew hbe
          go_upto_region 11 with (fail)
          go_region_held3 (fun w' => w'.cell? ⟨w1.heap.size + 1, 0, none⟩ = some (.slice A4 n4 c4) ∧ w'.cell? ⟨w1.heap.size + 1, 2, none⟩ = some (.bool q.d.over)) (first | exact ⟨a0, a2⟩ | exact ⟨b0, b2⟩ | exact ⟨d0, d2⟩ | exact ⟨f0, f2⟩ | exact ⟨h0, h2⟩) (first
            | (go_at_call 15; with_reducible refine (HSM.out _ (by assumption)).mono ?_; rintro e wf ⟨rfl, hb1, b0, b2⟩)
            | (go_at_call 16; with_reducible refine (HCO.out _ (by assumption)).mono ?_; rintro e wg ⟨rfl, hb2, d0, d2⟩)
            | (go_at_call 17; with_reducible refine (HOV.out _ (by assumption)).mono ?_; rintro e wh ⟨rfl, hb3, f0, f2⟩)
            | (go_at_call 18; with_reducible refine (HWT.out _ (by assumption)).mono ?_; rintro e wi ⟨rfl, hb4, h0, h2⟩))
          go_wp2
          go_roundw
          case rel => exact ⟨k + 1, r.1, q.d, A4, n4, c4, by omega, by go_num, hc4, ⟨HEND.out.1.below hb4⟩, ⟨(hb4.block _ (blk_lt HEND.out.2.1)).trans HEND.out.2.1⟩, ⟨Kd.C_below HEND.out.2.2.1 hb4⟩, ⟨HEND.out.2.2.2.1.trans (hb4.mono HEND.out.2.2.2.1.size)⟩, ⟨HEND.out.2.2.2.2, HSZ.out.1, by have := HSZ.out.2; push_cast; omega⟩⟩
          case measure => simp [intOf]; omega
    · have HFIN : Aside0 (Below w.heap.size w wr) := ⟨HB1.out.trans (HBW.out.mono hs1)⟩
      have hkn : k = n := by omega
      clear HD HT HC2 HF
      go_wp2_with fail
      refine (awake_calls _).mono ?_
      rintro e wz ⟨rfl, hb⟩
      have HZ := Aside0.mk (HFIN.out.trans (hb.mono HFIN.out.size))
      clear hb
      go_wp2
      go_ret
      exact ⟨rfl, HZ.out⟩
end Go.Proofs.YtmcjfnebkpifnaaDoor
