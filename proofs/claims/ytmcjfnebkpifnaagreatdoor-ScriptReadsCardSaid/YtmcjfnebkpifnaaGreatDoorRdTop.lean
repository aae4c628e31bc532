/-
  Joined texts: RdOne, RdTop.
-/
import Derived.Test.YtmcjfnebkpifnaaGreatDoorRdRead
import Derived.Test.YtmcjfnebkpifnaaGreatDoorRdCut
import Derived.Test.YtmcjfnebkpifnaaGreatDoorFault
import Derived.Test.YtmcjfnebkpifnaaGreatDoorAsTop
/-
  script.read: what it returns.
-/
namespace Go.Proofs.YtmcjfnebkpifnaaGreatDoor
open Go.RowKit Go.Proofs.YtmcjfnebkpifnaaGreatDoorW.PrintWords Go.Proofs.YtmcjfnebkpifnaaGreatDoorW.PrintLast Go.Proofs.YtmcjfnebkpifnaaGreatDoorW.PrintMore Go.Proofs.YtmcjfnebkpifnaaGreatDoor.PScriptReads
set_option linter.unusedVariables false
set_option linter.unusedSimpArgs false

theorem RD_dec {L : List UInt8} {h : SH} {b : Bool} (hd : decB L = some h) (hb : b = true ↔ (mayB h = true ∧ lineB h = L)) : (b = true → RD L = some h) ∧ (b = false → RD L = none) := by
  unfold RD
  rw [hd]
  simp only
  constructor
  · intro h1
    rw [if_pos (hb.1 h1)]
  · intro h1
    rw [if_neg (fun h2 => by rw [hb.2 h2] at h1; cases h1)]
theorem RD_decnone {L : List UInt8} (hd : decB L = none) : RD L = none := by unfold RD; rw [hd]
/-- What script.read returns of a line. -/
def LinePost (w : World) (L : List UInt8) (e : Ending) (w' : World) : Prop :=
  ∃ (h : SH) (b : Bool), e = .returned (.tuple #[.agg #[.int .u8 h.f0, .int .i64 h.f1, .string h.f2], .bool b]) ∧ Below w.heap.size w w' ∧ Aside0 ((b = true → RD L = some h) ∧ (b = false → RD L = none))
theorem LinePost.of {w : World} {L : List UInt8} {h : SH} (hd : decB L = some h) {e : Ending} {w' : World} (k : ReadPost w L h e w') : LinePost w L e w' := by
  obtain ⟨b, q1, q2, q3⟩ := k
  exact ⟨h, b, q1, q2, ⟨RD_dec hd q3.out⟩⟩
theorem LinePost.no {w : World} {L : List UInt8} (hd : decB L = none) {e : Ending} {w' : World} (k : ReadNo w e w') : LinePost w L e w' := by
  obtain ⟨h, q1, q2⟩ := k
  exact ⟨h, false, q1, q2, ⟨nofun, fun _ => RD_decnone hd⟩⟩
theorem line1r_calls (w : World) (s : ByteArray) (hs : s.size ≤ 50000) (hT : NumT w) (hE : NumE w) (hM : MaxT w) :
    Calls Tryz.prog 26 #[.string s] w (LinePost w s.data.toList) := by
  have hl : s.data.toList.length = s.size := by simp
  have hw := wordOf_len s.data.toList
  have hr := restOf_len s.data.toList
  by_cases hk : kidx (wordOf s.data.toList) < 6
  · have hki : kI (wordOf s.data.toList) = ((kidx (wordOf s.data.toList) : Nat) : Int) := if_pos hk
    have hdb : decB s.data.toList = decN (kidx (wordOf s.data.toList)) (restOf s.data.toList) := if_pos hk
    cases h : restOf s.data.toList with
    | nil =>
      rw [h] at hdb
      have hsp : splitP s.data.toList = [wordOf s.data.toList] := by unfold splitP; rw [h]
      exact (readB_calls w s hs hT hE hM _ hsp _ hk hki _ rfl).mono fun e w' k => LinePost.of hdb k
    | cons c r =>
      rw [h] at hdb hr
      rw [decN_cons] at hdb
      have hrl : r.length ≤ 50000 := by rw [List.length_cons] at hr; omega
      have hwr := wordOf_len r
      have hrr := restOf_len r
      obtain ⟨N, E, hrq⟩ : ∃ N E, readR (bsOf (wordOf r)) = (N, E) := ⟨_, _, rfl⟩
      rw [hrq] at hdb
      simp only at hdb
      by_cases hE0 : E = 0
      · subst hE0
        rw [if_neg (by simp)] at hdb
        cases h2 : restOf r with
        | nil =>
          rw [h2] at hdb
          have hsp : splitP s.data.toList = [wordOf s.data.toList, wordOf r] := by unfold splitP; rw [h]; simp only; rw [h2]
          exact (readC1_calls w s hs hT hE hM _ _ N hrq (by omega) hsp _ hk hki _ rfl).mono fun e w' k => LinePost.of hdb k
        | cons d t =>
          rw [h2] at hdb hrr
          rw [decT_cons] at hdb
          have hts : t.length ≤ 50000 := by rw [List.length_cons] at hrr; omega
          have hsp : splitP s.data.toList = [wordOf s.data.toList, wordOf r, t] := by unfold splitP; rw [h]; simp only; rw [h2]
          by_cases h3 : kidx (wordOf s.data.toList) = 2
          · rw [if_pos h3] at hdb
            rw [h3] at hdb hki
            cases hb : bytesU t with
            | none =>
              rw [hb] at hdb
              exact (readC2_calls w s hs hT hE hM _ _ N hrq (by omega) t hts hsp hki hb).mono fun e w' k => LinePost.no hdb k
            | some x =>
              rw [hb] at hdb
              exact (readC3_calls w s hs hT hE hM _ _ N hrq (by omega) t hts hsp hki x hb (Nat.le_trans (bytesU_len hb) hts)).mono fun e w' k => LinePost.of hdb k
          · rw [if_neg h3] at hdb
            exact (readC4_calls w s hs hT hE hM _ _ N hrq (by omega) t hts hsp _ hk hki _ rfl h3).mono fun e w' k => LinePost.of hdb k
      · rw [if_pos hE0] at hdb
        cases h2 : restOf r with
        | nil =>
          have hsp : splitP s.data.toList = [wordOf s.data.toList, wordOf r] := by unfold splitP; rw [h]; simp only; rw [h2]
          exact (readC0_calls w s hs hT hE hM _ _ N E hrq (by omega) hE0 hsp _ hk hki _ rfl).mono fun e w' k => LinePost.no hdb k
        | cons d t =>
          have hsp : splitP s.data.toList = [wordOf s.data.toList, wordOf r, t] := by unfold splitP; rw [h]; simp only; rw [h2]
          exact (readD0_calls w s hs hT hE hM _ _ N E hrq (by omega) hE0 t hsp _ hk hki _ rfl).mono fun e w' k => LinePost.no hdb k
  · have hki : kI (wordOf s.data.toList) = -1 := if_neg hk
    have hdb : decB s.data.toList = none := if_neg hk
    exact (readA_calls w s hs hT hE hM _ _ rfl hki).mono fun e w' k => LinePost.no hdb k
end Go.Proofs.YtmcjfnebkpifnaaGreatDoor

/-
  script.Read: what it returns.
-/
namespace Go.Proofs.YtmcjfnebkpifnaaGreatDoor
open Go.RowKit Go.Proofs.YtmcjfnebkpifnaaGreatDoorW.PrintWords Go.Proofs.YtmcjfnebkpifnaaGreatDoorW.PrintLast Go.Proofs.YtmcjfnebkpifnaaGreatDoorW.PrintMore Go.Proofs.YtmcjfnebkpifnaaGreatDoor.PScriptReads
set_option linter.unusedVariables false
set_option linter.unusedSimpArgs false
set_option maxRecDepth 100000

def scrB : ByteArray := ⟨#[115, 99, 114, 105, 112, 116]⟩
theorem serr_in (w : World) (no at_ : Int) :
    Calls Tryz.prog 23 #[.iface 62 (.pointer (some ⟨w.heap.size, 0, none⟩)), .slice (some ⟨w.heap.size + 1, 0, none⟩) 1 1] ((w.alloc (.cells #[.int .i64 no, .int .i64 at_] 66)).alloc (.cells #[.string (⟨#[115, 99, 114, 105, 112, 116]⟩ : ByteArray)] 9)) fun e w' =>
      ∃ u p, e = .returned (.iface u p) ∧ As.EV w' (.iface u p) [[scrB]] (.fault no at_) ∧ Below w.heap.size w w' := by
  obtain ⟨W1, hW1⟩ : ∃ W1, W1 = w.alloc (.cells #[.int .i64 no, .int .i64 at_] 66) := ⟨_, rfl⟩
  obtain ⟨W2, hW2⟩ : ∃ W2, W2 = W1.alloc (.cells #[.string scrB] 9) := ⟨_, rfl⟩
  have hC : Kd.string.C W2 (some ⟨W1.heap.size, 0, none⟩) 1 [scrB] := by rw [hW2]; exact litC W1 9 [scrB] (by decide)
  have e1 : W1.heap.size = w.heap.size + 1 := by rw [hW1]; simp
  rw [e1] at hC
  have hI := in_calls 62 (.pointer (some ⟨w.heap.size, 0, none⟩)) ⟨w.heap.size + 1, 0, none⟩ 1 1 [scrB] W2 rfl (by decide) (Nat.le_refl _) (by decide) hC
  have B1 : Below w.heap.size w W1 := by rw [hW1]; exact below_alloc (Below.refl _ _) _
  have B2 : Below w.heap.size w W2 := by rw [hW2]; exact below_alloc B1 _
  have hf1 : W1.heap[w.heap.size]? = some (.cells #[.int .i64 no, .int .i64 at_] 66 (0, 0)) := by rw [hW1]; exact heap_alloc_new w _
  have hf2 : W2.heap[w.heap.size]? = some (.cells #[.int .i64 no, .int .i64 at_] 66 (0, 0)) := by rw [hW2]; exact blk_alloc hf1 _
  have e2 : ((w.alloc (.cells #[.int .i64 no, .int .i64 at_] 66)).alloc (.cells #[.string (⟨#[115, 99, 114, 105, 112, 116]⟩ : ByteArray)] 9)) = W2 := by rw [hW2, hW1]; rfl
  rw [e2]
  refine hI.mono ?_
  rintro e w' ⟨g, he, hin, hb⟩
  obtain ⟨_, v', h3, h4⟩ := hin
  exact ⟨_, _, he, ⟨g, v', _, rfl, h3, Kd.R_lower h4 (Nat.zero_le _), w.heap.size, rfl, (hb.block _ (blk_lt hf2)).trans hf2⟩, B2.trans (hb.mono B2.size)⟩
/-- What script.Read returns of a text. -/
def TxtPost (w : World) (r : Nat ⊕ List SH) (e : Ending) (w' : World) : Prop := match r with
  | .inl i => ∃ u p, e = .returned (.tuple #[.slice none 0 0, .iface u p]) ∧ As.EV w' (.iface u p) [[scrB]] (.fault 2 i) ∧ Below w.heap.size w w'
  | .inr hs => ∃ A n c, e = .returned (.tuple #[.slice A n c, .nilIface]) ∧ n = hs.length ∧ n ≤ c ∧ Kd.C k43 w' A n hs ∧ Below w.heap.size w w'
theorem infoHp : (Tryz.prog.info? 43).map (fun i => (i.zero, i.size, i.bytes)) = some (some (.agg #[.int .u8 0, .int .i64 0, .string ByteArray.empty]), 3, 32) := by kernel_rfl
theorem line_le (L : List UInt8) (j : Nat) (h : j < (cutL false false [] L).1.length) : ((cutL false false [] L).1[j]).length ≤ L.length := by
  have hj := congrArg List.length (cut_join L false false [])
  rw [List.nil_append, List.length_append] at hj
  have hm : (cutL false false [] L).1[j] ∈ (cutL false false [] L).1 := List.getElem_mem _
  have key : ∀ (ls : List (List UInt8)), ∀ a ∈ ls, a.length ≤ (ls.flatMap (fun a => a ++ [10])).length := by
    intro ls
    induction ls with
    | nil => intro a ha; cases ha
    | cons x t ih =>
      intro a ha
      rw [List.flatMap_cons, List.length_append, List.length_append]
      rcases List.mem_cons.1 ha with rfl | ha
      · omega
      · have := ih a ha; omega
  have := key _ _ hm
  omega
theorem lines_count (L : List UInt8) : (cutL false false [] L).1.length ≤ L.length := by
  have hj := congrArg List.length (cut_join L false false [])
  rw [List.nil_append, List.length_append] at hj
  have key : ∀ (ls : List (List UInt8)), ls.length ≤ (ls.flatMap (fun a => a ++ [10])).length := by
    intro ls
    induction ls with
    | nil => simp
    | cons x t ih => rw [List.flatMap_cons, List.length_append, List.length_append, List.length_cons, List.length_singleton]; omega
  have := key (cutL false false [] L).1
  omega
def gl (done : List SH) : Nat ⊕ List SH → Nat ⊕ List SH
  | .inl p => .inl p
  | .inr hs => .inr (done ++ hs)
theorem gl_step (done : List SH) (h : SH) (r : Nat ⊕ List SH) : gl done (match r with
    | .inl p => .inl p
    | .inr hs => .inr (h :: hs)) = gl (done ++ [h]) r := by
  cases r with
  | inl p => rfl
  | inr hs => simp [gl]

set_option maxHeartbeats 16000000 in
theorem sread_calls (w : World) (s : ByteArray) (hs : s.size ≤ 50000) (hT : NumT w) (hE : NumE w) (hM : MaxT w) :
    Calls Tryz.prog 10 #[.string s] w (TxtPost w (readTxt s.data.toList)) := by
  have hsl : s.data.toList.length = s.size := by simp
  have HCU := Aside0.mk (script_cut.calls _ s _ _ w (cut_f s (by omega)))
  have HLL := Aside0.mk (line_le s.data.toList)
  have hlc := lines_count s.data.toList
  have hrt : readTxt s.data.toList = readA 0 (cutL false false [] s.data.toList) := rfl
  have HT := Aside0.mk hT
  have HE := Aside0.mk hE
  have HM := Aside0.mk hM
  have HSL := Aside0.mk hsl
  unfold readA at hrt
  obtain ⟨ls, hls⟩ : ∃ ls, ls = (cutL false false [] s.data.toList).1 := ⟨_, rfl⟩
  obtain ⟨rest, hrest⟩ : ∃ rest, rest = (cutL false false [] s.data.toList).2 := ⟨_, rfl⟩
  rw [← hls, ← hrest] at HCU hrt
  rw [← hls] at hlc
  have HLE : Aside0 (∀ j (h : j < ls.length), ls[j].length ≤ 50000) := ⟨by subst hls; intro j h; have := HLL.out j h; omega⟩
  obtain ⟨res, hres⟩ : ∃ res, res = readTxt s.data.toList := ⟨_, rfl⟩
  rw [← hres] at hrt ⊢
  obtain ⟨n, hN⟩ : ∃ n, n = ls.length := ⟨_, rfl⟩
  have HN := Aside0.mk hN
  have hn : n ≤ 50000 := by omega
  have HRT := Aside0.mk hrt
  have hgt : ((s.size : Int) > 262144) = False := eq_false (by omega)
  clear hrt hres hls hrest hlc hsl HLL hT hE hM hN
  go_enter Tryz.func10, Tryz.ntmps10
  go_wp2_with fail
  with_reducible refine HCU.out.mono ?_
  rintro e w1 ⟨v0, rfl, hR1, hb1⟩
  obtain ⟨A1, n1, c1, rfl⟩ := sl_of_R hR1
  obtain ⟨hn1, hc1, hC1⟩ := Kd.R_reads' hR1
  have hn1' : n1 = n := by rw [hn1, List.length_map]; exact HN.out.symm
  subst hn1'
  have HC1 := Aside0.mk hC1
  have HB1 := Aside0.mk hb1
  have R0 : Aside0 (Kd.R k43 43 w1 w1.heap.size (fun _ => True) (.slice none 0 0) []) := ⟨Kd.R_nil _ _ _ _ _⟩
  have HD0 : Aside0 (readLs 0 ls = gl [] (readLs 0 (ls.drop 0))) := ⟨by rw [List.drop_zero]; cases readLs 0 ls <;> rfl⟩
  clear hR1 hn1 hC1 hb1 HCU
  go_wp2
  go_loopw [6, 24] (fun v i wr => ∃ j : Nat, j ≤ n1 ∧ i = .int .i64 j ∧ ∃ A' n' c' done, v = .slice A' n' c' ∧ Kd.R k43 43 wr w1.heap.size (fun _ => True) v done ∧ Below w1.heap.size w1 wr ∧ Aside0 (readLs 0 ls = gl done (readLs j (ls.drop j)) ∧ done.length = j ∧ j ≤ 2000)) (fun _ i _ => n1 - (intOf i).toNat)
  case atStart => exact ⟨0, by omega, rfl, _, _, _, [], rfl, R0.out, Below.refl _ _, ⟨HD0.out, rfl, by omega⟩⟩
  case round =>
    obtain ⟨j, hj, rfl, A', n', c', done, rfl, hR2, hB2, HJ⟩ := hrel
    have HR2 := Aside0.mk hR2
    have HB2 := Aside0.mk hB2
    have hsz := hB2.size
    have hdl : done.length ≤ 2000 := by rw [HJ.out.2.1]; exact HJ.out.2.2
    clear hR2 hB2
    by_cases hlt : j < n1
    · have hjl : j < ls.length := by rw [← HN.out]; exact hlt
      obtain ⟨ad, rfl, hcell⟩ := str_cell (Kd.C_below HC1.out HB2.out) j (by rw [List.length_map]; exact hjl)
      have hx : (ls.map bsOf).getD j ByteArray.empty = bsOf ls[j] := by
        rw [List.getD_eq_getElem?_getD, List.getElem?_map, List.getElem?_eq_getElem hjl]; rfl
      rw [hx] at hcell
      have hdr : ls.drop j = ls[j] :: ls.drop (j + 1) := List.drop_eq_getElem_cons hjl
      have hln := HLE.out j hjl
      have hJ1 := HJ.out.1
      rw [hdr] at hJ1
      generalize ls[j] = l at *
      have hbw : Below w.heap.size w wr := HB1.out.trans (HB2.out.mono HB1.out.size)
      have HRD := Aside0.mk (line1r_calls wr (bsOf l) (by rw [bs_size]; exact hln) (HT.out.below hbw) (HE.out.below hbw) (HM.out.below hbw))
      have hli : (bsOf l).data.toList = l := bs_list l
      rw [hli] at HRD
      have HBW := Aside0.mk hbw
      clear hx hdr hln hli hbw
      rw [readLs] at hJ1
      go_wp2_with fail
      with_reducible refine HRD.out.mono ?_
      rintro e w2 ⟨h, b, rfl, hb2, HO⟩
      obtain ⟨w3, hw3⟩ : ∃ w3, w3 = w2.alloc (.cells #[.int .u8 h.f0, .int .i64 h.f1, .string h.f2] 43) := ⟨_, rfl⟩
      have hb3 : Below wr.heap.size wr w3 := by rw [hw3]; exact hb2.alloc hb2.size _
      have hx3 : BoxH w3 w2.heap.size h := by rw [hw3]; exact BoxH.new w2 h
      have HB3 := Aside0.mk (HB2.out.trans (hb3.mono hsz))
      have HR3 := Aside0.mk (Kd.R_below HR2.out hb3)
      have HX3 := Aside0.mk hx3
      have HBW3 := Aside0.mk (HBW.out.trans (hb3.mono HBW.out.size))
      have HW3 := Aside0.mk hw3
      clear hb2 hb3 hx3 hw3 HRD
      go_upto_region 9 with fail
      rw [← HW3.out]
      have hs3 := HB3.out.size
      cases b with
      | false =>
        rw [HO.out.2 rfl] at hJ1
        have HRES : Aside0 (res = .inl j) := ⟨by rw [HRT.out, hJ1]; rfl⟩
        have HIN := Aside0.mk (serr_in w3 2 (j : Int))
        clear hJ1 HJ HO
        go_wp2_with fail
        with_reducible refine (new_calls 2 (j : Int) w3 (by decide)).mono ?_
        rintro e w4 ⟨rfl, rfl⟩
        go_wp2_with fail
        with_reducible refine HIN.out.mono ?_
        rintro e w5 ⟨u, p, rfl, hev, hb5⟩
        have HEV := Aside0.mk hev
        have HB5 := Aside0.mk (HBW3.out.trans (hb5.mono HBW3.out.size))
        clear hev hb5
        go_wp2
        go_ret2
        rw [HRES.out]
        exact ⟨u, p, rfl, HEV.out, HB5.out⟩
      | true =>
        rw [HO.out.1 rfl] at hJ1
        simp only at hJ1
        by_cases h2000 : j < 2000
        · rw [if_pos h2000] at hJ1
          have hJ1 := hJ1.trans (gl_step done h _)
          have hj2 : ¬ ((j : Int) ≥ 2000) := by omega
          have hj2b : decide ((2000 : Int) ≤ (j : Int)) = false := decide_eq_false (by omega)
          have HJN : Aside0 (readLs 0 ls = gl (done ++ [h]) (readLs (j + 1) (ls.drop (j + 1))) ∧ (done ++ [h]).length = j + 1 ∧ j + 1 ≤ 2000) := ⟨hJ1, by rw [List.length_append, HJ.out.2.1]; rfl, by omega⟩
          have hFM : (k43).M w3 w1.heap.size (fun _ => False) h [.int .u8 h.f0, .int .i64 h.f1, .string h.f2] := k43_mkM _ _ _ h
          obtain ⟨a0, a1, a2⟩ := HX3.out.cells
          clear hJ1 HJ HO
          go_wp2_with (at_builtin; refine Kd.R_append k43 (w0 := w1) w1.heap.size rfl (.tmp 44) (.tmp 46) 22 43 (.agg #[.int .u8 0, .int .i64 0, .string ByteArray.empty]) 32 rfl Tryz.underlying22 infoHp rfl (by decide) (by decide) (.slice A' n' c') done h [.int .u8 h.f0, .int .i64 h.f1, .string h.f2] (fun _ => True) (fun _ => False) rfl rfl hFM (fun _ h => h.elim) (fun _ _ => trivial) HR3.out HB3.out hs3 (by omega) ?_)
          intro v1 w4 ho hb4 _ _
          obtain ⟨A4, n4, c4, rfl⟩ := sl_of_R ho
          have HR4 := Aside0.mk ho
          have HB4 := Aside0.mk hb4
          clear ho hb4 a0 a1 a2 hFM
          go_wp2
          go_roundw
          case rel => exact ⟨j + 1, by omega, by go_num, _, _, _, _, rfl, HR4.out, HB4.out, HJN⟩
          case measure => simp [intOf]; omega
        · rw [if_neg h2000] at hJ1
          have HRES : Aside0 (res = .inl j) := ⟨by rw [HRT.out, hJ1]; rfl⟩
          have hj2 : ((j : Int) ≥ 2000) := by omega
          have hj2b : decide ((2000 : Int) ≤ (j : Int)) = true := decide_eq_true (by omega)
          have HIN := Aside0.mk (serr_in w3 2 (j : Int))
          clear hJ1 HJ HO
          go_wp2_with fail
          with_reducible refine (new_calls 2 (j : Int) w3 (by decide)).mono ?_
          rintro e w4 ⟨rfl, rfl⟩
          go_wp2_with fail
          with_reducible refine HIN.out.mono ?_
          rintro e w5 ⟨u, p, rfl, hev, hb5⟩
          have HEV := Aside0.mk hev
          have HB5 := Aside0.mk (HBW3.out.trans (hb5.mono HBW3.out.size))
          clear hev hb5
          go_wp2
          go_ret2
          rw [HRES.out]
          exact ⟨u, p, rfl, HEV.out, HB5.out⟩
    · have hjn : j = n1 := by omega
      have hJ1 := HJ.out.1
      rw [List.drop_eq_nil_of_le (by rw [← HN.out]; omega)] at hJ1
      have hJ2 : readLs 0 ls = .inr done := by rw [hJ1]; simp [readLs, gl]
      have HBW := Aside0.mk (HB1.out.trans (HB2.out.mono HB1.out.size))
      by_cases he : rest = []
      · have HRES : Aside0 (res = .inr done) := ⟨by rw [HRT.out, hJ2]; exact if_pos he⟩
        have e1 : (bsOf rest).toList = ([] : List UInt8) := by rw [ByteArray.toList_eq, bs_list]; exact he
        have e2 : ((bsOf rest).toList == ([] : List UInt8)) = true := beq_iff_eq.2 e1
        have e3 : ((bsOf rest).toList != ([] : List UInt8)) = false := by rw [bne, e2]; rfl
        have e4 : (bsOf rest).toList.isEmpty = true := by rw [e1]; rfl
        obtain ⟨q1, q2, q3⟩ := Kd.R_reads' HR2.out
        have HQ := Aside0.mk (And.intro q1 (And.intro q2 q3))
        clear hJ1 hJ2 HJ q1 q2 q3 he
        generalize bsOf rest = rb at *
        go_wp2
        go_ret2
        rw [HRES.out]
        exact ⟨A', n', c', rfl, HQ.out.1, HQ.out.2.1, by rw [HQ.out.1]; exact HQ.out.2.2, HBW.out⟩
      · have HRES : Aside0 (res = .inl n1) := ⟨by rw [HRT.out, hJ2]; simp only; rw [if_neg he, HN.out, Nat.zero_add]⟩
        have e1 : ¬ (bsOf rest).toList = ([] : List UInt8) := by rw [ByteArray.toList_eq, bs_list]; exact he
        have e2 : ((bsOf rest).toList == ([] : List UInt8)) = false := beq_eq_false_iff_ne.2 e1
        have e3 : ((bsOf rest).toList != ([] : List UInt8)) = true := bne_iff_ne.2 e1
        have e4 : (bsOf rest).toList.isEmpty = false := by cases h : (bsOf rest).toList with | nil => exact absurd h e1 | cons x t => rfl
        have HIN := Aside0.mk (serr_in wr 2 (n1 : Int))
        clear hJ1 hJ2 HJ he
        generalize bsOf rest = rb at *
        go_wp2_with fail
        with_reducible refine (new_calls 2 (n1 : Int) wr (by decide)).mono ?_
        rintro e w4 ⟨rfl, rfl⟩
        go_wp2_with fail
        with_reducible refine HIN.out.mono ?_
        rintro e w5 ⟨u, p, rfl, hev, hb5⟩
        have HEV := Aside0.mk hev
        have HB5 := Aside0.mk (HBW.out.trans (hb5.mono HBW.out.size))
        clear hev hb5
        go_wp2
        go_ret2
        rw [HRES.out]
        exact ⟨u, p, rfl, HEV.out, HB5.out⟩
end Go.Proofs.YtmcjfnebkpifnaaGreatDoor
