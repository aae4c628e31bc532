/-
  ScriptJoins: what the statement returns.
-/
import Derived.Test.YtmcjfnebkpifnaaDoorScPrint
namespace Go.Proofs.YtmcjfnebkpifnaaDoor
open Go.RowKit Go.Proofs.YtmcjfnebkpifnaaDoorW.PrintWords Go.Proofs.YtmcjfnebkpifnaaDoorW.PrintLast Go.Proofs.YtmcjfnebkpifnaaDoorW.PrintMore Go.Proofs.YtmcjfnebkpifnaaDoor.PScriptJoins
set_option linter.unusedVariables false
set_option linter.unusedSimpArgs false
set_option maxRecDepth 100000

theorem great_loop (l : List SH) (h40 : l.length ≤ 40) : ∀ (d j : Nat), j + d = l.length → ∃ r, sashref25_Great.l0 (d + 1) l (l.length : Int) (j : Int) = some r ∧ (r = false → ∀ x ∈ l.drop j, x.f2.size ≤ 500)
  | 0, j, h => by
    refine ⟨false, ?_, fun _ => by rw [List.drop_eq_nil_of_le (by omega)]; intro x hx; cases hx⟩
    unfold sashref25_Great.l0
    rw [if_neg (by omega)]
  | d + 1, j, h => by
    obtain ⟨r, h1, h2⟩ := great_loop l h40 d (j + 1) (by omega)
    have hj : j < l.length := by omega
    have hx : (rd_T56 l (j : Int)) = l[j] := by
      unfold rd_T56
      rw [List.getD_eq_getElem?_getD, show ((j : Int)).toNat = j by omega, List.getElem?_eq_getElem hj]
      rfl
    have hw : wrap64 ((j : Int) + 1) = ((j + 1 : Nat) : Int) := by
      unfold wrap64; omega
    unfold sashref25_Great.l0
    rw [if_pos (by omega), if_pos (by omega), if_pos (by omega), hx]
    by_cases hs : ((l[j].f2).size : Int) > 500
    · exact ⟨true, by rw [if_pos hs], fun h => by cases h⟩
    · refine ⟨r, by rw [if_neg hs, hw, h1], fun hr x hx => ?_⟩
      rw [List.drop_eq_getElem_cons hj] at hx
      rcases List.mem_cons.1 hx with e | e
      · subst e; omega
      · exact h2 hr x e
theorem great_f (l : List SH) : ∃ r, sashref25_Great.f (l.length + 1) l = some r ∧ (r = false → l.length ≤ 40 ∧ ∀ x ∈ l, x.f2.size ≤ 500) := by
  unfold sashref25_Great.f
  by_cases h : (l.length : Int) > 40
  · exact ⟨true, by rw [if_pos h], fun h => by cases h⟩
  · obtain ⟨r, h1, h2⟩ := great_loop l (by omega) l.length 0 (by omega)
    exact ⟨r, by rw [if_neg h]; exact h1, fun hr => ⟨by omega, h2 hr⟩⟩
theorem great_calls (A : Option Addr) (c : Nat) (l : List SH) (w : World) (hr : Kd.C k56 w A l.length l) (hc : l.length ≤ c) :
    ∃ r, (Calls Tryd.prog 20 #[.slice A l.length c] w fun e w' => e = .returned (.bool r) ∧ Below w.heap.size w w') ∧ (r = false → l.length ≤ 40 ∧ ∀ x ∈ l, x.f2.size ≤ 500) := by
  obtain ⟨r, h1, h2⟩ := great_f l
  exact ⟨r, (sashref25_Great.calls (l.length + 1) A c l r w hr hc h1).mono fun e w' ⟨q1, q2⟩ => ⟨q1, q2.below⟩, h2⟩

theorem hap_KM {W : World} {B : Nat} {ok : Nat → Prop} (x : SH) (cs : List Value) (h : (k56).K W x cs) : (k56).M W B ok x cs := by
  obtain rfl := k56_open h
  exact k56_mkM W B ok x
theorem infoH : (Tryd.prog.info? 56).map (fun i => (i.zero, i.size, i.bytes)) = some (some (.agg #[.int .u8 0, .int .i64 0, .string ByteArray.empty]), 3, 32) := by kernel_rfl
theorem all_app (a b : List SH) : (a ++ b).all mayB = (a.all mayB && b.all mayB) := List.all_append

set_option maxHeartbeats 8000000 in
theorem joins_calls (A1 A2 : Option Addr) (c1 c2 : Nat) (l1 l2 : List SH) (w : World) (hr1 : Kd.C k56 w A1 l1.length l1) (hc1 : l1.length ≤ c1) (hr2 : Kd.C k56 w A2 l2.length l2) (hc2 : l2.length ≤ c2) (hT : NumT w) :
    Calls Tryd.prog 7 #[.slice A1 l1.length c1, .slice A2 l2.length c2] w fun e w' => e = .returned (.bool true) ∧ Below w.heap.size w w' := by
  obtain ⟨r1, hG1, hS1⟩ := great_calls A1 c1 l1 w hr1 hc1
  obtain ⟨n1, hn1⟩ : ∃ n, n = l1.length := ⟨_, rfl⟩
  obtain ⟨n2, hn2⟩ : ∃ n, n = l2.length := ⟨_, rfl⟩
  have HG1 := Aside0.mk hG1
  have HT := Aside0.mk hT
  have HAW := Aside0.mk (fun (W : World) (k : NumT W) => awake_calls W k)
  have HR1 := Aside0.mk hr1
  have HR2 := Aside0.mk hr2
  have HC2 := Aside0.mk hc2
  have HN1 := Aside0.mk hn1
  have HN2 := Aside0.mk hn2
  have HGR := Aside0.mk (fun (W : World) (h : Kd.C k56 W A2 l2.length l2) => great_calls A2 c2 l2 W h hc2)
  rw [← hn1] at HG1 HR1 hc1 ⊢
  rw [← hn2] at HR2 HGR HC2 hc2 ⊢
  clear hT hr1 hr2 hn1 hn2 hG1
  cases r1 with
  | true =>
    clear hS1 HGR
    go_enter Tryd.func7, Tryd.ntmps7
    go_wp2_with fail
    with_reducible refine HG1.out.mono ?_
    rintro e w1 ⟨rfl, hb⟩
    have HB := Aside0.mk hb
    clear hb
    go_wp2_with fail
    with_reducible refine (HAW.out _ (HT.out.below HB.out)).mono ?_
    rintro e w2 ⟨rfl, hb⟩
    have HB2 := Aside0.mk (HB.out.trans (hb.mono HB.out.size))
    clear hb
    go_wp2
    go_ret
    exact ⟨rfl, HB2.out⟩
  | false =>
    have HS1 := Aside0.mk (hS1 rfl)
    clear hS1
    go_enter Tryd.func7, Tryd.ntmps7
    go_wp2_with fail
    with_reducible refine HG1.out.mono ?_
    rintro e w1 ⟨rfl, hb⟩
    have HB := Aside0.mk hb
    have HC1w := Aside0.mk (Kd.C_below HR1.out hb)
    have HC2w := Aside0.mk (Kd.C_below HR2.out hb)
    clear hb
    obtain ⟨r2, hG2, hS2⟩ := HGR.out w1 HC2w.out
    have HG2 := Aside0.mk hG2
    clear hG2 HGR HG1
    cases r2 with
    | true =>
      clear hS2
      go_wp2_with fail
      with_reducible refine HG2.out.mono ?_
      rintro e w2 ⟨rfl, hb⟩
      have HB2 := Aside0.mk (HB.out.trans (hb.mono HB.out.size))
      clear hb
      go_wp2_with fail
      with_reducible refine (HAW.out _ (HT.out.below HB2.out)).mono ?_
      rintro e w3 ⟨rfl, hb⟩
      have HB3 := Aside0.mk (HB2.out.trans (hb.mono HB2.out.size))
      clear hb
      go_wp2
      go_ret
      exact ⟨rfl, HB3.out⟩
    | false =>
      have HS2 := Aside0.mk (hS2 rfl)
      clear hS2
      go_wp2_with fail
      with_reducible refine HG2.out.mono ?_
      rintro e w2 ⟨rfl, hb⟩
      have HB2 := Aside0.mk (HB.out.trans (hb.mono HB.out.size))
      have HK1 := Aside0.mk (Kd.C_below HR1.out HB2.out)
      clear hb HG2 HC1w HC2w
      have hs1 := HS1.out
      have hs2 := HS2.out
      rw [← HN1.out] at hs1
      have h40a := hs1.1
      have h40b := hs2.1
      have HP1 := Aside0.mk (fun (W : World) (h : Kd.C k56 W A1 l1.length l1) (k : NumT W) => print_calls A1 c1 l1 W h (by have := HS1.out.1; omega) HS1.out.2 k)
      have HP2 := Aside0.mk (fun (W : World) (h : Kd.C k56 W A2 l2.length l2) (k : NumT W) => print_calls A2 c2 l2 W h (by have := HS2.out.1; have := HN2.out; omega) HS2.out.2 k)
      have HP3 := Aside0.mk (fun (W : World) (A : Option Addr) (c : Nat) (h : Kd.C k56 W A (l1 ++ l2).length (l1 ++ l2)) (k : NumT W) => print_calls A c (l1 ++ l2) W h (by rw [List.length_append]; have := HS1.out.1; have := HS2.out.1; have := HN2.out; omega) (fun x hx => (List.mem_append.1 hx).elim (HS1.out.2 x) (HS2.out.2 x)) k)
      have HTA := Aside0.mk (textL_app l1 l2)
      have HL1 := Aside0.mk (textL_len l1 HS1.out.2)
      have HL2 := Aside0.mk (textL_len l2 HS2.out.2)
      rw [all_app] at HP3
      obtain ⟨all, hall⟩ : ∃ all, all = l1 ++ l2 := ⟨_, rfl⟩
      rw [← hall] at HP3 HTA
      have HAE := Aside0.mk hall
      clear hall
      rw [← HN1.out] at HP1 HL1
      rw [← HN2.out] at HP2 HL2
      generalize textL all = t3 at *
      generalize textL l1 = t1 at *
      generalize textL l2 = t2 at *
      generalize l1.all mayB = m1 at *
      generalize l2.all mayB = m2 at *
      clear hs1 hs2
      obtain ⟨sa, hsa⟩ : ∃ s, s = bsOf (if m1 = true then t1 else []) := ⟨_, rfl⟩
      obtain ⟨ea, hea⟩ : ∃ s : Int, s = (if m1 = true then 0 else 1) := ⟨_, rfl⟩
      rw [← hsa, ← hea] at HP1
      obtain ⟨sb, hsb⟩ : ∃ s, s = bsOf (if m2 = true then t2 else []) := ⟨_, rfl⟩
      obtain ⟨eb, heb⟩ : ∃ s : Int, s = (if m2 = true then 0 else 1) := ⟨_, rfl⟩
      rw [← hsb, ← heb] at HP2
      obtain ⟨sc, hsc⟩ : ∃ s, s = bsOf (if (m1 && m2) = true then t3 else []) := ⟨_, rfl⟩
      obtain ⟨ec, hec⟩ : ∃ s : Int, s = (if (m1 && m2) = true then 0 else 1) := ⟨_, rfl⟩
      rw [← hsc, ← hec] at HP3
      have HSA := Aside0.mk hsa
      have HSB := Aside0.mk hsb
      have HSC := Aside0.mk hsc
      have HEA := Aside0.mk hea
      have HEB := Aside0.mk heb
      have HEC := Aside0.mk hec
      clear hsa hea hsb heb hsc hec
      go_wp2_with fail
      with_reducible refine (HP1.out _ HK1.out (HT.out.below HB2.out)).mono ?_
      rintro e w3 ⟨rfl, hb⟩
      have HB3 := Aside0.mk (HB2.out.trans (hb.mono HB2.out.size))
      have HK2 := Aside0.mk (Kd.C_below HR2.out HB3.out)
      clear hb
      go_wp2_with fail
      with_reducible refine (HP2.out _ HK2.out (HT.out.below HB3.out)).mono ?_
      rintro e w4 ⟨rfl, hb⟩
      have HB4 := Aside0.mk (HB3.out.trans (hb.mono HB3.out.size))
      have HV1 := Aside0.mk (Kd.C_below HR1.out HB4.out)
      have HV2 := Aside0.mk (Kd.C_below HR2.out HB4.out)
      have hs4 := HB4.out.size
      clear hb HK1 HK2
      go_wp2_with ((with_reducible refine gate_dst (N := 29) rfl ?_); refine Aside0.out ?zz)
      refine ⟨?_⟩
      refine Kd.R_lit k56 (w0 := w4) w4.heap.size 56 ?hg (N := 29) ?hd (xs := ([] : List SH)) (inner := []) (ok := fun _ => True) (okp := fun _ => False) ?hr ?hp (fun _ _ => trivial) trivial (Below.refl _ _) (Nat.le_refl _) (by simp) ?_
      case hd => rfl
      case hg => rfl
      case hp => exact Reps.none _ _
      case hr => first | (go_simp; done) | (go_simp; rfl)
      intro v6 w6 ho hb6 hg_ hnew_
      obtain ⟨A3, n3, c3, rfl⟩ := sl_of_R ho
      have RO := Aside0.mk ho
      have HB6 := Aside0.mk hb6
      have hs6 := hb6.size
      have HV6 := Aside0.mk (Kd.C_below HV1.out hb6)
      clear ho hb6 hg_ hnew_
      go_wp2_with (at_builtin; refine Kd.R_append_rows k56 (w0 := w4) w4.heap.size rfl (.tmp 29) (.tmp 30) 49 56 (.agg #[.int .u8 0, .int .i64 0, .string ByteArray.empty]) 32 rfl Tryd.underlying49 infoH rfl (by decide) (by decide) (.slice A3 n3 c3) [] l1 A1 n1 c1 (fun _ => True) (fun _ => False) rfl rfl RO.out HV6.out hap_KM (fun _ h => h.elim) (fun _ _ => trivial) HB6.out hs6 (by simp only [List.length_nil]; omega) ?_)
      intro v7 w7 ho hb7 hg_ hnew_
      obtain ⟨A4, n4, c4, rfl⟩ := sl_of_R ho
      replace ho : (k56).R 56 w7 w4.heap.size (fun _ => True) (.slice A4 n4 c4) l1 := ho
      have RO7 := Aside0.mk ho
      have HB7 := Aside0.mk hb7
      have hs7 := hb7.size
      have HN7 := Aside0.mk (Kd.C_below HV2.out hb7)
      clear ho hg_ hnew_ RO HV6 HB6 hb7 hs6
      go_wp2_with (at_builtin; refine Kd.R_append_rows k56 (w0 := w4) w4.heap.size rfl (.tmp 31) (.tmp 32) 49 56 (.agg #[.int .u8 0, .int .i64 0, .string ByteArray.empty]) 32 rfl Tryd.underlying49 infoH rfl (by decide) (by decide) (.slice A4 n4 c4) l1 l2 A2 n2 c2 (fun _ => True) (fun _ => False) rfl rfl RO7.out HN7.out hap_KM (fun _ h => h.elim) (fun _ _ => trivial) HB7.out hs7 (by have := HN1.out; omega) ?_)
      intro v8 w8 ho hb8 hg_ hnew_
      obtain ⟨A5, n5, c5, rfl⟩ := sl_of_R ho
      obtain ⟨hn5, hc5, hC5⟩ := Kd.R_reads' ho
      rw [← HAE.out] at hn5 hC5
      subst hn5
      have HALL := Aside0.mk hC5
      have HB8 := Aside0.mk (HB4.out.trans (hb8.mono hs4))
      clear ho hg_ hnew_ RO7 HB7 HN7 hb8 hs7 hC5 HV1 HV2
      go_wp2_with fail
      with_reducible refine (HP3.out _ _ _ HALL.out (HT.out.below HB8.out)).mono ?_
      rintro e w9 ⟨rfl, hb⟩
      have HB9 := Aside0.mk (HB8.out.trans (hb.mono HB8.out.size))
      clear hb hs4
      cases m1 with
      | false =>
        obtain rfl : ea = 1 := HEA.out
        obtain rfl : ec = 1 := HEC.out
        clear HEA HEB HEC HSA HSB HSC
        go_wp2_with fail
        with_reducible refine (HAW.out _ (HT.out.below HB9.out)).mono ?_
        rintro e w10 ⟨rfl, hb⟩
        have HB10 := Aside0.mk (HB9.out.trans (hb.mono HB9.out.size))
        clear hb
        go_wp2
        go_ret
        exact ⟨rfl, HB10.out⟩
      | true =>
        cases m2 with
        | false =>
          obtain rfl : ea = 0 := HEA.out
          obtain rfl : eb = 1 := HEB.out
          obtain rfl : ec = 1 := HEC.out
          clear HEA HEB HEC HSA HSB HSC
          go_wp2_with fail
          with_reducible refine (HAW.out _ (HT.out.below HB9.out)).mono ?_
          rintro e w10 ⟨rfl, hb⟩
          have HB10 := Aside0.mk (HB9.out.trans (hb.mono HB9.out.size))
          clear hb
          go_wp2
          go_ret
          exact ⟨rfl, HB10.out⟩
        | true =>
          obtain rfl : ea = 0 := HEA.out
          obtain rfl : eb = 0 := HEB.out
          obtain rfl : ec = 0 := HEC.out
          have e1 : sa = bsOf t1 := HSA.out
          have e2 : sb = bsOf t2 := HSB.out
          have e3 : sc = bsOf t3 := HSC.out
          have hsz : (9223372036854775807 < sa.size + sb.size) = False := eq_false (by rw [e1, e2, bs_size, bs_size]; have := HL1.out; have := HL2.out; omega)
          have hq : (sc.toList == (sa ++ sb).toList) = true := by rw [e1, e2, e3, HTA.out, bs_app]; simp
          clear HEA HEB HEC HSA HSB HSC e1 e2 e3
          go_wp2_with fail
          with_reducible refine (HAW.out _ (HT.out.below HB9.out)).mono ?_
          rintro e w10 ⟨rfl, hb⟩
          have HB10 := Aside0.mk (HB9.out.trans (hb.mono HB9.out.size))
          clear hb
          go_wp2
          go_ret
          exact ⟨rfl, HB10.out⟩
end Go.Proofs.YtmcjfnebkpifnaaDoor
