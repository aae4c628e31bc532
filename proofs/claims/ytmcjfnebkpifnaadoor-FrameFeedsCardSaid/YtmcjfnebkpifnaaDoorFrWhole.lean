/-
  The frame, if it is whole.
-/
import Derived.Test.YtmcjfnebkpifnaaDoorFrLen
import Derived.StillTailTactics
namespace Go.Proofs.YtmcjfnebkpifnaaDoor
open Go.RowKit Go.Proofs.YtmcjfnebkpifnaaDoorW.PrintWords Go.Proofs.YtmcjfnebkpifnaaDoorW.PrintLast Go.Proofs.YtmcjfnebkpifnaaDoorW.PrintMore
set_option linter.unusedVariables false
set_option maxRecDepth 100000
set_option linter.unusedSimpArgs false

/-- Is the frame whole? -/
def frIs (bs : List Int) : Prop := 5 ≤ bs.length ∧ 5 + frNum bs ≤ bs.length

set_option maxHeartbeats 2000000 in
theorem whole_no (w : World) (g : Nat) (A : Option Addr) (n c : Nat) (bs : List Int) (hc : w.cell? ⟨g, 0, none⟩ = some (.slice A n c)) (hg : g < w.heap.size) (hnc : n ≤ c) (hr : (Kd.int .u8).C w A n bs) (hb : Bytes bs) (hw : ¬ frIs bs) (hlb : bs.length ≤ 100000) :
    Calls Tryd.prog 51 #[.pointer (some ⟨g, 0, none⟩)] w fun e w' => e = .returned (.tuple #[.agg #[.int .u8 0, .string ⟨#[]⟩], .bool false]) ∧ Below w.heap.size w w' := by
  have hlen : bs.length = n := Kd.C_len hr
  have hc1 : ∀ o, (w.alloc o).cell? ⟨g, 0, none⟩ = some (.slice A n c) := fun o => (World.cell?_alloc_lt _ _ ⟨g, 0, none⟩ hg).trans hc
  by_cases h5 : n < 5
  · clear hr hw hlen
    go_enter Tryd.func51, Tryd.ntmps51
    go_wp2_with (go_at_call 64; refine (length_short _ g A n c (hc1 _) h5).mono ?_; rintro e w' ⟨rfl, rfl⟩)
    exact bodyPost_ret (v := .tuple #[.agg #[.int .u8 0, .string ⟨#[]⟩], .bool false]) (by simp [results, Tryd.results51, go_sem]) rfl ⟨rfl, by repeat (first | exact Below.refl _ _ | apply below_alloc | refine Below.setCell ?_ (by simp) _)⟩
  · have HR := Aside0.mk hr
    have hbd := frNum_bd hb
    have hq : (n : Int) < 5 + frNum bs := by
      unfold frIs at hw
      omega
    have HLA : ∀ o, Aside0 (Calls Tryd.prog 64 #[.pointer (some ⟨g, 0, none⟩)] (w.alloc o) fun e w' => e = .returned (.tuple #[.int .i64 (frNum bs), .bool true]) ∧ w.alloc o = w') := fun o => ⟨length_long _ g A n c bs (hc1 _) (by omega) hnc (Kd.C_alloc HR.out _) hb⟩
    have hqb : decide ((n : Int) < 5 + frNum bs) = true := decide_eq_true hq
    have hb0 := hbd.1
    have hb1 := hbd.2
    clear hr hw hlen h5 hbd hq
    go_enter Tryd.func51, Tryd.ntmps51
    go_wp2_with (go_at_call 64; refine (HLA _).out.mono ?_; rintro e w' ⟨rfl, rfl⟩)
    exact bodyPost_ret (v := .tuple #[.agg #[.int .u8 0, .string ⟨#[]⟩], .bool false]) (by simp [results, Tryd.results51, go_sem]) rfl ⟨rfl, by repeat (first | exact Below.refl _ _ | apply below_alloc | refine Below.setCell ?_ (by simp) _)⟩

set_option maxHeartbeats 2000000 in
theorem whole_yes (w : World) (g : Nat) (A : Option Addr) (n c : Nat) (bs : List Int) (hc : w.cell? ⟨g, 0, none⟩ = some (.slice A n c)) (hg : g < w.heap.size) (hnc : n ≤ c) (hr : (Kd.int .u8).C w A n bs) (hb : Bytes bs) (hw : frIs bs) (hlb : bs.length ≤ 100000) :
    Calls Tryd.prog 51 #[.pointer (some ⟨g, 0, none⟩)] w fun e w' => e = .returned (.tuple #[.agg #[.int .u8 (bs.getD 0 0), .string (strOfNums (bs.drop 5))], .bool true]) ∧ Below w.heap.size w w' := by
  have hlen : bs.length = n := Kd.C_len hr
  have hc1 : ∀ o, (w.alloc o).cell? ⟨g, 0, none⟩ = some (.slice A n c) := fun o => (World.cell?_alloc_lt _ _ ⟨g, 0, none⟩ hg).trans hc
  have hbd := frNum_bd hb
  have hq : ¬ (n : Int) < 5 + frNum bs := by
    have := hw.2
    omega
  have h5 : 5 ≤ n := by have := hw.1; omega
  have HLA : ∀ o, Aside0 (Calls Tryd.prog 64 #[.pointer (some ⟨g, 0, none⟩)] (w.alloc o) fun e w' => e = .returned (.tuple #[.int .i64 (frNum bs), .bool true]) ∧ w.alloc o = w') := fun o => ⟨length_long _ g A n c bs (hc1 _) h5 hnc (Kd.C_alloc hr _) hb⟩
  have hqb : decide ((n : Int) < 5 + frNum bs) = false := decide_eq_false hq
  have hb0 := hbd.1
  have hb1 := hbd.2
  obtain ⟨ad, rfl, hcell⟩ := Kd.at_int hr 0 (by omega) (by omega)
  have e2 : ad.add (0 : Int).toNat = ad := by unfold Addr.add; simp
  have e4 : rd bs 0 = bs.getD 0 0 := rfl
  rw [e2, e4] at hcell
  have hadl : ad.block < w.heap.size := World.block_lt_of_cell? w ad hcell
  obtain ⟨b0, hb0'⟩ : ∃ b0, b0 = bs.getD 0 0 := ⟨_, rfl⟩
  rw [← hb0'] at hcell ⊢
  have hD := Kd.C_drop (m := 5) (c := c) (by rw [hlen]; exact hr) (by omega) (by omega)
  obtain ⟨X, hX⟩ : ∃ X, X = (if c = 5 then some ad else (some ad).map (·.add (5 * (Kd.int .u8).sz))) := ⟨_, rfl⟩
  rw [← hX] at hD
  obtain ⟨xs, hxs⟩ : ∃ xs, xs = bs.drop 5 := ⟨_, rfl⟩
  rw [← hxs] at hD ⊢
  obtain ⟨m, hm⟩ : ∃ m, m = xs.length := ⟨_, rfl⟩
  have hm5 : m + 5 = n := by rw [hm, hxs, List.length_drop]; omega
  rw [← hm] at hD
  have hcv : (convert 27 9 (.slice X m (c - 5))).run Tryd.prog (w.alloc (.cells #[.int .u8 0, .string ⟨#[]⟩] 63)).drew = .ok (.string (strOfNums xs)) (w.alloc (.cells #[.int .u8 0, .string ⟨#[]⟩] 63)).drew := Kd.C_string Tryd.underlying27 Tryd.underlying5 Tryd.underlying9 (Kd.C_drew (Kd.C_alloc hD _))
  have hsl : ∀ w' : World, (Instr.slice 27 (.slice (some ad) n c) (some (.int .i64 5)) none none).run Tryd.prog w' = .ok (.slice X m (c - 5)) w' := by
    intro w'
    obtain ⟨i0, hi, hz⟩ := Option.map_eq_some_iff.1 (show (Tryd.prog.info? 5).map (fun i => i.size) = some 1 by kernel_rfl)
    have h := cut_from (P := Tryd.prog) 27 5 .i64 Tryd.underlying27 hi 1 hz (some ad) n c 5 (by omega) (by omega) w'
    have e1 : n - (5 : Int).toNat = m := by show n - 5 = m; omega
    rw [e1] at h
    rw [hX]
    exact h
  clear hr hw hlen hbd hq hD hX hxs hm hb0'
  go_enter Tryd.func51, Tryd.ntmps51
  go_wp2_with (go_at_call 64; refine (HLA _).out.mono ?_; rintro e w' ⟨rfl, rfl⟩)
  have q1 : (w.alloc (.cells #[.int .u8 0, .string ⟨#[]⟩] 63)).cell? ad = some (.int .u8 b0) := (World.cell?_alloc_lt _ _ ad hadl).trans hcell
  have q2 := hc1 (.cells #[.int .u8 0, .string ⟨#[]⟩] 63)
  have q3 : (w.alloc (.cells #[.int .u8 0, .string ⟨#[]⟩] 63)).cell? ⟨w.heap.size, 0, none⟩ = some (.int .u8 0) := by simp
  have q4 : (w.alloc (.cells #[.int .u8 0, .string ⟨#[]⟩] 63)).cell? ⟨w.heap.size, 1, none⟩ = some (.string ⟨#[]⟩) := by simp
  have q5 : (w.alloc (.cells #[.int .u8 0, .string ⟨#[]⟩] 63)).frozen? ⟨w.heap.size, 0, none⟩ = false := by simp
  have q6 : (w.alloc (.cells #[.int .u8 0, .string ⟨#[]⟩] 63)).frozen? ⟨w.heap.size, 1, none⟩ = false := by simp
  have hn0 : (0 : Int) < (n : Int) := by omega
  have hn0' : 0 < n := by omega
  have q7 : Aside0 (Below w.heap.size w (w.alloc (.cells #[.int .u8 0, .string ⟨#[]⟩] 63))) := ⟨below_alloc (Below.refl _ _) _⟩
  clear HLA hc1 hcell hc
  generalize w.alloc (.cells #[.int .u8 0, .string ⟨#[]⟩] 63) = W at *
  go_still_tail 13, (by kernel_rfl)
  change wpList _ _ _ _ _ W.drew
  clear hcv hsl
  go_wp2
  exact bodyPost_ret (v := .tuple #[.agg #[.int .u8 b0, .string (strOfNums xs)], .bool true]) (by simp [results, Tryd.results51, go_sem, q3, q4]) rfl ⟨rfl, ((q7.out.setCell (p := ⟨w.heap.size, 0, none⟩) (Nat.le_refl _) _).setCell (p := ⟨w.heap.size, 1, none⟩) (Nat.le_refl _) _).drew⟩
end Go.Proofs.YtmcjfnebkpifnaaDoor
