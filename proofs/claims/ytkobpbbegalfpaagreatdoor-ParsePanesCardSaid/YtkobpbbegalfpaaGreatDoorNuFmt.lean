/-
  Joined texts: PsAll, PsTot, NuFmt.
-/
import Derived.Test.YtkobpbbegalfpaaGreatDoorPsKids
import Derived.Test.YtkobpbbegalfpaaGreatDoorPsBase
import Derived.Handy
import Derived.Laws.BitsLemmas
import Derived.Lib.ConvBytes
import Derived.Laws.IdiomStrings
/-
 The reader takes a cell: what comes of it, at every text.
-/
namespace Go.Proofs.YtkobpbbegalfpaaGreatDoor
open Go.RowKit Go.Proofs.YtkobpbbegalfpaaGreatDoorW.PrintWords Go.Proofs.YtkobpbbegalfpaaGreatDoorW.PrintLast Go.Proofs.YtkobpbbegalfpaaGreatDoorW.PrintMore Go.Proofs.YtkobpbbegalfpaaGreatDoor.PParseBodies
set_option linter.unusedVariables false
set_option linter.unusedSimpArgs false
set_option maxRecDepth 100000

theorem numP_ge {hd : ByteArray → Int × Int × Int} {s : ByteArray} {i : Nat} {p : Int × Nat} (h : numP hd s i = .ok p) : i ≤ p.2 := by
 unfold numP at h
 split at h
 ·cases h; exact Nat.le_add_right _ _
 ·cases h
theorem rectP_gt {hd : ByteArray → Int × Int × Int} {s : ByteArray} {i : Nat} {r : (Int × Int × Int × Int) × Nat} (h : rectP hd s i = .ok r) : i < r.2 := by
 unfold rectP at h
 cases h0 : numP hd s i with
 | error q => rw [h0] at h; cases h
 | ok p0 =>
  rw [h0] at h
  have l0 := numP_ge h0
  cases h1 : eatP s p0.2 120 with
  | error q => simp only [bind, Except.bind, h1] at h; cases h
  | ok a1 =>
   simp only [bind, Except.bind, h1] at h
   obtain ⟨e1, _⟩ := eatP_le (by decide) h1
   cases h2 : numP hd s a1 with
   | error q => rw [h2] at h; cases h
   | ok p2 =>
    simp only [h2] at h
    have l2 := numP_ge h2
    cases h3 : eatP s p2.2 44 with
    | error q => rw [h3] at h; cases h
    | ok a3 =>
     simp only [h3] at h
     obtain ⟨e3, _⟩ := eatP_le (by decide) h3
     cases h4 : numP hd s a3 with
     | error q => rw [h4] at h; cases h
     | ok p4 =>
      simp only [h4] at h
      have l4 := numP_ge h4
      cases h5 : eatP s p4.2 44 with
      | error q => rw [h5] at h; cases h
      | ok a5 =>
       simp only [h5] at h
       obtain ⟨e5, _⟩ := eatP_le (by decide) h5
       cases h6 : numP hd s a5 with
       | error q => rw [h6] at h; cases h
       | ok p6 =>
        simp only [h6] at h
        have l6 := numP_ge h6
        cases h
        show i < p6.2
        omega
theorem places (hd : ByteArray → Int × Int × Int) (hb : HeadB hd) (s : ByteArray) : ∀ k,
  (∀ i deep p, i ≤ s.size → cellP hd s k i deep = some (.ok p) → i < p.2 ∧ p.2 ≤ s.size) ∧
  (∀ c deep i p, i < s.size → ¬ c = 0 → kidsP hd s k c deep i = some (.ok p) → i < p.2 ∧ p.2 ≤ s.size) ∧
  (∀ c deep out j p, j ≤ s.size → ¬ c = 0 → loopP hd s k c deep out j = some (.ok p) → j < p.2 ∧ p.2 ≤ s.size) := by
 intro k
 induction k with
 | zero => exact ⟨fun i deep p _ h => (by rw [cellP] at h; cases h), fun c deep i p _ _ h => (by rw [kidsP] at h; cases h), fun c deep out j p _ _ h => (by rw [loopP] at h; cases h)⟩
 | succ k ih =>
  obtain ⟨ih1, ih2, ih3⟩ := ih
  refine ⟨?_, ?_, ?_⟩
  ·intro i deep p hi h
   rw [cellP] at h
   cases hr : rectP hd s i with
   | error q => rw [hr] at h; cases h
   | ok r =>
    rw [hr] at h
    simp only at h
    have g1 := rectP_gt hr
    have g2 := rectP_le hb hi hr
    by_cases h1 : aheadI s r.2 = 123
    ·rw [if_pos h1] at h
     have hl := aheadI_lt (by decide) h1
     cases hk : kidsP hd s k 125 deep r.2 with
     | none => rw [hk] at h; cases h
     | some x =>
      rw [hk] at h
      cases x with
      | error q => cases h
      | ok q =>
       have := ih2 125 deep r.2 q hl (by decide) hk
       cases h
       exact ⟨by show i < q.2; omega, this.2⟩
    ·rw [if_neg h1] at h
     by_cases h2 : aheadI s r.2 = 91
     ·rw [if_pos h2] at h
      have hl := aheadI_lt (by decide) h2
      cases hk : kidsP hd s k 93 deep r.2 with
      | none => rw [hk] at h; cases h
      | some x =>
       rw [hk] at h
       cases x with
       | error q => cases h
       | ok q =>
        have := ih2 93 deep r.2 q hl (by decide) hk
        cases h
        exact ⟨by show i < q.2; omega, this.2⟩
     ·rw [if_neg h2] at h
      cases he : eatP s r.2 44 with
      | error q => rw [he] at h; cases h
      | ok a =>
       rw [he] at h
       simp only at h
       obtain ⟨e1, e2, _⟩ := eatP_le (by decide) he
       cases hn : numP hd s a with
       | error q => rw [hn] at h; cases h
       | ok n =>
        rw [hn] at h
        have n1 := numP_ge hn
        have n2 := numP_le hb (by omega) hn
        cases h
        exact ⟨by show i < n.2; omega, n2⟩
  ·intro c deep i p hi hc h
   rw [kidsP] at h
   by_cases hdp : 1000 ≤ deep
   ·rw [if_pos hdp] at h; cases h
   ·rw [if_neg hdp] at h
    cases hk : cellP hd s k (i + 1) (deep + 1) with
    | none => rw [hk] at h; cases h
    | some x =>
     rw [hk] at h
     cases x with
     | error q => cases h
     | ok q =>
      have h1 := ih1 (i + 1) (deep + 1) q (by omega) hk
      have h2 := ih3 c deep [q.1] q.2 p h1.2 hc h
      exact ⟨by omega, h2.2⟩
  ·intro c deep out j p hj hc h
   rw [loopP] at h
   by_cases hcn : out.length < 2 ∨ ¬ aheadI s j = c
   ·rw [if_pos hcn] at h
    cases he : eatP s j 44 with
    | error q => rw [he] at h; cases h
    | ok a =>
     rw [he] at h
     simp only at h
     obtain ⟨e1, e2, _⟩ := eatP_le (by decide) he
     cases hk : cellP hd s k a (deep + 1) with
     | none => rw [hk] at h; cases h
     | some x =>
      rw [hk] at h
      cases x with
      | error q => cases h
      | ok q =>
       have h1 := ih1 a (deep + 1) q (by omega) hk
       have h2 := ih3 c deep (out ++ [q.1]) q.2 p h1.2 hc h
       exact ⟨by omega, h2.2⟩
   ·rw [if_neg hcn] at h
    have ha : aheadI s j = c := Classical.byContradiction fun h => hcn (.inr h)
    have hl := aheadI_lt hc ha
    cases h
    exact ⟨by show j < j + 1; omega, by show j + 1 ≤ s.size; omega⟩
theorem CellsC.mono {hd : ByteArray → Int × Int × Int} {I : World → Prop} {b : Nat} {s : ByteArray} {off : Int} {K K' : Nat} (h : CellsC hd I b s off K) (hk : K' ≤ K) : CellsC hd I b s off K' :=
 fun m W j deep r hm => h m W j deep r (by omega)
theorem kids_calls (hd : ByteArray → Int × Int × Int) (I : World → Prop) (K : Nat) (w : World) (b : Nat) (s : ByteArray) (i : Nat) (off c : Int) (deep : Nat) (hs : s.size ≤ 100000) (ho : 0 ≤ off ∧ off ≤ 1000) (hi : i < s.size) (hc0 : ¬ c = 0) (hdp : deep ≤ 1000) (hc : HeadC hd b I) (hI : I w) (HC : CellsC hd I b s off K) (k : RdA w b s i off)
  (R : Except (Int × Nat) (List SC × Nat)) (hR : kidsP hd s K c deep i = some R) :
  Calls Tryz.prog 69 #[.pointer (some ⟨b, 0, none⟩), .int .u8 c, .int .i64 deep] w (KidsPost w b off R) := by
 by_cases hd1 : deep < 1000
 ·exact kids_walk hd I K w b s i off c deep hs ho hi hc0 hd1 hc hI HC k R hR
 ·cases K with
  | zero => rw [kidsP] at hR; cases hR
  | succ K =>
   rw [kidsP, if_pos (by omega)] at hR
   cases hR
   exact kids_deep w b s i off c deep hs ho (by omega) (by omega) (by omega) k
theorem cells_all (hd : ByteArray → Int × Int × Int) (I : World → Prop) (b : Nat) (s : ByteArray) (off : Int) (hs : s.size ≤ 100000) (ho : 0 ≤ off ∧ off ≤ 1000) (hb : HeadB hd) (hc : HeadC hd b I) : ∀ K, CellsC hd I b s off K := by
 intro K
 induction K with
 | zero => exact fun m W j deep r hm => absurd hm (by omega)
 | succ K ih =>
  intro m W j deep r hm hr hj hdp hI k
  refine ⟨?_, fun p hp => (places hd hb s m).1 j deep p hj (by rw [hr, hp])⟩
  cases m with
  | zero => rw [cellP] at hr; cases hr
  | succ m =>
   have ihm : CellsC hd I b s off m := ih.mono (by omega)
   rw [cellP] at hr
   cases hrect : rectP hd s j with
   | error q =>
    rw [hrect] at hr
    cases hr
    exact cell_norect hd I W b s j off deep hs ho hj hb hc hI k q hrect
   | ok rr =>
    rw [hrect] at hr
    simp only at hr
    by_cases h1 : aheadI s rr.2 = 123
    ·rw [if_pos h1] at hr
     have hl := aheadI_lt (by decide) h1
     cases hk : kidsP hd s m 125 deep rr.2 with
     | none => rw [hk] at hr; cases hr
     | some Rk =>
      rw [hk] at hr
      refine cell_row hd I W b s j off deep hs ho hj hb hc hI k rr hrect h1 Rk (fun W' hI' k' => kids_calls hd I m W' b s rr.2 off 125 deep hs ho hl (by decide) hdp hc hI' ihm k' Rk hk) r ?_
      cases Rk <;> (simp only [Option.some.injEq] at hr; exact hr.symm)
    ·rw [if_neg h1] at hr
     by_cases h2 : aheadI s rr.2 = 91
     ·rw [if_pos h2] at hr
      have hl := aheadI_lt (by decide) h2
      cases hk : kidsP hd s m 93 deep rr.2 with
      | none => rw [hk] at hr; cases hr
      | some Rk =>
       rw [hk] at hr
       refine cell_col hd I W b s j off deep hs ho hj hb hc hI k rr hrect h2 Rk (fun W' hI' k' => kids_calls hd I m W' b s rr.2 off 93 deep hs ho hl (by decide) hdp hc hI' ihm k' Rk hk) r ?_
       cases Rk <;> (simp only [Option.some.injEq] at hr; exact hr.symm)
     ·rw [if_neg h2] at hr
      refine cell_leaf hd I W b s j off deep hs ho hj hb hc hI k rr hrect h1 h2 r ?_
      cases he : eatP s rr.2 44 with
      | error q => rw [he] at hr; simp only [Option.some.injEq] at hr; exact hr.symm
      | ok a =>
       rw [he] at hr
       simp only at hr ⊢
       cases hn : numP hd s a with
       | error q => rw [hn] at hr; simp only [Option.some.injEq] at hr; exact hr.symm
       | ok n => rw [hn] at hr; simp only [Option.some.injEq] at hr; exact hr.symm
/-- The reader's cell, at every place and depth. -/
theorem cell_calls (hd : ByteArray → Int × Int × Int) (I : World → Prop) (w : World) (b : Nat) (s : ByteArray) (i deep m : Nat) (off : Int) (hs : s.size ≤ 100000) (ho : 0 ≤ off ∧ off ≤ 1000) (hi : i ≤ s.size) (hdp : deep ≤ 1000) (hb : HeadB hd) (hc : HeadC hd b I) (hI : I w) (k : RdA w b s i off)
  (r : Except (Int × Nat) (SC × Nat)) (hr : cellP hd s m i deep = some r) :
  Calls Tryz.prog 47 #[.pointer (some ⟨b, 0, none⟩), .int .i64 deep] w (CellPost w b off r) :=
 (cells_all hd I b s off hs ho hb hc (m + 1) m w i deep r (by omega) hr hi hdp hI k).1
end Go.Proofs.YtkobpbbegalfpaaGreatDoor

/-
 A cell is always read in so many steps. Pure.
-/
namespace Go.Proofs.YtkobpbbegalfpaaGreatDoor
open Go.RowKit Go.Proofs.YtkobpbbegalfpaaGreatDoorW.PrintWords Go.Proofs.YtkobpbbegalfpaaGreatDoorW.PrintLast Go.Proofs.YtkobpbbegalfpaaGreatDoorW.PrintMore Go.Proofs.YtkobpbbegalfpaaGreatDoor.PParseBodies
set_option linter.unusedVariables false

theorem total (hd : ByteArray → Int × Int × Int) (hb : HeadB hd) (s : ByteArray) : ∀ n,
  (∀ i deep k, s.size - i ≤ n → i ≤ s.size → 2 * n + 3 ≤ k → cellP hd s k i deep ≠ none) ∧
  (∀ c deep i k, s.size - i ≤ n → i < s.size → ¬ c = 0 → 2 * n + 3 ≤ k → kidsP hd s k c deep i ≠ none) ∧
  (∀ c deep out j k, s.size - j ≤ n → j ≤ s.size → ¬ c = 0 → 2 * n + 3 ≤ k → loopP hd s k c deep out j ≠ none) := by
 intro n
 induction n using Nat.strongRecOn with
 | ind n ih =>
  refine ⟨?_, ?_, ?_⟩
  ·intro i deep k hn hi hk
   obtain ⟨k, rfl⟩ : ∃ k', k = k' + 1 := ⟨k - 1, by omega⟩
   rw [cellP]
   cases hr : rectP hd s i with
   | error q => simp
   | ok r =>
    have g1 := rectP_gt hr
    have g2 := rectP_le hb hi hr
    simp only
    by_cases h1 : aheadI s r.2 = 123
    ·rw [if_pos h1]
     have hl := aheadI_lt (by decide) h1
     have := (ih (n - 1) (by omega)).2.1 125 deep r.2 k (by omega) hl (by decide) (by omega)
     cases hk2 : kidsP hd s k 125 deep r.2 with
     | none => exact absurd hk2 this
     | some x => cases x <;> simp
    ·rw [if_neg h1]
     by_cases h2 : aheadI s r.2 = 91
     ·rw [if_pos h2]
      have hl := aheadI_lt (by decide) h2
      have := (ih (n - 1) (by omega)).2.1 93 deep r.2 k (by omega) hl (by decide) (by omega)
      cases hk2 : kidsP hd s k 93 deep r.2 with
      | none => exact absurd hk2 this
      | some x => cases x <;> simp
     ·rw [if_neg h2]
      cases eatP s r.2 44 with
      | error q => simp
      | ok a =>
       simp only
       cases numP hd s a <;> simp
  ·intro c deep i k hn hi hc hk
   obtain ⟨k, rfl⟩ : ∃ k', k = k' + 1 := ⟨k - 1, by omega⟩
   rw [kidsP]
   by_cases hdp : 1000 ≤ deep
   ·rw [if_pos hdp]; simp
   ·rw [if_neg hdp]
    have h1 := (ih (n - 1) (by omega)).1 (i + 1) (deep + 1) k (by omega) (by omega) (by omega)
    cases hc2 : cellP hd s k (i + 1) (deep + 1) with
    | none => exact absurd hc2 h1
    | some x =>
     cases x with
     | error q => simp
     | ok p =>
      have hp := (places hd hb s k).1 (i + 1) (deep + 1) p (by omega) hc2
      simp only
      exact (ih (n - 1) (by omega)).2.2 c deep [p.1] p.2 k (by omega) hp.2 hc (by omega)
  ·intro c deep out j k hn hj hc hk
   obtain ⟨k, rfl⟩ : ∃ k', k = k' + 1 := ⟨k - 1, by omega⟩
   rw [loopP]
   by_cases hcn : out.length < 2 ∨ ¬ aheadI s j = c
   ·rw [if_pos hcn]
    cases he : eatP s j 44 with
    | error q => simp
    | ok a =>
     obtain ⟨e1, e2, _⟩ := eatP_le (by decide) he
     simp only
     have h1 := (ih (n - 1) (by omega)).1 a (deep + 1) k (by omega) (by omega) (by omega)
     cases hc2 : cellP hd s k a (deep + 1) with
     | none => exact absurd hc2 h1
     | some x =>
      cases x with
      | error q => simp
      | ok p =>
       have hp := (places hd hb s k).1 a (deep + 1) p (by omega) hc2
       simp only
       exact (ih (n - 1) (by omega)).2.2 c deep (out ++ [p.1]) p.2 k (by omega) hp.2 hc (by omega)
   ·rw [if_neg hcn]; simp
/-- What a text's first cell comes to. -/
theorem cellP_some (hd : ByteArray → Int × Int × Int) (hb : HeadB hd) (s : ByteArray) : ∃ r, cellP hd s (2 * s.size + 3) 0 1 = some r :=
 Option.ne_none_iff_exists'.1 ((total hd hb s s.size).1 0 1 _ (by omega) (Nat.zero_le _) (Nat.le_refl _))
end Go.Proofs.YtkobpbbegalfpaaGreatDoor

/-
 internal/strconv.formatBits at base 16 and a number of 16 bits.
-/
namespace Go.Proofs.YtkobpbbegalfpaaGreatDoor
open Go.RowKit Go.Proofs.YtkobpbbegalfpaaGreatDoorW.PrintWords Go.Proofs.YtkobpbbegalfpaaGreatDoorW.PrintLast Go.Proofs.YtkobpbbegalfpaaGreatDoorW.PrintMore
set_option linter.unusedVariables false

theorem tz64_calls (w : World) (h : w.cell? ⟨6, 15, none⟩ = some (.int .u8 4)) : Calls Tryz.prog 152 #[.int .u64 16] w fun e w' => e = .returned (.int .i64 4) ∧ w' = w := by
 have hz : IntKind.u64.wrap (bits .and .u64 16 (IntKind.u64.wrap (-16)) * 285870213051353865) / 288230376151711744 = 15 := by kernel_rfl
 go_enter Tryz.func152, Tryz.ntmps152
 go_wp2
 go_ret
 exact ⟨rfl, rfl⟩
theorem tz_calls (w : World) (h : w.cell? ⟨6, 15, none⟩ = some (.int .u8 4)) : Calls Tryz.prog 147 #[.int .u64 16] w fun e w' => e = .returned (.int .i64 4) ∧ w' = w := by
 go_enter Tryz.func147, Tryz.ntmps147
 go_wp2_with (go_at_call 152; refine (tz64_calls _ h).mono ?_; rintro e w' ⟨rfl, rfl⟩)
 go_ret
 exact ⟨rfl, rfl⟩
theorem pow_calls (w : World) : Calls Tryz.prog 146 #[.int .i64 16] w fun e w' => e = .returned (.bool true) ∧ w' = w := by
 go_enter Tryz.func146, Tryz.ntmps146
 go_wp2
 go_ret
 exact ⟨rfl, rfl⟩

/-- A digit of base 16. -/
def dgt (k : Int) : UInt8 := [48, 49, 50, 51, 52, 53, 54, 55, 56, 57, 97, 98, 99, 100, 101, 102].getD k.toNat 0
theorem dgt_tab (k : Int) (h0 : 0 ≤ k) (h1 : k < 16) (h : k.toNat < (⟨#[48, 49, 50, 51, 52, 53, 54, 55, 56, 57, 97, 98, 99, 100, 101, 102, 103, 104, 105, 106, 107, 108, 109, 110, 111, 112, 113, 114, 115, 116, 117, 118, 119, 120, 121, 122]⟩ : ByteArray).size) : (⟨#[48, 49, 50, 51, 52, 53, 54, 55, 56, 57, 97, 98, 99, 100, 101, 102, 103, 104, 105, 106, 107, 108, 109, 110, 111, 112, 113, 114, 115, 116, 117, 118, 119, 120, 121, 122]⟩ : ByteArray)[k.toNat] = dgt k := by
 obtain ⟨m, rfl⟩ := Int.eq_ofNat_of_zero_le h0
 have hm : m < 16 := by omega
 match m, hm with
 | 0, _ => rfl
 | 1, _ => rfl
 | 2, _ => rfl
 | 3, _ => rfl
 | 4, _ => rfl
 | 5, _ => rfl
 | 6, _ => rfl
 | 7, _ => rfl
 | 8, _ => rfl
 | 9, _ => rfl
 | 10, _ => rfl
 | 11, _ => rfl
 | 12, _ => rfl
 | 13, _ => rfl
 | 14, _ => rfl
 | 15, _ => rfl
theorem mask4 (n : Int) (h0 : 0 ≤ n) (h1 : n < 65536) : bits .and .u64 n 15 = n % 16 :=
 bits_mask .u64 16 (by decide) (fun n h0 h1 => by rw [IntKind.wrap_u64]; omega) 4 (by decide) n h0 h1

theorem conv1 (W : World) (b o c : Nat) (d : UInt8) (h : W.cell? ⟨b, o, none⟩ = some (.int .u8 (d.toNat : Int))) :
  (convert 64 9 (.slice (some ⟨b, o, none⟩) 1 c)).run Tryz.prog W = .ok (.string ⟨#[d]⟩) W :=
 run_convert_bytes_back (P := Tryz.prog) W 64 9 5 ⟨b, o, none⟩ c [d] Tryz.underlying64 Tryz.underlying5 Tryz.underlying9 (fun j hj => by
  match j, hj with
  | 0, _ => exact h)
theorem conv2 (W : World) (b o c : Nat) (d e : UInt8) (h : W.cell? ⟨b, o, none⟩ = some (.int .u8 (d.toNat : Int))) (h1 : W.cell? ⟨b, o + 1, none⟩ = some (.int .u8 (e.toNat : Int))) :
  (convert 64 9 (.slice (some ⟨b, o, none⟩) 2 c)).run Tryz.prog W = .ok (.string ⟨#[d, e]⟩) W :=
 run_convert_bytes_back (P := Tryz.prog) W 64 9 5 ⟨b, o, none⟩ c [d, e] Tryz.underlying64 Tryz.underlying5 Tryz.underlying9 (fun j hj => by
  match j, hj with
  | 0, _ => exact h
  | 1, _ => exact h1)
theorem conv3 (W : World) (b o c : Nat) (d e f : UInt8) (h : W.cell? ⟨b, o, none⟩ = some (.int .u8 (d.toNat : Int))) (h1 : W.cell? ⟨b, o + 1, none⟩ = some (.int .u8 (e.toNat : Int))) (h2 : W.cell? ⟨b, o + 2, none⟩ = some (.int .u8 (f.toNat : Int))) :
  (convert 64 9 (.slice (some ⟨b, o, none⟩) 3 c)).run Tryz.prog W = .ok (.string ⟨#[d, e, f]⟩) W :=
 run_convert_bytes_back (P := Tryz.prog) W 64 9 5 ⟨b, o, none⟩ c [d, e, f] Tryz.underlying64 Tryz.underlying5 Tryz.underlying9 (fun j hj => by
  match j, hj with
  | 0, _ => exact h
  | 1, _ => exact h1
  | 2, _ => exact h2)
theorem conv4 (W : World) (b o c : Nat) (d e f g : UInt8) (h : W.cell? ⟨b, o, none⟩ = some (.int .u8 (d.toNat : Int))) (h1 : W.cell? ⟨b, o + 1, none⟩ = some (.int .u8 (e.toNat : Int))) (h2 : W.cell? ⟨b, o + 2, none⟩ = some (.int .u8 (f.toNat : Int))) (h3 : W.cell? ⟨b, o + 3, none⟩ = some (.int .u8 (g.toNat : Int))) :
  (convert 64 9 (.slice (some ⟨b, o, none⟩) 4 c)).run Tryz.prog W = .ok (.string ⟨#[d, e, f, g]⟩) W :=
 run_convert_bytes_back (P := Tryz.prog) W 64 9 5 ⟨b, o, none⟩ c [d, e, f, g] Tryz.underlying64 Tryz.underlying5 Tryz.underlying9 (fun j hj => by
  match j, hj with
  | 0, _ => exact h
  | 1, _ => exact h1
  | 2, _ => exact h2
  | 3, _ => exact h3)
/-- A cell of the block that was just made. -/
theorem made_cell (w : World) (C : Array Value) (t : TypeId) (o : Nat) : (w.alloc (.cells C t)).cell? ⟨w.heap.size, o, none⟩ = C[o]? := cell_of_row _ _ _ _ _ _ (heap_alloc_new w _)

set_option maxRecDepth 100000 in
set_option maxHeartbeats 4000000 in
theorem fbits1_calls (n : Int) (h0 : 0 ≤ n) (h1 : n < 16) (w : World) (h : ∀ o, (w.alloc o).cell? ⟨6, 15, none⟩ = some (.int .u8 4)) :
  Calls Tryz.prog 131 #[.slice none 0 0, .int .u64 n, .int .i64 16, .bool false, .bool false] w fun e w' => e = .returned (.tuple #[.slice none 0 0, .string ⟨#[dgt n]⟩]) ∧ Below w.heap.size w w' := by
 have hl0 : 0 ≤ n := by omega
 have hg0 : n < 16 := by omega
 clear h0 h1
 go_enter Tryz.func131, Tryz.ntmps131
 go_wp2_with (first | (go_at_call 147; refine (tz_calls _ (h _)).mono ?_; rintro e w' ⟨rfl, rfl⟩) | (go_at_call 146; refine (pow_calls _).mono ?_; rintro e w' ⟨rfl, rfl⟩))
 refine wp_loop_rounds 1 ?_
 repeat any_goals (rw [rounds_succ]; go_wp2)
 rw [conv1 _ _ 64 _ (dgt n) ?_]
 ·go_wp2
  go_ret2
  exact ⟨rfl, (Below.refl _ _).alloc (Nat.le_refl _) _⟩
 all_goals (rw [made_cell]; simp (disch := omega) [Array.getElem?_setIfInBounds, dgt_tab])

set_option maxRecDepth 100000 in
set_option maxHeartbeats 4000000 in
theorem fbits2_calls (n : Int) (h0 : 16 ≤ n) (h1 : n < 256) (w : World) (h : ∀ o, (w.alloc o).cell? ⟨6, 15, none⟩ = some (.int .u8 4)) :
  Calls Tryz.prog 131 #[.slice none 0 0, .int .u64 n, .int .i64 16, .bool false, .bool false] w fun e w' => e = .returned (.tuple #[.slice none 0 0, .string ⟨#[dgt (n / 16), dgt (n % 16)]⟩]) ∧ Below w.heap.size w w' := by
 have hm0 : bits .and .u64 n 15 = n % 16 := mask4 _ (by omega) (by omega)
 have hl0 : 0 ≤ n := by omega
 have hg0 : 16 ≤ n := by omega
 have hq0 : 0 ≤ n % 16 := by omega
 have hr0 : n % 16 < 16 := by omega
 have hl1 : 0 ≤ n / 16 := by omega
 have hg1 : n / 16 < 16 := by omega
 clear h0 h1
 go_enter Tryz.func131, Tryz.ntmps131
 go_wp2_with (first | (go_at_call 147; refine (tz_calls _ (h _)).mono ?_; rintro e w' ⟨rfl, rfl⟩) | (go_at_call 146; refine (pow_calls _).mono ?_; rintro e w' ⟨rfl, rfl⟩))
 refine wp_loop_rounds 2 ?_
 repeat any_goals (rw [rounds_succ]; go_wp2)
 rw [conv2 _ _ 63 _ (dgt (n / 16)) (dgt (n % 16)) ?_ ?_]
 ·go_wp2
  go_ret2
  exact ⟨rfl, (Below.refl _ _).alloc (Nat.le_refl _) _⟩
 all_goals (rw [made_cell]; simp (disch := omega) [Array.getElem?_setIfInBounds, dgt_tab])

set_option maxRecDepth 100000 in
set_option maxHeartbeats 4000000 in
theorem fbits3_calls (n : Int) (h0 : 256 ≤ n) (h1 : n < 4096) (w : World) (h : ∀ o, (w.alloc o).cell? ⟨6, 15, none⟩ = some (.int .u8 4)) :
  Calls Tryz.prog 131 #[.slice none 0 0, .int .u64 n, .int .i64 16, .bool false, .bool false] w fun e w' => e = .returned (.tuple #[.slice none 0 0, .string ⟨#[dgt (n / 16 / 16), dgt (n / 16 % 16), dgt (n % 16)]⟩]) ∧ Below w.heap.size w w' := by
 have hm0 : bits .and .u64 n 15 = n % 16 := mask4 _ (by omega) (by omega)
 have hm1 : bits .and .u64 (n / 16) 15 = n / 16 % 16 := mask4 _ (by omega) (by omega)
 have hl0 : 0 ≤ n := by omega
 have hg0 : 16 ≤ n := by omega
 have hq0 : 0 ≤ n % 16 := by omega
 have hr0 : n % 16 < 16 := by omega
 have hl1 : 0 ≤ n / 16 := by omega
 have hg1 : 16 ≤ n / 16 := by omega
 have hq1 : 0 ≤ n / 16 % 16 := by omega
 have hr1 : n / 16 % 16 < 16 := by omega
 have hl2 : 0 ≤ n / 16 / 16 := by omega
 have hg2 : n / 16 / 16 < 16 := by omega
 clear h0 h1
 go_enter Tryz.func131, Tryz.ntmps131
 go_wp2_with (first | (go_at_call 147; refine (tz_calls _ (h _)).mono ?_; rintro e w' ⟨rfl, rfl⟩) | (go_at_call 146; refine (pow_calls _).mono ?_; rintro e w' ⟨rfl, rfl⟩))
 refine wp_loop_rounds 3 ?_
 repeat any_goals (rw [rounds_succ]; go_wp2)
 rw [conv3 _ _ 62 _ (dgt (n / 16 / 16)) (dgt (n / 16 % 16)) (dgt (n % 16)) ?_ ?_ ?_]
 ·go_wp2
  go_ret2
  exact ⟨rfl, (Below.refl _ _).alloc (Nat.le_refl _) _⟩
 all_goals (rw [made_cell]; simp (disch := omega) [Array.getElem?_setIfInBounds, dgt_tab])

set_option maxRecDepth 100000 in
set_option maxHeartbeats 4000000 in
theorem fbits4_calls (n : Int) (h0 : 4096 ≤ n) (h1 : n < 65536) (w : World) (h : ∀ o, (w.alloc o).cell? ⟨6, 15, none⟩ = some (.int .u8 4)) :
  Calls Tryz.prog 131 #[.slice none 0 0, .int .u64 n, .int .i64 16, .bool false, .bool false] w fun e w' => e = .returned (.tuple #[.slice none 0 0, .string ⟨#[dgt (n / 16 / 16 / 16), dgt (n / 16 / 16 % 16), dgt (n / 16 % 16), dgt (n % 16)]⟩]) ∧ Below w.heap.size w w' := by
 have hm0 : bits .and .u64 n 15 = n % 16 := mask4 _ (by omega) (by omega)
 have hm1 : bits .and .u64 (n / 16) 15 = n / 16 % 16 := mask4 _ (by omega) (by omega)
 have hm2 : bits .and .u64 (n / 16 / 16) 15 = n / 16 / 16 % 16 := mask4 _ (by omega) (by omega)
 have hl0 : 0 ≤ n := by omega
 have hg0 : 16 ≤ n := by omega
 have hq0 : 0 ≤ n % 16 := by omega
 have hr0 : n % 16 < 16 := by omega
 have hl1 : 0 ≤ n / 16 := by omega
 have hg1 : 16 ≤ n / 16 := by omega
 have hq1 : 0 ≤ n / 16 % 16 := by omega
 have hr1 : n / 16 % 16 < 16 := by omega
 have hl2 : 0 ≤ n / 16 / 16 := by omega
 have hg2 : 16 ≤ n / 16 / 16 := by omega
 have hq2 : 0 ≤ n / 16 / 16 % 16 := by omega
 have hr2 : n / 16 / 16 % 16 < 16 := by omega
 have hl3 : 0 ≤ n / 16 / 16 / 16 := by omega
 have hg3 : n / 16 / 16 / 16 < 16 := by omega
 clear h0 h1
 go_enter Tryz.func131, Tryz.ntmps131
 go_wp2_with (first | (go_at_call 147; refine (tz_calls _ (h _)).mono ?_; rintro e w' ⟨rfl, rfl⟩) | (go_at_call 146; refine (pow_calls _).mono ?_; rintro e w' ⟨rfl, rfl⟩))
 refine wp_loop_rounds 4 ?_
 repeat any_goals (rw [rounds_succ]; go_wp2)
 rw [conv4 _ _ 61 _ (dgt (n / 16 / 16 / 16)) (dgt (n / 16 / 16 % 16)) (dgt (n / 16 % 16)) (dgt (n % 16)) ?_ ?_ ?_ ?_]
 ·go_wp2
  go_ret2
  exact ⟨rfl, (Below.refl _ _).alloc (Nat.le_refl _) _⟩
 all_goals (rw [made_cell]; simp (disch := omega) [Array.getElem?_setIfInBounds, dgt_tab])

end Go.Proofs.YtkobpbbegalfpaaGreatDoor
