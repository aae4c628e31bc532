/-
  The document's cutting of a line is the code's: pure.
-/
import Derived.Test.YtelmmcjlhjahcaaDoorWoCut
import Derived.Test.YtelmmcjlhjahcaaDoorPWordsCutx2
namespace Go.Proofs.YtelmmcjlhjahcaaDoor
open Go.RowKit Go.Proofs.YtelmmcjlhjahcaaDoorW.PrintWords Go.Proofs.YtelmmcjlhjahcaaDoorW.PrintLast Go.Proofs.YtelmmcjlhjahcaaDoorW.PrintMore Go.Proofs.YtelmmcjlhjahcaaDoor.PWordsCut
set_option linter.unusedVariables false
set_option linter.unusedSimpArgs false

theorem ext1 (s : ByteArray) (i : Nat) (h : i < s.size) : (s.extract i (i + 1)).data = #[s[i]] := by
  apply Array.ext
  · simp; omega
  · intro j h1 h2
    have hj : j = 0 := by simp at h2; omega
    subst hj
    simp
    rfl
theorem sing_toList (b : UInt8) : (⟨#[b]⟩ : ByteArray).toList = [b] := by
  simp [ByteArray.toList, ByteArray.toList.loop, ByteArray.size, ByteArray.get!]
theorem ext1_eq (s : ByteArray) (i : Nat) (h : i < s.size) : s.extract i (i + 1) = (⟨#[s[i]]⟩ : ByteArray) := by
  apply ByteArray.ext
  exact ext1 s i h
theorem ext1_toList (s : ByteArray) (i : Nat) (h : i < s.size) : (s.extract i (i + 1)).toList = [s[i]] := by
  rw [ext1_eq s i h]; exact sing_toList _
theorem ext1_word (s : ByteArray) (i : Nat) (h : i < s.size) (xs : List Int) : strOfNums xs ++ s.extract i (i + 1) = strOfNums (xs ++ [(s[i].toNat : Int)]) := by
  rw [ext1_eq s i h]
  apply ByteArray.ext
  rw [ByteArray.data_append]
  simp [strOfNums]
theorem strOfNums_nil : strOfNums [] = (⟨#[]⟩ : ByteArray) := rfl
theorem sing_eq (b : UInt8) (n : Nat) (hn : n < 256) : ([b] = ([UInt8.ofNat n] : List UInt8)) ↔ b.toNat = n := by
  constructor
  · intro h
    injection h with h _
    rw [h]
    simp; omega
  · intro h
    rw [← h]; simp

/-- What the document answers with. -/
def cutFin (r : Int × CS) : List (List ByteArray) × Int × Int := if 0 ≤ r.1 then ([], 2, r.1) else (r.2.commandW.cmds, 0, 0)

theorem ref_j1 (s : ByteArray) (k : Nat) (q i : Int) (c : CS) (e : ByteArray) (sp : Bool) (hl1 : c.words.length ≤ 10000) (hl2 : c.cmds.length ≤ 10000) (b : UInt8) (he : e.toList = [b]) (hes : strOfNums c.word ++ e = strOfNums (c.word ++ [(b.toNat : Int)])) (hw : c.word.length ≤ 10000)
    (hsz : e.size = 1) (r : List (List ByteArray) × Int × Int)
    (h1 : sp = true → sashref20_Cut.l0 k s [] (if b.toNat = 59 then c.commandW else c.endW).cmds (if b.toNat = 59 then c.commandW else c.endW).words (strOfNums []) false q i = some r)
    (h2 : sp = false → sashref20_Cut.l0 k s [] c.cmds c.words (strOfNums (c.word ++ [(b.toNat : Int)])) true q i = some r) :
    sashref20_Cut.j1 (k + 1) s [] c.cmds c.words (strOfNums c.word) c.begun q i e sp = some r := by
  have hb59 : (e.toList = ([59] : List UInt8)) ↔ b.toNat = 59 := by rw [he]; exact sing_eq b 59 (by decide)
  simp only [sashref20_Cut.j1]
  cases sp with
  | false =>
    rw [if_neg (by decide), hes, if_pos (by rw [strOfNums_size, hsz]; omega)]
    exact h2 rfl
  | true =>
    rw [if_pos rfl]
    have h1 := h1 rfl
    rw [strOfNums_nil] at h1
    by_cases h59 : b.toNat = 59
    · simp only [if_pos h59] at h1
      have hc := hb59.2 h59
      cases hbg : c.begun with
      | true =>
        simp only [CS.commandW, CS.endW, CS.flushW, hbg, if_true] at h1
        rw [if_pos rfl, if_pos (by omega)]
        simp only [Option.bind_some]
        rw [if_pos hc, if_pos (by simp), if_pos (by omega)]
        simpa using h1
      | false =>
        simp only [CS.commandW, CS.endW, CS.flushW, hbg] at h1
        rw [if_neg (by decide), if_pos hc]
        by_cases hwd : c.words = []
        · rw [if_neg (by simp [hwd])]
          simpa [hwd] using h1
        · rw [if_pos (by have := List.length_pos_iff.2 hwd; omega), if_pos (by omega)]
          simpa [hwd] using h1
    · simp only [if_neg h59] at h1
      have hc : ¬ (e.toList = ([59] : List UInt8)) := fun h => h59 (hb59.1 h)
      cases hbg : c.begun with
      | true =>
        simp only [CS.endW, hbg, if_true] at h1
        rw [if_pos rfl, if_pos (by omega)]
        simp only [Option.bind_some]
        rw [if_neg hc]
        exact h1
      | false =>
        simp only [CS.endW, hbg] at h1
        rw [if_neg (by decide), if_neg hc]
        simpa using h1

theorem w64 {n : Int} (h0 : 0 ≤ n) (h1 : n ≤ 1000000) : wrap64 n = n := by unfold wrap64; omega

theorem wA (i : Nat) (h : i < 100000) : wrap64 ((i : Int) + 1) = ((i + 1 : Nat) : Int) := by
  have e : ((i + 1 : Nat) : Int) = (i : Int) + 1 := rfl
  rw [e]; exact w64 (by omega) (by omega)
theorem wB (i : Nat) (h : i < 100000) : wrap64 (((i + 1 : Nat) : Int) - 1) = (i : Int) := by
  have e : ((i + 1 : Nat) : Int) - 1 = (i : Int) := by omega
  rw [e]; exact w64 (by omega) (by omega)
theorem wC (i : Nat) (h : i < 100000) : wrap64 (((i + 1 : Nat) : Int) + 1) = ((i + 2 : Nat) : Int) := by
  have e : ((i + 1 : Nat) : Int) + 1 = ((i + 2 : Nat) : Int) := by omega
  rw [e]; exact w64 (by omega) (by omega)
theorem ref_l0 (s : ByteArray) (hs : s.size ≤ 4096) : ∀ (d i k : Nat) (q : Int) (c : CS), s.size - i = d → i ≤ s.size → 2 * d < k → c.words.length ≤ i → c.cmds.length ≤ i → c.word.length ≤ i → q ≤ 4096 → (0 ≤ q → c.begun = true) →
    sashref20_Cut.l0 k s [] c.cmds c.words (strOfNums c.word) c.begun q (i : Int) = some (cutFin (cutL i (s.data.toList.drop i) q c)) := by
  intro d
  induction d using Nat.strongRecOn with
  | ind d ih =>
  intro i k q c hd hi hk hw hc hwl hq hqb
  obtain ⟨k, rfl⟩ : ∃ m, k = m + 1 := ⟨k - 1, by omega⟩
  by_cases hlt : i < s.size
  · rw [drop_at s i hlt]
    have hi4 : i < 100000 := by omega
    have hT : ((i : Int)).toNat = i := Int.toNat_natCast _
    have hW := Aside0.mk (wA i hi4)
    have hT1 : ((i + 1 : Nat) : Int).toNat = i + 1 := Int.toNat_natCast _
    have hW1 := Aside0.mk (wB i hi4)
    have hE := ext1_toList s i hlt
    have hEs : (s.extract i (i + 1)).size = 1 := by simp; omega
    simp only [sashref20_Cut.l0]
    simp only [hW.out, hT, hT1, hW1.out]
    rw [if_pos (by omega), if_pos (by omega), if_pos (by omega), if_pos (by omega)]
    by_cases h92 : s[i].toNat = 92
    · rw [if_pos (by rw [hE]; exact (sing_eq _ 92 (by decide)).2 h92)]
      by_cases hend : i + 1 = s.size
      · rw [if_pos (by omega)]
        have hnil : s.data.toList.drop (i + 1) = [] := by rw [List.drop_eq_nil_iff]; simp <;> omega
        rw [hnil, cutL_slash1 _ _ _ _ h92]
        by_cases hq0 : q < 0
        · rw [if_neg (by omega), if_pos hq0]
          simp [cutFin]
        · rw [if_pos (by omega), if_neg hq0]
          simp [cutFin]; omega
      · have hlt1 : i + 1 < s.size := by omega
        have hW2 := Aside0.mk (wC i hi4)
        have hT2 : ((i + 2 : Nat) : Int).toNat = i + 2 := Int.toNat_natCast _
        have hE2s : (s.extract (i + 1) (i + 2)).size = 1 := by simp; omega
        simp only [hW2.out, hT2]
        rw [if_neg (by omega), if_pos (by omega), if_pos (by omega), if_pos (by omega), if_pos (by rw [strOfNums_size, hE2s]; omega), drop_at s (i + 1) hlt1, cutL_slash _ _ _ _ _ _ h92, ext1_word s (i + 1) hlt1]
        exact ih (d - 2) (by omega) (i + 2) k q (c.putW s[i + 1].toNat) (by omega) (by omega) (by omega) (by simp [CS.putW]; omega) (by simp [CS.putW]; omega) (by simp [CS.putW]; omega) hq (fun _ => rfl)
    · rw [if_neg (by rw [hE]; exact fun h => h92 ((sing_eq _ 92 (by decide)).1 h))]
      by_cases h34 : s[i].toNat = 34
      · rw [if_pos (by rw [hE]; exact (sing_eq _ 34 (by decide)).2 h34)]
        by_cases hq0 : q < 0
        · rw [if_pos hq0, cutL_open _ _ _ _ _ h34 (by omega)]
          exact ih (d - 1) (by omega) (i + 1) k i { c with begun := true } (by omega) (by omega) (by omega) (by simp; omega) (by simp; omega) (by simp; omega) (by omega) (fun _ => rfl)
        · rw [if_neg hq0, cutL_close _ _ _ _ _ h34 (by omega)]
          have hbt := hqb (by omega)
          have := ih (d - 1) (by omega) (i + 1) k (-1) c (by omega) (by omega) (by omega) (by omega) (by omega) (by omega) (by omega) (fun h => absurd h (by decide))
          rw [hbt] at this
          exact this
      · rw [if_neg (by rw [hE]; exact fun h => h34 ((sing_eq _ 34 (by decide)).1 h))]
        obtain ⟨k, rfl⟩ : ∃ m, k = m + 1 := ⟨k - 1, by omega⟩
        have hput : sashref20_Cut.l0 k s [] c.cmds c.words (strOfNums (c.word ++ [(s[i].toNat : Int)])) true q ((i + 1 : Nat) : Int) = some (cutFin (cutL (i + 1) (s.data.toList.drop (i + 1)) q (c.putW s[i].toNat))) :=
          ih (d - 1) (by omega) (i + 1) k q (c.putW s[i].toNat) (by omega) (by omega) (by omega) (by simp [CS.putW]; omega) (by simp [CS.putW]; omega) (by simp [CS.putW]; omega) hq (fun _ => rfl)
        by_cases hq0 : q < 0
        · rw [if_pos hq0, cutL_out _ _ _ _ _ h92 h34 (by omega)]
          have hend : ∀ c' : CS, c' = (if s[i].toNat = 59 then c.commandW else c.endW) → sashref20_Cut.l0 k s [] c'.cmds c'.words (strOfNums []) false q ((i + 1 : Nat) : Int) = some (cutFin (cutL (i + 1) (s.data.toList.drop (i + 1)) q c')) := by
            intro c' hc'
            have e1 : c'.word = [] ∧ c'.begun = false ∧ c'.words.length ≤ i + 1 ∧ c'.cmds.length ≤ i + 1 := by
              rw [hc']
              split
              · refine ⟨by simp [CS.commandW, CS.endW, CS.flushW], by simp [CS.commandW, CS.endW, CS.flushW], by simp [CS.commandW, CS.flushW], ?_⟩
                simp only [CS.commandW, CS.flushW]
                split
                · simp [CS.endW]; omega
                · simp [CS.endW]; omega
              · refine ⟨by simp [CS.endW], by simp [CS.endW], ?_, by simp [CS.endW]; omega⟩
                simp only [CS.endW]
                split
                · simp; omega
                · omega
            have := ih (d - 1) (by omega) (i + 1) k q c' (by omega) (by omega) (by omega) (by omega) (by omega) (by rw [e1.1]; simp) hq (fun h => absurd h (by omega))
            rw [e1.1, e1.2.1] at this
            exact this
          have hb59 := sing_eq s[i] 59 (by decide)
          have hb9 := sing_eq s[i] 9 (by decide)
          have hb32 := sing_eq s[i] 32 (by decide)
          by_cases h32 : s[i].toNat = 32
          · rw [if_pos (by rw [hE]; exact hb32.2 h32)]
            have e : c.plainW (s[i].toNat : Int) = (if s[i].toNat = 59 then c.commandW else c.endW) := by simp [CS.plainW, h32]
            rw [e]
            exact ref_j1 s k q _ c _ true (by omega) (by omega) s[i] hE (ext1_word s i hlt _) (by omega) hEs _ (fun _ => hend _ rfl) (fun h => by cases h)
          · rw [if_neg (by rw [hE]; exact fun h => h32 (hb32.1 h))]
            by_cases h9 : s[i].toNat = 9
            · rw [if_pos (by rw [hE]; exact hb9.2 h9)]
              have e : c.plainW (s[i].toNat : Int) = (if s[i].toNat = 59 then c.commandW else c.endW) := by simp [CS.plainW, h9]
              rw [e]
              exact ref_j1 s k q _ c _ true (by omega) (by omega) s[i] hE (ext1_word s i hlt _) (by omega) hEs _ (fun _ => hend _ rfl) (fun h => by cases h)
            · rw [if_neg (by rw [hE]; exact fun h => h9 (hb9.1 h))]
              by_cases h59 : s[i].toNat = 59
              · have e : c.plainW (s[i].toNat : Int) = (if s[i].toNat = 59 then c.commandW else c.endW) := by simp [CS.plainW, h59]
                rw [e]
                exact ref_j1 s k q _ c _ _ (by omega) (by omega) s[i] hE (ext1_word s i hlt _) (by omega) hEs _ (fun _ => hend _ rfl) (fun h => by rw [hE, hb59.2 h59] at h; simp at h)
              · have e : c.plainW (s[i].toNat : Int) = c.putW (s[i].toNat : Int) := by
                  unfold CS.plainW
                  rw [if_neg (by omega), if_neg (by omega), if_neg (by omega)]
                rw [e]
                refine ref_j1 s k q _ c _ _ (by omega) (by omega) s[i] hE (ext1_word s i hlt _) (by omega) hEs _ (fun h => ?_) (fun _ => hput)
                rw [hE] at h
                exact absurd (hb59.1 (by simpa using h)) h59
        · rw [if_neg hq0, cutL_in _ _ _ _ _ h92 h34 (by omega)]
          exact ref_j1 s k q _ c _ false (by omega) (by omega) s[i] hE (ext1_word s i hlt _) (by omega) hEs _ (fun h => by cases h) (fun _ => hput)
  · have hnil : s.data.toList.drop i = [] := by rw [List.drop_eq_nil_iff]; simp <;> omega
    rw [hnil, cutL_nil]
    simp only [sashref20_Cut.l0]
    rw [if_neg (by omega)]
    by_cases hq0 : 0 ≤ q
    · rw [if_pos hq0]; simp [cutFin, hq0]
    · rw [if_neg hq0]
      have hfin : cutFin (q, c) = (c.commandW.cmds, 0, 0) := by simp [cutFin, hq0]
      rw [hfin]
      cases hbg : c.begun with
      | true =>
        rw [if_pos rfl, if_pos (by omega)]
        simp only [Option.bind_some]
        rw [if_pos (by simp), if_pos (by omega)]
        simp [CS.commandW, CS.endW, CS.flushW, hbg]
      | false =>
        rw [if_neg (by decide)]
        by_cases hwd : c.words = []
        · rw [if_neg (by simp [hwd])]
          simp [CS.commandW, CS.endW, CS.flushW, hbg, hwd]
        · rw [if_pos (by have := List.length_pos_iff.2 hwd; omega), if_pos (by omega)]
          simp [CS.commandW, CS.endW, CS.flushW, hbg, hwd]

theorem ref_cut (s : ByteArray) (hs : s.size ≤ 4096) (k : Nat) (hk : 2 * s.size < k) : sashref20_Cut.f k s = some (cutFin (cutL 0 s.data.toList (-1) CS.init)) := by
  unfold sashref20_Cut.f
  simp only [Option.bind_some]
  rw [if_neg (by omega)]
  have h := ref_l0 s hs (s.size - 0) 0 k (-1) CS.init rfl (by omega) (by omega) (by simp [CS.init]) (by simp [CS.init]) (by simp [CS.init]) (by omega) (fun h => absurd h (by decide))
  rw [List.drop_zero] at h
  exact h
end Go.Proofs.YtelmmcjlhjahcaaDoor
