/-
  num.Hex: four digits. What the functions of numbers read of the library's variables.
-/
import Derived.Test.YtmcjfnebkpifnaaDoorNuFmt
import Derived.Test.YtmcjfnebkpifnaaDoorShelf
import Derived.Lib.SmallJoins
import Derived.Lib.AtoiErrMem
namespace Go.Proofs.YtmcjfnebkpifnaaDoor
open Go.RowKit Go.Proofs.YtmcjfnebkpifnaaDoorW.PrintWords Go.Proofs.YtmcjfnebkpifnaaDoorW.PrintLast Go.Proofs.YtmcjfnebkpifnaaDoorW.PrintMore
set_option linter.unusedVariables false

/-- The tables that the functions of numbers read. -/
structure NumT (w : World) : Prop where
  tab : Lib.TabIs Tryd.prog w "internal/strconv.uint64pow10" .u64 Lib.pow10Tab
  de : w.cell? ⟨4, 15, none⟩ = some (.int .u8 4)
theorem cell_below {w w' : World} {b o : Nat} {v : Value} (h : w.cell? ⟨b, o, none⟩ = some v) (hb : Below w.heap.size w w') : w'.cell? ⟨b, o, none⟩ = some v :=
  (hb.cell (p := ⟨b, o, none⟩) (Lib.lt_of_cell h)).trans h
theorem NumT.below {w w' : World} (h : NumT w) (hb : Below w.heap.size w w') : NumT w' :=
  ⟨Joins.tab_stays (g := 2) (by kernel_rfl) h.tab hb (Nat.le_refl _), cell_below h.de hb⟩

/-- The digits of base 16. -/
def hexS (n : Int) : ByteArray := if n < 16 then ⟨#[dgt n]⟩ else if n < 256 then ⟨#[dgt (n / 16), dgt (n % 16)]⟩ else if n < 4096 then ⟨#[dgt (n / 16 / 16), dgt (n / 16 % 16), dgt (n % 16)]⟩ else ⟨#[dgt (n / 16 / 16 / 16), dgt (n / 16 / 16 % 16), dgt (n / 16 % 16), dgt (n % 16)]⟩
theorem fbits_calls (n : Int) (h0 : 0 ≤ n) (h1 : n < 65536) (w : World) (h : NumT w) :
    Calls Tryd.prog 89 #[.slice none 0 0, .int .u64 n, .int .i64 16, .bool false, .bool false] w fun e w' => e = .returned (.tuple #[.slice none 0 0, .string (hexS n)]) ∧ Below w.heap.size w w' := by
  have hd : ∀ o, (w.alloc o).cell? ⟨4, 15, none⟩ = some (.int .u8 4) := fun o => cell_below h.de (below_alloc (Below.refl _ _) o)
  unfold hexS
  by_cases a : n < 16
  · rw [if_pos a]; exact fbits1_calls n h0 a w hd
  · rw [if_neg a]
    by_cases b : n < 256
    · rw [if_pos b]; exact fbits2_calls n (by omega) b w hd
    · rw [if_neg b]
      by_cases c : n < 4096
      · rw [if_pos c]; exact fbits3_calls n (by omega) c w hd
      · rw [if_neg c]; exact fbits4_calls n (by omega) h1 w hd
theorem fu_calls (n : Int) (h0 : 0 ≤ n) (h1 : n < 65536) (w : World) (h : NumT w) :
    Calls Tryd.prog 75 #[.int .u64 n, .int .i64 16] w fun e w' => e = .returned (.string (hexS n)) ∧ Below w.heap.size w w' := by
  have HF := Aside0.mk (fbits_calls n h0 h1 w h)
  have HI : Aside0 (Calls Tryd.prog 80 #[.int .u64 n, .int .i64 16] w fun e w' => e = .returned (.string (hexS n)) ∧ Below w.heap.size w w') := by
    refine Aside0.mk ?_
    clear h
    go_enter Tryd.func80, Tryd.ntmps80
    go_wp2_with (go_at_call 89; refine HF.out.mono ?_; rintro e w' ⟨rfl, hb⟩)
    go_ret
    exact ⟨rfl, hb⟩
  clear h HF
  go_enter Tryd.func75, Tryd.ntmps75
  go_wp2_with (go_at_call 80; refine HI.out.mono ?_; rintro e w' ⟨rfl, hb⟩)
  go_ret
  exact ⟨rfl, hb⟩

theorem ret_str {a b : ByteArray} (h : a = b) : Ending.returned (.string a) = .returned (.string b) := by rw [h]
/-- Four digits. -/
def hex4 (n : Int) : ByteArray := ⟨#[dgt (n / 4096), dgt (n / 256 % 16), dgt (n / 16 % 16), dgt (n % 16)]⟩
theorem rep_calls (c : Nat) (hc : c ≤ 4) (w : World) : Calls Tryd.prog 76 #[.string ⟨#[48]⟩, .int .i64 c] w fun e w' => e = .returned (.string ⟨(Lib.repeatL [48] c).toArray⟩) ∧ Below w.heap.size w w' :=
  Tryd.strings_Repeat ⟨#[48]⟩ c w (by omega) (by show 1 * c ≤ _; omega)
theorem hexS_size (n : Int) : (hexS n).size = if n < 16 then 1 else if n < 256 then 2 else if n < 4096 then 3 else 4 := by
  unfold hexS; split
  · rfl
  · split
    · rfl
    · split <;> rfl
theorem hexS_pad (n : Int) (h0 : 0 ≤ n) (h1 : n < 65536) : (⟨(Lib.repeatL [48] (4 - (hexS n).size)).toArray⟩ : ByteArray) ++ hexS n = hex4 n := by
  have d0 : dgt 0 = 48 := rfl
  rw [hexS_size]
  unfold hexS hex4
  by_cases a : n < 16
  · simp only [if_pos a]
    have e1 : n / 4096 = 0 := by omega
    have e2 : n / 256 % 16 = 0 := by omega
    have e3 : n / 16 % 16 = 0 := by omega
    have e4 : n % 16 = n := by omega
    rw [e1, e2, e3, e4, d0]; rfl
  · simp only [if_neg a]
    by_cases b : n < 256
    · simp only [if_pos b]
      have e1 : n / 4096 = 0 := by omega
      have e2 : n / 256 % 16 = 0 := by omega
      have e3 : n / 16 % 16 = n / 16 := by omega
      rw [e1, e2, e3, d0]; rfl
    · simp only [if_neg b]
      by_cases c : n < 4096
      · simp only [if_pos c]
        have e1 : n / 4096 = 0 := by omega
        have e2 : n / 256 % 16 = n / 16 / 16 := by omega
        rw [e1, e2, d0]; rfl
      · simp only [if_neg c]
        have e1 : n / 4096 = n / 16 / 16 / 16 := by omega
        have e2 : n / 256 % 16 = n / 16 / 16 % 16 := by omega
        rw [e1, e2]; rfl
set_option maxHeartbeats 1000000 in
theorem hex_calls (n : Int) (h0 : 0 ≤ n) (h1 : n < 65536) (w : World) (h : NumT w) :
    Calls Tryd.prog 71 #[.int .u16 n] w fun e w' => e = .returned (.string (hex4 n)) ∧ Below w.heap.size w w' := by
  have HF := Aside0.mk (fu_calls n h0 h1 w h)
  have hz : 1 ≤ (hexS n).size ∧ (hexS n).size ≤ 4 := by rw [hexS_size]; split <;> (try split) <;> (try split) <;> omega
  have HP := Aside0.mk (hexS_pad n h0 h1)
  obtain ⟨s, hs⟩ : ∃ s, s = hexS n := ⟨_, rfl⟩
  rw [← hs] at HF hz HP
  obtain ⟨c, hc⟩ : ∃ c, c = 4 - s.size := ⟨_, rfl⟩
  have hr : ∀ w, Calls Tryd.prog 76 #[.string ⟨#[48]⟩, .int .i64 (4 - (s.size : Int))] w fun e w' => e = .returned (.string ⟨(Lib.repeatL [48] c).toArray⟩) ∧ Below w.heap.size w w' := fun w => by
    have e : (4 - (s.size : Int)) = ((c : Nat) : Int) := by omega
    rw [e]; exact rep_calls c (by omega) w
  rw [← hc] at HP
  have HR := Aside0.mk hr
  have hl : ((⟨(Lib.repeatL [48] c).toArray⟩ : ByteArray).size + s.size ≤ 9223372036854775807) := by
    have := congrArg ByteArray.size HP.out
    rw [ByteArray.size_append] at this
    have h4 : (hex4 n).size = 4 := rfl
    omega
  clear hr h hs hc
  obtain ⟨hz1, hz4⟩ := hz
  go_enter Tryd.func71, Tryd.ntmps71
  go_wp2_with (first | (go_at_call 75; refine HF.out.mono ?_; rintro e w1 ⟨rfl, hb1⟩) | (go_at_call 76; refine (HR.out _).mono ?_; rintro e w2 ⟨rfl, hb2⟩))
  go_ret
  exact ⟨ret_str HP.out, hb1.trans (hb2.mono hb1.size)⟩
end Go.Proofs.YtmcjfnebkpifnaaDoor
