/-
  Four digits of base 16, there and back: pure.
-/
import Derived.Test.YtlnipkhdaikdkaaDoorNuPub
namespace Go.Proofs.YtlnipkhdaikdkaaDoor
open Go.RowKit Go.Proofs.YtlnipkhdaikdkaaDoorW.PrintWords Go.Proofs.YtlnipkhdaikdkaaDoorW.PrintLast Go.Proofs.YtlnipkhdaikdkaaDoorW.PrintMore
set_option linter.unusedVariables false

theorem bytes_ext {a b : ByteArray} (h : a.toList = b.toList) : a = b := by
  rw [ByteArray.toList_eq, ByteArray.toList_eq] at h
  apply ByteArray.ext
  exact Array.ext' h
/-- The value of a digit as the code writes it; -1: it is none. -/
def lowV (c : Int) : Int := if 48 ≤ c ∧ c ≤ 57 then c - 48 else if 97 ≤ c ∧ c ≤ 102 then c - 87 else -1
theorem low_all : ∀ n : Fin 256, (0 ≤ lowV ((n.val : Nat) : Int) → hexV ((n.val : Nat) : Int) = lowV ((n.val : Nat) : Int)) ∧ (0 ≤ lowV ((n.val : Nat) : Int) → dgt (lowV ((n.val : Nat) : Int)) = UInt8.ofNat n.val) := by decide +kernel
theorem dgt_all : ∀ j : Fin 16, lowV ((dgt ((j.val : Nat) : Int)).toNat : Int) = ((j.val : Nat) : Int) := by decide +kernel
theorem byte_fin (c : UInt8) : ∃ n : Fin 256, c.toNat = n.val ∧ c = UInt8.ofNat n.val := ⟨⟨c.toNat, c.toNat_lt⟩, rfl, by simp⟩
theorem hexV_low (c : UInt8) (h : 0 ≤ lowV (c.toNat : Int)) : hexV (c.toNat : Int) = lowV (c.toNat : Int) := by
  obtain ⟨n, h1, _⟩ := byte_fin c
  rw [h1] at h ⊢
  exact (low_all n).1 h
theorem dgt_low (c : UInt8) (h : 0 ≤ lowV (c.toNat : Int)) : dgt (lowV (c.toNat : Int)) = c := by
  obtain ⟨n, h1, h2⟩ := byte_fin c
  rw [h1] at h ⊢
  rw [h2]
  exact (low_all n).2 h
theorem low_dgt (j : Int) (h0 : 0 ≤ j) (h1 : j < 16) : lowV ((dgt j).toNat : Int) = j := by
  obtain ⟨m, rfl⟩ := Int.eq_ofNat_of_zero_le h0
  exact dgt_all ⟨m, by omega⟩
theorem lowV_range (c : Int) : -1 ≤ lowV c ∧ lowV c < 16 := by unfold lowV; split <;> (try split) <;> omega

/-- The number of four digits. -/
def unhexL : List UInt8 → Option Int
  | [a, b, c, d] => if 0 ≤ lowV (a.toNat : Int) ∧ 0 ≤ lowV (b.toNat : Int) ∧ 0 ≤ lowV (c.toNat : Int) ∧ 0 ≤ lowV (d.toNat : Int) then
      some (16 * (16 * (16 * lowV (a.toNat : Int) + lowV (b.toNat : Int)) + lowV (c.toNat : Int)) + lowV (d.toNat : Int)) else none
  | _ => none
def unhexS (s : ByteArray) : Option Int := unhexL s.data.toList
theorem unhexL_some {l : List UInt8} {u : Int} (h : unhexL l = some u) : ∃ a b c d : UInt8, l = [a, b, c, d] ∧ (0 ≤ lowV (a.toNat : Int) ∧ 0 ≤ lowV (b.toNat : Int) ∧ 0 ≤ lowV (c.toNat : Int) ∧ 0 ≤ lowV (d.toNat : Int)) ∧
    u = 16 * (16 * (16 * lowV (a.toNat : Int) + lowV (b.toNat : Int)) + lowV (c.toNat : Int)) + lowV (d.toNat : Int) := by
  match l, h with
  | [a, b, c, d], h =>
    simp only [unhexL] at h
    split at h
    · rename_i hc
      injection h with h
      exact ⟨a, b, c, d, rfl, hc, h.symm⟩
    · cases h
  | [], h => cases h
  | [_], h => cases h
  | [_, _], h => cases h
  | [_, _, _], h => cases h
  | _ :: _ :: _ :: _ :: _ :: _, h => cases h
theorem unhexS_range {s : ByteArray} {u : Int} (h : unhexS s = some u) : 0 ≤ u ∧ u < 65536 := by
  obtain ⟨a, b, c, d, _, _, rfl⟩ := unhexL_some h
  have := lowV_range (a.toNat : Int); have := lowV_range (b.toNat : Int); have := lowV_range (c.toNat : Int); have := lowV_range (d.toNat : Int)
  omega
theorem hex4_unhex {s : ByteArray} {u : Int} (h : unhexS s = some u) : hex4 u = s := by
  obtain ⟨a, b, c, d, hl, ⟨ha, hb, hc, hd⟩, hu⟩ := unhexL_some h
  have ra := lowV_range (a.toNat : Int); have rb := lowV_range (b.toNat : Int); have rc := lowV_range (c.toNat : Int); have rd := lowV_range (d.toNat : Int)
  have e0 : u / 4096 = lowV (a.toNat : Int) := by omega
  have e1 : u / 256 % 16 = lowV (b.toNat : Int) := by omega
  have e2 : u / 16 % 16 = lowV (c.toNat : Int) := by omega
  have e3 : u % 16 = lowV (d.toNat : Int) := by omega
  unfold hex4
  rw [e0, e1, e2, e3, dgt_low a ha, dgt_low b hb, dgt_low c hc, dgt_low d hd]
  apply ByteArray.ext
  apply Array.ext'
  rw [hl]
theorem unhex_hex4 (n : Int) (h0 : 0 ≤ n) (h1 : n < 65536) : unhexS (hex4 n) = some n := by
  have e : unhexS (hex4 n) = unhexL [dgt (n / 4096), dgt (n / 256 % 16), dgt (n / 16 % 16), dgt (n % 16)] := rfl
  rw [e]
  simp only [unhexL]
  rw [low_dgt _ (by omega) (by omega), low_dgt _ (by omega) (by omega), low_dgt _ (by omega) (by omega), low_dgt _ (by omega) (by omega), if_pos (by omega)]
  congr 1
  omega
theorem parseHex_range : ∀ (l : List UInt8) (acc u : Int), 0 ≤ acc → acc ≤ 65535 → parseHexM acc l = .ok u → 0 ≤ u ∧ u ≤ 65535
  | [], acc, u, h0, h1, h => by unfold parseHexM at h; injection h with h; omega
  | c :: r, acc, u, h0, h1, h => by
    unfold parseHexM at h
    split at h
    · cases h
    · split at h
      · cases h
      · exact parseHex_range r _ u (by omega) (by omega) h
theorem hexRead_range {s : ByteArray} {u : Int} (h : hexRead s = some u) : 0 ≤ u ∧ u ≤ 65535 := by
  unfold hexRead at h
  split at h
  · cases h
  · rcases hp : parseHexM 0 s.data.toList with n | _ | _
    · rw [hp] at h; injection h with h; subst h; exact parseHex_range _ 0 _ (by omega) (by omega) hp
    · rw [hp] at h; cases h
    · rw [hp] at h; cases h
theorem hexRead_unhex {s : ByteArray} {u : Int} (h : unhexS s = some u) : hexRead s = some u := by
  obtain ⟨a, b, c, d, hl, ⟨ha, hb, hc, hd⟩, hu⟩ := unhexL_some h
  have ra := lowV_range (a.toNat : Int); have rb := lowV_range (b.toNat : Int); have rc := lowV_range (c.toNat : Int); have rd := lowV_range (d.toNat : Int)
  have hz : ¬ s.size = 0 := by
    have := congrArg List.length hl
    have e : s.data.toList.length = s.size := by simp
    simp at this
    omega
  unfold hexRead
  rw [if_neg hz, hl]
  have hv : parseHexM 0 [a, b, c, d] = .ok u := by
    simp only [parseHexM]
    rw [hexV_low a ha, hexV_low b hb, hexV_low c hc, hexV_low d hd]
    rw [if_neg (by omega), if_neg (by omega), if_neg (by omega), if_neg (by omega), if_neg (by omega), if_neg (by omega), if_neg (by omega), if_neg (by omega)]
    congr 1
    omega
  rw [hv]

/-- What ReadHex answers with. -/
def rhR (s : ByteArray) : Int × Int := match unhexS s with
  | some u => (u, 0)
  | none => (0, 2)
theorem rhR_of (s : ByteArray) : rhR s = match hexRead s with
    | some u => if hex4 u = s then (u, 0) else (0, 2)
    | none => (0, 2) := by
  unfold rhR
  rcases hu : unhexS s with _ | u
  · rcases hr : hexRead s with _ | v
    · rfl
    · have hr2 := hexRead_range hr
      by_cases e : hex4 v = s
      · rw [← e, unhex_hex4 v hr2.1 (by omega)] at hu; cases hu
      · simp only [if_neg e]
  · rw [hexRead_unhex hu]
    simp only [if_pos (hex4_unhex hu)]
end Go.Proofs.YtlnipkhdaikdkaaDoor
