/-
  fault.Join.
-/
import Derived.Test.YtelmmcjlhjahcaaDoorFaJoin
import Derived.Test.YtelmmcjlhjahcaaDoorShelfD
namespace Go.Proofs.YtelmmcjlhjahcaaDoor
open Go.RowKit Go.Proofs.YtelmmcjlhjahcaaDoorW.PrintWords Go.Proofs.YtelmmcjlhjahcaaDoorW.PrintLast Go.Proofs.YtelmmcjlhjahcaaDoorW.PrintMore
open Go.Sort (putRow putCells Holds size_putRow mapBlock)
set_option linter.unusedVariables false
set_option linter.unusedSimpArgs false
set_option maxRecDepth 100000

theorem below_putRow {B : Nat} {a w : World} (h : Below B a w) {α : Type} [Inhabited α] (enc : α → Value) (q g off : Nat) (d : Array α) (hg : B ≤ g) : Below B a (putRow enc (Go.Sort.ahead w q) g off d) :=
  ⟨h.os, h.tape, h.output, by rw [size_putRow]; exact h.size, fun k hk => by
    rw [← h.block k hk]
    show ((w.heap.modify g _)[k]?) = _
    rw [Array.getElem?_modify, if_neg (by omega)]⟩
theorem fn_gives (W : World) (x : Option (TypeId × Value)) : FnGives Tryd.prog 44 #[] #[encE x] (.bool x.isNone) W := by
  unfold FnGives
  cases x with
  | none => exact (isnil_nil W).mono fun e w' h => ⟨h.1, 0, h.2⟩
  | some p => exact (isnil_some W p.1 p.2).mono fun e w' h => ⟨h.1, 0, h.2⟩
theorem zero_err (w : World) : (zeroValue 29).run Tryd.prog w = .ok (encE none) w := by kernel_rfl

theorem own_holds {w : World} {base g c : Nat} {xs : List (Option (TypeId × Value))} (h : w.ownsRow base 29 1 (.slice (some ⟨g, 0, none⟩) xs.length c) xs.length (encs encE xs)) : Holds encE w g 0 xs.toArray := by
  intro j hj
  have hj' : j < xs.length := by simpa using hj
  rcases h.2 with ⟨h1, _⟩ | ⟨g', c', cur, he, hb, hg, hn, _, hs, ht⟩
  · exact absurd h1 (by simp)
  · obtain ⟨rfl, rfl⟩ : g = g' ∧ c = c' := by simpa using he
    rw [Nat.mul_one] at hs ht
    refine ⟨?_, ?_⟩
    · rw [Nat.zero_add, cell_of_row _ _ _ _ _ _ hg]
      have h2 : (cur.toList.take xs.length)[j]? = (encs encE xs)[j]? := by rw [ht]
      rw [List.getElem?_take, if_pos hj'] at h2
      rw [← Array.getElem?_toList, h2]
      simp [encs, hj', getElem!_pos]
    · simp [World.frozen?, hg]
theorem putRow_block {w : World} {g : Nat} {cs : Array Value} {t : TypeId} (hg : w.heap[g]? = some (.cells cs t (0, 0))) (q : Nat) (d : Array (Option (TypeId × Value))) : (putRow encE (Go.Sort.ahead w q) g 0 d).heap[g]? = some (.cells (putCells encE 0 d cs) t (0, 0)) := by
  show ((w.heap.modify g _)[g]?) = _
  rw [Array.getElem?_modify, if_pos rfl, hg]
  rfl
/-- What is kept. -/
theorem own_kept {w : World} {base g c : Nat} {xs ys : List (Option (TypeId × Value))} (h : w.ownsRow base 29 1 (.slice (some ⟨g, 0, none⟩) xs.length c) xs.length (encs encE xs)) (q k : Nat) (hk : ys.length + k = xs.length) :
    (putRow encE (Go.Sort.ahead w q) g 0 (ys ++ List.replicate k none).toArray).ownsRow base 29 1 (.slice (some ⟨g, 0, none⟩) ys.length c) ys.length (encs encE ys) := by
  rcases h.2 with ⟨h1, _⟩ | ⟨g', c', cur, he, hb, hg, hn, hc, hs, ht⟩
  · exact absurd h1 (by simp)
  · obtain ⟨rfl, rfl⟩ : g = g' ∧ c = c' := by simpa using he
    refine ⟨by simp [encs], .inr ⟨g, c, _, rfl, hb, putRow_block hg q _, by omega, hc, by simp [putCells]; omega, ?_⟩⟩
    rw [Nat.mul_one] at hs ⊢
    apply List.ext_getElem?
    intro j
    rw [List.getElem?_take]
    by_cases hj : j < ys.length
    · rw [if_pos hj]
      have hjc : j < cur.size := by omega
      simp only [putCells, Array.getElem?_toList, Array.getElem?_mapIdx, Array.getElem?_eq_getElem hjc, Option.map_some]
      rw [if_pos ⟨Nat.zero_le _, by simp; omega⟩]
      simp [encs, hj, getElem!_pos, List.getElem?_append_left]
    · rw [if_neg hj]
      simp [encs, Nat.le_of_not_lt hj]

/-- What fault.Join hands back of these: none, the only one, or all of them joined. -/
def JoinV (w : World) (base : Nat) (ys : List (Option (TypeId × Value))) (v : Value) : Prop :=
  match ys with
  | [] => v = .nilIface
  | [y] => v = encE y
  | _ => ∃ g g' c, v = .iface 91 (.pointer (some ⟨g, 0, none⟩)) ∧ base ≤ g ∧ w.heap[g]? = some (.cells #[.slice (some ⟨g', 0, none⟩) ys.length c] 93 (0, 0)) ∧ kErr.R 29 w base (fun _ => True) (.slice (some ⟨g', 0, none⟩) ys.length c) ys

def keptE (xs : List (Option (TypeId × Value))) : List (Option (TypeId × Value)) := xs.filter fun x => x.isSome

theorem clone_del (a : Addr) (n c : Nat) (xs : List (Option (TypeId × Value))) (w : World) (hn : xs.length = n) (h0 : 0 < n) (hc : n ≤ c) (hl : n ≤ 100000) (hr : kErr.C w (some a) n xs) :
    Calls Tryd.prog 43 #[.slice (some a) n c] w fun ev w' => ∃ g k, ev = .returned (.slice (some ⟨g, 0, none⟩) n k) ∧ w.heap.size ≤ g ∧ n ≤ k ∧ Holds encE w' g 0 xs.toArray ∧ w'.ownsRow w.heap.size 29 1 (.slice (some ⟨g, 0, none⟩) xs.length k) xs.length (encs encE xs) ∧ Below w.heap.size w w' := by
  refine (cloneE_calls a n c xs w hn hc hl hr).mono ?_
  rintro ev w' ⟨A, m, k, rfl, hv, hb⟩
  have ho := Kd.own_of_R hv
  rcases id ho.2 with ⟨h1, h2⟩ | ⟨g, c', cur, he, hg, hh, hn', hm, _⟩
  · omega
  · obtain ⟨rfl, rfl, rfl⟩ : A = some ⟨g, 0, none⟩ ∧ m = xs.length ∧ k = c' := by simpa using he
    subst hn
    exact ⟨g, k, rfl, hg, hn', own_holds ho, ho, hb⟩
theorem del_calls (g k : Nat) (xs : List (Option (TypeId × Value))) (w : World) (hl : xs.length ≤ 100000) (hk : xs.length ≤ k) (hh : Holds encE w g 0 xs.toArray) :
    Calls Tryd.prog 42 #[.slice (some ⟨g, 0, none⟩) xs.length k, .func (.func 44) #[] #[]] w fun ev w' => ev = .returned (.slice (some ⟨g, 0, none⟩) (keptE xs).length k) ∧ ∃ q, w' = putRow encE (Go.Sort.ahead w q) g 0 (keptE xs ++ List.replicate (xs.length - (keptE xs).length) none).toArray := by
  have h := Tryd.slices_DeleteFunc encE encE_one (fun x => x.isNone) 44 #[] (enters_of Tryd.func44 (by kernel_rfl) rfl) none zero_err g 0 k xs.toArray w (fun W x _ => fn_gives W x) (fun n os dk x _ => fn_gives _ x) hh (by simp; omega) (by simpa using hk)
  simpa [keptE] using h
theorem join_calls (a : Addr) (n c : Nat) (xs : List (Option (TypeId × Value))) (w : World) (hn : xs.length = n) (h0 : 0 < n) (hc : n ≤ c) (hl : n ≤ 100000) (hr : kErr.C w (some a) n xs) :
    Calls Tryd.prog 21 #[.slice (some a) n c] w fun ev w' => ∃ v, ev = .returned v ∧ JoinV w' w.heap.size (keptE xs) v ∧ Below w.heap.size w w' := by
  have HC := Aside0.mk (clone_del a n c xs w hn h0 hc hl hr)
  have HN := Aside0.mk hn
  clear hr hn
  go_enter Tryd.func21, Tryd.ntmps21
  go_wp2_with fail
  with_reducible refine HC.out.mono ?_
  rintro ev w1 ⟨g, k, rfl, hg, hk, hh, ho, hb⟩
  obtain rfl := HN.out
  have HD := Aside0.mk (del_calls g k xs w1 hl hk hh)
  have HO := Aside0.mk ho
  have HB := Aside0.mk hb
  clear hh ho hb
  obtain ⟨ys, hys⟩ : ∃ ys, ys = keptE xs := ⟨_, rfl⟩
  have hle : ys.length ≤ xs.length := by rw [hys]; exact List.length_filter_le _ _
  rw [← hys] at HD
  refine (?_ : Aside0 (ys = keptE xs) → _) ⟨hys⟩
  clear hys
  intro HYS
  go_wp2_with fail
  with_reducible refine HD.out.mono ?_
  rintro ev w2 ⟨rfl, q, hw2⟩
  have hq := own_kept (xs := xs) (ys := ys) HO.out q (xs.length - ys.length) (by omega)
  have hb2 : Below w.heap.size w w2 := by rw [hw2]; exact below_putRow HB.out encE q g 0 _ hg
  rw [← hw2] at hq
  have HQ := Aside0.mk hq
  have HB2 := Aside0.mk hb2
  clear hq hb2 hw2 HD HO
  rcases ys with _ | ⟨y, _ | ⟨z, r⟩⟩
  · go_wp2
    go_ret
    exact ⟨_, rfl, by rw [← HYS.out]; rfl, HB2.out⟩
  · simp only [List.length_cons, List.length_nil, Nat.zero_add] at HQ ⊢
    have hc : w2.cell? ⟨g, 0, none⟩ = some (encE y) := by
      rcases HQ.out.2 with ⟨h1, _⟩ | ⟨g', c', cur, he, hb, hg', hn, _, hs, ht⟩
      · exact absurd h1 (by simp)
      · obtain ⟨rfl, rfl⟩ : g = g' ∧ k = c' := by simpa using he
        rw [cell_of_row _ _ _ _ _ _ hg', ← Array.getElem?_toList]
        have h2 : (cur.toList.take 1)[0]? = (encs encE [y])[0]? := by rw [← ht]
        rw [List.getElem?_take, if_pos (by decide)] at h2
        rw [h2]; rfl
    go_wp2
    go_ret
    exact ⟨_, rfl, by rw [← HYS.out]; rfl, HB2.out⟩
  · have HK : Aside0 (kErr.R 29 w2 w.heap.size (fun _ => True) (.slice (some ⟨g, 0, none⟩) (y :: z :: r).length k) (y :: z :: r)) := ⟨Kd.R_of_own HQ.out (fun _ _ => trivial)⟩
    obtain ⟨m, hm⟩ : ∃ m, m = (y :: z :: r).length := ⟨_, rfl⟩
    have hm2 : 2 ≤ m := by rw [hm]; simp
    have hmL : m ≤ 100000 := by omega
    have HM := Aside0.mk hm
    rw [← hm] at HK ⊢
    have t0 : ((m : Int) == 0) = false := by rw [beq_eq_false_iff_ne]; omega
    have t1 : ((m : Int) == 1) = false := by rw [beq_eq_false_iff_ne]; omega
    clear hm HQ
    go_wp2
    go_ret
    refine ⟨_, rfl, ?_, below_alloc HB2.out _⟩
    rw [← HYS.out]
    exact ⟨_, g, k, rfl, HB2.out.size, by rw [← HM.out]; exact heap_alloc_new w2 _, by rw [← HM.out]; exact Kd.R_alloc HK.out _⟩
end Go.Proofs.YtelmmcjlhjahcaaDoor
