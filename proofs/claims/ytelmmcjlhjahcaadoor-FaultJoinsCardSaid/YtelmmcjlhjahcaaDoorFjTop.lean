/-
  FaultJoins: what an error that was joined and put in words tells.
-/
import Derived.Test.YtelmmcjlhjahcaaDoorFjPure
import Derived.Test.YtelmmcjlhjahcaaDoorFaIsW
namespace Go.Proofs.YtelmmcjlhjahcaaDoor
open Go.RowKit Go.Proofs.YtelmmcjlhjahcaaDoorW.PrintWords Go.Proofs.YtelmmcjlhjahcaaDoorW.PrintLast Go.Proofs.YtelmmcjlhjahcaaDoorW.PrintMore Go.Proofs.YtelmmcjlhjahcaaDoor.PFaultTells
open Go.Sort (putRow)
set_option linter.unusedVariables false
set_option linter.unusedSimpArgs false
set_option maxRecDepth 100000

def OneE (w : World) (x : Option (TypeId × Value)) (f : S24) : Prop := if f.f0 = 0 then x = none else ∃ p, x = some p ∧ As.EV w (.iface p.1 p.2) (insOf f.f2) (.fault f.f0 f.f1)
def AllE (w : World) : List (Option (TypeId × Value)) → List S24 → Prop
  | [], [] => True
  | x :: xs, f :: fs => OneE w x f ∧ AllE w xs fs
  | [], _ :: _ => False
  | _ :: _, [] => False
theorem OneE.below {w w' : World} (hb : Below w.heap.size w w') {x : Option (TypeId × Value)} {f : S24} (h : OneE w x f) : OneE w' x f := by
  unfold OneE at *
  by_cases h0 : f.f0 = 0
  · rw [if_pos h0] at h ⊢; exact h
  · rw [if_neg h0] at h ⊢
    obtain ⟨p, h1, h2⟩ := h
    exact ⟨p, h1, As.EV_keep hb h2⟩
theorem AllE.below {w w' : World} (hb : Below w.heap.size w w') : ∀ {xs : List (Option (TypeId × Value))} {fs : List S24}, AllE w xs fs → AllE w' xs fs
  | [], [], _ => trivial
  | x :: xs, f :: fs, h => ⟨h.1.below hb, AllE.below hb h.2⟩
  | [], _ :: _, h => h.elim
  | _ :: _, [], h => h.elim
theorem AllE.snoc {w : World} {x : Option (TypeId × Value)} {f : S24} (hx : OneE w x f) : ∀ {xs : List (Option (TypeId × Value))} {fs : List S24}, AllE w xs fs → AllE w (xs ++ [x]) (fs ++ [f])
  | [], [], _ => ⟨hx, trivial⟩
  | y :: xs, g :: fs, h => ⟨h.1, AllE.snoc hx h.2⟩
  | [], _ :: _, h => h.elim
  | _ :: _, [], h => h.elim
theorem AllE.len {w : World} : ∀ {xs : List (Option (TypeId × Value))} {fs : List S24}, AllE w xs fs → xs.length = fs.length
  | [], [], _ => rfl
  | y :: xs, g :: fs, h => congrArg (· + 1) (AllE.len h.2)
  | [], _ :: _, h => h.elim
  | _ :: _, [], h => h.elim
theorem AllE.kept {w : World} : ∀ {xs : List (Option (TypeId × Value))} {fs : List S24}, AllE w xs fs → (keptE xs).length = (esOf fs).length ∧ ∀ i, i < (keptE xs).length → As.EV w (encE ((keptE xs).getD i none)) ((esOf fs).getD i ([], .errno 0)).1 ((esOf fs).getD i ([], .errno 0)).2
  | [], [], _ => ⟨rfl, fun i hi => absurd hi (Nat.not_lt_zero _)⟩
  | y :: xs, g :: fs, h => by
    have ih := AllE.kept h.2
    have h1 := h.1
    unfold OneE at h1
    by_cases h0 : g.f0 = 0
    · rw [if_pos h0] at h1
      subst h1
      have e1 : keptE (none :: xs) = keptE xs := rfl
      have e2 : esOf (g :: fs) = esOf fs := by unfold esOf; rw [nzF_cons, if_pos h0]
      rw [e1, e2]; exact ih
    · rw [if_neg h0] at h1
      obtain ⟨p, rfl, hp⟩ := h1
      have e1 : keptE (some p :: xs) = some p :: keptE xs := rfl
      have e2 : esOf (g :: fs) = (insOf g.f2, .fault g.f0 g.f1) :: esOf fs := by unfold esOf; rw [nzF_cons, if_neg h0]; rfl
      rw [e1, e2]
      refine ⟨by simp [ih.1], fun i hi => ?_⟩
      cases i with
      | zero => exact hp
      | succ i =>
        have := ih.2 i (by simpa using hi)
        simpa using this
  | [], _ :: _, h => h.elim
  | _ :: _, [], h => h.elim

/-- A row of errors has been written. -/
structure RowOnly (w w' : World) : Prop where
  kept : ∀ (g : Nat) cells (t : TypeId), w.heap[g]? = some (.cells cells t (0, 0)) → t ≠ 29 → w'.heap[g]? = some (.cells cells t (0, 0))
  size : w.heap.size ≤ w'.heap.size
theorem rowOnly {w w' : World} {v : Value} {n : Nat} {inner : List Value} {base : Nat} (ho : w.ownsRow base 29 1 v n inner) (hg : w.grownBy w' v.ownBlock) : RowOnly w w' where
  kept := fun g cells t h ht => by
    rw [hg.block g (blk_lt h) ?_]; exact h
    intro he
    obtain ⟨cs, hc⟩ := own_typed ho g he.symm
    rw [hc] at h
    injection h with h
    injection h with _ h
    exact ht h.symm
  size := hg.size
theorem neFE : (81 : Nat) ≠ 29 := by decide
theorem neIE : (86 : Nat) ≠ 29 := by decide
theorem neSE : (9 : Nat) ≠ 29 := by decide
theorem EV_row {w w' : World} (hk : RowOnly w w') {v : Value} {ins : List (List ByteArray)} {b : As.Base} (h : As.EV w v ins b) : As.EV w' v ins b := by
  induction ins generalizing v with
  | nil =>
    cases b with
    | errno e => exact h
    | fault e a => obtain ⟨g, rfl, hg⟩ := h; exact ⟨g, rfl, hk.kept _ _ _ hg neFE⟩
  | cons xs ins ih =>
    obtain ⟨g, ws, err, rfl, hg, hr, he⟩ := h
    refine ⟨g, ws, err, rfl, hk.kept _ _ _ hg neIE, ?_, ih he⟩
    refine Kd.R_mono (Kd.R_move (Kd.R_bound hr) (fun k hk' => ?_)) (fun _ _ => trivial)
    obtain ⟨_, _, _, q, hq, cells, hc⟩ := hk'
    have hq' : q = 9 := by
      rcases List.mem_cons.1 hq with h | h
      · exact h
      · cases h
    subst hq'
    rw [hc]
    exact hk.kept _ _ _ hc neSE
theorem OneE.row {w w' : World} (hk : RowOnly w w') {x : Option (TypeId × Value)} {f : S24} (h : OneE w x f) : OneE w' x f := by
  unfold OneE at *
  by_cases h0 : f.f0 = 0
  · rw [if_pos h0] at h ⊢; exact h
  · rw [if_neg h0] at h ⊢
    obtain ⟨p, h1, h2⟩ := h
    exact ⟨p, h1, EV_row hk h2⟩
theorem AllE.row {w w' : World} (hk : RowOnly w w') : ∀ {xs : List (Option (TypeId × Value))} {fs : List S24}, AllE w xs fs → AllE w' xs fs
  | [], [], _ => trivial
  | x :: xs, f :: fs, h => ⟨h.1.row hk, AllE.row hk h.2⟩
  | [], _ :: _, h => h.elim
  | _ :: _, [], h => h.elim

theorem made_one (w : World) (e a : Int) (A : Option Addr) (n c : Nat) (xss : List (List ByteArray)) (hr : (Kd.slice 9 Kd.string).C w A n xss) (hc : n ≤ c) (hs : SmallF ⟨e, a, xss⟩) :
    Calls Tryd.prog 14 #[.agg #[.int .i64 e, .int .i64 a, .slice A n c]] w fun ev w' => ∃ o, ev = .returned (encE o) ∧ OneE w' o ⟨e, a, xss⟩ ∧ Below w.heap.size w w' := by
  have hn : n ≤ 10 := by rw [← Kd.C_len hr]; exact hs.1
  have hx : ∀ x ∈ xss, x.length ≤ 10 := hs.2
  by_cases he : e = 0
  · subst he
    refine (made_zero w a A n c xss hr hn).mono ?_
    rintro ev w' ⟨rfl, hb⟩
    exact ⟨none, rfl, by unfold OneE; rw [if_pos rfl], hb⟩
  · refine (made_calls w e a A n c xss (beq_eq_false_iff_ne.2 he) hr hc (by omega) (fun x h => Nat.le_trans (hx x h) (by decide))).mono ?_
    rintro ev w' ⟨t, x, rfl, hv, hb⟩
    exact ⟨some (t, x), rfl, by unfold OneE; rw [if_neg he]; exact ⟨(t, x), rfl, hv⟩, hb⟩

/-- What an error tells, from w on. -/
structure Fin (w : World) (v : Value) (cv av : Int) (fl : List ByteArray) (p : Int → Bool) : Prop where
  code : ∀ W, Below w.heap.size w W → Calls Tryd.prog 16 #[v] W fun e w' => e = .returned (.int .i64 cv) ∧ Below W.heap.size W w'
  at_ : ∀ W, Below w.heap.size w W → Calls Tryd.prog 15 #[v] W fun e w' => e = .returned (.tuple #[.int .i64 av, .bool true]) ∧ Below W.heap.size W w'
  words : ∀ W, Below w.heap.size w W → Calls Tryd.prog 18 #[v] W fun e w' => ∃ A1 c1, e = .returned (.slice A1 fl.length c1) ∧ Aside0 (fl.length ≤ c1 ∧ Kd.string.C w' A1 fl.length fl) ∧ Below W.heap.size W w'
  tells : Tells w v p
theorem fin_EV {w : World} {v : Value} {ins : List (List ByteArray)} {n a : Int} (h : As.EV w v ins (.fault n a)) (hE : As.ErrT w) (hl : ins.flatten.length ≤ 1000000) : Fin w v n a ins.flatten (fun k => n == k) where
  code := fun W hb => As.code_calls _ _ _ W (As.EV_keep hb h) (hE.below hb)
  at_ := fun W hb => As.at_calls _ _ _ W (As.EV_keep hb h) (hE.below hb)
  words := fun W hb => (words_calls W _ _ _ (As.EV_keep hb h) hl).mono fun ev w'' ⟨A1, n1, c1, h1, h2, h3⟩ => by
    obtain ⟨m1, m2, m3⟩ := Kd.R_reads' h2
    subst m1
    exact ⟨A1, c1, h1, ⟨m2, m3⟩, h3⟩
  tells := tells_EV h
theorem fin_JV {w : World} {v : Value} {ins i0 : List (List ByteArray)} {n a : Int} {es : List (List (List ByteArray) × As.Base)} (h : As.JV w v ins ((i0, .fault n a) :: es)) (hE : As.ErrT w) (hl : ins.flatten.length ≤ 1000000) : Fin w v n a ins.flatten (As.hits ((i0, .fault n a) :: es)) where
  code := fun W hb => As.code_callsJ _ _ _ _ _ _ W (As.JV_keep hb h) (hE.below hb)
  at_ := fun W hb => As.at_callsJ _ _ _ _ _ _ W (As.JV_keep hb h) (hE.below hb)
  words := fun W hb => (words_callsJ W _ _ _ (As.JV_keep hb h) hl).mono fun ev w'' ⟨A1, n1, c1, h1, h2, h3⟩ => by
    obtain ⟨m1, m2, m3⟩ := Kd.R_reads' h2
    subst m1
    exact ⟨A1, c1, h1, ⟨m2, m3⟩, h3⟩
  tells := fun W hb k => by
    obtain ⟨t, x, rfl⟩ := As.JV_iface h
    exact As.is_of t x k _ W (As.is2_callsJ _ _ _ k W (As.JV_keep hb h))

theorem in_evJ (w : World) (v : Value) (ins : List (List ByteArray)) (es : List (List (List ByteArray) × As.Base)) (A : Option Addr) (n c : Nat) (xs : List ByteArray) (hv : As.JV w v ins es) (hn : xs.length = n) (hc : n ≤ c) (hl : n ≤ 100000) (hr : Kd.string.C w A n xs) :
    Calls Tryd.prog 20 #[v, .slice A n c] w fun e w' => ∃ t x, e = .returned (.iface t x) ∧ As.JV w' (.iface t x) (if xs = [] then ins else xs :: ins) es ∧ Below w.heap.size w w' := by
  obtain ⟨ut, ux, rfl⟩ := As.JV_iface hv
  by_cases h0 : xs = []
  · subst h0
    obtain rfl : 0 = n := hn
    refine (in_zero w ut ux A c).mono ?_
    rintro e w' ⟨rfl, rfl⟩
    exact ⟨_, _, rfl, by rw [if_pos rfl]; exact hv, Below.refl _ _⟩
  · have hpos : 0 < n := by rw [← hn]; exact List.length_pos_iff.2 h0
    obtain ⟨a, rfl, _⟩ := hr.2.2 hpos
    refine (in_calls ut ux a n c xs w hn hpos hc hl hr).mono ?_
    rintro e w' ⟨g, rfl, ⟨h1, v', h2, h3⟩, hb⟩
    refine ⟨_, _, rfl, ?_, hb⟩
    rw [if_neg h0]
    exact ⟨g, v', _, rfl, h2, Kd.R_lower h3 (Nat.zero_le _), As.JV_keep hb hv⟩

/-- The words behind the last ones. -/
def behind (f0 : S24) (rest : List S24) : List ByteArray := if rest = [] then (insOf f0.f2).flatten else []
theorem flat_if (xs : List ByteArray) (ins : List (List ByteArray)) : (if xs = [] then ins else xs :: ins).flatten = xs ++ ins.flatten := by
  by_cases h : xs = []
  · rw [if_pos h, h]; rfl
  · rw [if_neg h]; rfl
theorem in_joined (w : World) (base : Nat) (v : Value) (xs : List (Option (TypeId × Value))) (fs : List S24) (f0 : S24) (rest : List S24) (A : Option Addr) (n c : Nat) (ws : List ByteArray) (hj : JoinV w base (keptE xs) v) (ha : AllE w xs fs) (hnz : nzF fs = f0 :: rest)
    (hs : SmallF f0) (hf : fs.length ≤ 20) (hc : n ≤ c) (hl : n ≤ 10) (hr : Kd.string.C w A n ws) (hE : As.ErrT w) :
    Calls Tryd.prog 20 #[v, .slice A n c] w fun e w' => ∃ t x, e = .returned (.iface t x) ∧ Fin w' (.iface t x) f0.f0 f0.f1 (ws ++ behind f0 rest) (As.hits (esOf fs)) ∧ Below w.heap.size w w' := by
  have hn := Kd.C_len hr
  obtain ⟨hk1, hk2⟩ := ha.kept
  have he : esOf fs = (insOf f0.f2, .fault f0.f0 f0.f1) :: (rest.map fun f => (insOf f.f2, .fault f.f0 f.f1)) := by unfold esOf; rw [hnz]; rfl
  have hfl := flat10 f0.f2 hs.2
  have hs1 := hs.1
  cases rest with
  | nil =>
    rw [he] at hk1 hk2 ⊢
    match hk : keptE xs, hk1 with
    | [y], _ =>
      rw [hk] at hj hk2
      have hv : v = encE y := hj
      subst hv
      have hev := hk2 0 (by simp)
      refine (in_ev w (encE y) (insOf f0.f2) (.fault f0.f0 f0.f1) A n c ws hev hn hc (by omega) hr).mono ?_
      rintro e w' ⟨t, x, rfl, hv', hb⟩
      have hF := fin_EV hv' (hE.below hb) (by rw [flat_if, List.length_append]; omega)
      rw [flat_if] at hF
      refine ⟨t, x, rfl, ?_, hb⟩
      have e1 : (fun k => f0.f0 == k) = As.hits [(insOf f0.f2, As.Base.fault f0.f0 f0.f1)] := by
        funext k
        show _ = ((f0.f0 == k) || false)
        rw [Bool.or_false]
      rw [e1] at hF
      exact hF
  | cons f1 rest =>
    rw [he] at hk1 hk2 ⊢
    match hk : keptE xs, hk1 with
    | y :: z :: r, hk1 =>
      rw [hk] at hj hk2
      obtain ⟨g, g', c', rfl, hg, hblk, hR⟩ := hj
      obtain ⟨m1, m2, m3⟩ := Kd.R_reads' hR
      have hlen : (y :: z :: r).length ≤ 100000 := by
        have h1 : (keptE xs).length ≤ xs.length := List.length_filter_le _ _
        have h2 := ha.len
        rw [hk] at h1
        omega
      have hJ : As.JV w (.iface 91 (.pointer (some ⟨g, 0, none⟩))) [] ((insOf f0.f2, .fault f0.f0 f0.f1) :: ((f1 :: rest).map fun f => (insOf f.f2, .fault f.f0 f.f1))) :=
        ⟨g, _, _, c', y :: z :: r, rfl, hblk, rfl, hlen, m3, hk1, hk2⟩
      refine (in_evJ w _ [] _ A n c ws hJ hn hc (by omega) hr).mono ?_
      rintro e w' ⟨t, x, rfl, hv', hb⟩
      have hF := fin_JV hv' (hE.below hb) (by rw [flat_if]; simp; omega)
      rw [flat_if] at hF
      exact ⟨t, x, rfl, hF, hb⟩
/-- A clone of none. -/
theorem cloneE_zero (a : Addr) (c : Nat) (w : World) :
    Calls Tryd.prog 43 #[.slice (some a) 0 c] w fun ev w' => ∃ g k, ev = .returned (.slice (some ⟨g, 0, none⟩) 0 k) ∧ Below w.heap.size w w' := by
  have hq : (binOp .eql 56 (.slice (some a) 0 c) (.slice none 0 0)).run Tryd.prog w = .ok (.bool false) w := Lib.run_eql_slice_nil w 56 29 (some a) 0 c 0 0 Tryd.underlying56
  have R0 : Aside0 (kErr.R 29 (w.alloc (.cells #[] 29)) w.heap.size (fun _ => True) (.slice (some ⟨w.heap.size, 0, none⟩) 0 0) []) := ⟨R_empty kErr _ _ _ _ (Nat.le_refl _) trivial⟩
  have C0 : Aside0 (kErr.C (w.alloc (.cells #[] 29)) (some a) 0 []) := ⟨⟨rfl, by decide, fun h => absurd h (by decide)⟩⟩
  have B0 : Aside0 (Below w.heap.size w (w.alloc (.cells #[] 29))) := ⟨below_alloc (Below.refl _ _) _⟩
  go_enter Tryd.func43, Tryd.ntmps43
  go_wp2_with (at_builtin; refine Kd.R_append_row encE none (w0 := w) w.heap.size rfl (.tmp 5) (.tmp 6) 56 29 .nilIface 16 rfl Tryd.underlying56 infoErr rfl (by decide) (.slice (some ⟨w.heap.size, 0, none⟩) 0 0) [] [] (some a) 0 c (fun _ => True) rfl rfl (fun _ _ => trivial) R0.out C0.out B0.out ?aS ?aL ?_)
  case aS => simp
  case aL => simp
  intro v1 w1 ho hb _ hat
  have ho' := Kd.own_of_R ho
  rcases id ho'.2 with ⟨h1, h2⟩ | ⟨g, c', cur, he, hg, hh, hn', hm, _⟩
  · subst h1
    rcases hat with h | ⟨b, h, _⟩ <;> simp [Value.ownBlock] at h
  · have he' : v1 = .slice (some ⟨g, 0, none⟩) 0 c' := he
    subst he'
    go_wp2
    go_ret
    exact ⟨_, _, rfl, hb⟩
theorem join_zero (a : Addr) (c : Nat) (w : World) :
    Calls Tryd.prog 21 #[.slice (some a) 0 c] w fun ev w' => ev = .returned .nilIface ∧ Below w.heap.size w w' := by
  have HC := Aside0.mk (cloneE_zero a c w)
  have HD : Aside0 (∀ g k w1, Below w.heap.size w w1 → Calls Tryd.prog 42 #[.slice (some ⟨g, 0, none⟩) 0 k, .func (.func 44) #[] #[]] w1 fun ev w' => ev = .returned (.slice (some ⟨g, 0, none⟩) 0 k) ∧ Below w.heap.size w w') :=
    ⟨fun g k w1 hb => (del_calls g k [] w1 (by decide) (Nat.zero_le _) (fun j hj => absurd hj (Nat.not_lt_zero _))).mono fun ev w' ⟨h1, q, h2⟩ => ⟨h1, by
      have e0 : putRow encE (Go.Sort.ahead w1 q) g 0 #[] = Go.Sort.ahead w1 q := Go.Sort.putRow_self encE _ g 0 _ (fun j hj => absurd hj (Nat.not_lt_zero _))
      have h3 : w' = Go.Sort.ahead w1 q := h2.trans e0
      rw [h3]
      exact ⟨hb.os, hb.tape, hb.output, hb.size, hb.block⟩⟩⟩
  go_enter Tryd.func21, Tryd.ntmps21
  go_wp2_with fail
  with_reducible refine HC.out.mono ?_
  rintro ev w1 ⟨g, k, rfl, hb⟩
  go_wp2_with fail
  with_reducible refine (HD.out g k w1 hb).mono ?_
  rintro ev w2 ⟨rfl, hb2⟩
  go_wp2
  go_ret
  exact ⟨rfl, hb2⟩
theorem join_all (a : Addr) (n c : Nat) (xs : List (Option (TypeId × Value))) (w : World) (hn : xs.length = n) (hc : n ≤ c) (hl : n ≤ 100000) (hr : kErr.C w (some a) n xs) :
    Calls Tryd.prog 21 #[.slice (some a) n c] w fun ev w' => ∃ v, ev = .returned v ∧ JoinV w' w.heap.size (keptE xs) v ∧ Below w.heap.size w w' := by
  by_cases h0 : 0 < n
  · exact join_calls a n c xs w hn h0 hc hl hr
  · obtain rfl : n = 0 := by omega
    obtain rfl : xs = [] := List.length_eq_zero_iff.1 hn
    exact (join_zero a c w).mono fun ev w' ⟨h1, h2⟩ => ⟨_, h1, rfl, h2⟩
end Go.Proofs.YtelmmcjlhjahcaaDoor
