/- Printed texts of this seat, cut to what is used. -/
import Derived.Test.YtkobpbbegalfpaaGreatDoorPsBase
import Derived.Test.YtkobpbbegalfpaaGreatDoorPParseBodiesx10
namespace Go.Proofs.YtkobpbbegalfpaaGreatDoor.PParseBodies
open Go.RowKit YtkobpbbegalfpaaGreatDoorW.PrintWords YtkobpbbegalfpaaGreatDoorW.PrintLast YtkobpbbegalfpaaGreatDoorW.PrintMore
attribute [local go_sem] max2_int min2_int max_two min_two max_three min_three max_four min_four
set_option linter.unusedVariables false
set_option linter.unusedSimpArgs false
mutual
def sashref11_cell.l0 : Nat → ByteArray → Int → Int → Int → Int → Int → Int → Int → Int → Int → Option (Int × Int × Int × Int × Int × Int × (List (S27)) × Int × Int × Int)
 | 0, _, _, _, _, _, _, _, _, _, _ => none
 | k + 1, x0, x1, x2, x8, x289000, x289001, x289002, x289003, x289004, x289005 => if x8 < 4 then (if x8 = 1 then ((sashref11_is.f x0 x1 120).bind fun t289 => (if t289 = true then (if x8 > 1 then ((sashref11_is.f x0 x1 44).bind fun t290 => (sashref11_cell.j1 k x0 x1 x2 x8 (!t290) x289000 x289001 x289002 x289003 x289004 x289005)) else (sashref11_cell.j1 k x0 x1 x2 x8 false x289000 x289001 x289002 x289003 x289004 x289005)) else (sashref11_cell.j1 k x0 x1 x2 x8 true x289000 x289001 x289002 x289003 x289004 x289005))) else (if x8 > 1 then ((sashref11_is.f x0 x1 44).bind fun t291 => (sashref11_cell.j1 k x0 x1 x2 x8 (!t291) x289000 x289001 x289002 x289003 x289004 x289005)) else (sashref11_cell.j1 k x0 x1 x2 x8 false x289000 x289001 x289002 x289003 x289004 x289005))) else ((sashref11_is.f x0 x1 123).bind fun t319 => (if t319 = true then (sashref11_cell.j3 k x0 x1 x2 false x289000 x289001 x289002 x289003 x289004 x289005) else ((sashref11_is.f x0 x1 91).bind fun t320 => (sashref11_cell.j3 k x0 x1 x2 (!t320) x289000 x289001 x289002 x289003 x289004 x289005))))
def sashref11_cell.j1 : Nat → ByteArray → Int → Int → Int → Bool → Int → Int → Int → Int → Int → Int → Option (Int × Int × Int × Int × Int × Int × (List (S27)) × Int × Int × Int)
 | 0, _, _, _, _, _, _, _, _, _, _, _ => none
 | k + 1, x0, x1, x2, x8, x40, x289000, x289001, x289002, x289003, x289004, x289005 => if x40 = true then ((sashref11_bad.f 2 x1).bind fun bt292 => (some (bt292.1, bt292.2.1, bt292.2.2.1, bt292.2.2.2.1, bt292.2.2.2.2.1, bt292.2.2.2.2.2.1, bt292.2.2.2.2.2.2.1, bt292.2.2.2.2.2.2.2.1, bt292.2.2.2.2.2.2.2.2.1, bt292.2.2.2.2.2.2.2.2.2))) else (if x8 > 0 then (sashref11_cell.j2 k x0 (wrap64 (x1 + 1)) x2 x8 x289000 x289001 x289002 x289003 x289004 x289005) else (sashref11_cell.j2 k x0 x1 x2 x8 x289000 x289001 x289002 x289003 x289004 x289005))
def sashref11_cell.j2 : Nat → ByteArray → Int → Int → Int → Int → Int → Int → Int → Int → Int → Option (Int × Int × Int × Int × Int × Int × (List (S27)) × Int × Int × Int)
 | 0, _, _, _, _, _, _, _, _, _, _ => none
 | k + 1, x0, x1, x2, x8, x289000, x289001, x289002, x289003, x289004, x289005 => if 0 ≤ x1 then (if x1 ≤ (x0.size : Int) then ((sashref01_Head.f k (x0.extract (x1 : Int).toNat x0.size)).bind fun bt304 => (if bt304.2.2 = 0 then (if x8 = 0 then (sashref11_cell.l0 k x0 (wrap64 (x1 + bt304.2.1)) x2 (wrap64 (x8 + 1)) x289000 x289001 x289002 bt304.1 x289004 x289005) else (if x8 = 1 then (sashref11_cell.l0 k x0 (wrap64 (x1 + bt304.2.1)) x2 (wrap64 (x8 + 1)) x289000 x289001 x289002 x289003 bt304.1 x289005) else (if x8 = 2 then (sashref11_cell.l0 k x0 (wrap64 (x1 + bt304.2.1)) x2 (wrap64 (x8 + 1)) x289000 bt304.1 x289002 x289003 x289004 x289005) else (sashref11_cell.l0 k x0 (wrap64 (x1 + bt304.2.1)) x2 (wrap64 (x8 + 1)) x289000 x289001 bt304.1 x289003 x289004 x289005)))) else ((sashref11_bad.f bt304.2.2 x1).bind fun bt307 => (some (bt307.1, bt307.2.1, bt307.2.2.1, bt307.2.2.2.1, bt307.2.2.2.2.1, bt307.2.2.2.2.2.1, bt307.2.2.2.2.2.2.1, bt307.2.2.2.2.2.2.2.1, bt307.2.2.2.2.2.2.2.2.1, bt307.2.2.2.2.2.2.2.2.2))))) else (none)) else (none)
def sashref11_cell.j3 : Nat → ByteArray → Int → Int → Bool → Int → Int → Int → Int → Int → Int → Option (Int × Int × Int × Int × Int × Int × (List (S27)) × Int × Int × Int)
 | 0, _, _, _, _, _, _, _, _, _, _ => none
 | k + 1, x0, x1, x2, x91, x289000, x289001, x289002, x289003, x289004, x289005 => if x91 = true then ((sashref11_is.f x0 x1 44).bind fun t321 => (if t321 = true then (if 0 ≤ (wrap64 (x1 + 1)) then (if (wrap64 (x1 + 1)) ≤ (x0.size : Int) then ((sashref01_Head.f k (x0.extract ((wrap64 (x1 + 1)) : Int).toNat x0.size)).bind fun bt334 => (if bt334.2.2 = 0 then (some (1, x289001, x289002, x289003, x289004, bt334.1, ([] : List (S27)), wrap64 ((wrap64 (x1 + 1)) + bt334.2.1), 0, 0)) else ((sashref11_bad.f bt334.2.2 (wrap64 (x1 + 1))).bind fun bt337 => (some (bt337.1, bt337.2.1, bt337.2.2.1, bt337.2.2.2.1, bt337.2.2.2.2.1, bt337.2.2.2.2.2.1, bt337.2.2.2.2.2.2.1, bt337.2.2.2.2.2.2.2.1, bt337.2.2.2.2.2.2.2.2.1, bt337.2.2.2.2.2.2.2.2.2))))) else (none)) else (none)) else ((sashref11_bad.f 2 x1).bind fun bt322 => (some (bt322.1, bt322.2.1, bt322.2.2.1, bt322.2.2.2.1, bt322.2.2.2.2.1, bt322.2.2.2.2.2.1, bt322.2.2.2.2.2.2.1, bt322.2.2.2.2.2.2.2.1, bt322.2.2.2.2.2.2.2.2.1, bt322.2.2.2.2.2.2.2.2.2))))) else ((sashref11_is.f x0 x1 91).bind fun t349 => (if t349 = true then (sashref11_cell.j4 k x0 x1 x2 93 3 x289001 x289002 x289003 x289004 x289005) else (sashref11_cell.j4 k x0 x1 x2 125 2 x289001 x289002 x289003 x289004 x289005)))
def sashref11_cell.j4 : Nat → ByteArray → Int → Int → Int → Int → Int → Int → Int → Int → Int → Option (Int × Int × Int × Int × Int × Int × (List (S27)) × Int × Int × Int)
 | 0, _, _, _, _, _, _, _, _, _, _ => none
 | k + 1, x0, x1, x2, x15, x289000, x289001, x289002, x289003, x289004, x289005 => if x2 ≥ 1000 then ((sashref11_bad.f 3 x1).bind fun bt350 => (some (bt350.1, bt350.2.1, bt350.2.2.1, bt350.2.2.2.1, bt350.2.2.2.2.1, bt350.2.2.2.2.2.1, bt350.2.2.2.2.2.2.1, bt350.2.2.2.2.2.2.2.1, bt350.2.2.2.2.2.2.2.2.1, bt350.2.2.2.2.2.2.2.2.2))) else (sashref11_cell.l1 k x0 (wrap64 (x1 + 1)) x2 x15 (([] : List (S27))) x289000 x289001 x289002 x289003 x289004 x289005)
def sashref11_cell.l1 : Nat → ByteArray → Int → Int → Int → List (S27) → Int → Int → Int → Int → Int → Int → Option (Int × Int × Int × Int × Int × Int × (List (S27)) × Int × Int × Int)
 | 0, _, _, _, _, _, _, _, _, _, _, _ => none
 | k + 1, x0, x1, x2, x15, x16, x289000, x289001, x289002, x289003, x289004, x289005 => if (x16.length : Int) < 2 then (sashref11_cell.j6 k x0 x1 x2 x15 x16 true x289000 x289001 x289002 x289003 x289004 x289005) else ((sashref11_is.f x0 x1 x15).bind fun t365 => (sashref11_cell.j6 k x0 x1 x2 x15 x16 (!t365) x289000 x289001 x289002 x289003 x289004 x289005))
def sashref11_cell.j6 : Nat → ByteArray → Int → Int → Int → List (S27) → Bool → Int → Int → Int → Int → Int → Int → Option (Int × Int × Int × Int × Int × Int × (List (S27)) × Int × Int × Int)
 | 0, _, _, _, _, _, _, _, _, _, _, _, _ => none
 | k + 1, x0, x1, x2, x15, x16, x143, x289000, x289001, x289002, x289003, x289004, x289005 => if x143 = true then (if (x16.length : Int) > 0 then ((sashref11_is.f x0 x1 44).bind fun t366 => (if t366 = true then ((sashref11_cell.f k x0 (wrap64 (x1 + 1)) (wrap64 (x2 + 1))).bind fun bt367 => (if bt367.2.2.2.2.2.2.2.2.1 = 0 then (if x16.length < 1954687338268 then (sashref11_cell.l1 k x0 bt367.2.2.2.2.2.2.2.1 x2 x15 (x16 ++ [(⟨bt367.1, (⟨bt367.2.1, bt367.2.2.1, bt367.2.2.2.1, bt367.2.2.2.2.1⟩ : S24), bt367.2.2.2.2.2.1, bt367.2.2.2.2.2.2.1⟩ : S27)]) x289000 x289001 x289002 x289003 x289004 x289005) else (none)) else (some (bt367.1, bt367.2.1, bt367.2.2.1, bt367.2.2.2.1, bt367.2.2.2.2.1, bt367.2.2.2.2.2.1, bt367.2.2.2.2.2.2.1, bt367.2.2.2.2.2.2.2.1, bt367.2.2.2.2.2.2.2.2.1, bt367.2.2.2.2.2.2.2.2.2)))) else ((sashref11_bad.f 2 x1).bind fun bt383 => (some (bt383.1, bt383.2.1, bt383.2.2.1, bt383.2.2.2.1, bt383.2.2.2.2.1, bt383.2.2.2.2.2.1, bt383.2.2.2.2.2.2.1, bt383.2.2.2.2.2.2.2.1, bt383.2.2.2.2.2.2.2.2.1, bt383.2.2.2.2.2.2.2.2.2))))) else ((sashref11_cell.f k x0 x1 (wrap64 (x2 + 1))).bind fun bt395 => (if bt395.2.2.2.2.2.2.2.2.1 = 0 then (if x16.length < 1954687338268 then (sashref11_cell.l1 k x0 bt395.2.2.2.2.2.2.2.1 x2 x15 (x16 ++ [(⟨bt395.1, (⟨bt395.2.1, bt395.2.2.1, bt395.2.2.2.1, bt395.2.2.2.2.1⟩ : S24), bt395.2.2.2.2.2.1, bt395.2.2.2.2.2.2.1⟩ : S27)]) x289000 x289001 x289002 x289003 x289004 x289005) else (none)) else (some (bt395.1, bt395.2.1, bt395.2.2.1, bt395.2.2.2.1, bt395.2.2.2.2.1, bt395.2.2.2.2.2.1, bt395.2.2.2.2.2.2.1, bt395.2.2.2.2.2.2.2.1, bt395.2.2.2.2.2.2.2.2.1, bt395.2.2.2.2.2.2.2.2.2))))) else (some (x289000, x289001, x289002, x289003, x289004, x289005, x16, wrap64 (x1 + 1), 0, 0))
def sashref11_cell.f : Nat → ByteArray → Int → Int → Option (Int × Int × Int × Int × Int × Int × (List (S27)) × Int × Int × Int)
 | 0, _, _, _ => none
 | k + 1, a0, a1, a2 => sashref11_cell.l0 k a0 a1 a2 0 0 0 0 0 0 0
end
set_option maxHeartbeats 8000000 in
set_option maxRecDepth 100000 in
theorem sashref11_cell.calls (k : Nat) : ∀ (a0 : ByteArray) (a1 : Int) (a2 : Int) (r1 : Int) (r2 : Int) (r3 : Int) (r4 : Int) (r5 : Int) (r6 : Int) (r7 : List (S27)) (r8 : Int) (r9 : Int) (r10 : Int) (w : World) (h : sashref11_cell.f k a0 a1 a2 = some (r1, r2, r3, r4, r5, r6, r7, r8, r9, r10)),
  Calls Tryz.prog 51 #[.string a0, .int .i64 a1, .int .i64 a2] w fun e w' => ∃ v6_ : Value, e = .returned (.agg #[.int .u8 r1, .int .i64 r2, .int .i64 r3, .int .i64 r4, .int .i64 r5, .int .i64 r6, v6_, .int .i64 r8, .int .i64 r9, .int .i64 r10]) ∧ Kd.R k27 27 w' w.heap.size (fun _ => True) v6_ r7 ∧ Below w.heap.size w w' := by
 induction k using Nat.strongRecOn with
 | _ k ih =>
 intro a0 a1 a2 r1 r2 r3 r4 r5 r6 r7 r8 r9 r10 w h
 cases k with
 | zero => exact absurd h (by simp [sashref11_cell.f])
 | succ k =>
 simp only [sashref11_cell.f] at h
 have hu91 := Tryz.underlying91
 have hu27 := Tryz.underlying27
 have HB := ak (Below.refl w.heap.size w)
 have H : (sashref11_cell.l0 k a0 a1 a2 0 0 0 0 0 0 0) = some (r1, r2, r3, r4, r5, r6, r7, r8, r9, r10) := h
 clear h
 have H' := ak H
 clear H
 go_enter Tryz.func51, Tryz.ntmps51
 go_wp2_with (first | ((with_reducible refine gate_dst (N := 6) rfl ?_); refine bxe 6 #[.int .u8 0, .int .i64 0, .int .i64 0, .int .i64 0, .int .i64 0, .int .i64 0, .slice none 0 0, .int .i64 0, .int .i64 0, .int .i64 0] 91 (h := ?_); intro gb287 hg w4 hbox hb; have BK287 := ak (hbox); have GW287 := ak ((mq53 : w.heap.size ≤ gb287)); have GE287 := ak ((mq53 : w.heap.size ≤ gb287)); replace HB := ak (below_step kW hb); clear hb hbox hg) | ((with_reducible refine gate_dst (N := 7) rfl ?_); refine bxe 7 #[.int .u8 0, .int .i64 0, .int .i64 0, .int .i64 0, .int .i64 0, .int .i64 0, .slice none 0 0] 27 (h := ?_); intro gb288 hg w5 hbox hb; have BK288 := ak (hbox); have GW288 := ak ((mq53 : w.heap.size ≤ gb288)); have GE288 := ak ((mq53 : w.heap.size ≤ gb288)); replace HB := ak (below_step kW hb); have NB287_288 := kE BK287 hg; have NB288_287 := kE' BK287 hg; replace BK287 := (kB BK287 hb); clear hb hbox hg; have hnb6 := NB288_287.out; have hnc6 := NB287_288.out; obtain ⟨hcz7_0, hcz7_1, hcz7_2, hcz7_3, hcz7_4, hcz7_5, hcz7_6⟩ := cz7 BK288; obtain ⟨hfz7_0, hfz7_1, hfz7_2, hfz7_3, hfz7_4, hfz7_5, hfz7_6⟩ := fz7 BK288))
 go_loopg [1, 8] k (fun kq v1 v8 w' => ∃ (x1_1 : Int) (x8_1 : Int) (x288000_1 : Int) (x288001_1 : Int) (x288002_1 : Int) (x288003_1 : Int) (x288004_1 : Int) (x288005_1 : Int) (x288007_1 : Int) (x288008_1 : Int) (x288009_1 : Int) (x289001_1 : Int) (x289002_1 : Int) (x289003_1 : Int) (x289004_1 : Int), v1 = .int .i64 x1_1 ∧ v8 = .int .i64 x8_1 ∧ Aside0 (sashref11_cell.l0 kq a0 x1_1 a2 x8_1 0 x289001_1 x289002_1 x289003_1 x289004_1 0 = some (r1, r2, r3, r4, r5, r6, r7, r8, r9, r10)) ∧ Aside0 (kq ≤ k) ∧ Aside0 (w'.heap[gb287]? = some (.cells #[.int .u8 x288000_1, .int .i64 x288001_1, .int .i64 x288002_1, .int .i64 x288003_1, .int .i64 x288004_1, .int .i64 x288005_1, (.slice none 0 0), .int .i64 x288007_1, .int .i64 x288008_1, .int .i64 x288009_1] 91 (0, 0))) ∧ Aside0 (w'.heap[gb288]? = some (.cells #[.int .u8 0, .int .i64 x289001_1, .int .i64 x289002_1, .int .i64 x289003_1, .int .i64 x289004_1, .int .i64 0, (.slice none 0 0)] 27 (0, 0))) ∧ Aside0 (Below w.heap.size w w'))
 case atStart => exact ⟨(a1), (0), (0), (0), (0), (0), (0), (0), (0), (0), (0), (0), (0), (0), (0), mq39, mq39, H', ⟨Nat.le_refl _⟩, ⟨by (with_reducible repeat (first | refine blk_drewN ?_ _ | refine blk_drew ?_ | refine blk_alloc ?_ _)); refine blk_far ?_ NB287_288.out _; (with_reducible repeat (first | refine blk_drewN ?_ _ | refine blk_drew ?_ | refine blk_alloc ?_ _)); refine blk_far ?_ NB287_288.out _; (with_reducible repeat (first | refine blk_drewN ?_ _ | refine blk_drew ?_ | refine blk_alloc ?_ _)); refine blk_far ?_ NB287_288.out _; (with_reducible repeat (first | refine blk_drewN ?_ _ | refine blk_drew ?_ | refine blk_alloc ?_ _)); refine blk_far ?_ NB287_288.out _; (with_reducible repeat (first | refine blk_drewN ?_ _ | refine blk_drew ?_ | refine blk_alloc ?_ _)); refine blk_far ?_ NB287_288.out _; (with_reducible repeat (first | refine blk_drewN ?_ _ | refine blk_drew ?_ | refine blk_alloc ?_ _)); refine blk_far ?_ NB287_288.out _; (with_reducible repeat (first | refine blk_drewN ?_ _ | refine blk_drew ?_ | refine blk_alloc ?_ _)); refine blk_far ?_ NB287_288.out _; (with_reducible repeat (first | refine blk_drewN ?_ _ | refine blk_drew ?_ | refine blk_alloc ?_ _)); exact BK287.out⟩, ⟨by (with_reducible repeat (first | refine blk_drewN ?_ _ | refine blk_drew ?_ | refine blk_alloc ?_ _)); refine blk_put (cs := #[.int .u8 0, .int .i64 0, .int .i64 0, .int .i64 0, .int .i64 0, .int .i64 0, .slice none 0 0]) ?_ 6 _ rfl; (with_reducible repeat (first | refine blk_drewN ?_ _ | refine blk_drew ?_ | refine blk_alloc ?_ _)); refine blk_put (cs := #[.int .u8 0, .int .i64 0, .int .i64 0, .int .i64 0, .int .i64 0, .int .i64 0, .slice none 0 0]) ?_ 5 _ rfl; (with_reducible repeat (first | refine blk_drewN ?_ _ | refine blk_drew ?_ | refine blk_alloc ?_ _)); refine blk_put (cs := #[.int .u8 0, .int .i64 0, .int .i64 0, .int .i64 0, .int .i64 0, .int .i64 0, .slice none 0 0]) ?_ 4 _ rfl; (with_reducible repeat (first | refine blk_drewN ?_ _ | refine blk_drew ?_ | refine blk_alloc ?_ _)); refine blk_put (cs := #[.int .u8 0, .int .i64 0, .int .i64 0, .int .i64 0, .int .i64 0, .int .i64 0, .slice none 0 0]) ?_ 3 _ rfl; (with_reducible repeat (first | refine blk_drewN ?_ _ | refine blk_drew ?_ | refine blk_alloc ?_ _)); refine blk_put (cs := #[.int .u8 0, .int .i64 0, .int .i64 0, .int .i64 0, .int .i64 0, .int .i64 0, .slice none 0 0]) ?_ 2 _ rfl; (with_reducible repeat (first | refine blk_drewN ?_ _ | refine blk_drew ?_ | refine blk_alloc ?_ _)); refine blk_put (cs := #[.int .u8 0, .int .i64 0, .int .i64 0, .int .i64 0, .int .i64 0, .int .i64 0, .slice none 0 0]) ?_ 1 _ rfl; (with_reducible repeat (first | refine blk_drewN ?_ _ | refine blk_drew ?_ | refine blk_alloc ?_ _)); refine blk_put (cs := #[.int .u8 0, .int .i64 0, .int .i64 0, .int .i64 0, .int .i64 0, .int .i64 0, .slice none 0 0]) ?_ 0 _ rfl; (with_reducible repeat (first | refine blk_drewN ?_ _ | refine blk_drew ?_ | refine blk_alloc ?_ _)); exact BK288.out⟩, ⟨kW⟩⟩
 case round =>
  clear H'
  clear hcz7_0 hcz7_1 hcz7_2 hcz7_3 hcz7_4 hcz7_5 hcz7_6 hfz7_0 hfz7_1 hfz7_2 hfz7_3 hfz7_4 hfz7_5 hfz7_6
  obtain ⟨x1_1, x8_1, x288000_1, x288001_1, x288002_1, x288003_1, x288004_1, x288005_1, x288007_1, x288008_1, x288009_1, x289001_1, x289002_1, x289003_1, x289004_1, rfl, rfl, HA, HK1, BK287, BK288, HB⟩ := hrel
  cases gk with
  | zero => exact absurd HA.out (by simp [sashref11_cell.l0])
  | succ k1 =>
   have H := HA.out
   clear HA
   simp only [sashref11_cell.l0] at H
   by_cases c8 : x8_1 < 4
   ·rw [if_pos c8] at H
    have c8b0 : decide (x8_1 < 4) = true := decide_eq_true c8
    clear c8
    have HC9 := ak H
    clear H
    go_upto_region 5 with (fail)
    go_cut [40] (fun v40 wc => ∃ (kq : Nat) (x40_8 : Bool), v40 = .bool x40_8 ∧ Aside0 (sashref11_cell.j1 kq a0 x1_1 a2 x8_1 x40_8 0 x289001_1 x289002_1 x289003_1 x289004_1 0 = some (r1, r2, r3, r4, r5, r6, r7, r8, r9, r10)) ∧ Aside0 (kq ≤ k1) ∧ Aside0 (wc.heap[gb287]? = some (.cells #[.int .u8 x288000_1, .int .i64 x288001_1, .int .i64 x288002_1, .int .i64 x288003_1, .int .i64 x288004_1, .int .i64 x288005_1, (.slice none 0 0), .int .i64 x288007_1, .int .i64 x288008_1, .int .i64 x288009_1] 91 (0, 0))) ∧ Aside0 (wc.heap[gb288]? = some (.cells #[.int .u8 0, .int .i64 x289001_1, .int .i64 x289002_1, .int .i64 x289003_1, .int .i64 x289004_1, .int .i64 0, (.slice none 0 0)] 27 (0, 0))) ∧ Aside0 (Below w.heap.size w wc))
    case first =>
     have H := HC9.out
     clear HC9
     by_cases c10 : x8_1 = 1
     ·rw [if_pos c10] at H
      have c10b0 : (x8_1 == 1) = true := beq_iff_eq.mpr c10
      have c10b1 : (x8_1 != 1) = false := bne_eq_false_iff_eq.mpr c10
      clear c10
      (first | rw [c10b0] | (simp only [i64_w, i32_w]; rw [c10b0]) | skip)
      replace H := Option.bind_eq_some_iff.mp H
      obtain ⟨t289, A110, H⟩ := H
      replace H : (if t289 = true then (if x8_1 > 1 then ((sashref11_is.f a0 x1_1 44).bind fun t290 => (sashref11_cell.j1 k1 a0 x1_1 a2 x8_1 (!t290) 0 x289001_1 x289002_1 x289003_1 x289004_1 0)) else (sashref11_cell.j1 k1 a0 x1_1 a2 x8_1 false 0 x289001_1 x289002_1 x289003_1 x289004_1 0)) else (sashref11_cell.j1 k1 a0 x1_1 a2 x8_1 true 0 x289001_1 x289002_1 x289003_1 x289004_1 0)) = some (r1, r2, r3, r4, r5, r6, r7, r8, r9, r10) := H
      have A11 := ak A110
      clear A110
      by_cases c12 : t289 = true
      ·subst c12
       have H1 : (if x8_1 > 1 then ((sashref11_is.f a0 x1_1 44).bind fun t290 => (sashref11_cell.j1 k1 a0 x1_1 a2 x8_1 (!t290) 0 x289001_1 x289002_1 x289003_1 x289004_1 0)) else (sashref11_cell.j1 k1 a0 x1_1 a2 x8_1 false 0 x289001_1 x289002_1 x289003_1 x289004_1 0)) = some (r1, r2, r3, r4, r5, r6, r7, r8, r9, r10) := mq55
       clear H
       have H := H1
       clear H1
       by_cases c13 : x8_1 > 1
       ·rw [if_pos c13] at H
        have c13b0 : decide (1 < x8_1) = true := decide_eq_true c13
        clear c13
        replace H := Option.bind_eq_some_iff.mp H
        obtain ⟨t290, A140, H⟩ := H
        replace H : (sashref11_cell.j1 k1 a0 x1_1 a2 x8_1 (!t290) 0 x289001_1 x289002_1 x289003_1 x289004_1 0) = some (r1, r2, r3, r4, r5, r6, r7, r8, r9, r10) := H
        have A14 := ak A140
        clear A140
        have H' := ak H
        clear H
        go_wp2_with (first | (go_at_call 78; (with_reducible refine (sashref11_is.calls a0 x1_1 120 true _ A11.out).mono ?_); rintro e w' ⟨rfl, ⟨nd, rfl⟩⟩) | (go_at_call 78; (with_reducible refine (sashref11_is.calls a0 x1_1 44 t290 _ A14.out).mono ?_); rintro e w' ⟨rfl, ⟨nd, rfl⟩⟩))
        go_meet
        case rel => exact ⟨_, (!t290), mq39, H', ⟨mq40 HK1⟩, ⟨mq28 BK287⟩, ⟨mq28 BK288⟩, ⟨kW⟩⟩
       ·rw [if_neg c13] at H
        have c13b0 : decide (1 < x8_1) = false := decide_eq_false c13
        clear c13
        have H' := ak H
        clear H
        go_wp2_with (first | (go_at_call 78; (with_reducible refine (sashref11_is.calls a0 x1_1 120 true _ A11.out).mono ?_); rintro e w' ⟨rfl, ⟨nd, rfl⟩⟩))
        go_meet
        case rel => exact ⟨_, (false), mq39, H', ⟨mq40 HK1⟩, ⟨mq28 BK287⟩, ⟨mq28 BK288⟩, ⟨kW⟩⟩
      ·replace c12 := Bool.eq_false_iff.mpr c12
       subst c12
       have H1 : (sashref11_cell.j1 k1 a0 x1_1 a2 x8_1 true 0 x289001_1 x289002_1 x289003_1 x289004_1 0) = some (r1, r2, r3, r4, r5, r6, r7, r8, r9, r10) := mq54
       clear H
       have H := H1
       clear H1
       have H' := ak H
       clear H
       go_wp2_with (first | (go_at_call 78; (with_reducible refine (sashref11_is.calls a0 x1_1 120 false _ A11.out).mono ?_); rintro e w' ⟨rfl, ⟨nd, rfl⟩⟩))
       go_meet
       case rel => exact ⟨_, (true), mq39, H', ⟨mq40 HK1⟩, ⟨mq28 BK287⟩, ⟨mq28 BK288⟩, ⟨kW⟩⟩
     ·rw [if_neg c10] at H
      have c10b0 : (x8_1 == 1) = false := beq_eq_false_iff_ne.mpr c10
      have c10b1 : (x8_1 != 1) = true := bne_iff_ne.mpr c10
      (first | rw [c10b0] | (simp only [i64_w, i32_w]; rw [c10b0]) | skip)
      by_cases c15 : x8_1 > 1
      ·rw [if_pos c15] at H
       have c15b0 : decide (1 < x8_1) = true := decide_eq_true c15
       clear c15
       replace H := Option.bind_eq_some_iff.mp H
       obtain ⟨t291, A160, H⟩ := H
       replace H : (sashref11_cell.j1 k1 a0 x1_1 a2 x8_1 (!t291) 0 x289001_1 x289002_1 x289003_1 x289004_1 0) = some (r1, r2, r3, r4, r5, r6, r7, r8, r9, r10) := H
       have A16 := ak A160
       clear A160
       have H' := ak H
       clear H
       go_wp2_with (first | (go_at_call 78; (with_reducible refine (sashref11_is.calls a0 x1_1 44 t291 _ A16.out).mono ?_); rintro e w' ⟨rfl, ⟨nd, rfl⟩⟩))
       go_meet
       case rel => exact ⟨_, (!t291), mq39, H', ⟨mq40 HK1⟩, ⟨mq28 BK287⟩, ⟨mq28 BK288⟩, ⟨kW⟩⟩
      ·rw [if_neg c15] at H
       have c15b0 : decide (1 < x8_1) = false := decide_eq_false c15
       clear c15
       have H' := ak H
       clear H
       go_wp2
       go_meet
       case rel => exact ⟨_, (false), mq39, H', ⟨mq40 HK1⟩, ⟨mq28 BK287⟩, ⟨mq28 BK288⟩, ⟨kW⟩⟩
    case rest =>
     clear HC9
     clear c8b0
     obtain ⟨kq, x40_8, rfl, HA, HJ8, BK287, BK288, HB⟩ := hcut
     cases kq with
     | zero => exact absurd HA.out (by simp [sashref11_cell.j1])
     | succ kj8 =>
      have H := HA.out
      clear HA
      simp only [sashref11_cell.j1] at H
      by_cases c17 : x40_8 = true
      ·subst c17
       have H1 : ((sashref11_bad.f 2 x1_1).bind fun bt292 => (some (bt292.1, bt292.2.1, bt292.2.2.1, bt292.2.2.2.1, bt292.2.2.2.2.1, bt292.2.2.2.2.2.1, bt292.2.2.2.2.2.2.1, bt292.2.2.2.2.2.2.2.1, bt292.2.2.2.2.2.2.2.2.1, bt292.2.2.2.2.2.2.2.2.2))) = some (r1, r2, r3, r4, r5, r6, r7, r8, r9, r10) := mq55
       clear H
       have H := H1
       clear H1
       replace H := Option.bind_eq_some_iff.mp H
       obtain ⟨⟨t292, t293, t294, t295, t296, t297, t298, t301, t302, t303⟩, A180, H⟩ := H
       replace H : (some (t292, t293, t294, t295, t296, t297, t298, t301, t302, t303)) = some (r1, r2, r3, r4, r5, r6, r7, r8, r9, r10) := H
       have A18 := ak A180
       clear A180
       simp only [Option.some.injEq, Prod.mk.injEq] at H
       obtain ⟨rfl, rfl, rfl, rfl, rfl, rfl, rfl, rfl, rfl, rfl⟩ := H
       go_wp2_with (first | ((with_reducible refine gate_callee (f := 79) rfl ?_); refine gol (some 42) Tryz.func79 #[.int .i64 2, .int .i64 x1_1] (h := ?_); (with_reducible refine (sashref11_bad.calls 2 x1_1 t292 t293 t294 t295 t296 t297 t298 t301 t302 t303 _ A18.out).mono ?_); rintro e w19 ⟨v299, rfl, ho0, hb⟩; refine ⟨_, rfl, ?_⟩; have HO300 := ak (Kd.R_lower (Kd.R_newB ho0 (g := gb288) (o := .cells #[.int .u8 0, .int .i64 x289001_1, .int .i64 x289002_1, .int .i64 x289003_1, .int .i64 x289004_1, .int .i64 0, .slice none 0 0] 27 (0, 0)) (kA BK288)) (below_size kW)); replace BK287 := (kB BK287 hb); replace BK288 := (kB BK288 hb); replace HB := ak (below_step kW hb); (try clear hb); (try clear hb2); (try clear hk); (try clear hi); (try clear ho0); have hnb20 := NB287_288.out; have hnc20 := NB288_287.out; obtain ⟨hcz21_0, hcz21_1, hcz21_2, hcz21_3, hcz21_4, hcz21_5, hcz21_6, hcz21_7, hcz21_8, hcz21_9⟩ := cz10 BK287; obtain ⟨hfz21_0, hfz21_1, hfz21_2, hfz21_3, hfz21_4, hfz21_5, hfz21_6, hfz21_7, hfz21_8, hfz21_9⟩ := fz10 BK287; obtain ⟨Ao22, co22, eo22⟩ := Kd.R_slice HO300.out; subst eo22))
       refine bodyPost_ret (results_cell_row rfl _ _ gb287 91 #[.int .u8 t292, .int .i64 t293, .int .i64 t294, .int .i64 t295, .int .i64 t296, .int .i64 t297, .slice Ao22 t298.length co22, .int .i64 t301, .int .i64 t302, .int .i64 t303] (0, 0) _ rfl (kP10 BK287) Tryz.underlying91 rfl (by kernel_rfl)) rfl ?_
       exact ⟨_, mq37, mq9 HO300 BK287, kW⟩
      ·replace c17 := Bool.eq_false_iff.mpr c17
       subst c17
       have H1 : (if x8_1 > 0 then (sashref11_cell.j2 kj8 a0 (wrap64 (x1_1 + 1)) a2 x8_1 0 x289001_1 x289002_1 x289003_1 x289004_1 0) else (sashref11_cell.j2 kj8 a0 x1_1 a2 x8_1 0 x289001_1 x289002_1 x289003_1 x289004_1 0)) = some (r1, r2, r3, r4, r5, r6, r7, r8, r9, r10) := mq54
       clear H
       have H := H1
       clear H1
       have HC23 := ak H
       clear H
       go_upto_if 44 with (fail)
       go_cut [1] (fun v1 wc => ∃ (kq : Nat) (x1_22 : Int), v1 = .int .i64 x1_22 ∧ Aside0 (sashref11_cell.j2 kq a0 x1_22 a2 x8_1 0 x289001_1 x289002_1 x289003_1 x289004_1 0 = some (r1, r2, r3, r4, r5, r6, r7, r8, r9, r10)) ∧ Aside0 (kq ≤ kj8) ∧ Aside0 (wc.heap[gb287]? = some (.cells #[.int .u8 x288000_1, .int .i64 x288001_1, .int .i64 x288002_1, .int .i64 x288003_1, .int .i64 x288004_1, .int .i64 x288005_1, (.slice none 0 0), .int .i64 x288007_1, .int .i64 x288008_1, .int .i64 x288009_1] 91 (0, 0))) ∧ Aside0 (wc.heap[gb288]? = some (.cells #[.int .u8 0, .int .i64 x289001_1, .int .i64 x289002_1, .int .i64 x289003_1, .int .i64 x289004_1, .int .i64 0, (.slice none 0 0)] 27 (0, 0))) ∧ Aside0 (Below w.heap.size w wc))
       case first =>
        have H := HC23.out
        clear HC23
        by_cases c24 : x8_1 > 0
        ·rw [if_pos c24] at H
         have c24b0 : decide (0 < x8_1) = true := decide_eq_true c24
         clear c24
         (first | rw [c24b0] | (simp only [i64_w, i32_w]; rw [c24b0]) | skip)
         have H' := ak H
         clear H
         go_wp2
         go_meet
         case rel => exact ⟨_, (wrap64 (x1_1 + 1)), mq39, H', ⟨mq41 HK1 HJ8⟩, ⟨mq28 BK287⟩, ⟨mq28 BK288⟩, ⟨kW⟩⟩
        ·rw [if_neg c24] at H
         have c24b0 : decide (0 < x8_1) = false := decide_eq_false c24
         clear c24
         (first | rw [c24b0] | (simp only [i64_w, i32_w]; rw [c24b0]) | skip)
         have H' := ak H
         clear H
         go_wp2
         go_meet
         case rel => exact ⟨_, (x1_1), mq39, H', ⟨mq41 HK1 HJ8⟩, ⟨mq28 BK287⟩, ⟨mq28 BK288⟩, ⟨kW⟩⟩
       case rest =>
        clear HC23
        obtain ⟨kq, x1_22, rfl, HA, HJ22, BK287, BK288, HB⟩ := hcut
        cases kq with
        | zero => exact absurd HA.out (by simp [sashref11_cell.j2])
        | succ kj22 =>
         have H := HA.out
         clear HA
         simp only [sashref11_cell.j2] at H
         by_cases c25 : 0 ≤ x1_22
         ·rw [if_pos c25] at H
          have c25b0 := eq_true c25
          have c25b1 : decide (0 ≤ x1_22) = true := decide_eq_true c25
          clear c25
          by_cases c26 : x1_22 ≤ (a0.size : Int)
          ·rw [if_pos c26] at H
           have c26b0 := eq_true c26
           have c26b1 : decide (x1_22 ≤ (a0.size : Int)) = true := decide_eq_true c26
           clear c26
           replace H := Option.bind_eq_some_iff.mp H
           obtain ⟨⟨t304, t305, t306⟩, A270, H⟩ := H
           replace H : (if t306 = 0 then (if x8_1 = 0 then (sashref11_cell.l0 kj22 a0 (wrap64 (x1_22 + t305)) a2 (wrap64 (x8_1 + 1)) 0 x289001_1 x289002_1 t304 x289004_1 0) else (if x8_1 = 1 then (sashref11_cell.l0 kj22 a0 (wrap64 (x1_22 + t305)) a2 (wrap64 (x8_1 + 1)) 0 x289001_1 x289002_1 x289003_1 t304 0) else (if x8_1 = 2 then (sashref11_cell.l0 kj22 a0 (wrap64 (x1_22 + t305)) a2 (wrap64 (x8_1 + 1)) 0 t304 x289002_1 x289003_1 x289004_1 0) else (sashref11_cell.l0 kj22 a0 (wrap64 (x1_22 + t305)) a2 (wrap64 (x8_1 + 1)) 0 x289001_1 t304 x289003_1 x289004_1 0)))) else ((sashref11_bad.f t306 x1_22).bind fun bt307 => (some (bt307.1, bt307.2.1, bt307.2.2.1, bt307.2.2.2.1, bt307.2.2.2.2.1, bt307.2.2.2.2.2.1, bt307.2.2.2.2.2.2.1, bt307.2.2.2.2.2.2.2.1, bt307.2.2.2.2.2.2.2.2.1, bt307.2.2.2.2.2.2.2.2.2)))) = some (r1, r2, r3, r4, r5, r6, r7, r8, r9, r10) := H
           have A27 := ak A270
           clear A270
           by_cases c28 : t306 = 0
           ·rw [if_pos c28] at H
            have c28b0 : (t306 == 0) = true := beq_iff_eq.mpr c28
            have c28b1 : (t306 != 0) = false := bne_eq_false_iff_eq.mpr c28
            clear c28
            by_cases c29 : x8_1 = 0
            ·rw [if_pos c29] at H
             have c29b0 : (x8_1 == 0) = true := beq_iff_eq.mpr c29
             have c29b1 : (x8_1 != 0) = false := bne_eq_false_iff_eq.mpr c29
             clear c29
             have H' := ak H
             clear H
             go_wp2_with (first | ((with_reducible refine gate_callee (f := 80) rfl ?_); refine gol (some 51) Tryz.func80 #[.string (a0.extract (x1_22 : Int).toNat a0.size)] (h := ?_); (with_reducible refine (sashref01_Head.calls kj22 (a0.extract (x1_22 : Int).toNat a0.size) t304 t305 t306 _ A27.out).mono ?_); rintro e w' ⟨rfl, ⟨nd, rfl⟩⟩; refine ⟨_, rfl, ?_⟩; (try (rw [drewN_self wc]; generalize hq_ : World.drewN wc _ = wc; replace BK287 := kQ BK287 hq_; replace BK288 := kQ BK288 hq_; replace HB : Aside0 (Below w.heap.size w wc) := ⟨mq56⟩; clear hq_)); have hnb30 := NB288_287.out; have hnc30 := NB287_288.out; obtain ⟨hcz31_0, hcz31_1, hcz31_2, hcz31_3, hcz31_4, hcz31_5, hcz31_6⟩ := cz7 BK288; obtain ⟨hfz31_0, hfz31_1, hfz31_2, hfz31_3, hfz31_4, hfz31_5, hfz31_6⟩ := fz7 BK288))
             go_roundg kj22
             case measure => have := HK1.out; have := HJ8.out; have := HJ22.out; omega
             case rel => exact ⟨(wrap64 (x1_22 + t305)), (wrap64 (x8_1 + 1)), (x288000_1), (x288001_1), (x288002_1), (x288003_1), (x288004_1), (x288005_1), (x288007_1), (x288008_1), (x288009_1), (x289001_1), (x289002_1), (t304), (x289004_1), mq39, mq39, H', ⟨mq45 HK1 HJ8 HJ22⟩, ⟨mq29 NB287_288 BK287⟩, ⟨by (with_reducible repeat (first | refine blk_drewN ?_ _ | refine blk_drew ?_ | refine blk_alloc ?_ _)); refine blk_put (cs := #[.int .u8 0, .int .i64 x289001_1, .int .i64 x289002_1, .int .i64 x289003_1, .int .i64 x289004_1, .int .i64 0, .slice none 0 0]) ?_ 3 _ rfl; (with_reducible repeat (first | refine blk_drewN ?_ _ | refine blk_drew ?_ | refine blk_alloc ?_ _)); exact BK288.out⟩, ⟨kW⟩⟩
            ·rw [if_neg c29] at H
             have c29b0 : (x8_1 == 0) = false := beq_eq_false_iff_ne.mpr c29
             have c29b1 : (x8_1 != 0) = true := bne_iff_ne.mpr c29
             by_cases c32 : x8_1 = 1
             ·rw [if_pos c32] at H
              have c32b0 : (x8_1 == 1) = true := beq_iff_eq.mpr c32
              have c32b1 : (x8_1 != 1) = false := bne_eq_false_iff_eq.mpr c32
              clear c32
              have H' := ak H
              clear H
              go_wp2_with (first | ((with_reducible refine gate_callee (f := 80) rfl ?_); refine gol (some 51) Tryz.func80 #[.string (a0.extract (x1_22 : Int).toNat a0.size)] (h := ?_); (with_reducible refine (sashref01_Head.calls kj22 (a0.extract (x1_22 : Int).toNat a0.size) t304 t305 t306 _ A27.out).mono ?_); rintro e w' ⟨rfl, ⟨nd, rfl⟩⟩; refine ⟨_, rfl, ?_⟩; (try (rw [drewN_self wc]; generalize hq_ : World.drewN wc _ = wc; replace BK287 := kQ BK287 hq_; replace BK288 := kQ BK288 hq_; replace HB : Aside0 (Below w.heap.size w wc) := ⟨mq56⟩; clear hq_)); have hnb33 := NB288_287.out; have hnc33 := NB287_288.out; obtain ⟨hcz34_0, hcz34_1, hcz34_2, hcz34_3, hcz34_4, hcz34_5, hcz34_6⟩ := cz7 BK288; obtain ⟨hfz34_0, hfz34_1, hfz34_2, hfz34_3, hfz34_4, hfz34_5, hfz34_6⟩ := fz7 BK288))
              go_roundg kj22
              case measure => have := HK1.out; have := HJ8.out; have := HJ22.out; omega
              case rel => exact ⟨(wrap64 (x1_22 + t305)), (wrap64 (x8_1 + 1)), (x288000_1), (x288001_1), (x288002_1), (x288003_1), (x288004_1), (x288005_1), (x288007_1), (x288008_1), (x288009_1), (x289001_1), (x289002_1), (x289003_1), (t304), mq39, mq39, H', ⟨mq45 HK1 HJ8 HJ22⟩, ⟨mq29 NB287_288 BK287⟩, ⟨by (with_reducible repeat (first | refine blk_drewN ?_ _ | refine blk_drew ?_ | refine blk_alloc ?_ _)); refine blk_put (cs := #[.int .u8 0, .int .i64 x289001_1, .int .i64 x289002_1, .int .i64 x289003_1, .int .i64 x289004_1, .int .i64 0, .slice none 0 0]) ?_ 4 _ rfl; (with_reducible repeat (first | refine blk_drewN ?_ _ | refine blk_drew ?_ | refine blk_alloc ?_ _)); exact BK288.out⟩, ⟨kW⟩⟩
             ·rw [if_neg c32] at H
              have c32b0 : (x8_1 == 1) = false := beq_eq_false_iff_ne.mpr c32
              have c32b1 : (x8_1 != 1) = true := bne_iff_ne.mpr c32
              by_cases c35 : x8_1 = 2
              ·rw [if_pos c35] at H
               have c35b0 : (x8_1 == 2) = true := beq_iff_eq.mpr c35
               have c35b1 : (x8_1 != 2) = false := bne_eq_false_iff_eq.mpr c35
               clear c35
               have H' := ak H
               clear H
               go_wp2_with (first | ((with_reducible refine gate_callee (f := 80) rfl ?_); refine gol (some 51) Tryz.func80 #[.string (a0.extract (x1_22 : Int).toNat a0.size)] (h := ?_); (with_reducible refine (sashref01_Head.calls kj22 (a0.extract (x1_22 : Int).toNat a0.size) t304 t305 t306 _ A27.out).mono ?_); rintro e w' ⟨rfl, ⟨nd, rfl⟩⟩; refine ⟨_, rfl, ?_⟩; (try (rw [drewN_self wc]; generalize hq_ : World.drewN wc _ = wc; replace BK287 := kQ BK287 hq_; replace BK288 := kQ BK288 hq_; replace HB : Aside0 (Below w.heap.size w wc) := ⟨mq56⟩; clear hq_)); have hnb36 := NB288_287.out; have hnc36 := NB287_288.out; obtain ⟨hcz37_0, hcz37_1, hcz37_2, hcz37_3, hcz37_4, hcz37_5, hcz37_6⟩ := cz7 BK288; obtain ⟨hfz37_0, hfz37_1, hfz37_2, hfz37_3, hfz37_4, hfz37_5, hfz37_6⟩ := fz7 BK288))
               go_roundg kj22
               case measure => have := HK1.out; have := HJ8.out; have := HJ22.out; omega
               case rel => exact ⟨(wrap64 (x1_22 + t305)), (wrap64 (x8_1 + 1)), (x288000_1), (x288001_1), (x288002_1), (x288003_1), (x288004_1), (x288005_1), (x288007_1), (x288008_1), (x288009_1), (t304), (x289002_1), (x289003_1), (x289004_1), mq39, mq39, H', ⟨mq45 HK1 HJ8 HJ22⟩, ⟨mq29 NB287_288 BK287⟩, ⟨by (with_reducible repeat (first | refine blk_drewN ?_ _ | refine blk_drew ?_ | refine blk_alloc ?_ _)); refine blk_put (cs := #[.int .u8 0, .int .i64 x289001_1, .int .i64 x289002_1, .int .i64 x289003_1, .int .i64 x289004_1, .int .i64 0, .slice none 0 0]) ?_ 1 _ rfl; (with_reducible repeat (first | refine blk_drewN ?_ _ | refine blk_drew ?_ | refine blk_alloc ?_ _)); exact BK288.out⟩, ⟨kW⟩⟩
              ·rw [if_neg c35] at H
               have c35b0 : (x8_1 == 2) = false := beq_eq_false_iff_ne.mpr c35
               have c35b1 : (x8_1 != 2) = true := bne_iff_ne.mpr c35
               have H' := ak H
               clear H
               go_wp2_with (first | ((with_reducible refine gate_callee (f := 80) rfl ?_); refine gol (some 51) Tryz.func80 #[.string (a0.extract (x1_22 : Int).toNat a0.size)] (h := ?_); (with_reducible refine (sashref01_Head.calls kj22 (a0.extract (x1_22 : Int).toNat a0.size) t304 t305 t306 _ A27.out).mono ?_); rintro e w' ⟨rfl, ⟨nd, rfl⟩⟩; refine ⟨_, rfl, ?_⟩; (try (rw [drewN_self wc]; generalize hq_ : World.drewN wc _ = wc; replace BK287 := kQ BK287 hq_; replace BK288 := kQ BK288 hq_; replace HB : Aside0 (Below w.heap.size w wc) := ⟨mq56⟩; clear hq_)); have hnb38 := NB288_287.out; have hnc38 := NB287_288.out; obtain ⟨hcz39_0, hcz39_1, hcz39_2, hcz39_3, hcz39_4, hcz39_5, hcz39_6⟩ := cz7 BK288; obtain ⟨hfz39_0, hfz39_1, hfz39_2, hfz39_3, hfz39_4, hfz39_5, hfz39_6⟩ := fz7 BK288))
               go_roundg kj22
               case measure => have := HK1.out; have := HJ8.out; have := HJ22.out; omega
               case rel => exact ⟨(wrap64 (x1_22 + t305)), (wrap64 (x8_1 + 1)), (x288000_1), (x288001_1), (x288002_1), (x288003_1), (x288004_1), (x288005_1), (x288007_1), (x288008_1), (x288009_1), (x289001_1), (t304), (x289003_1), (x289004_1), mq39, mq39, H', ⟨mq45 HK1 HJ8 HJ22⟩, ⟨mq29 NB287_288 BK287⟩, ⟨by (with_reducible repeat (first | refine blk_drewN ?_ _ | refine blk_drew ?_ | refine blk_alloc ?_ _)); refine blk_put (cs := #[.int .u8 0, .int .i64 x289001_1, .int .i64 x289002_1, .int .i64 x289003_1, .int .i64 x289004_1, .int .i64 0, .slice none 0 0]) ?_ 2 _ rfl; (with_reducible repeat (first | refine blk_drewN ?_ _ | refine blk_drew ?_ | refine blk_alloc ?_ _)); exact BK288.out⟩, ⟨kW⟩⟩
           ·rw [if_neg c28] at H
            have c28b0 : (t306 == 0) = false := beq_eq_false_iff_ne.mpr c28
            have c28b1 : (t306 != 0) = true := bne_iff_ne.mpr c28
            replace H := Option.bind_eq_some_iff.mp H
            obtain ⟨⟨t307, t308, t309, t310, t311, t312, t313, t316, t317, t318⟩, A400, H⟩ := H
            replace H : (some (t307, t308, t309, t310, t311, t312, t313, t316, t317, t318)) = some (r1, r2, r3, r4, r5, r6, r7, r8, r9, r10) := H
            have A40 := ak A400
            clear A400
            simp only [Option.some.injEq, Prod.mk.injEq] at H
            obtain ⟨rfl, rfl, rfl, rfl, rfl, rfl, rfl, rfl, rfl, rfl⟩ := H
            go_wp2_with (first | ((with_reducible refine gate_callee (f := 80) rfl ?_); refine gol (some 51) Tryz.func80 #[.string (a0.extract (x1_22 : Int).toNat a0.size)] (h := ?_); (with_reducible refine (sashref01_Head.calls kj22 (a0.extract (x1_22 : Int).toNat a0.size) t304 t305 t306 _ A27.out).mono ?_); rintro e w' ⟨rfl, ⟨nd, rfl⟩⟩; refine ⟨_, rfl, ?_⟩; (try (rw [drewN_self wc]; generalize hq_ : World.drewN wc _ = wc; replace BK287 := kQ BK287 hq_; replace BK288 := kQ BK288 hq_; replace HB : Aside0 (Below w.heap.size w wc) := ⟨mq56⟩; clear hq_))) | ((with_reducible refine gate_callee (f := 79) rfl ?_); refine gol (some 59) Tryz.func79 #[.int .i64 t306, .int .i64 x1_22] (h := ?_); (with_reducible refine (sashref11_bad.calls t306 x1_22 t307 t308 t309 t310 t311 t312 t313 t316 t317 t318 _ A40.out).mono ?_); rintro e w41 ⟨v314, rfl, ho0, hb⟩; refine ⟨_, rfl, ?_⟩; have HO315 := ak (Kd.R_lower (Kd.R_newB ho0 (g := gb288) (o := .cells #[.int .u8 0, .int .i64 x289001_1, .int .i64 x289002_1, .int .i64 x289003_1, .int .i64 x289004_1, .int .i64 0, .slice none 0 0] 27 (0, 0)) (kA BK288)) (below_size kW)); replace BK287 := (kB BK287 hb); replace BK288 := (kB BK288 hb); replace HB := ak (below_step kW hb); (try clear hb); (try clear hb2); (try clear hk); (try clear hi); (try clear ho0); have hnb42 := NB287_288.out; have hnc42 := NB288_287.out; obtain ⟨hcz43_0, hcz43_1, hcz43_2, hcz43_3, hcz43_4, hcz43_5, hcz43_6, hcz43_7, hcz43_8, hcz43_9⟩ := cz10 BK287; obtain ⟨hfz43_0, hfz43_1, hfz43_2, hfz43_3, hfz43_4, hfz43_5, hfz43_6, hfz43_7, hfz43_8, hfz43_9⟩ := fz10 BK287; obtain ⟨Ao44, co44, eo44⟩ := Kd.R_slice HO315.out; subst eo44))
            refine bodyPost_ret (results_cell_row rfl _ _ gb287 91 #[.int .u8 t307, .int .i64 t308, .int .i64 t309, .int .i64 t310, .int .i64 t311, .int .i64 t312, .slice Ao44 t313.length co44, .int .i64 t316, .int .i64 t317, .int .i64 t318] (0, 0) _ rfl (kP10 BK287) Tryz.underlying91 rfl (by kernel_rfl)) rfl ?_
            exact ⟨_, mq37, mq9 HO315 BK287, kW⟩
          ·rw [if_neg c26] at H
           exact absurd H (by simp)
         ·rw [if_neg c25] at H
          exact absurd H (by simp)
   ·rw [if_neg c8] at H
    have c8b0 : decide (x8_1 < 4) = false := decide_eq_false c8
    clear c8
    have HC45 := ak H
    clear H
    go_upto_region 21 with (fail)
    go_cut [91] (fun v91 wc => ∃ (kq : Nat) (x91_44 : Bool), v91 = .bool x91_44 ∧ Aside0 (sashref11_cell.j3 kq a0 x1_1 a2 x91_44 0 x289001_1 x289002_1 x289003_1 x289004_1 0 = some (r1, r2, r3, r4, r5, r6, r7, r8, r9, r10)) ∧ Aside0 (kq ≤ k1) ∧ Aside0 (wc.heap[gb287]? = some (.cells #[.int .u8 x288000_1, .int .i64 x288001_1, .int .i64 x288002_1, .int .i64 x288003_1, .int .i64 x288004_1, .int .i64 x288005_1, (.slice none 0 0), .int .i64 x288007_1, .int .i64 x288008_1, .int .i64 x288009_1] 91 (0, 0))) ∧ Aside0 (wc.heap[gb288]? = some (.cells #[.int .u8 0, .int .i64 x289001_1, .int .i64 x289002_1, .int .i64 x289003_1, .int .i64 x289004_1, .int .i64 0, (.slice none 0 0)] 27 (0, 0))) ∧ Aside0 (Below w.heap.size w wc))
    case first =>
     have H := HC45.out
     clear HC45
     replace H := Option.bind_eq_some_iff.mp H
     obtain ⟨t319, A460, H⟩ := H
     replace H : (if t319 = true then (sashref11_cell.j3 k1 a0 x1_1 a2 false 0 x289001_1 x289002_1 x289003_1 x289004_1 0) else ((sashref11_is.f a0 x1_1 91).bind fun t320 => (sashref11_cell.j3 k1 a0 x1_1 a2 (!t320) 0 x289001_1 x289002_1 x289003_1 x289004_1 0))) = some (r1, r2, r3, r4, r5, r6, r7, r8, r9, r10) := H
     have A46 := ak A460
     clear A460
     by_cases c47 : t319 = true
     ·subst c47
      have H1 : (sashref11_cell.j3 k1 a0 x1_1 a2 false 0 x289001_1 x289002_1 x289003_1 x289004_1 0) = some (r1, r2, r3, r4, r5, r6, r7, r8, r9, r10) := mq55
      clear H
      have H := H1
      clear H1
      have H' := ak H
      clear H
      go_wp2_with (first | ((with_reducible refine gate_callee (f := 78) rfl ?_); refine gol (some 84) Tryz.func78 #[.string a0, .int .i64 x1_1, .int .u8 123] (h := ?_); (with_reducible refine (sashref11_is.calls a0 x1_1 123 true _ A46.out).mono ?_); rintro e w' ⟨rfl, ⟨nd, rfl⟩⟩; refine ⟨_, rfl, ?_⟩))
      go_meet
      case rel => exact ⟨_, (false), mq39, H', ⟨mq40 HK1⟩, ⟨mq28 BK287⟩, ⟨mq28 BK288⟩, ⟨kW⟩⟩
     ·replace c47 := Bool.eq_false_iff.mpr c47
      subst c47
      have H1 : ((sashref11_is.f a0 x1_1 91).bind fun t320 => (sashref11_cell.j3 k1 a0 x1_1 a2 (!t320) 0 x289001_1 x289002_1 x289003_1 x289004_1 0)) = some (r1, r2, r3, r4, r5, r6, r7, r8, r9, r10) := mq54
      clear H
      have H := H1
      clear H1
      replace H := Option.bind_eq_some_iff.mp H
      obtain ⟨t320, A480, H⟩ := H
      replace H : (sashref11_cell.j3 k1 a0 x1_1 a2 (!t320) 0 x289001_1 x289002_1 x289003_1 x289004_1 0) = some (r1, r2, r3, r4, r5, r6, r7, r8, r9, r10) := H
      have A48 := ak A480
      clear A480
      have H' := ak H
      clear H
      go_wp2_with (first | ((with_reducible refine gate_callee (f := 78) rfl ?_); refine gol (some 84) Tryz.func78 #[.string a0, .int .i64 x1_1, .int .u8 123] (h := ?_); (with_reducible refine (sashref11_is.calls a0 x1_1 123 false _ A46.out).mono ?_); rintro e w' ⟨rfl, ⟨nd, rfl⟩⟩; refine ⟨_, rfl, ?_⟩) | (go_at_call 78; (with_reducible refine (sashref11_is.calls a0 x1_1 91 t320 _ A48.out).mono ?_); rintro e w' ⟨rfl, ⟨nd, rfl⟩⟩))
      go_meet
      case rel => exact ⟨_, (!t320), mq39, H', ⟨mq40 HK1⟩, ⟨mq28 BK287⟩, ⟨mq28 BK288⟩, ⟨kW⟩⟩
    case rest =>
     clear HC45
     clear c8b0
     obtain ⟨kq, x91_44, rfl, HA, HJ44, BK287, BK288, HB⟩ := hcut
     cases kq with
     | zero => exact absurd HA.out (by simp [sashref11_cell.j3])
     | succ kj44 =>
      have H := HA.out
      clear HA
      simp only [sashref11_cell.j3] at H
      by_cases c49 : x91_44 = true
      ·subst c49
       have H1 : ((sashref11_is.f a0 x1_1 44).bind fun t321 => (if t321 = true then (if 0 ≤ (wrap64 (x1_1 + 1)) then (if (wrap64 (x1_1 + 1)) ≤ (a0.size : Int) then ((sashref01_Head.f kj44 (a0.extract ((wrap64 (x1_1 + 1)) : Int).toNat a0.size)).bind fun bt334 => (if bt334.2.2 = 0 then (some (1, x289001_1, x289002_1, x289003_1, x289004_1, bt334.1, ([] : List (S27)), wrap64 ((wrap64 (x1_1 + 1)) + bt334.2.1), 0, 0)) else ((sashref11_bad.f bt334.2.2 (wrap64 (x1_1 + 1))).bind fun bt337 => (some (bt337.1, bt337.2.1, bt337.2.2.1, bt337.2.2.2.1, bt337.2.2.2.2.1, bt337.2.2.2.2.2.1, bt337.2.2.2.2.2.2.1, bt337.2.2.2.2.2.2.2.1, bt337.2.2.2.2.2.2.2.2.1, bt337.2.2.2.2.2.2.2.2.2))))) else (none)) else (none)) else ((sashref11_bad.f 2 x1_1).bind fun bt322 => (some (bt322.1, bt322.2.1, bt322.2.2.1, bt322.2.2.2.1, bt322.2.2.2.2.1, bt322.2.2.2.2.2.1, bt322.2.2.2.2.2.2.1, bt322.2.2.2.2.2.2.2.1, bt322.2.2.2.2.2.2.2.2.1, bt322.2.2.2.2.2.2.2.2.2))))) = some (r1, r2, r3, r4, r5, r6, r7, r8, r9, r10) := mq55
       clear H
       have H := H1
       clear H1
       replace H := Option.bind_eq_some_iff.mp H
       obtain ⟨t321, A500, H⟩ := H
       replace H : (if t321 = true then (if 0 ≤ (wrap64 (x1_1 + 1)) then (if (wrap64 (x1_1 + 1)) ≤ (a0.size : Int) then ((sashref01_Head.f kj44 (a0.extract ((wrap64 (x1_1 + 1)) : Int).toNat a0.size)).bind fun bt334 => (if bt334.2.2 = 0 then (some (1, x289001_1, x289002_1, x289003_1, x289004_1, bt334.1, ([] : List (S27)), wrap64 ((wrap64 (x1_1 + 1)) + bt334.2.1), 0, 0)) else ((sashref11_bad.f bt334.2.2 (wrap64 (x1_1 + 1))).bind fun bt337 => (some (bt337.1, bt337.2.1, bt337.2.2.1, bt337.2.2.2.1, bt337.2.2.2.2.1, bt337.2.2.2.2.2.1, bt337.2.2.2.2.2.2.1, bt337.2.2.2.2.2.2.2.1, bt337.2.2.2.2.2.2.2.2.1, bt337.2.2.2.2.2.2.2.2.2))))) else (none)) else (none)) else ((sashref11_bad.f 2 x1_1).bind fun bt322 => (some (bt322.1, bt322.2.1, bt322.2.2.1, bt322.2.2.2.1, bt322.2.2.2.2.1, bt322.2.2.2.2.2.1, bt322.2.2.2.2.2.2.1, bt322.2.2.2.2.2.2.2.1, bt322.2.2.2.2.2.2.2.2.1, bt322.2.2.2.2.2.2.2.2.2)))) = some (r1, r2, r3, r4, r5, r6, r7, r8, r9, r10) := H
       have A50 := ak A500
       clear A500
       by_cases c51 : t321 = true
       ·subst c51
        have H1 : (if 0 ≤ (wrap64 (x1_1 + 1)) then (if (wrap64 (x1_1 + 1)) ≤ (a0.size : Int) then ((sashref01_Head.f kj44 (a0.extract ((wrap64 (x1_1 + 1)) : Int).toNat a0.size)).bind fun bt334 => (if bt334.2.2 = 0 then (some (1, x289001_1, x289002_1, x289003_1, x289004_1, bt334.1, ([] : List (S27)), wrap64 ((wrap64 (x1_1 + 1)) + bt334.2.1), 0, 0)) else ((sashref11_bad.f bt334.2.2 (wrap64 (x1_1 + 1))).bind fun bt337 => (some (bt337.1, bt337.2.1, bt337.2.2.1, bt337.2.2.2.1, bt337.2.2.2.2.1, bt337.2.2.2.2.2.1, bt337.2.2.2.2.2.2.1, bt337.2.2.2.2.2.2.2.1, bt337.2.2.2.2.2.2.2.2.1, bt337.2.2.2.2.2.2.2.2.2))))) else (none)) else (none)) = some (r1, r2, r3, r4, r5, r6, r7, r8, r9, r10) := mq55
        clear H
        have H := H1
        clear H1
        obtain ⟨ji52, hji52⟩ : ∃ j_ : Int, (wrap64 (x1_1 + 1)) = j_ := ⟨_, rfl⟩
        replace H : (if 0 ≤ (ji52) then (if (ji52) ≤ (a0.size : Int) then ((sashref01_Head.f kj44 (a0.extract ((ji52) : Int).toNat a0.size)).bind fun bt334 => (if bt334.2.2 = 0 then (some (1, x289001_1, x289002_1, x289003_1, x289004_1, bt334.1, ([] : List (S27)), wrap64 ((ji52) + bt334.2.1), 0, 0)) else ((sashref11_bad.f bt334.2.2 (ji52)).bind fun bt337 => (some (bt337.1, bt337.2.1, bt337.2.2.1, bt337.2.2.2.1, bt337.2.2.2.2.1, bt337.2.2.2.2.2.1, bt337.2.2.2.2.2.2.1, bt337.2.2.2.2.2.2.2.1, bt337.2.2.2.2.2.2.2.2.1, bt337.2.2.2.2.2.2.2.2.2))))) else (none)) else (none)) = some (r1, r2, r3, r4, r5, r6, r7, r8, r9, r10) := mq32 hji52
        (try rw [hji52] at A50)
        have hji52w : (IntKind.i64.wrap (x1_1 + 1)) = ji52 := (i64_w _).trans hji52
        by_cases c53 : 0 ≤ (ji52)
        ·rw [if_pos c53] at H
         have c53b0 := eq_true c53
         have c53b1 : decide (0 ≤ (ji52)) = true := decide_eq_true c53
         clear c53
         by_cases c54 : (ji52) ≤ (a0.size : Int)
         ·rw [if_pos c54] at H
          have c54b0 := eq_true c54
          have c54b1 : decide ((ji52) ≤ (a0.size : Int)) = true := decide_eq_true c54
          clear c54
          replace H := Option.bind_eq_some_iff.mp H
          obtain ⟨⟨t334, t335, t336⟩, A550, H⟩ := H
          replace H : (if t336 = 0 then (some (1, x289001_1, x289002_1, x289003_1, x289004_1, t334, ([] : List (S27)), wrap64 ((ji52) + t335), 0, 0)) else ((sashref11_bad.f t336 (ji52)).bind fun bt337 => (some (bt337.1, bt337.2.1, bt337.2.2.1, bt337.2.2.2.1, bt337.2.2.2.2.1, bt337.2.2.2.2.2.1, bt337.2.2.2.2.2.2.1, bt337.2.2.2.2.2.2.2.1, bt337.2.2.2.2.2.2.2.2.1, bt337.2.2.2.2.2.2.2.2.2)))) = some (r1, r2, r3, r4, r5, r6, r7, r8, r9, r10) := H
          have A55 := ak A550
          clear A550
          by_cases c56 : t336 = 0
          ·rw [if_pos c56] at H
           have c56b0 : (t336 == 0) = true := beq_iff_eq.mpr c56
           have c56b1 : (t336 != 0) = false := bne_eq_false_iff_eq.mpr c56
           clear c56
           simp only [Option.some.injEq, Prod.mk.injEq] at H
           obtain ⟨rfl, rfl, rfl, rfl, rfl, rfl, rfl, rfl, rfl, rfl⟩ := H
           go_wp2_with (first | ((with_reducible refine gate_callee (f := 78) rfl ?_); refine gol (some 94) Tryz.func78 #[.string a0, .int .i64 x1_1, .int .u8 44] (h := ?_); (with_reducible refine (sashref11_is.calls a0 x1_1 44 true _ A50.out).mono ?_); rintro e w' ⟨rfl, ⟨nd, rfl⟩⟩; refine ⟨_, rfl, ?_⟩; (try (rw [drewN_self wc]; generalize hq_ : World.drewN wc _ = wc; replace BK287 := kQ BK287 hq_; replace BK288 := kQ BK288 hq_; replace HB : Aside0 (Below w.heap.size w wc) := ⟨mq56⟩; clear hq_))) | ((with_reducible refine gate_callee (f := 80) rfl ?_); refine goesL_ (some 103) rfl rfl Tryz.func80 (by kernel_rfl) rfl #[.string (a0.extract ((ji52) : Int).toNat a0.size)] rfl (mq1 hji52) ?_; (with_reducible refine (sashref01_Head.calls kj44 (a0.extract ((ji52) : Int).toNat a0.size) t334 t335 t336 _ A55.out).mono ?_); rintro e w' ⟨rfl, ⟨nd, rfl⟩⟩; refine ⟨_, rfl, ?_⟩; (try (rw [drewN_self wc]; generalize hq_ : World.drewN wc _ = wc; replace BK287 := kQ BK287 hq_; replace BK288 := kQ BK288 hq_; replace HB : Aside0 (Below w.heap.size w wc) := ⟨mq56⟩; clear hq_)); have hnb57 := NB288_287.out; have hnc57 := NB287_288.out; obtain ⟨hcz58_0, hcz58_1, hcz58_2, hcz58_3, hcz58_4, hcz58_5, hcz58_6⟩ := cz7 BK288; obtain ⟨hfz58_0, hfz58_1, hfz58_2, hfz58_3, hfz58_4, hfz58_5, hfz58_6⟩ := fz7 BK288; obtain ⟨hcz59_0, hcz59_1, hcz59_2, hcz59_3, hcz59_4, hcz59_5, hcz59_6, hcz59_7, hcz59_8, hcz59_9⟩ := cz10 BK287; obtain ⟨hfz59_0, hfz59_1, hfz59_2, hfz59_3, hfz59_4, hfz59_5, hfz59_6, hfz59_7, hfz59_8, hfz59_9⟩ := fz10 BK287))
           refine bodyPost_ret (results_cell_row rfl _ _ gb287 91 #[.int .u8 1, .int .i64 x289001_1, .int .i64 x289002_1, .int .i64 x289003_1, .int .i64 x289004_1, .int .i64 t334, .slice none 0 0, .int .i64 (wrap64 ((ji52) + t335)), .int .i64 0, .int .i64 0] (0, 0) _ rfl (kPf10 BK287) Tryz.underlying91 rfl (by kernel_rfl)) rfl ?_
           exact ⟨_, mq38 hji52, mq35, kW⟩
          ·rw [if_neg c56] at H
           have c56b0 : (t336 == 0) = false := beq_eq_false_iff_ne.mpr c56
           have c56b1 : (t336 != 0) = true := bne_iff_ne.mpr c56
           replace H := Option.bind_eq_some_iff.mp H
           obtain ⟨⟨t337, t338, t339, t340, t341, t342, t343, t346, t347, t348⟩, A600, H⟩ := H
           replace H : (some (t337, t338, t339, t340, t341, t342, t343, t346, t347, t348)) = some (r1, r2, r3, r4, r5, r6, r7, r8, r9, r10) := H
           have A60 := ak A600
           clear A600
           simp only [Option.some.injEq, Prod.mk.injEq] at H
           obtain ⟨rfl, rfl, rfl, rfl, rfl, rfl, rfl, rfl, rfl, rfl⟩ := H
           go_wp2_with (first | ((with_reducible refine gate_callee (f := 78) rfl ?_); refine gol (some 94) Tryz.func78 #[.string a0, .int .i64 x1_1, .int .u8 44] (h := ?_); (with_reducible refine (sashref11_is.calls a0 x1_1 44 true _ A50.out).mono ?_); rintro e w' ⟨rfl, ⟨nd, rfl⟩⟩; refine ⟨_, rfl, ?_⟩; (try (rw [drewN_self wc]; generalize hq_ : World.drewN wc _ = wc; replace BK287 := kQ BK287 hq_; replace BK288 := kQ BK288 hq_; replace HB : Aside0 (Below w.heap.size w wc) := ⟨mq56⟩; clear hq_))) | ((with_reducible refine gate_callee (f := 80) rfl ?_); refine goesL_ (some 103) rfl rfl Tryz.func80 (by kernel_rfl) rfl #[.string (a0.extract ((ji52) : Int).toNat a0.size)] rfl (mq1 hji52) ?_; (with_reducible refine (sashref01_Head.calls kj44 (a0.extract ((ji52) : Int).toNat a0.size) t334 t335 t336 _ A55.out).mono ?_); rintro e w' ⟨rfl, ⟨nd, rfl⟩⟩; refine ⟨_, rfl, ?_⟩; (try (rw [drewN_self wc]; generalize hq_ : World.drewN wc _ = wc; replace BK287 := kQ BK287 hq_; replace BK288 := kQ BK288 hq_; replace HB : Aside0 (Below w.heap.size w wc) := ⟨mq56⟩; clear hq_))) | ((with_reducible refine gate_callee (f := 79) rfl ?_); refine goesL_ (some 112) rfl rfl Tryz.func79 (by kernel_rfl) rfl #[.int .i64 t336, .int .i64 ji52] rfl (mq1 hji52) ?_; (with_reducible refine (sashref11_bad.calls t336 ji52 t337 t338 t339 t340 t341 t342 t343 t346 t347 t348 _ A60.out).mono ?_); rintro e w61 ⟨v344, rfl, ho0, hb⟩; refine ⟨_, rfl, ?_⟩; have HO345 := ak (Kd.R_lower (Kd.R_newB ho0 (g := gb288) (o := .cells #[.int .u8 0, .int .i64 x289001_1, .int .i64 x289002_1, .int .i64 x289003_1, .int .i64 x289004_1, .int .i64 0, .slice none 0 0] 27 (0, 0)) (kA BK288)) (below_size kW)); replace BK287 := (kB BK287 hb); replace BK288 := (kB BK288 hb); replace HB := ak (below_step kW hb); (try clear hb); (try clear hb2); (try clear hk); (try clear hi); (try clear ho0); have hnb62 := NB287_288.out; have hnc62 := NB288_287.out; obtain ⟨hcz63_0, hcz63_1, hcz63_2, hcz63_3, hcz63_4, hcz63_5, hcz63_6, hcz63_7, hcz63_8, hcz63_9⟩ := cz10 BK287; obtain ⟨hfz63_0, hfz63_1, hfz63_2, hfz63_3, hfz63_4, hfz63_5, hfz63_6, hfz63_7, hfz63_8, hfz63_9⟩ := fz10 BK287; obtain ⟨Ao64, co64, eo64⟩ := Kd.R_slice HO345.out; subst eo64))
           refine bodyPost_ret (results_cell_row rfl _ _ gb287 91 #[.int .u8 t337, .int .i64 t338, .int .i64 t339, .int .i64 t340, .int .i64 t341, .int .i64 t342, .slice Ao64 t343.length co64, .int .i64 t346, .int .i64 t347, .int .i64 t348] (0, 0) _ rfl (kP10 BK287) Tryz.underlying91 rfl (by kernel_rfl)) rfl ?_
           exact ⟨_, mq38 hji52, mq9 HO345 BK287, kW⟩
         ·rw [if_neg c54] at H
          exact absurd H (by simp)
        ·rw [if_neg c53] at H
         exact absurd H (by simp)
       ·replace c51 := Bool.eq_false_iff.mpr c51
        subst c51
        have H1 : ((sashref11_bad.f 2 x1_1).bind fun bt322 => (some (bt322.1, bt322.2.1, bt322.2.2.1, bt322.2.2.2.1, bt322.2.2.2.2.1, bt322.2.2.2.2.2.1, bt322.2.2.2.2.2.2.1, bt322.2.2.2.2.2.2.2.1, bt322.2.2.2.2.2.2.2.2.1, bt322.2.2.2.2.2.2.2.2.2))) = some (r1, r2, r3, r4, r5, r6, r7, r8, r9, r10) := mq54
        clear H
        have H := H1
        clear H1
        replace H := Option.bind_eq_some_iff.mp H
        obtain ⟨⟨t322, t323, t324, t325, t326, t327, t328, t331, t332, t333⟩, A650, H⟩ := H
        replace H : (some (t322, t323, t324, t325, t326, t327, t328, t331, t332, t333)) = some (r1, r2, r3, r4, r5, r6, r7, r8, r9, r10) := H
        have A65 := ak A650
        clear A650
        simp only [Option.some.injEq, Prod.mk.injEq] at H
        obtain ⟨rfl, rfl, rfl, rfl, rfl, rfl, rfl, rfl, rfl, rfl⟩ := H
        go_wp2_with (first | ((with_reducible refine gate_callee (f := 78) rfl ?_); refine gol (some 94) Tryz.func78 #[.string a0, .int .i64 x1_1, .int .u8 44] (h := ?_); (with_reducible refine (sashref11_is.calls a0 x1_1 44 false _ A50.out).mono ?_); rintro e w' ⟨rfl, ⟨nd, rfl⟩⟩; refine ⟨_, rfl, ?_⟩; (try (rw [drewN_self wc]; generalize hq_ : World.drewN wc _ = wc; replace BK287 := kQ BK287 hq_; replace BK288 := kQ BK288 hq_; replace HB : Aside0 (Below w.heap.size w wc) := ⟨mq56⟩; clear hq_))) | ((with_reducible refine gate_callee (f := 79) rfl ?_); refine gol (some 97) Tryz.func79 #[.int .i64 2, .int .i64 x1_1] (h := ?_); (with_reducible refine (sashref11_bad.calls 2 x1_1 t322 t323 t324 t325 t326 t327 t328 t331 t332 t333 _ A65.out).mono ?_); rintro e w66 ⟨v329, rfl, ho0, hb⟩; refine ⟨_, rfl, ?_⟩; have HO330 := ak (Kd.R_lower (Kd.R_newB ho0 (g := gb288) (o := .cells #[.int .u8 0, .int .i64 x289001_1, .int .i64 x289002_1, .int .i64 x289003_1, .int .i64 x289004_1, .int .i64 0, .slice none 0 0] 27 (0, 0)) (kA BK288)) (below_size kW)); replace BK287 := (kB BK287 hb); replace BK288 := (kB BK288 hb); replace HB := ak (below_step kW hb); (try clear hb); (try clear hb2); (try clear hk); (try clear hi); (try clear ho0); have hnb67 := NB287_288.out; have hnc67 := NB288_287.out; obtain ⟨hcz68_0, hcz68_1, hcz68_2, hcz68_3, hcz68_4, hcz68_5, hcz68_6, hcz68_7, hcz68_8, hcz68_9⟩ := cz10 BK287; obtain ⟨hfz68_0, hfz68_1, hfz68_2, hfz68_3, hfz68_4, hfz68_5, hfz68_6, hfz68_7, hfz68_8, hfz68_9⟩ := fz10 BK287; obtain ⟨Ao69, co69, eo69⟩ := Kd.R_slice HO330.out; subst eo69))
        refine bodyPost_ret (results_cell_row rfl _ _ gb287 91 #[.int .u8 t322, .int .i64 t323, .int .i64 t324, .int .i64 t325, .int .i64 t326, .int .i64 t327, .slice Ao69 t328.length co69, .int .i64 t331, .int .i64 t332, .int .i64 t333] (0, 0) _ rfl (kP10 BK287) Tryz.underlying91 rfl (by kernel_rfl)) rfl ?_
        exact ⟨_, mq37, mq9 HO330 BK287, kW⟩
      ·replace c49 := Bool.eq_false_iff.mpr c49
       subst c49
       have H1 : ((sashref11_is.f a0 x1_1 91).bind fun t349 => (if t349 = true then (sashref11_cell.j4 kj44 a0 x1_1 a2 93 3 x289001_1 x289002_1 x289003_1 x289004_1 0) else (sashref11_cell.j4 kj44 a0 x1_1 a2 125 2 x289001_1 x289002_1 x289003_1 x289004_1 0))) = some (r1, r2, r3, r4, r5, r6, r7, r8, r9, r10) := mq54
       clear H
       have H := H1
       clear H1
       replace H := Option.bind_eq_some_iff.mp H
       obtain ⟨t349, A700, H⟩ := H
       replace H : (if t349 = true then (sashref11_cell.j4 kj44 a0 x1_1 a2 93 3 x289001_1 x289002_1 x289003_1 x289004_1 0) else (sashref11_cell.j4 kj44 a0 x1_1 a2 125 2 x289001_1 x289002_1 x289003_1 x289004_1 0)) = some (r1, r2, r3, r4, r5, r6, r7, r8, r9, r10) := H
       have A70 := ak A700
       clear A700
       have HC71 := ak H
       clear H
       have hnb72 := NB288_287.out
       have hnc72 := NB287_288.out
       obtain ⟨hcz73_0, hcz73_1, hcz73_2, hcz73_3, hcz73_4, hcz73_5, hcz73_6⟩ := cz7 BK288
       obtain ⟨hfz73_0, hfz73_1, hfz73_2, hfz73_3, hfz73_4, hfz73_5, hfz73_6⟩ := fz7 BK288
       go_upto_if 125 with (first | ((with_reducible refine gate_callee (f := 78) rfl ?_); refine gol (some 125) Tryz.func78 #[.string a0, .int .i64 x1_1, .int .u8 91] (h := ?_); (with_reducible refine (sashref11_is.calls a0 x1_1 91 t349 _ A70.out).mono ?_); rintro e w' ⟨rfl, ⟨nd, rfl⟩⟩; refine ⟨_, rfl, ?_⟩))
       (try simp only [Act.put, List.setIfInBounds_toArray, List.set_cons_zero, List.set_cons_succ])
       go_cut [15] (fun v15 wc => ∃ (kq : Nat) (x15_70 : Int) (x289000_70 : Int), v15 = .int .u8 x15_70 ∧ Aside0 (sashref11_cell.j4 kq a0 x1_1 a2 x15_70 x289000_70 x289001_1 x289002_1 x289003_1 x289004_1 0 = some (r1, r2, r3, r4, r5, r6, r7, r8, r9, r10)) ∧ Aside0 (kq ≤ kj44) ∧ Aside0 (wc.heap[gb287]? = some (.cells #[.int .u8 x288000_1, .int .i64 x288001_1, .int .i64 x288002_1, .int .i64 x288003_1, .int .i64 x288004_1, .int .i64 x288005_1, (.slice none 0 0), .int .i64 x288007_1, .int .i64 x288008_1, .int .i64 x288009_1] 91 (0, 0))) ∧ Aside0 (wc.heap[gb288]? = some (.cells #[.int .u8 x289000_70, .int .i64 x289001_1, .int .i64 x289002_1, .int .i64 x289003_1, .int .i64 x289004_1, .int .i64 0, (.slice none 0 0)] 27 (0, 0))) ∧ Aside0 (Below w.heap.size w wc))
       case first =>
        have H := HC71.out
        clear HC71
        by_cases c74 : t349 = true
        ·subst c74
         have H1 : (sashref11_cell.j4 kj44 a0 x1_1 a2 93 3 x289001_1 x289002_1 x289003_1 x289004_1 0) = some (r1, r2, r3, r4, r5, r6, r7, r8, r9, r10) := mq55
         clear H
         have H := H1
         clear H1
         have H' := ak H
         clear H
         have hnb75 := NB288_287.out
         have hnc75 := NB287_288.out
         obtain ⟨hcz76_0, hcz76_1, hcz76_2, hcz76_3, hcz76_4, hcz76_5, hcz76_6⟩ := cz7 BK288
         obtain ⟨hfz76_0, hfz76_1, hfz76_2, hfz76_3, hfz76_4, hfz76_5, hfz76_6⟩ := fz7 BK288
         go_wp2
         go_meet
         case rel => exact ⟨_, (93), (3), mq39, H', ⟨mq41 HK1 HJ44⟩, ⟨by (with_reducible repeat (first | refine blk_drewN ?_ _ | refine blk_drew ?_ | refine blk_alloc ?_ _)); refine blk_far ?_ NB287_288.out _; (with_reducible repeat (first | refine blk_drewN ?_ _ | refine blk_drew ?_ | refine blk_alloc ?_ _)); refine blk_far ?_ NB287_288.out _; (with_reducible repeat (first | refine blk_drewN ?_ _ | refine blk_drew ?_ | refine blk_alloc ?_ _)); exact BK287.out⟩, ⟨by (with_reducible repeat (first | refine blk_drewN ?_ _ | refine blk_drew ?_ | refine blk_alloc ?_ _)); refine blk_put (cs := #[.int .u8 2, .int .i64 x289001_1, .int .i64 x289002_1, .int .i64 x289003_1, .int .i64 x289004_1, .int .i64 0, .slice none 0 0]) ?_ 0 _ rfl; (with_reducible repeat (first | refine blk_drewN ?_ _ | refine blk_drew ?_ | refine blk_alloc ?_ _)); refine blk_put (cs := #[.int .u8 0, .int .i64 x289001_1, .int .i64 x289002_1, .int .i64 x289003_1, .int .i64 x289004_1, .int .i64 0, .slice none 0 0]) ?_ 0 _ rfl; (with_reducible repeat (first | refine blk_drewN ?_ _ | refine blk_drew ?_ | refine blk_alloc ?_ _)); exact BK288.out⟩, ⟨kW⟩⟩
        ·replace c74 := Bool.eq_false_iff.mpr c74
         subst c74
         have H1 : (sashref11_cell.j4 kj44 a0 x1_1 a2 125 2 x289001_1 x289002_1 x289003_1 x289004_1 0) = some (r1, r2, r3, r4, r5, r6, r7, r8, r9, r10) := mq54
         clear H
         have H := H1
         clear H1
         have H' := ak H
         clear H
         go_wp2
         go_meet
         case rel => exact ⟨_, (125), (2), mq39, H', ⟨mq41 HK1 HJ44⟩, ⟨mq29 NB287_288 BK287⟩, ⟨by (with_reducible repeat (first | refine blk_drewN ?_ _ | refine blk_drew ?_ | refine blk_alloc ?_ _)); refine blk_put (cs := #[.int .u8 0, .int .i64 x289001_1, .int .i64 x289002_1, .int .i64 x289003_1, .int .i64 x289004_1, .int .i64 0, .slice none 0 0]) ?_ 0 _ rfl; (with_reducible repeat (first | refine blk_drewN ?_ _ | refine blk_drew ?_ | refine blk_alloc ?_ _)); exact BK288.out⟩, ⟨kW⟩⟩
       case rest =>
        clear HC71
        clear hcz73_0 hcz73_1 hcz73_2 hcz73_3 hcz73_4 hcz73_5 hcz73_6 hfz73_0 hfz73_1 hfz73_2 hfz73_3 hfz73_4 hfz73_5 hfz73_6
        obtain ⟨kq, x15_70, x289000_70, rfl, HA, HJ70, BK287, BK288, HB⟩ := hcut
        cases kq with
        | zero => exact absurd HA.out (by simp [sashref11_cell.j4])
        | succ kj70 =>
         have H := HA.out
         clear HA
         simp only [sashref11_cell.j4] at H
         by_cases c77 : a2 ≥ 1000
         ·rw [if_pos c77] at H
          have c77b0 : decide (1000 ≤ a2) = true := decide_eq_true c77
          clear c77
          replace H := Option.bind_eq_some_iff.mp H
          obtain ⟨⟨t350, t351, t352, t353, t354, t355, t356, t359, t360, t361⟩, A780, H⟩ := H
          replace H : (some (t350, t351, t352, t353, t354, t355, t356, t359, t360, t361)) = some (r1, r2, r3, r4, r5, r6, r7, r8, r9, r10) := H
          have A78 := ak A780
          clear A780
          simp only [Option.some.injEq, Prod.mk.injEq] at H
          obtain ⟨rfl, rfl, rfl, rfl, rfl, rfl, rfl, rfl, rfl, rfl⟩ := H
          go_wp2_with (first | ((with_reducible refine gate_callee (f := 79) rfl ?_); refine gol (some 130) Tryz.func79 #[.int .i64 3, .int .i64 x1_1] (h := ?_); (with_reducible refine (sashref11_bad.calls 3 x1_1 t350 t351 t352 t353 t354 t355 t356 t359 t360 t361 _ A78.out).mono ?_); rintro e w79 ⟨v357, rfl, ho0, hb⟩; refine ⟨_, rfl, ?_⟩; have HO358 := ak (Kd.R_lower (Kd.R_newB ho0 (g := gb288) (o := .cells #[.int .u8 x289000_70, .int .i64 x289001_1, .int .i64 x289002_1, .int .i64 x289003_1, .int .i64 x289004_1, .int .i64 0, .slice none 0 0] 27 (0, 0)) (kA BK288)) (below_size kW)); replace BK287 := (kB BK287 hb); replace BK288 := (kB BK288 hb); replace HB := ak (below_step kW hb); (try clear hb); (try clear hb2); (try clear hk); (try clear hi); (try clear ho0); have hnb80 := NB287_288.out; have hnc80 := NB288_287.out; obtain ⟨hcz81_0, hcz81_1, hcz81_2, hcz81_3, hcz81_4, hcz81_5, hcz81_6, hcz81_7, hcz81_8, hcz81_9⟩ := cz10 BK287; obtain ⟨hfz81_0, hfz81_1, hfz81_2, hfz81_3, hfz81_4, hfz81_5, hfz81_6, hfz81_7, hfz81_8, hfz81_9⟩ := fz10 BK287; obtain ⟨Ao82, co82, eo82⟩ := Kd.R_slice HO358.out; subst eo82))
          refine bodyPost_ret (results_cell_row rfl _ _ gb287 91 #[.int .u8 t350, .int .i64 t351, .int .i64 t352, .int .i64 t353, .int .i64 t354, .int .i64 t355, .slice Ao82 t356.length co82, .int .i64 t359, .int .i64 t360, .int .i64 t361] (0, 0) _ rfl (kP10 BK287) Tryz.underlying91 rfl (by kernel_rfl)) rfl ?_
          exact ⟨_, mq37, mq9 HO358 BK287, kW⟩
         ·rw [if_neg c77] at H
          have c77b0 : decide (1000 ≤ a2) = false := decide_eq_false c77
          clear c77
          obtain ⟨y362, hy362⟩ : ∃ y_ : List (S27), y_ = (([] : List (S27))) := ⟨_, rfl⟩
          replace H : (sashref11_cell.l1 kj70 a0 (wrap64 (x1_1 + 1)) a2 x15_70 y362 x289000_70 x289001_1 x289002_1 x289003_1 x289004_1 0) = some (r1, r2, r3, r4, r5, r6, r7, r8, r9, r10) := mq33 hy362
          have Ny362 := ak hy362
          clear hy362
          have H' := ak H
          clear H
          go_wp2_with (first | ((with_reducible refine gate_dst (N := 133) rfl ?_); refine Kd.R_lit k27 _ 27 ?hg (N := 133) ?hd (xs := ([] : List (S27))) (inner := []) (ok := fun _ => True) (okp := fun _ => True) ?hr ?hp (fun _ hk => hk) trivial (Below.refl _ _) (Nat.le_refl _) (by simp) ?_; (case hd => rfl); (case hg => rfl); (case hr => first | (go_simp; done) | (go_simp; rfl)); (case hp => exact (Reps.none _ _)); intro v363 w83 ho84 hb hg_ hnew_; clear hg_ hnew_; (first | rw [← Ny362.out] at ho84 | (simp only [Int.reduceToNat] at ho84; rw [← Ny362.out] at ho84)); have HO364 := ak (Kd.R_lower (Kd.R_newB ho84 (g := gb288) (o := .cells #[.int .u8 x289000_70, .int .i64 x289001_1, .int .i64 x289002_1, .int .i64 x289003_1, .int .i64 x289004_1, .int .i64 0, .slice none 0 0] 27 (0, 0)) (kA BK288)) (below_size kW)); replace BK287 := (kB BK287 hb); replace BK288 := (kB BK288 hb); replace HB := ak (below_step kW hb); clear hb ho84))
          go_loopg [1, 16] kj70 (fun kq v1 v16 w' => ∃ (x1_4 : Int) (x16_4 : List (S27)) (x288000_4 : Int) (x288001_4 : Int) (x288002_4 : Int) (x288003_4 : Int) (x288004_4 : Int) (x288005_4 : Int) (x288007_4 : Int) (x288008_4 : Int) (x288009_4 : Int), v1 = .int .i64 x1_4 ∧ Aside0 (sashref11_cell.l1 kq a0 x1_4 a2 x15_70 x16_4 x289000_70 x289001_1 x289002_1 x289003_1 x289004_1 0 = some (r1, r2, r3, r4, r5, r6, r7, r8, r9, r10)) ∧ Aside0 (kq ≤ kj70) ∧ Aside0 (Kd.R k27 27 w' w.heap.size (fun k_ => k_ ≠ gb288) v16 x16_4) ∧ Aside0 (w'.heap[gb287]? = some (.cells #[.int .u8 x288000_4, .int .i64 x288001_4, .int .i64 x288002_4, .int .i64 x288003_4, .int .i64 x288004_4, .int .i64 x288005_4, (.slice none 0 0), .int .i64 x288007_4, .int .i64 x288008_4, .int .i64 x288009_4] 91 (0, 0))) ∧ Aside0 (w'.heap[gb288]? = some (.cells #[.int .u8 x289000_70, .int .i64 x289001_1, .int .i64 x289002_1, .int .i64 x289003_1, .int .i64 x289004_1, .int .i64 0, (.slice none 0 0)] 27 (0, 0))) ∧ Aside0 (Below w.heap.size w w'))
          case atStart => exact ⟨(wrap64 (x1_1 + 1)), (y362), (x288000_1), (x288001_1), (x288002_1), (x288003_1), (x288004_1), (x288005_1), (x288007_1), (x288008_1), (x288009_1), mq39, H', ⟨Nat.le_refl _⟩, ⟨mq15 HO364⟩, ⟨mq28 BK287⟩, ⟨mq28 BK288⟩, ⟨kW⟩⟩
          case round =>
           clear H'
           clear c77b0
           obtain ⟨x1_4, x16_4, x288000_4, x288001_4, x288002_4, x288003_4, x288004_4, x288005_4, x288007_4, x288008_4, x288009_4, rfl, HA, HK4, HO_16, BK287, BK288, HB⟩ := hrel
           cases gk with
           | zero => exact absurd HA.out (by simp [sashref11_cell.l1])
           | succ k4 =>
            have H := HA.out
            clear HA
            simp only [sashref11_cell.l1] at H
            have HC85 := ak H
            clear H
            go_upto_region 39 with (fail)
            go_cut [143] (fun v143 wc => ∃ (kq : Nat) (x143_84 : Bool), v143 = .bool x143_84 ∧ Aside0 (sashref11_cell.j6 kq a0 x1_4 a2 x15_70 x16_4 x143_84 x289000_70 x289001_1 x289002_1 x289003_1 x289004_1 0 = some (r1, r2, r3, r4, r5, r6, r7, r8, r9, r10)) ∧ Aside0 (kq ≤ k4) ∧ Aside0 (Kd.R k27 27 wc w.heap.size (fun k_ => k_ ≠ gb288) u16 x16_4) ∧ Aside0 (wc.heap[gb287]? = some (.cells #[.int .u8 x288000_4, .int .i64 x288001_4, .int .i64 x288002_4, .int .i64 x288003_4, .int .i64 x288004_4, .int .i64 x288005_4, (.slice none 0 0), .int .i64 x288007_4, .int .i64 x288008_4, .int .i64 x288009_4] 91 (0, 0))) ∧ Aside0 (wc.heap[gb288]? = some (.cells #[.int .u8 x289000_70, .int .i64 x289001_1, .int .i64 x289002_1, .int .i64 x289003_1, .int .i64 x289004_1, .int .i64 0, (.slice none 0 0)] 27 (0, 0))) ∧ Aside0 (Below w.heap.size w wc))
            case first =>
             have H := HC85.out
             clear HC85
             by_cases c86 : (x16_4.length : Int) < 2
             ·rw [if_pos c86] at H
              have c86b0 : decide ((x16_4.length : Int) < 2) = true := decide_eq_true c86
              have c86b1 : decide (x16_4.length < 2) = true := decide_eq_true (by omega)
              clear c86
              (first | rw [c86b0] | (simp only [i64_w, i32_w]; rw [c86b0]) | skip)
              have H' := ak H
              clear H
              obtain ⟨Ao87, co87, eo87⟩ := Kd.R_slice HO_16.out
              subst eo87
              go_wp2
              go_meet
              case rel => exact ⟨_, (true), mq39, H', ⟨mq43 HK1 HJ44 HJ70 HK4⟩, ⟨mq24 HO_16⟩, ⟨mq28 BK287⟩, ⟨mq28 BK288⟩, ⟨kW⟩⟩
             ·rw [if_neg c86] at H
              have c86b0 : decide ((x16_4.length : Int) < 2) = false := decide_eq_false c86
              have c86b1 : decide (x16_4.length < 2) = false := decide_eq_false (by omega)
              clear c86
              (first | rw [c86b0] | (simp only [i64_w, i32_w]; rw [c86b0]) | skip)
              replace H := Option.bind_eq_some_iff.mp H
              obtain ⟨t365, A880, H⟩ := H
              replace H : (sashref11_cell.j6 k4 a0 x1_4 a2 x15_70 x16_4 (!t365) x289000_70 x289001_1 x289002_1 x289003_1 x289004_1 0) = some (r1, r2, r3, r4, r5, r6, r7, r8, r9, r10) := H
              have A88 := ak A880
              clear A880
              have H' := ak H
              clear H
              obtain ⟨Ao89, co89, eo89⟩ := Kd.R_slice HO_16.out
              subst eo89
              go_wp2_with (first | (go_at_call 78; (with_reducible refine (sashref11_is.calls a0 x1_4 x15_70 t365 _ A88.out).mono ?_); rintro e w' ⟨rfl, ⟨nd, rfl⟩⟩))
              go_meet
              case rel => exact ⟨_, (!t365), mq39, H', ⟨mq43 HK1 HJ44 HJ70 HK4⟩, ⟨mq24 HO_16⟩, ⟨mq28 BK287⟩, ⟨mq28 BK288⟩, ⟨kW⟩⟩
            case rest =>
             clear HC85
             obtain ⟨kq, x143_84, rfl, HA, HJ84, HO_16, BK287, BK288, HB⟩ := hcut
             cases kq with
             | zero => exact absurd HA.out (by simp [sashref11_cell.j6])
             | succ kj84 =>
              have H := HA.out
              clear HA
              simp only [sashref11_cell.j6] at H
              by_cases c90 : x143_84 = true
              ·subst c90
               have H1 : (if (x16_4.length : Int) > 0 then ((sashref11_is.f a0 x1_4 44).bind fun t366 => (if t366 = true then ((sashref11_cell.f kj84 a0 (wrap64 (x1_4 + 1)) (wrap64 (a2 + 1))).bind fun bt367 => (if bt367.2.2.2.2.2.2.2.2.1 = 0 then (if x16_4.length < 1954687338268 then (sashref11_cell.l1 kj84 a0 bt367.2.2.2.2.2.2.2.1 a2 x15_70 (x16_4 ++ [(⟨bt367.1, (⟨bt367.2.1, bt367.2.2.1, bt367.2.2.2.1, bt367.2.2.2.2.1⟩ : S24), bt367.2.2.2.2.2.1, bt367.2.2.2.2.2.2.1⟩ : S27)]) x289000_70 x289001_1 x289002_1 x289003_1 x289004_1 0) else (none)) else (some (bt367.1, bt367.2.1, bt367.2.2.1, bt367.2.2.2.1, bt367.2.2.2.2.1, bt367.2.2.2.2.2.1, bt367.2.2.2.2.2.2.1, bt367.2.2.2.2.2.2.2.1, bt367.2.2.2.2.2.2.2.2.1, bt367.2.2.2.2.2.2.2.2.2)))) else ((sashref11_bad.f 2 x1_4).bind fun bt383 => (some (bt383.1, bt383.2.1, bt383.2.2.1, bt383.2.2.2.1, bt383.2.2.2.2.1, bt383.2.2.2.2.2.1, bt383.2.2.2.2.2.2.1, bt383.2.2.2.2.2.2.2.1, bt383.2.2.2.2.2.2.2.2.1, bt383.2.2.2.2.2.2.2.2.2))))) else ((sashref11_cell.f kj84 a0 x1_4 (wrap64 (a2 + 1))).bind fun bt395 => (if bt395.2.2.2.2.2.2.2.2.1 = 0 then (if x16_4.length < 1954687338268 then (sashref11_cell.l1 kj84 a0 bt395.2.2.2.2.2.2.2.1 a2 x15_70 (x16_4 ++ [(⟨bt395.1, (⟨bt395.2.1, bt395.2.2.1, bt395.2.2.2.1, bt395.2.2.2.2.1⟩ : S24), bt395.2.2.2.2.2.1, bt395.2.2.2.2.2.2.1⟩ : S27)]) x289000_70 x289001_1 x289002_1 x289003_1 x289004_1 0) else (none)) else (some (bt395.1, bt395.2.1, bt395.2.2.1, bt395.2.2.2.1, bt395.2.2.2.2.1, bt395.2.2.2.2.2.1, bt395.2.2.2.2.2.2.1, bt395.2.2.2.2.2.2.2.1, bt395.2.2.2.2.2.2.2.2.1, bt395.2.2.2.2.2.2.2.2.2))))) = some (r1, r2, r3, r4, r5, r6, r7, r8, r9, r10) := mq55
               clear H
               have H := H1
               clear H1
               by_cases c91 : (x16_4.length : Int) > 0
               ·rw [if_pos c91] at H
                have c91b0 : decide (0 < (x16_4.length : Int)) = true := decide_eq_true c91
                have c91b1 : decide (0 < x16_4.length) = true := decide_eq_true (by omega)
                clear c91
                replace H := Option.bind_eq_some_iff.mp H
                obtain ⟨t366, A920, H⟩ := H
                replace H : (if t366 = true then ((sashref11_cell.f kj84 a0 (wrap64 (x1_4 + 1)) (wrap64 (a2 + 1))).bind fun bt367 => (if bt367.2.2.2.2.2.2.2.2.1 = 0 then (if x16_4.length < 1954687338268 then (sashref11_cell.l1 kj84 a0 bt367.2.2.2.2.2.2.2.1 a2 x15_70 (x16_4 ++ [(⟨bt367.1, (⟨bt367.2.1, bt367.2.2.1, bt367.2.2.2.1, bt367.2.2.2.2.1⟩ : S24), bt367.2.2.2.2.2.1, bt367.2.2.2.2.2.2.1⟩ : S27)]) x289000_70 x289001_1 x289002_1 x289003_1 x289004_1 0) else (none)) else (some (bt367.1, bt367.2.1, bt367.2.2.1, bt367.2.2.2.1, bt367.2.2.2.2.1, bt367.2.2.2.2.2.1, bt367.2.2.2.2.2.2.1, bt367.2.2.2.2.2.2.2.1, bt367.2.2.2.2.2.2.2.2.1, bt367.2.2.2.2.2.2.2.2.2)))) else ((sashref11_bad.f 2 x1_4).bind fun bt383 => (some (bt383.1, bt383.2.1, bt383.2.2.1, bt383.2.2.2.1, bt383.2.2.2.2.1, bt383.2.2.2.2.2.1, bt383.2.2.2.2.2.2.1, bt383.2.2.2.2.2.2.2.1, bt383.2.2.2.2.2.2.2.2.1, bt383.2.2.2.2.2.2.2.2.2)))) = some (r1, r2, r3, r4, r5, r6, r7, r8, r9, r10) := H
                have A92 := ak A920
                clear A920
                by_cases c93 : t366 = true
                ·subst c93
                 have H1 : ((sashref11_cell.f kj84 a0 (wrap64 (x1_4 + 1)) (wrap64 (a2 + 1))).bind fun bt367 => (if bt367.2.2.2.2.2.2.2.2.1 = 0 then (if x16_4.length < 1954687338268 then (sashref11_cell.l1 kj84 a0 bt367.2.2.2.2.2.2.2.1 a2 x15_70 (x16_4 ++ [(⟨bt367.1, (⟨bt367.2.1, bt367.2.2.1, bt367.2.2.2.1, bt367.2.2.2.2.1⟩ : S24), bt367.2.2.2.2.2.1, bt367.2.2.2.2.2.2.1⟩ : S27)]) x289000_70 x289001_1 x289002_1 x289003_1 x289004_1 0) else (none)) else (some (bt367.1, bt367.2.1, bt367.2.2.1, bt367.2.2.2.1, bt367.2.2.2.2.1, bt367.2.2.2.2.2.1, bt367.2.2.2.2.2.2.1, bt367.2.2.2.2.2.2.2.1, bt367.2.2.2.2.2.2.2.2.1, bt367.2.2.2.2.2.2.2.2.2)))) = some (r1, r2, r3, r4, r5, r6, r7, r8, r9, r10) := mq55
                 clear H
                 have H := H1
                 clear H1
                 replace H := Option.bind_eq_some_iff.mp H
                 obtain ⟨⟨t367, t368, t369, t370, t371, t372, t373, t376, t377, t378⟩, A940, H⟩ := H
                 replace H : (if t377 = 0 then (if x16_4.length < 1954687338268 then (sashref11_cell.l1 kj84 a0 t376 a2 x15_70 (x16_4 ++ [(⟨t367, (⟨t368, t369, t370, t371⟩ : S24), t372, t373⟩ : S27)]) x289000_70 x289001_1 x289002_1 x289003_1 x289004_1 0) else (none)) else (some (t367, t368, t369, t370, t371, t372, t373, t376, t377, t378))) = some (r1, r2, r3, r4, r5, r6, r7, r8, r9, r10) := H
                 have A94 := ak A940
                 clear A940
                 by_cases c95 : t377 = 0
                 ·rw [if_pos c95] at H
                  have c95b0 : (t377 == 0) = true := beq_iff_eq.mpr c95
                  have c95b1 : (t377 != 0) = false := bne_eq_false_iff_eq.mpr c95
                  clear c95
                  by_cases c96 : x16_4.length < 1954687338268
                  ·rw [if_pos c96] at H
                   have LMc96 := ak c96
                   clear c96
                   obtain ⟨y380, hy380⟩ : ∃ y_ : List (S27), y_ = (x16_4 ++ [(⟨t367, (⟨t368, t369, t370, t371⟩ : S24), t372, t373⟩ : S27)]) := ⟨_, rfl⟩
                   replace H : (sashref11_cell.l1 kj84 a0 t376 a2 x15_70 y380 x289000_70 x289001_1 x289002_1 x289003_1 x289004_1 0) = some (r1, r2, r3, r4, r5, r6, r7, r8, r9, r10) := mq33 hy380
                   have Ny380 := ak hy380
                   clear hy380
                   have H' := ak H
                   clear H
                   obtain ⟨Ao97, co97, eo97⟩ := Kd.R_slice HO_16.out
                   subst eo97
                   go_wp2_with (first | ((with_reducible refine gate_callee (f := 78) rfl ?_); refine gol (some 149) Tryz.func78 #[.string a0, .int .i64 x1_4, .int .u8 44] (h := ?_); (with_reducible refine (sashref11_is.calls a0 x1_4 44 true _ A92.out).mono ?_); rintro e w' ⟨rfl, ⟨nd, rfl⟩⟩; refine ⟨_, rfl, ?_⟩; (try (rw [drewN_self wc]; generalize hq_ : World.drewN wc _ = wc; replace HO_16 : Aside0 (Kd.R k27 27 wc w.heap.size (fun k_ => k_ ≠ gb288) (.slice Ao97 x16_4.length co97) x16_4) := ⟨by rw [← hq_]; exact (kR HO_16)⟩; replace BK287 := kQ BK287 hq_; replace BK288 := kQ BK288 hq_; replace HB : Aside0 (Below w.heap.size w wc) := ⟨mq56⟩; clear hq_))) | ((with_reducible refine gate_callee (f := 51) rfl ?_); refine gol (some 159) Tryz.func51 #[.string a0, .int .i64 (wrap64 (x1_4 + 1)), .int .i64 (wrap64 (a2 + 1))] (h := ?_); (with_reducible refine (ih kj84 (mq44 HK1 HJ44 HJ70 HK4 HJ84) a0 (wrap64 (x1_4 + 1)) (wrap64 (a2 + 1)) t367 t368 t369 t370 t371 t372 t373 t376 t377 t378 _ A94.out).mono ?_); rintro e w98 ⟨v374, rfl, ho0, hb⟩; refine ⟨_, rfl, ?_⟩; have HO375 := ak (Kd.R_lower (Kd.R_newB (Kd.R_new' ho0 (Kd.R_lt (kR HO_16))) (g := gb288) (o := .cells #[.int .u8 x289000_70, .int .i64 x289001_1, .int .i64 x289002_1, .int .i64 x289003_1, .int .i64 x289004_1, .int .i64 0, .slice none 0 0] 27 (0, 0)) (kA BK288)) (below_size kW)); replace HO_16 := ak (Kd.R_elder' (kR HO_16) (Kd.R_base ho0) hb); replace BK287 := (kB BK287 hb); replace BK288 := (kB BK288 hb); replace HB := ak (below_step kW hb); (try clear hb); (try clear hb2); (try clear hk); (try clear hi); (try clear ho0)) | ((with_reducible refine gate_dst (N := 17) rfl ?_); refine bxe 17 #[.int .u8 0, .int .i64 0, .int .i64 0, .int .i64 0, .int .i64 0, .int .i64 0, .slice none 0 0, .int .i64 0, .int .i64 0, .int .i64 0] 91 (h := ?_); intro gb379 hg w99 hbox hb; replace HO_16 := ak (Kd.R_below (kR HO_16) hb); replace HO375 := ak (Kd.R_below (kR HO375) hb); have BK379 := ak (hbox); have GW379 := ak ((mq53 : w.heap.size ≤ gb379)); have GE379 := ak ((mq53 : w.heap.size ≤ gb379)); replace HB := ak (below_step kW hb); have NB287_379 := kE BK287 hg; have NB379_287 := kE' BK287 hg; replace BK287 := (kB BK287 hb); have NB288_379 := kE BK288 hg; have NB379_288 := kE' BK288 hg; replace BK288 := (kB BK288 hb); clear hb hbox hg; have hnb100 := NB379_287.out; have hnc100 := NB287_379.out; have hnb101 := NB379_288.out; have hnc101 := NB288_379.out; obtain ⟨hcz102_0, hcz102_1, hcz102_2, hcz102_3, hcz102_4, hcz102_5, hcz102_6, hcz102_7, hcz102_8, hcz102_9⟩ := cz10 BK379; obtain ⟨hfz102_0, hfz102_1, hfz102_2, hfz102_3, hfz102_4, hfz102_5, hfz102_6, hfz102_7, hfz102_8, hfz102_9⟩ := fz10 BK379; obtain ⟨Ao103, co103, eo103⟩ := Kd.R_slice HO375.out; subst eo103) | ((with_reducible refine gate_store (t := 91) (p := 17) rfl ?_); refine store_event (t := 91) (p := 17) (v := ?vo_w104) (w1 := ((((((((((w99.setCell ⟨gb379, 0, none⟩ (.int .u8 t367)).setCell ⟨gb379, 1, none⟩ (.int .i64 t368)).setCell ⟨gb379, 2, none⟩ (.int .i64 t369)).setCell ⟨gb379, 3, none⟩ (.int .i64 t370)).setCell ⟨gb379, 4, none⟩ (.int .i64 t371)).setCell ⟨gb379, 5, none⟩ (.int .i64 t372)).setCell ⟨gb379, 6, none⟩ (.slice Ao103 t373.length co103)).setCell ⟨gb379, 7, none⟩ (.int .i64 t376)).setCell ⟨gb379, 8, none⟩ (.int .i64 t377)).setCell ⟨gb379, 9, none⟩ (.int .i64 t378))) ?hg ?ho ?hn ?hr ?_; (case ho => rfl); (case hg => rfl); (case hn => rfl); (case hr => first | (go_simp; done) | (go_simp; rfl)); intro w104 hw; replace HO_16 : Aside0 (Kd.R k27 27 w104 w.heap.size (fun k_ => some k_ ≠ (.slice Ao103 t373.length co103 : Value).ownBlock ∧ k_ ≠ gb288) (.slice Ao97 x16_4.length co97) x16_4) := ⟨(by rw [hw]; exact (by (with_reducible repeat (first | apply Kd.R_alloc | apply Kd.R_drewN | apply Kd.R_drew)); exact Kd.R_mono (rf10 (g := gb379) (Kd.R_types HO_16.out BK379.out (by decide)) (fun _ hk => hk.2)) (fun _ hk => ⟨hk.1.2, hk.1.1⟩)))⟩; replace HO375 : Aside0 (Kd.R k27 27 w104 w.heap.size (fun k_ => some k_ ≠ (.slice Ao97 x16_4.length co97 : Value).ownBlock ∧ k_ ≠ gb288) (.slice Ao103 t373.length co103) t373) := ⟨(by rw [hw]; exact (by (with_reducible repeat (first | apply Kd.R_alloc | apply Kd.R_drewN | apply Kd.R_drew)); exact Kd.R_mono (rf10 (g := gb379) (Kd.R_types HO375.out BK379.out (by decide)) (fun _ hk => hk.2)) (fun _ hk => ⟨hk.1.1.2, hk.1.2⟩)))⟩; replace BK287 := kF NB287_379 BK287 hw; replace BK288 := kF NB288_379 BK288 hw; replace BK379 := kPw10 BK379 hw; replace HB : Aside0 (Below w.heap.size w w104) := ⟨(by rw [hw]; exact kW)⟩; clear hw; obtain ⟨hcz105_0, hcz105_1, hcz105_2, hcz105_3, hcz105_4, hcz105_5, hcz105_6, hcz105_7, hcz105_8, hcz105_9⟩ := cz10 BK379; obtain ⟨hfz105_0, hfz105_1, hfz105_2, hfz105_3, hfz105_4, hfz105_5, hfz105_6, hfz105_7, hfz105_8, hfz105_9⟩ := fz10 BK379) | ((with_reducible refine gate_builtin (b := .append) (xs := #[.tmp 164, .tmp 167]) rfl ?_); at_builtin; refine Kd.R_append k27 (w0 := w) w.heap.size rfl (.tmp 164) (.tmp 167) 25 27 (.agg #[(.int .u8 0), (.int .i64 0), (.int .i64 0), (.int .i64 0), (.int .i64 0), (.int .i64 0), (.slice none 0 0)]) 72 rfl Tryz.underlying25 info27 rfl (by decide) (by omega) (.slice Ao97 x16_4.length co97) x16_4 (⟨t367, (⟨t368, t369, t370, t371⟩ : S24), t372, t373⟩ : S27) [.int .u8 t367, .int .i64 t368, .int .i64 t369, .int .i64 t370, .int .i64 t371, .int .i64 t372, .slice Ao103 t373.length co103] (fun k_ => k_ ≠ gb288) (fun k_ => ((fun k_ => k_ ≠ gb288)) k_ ∧ some k_ ≠ (.slice Ao97 x16_4.length co97 : Value).ownBlock) rfl rfl ?aP (fun _ hk => hk) ?aF ?aO ?aB ?aS ?aL ?_; (case aP => exact k27_mkM _ _ _ (⟨t367, (⟨t368, t369, t370, t371⟩ : S24), t372, t373⟩ : S27) (Kd.R_mono (HO375.out) (fun k_ hk => ⟨hk.2, hk.1⟩))); (case aB => exact kW); (case aF => exact (fun k_ hk => Kd.freshB (g := gb288) (o := .cells #[.int .u8 x289000_70, .int .i64 x289001_1, .int .i64 x289002_1, .int .i64 x289003_1, .int .i64 x289004_1, .int .i64 0, .slice none 0 0] 27 (0, 0)) (kA BK288) k_ hk)); (case aO => exact (mq15 HO_16)); (case aS => exact (below_size kW)); (case aL => have := LMc96.out; omega); intro v381 w106 ho hb hg hat; rw [← Ny380.out] at ho; replace BK287 := (kG BK287 hg (Kd.R_ne HO_16.out BK287.out (by decide))); replace BK288 := (kG BK288 hg (Kd.R_away HO_16.out (fun _ hk => hk.2))); replace BK379 := (kG BK379 hg (Kd.R_ne HO_16.out BK379.out (by decide))); replace HB := ak (hb); have HO382 := ak (ho); clear HO_16 HO375; clear ho hb hg hat; obtain ⟨hcz107_0, hcz107_1, hcz107_2, hcz107_3, hcz107_4, hcz107_5, hcz107_6, hcz107_7, hcz107_8, hcz107_9⟩ := cz10 BK379; obtain ⟨hfz107_0, hfz107_1, hfz107_2, hfz107_3, hfz107_4, hfz107_5, hfz107_6, hfz107_7, hfz107_8, hfz107_9⟩ := fz10 BK379))
                   go_roundg kj84
                   case measure => have := HK1.out; have := HJ44.out; have := HJ70.out; have := HK4.out; have := HJ84.out; omega
                   case rel => exact ⟨(t376), (y380), (x288000_4), (x288001_4), (x288002_4), (x288003_4), (x288004_4), (x288005_4), (x288007_4), (x288008_4), (x288009_4), mq39, H', ⟨mq44 HK1 HJ44 HJ70 HK4 HJ84⟩, ⟨mq24 HO382⟩, ⟨mq28 BK287⟩, ⟨mq28 BK288⟩, ⟨kW⟩⟩
                  ·rw [if_neg c96] at H
                   exact absurd H (by simp)
                 ·rw [if_neg c95] at H
                  have c95b0 : (t377 == 0) = false := beq_eq_false_iff_ne.mpr c95
                  have c95b1 : (t377 != 0) = true := bne_iff_ne.mpr c95
                  simp only [Option.some.injEq, Prod.mk.injEq] at H
                  obtain ⟨rfl, rfl, rfl, rfl, rfl, rfl, rfl, rfl, rfl, rfl⟩ := H
                  obtain ⟨Ao108, co108, eo108⟩ := Kd.R_slice HO_16.out
                  subst eo108
                  go_wp2_with (first | ((with_reducible refine gate_callee (f := 78) rfl ?_); refine gol (some 149) Tryz.func78 #[.string a0, .int .i64 x1_4, .int .u8 44] (h := ?_); (with_reducible refine (sashref11_is.calls a0 x1_4 44 true _ A92.out).mono ?_); rintro e w' ⟨rfl, ⟨nd, rfl⟩⟩; refine ⟨_, rfl, ?_⟩; (try (rw [drewN_self wc]; generalize hq_ : World.drewN wc _ = wc; replace HO_16 : Aside0 (Kd.R k27 27 wc w.heap.size (fun k_ => k_ ≠ gb288) (.slice Ao108 x16_4.length co108) x16_4) := ⟨by rw [← hq_]; exact (kR HO_16)⟩; replace BK287 := kQ BK287 hq_; replace BK288 := kQ BK288 hq_; replace HB : Aside0 (Below w.heap.size w wc) := ⟨mq56⟩; clear hq_))) | ((with_reducible refine gate_callee (f := 51) rfl ?_); refine gol (some 159) Tryz.func51 #[.string a0, .int .i64 (wrap64 (x1_4 + 1)), .int .i64 (wrap64 (a2 + 1))] (h := ?_); (with_reducible refine (ih kj84 (mq44 HK1 HJ44 HJ70 HK4 HJ84) a0 (wrap64 (x1_4 + 1)) (wrap64 (a2 + 1)) t367 t368 t369 t370 t371 t372 t373 t376 t377 t378 _ A94.out).mono ?_); rintro e w109 ⟨v374, rfl, ho0, hb⟩; refine ⟨_, rfl, ?_⟩; have HO375 := ak (Kd.R_lower (Kd.R_newB (Kd.R_new' ho0 (Kd.R_lt (kR HO_16))) (g := gb288) (o := .cells #[.int .u8 x289000_70, .int .i64 x289001_1, .int .i64 x289002_1, .int .i64 x289003_1, .int .i64 x289004_1, .int .i64 0, .slice none 0 0] 27 (0, 0)) (kA BK288)) (below_size kW)); replace HO_16 := ak (Kd.R_elder' (kR HO_16) (Kd.R_base ho0) hb); replace BK287 := (kB BK287 hb); replace BK288 := (kB BK288 hb); replace HB := ak (below_step kW hb); (try clear hb); (try clear hb2); (try clear hk); (try clear hi); (try clear ho0)) | ((with_reducible refine gate_dst (N := 17) rfl ?_); refine bxe 17 #[.int .u8 0, .int .i64 0, .int .i64 0, .int .i64 0, .int .i64 0, .int .i64 0, .slice none 0 0, .int .i64 0, .int .i64 0, .int .i64 0] 91 (h := ?_); intro gb379 hg w110 hbox hb; replace HO_16 := ak (Kd.R_below (kR HO_16) hb); replace HO375 := ak (Kd.R_below (kR HO375) hb); have BK379 := ak (hbox); have GW379 := ak ((mq53 : w.heap.size ≤ gb379)); have GE379 := ak ((mq53 : w.heap.size ≤ gb379)); replace HB := ak (below_step kW hb); have NB287_379 := kE BK287 hg; have NB379_287 := kE' BK287 hg; replace BK287 := (kB BK287 hb); have NB288_379 := kE BK288 hg; have NB379_288 := kE' BK288 hg; replace BK288 := (kB BK288 hb); clear hb hbox hg; have hnb111 := NB379_287.out; have hnc111 := NB287_379.out; have hnb112 := NB379_288.out; have hnc112 := NB288_379.out; obtain ⟨hcz113_0, hcz113_1, hcz113_2, hcz113_3, hcz113_4, hcz113_5, hcz113_6, hcz113_7, hcz113_8, hcz113_9⟩ := cz10 BK379; obtain ⟨hfz113_0, hfz113_1, hfz113_2, hfz113_3, hfz113_4, hfz113_5, hfz113_6, hfz113_7, hfz113_8, hfz113_9⟩ := fz10 BK379; obtain ⟨Ao114, co114, eo114⟩ := Kd.R_slice HO375.out; subst eo114; have hnb115 := NB287_288.out; have hnc115 := NB288_287.out; obtain ⟨hcz116_0, hcz116_1, hcz116_2, hcz116_3, hcz116_4, hcz116_5, hcz116_6, hcz116_7, hcz116_8, hcz116_9⟩ := cz10 BK287; obtain ⟨hfz116_0, hfz116_1, hfz116_2, hfz116_3, hfz116_4, hfz116_5, hfz116_6, hfz116_7, hfz116_8, hfz116_9⟩ := fz10 BK287))
                  refine bodyPost_ret (results_cell_row rfl _ _ gb287 91 #[.int .u8 t367, .int .i64 t368, .int .i64 t369, .int .i64 t370, .int .i64 t371, .int .i64 t372, .slice Ao114 t373.length co114, .int .i64 t376, .int .i64 t377, .int .i64 t378] (0, 0) _ rfl (kPf10 BK287) Tryz.underlying91 rfl (by kernel_rfl)) rfl ?_
                  exact ⟨_, mq37, by (with_reducible repeat (first | apply Kd.R_alloc | apply Kd.R_drewN | apply Kd.R_drew)); exact Kd.R_mono (Kd.R_far (p := ⟨gb287, 9, none⟩) (Kd.R_far (p := ⟨gb287, 8, none⟩) (Kd.R_far (p := ⟨gb287, 7, none⟩) (Kd.R_far (p := ⟨gb287, 6, none⟩) (Kd.R_far (p := ⟨gb287, 5, none⟩) (Kd.R_far (p := ⟨gb287, 4, none⟩) (Kd.R_far (p := ⟨gb287, 3, none⟩) (Kd.R_far (p := ⟨gb287, 2, none⟩) (Kd.R_far (p := ⟨gb287, 1, none⟩) (Kd.R_far (p := ⟨gb287, 0, none⟩) (rf10 (g := gb379) (Kd.R_types (Kd.R_types HO375.out BK379.out (by decide)) BK287.out (by decide)) (fun _ hk => hk.1.2)) (fun _ hk => hk.2) (.int .u8 t367)) (fun _ hk => hk.2) (.int .i64 t368)) (fun _ hk => hk.2) (.int .i64 t369)) (fun _ hk => hk.2) (.int .i64 t370)) (fun _ hk => hk.2) (.int .i64 t371)) (fun _ hk => hk.2) (.int .i64 t372)) (fun _ hk => hk.2) (.slice Ao114 t373.length co114)) (fun _ hk => hk.2) (.int .i64 t376)) (fun _ hk => hk.2) (.int .i64 t377)) (fun _ hk => hk.2) (.int .i64 t378)) (fun _ hk => trivial), kW⟩
                ·replace c93 := Bool.eq_false_iff.mpr c93
                 subst c93
                 have H1 : ((sashref11_bad.f 2 x1_4).bind fun bt383 => (some (bt383.1, bt383.2.1, bt383.2.2.1, bt383.2.2.2.1, bt383.2.2.2.2.1, bt383.2.2.2.2.2.1, bt383.2.2.2.2.2.2.1, bt383.2.2.2.2.2.2.2.1, bt383.2.2.2.2.2.2.2.2.1, bt383.2.2.2.2.2.2.2.2.2))) = some (r1, r2, r3, r4, r5, r6, r7, r8, r9, r10) := mq54
                 clear H
                 have H := H1
                 clear H1
                 replace H := Option.bind_eq_some_iff.mp H
                 obtain ⟨⟨t383, t384, t385, t386, t387, t388, t389, t392, t393, t394⟩, A1170, H⟩ := H
                 replace H : (some (t383, t384, t385, t386, t387, t388, t389, t392, t393, t394)) = some (r1, r2, r3, r4, r5, r6, r7, r8, r9, r10) := H
                 have A117 := ak A1170
                 clear A1170
                 simp only [Option.some.injEq, Prod.mk.injEq] at H
                 obtain ⟨rfl, rfl, rfl, rfl, rfl, rfl, rfl, rfl, rfl, rfl⟩ := H
                 obtain ⟨Ao118, co118, eo118⟩ := Kd.R_slice HO_16.out
                 subst eo118
                 go_wp2_with (first | ((with_reducible refine gate_callee (f := 78) rfl ?_); refine gol (some 149) Tryz.func78 #[.string a0, .int .i64 x1_4, .int .u8 44] (h := ?_); (with_reducible refine (sashref11_is.calls a0 x1_4 44 false _ A92.out).mono ?_); rintro e w' ⟨rfl, ⟨nd, rfl⟩⟩; refine ⟨_, rfl, ?_⟩; (try (rw [drewN_self wc]; generalize hq_ : World.drewN wc _ = wc; replace HO_16 : Aside0 (Kd.R k27 27 wc w.heap.size (fun k_ => k_ ≠ gb288) (.slice Ao118 x16_4.length co118) x16_4) := ⟨by rw [← hq_]; exact (kR HO_16)⟩; replace BK287 := kQ BK287 hq_; replace BK288 := kQ BK288 hq_; replace HB : Aside0 (Below w.heap.size w wc) := ⟨mq56⟩; clear hq_))) | ((with_reducible refine gate_callee (f := 79) rfl ?_); refine gol (some 152) Tryz.func79 #[.int .i64 2, .int .i64 x1_4] (h := ?_); (with_reducible refine (sashref11_bad.calls 2 x1_4 t383 t384 t385 t386 t387 t388 t389 t392 t393 t394 _ A117.out).mono ?_); rintro e w119 ⟨v390, rfl, ho0, hb⟩; refine ⟨_, rfl, ?_⟩; have HO391 := ak (Kd.R_lower (Kd.R_newB (Kd.R_new' ho0 (Kd.R_lt (kR HO_16))) (g := gb288) (o := .cells #[.int .u8 x289000_70, .int .i64 x289001_1, .int .i64 x289002_1, .int .i64 x289003_1, .int .i64 x289004_1, .int .i64 0, .slice none 0 0] 27 (0, 0)) (kA BK288)) (below_size kW)); replace HO_16 := ak (Kd.R_elder' (kR HO_16) (Kd.R_base ho0) hb); replace BK287 := (kB BK287 hb); replace BK288 := (kB BK288 hb); replace HB := ak (below_step kW hb); (try clear hb); (try clear hb2); (try clear hk); (try clear hi); (try clear ho0); have hnb120 := NB287_288.out; have hnc120 := NB288_287.out; obtain ⟨hcz121_0, hcz121_1, hcz121_2, hcz121_3, hcz121_4, hcz121_5, hcz121_6, hcz121_7, hcz121_8, hcz121_9⟩ := cz10 BK287; obtain ⟨hfz121_0, hfz121_1, hfz121_2, hfz121_3, hfz121_4, hfz121_5, hfz121_6, hfz121_7, hfz121_8, hfz121_9⟩ := fz10 BK287; obtain ⟨Ao122, co122, eo122⟩ := Kd.R_slice HO391.out; subst eo122))
                 refine bodyPost_ret (results_cell_row rfl _ _ gb287 91 #[.int .u8 t383, .int .i64 t384, .int .i64 t385, .int .i64 t386, .int .i64 t387, .int .i64 t388, .slice Ao122 t389.length co122, .int .i64 t392, .int .i64 t393, .int .i64 t394] (0, 0) _ rfl (kP10 BK287) Tryz.underlying91 rfl (by kernel_rfl)) rfl ?_
                 exact ⟨_, mq37, mq9 HO391 BK287, kW⟩
               ·rw [if_neg c91] at H
                have c91b0 : decide (0 < (x16_4.length : Int)) = false := decide_eq_false c91
                have c91b1 : decide (0 < x16_4.length) = false := decide_eq_false (by omega)
                clear c91
                replace H := Option.bind_eq_some_iff.mp H
                obtain ⟨⟨t395, t396, t397, t398, t399, t400, t401, t404, t405, t406⟩, A1230, H⟩ := H
                replace H : (if t405 = 0 then (if x16_4.length < 1954687338268 then (sashref11_cell.l1 kj84 a0 t404 a2 x15_70 (x16_4 ++ [(⟨t395, (⟨t396, t397, t398, t399⟩ : S24), t400, t401⟩ : S27)]) x289000_70 x289001_1 x289002_1 x289003_1 x289004_1 0) else (none)) else (some (t395, t396, t397, t398, t399, t400, t401, t404, t405, t406))) = some (r1, r2, r3, r4, r5, r6, r7, r8, r9, r10) := H
                have A123 := ak A1230
                clear A1230
                by_cases c124 : t405 = 0
                ·rw [if_pos c124] at H
                 have c124b0 : (t405 == 0) = true := beq_iff_eq.mpr c124
                 have c124b1 : (t405 != 0) = false := bne_eq_false_iff_eq.mpr c124
                 clear c124
                 by_cases c125 : x16_4.length < 1954687338268
                 ·rw [if_pos c125] at H
                  have LMc125 := ak c125
                  clear c125
                  obtain ⟨y408, hy408⟩ : ∃ y_ : List (S27), y_ = (x16_4 ++ [(⟨t395, (⟨t396, t397, t398, t399⟩ : S24), t400, t401⟩ : S27)]) := ⟨_, rfl⟩
                  replace H : (sashref11_cell.l1 kj84 a0 t404 a2 x15_70 y408 x289000_70 x289001_1 x289002_1 x289003_1 x289004_1 0) = some (r1, r2, r3, r4, r5, r6, r7, r8, r9, r10) := mq33 hy408
                  have Ny408 := ak hy408
                  clear hy408
                  have H' := ak H
                  clear H
                  obtain ⟨Ao126, co126, eo126⟩ := Kd.R_slice HO_16.out
                  subst eo126
                  go_wp2_with (first | ((with_reducible refine gate_callee (f := 51) rfl ?_); refine gol (some 159) Tryz.func51 #[.string a0, .int .i64 x1_4, .int .i64 (wrap64 (a2 + 1))] (h := ?_); (with_reducible refine (ih kj84 (mq44 HK1 HJ44 HJ70 HK4 HJ84) a0 x1_4 (wrap64 (a2 + 1)) t395 t396 t397 t398 t399 t400 t401 t404 t405 t406 _ A123.out).mono ?_); rintro e w127 ⟨v402, rfl, ho0, hb⟩; refine ⟨_, rfl, ?_⟩; have HO403 := ak (Kd.R_lower (Kd.R_newB (Kd.R_new' ho0 (Kd.R_lt (kR HO_16))) (g := gb288) (o := .cells #[.int .u8 x289000_70, .int .i64 x289001_1, .int .i64 x289002_1, .int .i64 x289003_1, .int .i64 x289004_1, .int .i64 0, .slice none 0 0] 27 (0, 0)) (kA BK288)) (below_size kW)); replace HO_16 := ak (Kd.R_elder' (kR HO_16) (Kd.R_base ho0) hb); replace BK287 := (kB BK287 hb); replace BK288 := (kB BK288 hb); replace HB := ak (below_step kW hb); (try clear hb); (try clear hb2); (try clear hk); (try clear hi); (try clear ho0)) | ((with_reducible refine gate_dst (N := 17) rfl ?_); refine bxe 17 #[.int .u8 0, .int .i64 0, .int .i64 0, .int .i64 0, .int .i64 0, .int .i64 0, .slice none 0 0, .int .i64 0, .int .i64 0, .int .i64 0] 91 (h := ?_); intro gb407 hg w128 hbox hb; replace HO_16 := ak (Kd.R_below (kR HO_16) hb); replace HO403 := ak (Kd.R_below (kR HO403) hb); have BK407 := ak (hbox); have GW407 := ak ((mq53 : w.heap.size ≤ gb407)); have GE407 := ak ((mq53 : w.heap.size ≤ gb407)); replace HB := ak (below_step kW hb); have NB287_407 := kE BK287 hg; have NB407_287 := kE' BK287 hg; replace BK287 := (kB BK287 hb); have NB288_407 := kE BK288 hg; have NB407_288 := kE' BK288 hg; replace BK288 := (kB BK288 hb); clear hb hbox hg; have hnb129 := NB407_287.out; have hnc129 := NB287_407.out; have hnb130 := NB407_288.out; have hnc130 := NB288_407.out; obtain ⟨hcz131_0, hcz131_1, hcz131_2, hcz131_3, hcz131_4, hcz131_5, hcz131_6, hcz131_7, hcz131_8, hcz131_9⟩ := cz10 BK407; obtain ⟨hfz131_0, hfz131_1, hfz131_2, hfz131_3, hfz131_4, hfz131_5, hfz131_6, hfz131_7, hfz131_8, hfz131_9⟩ := fz10 BK407; obtain ⟨Ao132, co132, eo132⟩ := Kd.R_slice HO403.out; subst eo132) | ((with_reducible refine gate_store (t := 91) (p := 17) rfl ?_); refine store_event (t := 91) (p := 17) (v := ?vo_w133) (w1 := ((((((((((w128.setCell ⟨gb407, 0, none⟩ (.int .u8 t395)).setCell ⟨gb407, 1, none⟩ (.int .i64 t396)).setCell ⟨gb407, 2, none⟩ (.int .i64 t397)).setCell ⟨gb407, 3, none⟩ (.int .i64 t398)).setCell ⟨gb407, 4, none⟩ (.int .i64 t399)).setCell ⟨gb407, 5, none⟩ (.int .i64 t400)).setCell ⟨gb407, 6, none⟩ (.slice Ao132 t401.length co132)).setCell ⟨gb407, 7, none⟩ (.int .i64 t404)).setCell ⟨gb407, 8, none⟩ (.int .i64 t405)).setCell ⟨gb407, 9, none⟩ (.int .i64 t406))) ?hg ?ho ?hn ?hr ?_; (case ho => rfl); (case hg => rfl); (case hn => rfl); (case hr => first | (go_simp; done) | (go_simp; rfl)); intro w133 hw; replace HO_16 : Aside0 (Kd.R k27 27 w133 w.heap.size (fun k_ => some k_ ≠ (.slice Ao132 t401.length co132 : Value).ownBlock ∧ k_ ≠ gb288) (.slice Ao126 x16_4.length co126) x16_4) := ⟨(by rw [hw]; exact (by (with_reducible repeat (first | apply Kd.R_alloc | apply Kd.R_drewN | apply Kd.R_drew)); exact Kd.R_mono (rf10 (g := gb407) (Kd.R_types HO_16.out BK407.out (by decide)) (fun _ hk => hk.2)) (fun _ hk => ⟨hk.1.2, hk.1.1⟩)))⟩; replace HO403 : Aside0 (Kd.R k27 27 w133 w.heap.size (fun k_ => some k_ ≠ (.slice Ao126 x16_4.length co126 : Value).ownBlock ∧ k_ ≠ gb288) (.slice Ao132 t401.length co132) t401) := ⟨(by rw [hw]; exact (by (with_reducible repeat (first | apply Kd.R_alloc | apply Kd.R_drewN | apply Kd.R_drew)); exact Kd.R_mono (rf10 (g := gb407) (Kd.R_types HO403.out BK407.out (by decide)) (fun _ hk => hk.2)) (fun _ hk => ⟨hk.1.1.2, hk.1.2⟩)))⟩; replace BK287 := kF NB287_407 BK287 hw; replace BK288 := kF NB288_407 BK288 hw; replace BK407 := kPw10 BK407 hw; replace HB : Aside0 (Below w.heap.size w w133) := ⟨(by rw [hw]; exact kW)⟩; clear hw; obtain ⟨hcz134_0, hcz134_1, hcz134_2, hcz134_3, hcz134_4, hcz134_5, hcz134_6, hcz134_7, hcz134_8, hcz134_9⟩ := cz10 BK407; obtain ⟨hfz134_0, hfz134_1, hfz134_2, hfz134_3, hfz134_4, hfz134_5, hfz134_6, hfz134_7, hfz134_8, hfz134_9⟩ := fz10 BK407) | ((with_reducible refine gate_builtin (b := .append) (xs := #[.tmp 164, .tmp 167]) rfl ?_); at_builtin; refine Kd.R_append k27 (w0 := w) w.heap.size rfl (.tmp 164) (.tmp 167) 25 27 (.agg #[(.int .u8 0), (.int .i64 0), (.int .i64 0), (.int .i64 0), (.int .i64 0), (.int .i64 0), (.slice none 0 0)]) 72 rfl Tryz.underlying25 info27 rfl (by decide) (by omega) (.slice Ao126 x16_4.length co126) x16_4 (⟨t395, (⟨t396, t397, t398, t399⟩ : S24), t400, t401⟩ : S27) [.int .u8 t395, .int .i64 t396, .int .i64 t397, .int .i64 t398, .int .i64 t399, .int .i64 t400, .slice Ao132 t401.length co132] (fun k_ => k_ ≠ gb288) (fun k_ => ((fun k_ => k_ ≠ gb288)) k_ ∧ some k_ ≠ (.slice Ao126 x16_4.length co126 : Value).ownBlock) rfl rfl ?aP (fun _ hk => hk) ?aF ?aO ?aB ?aS ?aL ?_; (case aP => exact k27_mkM _ _ _ (⟨t395, (⟨t396, t397, t398, t399⟩ : S24), t400, t401⟩ : S27) (Kd.R_mono (HO403.out) (fun k_ hk => ⟨hk.2, hk.1⟩))); (case aB => exact kW); (case aF => exact (fun k_ hk => Kd.freshB (g := gb288) (o := .cells #[.int .u8 x289000_70, .int .i64 x289001_1, .int .i64 x289002_1, .int .i64 x289003_1, .int .i64 x289004_1, .int .i64 0, .slice none 0 0] 27 (0, 0)) (kA BK288) k_ hk)); (case aO => exact (mq15 HO_16)); (case aS => exact (below_size kW)); (case aL => have := LMc125.out; omega); intro v409 w135 ho hb hg hat; rw [← Ny408.out] at ho; replace BK287 := (kG BK287 hg (Kd.R_ne HO_16.out BK287.out (by decide))); replace BK288 := (kG BK288 hg (Kd.R_away HO_16.out (fun _ hk => hk.2))); replace BK407 := (kG BK407 hg (Kd.R_ne HO_16.out BK407.out (by decide))); replace HB := ak (hb); have HO410 := ak (ho); clear HO_16 HO403; clear ho hb hg hat; obtain ⟨hcz136_0, hcz136_1, hcz136_2, hcz136_3, hcz136_4, hcz136_5, hcz136_6, hcz136_7, hcz136_8, hcz136_9⟩ := cz10 BK407; obtain ⟨hfz136_0, hfz136_1, hfz136_2, hfz136_3, hfz136_4, hfz136_5, hfz136_6, hfz136_7, hfz136_8, hfz136_9⟩ := fz10 BK407))
                  go_roundg kj84
                  case measure => have := HK1.out; have := HJ44.out; have := HJ70.out; have := HK4.out; have := HJ84.out; omega
                  case rel => exact ⟨(t404), (y408), (x288000_4), (x288001_4), (x288002_4), (x288003_4), (x288004_4), (x288005_4), (x288007_4), (x288008_4), (x288009_4), mq39, H', ⟨mq44 HK1 HJ44 HJ70 HK4 HJ84⟩, ⟨mq24 HO410⟩, ⟨mq28 BK287⟩, ⟨mq28 BK288⟩, ⟨kW⟩⟩
                 ·rw [if_neg c125] at H
                  exact absurd H (by simp)
                ·rw [if_neg c124] at H
                 have c124b0 : (t405 == 0) = false := beq_eq_false_iff_ne.mpr c124
                 have c124b1 : (t405 != 0) = true := bne_iff_ne.mpr c124
                 simp only [Option.some.injEq, Prod.mk.injEq] at H
                 obtain ⟨rfl, rfl, rfl, rfl, rfl, rfl, rfl, rfl, rfl, rfl⟩ := H
                 obtain ⟨Ao137, co137, eo137⟩ := Kd.R_slice HO_16.out
                 subst eo137
                 go_wp2_with (first | ((with_reducible refine gate_callee (f := 51) rfl ?_); refine gol (some 159) Tryz.func51 #[.string a0, .int .i64 x1_4, .int .i64 (wrap64 (a2 + 1))] (h := ?_); (with_reducible refine (ih kj84 (mq44 HK1 HJ44 HJ70 HK4 HJ84) a0 x1_4 (wrap64 (a2 + 1)) t395 t396 t397 t398 t399 t400 t401 t404 t405 t406 _ A123.out).mono ?_); rintro e w138 ⟨v402, rfl, ho0, hb⟩; refine ⟨_, rfl, ?_⟩; have HO403 := ak (Kd.R_lower (Kd.R_newB (Kd.R_new' ho0 (Kd.R_lt (kR HO_16))) (g := gb288) (o := .cells #[.int .u8 x289000_70, .int .i64 x289001_1, .int .i64 x289002_1, .int .i64 x289003_1, .int .i64 x289004_1, .int .i64 0, .slice none 0 0] 27 (0, 0)) (kA BK288)) (below_size kW)); replace HO_16 := ak (Kd.R_elder' (kR HO_16) (Kd.R_base ho0) hb); replace BK287 := (kB BK287 hb); replace BK288 := (kB BK288 hb); replace HB := ak (below_step kW hb); (try clear hb); (try clear hb2); (try clear hk); (try clear hi); (try clear ho0)) | ((with_reducible refine gate_dst (N := 17) rfl ?_); refine bxe 17 #[.int .u8 0, .int .i64 0, .int .i64 0, .int .i64 0, .int .i64 0, .int .i64 0, .slice none 0 0, .int .i64 0, .int .i64 0, .int .i64 0] 91 (h := ?_); intro gb407 hg w139 hbox hb; replace HO_16 := ak (Kd.R_below (kR HO_16) hb); replace HO403 := ak (Kd.R_below (kR HO403) hb); have BK407 := ak (hbox); have GW407 := ak ((mq53 : w.heap.size ≤ gb407)); have GE407 := ak ((mq53 : w.heap.size ≤ gb407)); replace HB := ak (below_step kW hb); have NB287_407 := kE BK287 hg; have NB407_287 := kE' BK287 hg; replace BK287 := (kB BK287 hb); have NB288_407 := kE BK288 hg; have NB407_288 := kE' BK288 hg; replace BK288 := (kB BK288 hb); clear hb hbox hg; have hnb140 := NB407_287.out; have hnc140 := NB287_407.out; have hnb141 := NB407_288.out; have hnc141 := NB288_407.out; obtain ⟨hcz142_0, hcz142_1, hcz142_2, hcz142_3, hcz142_4, hcz142_5, hcz142_6, hcz142_7, hcz142_8, hcz142_9⟩ := cz10 BK407; obtain ⟨hfz142_0, hfz142_1, hfz142_2, hfz142_3, hfz142_4, hfz142_5, hfz142_6, hfz142_7, hfz142_8, hfz142_9⟩ := fz10 BK407; obtain ⟨Ao143, co143, eo143⟩ := Kd.R_slice HO403.out; subst eo143; have hnb144 := NB287_288.out; have hnc144 := NB288_287.out; obtain ⟨hcz145_0, hcz145_1, hcz145_2, hcz145_3, hcz145_4, hcz145_5, hcz145_6, hcz145_7, hcz145_8, hcz145_9⟩ := cz10 BK287; obtain ⟨hfz145_0, hfz145_1, hfz145_2, hfz145_3, hfz145_4, hfz145_5, hfz145_6, hfz145_7, hfz145_8, hfz145_9⟩ := fz10 BK287))
                 refine bodyPost_ret (results_cell_row rfl _ _ gb287 91 #[.int .u8 t395, .int .i64 t396, .int .i64 t397, .int .i64 t398, .int .i64 t399, .int .i64 t400, .slice Ao143 t401.length co143, .int .i64 t404, .int .i64 t405, .int .i64 t406] (0, 0) _ rfl (kPf10 BK287) Tryz.underlying91 rfl (by kernel_rfl)) rfl ?_
                 exact ⟨_, mq37, by (with_reducible repeat (first | apply Kd.R_alloc | apply Kd.R_drewN | apply Kd.R_drew)); exact Kd.R_mono (Kd.R_far (p := ⟨gb287, 9, none⟩) (Kd.R_far (p := ⟨gb287, 8, none⟩) (Kd.R_far (p := ⟨gb287, 7, none⟩) (Kd.R_far (p := ⟨gb287, 6, none⟩) (Kd.R_far (p := ⟨gb287, 5, none⟩) (Kd.R_far (p := ⟨gb287, 4, none⟩) (Kd.R_far (p := ⟨gb287, 3, none⟩) (Kd.R_far (p := ⟨gb287, 2, none⟩) (Kd.R_far (p := ⟨gb287, 1, none⟩) (Kd.R_far (p := ⟨gb287, 0, none⟩) (rf10 (g := gb407) (Kd.R_types (Kd.R_types HO403.out BK407.out (by decide)) BK287.out (by decide)) (fun _ hk => hk.1.2)) (fun _ hk => hk.2) (.int .u8 t395)) (fun _ hk => hk.2) (.int .i64 t396)) (fun _ hk => hk.2) (.int .i64 t397)) (fun _ hk => hk.2) (.int .i64 t398)) (fun _ hk => hk.2) (.int .i64 t399)) (fun _ hk => hk.2) (.int .i64 t400)) (fun _ hk => hk.2) (.slice Ao143 t401.length co143)) (fun _ hk => hk.2) (.int .i64 t404)) (fun _ hk => hk.2) (.int .i64 t405)) (fun _ hk => hk.2) (.int .i64 t406)) (fun _ hk => trivial), kW⟩
              ·replace c90 := Bool.eq_false_iff.mpr c90
               subst c90
               have H1 : (some (x289000_70, x289001_1, x289002_1, x289003_1, x289004_1, 0, x16_4, wrap64 (x1_4 + 1), 0, 0)) = some (r1, r2, r3, r4, r5, r6, r7, r8, r9, r10) := mq54
               clear H
               have H := H1
               clear H1
               simp only [Option.some.injEq, Prod.mk.injEq] at H
               obtain ⟨rfl, rfl, rfl, rfl, rfl, rfl, rfl, rfl, rfl, rfl⟩ := H
               obtain ⟨Ao146, co146, eo146⟩ := Kd.R_slice HO_16.out
               subst eo146
               have hnb147 := NB288_287.out
               have hnc147 := NB287_288.out
               obtain ⟨hcz148_0, hcz148_1, hcz148_2, hcz148_3, hcz148_4, hcz148_5, hcz148_6⟩ := cz7 BK288
               obtain ⟨hfz148_0, hfz148_1, hfz148_2, hfz148_3, hfz148_4, hfz148_5, hfz148_6⟩ := fz7 BK288
               obtain ⟨hcz149_0, hcz149_1, hcz149_2, hcz149_3, hcz149_4, hcz149_5, hcz149_6, hcz149_7, hcz149_8, hcz149_9⟩ := cz10 BK287
               obtain ⟨hfz149_0, hfz149_1, hfz149_2, hfz149_3, hfz149_4, hfz149_5, hfz149_6, hfz149_7, hfz149_8, hfz149_9⟩ := fz10 BK287
               go_wp2
               refine bodyPost_ret (results_cell_row rfl _ _ gb287 91 #[.int .u8 x289000_70, .int .i64 x289001_1, .int .i64 x289002_1, .int .i64 x289003_1, .int .i64 x289004_1, .int .i64 0, .slice Ao146 x16_4.length co146, .int .i64 (wrap64 (x1_4 + 1)), .int .i64 0, .int .i64 0] (0, 0) _ rfl (kPf10 BK287) Tryz.underlying91 rfl (by kernel_rfl)) rfl ?_
               exact ⟨_, mq37, by (with_reducible repeat (first | apply Kd.R_alloc | apply Kd.R_drewN | apply Kd.R_drew)); exact Kd.R_mono (Kd.R_far (p := ⟨gb287, 9, none⟩) (Kd.R_far (p := ⟨gb287, 8, none⟩) (Kd.R_far (p := ⟨gb287, 7, none⟩) (Kd.R_far (p := ⟨gb287, 6, none⟩) (Kd.R_far (p := ⟨gb287, 5, none⟩) (Kd.R_far (p := ⟨gb287, 4, none⟩) (Kd.R_far (p := ⟨gb287, 3, none⟩) (Kd.R_far (p := ⟨gb287, 2, none⟩) (Kd.R_far (p := ⟨gb287, 1, none⟩) (Kd.R_far (p := ⟨gb287, 0, none⟩) (Kd.R_far (p := ⟨gb288, 6, none⟩) (Kd.R_types (Kd.R_mono HO_16.out (fun k_ hk => (⟨hk, hk⟩ : _ ∧ k_ ≠ gb288))) BK287.out (by decide)) (fun _ hk => hk.1.2) (.slice Ao146 x16_4.length co146)) (fun _ hk => hk.2) (.int .u8 x289000_70)) (fun _ hk => hk.2) (.int .i64 x289001_1)) (fun _ hk => hk.2) (.int .i64 x289002_1)) (fun _ hk => hk.2) (.int .i64 x289003_1)) (fun _ hk => hk.2) (.int .i64 x289004_1)) (fun _ hk => hk.2) (.int .i64 0)) (fun _ hk => hk.2) (.slice Ao146 x16_4.length co146)) (fun _ hk => hk.2) (.int .i64 (wrap64 (x1_4 + 1)))) (fun _ hk => hk.2) (.int .i64 0)) (fun _ hk => hk.2) (.int .i64 0)) (fun _ hk => trivial), kW⟩
end Go.Proofs.YtkobpbbegalfpaaGreatDoor.PParseBodies
