import Derived.Test.YtdcgclhmfflheaaXbwPQ0
import Derived.Test.YtdcgclhmfflheaaXbwPQe1
import Derived.Test.YtdcgclhmfflheaaXbwPQe2
import Derived.Test.YtdcgclhmfflheaaXbwPQe3
import Derived.Test.YtdcgclhmfflheaaXbwPQf49
namespace Go.Proofs.Ytdcgclhmfflheaa.PQ
open Go.RowKit Go.Proofs.YtdcgclhmfflheaaW.PrintWords Go.Proofs.YtdcgclhmfflheaaW.PrintLast Go.Proofs.YtdcgclhmfflheaaW.PrintMore
attribute [local go_sem] max2_int min2_int max_two min_two max_three min_three max_four min_four
set_option linter.unusedVariables false
set_option linter.unusedSimpArgs false
attribute [local go_sem high] eqA54 eqA56 eqA87
mutual
def longcaseref06_Same.j0 : Nat → Bool → List (S56) → List (S54) → List (S87) → List Bool → List Bool → List (S56) → List (S54) → List (S87) → List Bool → List Bool → Option (Bool)
 | 0, _, _, _, _, _, _, _, _, _, _, _ => none
 | k + 1, x48, x419000, x419001, x419002, x419003, x419004, x420000, x420001, x420002, x420003, x420004 => if x48 = true then (some false) else (longcaseref06_Same.l0 k 0 x419000 x419001 x419002 x419003 x419004 x420000 x420001 x420002 x420003 x420004)
def longcaseref06_Same.l0 : Nat → Int → List (S56) → List (S54) → List (S87) → List Bool → List Bool → List (S56) → List (S54) → List (S87) → List Bool → List Bool → Option (Bool)
 | 0, _, _, _, _, _, _, _, _, _, _, _ => none
 | k + 1, x5, x419000, x419001, x419002, x419003, x419004, x420000, x420001, x420002, x420003, x420004 => if x5 < (x419000.length : Int) then (if 0 ≤ x5 then (if x5 < (x420000.length : Int) then (if (!(((rd_T56 x419000 x5).f0) == ((rd_T56 x420000 x5).f0)) || (!(((rd_T56 x419000 x5).f1) == ((rd_T56 x420000 x5).f1)) || (!((((rd_T56 x419000 x5).f2).toList) == (((rd_T56 x420000 x5).f2).toList))))) = true then (some false) else (longcaseref06_Same.l0 k (wrap64 (x5 + 1)) x419000 x419001 x419002 x419003 x419004 x420000 x420001 x420002 x420003 x420004)) else (none)) else (none)) else (longcaseref06_Same.l1 k 0 x419000 x419001 x419002 x419003 x419004 x420000 x420001 x420002 x420003 x420004)
def longcaseref06_Same.l1 : Nat → Int → List (S56) → List (S54) → List (S87) → List Bool → List Bool → List (S56) → List (S54) → List (S87) → List Bool → List Bool → Option (Bool)
 | 0, _, _, _, _, _, _, _, _, _, _, _ => none
 | k + 1, x6, x419000, x419001, x419002, x419003, x419004, x420000, x420001, x420002, x420003, x420004 => if x6 < (x419001.length : Int) then (if 0 ≤ x6 then (if x6 < (x420001.length : Int) then (if (!(((rd_T54 x419001 x6).f0) == ((rd_T54 x420001 x6).f0)) || (!(((rd_T54 x419001 x6).f1) == ((rd_T54 x420001 x6).f1)))) = true then (some false) else (longcaseref06_Same.l1 k (wrap64 (x6 + 1)) x419000 x419001 x419002 x419003 x419004 x420000 x420001 x420002 x420003 x420004)) else (none)) else (none)) else (longcaseref06_Same.l2 k 0 x419000 x419001 x419002 x419003 x419004 x420000 x420001 x420002 x420003 x420004)
def longcaseref06_Same.l2 : Nat → Int → List (S56) → List (S54) → List (S87) → List Bool → List Bool → List (S56) → List (S54) → List (S87) → List Bool → List Bool → Option (Bool)
 | 0, _, _, _, _, _, _, _, _, _, _, _ => none
 | k + 1, x7, x419000, x419001, x419002, x419003, x419004, x420000, x420001, x420002, x420003, x420004 => if x7 < (x419002.length : Int) then (if 0 ≤ x7 then (if x7 < (x420002.length : Int) then (if (!(((rd_T87 x419002 x7).f0) == ((rd_T87 x420002 x7).f0)) || (!(((rd_T87 x419002 x7).f1) == ((rd_T87 x420002 x7).f1)))) = true then (some false) else (longcaseref06_Same.l2 k (wrap64 (x7 + 1)) x419000 x419001 x419002 x419003 x419004 x420000 x420001 x420002 x420003 x420004)) else (none)) else (none)) else (some true)
end
def longcaseref06_Same.f (k : Nat) (l0_0 : List (S56)) (l0_1 : List (S54)) (l0_2 : List (S87)) (l0_3 : List Bool) (l0_4 : List Bool) (l1_0 : List (S56)) (l1_1 : List (S54)) (l1_2 : List (S87)) (l1_3 : List Bool) (l1_4 : List Bool) : Option (Bool) := if (l0_0.length : Int) = (l1_0.length : Int) then (if (l0_1.length : Int) = (l1_1.length : Int) then (if (l0_2.length : Int) = (l1_2.length : Int) then ((longcaseref06_bools.f k l0_3 l1_3).bind fun t420 => (if t420 = true then ((longcaseref06_bools.f k l0_4 l1_4).bind fun t421 => (longcaseref06_Same.j0 k (!t421) l0_0 l0_1 l0_2 l0_3 l0_4 l1_0 l1_1 l1_2 l1_3 l1_4)) else (longcaseref06_Same.j0 k true l0_0 l0_1 l0_2 l0_3 l0_4 l1_0 l1_1 l1_2 l1_3 l1_4))) else (longcaseref06_Same.j0 k true l0_0 l0_1 l0_2 l0_3 l0_4 l1_0 l1_1 l1_2 l1_3 l1_4)) else (longcaseref06_Same.j0 k true l0_0 l0_1 l0_2 l0_3 l0_4 l1_0 l1_1 l1_2 l1_3 l1_4)) else (longcaseref06_Same.j0 k true l0_0 l0_1 l0_2 l0_3 l0_4 l1_0 l1_1 l1_2 l1_3 l1_4)
set_option maxHeartbeats 8000000 in
set_option maxRecDepth 100000 in
theorem longcaseref06_Same.calls (k : Nat) (A0_0 : Option Addr) (c0_0 : Nat) (l0_0 : List (S56)) (A0_1 : Option Addr) (c0_1 : Nat) (l0_1 : List (S54)) (A0_2 : Option Addr) (c0_2 : Nat) (l0_2 : List (S87)) (A0_3 : Option Addr) (c0_3 : Nat) (l0_3 : List Bool) (A0_4 : Option Addr) (c0_4 : Nat) (l0_4 : List Bool) (A1_0 : Option Addr) (c1_0 : Nat) (l1_0 : List (S56)) (A1_1 : Option Addr) (c1_1 : Nat) (l1_1 : List (S54)) (A1_2 : Option Addr) (c1_2 : Nat) (l1_2 : List (S87)) (A1_3 : Option Addr) (c1_3 : Nat) (l1_3 : List Bool) (A1_4 : Option Addr) (c1_4 : Nat) (l1_4 : List Bool) (r : Bool) (w : World) (hr0_0 : Kd.C k56 w A0_0 l0_0.length l0_0) (hc0_0 : l0_0.length ≤ c0_0) (hr0_1 : Kd.C k54 w A0_1 l0_1.length l0_1) (hc0_1 : l0_1.length ≤ c0_1) (hr0_2 : Kd.C k87 w A0_2 l0_2.length l0_2) (hc0_2 : l0_2.length ≤ c0_2) (hr0_3 : Kd.C Kd.bool w A0_3 l0_3.length l0_3) (hc0_3 : l0_3.length ≤ c0_3) (hr0_4 : Kd.C Kd.bool w A0_4 l0_4.length l0_4) (hc0_4 : l0_4.length ≤ c0_4) (hr1_0 : Kd.C k56 w A1_0 l1_0.length l1_0) (hc1_0 : l1_0.length ≤ c1_0) (hr1_1 : Kd.C k54 w A1_1 l1_1.length l1_1) (hc1_1 : l1_1.length ≤ c1_1) (hr1_2 : Kd.C k87 w A1_2 l1_2.length l1_2) (hc1_2 : l1_2.length ≤ c1_2) (hr1_3 : Kd.C Kd.bool w A1_3 l1_3.length l1_3) (hc1_3 : l1_3.length ≤ c1_3) (hr1_4 : Kd.C Kd.bool w A1_4 l1_4.length l1_4) (hc1_4 : l1_4.length ≤ c1_4) (h : longcaseref06_Same.f k l0_0 l0_1 l0_2 l0_3 l0_4 l1_0 l1_1 l1_2 l1_3 l1_4 = some r) :
  Calls Try.prog 23 #[.agg #[.slice A0_0 l0_0.length c0_0, .slice A0_1 l0_1.length c0_1, .slice A0_2 l0_2.length c0_2, .slice A0_3 l0_3.length c0_3, .slice A0_4 l0_4.length c0_4], .agg #[.slice A1_0 l1_0.length c1_0, .slice A1_1 l1_1.length c1_1, .slice A1_2 l1_2.length c1_2, .slice A1_3 l1_3.length c1_3, .slice A1_4 l1_4.length c1_4]] w fun e w' => e = .returned (.bool r) ∧ Below w.heap.size w w' := by
 have hu31 := Try.underlying31
 have hu56 := Try.underlying56
 have hu54 := Try.underlying54
 have hu87 := Try.underlying87
 have HR0_0 := Aside0.mk hr0_0
 have HC0_0 := Aside0.mk hc0_0
 clear hr0_0 hc0_0
 have HR0_1 := Aside0.mk hr0_1
 have HC0_1 := Aside0.mk hc0_1
 clear hr0_1 hc0_1
 have HR0_2 := Aside0.mk hr0_2
 have HC0_2 := Aside0.mk hc0_2
 clear hr0_2 hc0_2
 have HR0_3 := Aside0.mk hr0_3
 have HC0_3 := Aside0.mk hc0_3
 clear hr0_3 hc0_3
 have HR0_4 := Aside0.mk hr0_4
 have HC0_4 := Aside0.mk hc0_4
 clear hr0_4 hc0_4
 have HR1_0 := Aside0.mk hr1_0
 have HC1_0 := Aside0.mk hc1_0
 clear hr1_0 hc1_0
 have HR1_1 := Aside0.mk hr1_1
 have HC1_1 := Aside0.mk hc1_1
 clear hr1_1 hc1_1
 have HR1_2 := Aside0.mk hr1_2
 have HC1_2 := Aside0.mk hc1_2
 clear hr1_2 hc1_2
 have HR1_3 := Aside0.mk hr1_3
 have HC1_3 := Aside0.mk hc1_3
 clear hr1_3 hc1_3
 have HR1_4 := Aside0.mk hr1_4
 have HC1_4 := Aside0.mk hc1_4
 clear hr1_4 hc1_4
 have HB := Aside0.mk (Below.refl w.heap.size w)
 have H : (if (l0_0.length : Int) = (l1_0.length : Int) then (if (l0_1.length : Int) = (l1_1.length : Int) then (if (l0_2.length : Int) = (l1_2.length : Int) then ((longcaseref06_bools.f k l0_3 l1_3).bind fun t420 => (if t420 = true then ((longcaseref06_bools.f k l0_4 l1_4).bind fun t421 => (longcaseref06_Same.j0 k (!t421) l0_0 l0_1 l0_2 l0_3 l0_4 l1_0 l1_1 l1_2 l1_3 l1_4)) else (longcaseref06_Same.j0 k true l0_0 l0_1 l0_2 l0_3 l0_4 l1_0 l1_1 l1_2 l1_3 l1_4))) else (longcaseref06_Same.j0 k true l0_0 l0_1 l0_2 l0_3 l0_4 l1_0 l1_1 l1_2 l1_3 l1_4)) else (longcaseref06_Same.j0 k true l0_0 l0_1 l0_2 l0_3 l0_4 l1_0 l1_1 l1_2 l1_3 l1_4)) else (longcaseref06_Same.j0 k true l0_0 l0_1 l0_2 l0_3 l0_4 l1_0 l1_1 l1_2 l1_3 l1_4)) = some r := h
 clear h
 have HC3 := Aside0.mk H
 clear H
 go_enter Try.func23, Try.ntmps23
 go_upto_region 1 with (first | ((with_reducible refine gate_dst (N := 2) rfl ?_); (try (refine gate_guard (by rfl) ?_; dsimp only)); refine box_event ?hg (N := 2) ?hd (cs := #[.slice A0_0 l0_0.length c0_0, .slice A0_1 l0_1.length c0_1, .slice A0_2 l0_2.length c0_2, .slice A0_3 l0_3.length c0_3, .slice A0_4 l0_4.length c0_4]) (t := 31) ?hr ?_; (case hd => rfl); (case hg => rfl); (case hr => first | (go_simp; done) | (go_simp; rfl)); intro gb418 hg w4 hbox hb; have n0_ := Aside0.mk (below_step (by repeat (first | (with_reducible first | exact HB.out | apply below_alloc | apply pw_below_drewN | apply below_drew1) | exact HB.out)) hb); have n1_ := Aside0.mk (hbox); have n2_ := Aside0.mk ((by rw [hg]; exact (below_size (by repeat (first | (with_reducible first | exact HB.out | apply below_alloc | apply pw_below_drewN | apply below_drew1) | exact HB.out))) : w.heap.size ≤ gb418)); have n3_ := Aside0.mk ((by rw [hg]; exact (below_size (by repeat (first | (with_reducible first | exact HB.out | apply below_alloc | apply pw_below_drewN | apply below_drew1) | exact HB.out))) : w.heap.size ≤ gb418)); clear HB; have HB := n0_; have BK418 := n1_; have GW418 := n2_; have GE418 := n3_; clear n0_ n1_ n2_ n3_; clear hb hbox hg) | ((with_reducible refine gate_dst (N := 3) rfl ?_); (try (refine gate_guard (by rfl) ?_; dsimp only)); refine box_event ?hg (N := 3) ?hd (cs := #[.slice A1_0 l1_0.length c1_0, .slice A1_1 l1_1.length c1_1, .slice A1_2 l1_2.length c1_2, .slice A1_3 l1_3.length c1_3, .slice A1_4 l1_4.length c1_4]) (t := 31) ?hr ?_; (case hd => rfl); (case hg => rfl); (case hr => first | (go_simp; done) | (go_simp; rfl)); intro gb419 hg w5 hbox hb; have n0_ := Aside0.mk (blk_below (g := gb418) (o := .cells #[.slice A0_0 l0_0.length c0_0, .slice A0_1 l0_1.length c0_1, .slice A0_2 l0_2.length c0_2, .slice A0_3 l0_3.length c0_3, .slice A0_4 l0_4.length c0_4] 31 (0, 0)) (by (with_reducible repeat (first | refine blk_drewN ?_ _ | refine blk_drew ?_ | refine blk_alloc ?_ _)); exact BK418.out) hb); have n1_ := Aside0.mk (below_step (by repeat (first | (with_reducible first | exact HB.out | apply below_alloc | apply pw_below_drewN | apply below_drew1 | refine below_set ?_ GE418.out) | exact HB.out)) hb); have n2_ := Aside0.mk (hbox); have n3_ := Aside0.mk ((by rw [hg]; exact (below_size (by repeat (first | (with_reducible first | exact HB.out | apply below_alloc | apply pw_below_drewN | apply below_drew1 | refine below_set ?_ GE418.out) | exact HB.out))) : w.heap.size ≤ gb419)); have n4_ := Aside0.mk ((by rw [hg]; exact (below_size (by repeat (first | (with_reducible first | exact HB.out | apply below_alloc | apply pw_below_drewN | apply below_drew1 | refine below_set ?_ GE418.out) | exact HB.out))) : w.heap.size ≤ gb419)); have n5_ := Aside0.mk ((by rw [hg]; exact Nat.ne_of_lt (blk_lt (g := gb418) (o := .cells #[.slice A0_0 l0_0.length c0_0, .slice A0_1 l0_1.length c0_1, .slice A0_2 l0_2.length c0_2, .slice A0_3 l0_3.length c0_3, .slice A0_4 l0_4.length c0_4] 31 (0, 0)) (by (with_reducible repeat (first | refine blk_drewN ?_ _ | refine blk_drew ?_ | refine blk_alloc ?_ _)); exact BK418.out)) : gb418 ≠ gb419)); have n6_ := Aside0.mk ((by rw [hg]; exact Nat.ne_of_gt (blk_lt (g := gb418) (o := .cells #[.slice A0_0 l0_0.length c0_0, .slice A0_1 l0_1.length c0_1, .slice A0_2 l0_2.length c0_2, .slice A0_3 l0_3.length c0_3, .slice A0_4 l0_4.length c0_4] 31 (0, 0)) (by (with_reducible repeat (first | refine blk_drewN ?_ _ | refine blk_drew ?_ | refine blk_alloc ?_ _)); exact BK418.out)) : gb419 ≠ gb418)); clear BK418; clear HB; have BK418 := n0_; have HB := n1_; have BK419 := n2_; have GW419 := n3_; have GE419 := n4_; have NB418_419 := n5_; have NB419_418 := n6_; clear n0_ n1_ n2_ n3_ n4_ n5_ n6_; clear hb hbox hg))
 repeat (go_quiet (first | ((with_reducible refine gate_dst (N := 2) rfl ?_); (try (refine gate_guard (by rfl) ?_; dsimp only)); refine box_event ?hg (N := 2) ?hd (cs := #[.slice A0_0 l0_0.length c0_0, .slice A0_1 l0_1.length c0_1, .slice A0_2 l0_2.length c0_2, .slice A0_3 l0_3.length c0_3, .slice A0_4 l0_4.length c0_4]) (t := 31) ?hr ?_; (case hd => rfl); (case hg => rfl); (case hr => first | (go_simp; done) | (go_simp; rfl)); intro gb418 hg w4 hbox hb; have n0_ := Aside0.mk (below_step (by repeat (first | (with_reducible first | exact HB.out | apply below_alloc | apply pw_below_drewN | apply below_drew1) | exact HB.out)) hb); have n1_ := Aside0.mk (hbox); have n2_ := Aside0.mk ((by rw [hg]; exact (below_size (by repeat (first | (with_reducible first | exact HB.out | apply below_alloc | apply pw_below_drewN | apply below_drew1) | exact HB.out))) : w.heap.size ≤ gb418)); have n3_ := Aside0.mk ((by rw [hg]; exact (below_size (by repeat (first | (with_reducible first | exact HB.out | apply below_alloc | apply pw_below_drewN | apply below_drew1) | exact HB.out))) : w.heap.size ≤ gb418)); clear HB; have HB := n0_; have BK418 := n1_; have GW418 := n2_; have GE418 := n3_; clear n0_ n1_ n2_ n3_; clear hb hbox hg) | ((with_reducible refine gate_dst (N := 3) rfl ?_); (try (refine gate_guard (by rfl) ?_; dsimp only)); refine box_event ?hg (N := 3) ?hd (cs := #[.slice A1_0 l1_0.length c1_0, .slice A1_1 l1_1.length c1_1, .slice A1_2 l1_2.length c1_2, .slice A1_3 l1_3.length c1_3, .slice A1_4 l1_4.length c1_4]) (t := 31) ?hr ?_; (case hd => rfl); (case hg => rfl); (case hr => first | (go_simp; done) | (go_simp; rfl)); intro gb419 hg w5 hbox hb; have n0_ := Aside0.mk (blk_below (g := gb418) (o := .cells #[.slice A0_0 l0_0.length c0_0, .slice A0_1 l0_1.length c0_1, .slice A0_2 l0_2.length c0_2, .slice A0_3 l0_3.length c0_3, .slice A0_4 l0_4.length c0_4] 31 (0, 0)) (by (with_reducible repeat (first | refine blk_drewN ?_ _ | refine blk_drew ?_ | refine blk_alloc ?_ _)); exact BK418.out) hb); have n1_ := Aside0.mk (below_step (by repeat (first | (with_reducible first | exact HB.out | apply below_alloc | apply pw_below_drewN | apply below_drew1 | refine below_set ?_ GE418.out) | exact HB.out)) hb); have n2_ := Aside0.mk (hbox); have n3_ := Aside0.mk ((by rw [hg]; exact (below_size (by repeat (first | (with_reducible first | exact HB.out | apply below_alloc | apply pw_below_drewN | apply below_drew1 | refine below_set ?_ GE418.out) | exact HB.out))) : w.heap.size ≤ gb419)); have n4_ := Aside0.mk ((by rw [hg]; exact (below_size (by repeat (first | (with_reducible first | exact HB.out | apply below_alloc | apply pw_below_drewN | apply below_drew1 | refine below_set ?_ GE418.out) | exact HB.out))) : w.heap.size ≤ gb419)); have n5_ := Aside0.mk ((by rw [hg]; exact Nat.ne_of_lt (blk_lt (g := gb418) (o := .cells #[.slice A0_0 l0_0.length c0_0, .slice A0_1 l0_1.length c0_1, .slice A0_2 l0_2.length c0_2, .slice A0_3 l0_3.length c0_3, .slice A0_4 l0_4.length c0_4] 31 (0, 0)) (by (with_reducible repeat (first | refine blk_drewN ?_ _ | refine blk_drew ?_ | refine blk_alloc ?_ _)); exact BK418.out)) : gb418 ≠ gb419)); have n6_ := Aside0.mk ((by rw [hg]; exact Nat.ne_of_gt (blk_lt (g := gb418) (o := .cells #[.slice A0_0 l0_0.length c0_0, .slice A0_1 l0_1.length c0_1, .slice A0_2 l0_2.length c0_2, .slice A0_3 l0_3.length c0_3, .slice A0_4 l0_4.length c0_4] 31 (0, 0)) (by (with_reducible repeat (first | refine blk_drewN ?_ _ | refine blk_drew ?_ | refine blk_alloc ?_ _)); exact BK418.out)) : gb419 ≠ gb418)); clear BK418; clear HB; have BK418 := n0_; have HB := n1_; have BK419 := n2_; have GW419 := n3_; have GE419 := n4_; have NB418_419 := n5_; have NB419_418 := n6_; clear n0_ n1_ n2_ n3_ n4_ n5_ n6_; clear hb hbox hg)); go_upto_region 1 with (first | ((with_reducible refine gate_dst (N := 2) rfl ?_); (try (refine gate_guard (by rfl) ?_; dsimp only)); refine box_event ?hg (N := 2) ?hd (cs := #[.slice A0_0 l0_0.length c0_0, .slice A0_1 l0_1.length c0_1, .slice A0_2 l0_2.length c0_2, .slice A0_3 l0_3.length c0_3, .slice A0_4 l0_4.length c0_4]) (t := 31) ?hr ?_; (case hd => rfl); (case hg => rfl); (case hr => first | (go_simp; done) | (go_simp; rfl)); intro gb418 hg w4 hbox hb; have n0_ := Aside0.mk (below_step (by repeat (first | (with_reducible first | exact HB.out | apply below_alloc | apply pw_below_drewN | apply below_drew1) | exact HB.out)) hb); have n1_ := Aside0.mk (hbox); have n2_ := Aside0.mk ((by rw [hg]; exact (below_size (by repeat (first | (with_reducible first | exact HB.out | apply below_alloc | apply pw_below_drewN | apply below_drew1) | exact HB.out))) : w.heap.size ≤ gb418)); have n3_ := Aside0.mk ((by rw [hg]; exact (below_size (by repeat (first | (with_reducible first | exact HB.out | apply below_alloc | apply pw_below_drewN | apply below_drew1) | exact HB.out))) : w.heap.size ≤ gb418)); clear HB; have HB := n0_; have BK418 := n1_; have GW418 := n2_; have GE418 := n3_; clear n0_ n1_ n2_ n3_; clear hb hbox hg) | ((with_reducible refine gate_dst (N := 3) rfl ?_); (try (refine gate_guard (by rfl) ?_; dsimp only)); refine box_event ?hg (N := 3) ?hd (cs := #[.slice A1_0 l1_0.length c1_0, .slice A1_1 l1_1.length c1_1, .slice A1_2 l1_2.length c1_2, .slice A1_3 l1_3.length c1_3, .slice A1_4 l1_4.length c1_4]) (t := 31) ?hr ?_; (case hd => rfl); (case hg => rfl); (case hr => first | (go_simp; done) | (go_simp; rfl)); intro gb419 hg w5 hbox hb; have n0_ := Aside0.mk (blk_below (g := gb418) (o := .cells #[.slice A0_0 l0_0.length c0_0, .slice A0_1 l0_1.length c0_1, .slice A0_2 l0_2.length c0_2, .slice A0_3 l0_3.length c0_3, .slice A0_4 l0_4.length c0_4] 31 (0, 0)) (by (with_reducible repeat (first | refine blk_drewN ?_ _ | refine blk_drew ?_ | refine blk_alloc ?_ _)); exact BK418.out) hb); have n1_ := Aside0.mk (below_step (by repeat (first | (with_reducible first | exact HB.out | apply below_alloc | apply pw_below_drewN | apply below_drew1 | refine below_set ?_ GE418.out) | exact HB.out)) hb); have n2_ := Aside0.mk (hbox); have n3_ := Aside0.mk ((by rw [hg]; exact (below_size (by repeat (first | (with_reducible first | exact HB.out | apply below_alloc | apply pw_below_drewN | apply below_drew1 | refine below_set ?_ GE418.out) | exact HB.out))) : w.heap.size ≤ gb419)); have n4_ := Aside0.mk ((by rw [hg]; exact (below_size (by repeat (first | (with_reducible first | exact HB.out | apply below_alloc | apply pw_below_drewN | apply below_drew1 | refine below_set ?_ GE418.out) | exact HB.out))) : w.heap.size ≤ gb419)); have n5_ := Aside0.mk ((by rw [hg]; exact Nat.ne_of_lt (blk_lt (g := gb418) (o := .cells #[.slice A0_0 l0_0.length c0_0, .slice A0_1 l0_1.length c0_1, .slice A0_2 l0_2.length c0_2, .slice A0_3 l0_3.length c0_3, .slice A0_4 l0_4.length c0_4] 31 (0, 0)) (by (with_reducible repeat (first | refine blk_drewN ?_ _ | refine blk_drew ?_ | refine blk_alloc ?_ _)); exact BK418.out)) : gb418 ≠ gb419)); have n6_ := Aside0.mk ((by rw [hg]; exact Nat.ne_of_gt (blk_lt (g := gb418) (o := .cells #[.slice A0_0 l0_0.length c0_0, .slice A0_1 l0_1.length c0_1, .slice A0_2 l0_2.length c0_2, .slice A0_3 l0_3.length c0_3, .slice A0_4 l0_4.length c0_4] 31 (0, 0)) (by (with_reducible repeat (first | refine blk_drewN ?_ _ | refine blk_drew ?_ | refine blk_alloc ?_ _)); exact BK418.out)) : gb419 ≠ gb418)); clear BK418; clear HB; have BK418 := n0_; have HB := n1_; have BK419 := n2_; have GW419 := n3_; have GE419 := n4_; have NB418_419 := n5_; have NB419_418 := n6_; clear n0_ n1_ n2_ n3_ n4_ n5_ n6_; clear hb hbox hg)))
 (try simp only [Act.put, List.setIfInBounds_toArray, List.set_cons_zero, List.set_cons_succ])
 go_cut [48] (fun v48 wc => ∃ (kq : Nat) (x48_2 : Bool), v48 = .bool x48_2 ∧ Aside0 (longcaseref06_Same.j0 kq x48_2 l0_0 l0_1 l0_2 l0_3 l0_4 l1_0 l1_1 l1_2 l1_3 l1_4 = some r) ∧ Aside0 (kq ≤ k) ∧ Aside0 (wc.heap[gb418]? = some (.cells #[(.slice A0_0 l0_0.length c0_0), (.slice A0_1 l0_1.length c0_1), (.slice A0_2 l0_2.length c0_2), (.slice A0_3 l0_3.length c0_3), (.slice A0_4 l0_4.length c0_4)] 31 (0, 0))) ∧ Aside0 (wc.heap[gb419]? = some (.cells #[(.slice A1_0 l1_0.length c1_0), (.slice A1_1 l1_1.length c1_1), (.slice A1_2 l1_2.length c1_2), (.slice A1_3 l1_3.length c1_3), (.slice A1_4 l1_4.length c1_4)] 31 (0, 0))) ∧ Aside0 (Below w.heap.size w wc))
 case first =>
  have H := HC3.out
  clear HC3
  by_cases c6 : (l0_0.length : Int) = (l1_0.length : Int)
  ·
   rw [if_pos c6] at H
   have c6b0 : ((l0_0.length : Int) == (l1_0.length : Int)) = true := beq_iff_eq.mpr c6
   have c6b1 : ((l0_0.length : Int) != (l1_0.length : Int)) = false := bne_eq_false_iff_eq.mpr c6
   have c6b2 : (l0_0.length == l1_0.length) = true := by first | simpa using c6 | (simp at c6 ⊢; omega)
   clear c6
   (first | rw [c6b0] | (simp only [i64_w, i32_w]; rw [c6b0]) | skip)
   by_cases c7 : (l0_1.length : Int) = (l1_1.length : Int)
   ·
    rw [if_pos c7] at H
    have c7b0 : ((l0_1.length : Int) == (l1_1.length : Int)) = true := beq_iff_eq.mpr c7
    have c7b1 : ((l0_1.length : Int) != (l1_1.length : Int)) = false := bne_eq_false_iff_eq.mpr c7
    have c7b2 : (l0_1.length == l1_1.length) = true := by first | simpa using c7 | (simp at c7 ⊢; omega)
    clear c7
    by_cases c8 : (l0_2.length : Int) = (l1_2.length : Int)
    ·
     rw [if_pos c8] at H
     have c8b0 : ((l0_2.length : Int) == (l1_2.length : Int)) = true := beq_iff_eq.mpr c8
     have c8b1 : ((l0_2.length : Int) != (l1_2.length : Int)) = false := bne_eq_false_iff_eq.mpr c8
     have c8b2 : (l0_2.length == l1_2.length) = true := by first | simpa using c8 | (simp at c8 ⊢; omega)
     clear c8
     replace H := Option.bind_eq_some_iff.mp H
     obtain ⟨t420, A90, H⟩ := H
     replace H : (if t420 = true then ((longcaseref06_bools.f k l0_4 l1_4).bind fun t421 => (longcaseref06_Same.j0 k (!t421) l0_0 l0_1 l0_2 l0_3 l0_4 l1_0 l1_1 l1_2 l1_3 l1_4)) else (longcaseref06_Same.j0 k true l0_0 l0_1 l0_2 l0_3 l0_4 l1_0 l1_1 l1_2 l1_3 l1_4)) = some r := H
     have A9 := Aside0.mk A90
     clear A90
     by_cases c10 : t420 = true
     ·
      subst c10
      have H1 : ((longcaseref06_bools.f k l0_4 l1_4).bind fun t421 => (longcaseref06_Same.j0 k (!t421) l0_0 l0_1 l0_2 l0_3 l0_4 l1_0 l1_1 l1_2 l1_3 l1_4)) = some r := by rw [if_pos rfl] at H; exact H
      clear H
      have H := H1
      clear H1
      replace H := Option.bind_eq_some_iff.mp H
      obtain ⟨t421, A110, H⟩ := H
      replace H : (longcaseref06_Same.j0 k (!t421) l0_0 l0_1 l0_2 l0_3 l0_4 l1_0 l1_1 l1_2 l1_3 l1_4) = some r := H
      have A11 := Aside0.mk A110
      clear A110
      have H' := Aside0.mk H
      clear H
      have hnb12 := NB418_419.out
      have hnc12 := NB419_418.out
      have hcz13_0 : w5.cell? ⟨gb418, 0, none⟩ = some (.slice A0_0 l0_0.length c0_0) := (blk_cell BK418.out 0).trans rfl
      have hcz13_1 : w5.cell? ⟨gb418, 1, none⟩ = some (.slice A0_1 l0_1.length c0_1) := (blk_cell BK418.out 1).trans rfl
      have hcz13_2 : w5.cell? ⟨gb418, 2, none⟩ = some (.slice A0_2 l0_2.length c0_2) := (blk_cell BK418.out 2).trans rfl
      have hcz13_3 : w5.cell? ⟨gb418, 3, none⟩ = some (.slice A0_3 l0_3.length c0_3) := (blk_cell BK418.out 3).trans rfl
      have hcz13_4 : w5.cell? ⟨gb418, 4, none⟩ = some (.slice A0_4 l0_4.length c0_4) := (blk_cell BK418.out 4).trans rfl
      have hfz13_0 := blk_frozen BK418.out 0
      have hfz13_1 := blk_frozen BK418.out 1
      have hfz13_2 := blk_frozen BK418.out 2
      have hfz13_3 := blk_frozen BK418.out 3
      have hfz13_4 := blk_frozen BK418.out 4
      have hcz14_0 : w5.cell? ⟨gb419, 0, none⟩ = some (.slice A1_0 l1_0.length c1_0) := (blk_cell BK419.out 0).trans rfl
      have hcz14_1 : w5.cell? ⟨gb419, 1, none⟩ = some (.slice A1_1 l1_1.length c1_1) := (blk_cell BK419.out 1).trans rfl
      have hcz14_2 : w5.cell? ⟨gb419, 2, none⟩ = some (.slice A1_2 l1_2.length c1_2) := (blk_cell BK419.out 2).trans rfl
      have hcz14_3 : w5.cell? ⟨gb419, 3, none⟩ = some (.slice A1_3 l1_3.length c1_3) := (blk_cell BK419.out 3).trans rfl
      have hcz14_4 : w5.cell? ⟨gb419, 4, none⟩ = some (.slice A1_4 l1_4.length c1_4) := (blk_cell BK419.out 4).trans rfl
      have hfz14_0 := blk_frozen BK419.out 0
      have hfz14_1 := blk_frozen BK419.out 1
      have hfz14_2 := blk_frozen BK419.out 2
      have hfz14_3 := blk_frozen BK419.out 3
      have hfz14_4 := blk_frozen BK419.out 4
      go_wp2_with (first | (go_at_call 49; (with_reducible refine (longcaseref06_bools.calls k _ _ l0_3 _ _ l1_3 true _ ?side1 ?side2 ?side3 ?side4 A9.out).mono ?_); (case side1 => repeat (first | exact (Kd.C_below HR0_3.out HB.out) | (with_reducible refine Kd.C_alloc ?_ _) | (with_reducible refine Kd.C_drewN ?_ _) | (with_reducible refine Kd.C_drew ?_))); (case side2 => exact HC0_3.out); (case side3 => repeat (first | exact (Kd.C_below HR1_3.out HB.out) | (with_reducible refine Kd.C_alloc ?_ _) | (with_reducible refine Kd.C_drewN ?_ _) | (with_reducible refine Kd.C_drew ?_))); (case side4 => exact HC1_3.out); rintro e w' ⟨rfl, ⟨nd, rfl⟩⟩; (try first | exact ⟨rfl, _, World.drewN_drewN _ _ _⟩ | exact ⟨rfl, _, Eq.trans (World.drewN_drewN _ _ _) (congrArg (World.drewN _) (Nat.add_assoc _ _ _))⟩)) | (go_at_call 49; (with_reducible refine (longcaseref06_bools.calls k _ _ l0_4 _ _ l1_4 t421 _ ?side1 ?side2 ?side3 ?side4 A11.out).mono ?_); (case side1 => repeat (first | exact (Kd.C_below HR0_4.out (by repeat (first | (with_reducible first | exact HB.out | apply below_alloc | apply pw_below_drewN | apply below_drew1 | refine below_set ?_ GE418.out | refine below_set ?_ GE419.out) | exact HB.out))) | (with_reducible refine Kd.C_alloc ?_ _) | (with_reducible refine Kd.C_drewN ?_ _) | (with_reducible refine Kd.C_drew ?_))); (case side2 => exact HC0_4.out); (case side3 => repeat (first | exact (Kd.C_below HR1_4.out (by repeat (first | (with_reducible first | exact HB.out | apply below_alloc | apply pw_below_drewN | apply below_drew1 | refine below_set ?_ GE418.out | refine below_set ?_ GE419.out) | exact HB.out))) | (with_reducible refine Kd.C_alloc ?_ _) | (with_reducible refine Kd.C_drewN ?_ _) | (with_reducible refine Kd.C_drew ?_))); (case side4 => exact HC1_4.out); rintro e w' ⟨rfl, ⟨nd, rfl⟩⟩; (try first | exact ⟨rfl, _, World.drewN_drewN _ _ _⟩ | exact ⟨rfl, _, Eq.trans (World.drewN_drewN _ _ _) (congrArg (World.drewN _) (Nat.add_assoc _ _ _))⟩)))
      repeat (go_quiet (first | (go_at_call 49; (with_reducible refine (longcaseref06_bools.calls k _ _ l0_3 _ _ l1_3 true _ ?side1 ?side2 ?side3 ?side4 A9.out).mono ?_); (case side1 => repeat (first | exact (Kd.C_below HR0_3.out HB.out) | (with_reducible refine Kd.C_alloc ?_ _) | (with_reducible refine Kd.C_drewN ?_ _) | (with_reducible refine Kd.C_drew ?_))); (case side2 => exact HC0_3.out); (case side3 => repeat (first | exact (Kd.C_below HR1_3.out HB.out) | (with_reducible refine Kd.C_alloc ?_ _) | (with_reducible refine Kd.C_drewN ?_ _) | (with_reducible refine Kd.C_drew ?_))); (case side4 => exact HC1_3.out); rintro e w' ⟨rfl, ⟨nd, rfl⟩⟩; (try first | exact ⟨rfl, _, World.drewN_drewN _ _ _⟩ | exact ⟨rfl, _, Eq.trans (World.drewN_drewN _ _ _) (congrArg (World.drewN _) (Nat.add_assoc _ _ _))⟩)) | (go_at_call 49; (with_reducible refine (longcaseref06_bools.calls k _ _ l0_4 _ _ l1_4 t421 _ ?side1 ?side2 ?side3 ?side4 A11.out).mono ?_); (case side1 => repeat (first | exact (Kd.C_below HR0_4.out (by repeat (first | (with_reducible first | exact HB.out | apply below_alloc | apply pw_below_drewN | apply below_drew1 | refine below_set ?_ GE418.out | refine below_set ?_ GE419.out) | exact HB.out))) | (with_reducible refine Kd.C_alloc ?_ _) | (with_reducible refine Kd.C_drewN ?_ _) | (with_reducible refine Kd.C_drew ?_))); (case side2 => exact HC0_4.out); (case side3 => repeat (first | exact (Kd.C_below HR1_4.out (by repeat (first | (with_reducible first | exact HB.out | apply below_alloc | apply pw_below_drewN | apply below_drew1 | refine below_set ?_ GE418.out | refine below_set ?_ GE419.out) | exact HB.out))) | (with_reducible refine Kd.C_alloc ?_ _) | (with_reducible refine Kd.C_drewN ?_ _) | (with_reducible refine Kd.C_drew ?_))); (case side4 => exact HC1_4.out); rintro e w' ⟨rfl, ⟨nd, rfl⟩⟩; (try first | exact ⟨rfl, _, World.drewN_drewN _ _ _⟩ | exact ⟨rfl, _, Eq.trans (World.drewN_drewN _ _ _) (congrArg (World.drewN _) (Nat.add_assoc _ _ _))⟩))); try go_wp2_with (first | (go_at_call 49; (with_reducible refine (longcaseref06_bools.calls k _ _ l0_3 _ _ l1_3 true _ ?side1 ?side2 ?side3 ?side4 A9.out).mono ?_); (case side1 => repeat (first | exact (Kd.C_below HR0_3.out HB.out) | (with_reducible refine Kd.C_alloc ?_ _) | (with_reducible refine Kd.C_drewN ?_ _) | (with_reducible refine Kd.C_drew ?_))); (case side2 => exact HC0_3.out); (case side3 => repeat (first | exact (Kd.C_below HR1_3.out HB.out) | (with_reducible refine Kd.C_alloc ?_ _) | (with_reducible refine Kd.C_drewN ?_ _) | (with_reducible refine Kd.C_drew ?_))); (case side4 => exact HC1_3.out); rintro e w' ⟨rfl, ⟨nd, rfl⟩⟩; (try first | exact ⟨rfl, _, World.drewN_drewN _ _ _⟩ | exact ⟨rfl, _, Eq.trans (World.drewN_drewN _ _ _) (congrArg (World.drewN _) (Nat.add_assoc _ _ _))⟩)) | (go_at_call 49; (with_reducible refine (longcaseref06_bools.calls k _ _ l0_4 _ _ l1_4 t421 _ ?side1 ?side2 ?side3 ?side4 A11.out).mono ?_); (case side1 => repeat (first | exact (Kd.C_below HR0_4.out (by repeat (first | (with_reducible first | exact HB.out | apply below_alloc | apply pw_below_drewN | apply below_drew1 | refine below_set ?_ GE418.out | refine below_set ?_ GE419.out) | exact HB.out))) | (with_reducible refine Kd.C_alloc ?_ _) | (with_reducible refine Kd.C_drewN ?_ _) | (with_reducible refine Kd.C_drew ?_))); (case side2 => exact HC0_4.out); (case side3 => repeat (first | exact (Kd.C_below HR1_4.out (by repeat (first | (with_reducible first | exact HB.out | apply below_alloc | apply pw_below_drewN | apply below_drew1 | refine below_set ?_ GE418.out | refine below_set ?_ GE419.out) | exact HB.out))) | (with_reducible refine Kd.C_alloc ?_ _) | (with_reducible refine Kd.C_drewN ?_ _) | (with_reducible refine Kd.C_drew ?_))); (case side4 => exact HC1_4.out); rintro e w' ⟨rfl, ⟨nd, rfl⟩⟩; (try first | exact ⟨rfl, _, World.drewN_drewN _ _ _⟩ | exact ⟨rfl, _, Eq.trans (World.drewN_drewN _ _ _) (congrArg (World.drewN _) (Nat.add_assoc _ _ _))⟩))))
      go_meet
      case rel => exact ⟨_, (!t421), (by first | rfl | (simp; done) | (simp [*]; done)), H', ⟨by first | omega | exact Nat.le_refl _⟩, ⟨by (with_reducible repeat (first | refine blk_drewN ?_ _ | refine blk_drew ?_ | refine blk_alloc ?_ _)); exact BK418.out⟩, ⟨by (with_reducible repeat (first | refine blk_drewN ?_ _ | refine blk_drew ?_ | refine blk_alloc ?_ _)); exact BK419.out⟩, ⟨by repeat (first | (with_reducible first | exact HB.out | apply below_alloc | apply pw_below_drewN | apply below_drew1 | refine below_set ?_ GE418.out | refine below_set ?_ GE419.out) | exact HB.out)⟩⟩
     ·
      replace c10 := Bool.eq_false_iff.mpr c10
      subst c10
      have H1 : (longcaseref06_Same.j0 k true l0_0 l0_1 l0_2 l0_3 l0_4 l1_0 l1_1 l1_2 l1_3 l1_4) = some r := by rw [if_neg (show ¬ (false = true) by decide)] at H; exact H
      clear H
      have H := H1
      clear H1
      have H' := Aside0.mk H
      clear H
      have hnb15 := NB418_419.out
      have hnc15 := NB419_418.out
      have hcz16_0 : w5.cell? ⟨gb418, 0, none⟩ = some (.slice A0_0 l0_0.length c0_0) := (blk_cell BK418.out 0).trans rfl
      have hcz16_1 : w5.cell? ⟨gb418, 1, none⟩ = some (.slice A0_1 l0_1.length c0_1) := (blk_cell BK418.out 1).trans rfl
      have hcz16_2 : w5.cell? ⟨gb418, 2, none⟩ = some (.slice A0_2 l0_2.length c0_2) := (blk_cell BK418.out 2).trans rfl
      have hcz16_3 : w5.cell? ⟨gb418, 3, none⟩ = some (.slice A0_3 l0_3.length c0_3) := (blk_cell BK418.out 3).trans rfl
      have hcz16_4 : w5.cell? ⟨gb418, 4, none⟩ = some (.slice A0_4 l0_4.length c0_4) := (blk_cell BK418.out 4).trans rfl
      have hfz16_0 := blk_frozen BK418.out 0
      have hfz16_1 := blk_frozen BK418.out 1
      have hfz16_2 := blk_frozen BK418.out 2
      have hfz16_3 := blk_frozen BK418.out 3
      have hfz16_4 := blk_frozen BK418.out 4
      have hcz17_0 : w5.cell? ⟨gb419, 0, none⟩ = some (.slice A1_0 l1_0.length c1_0) := (blk_cell BK419.out 0).trans rfl
      have hcz17_1 : w5.cell? ⟨gb419, 1, none⟩ = some (.slice A1_1 l1_1.length c1_1) := (blk_cell BK419.out 1).trans rfl
      have hcz17_2 : w5.cell? ⟨gb419, 2, none⟩ = some (.slice A1_2 l1_2.length c1_2) := (blk_cell BK419.out 2).trans rfl
      have hcz17_3 : w5.cell? ⟨gb419, 3, none⟩ = some (.slice A1_3 l1_3.length c1_3) := (blk_cell BK419.out 3).trans rfl
      have hcz17_4 : w5.cell? ⟨gb419, 4, none⟩ = some (.slice A1_4 l1_4.length c1_4) := (blk_cell BK419.out 4).trans rfl
      have hfz17_0 := blk_frozen BK419.out 0
      have hfz17_1 := blk_frozen BK419.out 1
      have hfz17_2 := blk_frozen BK419.out 2
      have hfz17_3 := blk_frozen BK419.out 3
      have hfz17_4 := blk_frozen BK419.out 4
      go_wp2_with (first | (go_at_call 49; (with_reducible refine (longcaseref06_bools.calls k _ _ l0_3 _ _ l1_3 false _ ?side1 ?side2 ?side3 ?side4 A9.out).mono ?_); (case side1 => repeat (first | exact (Kd.C_below HR0_3.out HB.out) | (with_reducible refine Kd.C_alloc ?_ _) | (with_reducible refine Kd.C_drewN ?_ _) | (with_reducible refine Kd.C_drew ?_))); (case side2 => exact HC0_3.out); (case side3 => repeat (first | exact (Kd.C_below HR1_3.out HB.out) | (with_reducible refine Kd.C_alloc ?_ _) | (with_reducible refine Kd.C_drewN ?_ _) | (with_reducible refine Kd.C_drew ?_))); (case side4 => exact HC1_3.out); rintro e w' ⟨rfl, ⟨nd, rfl⟩⟩; (try first | exact ⟨rfl, _, World.drewN_drewN _ _ _⟩ | exact ⟨rfl, _, Eq.trans (World.drewN_drewN _ _ _) (congrArg (World.drewN _) (Nat.add_assoc _ _ _))⟩)))
      repeat (go_quiet (first | (go_at_call 49; (with_reducible refine (longcaseref06_bools.calls k _ _ l0_3 _ _ l1_3 false _ ?side1 ?side2 ?side3 ?side4 A9.out).mono ?_); (case side1 => repeat (first | exact (Kd.C_below HR0_3.out HB.out) | (with_reducible refine Kd.C_alloc ?_ _) | (with_reducible refine Kd.C_drewN ?_ _) | (with_reducible refine Kd.C_drew ?_))); (case side2 => exact HC0_3.out); (case side3 => repeat (first | exact (Kd.C_below HR1_3.out HB.out) | (with_reducible refine Kd.C_alloc ?_ _) | (with_reducible refine Kd.C_drewN ?_ _) | (with_reducible refine Kd.C_drew ?_))); (case side4 => exact HC1_3.out); rintro e w' ⟨rfl, ⟨nd, rfl⟩⟩; (try first | exact ⟨rfl, _, World.drewN_drewN _ _ _⟩ | exact ⟨rfl, _, Eq.trans (World.drewN_drewN _ _ _) (congrArg (World.drewN _) (Nat.add_assoc _ _ _))⟩))); try go_wp2_with (first | (go_at_call 49; (with_reducible refine (longcaseref06_bools.calls k _ _ l0_3 _ _ l1_3 false _ ?side1 ?side2 ?side3 ?side4 A9.out).mono ?_); (case side1 => repeat (first | exact (Kd.C_below HR0_3.out HB.out) | (with_reducible refine Kd.C_alloc ?_ _) | (with_reducible refine Kd.C_drewN ?_ _) | (with_reducible refine Kd.C_drew ?_))); (case side2 => exact HC0_3.out); (case side3 => repeat (first | exact (Kd.C_below HR1_3.out HB.out) | (with_reducible refine Kd.C_alloc ?_ _) | (with_reducible refine Kd.C_drewN ?_ _) | (with_reducible refine Kd.C_drew ?_))); (case side4 => exact HC1_3.out); rintro e w' ⟨rfl, ⟨nd, rfl⟩⟩; (try first | exact ⟨rfl, _, World.drewN_drewN _ _ _⟩ | exact ⟨rfl, _, Eq.trans (World.drewN_drewN _ _ _) (congrArg (World.drewN _) (Nat.add_assoc _ _ _))⟩))))
      go_meet
      case rel => exact ⟨_, (true), (by first | rfl | (simp; done) | (simp [*]; done)), H', ⟨by first | omega | exact Nat.le_refl _⟩, ⟨by (with_reducible repeat (first | refine blk_drewN ?_ _ | refine blk_drew ?_ | refine blk_alloc ?_ _)); exact BK418.out⟩, ⟨by (with_reducible repeat (first | refine blk_drewN ?_ _ | refine blk_drew ?_ | refine blk_alloc ?_ _)); exact BK419.out⟩, ⟨by repeat (first | (with_reducible first | exact HB.out | apply below_alloc | apply pw_below_drewN | apply below_drew1 | refine below_set ?_ GE418.out | refine below_set ?_ GE419.out) | exact HB.out)⟩⟩
    ·
     rw [if_neg c8] at H
     have c8b0 : ((l0_2.length : Int) == (l1_2.length : Int)) = false := beq_eq_false_iff_ne.mpr c8
     have c8b1 : ((l0_2.length : Int) != (l1_2.length : Int)) = true := bne_iff_ne.mpr c8
     have c8b2 : (l0_2.length == l1_2.length) = false := by first | simpa using c8 | (simp at c8 ⊢; omega)
     have H' := Aside0.mk H
     clear H
     have hnb18 := NB418_419.out
     have hnc18 := NB419_418.out
     have hcz19_0 : w5.cell? ⟨gb418, 0, none⟩ = some (.slice A0_0 l0_0.length c0_0) := (blk_cell BK418.out 0).trans rfl
     have hcz19_1 : w5.cell? ⟨gb418, 1, none⟩ = some (.slice A0_1 l0_1.length c0_1) := (blk_cell BK418.out 1).trans rfl
     have hcz19_2 : w5.cell? ⟨gb418, 2, none⟩ = some (.slice A0_2 l0_2.length c0_2) := (blk_cell BK418.out 2).trans rfl
     have hcz19_3 : w5.cell? ⟨gb418, 3, none⟩ = some (.slice A0_3 l0_3.length c0_3) := (blk_cell BK418.out 3).trans rfl
     have hcz19_4 : w5.cell? ⟨gb418, 4, none⟩ = some (.slice A0_4 l0_4.length c0_4) := (blk_cell BK418.out 4).trans rfl
     have hfz19_0 := blk_frozen BK418.out 0
     have hfz19_1 := blk_frozen BK418.out 1
     have hfz19_2 := blk_frozen BK418.out 2
     have hfz19_3 := blk_frozen BK418.out 3
     have hfz19_4 := blk_frozen BK418.out 4
     have hcz20_0 : w5.cell? ⟨gb419, 0, none⟩ = some (.slice A1_0 l1_0.length c1_0) := (blk_cell BK419.out 0).trans rfl
     have hcz20_1 : w5.cell? ⟨gb419, 1, none⟩ = some (.slice A1_1 l1_1.length c1_1) := (blk_cell BK419.out 1).trans rfl
     have hcz20_2 : w5.cell? ⟨gb419, 2, none⟩ = some (.slice A1_2 l1_2.length c1_2) := (blk_cell BK419.out 2).trans rfl
     have hcz20_3 : w5.cell? ⟨gb419, 3, none⟩ = some (.slice A1_3 l1_3.length c1_3) := (blk_cell BK419.out 3).trans rfl
     have hcz20_4 : w5.cell? ⟨gb419, 4, none⟩ = some (.slice A1_4 l1_4.length c1_4) := (blk_cell BK419.out 4).trans rfl
     have hfz20_0 := blk_frozen BK419.out 0
     have hfz20_1 := blk_frozen BK419.out 1
     have hfz20_2 := blk_frozen BK419.out 2
     have hfz20_3 := blk_frozen BK419.out 3
     have hfz20_4 := blk_frozen BK419.out 4
     go_wp2
     repeat (go_quiet (fail); try go_wp2)
     go_meet
     case rel => exact ⟨_, (true), (by first | rfl | (simp; done) | (simp [*]; done)), H', ⟨by first | omega | exact Nat.le_refl _⟩, ⟨by (with_reducible repeat (first | refine blk_drewN ?_ _ | refine blk_drew ?_ | refine blk_alloc ?_ _)); exact BK418.out⟩, ⟨by (with_reducible repeat (first | refine blk_drewN ?_ _ | refine blk_drew ?_ | refine blk_alloc ?_ _)); exact BK419.out⟩, ⟨by repeat (first | (with_reducible first | exact HB.out | apply below_alloc | apply pw_below_drewN | apply below_drew1 | refine below_set ?_ GE418.out | refine below_set ?_ GE419.out) | exact HB.out)⟩⟩
   ·
    rw [if_neg c7] at H
    have c7b0 : ((l0_1.length : Int) == (l1_1.length : Int)) = false := beq_eq_false_iff_ne.mpr c7
    have c7b1 : ((l0_1.length : Int) != (l1_1.length : Int)) = true := bne_iff_ne.mpr c7
    have c7b2 : (l0_1.length == l1_1.length) = false := by first | simpa using c7 | (simp at c7 ⊢; omega)
    have H' := Aside0.mk H
    clear H
    have hnb21 := NB418_419.out
    have hnc21 := NB419_418.out
    have hcz22_0 : w5.cell? ⟨gb418, 0, none⟩ = some (.slice A0_0 l0_0.length c0_0) := (blk_cell BK418.out 0).trans rfl
    have hcz22_1 : w5.cell? ⟨gb418, 1, none⟩ = some (.slice A0_1 l0_1.length c0_1) := (blk_cell BK418.out 1).trans rfl
    have hcz22_2 : w5.cell? ⟨gb418, 2, none⟩ = some (.slice A0_2 l0_2.length c0_2) := (blk_cell BK418.out 2).trans rfl
    have hcz22_3 : w5.cell? ⟨gb418, 3, none⟩ = some (.slice A0_3 l0_3.length c0_3) := (blk_cell BK418.out 3).trans rfl
    have hcz22_4 : w5.cell? ⟨gb418, 4, none⟩ = some (.slice A0_4 l0_4.length c0_4) := (blk_cell BK418.out 4).trans rfl
    have hfz22_0 := blk_frozen BK418.out 0
    have hfz22_1 := blk_frozen BK418.out 1
    have hfz22_2 := blk_frozen BK418.out 2
    have hfz22_3 := blk_frozen BK418.out 3
    have hfz22_4 := blk_frozen BK418.out 4
    have hcz23_0 : w5.cell? ⟨gb419, 0, none⟩ = some (.slice A1_0 l1_0.length c1_0) := (blk_cell BK419.out 0).trans rfl
    have hcz23_1 : w5.cell? ⟨gb419, 1, none⟩ = some (.slice A1_1 l1_1.length c1_1) := (blk_cell BK419.out 1).trans rfl
    have hcz23_2 : w5.cell? ⟨gb419, 2, none⟩ = some (.slice A1_2 l1_2.length c1_2) := (blk_cell BK419.out 2).trans rfl
    have hcz23_3 : w5.cell? ⟨gb419, 3, none⟩ = some (.slice A1_3 l1_3.length c1_3) := (blk_cell BK419.out 3).trans rfl
    have hcz23_4 : w5.cell? ⟨gb419, 4, none⟩ = some (.slice A1_4 l1_4.length c1_4) := (blk_cell BK419.out 4).trans rfl
    have hfz23_0 := blk_frozen BK419.out 0
    have hfz23_1 := blk_frozen BK419.out 1
    have hfz23_2 := blk_frozen BK419.out 2
    have hfz23_3 := blk_frozen BK419.out 3
    have hfz23_4 := blk_frozen BK419.out 4
    go_wp2
    repeat (go_quiet (fail); try go_wp2)
    go_meet
    case rel => exact ⟨_, (true), (by first | rfl | (simp; done) | (simp [*]; done)), H', ⟨by first | omega | exact Nat.le_refl _⟩, ⟨by (with_reducible repeat (first | refine blk_drewN ?_ _ | refine blk_drew ?_ | refine blk_alloc ?_ _)); exact BK418.out⟩, ⟨by (with_reducible repeat (first | refine blk_drewN ?_ _ | refine blk_drew ?_ | refine blk_alloc ?_ _)); exact BK419.out⟩, ⟨by repeat (first | (with_reducible first | exact HB.out | apply below_alloc | apply pw_below_drewN | apply below_drew1 | refine below_set ?_ GE418.out | refine below_set ?_ GE419.out) | exact HB.out)⟩⟩
  ·
   rw [if_neg c6] at H
   have c6b0 : ((l0_0.length : Int) == (l1_0.length : Int)) = false := beq_eq_false_iff_ne.mpr c6
   have c6b1 : ((l0_0.length : Int) != (l1_0.length : Int)) = true := bne_iff_ne.mpr c6
   have c6b2 : (l0_0.length == l1_0.length) = false := by first | simpa using c6 | (simp at c6 ⊢; omega)
   (first | rw [c6b0] | (simp only [i64_w, i32_w]; rw [c6b0]) | skip)
   have H' := Aside0.mk H
   clear H
   have hnb24 := NB418_419.out
   have hnc24 := NB419_418.out
   have hcz25_0 : w5.cell? ⟨gb418, 0, none⟩ = some (.slice A0_0 l0_0.length c0_0) := (blk_cell BK418.out 0).trans rfl
   have hcz25_1 : w5.cell? ⟨gb418, 1, none⟩ = some (.slice A0_1 l0_1.length c0_1) := (blk_cell BK418.out 1).trans rfl
   have hcz25_2 : w5.cell? ⟨gb418, 2, none⟩ = some (.slice A0_2 l0_2.length c0_2) := (blk_cell BK418.out 2).trans rfl
   have hcz25_3 : w5.cell? ⟨gb418, 3, none⟩ = some (.slice A0_3 l0_3.length c0_3) := (blk_cell BK418.out 3).trans rfl
   have hcz25_4 : w5.cell? ⟨gb418, 4, none⟩ = some (.slice A0_4 l0_4.length c0_4) := (blk_cell BK418.out 4).trans rfl
   have hfz25_0 := blk_frozen BK418.out 0
   have hfz25_1 := blk_frozen BK418.out 1
   have hfz25_2 := blk_frozen BK418.out 2
   have hfz25_3 := blk_frozen BK418.out 3
   have hfz25_4 := blk_frozen BK418.out 4
   have hcz26_0 : w5.cell? ⟨gb419, 0, none⟩ = some (.slice A1_0 l1_0.length c1_0) := (blk_cell BK419.out 0).trans rfl
   have hcz26_1 : w5.cell? ⟨gb419, 1, none⟩ = some (.slice A1_1 l1_1.length c1_1) := (blk_cell BK419.out 1).trans rfl
   have hcz26_2 : w5.cell? ⟨gb419, 2, none⟩ = some (.slice A1_2 l1_2.length c1_2) := (blk_cell BK419.out 2).trans rfl
   have hcz26_3 : w5.cell? ⟨gb419, 3, none⟩ = some (.slice A1_3 l1_3.length c1_3) := (blk_cell BK419.out 3).trans rfl
   have hcz26_4 : w5.cell? ⟨gb419, 4, none⟩ = some (.slice A1_4 l1_4.length c1_4) := (blk_cell BK419.out 4).trans rfl
   have hfz26_0 := blk_frozen BK419.out 0
   have hfz26_1 := blk_frozen BK419.out 1
   have hfz26_2 := blk_frozen BK419.out 2
   have hfz26_3 := blk_frozen BK419.out 3
   have hfz26_4 := blk_frozen BK419.out 4
   go_wp2
   repeat (go_quiet (fail); try go_wp2)
   go_meet
   case rel => exact ⟨_, (true), (by first | rfl | (simp; done) | (simp [*]; done)), H', ⟨by first | omega | exact Nat.le_refl _⟩, ⟨by (with_reducible repeat (first | refine blk_drewN ?_ _ | refine blk_drew ?_ | refine blk_alloc ?_ _)); exact BK418.out⟩, ⟨by (with_reducible repeat (first | refine blk_drewN ?_ _ | refine blk_drew ?_ | refine blk_alloc ?_ _)); exact BK419.out⟩, ⟨by repeat (first | (with_reducible first | exact HB.out | apply below_alloc | apply pw_below_drewN | apply below_drew1 | refine below_set ?_ GE418.out | refine below_set ?_ GE419.out) | exact HB.out)⟩⟩
 case rest =>
  clear HC3
  try clear c1
  try clear c2
  try clear p2
  try clear c6
  try clear c6b0
  try clear c6b1
  try clear c6b2
  try clear c7
  try clear c7b0
  try clear c7b1
  try clear c7b2
  try clear c8
  try clear c8b0
  try clear c8b1
  try clear c8b2
  try clear c10
  try clear c12
  try clear c15
  try clear c18
  try clear c21
  try clear c23
  try clear c24
  try clear hcz13_0
  try clear hcz13_1
  try clear hcz13_2
  try clear hcz13_3
  try clear hcz13_4
  try clear hcz14_0
  try clear hcz14_1
  try clear hcz14_2
  try clear hcz14_3
  try clear hcz14_4
  try clear hcz16_0
  try clear hcz16_1
  try clear hcz16_2
  try clear hcz16_3
  try clear hcz16_4
  try clear hcz17_0
  try clear hcz17_1
  try clear hcz17_2
  try clear hcz17_3
  try clear hcz17_4
  try clear hcz19_0
  try clear hcz19_1
  try clear hcz19_2
  try clear hcz19_3
  try clear hcz19_4
  try clear hcz20_0
  try clear hcz20_1
  try clear hcz20_2
  try clear hcz20_3
  try clear hcz20_4
  try clear hcz22_0
  try clear hcz22_1
  try clear hcz22_2
  try clear hcz22_3
  try clear hcz22_4
  try clear hcz23_0
  try clear hcz23_1
  try clear hcz23_2
  try clear hcz23_3
  try clear hcz23_4
  try clear hcz25_0
  try clear hcz25_1
  try clear hcz25_2
  try clear hcz25_3
  try clear hcz25_4
  try clear hcz26_0
  try clear hcz26_1
  try clear hcz26_2
  try clear hcz26_3
  try clear hcz26_4
  try clear hfz13_0
  try clear hfz13_1
  try clear hfz13_2
  try clear hfz13_3
  try clear hfz13_4
  try clear hfz14_0
  try clear hfz14_1
  try clear hfz14_2
  try clear hfz14_3
  try clear hfz14_4
  try clear hfz16_0
  try clear hfz16_1
  try clear hfz16_2
  try clear hfz16_3
  try clear hfz16_4
  try clear hfz17_0
  try clear hfz17_1
  try clear hfz17_2
  try clear hfz17_3
  try clear hfz17_4
  try clear hfz19_0
  try clear hfz19_1
  try clear hfz19_2
  try clear hfz19_3
  try clear hfz19_4
  try clear hfz20_0
  try clear hfz20_1
  try clear hfz20_2
  try clear hfz20_3
  try clear hfz20_4
  try clear hfz22_0
  try clear hfz22_1
  try clear hfz22_2
  try clear hfz22_3
  try clear hfz22_4
  try clear hfz23_0
  try clear hfz23_1
  try clear hfz23_2
  try clear hfz23_3
  try clear hfz23_4
  try clear hfz25_0
  try clear hfz25_1
  try clear hfz25_2
  try clear hfz25_3
  try clear hfz25_4
  try clear hfz26_0
  try clear hfz26_1
  try clear hfz26_2
  try clear hfz26_3
  try clear hfz26_4
  obtain ⟨kq, x48_2, rfl, HA, HJ2, BK418, BK419, HB⟩ := hcut
  cases kq with
  | zero => exact absurd HA.out (by simp [longcaseref06_Same.j0])
  | succ kj2 =>
   have H := HA.out
   clear HA
   simp only [longcaseref06_Same.j0] at H
   by_cases c27 : x48_2 = true
   ·
    subst c27
    have H1 : (some false) = some r := by rw [if_pos rfl] at H; exact H
    clear H
    have H := H1
    clear H1
    obtain rfl := Option.some.inj H
    go_wp2
    repeat (go_quiet (fail); try go_wp2)
    go_ret
    exact ⟨by first | rfl | (simp [errW_none, errW_some] <;> rfl) | (simp [*, errW_none, errW_some] <;> rfl), by repeat (first | (with_reducible first | exact HB.out | apply below_alloc | apply pw_below_drewN | apply below_drew1 | refine below_set ?_ GE418.out | refine below_set ?_ GE419.out) | exact HB.out)⟩
   ·
    replace c27 := Bool.eq_false_iff.mpr c27
    subst c27
    have H1 : (longcaseref06_Same.l0 kj2 0 l0_0 l0_1 l0_2 l0_3 l0_4 l1_0 l1_1 l1_2 l1_3 l1_4) = some r := by rw [if_neg (show ¬ (false = true) by decide)] at H; exact H
    clear H
    have H := H1
    clear H1
    have H' := Aside0.mk H
    clear H
    go_wp2
    repeat (go_quiet (fail); try go_wp2)
    go_loopg [5] kj2 (fun kq v5 w' => ∃ (x5_2 : Int), v5 = .int .i64 x5_2 ∧ Aside0 (longcaseref06_Same.l0 kq x5_2 l0_0 l0_1 l0_2 l0_3 l0_4 l1_0 l1_1 l1_2 l1_3 l1_4 = some r) ∧ Aside0 (kq ≤ kj2) ∧ Aside0 (w'.heap[gb418]? = some (.cells #[(.slice A0_0 l0_0.length c0_0), (.slice A0_1 l0_1.length c0_1), (.slice A0_2 l0_2.length c0_2), (.slice A0_3 l0_3.length c0_3), (.slice A0_4 l0_4.length c0_4)] 31 (0, 0))) ∧ Aside0 (w'.heap[gb419]? = some (.cells #[(.slice A1_0 l1_0.length c1_0), (.slice A1_1 l1_1.length c1_1), (.slice A1_2 l1_2.length c1_2), (.slice A1_3 l1_3.length c1_3), (.slice A1_4 l1_4.length c1_4)] 31 (0, 0))) ∧ Aside0 (Below w.heap.size w w'))
    case atStart => exact ⟨(0), (by first | rfl | (simp; done) | (simp [*]; done)), H', ⟨Nat.le_refl _⟩, ⟨by (with_reducible repeat (first | refine blk_drewN ?_ _ | refine blk_drew ?_ | refine blk_alloc ?_ _)); exact BK418.out⟩, ⟨by (with_reducible repeat (first | refine blk_drewN ?_ _ | refine blk_drew ?_ | refine blk_alloc ?_ _)); exact BK419.out⟩, ⟨by repeat (first | (with_reducible first | exact HB.out | apply below_alloc | apply pw_below_drewN | apply below_drew1 | refine below_set ?_ GE418.out | refine below_set ?_ GE419.out) | exact HB.out)⟩⟩
    case round =>
     clear H'
     try clear c1
     try clear c2
     try clear p2
     try clear c6
     try clear c6b0
     try clear c6b1
     try clear c6b2
     try clear c7
     try clear c7b0
     try clear c7b1
     try clear c7b2
     try clear c8
     try clear c8b0
     try clear c8b1
     try clear c8b2
     try clear c10
     try clear c12
     try clear c15
     try clear c18
     try clear c21
     try clear c23
     try clear c24
     try clear c27
     try clear hcz13_0
     try clear hcz13_1
     try clear hcz13_2
     try clear hcz13_3
     try clear hcz13_4
     try clear hcz14_0
     try clear hcz14_1
     try clear hcz14_2
     try clear hcz14_3
     try clear hcz14_4
     try clear hcz16_0
     try clear hcz16_1
     try clear hcz16_2
     try clear hcz16_3
     try clear hcz16_4
     try clear hcz17_0
     try clear hcz17_1
     try clear hcz17_2
     try clear hcz17_3
     try clear hcz17_4
     try clear hcz19_0
     try clear hcz19_1
     try clear hcz19_2
     try clear hcz19_3
     try clear hcz19_4
     try clear hcz20_0
     try clear hcz20_1
     try clear hcz20_2
     try clear hcz20_3
     try clear hcz20_4
     try clear hcz22_0
     try clear hcz22_1
     try clear hcz22_2
     try clear hcz22_3
     try clear hcz22_4
     try clear hcz23_0
     try clear hcz23_1
     try clear hcz23_2
     try clear hcz23_3
     try clear hcz23_4
     try clear hcz25_0
     try clear hcz25_1
     try clear hcz25_2
     try clear hcz25_3
     try clear hcz25_4
     try clear hcz26_0
     try clear hcz26_1
     try clear hcz26_2
     try clear hcz26_3
     try clear hcz26_4
     try clear hfz13_0
     try clear hfz13_1
     try clear hfz13_2
     try clear hfz13_3
     try clear hfz13_4
     try clear hfz14_0
     try clear hfz14_1
     try clear hfz14_2
     try clear hfz14_3
     try clear hfz14_4
     try clear hfz16_0
     try clear hfz16_1
     try clear hfz16_2
     try clear hfz16_3
     try clear hfz16_4
     try clear hfz17_0
     try clear hfz17_1
     try clear hfz17_2
     try clear hfz17_3
     try clear hfz17_4
     try clear hfz19_0
     try clear hfz19_1
     try clear hfz19_2
     try clear hfz19_3
     try clear hfz19_4
     try clear hfz20_0
     try clear hfz20_1
     try clear hfz20_2
     try clear hfz20_3
     try clear hfz20_4
     try clear hfz22_0
     try clear hfz22_1
     try clear hfz22_2
     try clear hfz22_3
     try clear hfz22_4
     try clear hfz23_0
     try clear hfz23_1
     try clear hfz23_2
     try clear hfz23_3
     try clear hfz23_4
     try clear hfz25_0
     try clear hfz25_1
     try clear hfz25_2
     try clear hfz25_3
     try clear hfz25_4
     try clear hfz26_0
     try clear hfz26_1
     try clear hfz26_2
     try clear hfz26_3
     try clear hfz26_4
     try clear p2
     obtain ⟨x5_2, rfl, HA, HK2, BK418, BK419, HB⟩ := hrel
     cases gk with
     | zero => exact absurd HA.out (by simp [longcaseref06_Same.l0])
     | succ k2 =>
      have H := HA.out
      clear HA
      simp only [longcaseref06_Same.l0] at H
      by_cases c28 : x5_2 < (l0_0.length : Int)
      ·
       rw [if_pos c28] at H
       have c28b0 : decide (x5_2 < (l0_0.length : Int)) = true := decide_eq_true c28
       clear c28
       by_cases c29 : 0 ≤ x5_2
       ·
        rw [if_pos c29] at H
        have c29b0 : decide (0 ≤ x5_2) = true := decide_eq_true c29
        clear c29
        by_cases c30 : x5_2 < (l1_0.length : Int)
        ·
         rw [if_pos c30] at H
         have c30b0 : decide (x5_2 < (l1_0.length : Int)) = true := decide_eq_true c30
         clear c30
         by_cases c31 : (!(((rd_T56 l0_0 x5_2).f0) == ((rd_T56 l1_0 x5_2).f0)) || (!(((rd_T56 l0_0 x5_2).f1) == ((rd_T56 l1_0 x5_2).f1)) || (!((((rd_T56 l0_0 x5_2).f2).toList) == (((rd_T56 l1_0 x5_2).f2).toList))))) = true
         ·
          rw [if_pos c31] at H
          have c31b0 : (!(((rd_T56 l0_0 x5_2).f0) == ((rd_T56 l1_0 x5_2).f0)) || (!(((rd_T56 l0_0 x5_2).f1) == ((rd_T56 l1_0 x5_2).f1)) || (!((((rd_T56 l0_0 x5_2).f2).toList) == (((rd_T56 l1_0 x5_2).f2).toList))))) = true := c31
          clear c31
          obtain rfl := Option.some.inj H
          have hnb32 := NB418_419.out
          have hnc32 := NB419_418.out
          have hcz33_0 : wr.cell? ⟨gb418, 0, none⟩ = some (.slice A0_0 l0_0.length c0_0) := (blk_cell BK418.out 0).trans rfl
          have hcz33_1 : wr.cell? ⟨gb418, 1, none⟩ = some (.slice A0_1 l0_1.length c0_1) := (blk_cell BK418.out 1).trans rfl
          have hcz33_2 : wr.cell? ⟨gb418, 2, none⟩ = some (.slice A0_2 l0_2.length c0_2) := (blk_cell BK418.out 2).trans rfl
          have hcz33_3 : wr.cell? ⟨gb418, 3, none⟩ = some (.slice A0_3 l0_3.length c0_3) := (blk_cell BK418.out 3).trans rfl
          have hcz33_4 : wr.cell? ⟨gb418, 4, none⟩ = some (.slice A0_4 l0_4.length c0_4) := (blk_cell BK418.out 4).trans rfl
          have hfz33_0 := blk_frozen BK418.out 0
          have hfz33_1 := blk_frozen BK418.out 1
          have hfz33_2 := blk_frozen BK418.out 2
          have hfz33_3 := blk_frozen BK418.out 3
          have hfz33_4 := blk_frozen BK418.out 4
          have p422 : 0 ≤ (x5_2 : Int) := of_decide_eq_true (by first | (with_reducible assumption) | assumption)
          have q422 : x5_2 < (l0_0.length : Int) := of_decide_eq_true (by first | (with_reducible assumption) | assumption)
          obtain ⟨ad422, e422, hx422_0, hx422_1, hx422_2⟩ := at_T56 HR0_0.out x5_2 p422 q422
          cases e422
          replace hx422_0 := (HB.out.cell (World.block_lt_of_cell? w _ hx422_0)).trans hx422_0
          replace hx422_1 := (HB.out.cell (World.block_lt_of_cell? w _ hx422_1)).trans hx422_1
          replace hx422_2 := (HB.out.cell (World.block_lt_of_cell? w _ hx422_2)).trans hx422_2
          replace p422 := eq_true p422
          replace q422 := eq_true q422
          have hcz34_0 : wr.cell? ⟨gb419, 0, none⟩ = some (.slice A1_0 l1_0.length c1_0) := (blk_cell BK419.out 0).trans rfl
          have hcz34_1 : wr.cell? ⟨gb419, 1, none⟩ = some (.slice A1_1 l1_1.length c1_1) := (blk_cell BK419.out 1).trans rfl
          have hcz34_2 : wr.cell? ⟨gb419, 2, none⟩ = some (.slice A1_2 l1_2.length c1_2) := (blk_cell BK419.out 2).trans rfl
          have hcz34_3 : wr.cell? ⟨gb419, 3, none⟩ = some (.slice A1_3 l1_3.length c1_3) := (blk_cell BK419.out 3).trans rfl
          have hcz34_4 : wr.cell? ⟨gb419, 4, none⟩ = some (.slice A1_4 l1_4.length c1_4) := (blk_cell BK419.out 4).trans rfl
          have hfz34_0 := blk_frozen BK419.out 0
          have hfz34_1 := blk_frozen BK419.out 1
          have hfz34_2 := blk_frozen BK419.out 2
          have hfz34_3 := blk_frozen BK419.out 3
          have hfz34_4 := blk_frozen BK419.out 4
          have p423 : 0 ≤ (x5_2 : Int) := of_decide_eq_true (by first | (with_reducible assumption) | assumption)
          have q423 : x5_2 < (l1_0.length : Int) := of_decide_eq_true (by first | (with_reducible assumption) | assumption)
          obtain ⟨ad423, e423, hx423_0, hx423_1, hx423_2⟩ := at_T56 HR1_0.out x5_2 p423 q423
          cases e423
          replace hx423_0 := (HB.out.cell (World.block_lt_of_cell? w _ hx423_0)).trans hx423_0
          replace hx423_1 := (HB.out.cell (World.block_lt_of_cell? w _ hx423_1)).trans hx423_1
          replace hx423_2 := (HB.out.cell (World.block_lt_of_cell? w _ hx423_2)).trans hx423_2
          replace p423 := eq_true p423
          replace q423 := eq_true q423
          go_wp2
          repeat (go_quiet (fail); try go_wp2)
          go_ret
          exact ⟨by first | rfl | (simp [errW_none, errW_some] <;> rfl) | (simp [*, errW_none, errW_some] <;> rfl), by repeat (first | (with_reducible first | exact HB.out | apply below_alloc | apply pw_below_drewN | apply below_drew1 | refine below_set ?_ GE418.out | refine below_set ?_ GE419.out) | exact HB.out)⟩
         ·
          rw [if_neg c31] at H
          have c31b0 : (!(((rd_T56 l0_0 x5_2).f0) == ((rd_T56 l1_0 x5_2).f0)) || (!(((rd_T56 l0_0 x5_2).f1) == ((rd_T56 l1_0 x5_2).f1)) || (!((((rd_T56 l0_0 x5_2).f2).toList) == (((rd_T56 l1_0 x5_2).f2).toList))))) = false := by simpa using c31
          clear c31
          have H' := Aside0.mk H
          clear H
          have hnb35 := NB418_419.out
          have hnc35 := NB419_418.out
          have hcz36_0 : wr.cell? ⟨gb418, 0, none⟩ = some (.slice A0_0 l0_0.length c0_0) := (blk_cell BK418.out 0).trans rfl
          have hcz36_1 : wr.cell? ⟨gb418, 1, none⟩ = some (.slice A0_1 l0_1.length c0_1) := (blk_cell BK418.out 1).trans rfl
          have hcz36_2 : wr.cell? ⟨gb418, 2, none⟩ = some (.slice A0_2 l0_2.length c0_2) := (blk_cell BK418.out 2).trans rfl
          have hcz36_3 : wr.cell? ⟨gb418, 3, none⟩ = some (.slice A0_3 l0_3.length c0_3) := (blk_cell BK418.out 3).trans rfl
          have hcz36_4 : wr.cell? ⟨gb418, 4, none⟩ = some (.slice A0_4 l0_4.length c0_4) := (blk_cell BK418.out 4).trans rfl
          have hfz36_0 := blk_frozen BK418.out 0
          have hfz36_1 := blk_frozen BK418.out 1
          have hfz36_2 := blk_frozen BK418.out 2
          have hfz36_3 := blk_frozen BK418.out 3
          have hfz36_4 := blk_frozen BK418.out 4
          have p422 : 0 ≤ (x5_2 : Int) := of_decide_eq_true (by first | (with_reducible assumption) | assumption)
          have q422 : x5_2 < (l0_0.length : Int) := of_decide_eq_true (by first | (with_reducible assumption) | assumption)
          obtain ⟨ad422, e422, hx422_0, hx422_1, hx422_2⟩ := at_T56 HR0_0.out x5_2 p422 q422
          cases e422
          replace hx422_0 := (HB.out.cell (World.block_lt_of_cell? w _ hx422_0)).trans hx422_0
          replace hx422_1 := (HB.out.cell (World.block_lt_of_cell? w _ hx422_1)).trans hx422_1
          replace hx422_2 := (HB.out.cell (World.block_lt_of_cell? w _ hx422_2)).trans hx422_2
          replace p422 := eq_true p422
          replace q422 := eq_true q422
          have hcz37_0 : wr.cell? ⟨gb419, 0, none⟩ = some (.slice A1_0 l1_0.length c1_0) := (blk_cell BK419.out 0).trans rfl
          have hcz37_1 : wr.cell? ⟨gb419, 1, none⟩ = some (.slice A1_1 l1_1.length c1_1) := (blk_cell BK419.out 1).trans rfl
          have hcz37_2 : wr.cell? ⟨gb419, 2, none⟩ = some (.slice A1_2 l1_2.length c1_2) := (blk_cell BK419.out 2).trans rfl
          have hcz37_3 : wr.cell? ⟨gb419, 3, none⟩ = some (.slice A1_3 l1_3.length c1_3) := (blk_cell BK419.out 3).trans rfl
          have hcz37_4 : wr.cell? ⟨gb419, 4, none⟩ = some (.slice A1_4 l1_4.length c1_4) := (blk_cell BK419.out 4).trans rfl
          have hfz37_0 := blk_frozen BK419.out 0
          have hfz37_1 := blk_frozen BK419.out 1
          have hfz37_2 := blk_frozen BK419.out 2
          have hfz37_3 := blk_frozen BK419.out 3
          have hfz37_4 := blk_frozen BK419.out 4
          have p423 : 0 ≤ (x5_2 : Int) := of_decide_eq_true (by first | (with_reducible assumption) | assumption)
          have q423 : x5_2 < (l1_0.length : Int) := of_decide_eq_true (by first | (with_reducible assumption) | assumption)
          obtain ⟨ad423, e423, hx423_0, hx423_1, hx423_2⟩ := at_T56 HR1_0.out x5_2 p423 q423
          cases e423
          replace hx423_0 := (HB.out.cell (World.block_lt_of_cell? w _ hx423_0)).trans hx423_0
          replace hx423_1 := (HB.out.cell (World.block_lt_of_cell? w _ hx423_1)).trans hx423_1
          replace hx423_2 := (HB.out.cell (World.block_lt_of_cell? w _ hx423_2)).trans hx423_2
          replace p423 := eq_true p423
          replace q423 := eq_true q423
          go_wp2
          repeat (go_quiet (fail); try go_wp2)
          go_roundg k2
          case measure => have := HJ2.out; have := HK2.out; omega
          case rel => exact ⟨(wrap64 (x5_2 + 1)), (by first | rfl | (simp; done) | (simp [*]; done)), H', ⟨by have := HJ2.out; have := HK2.out; omega⟩, ⟨by (with_reducible repeat (first | refine blk_drewN ?_ _ | refine blk_drew ?_ | refine blk_alloc ?_ _)); exact BK418.out⟩, ⟨by (with_reducible repeat (first | refine blk_drewN ?_ _ | refine blk_drew ?_ | refine blk_alloc ?_ _)); exact BK419.out⟩, ⟨by repeat (first | (with_reducible first | exact HB.out | apply below_alloc | apply pw_below_drewN | apply below_drew1 | refine below_set ?_ GE418.out | refine below_set ?_ GE419.out) | exact HB.out)⟩⟩
        ·
         rw [if_neg c30] at H
         exact absurd H (by simp)
       ·
        rw [if_neg c29] at H
        exact absurd H (by simp)
      ·
       rw [if_neg c28] at H
       have c28b0 : decide (x5_2 < (l0_0.length : Int)) = false := decide_eq_false c28
       clear c28
       have H' := Aside0.mk H
       clear H
       have hnb38 := NB418_419.out
       have hnc38 := NB419_418.out
       have hcz39_0 : wr.cell? ⟨gb418, 0, none⟩ = some (.slice A0_0 l0_0.length c0_0) := (blk_cell BK418.out 0).trans rfl
       have hcz39_1 : wr.cell? ⟨gb418, 1, none⟩ = some (.slice A0_1 l0_1.length c0_1) := (blk_cell BK418.out 1).trans rfl
       have hcz39_2 : wr.cell? ⟨gb418, 2, none⟩ = some (.slice A0_2 l0_2.length c0_2) := (blk_cell BK418.out 2).trans rfl
       have hcz39_3 : wr.cell? ⟨gb418, 3, none⟩ = some (.slice A0_3 l0_3.length c0_3) := (blk_cell BK418.out 3).trans rfl
       have hcz39_4 : wr.cell? ⟨gb418, 4, none⟩ = some (.slice A0_4 l0_4.length c0_4) := (blk_cell BK418.out 4).trans rfl
       have hfz39_0 := blk_frozen BK418.out 0
       have hfz39_1 := blk_frozen BK418.out 1
       have hfz39_2 := blk_frozen BK418.out 2
       have hfz39_3 := blk_frozen BK418.out 3
       have hfz39_4 := blk_frozen BK418.out 4
       go_wp2
       repeat (go_quiet (fail); try go_wp2)
       go_loopg [6] k2 (fun kq v6 w' => ∃ (x6_3 : Int), v6 = .int .i64 x6_3 ∧ Aside0 (longcaseref06_Same.l1 kq x6_3 l0_0 l0_1 l0_2 l0_3 l0_4 l1_0 l1_1 l1_2 l1_3 l1_4 = some r) ∧ Aside0 (kq ≤ k2) ∧ Aside0 (w'.heap[gb418]? = some (.cells #[(.slice A0_0 l0_0.length c0_0), (.slice A0_1 l0_1.length c0_1), (.slice A0_2 l0_2.length c0_2), (.slice A0_3 l0_3.length c0_3), (.slice A0_4 l0_4.length c0_4)] 31 (0, 0))) ∧ Aside0 (w'.heap[gb419]? = some (.cells #[(.slice A1_0 l1_0.length c1_0), (.slice A1_1 l1_1.length c1_1), (.slice A1_2 l1_2.length c1_2), (.slice A1_3 l1_3.length c1_3), (.slice A1_4 l1_4.length c1_4)] 31 (0, 0))) ∧ Aside0 (Below w.heap.size w w'))
       case atStart => exact ⟨(0), (by first | rfl | (simp; done) | (simp [*]; done)), H', ⟨Nat.le_refl _⟩, ⟨by (with_reducible repeat (first | refine blk_drewN ?_ _ | refine blk_drew ?_ | refine blk_alloc ?_ _)); exact BK418.out⟩, ⟨by (with_reducible repeat (first | refine blk_drewN ?_ _ | refine blk_drew ?_ | refine blk_alloc ?_ _)); exact BK419.out⟩, ⟨by repeat (first | (with_reducible first | exact HB.out | apply below_alloc | apply pw_below_drewN | apply below_drew1 | refine below_set ?_ GE418.out | refine below_set ?_ GE419.out) | exact HB.out)⟩⟩
       case round =>
        clear H'
        try clear c1
        try clear c2
        try clear p2
        try clear c3
        try clear p4
        try clear q4
        try clear hx4
        try clear c6
        try clear c6b0
        try clear c6b1
        try clear c6b2
        try clear p6
        try clear c7
        try clear c7b0
        try clear c7b1
        try clear c7b2
        try clear c8
        try clear c8b0
        try clear c8b1
        try clear c8b2
        try clear c10
        try clear c12
        try clear c15
        try clear c18
        try clear c21
        try clear c23
        try clear c24
        try clear c27
        try clear c28
        try clear c28b0
        try clear c29
        try clear c29b0
        try clear c30
        try clear c30b0
        try clear c31
        try clear c31b0
        try clear c32
        try clear c35
        try clear c38
        try clear hcz13_0
        try clear hcz13_1
        try clear hcz13_2
        try clear hcz13_3
        try clear hcz13_4
        try clear hcz14_0
        try clear hcz14_1
        try clear hcz14_2
        try clear hcz14_3
        try clear hcz14_4
        try clear hcz16_0
        try clear hcz16_1
        try clear hcz16_2
        try clear hcz16_3
        try clear hcz16_4
        try clear hcz17_0
        try clear hcz17_1
        try clear hcz17_2
        try clear hcz17_3
        try clear hcz17_4
        try clear hcz19_0
        try clear hcz19_1
        try clear hcz19_2
        try clear hcz19_3
        try clear hcz19_4
        try clear hcz20_0
        try clear hcz20_1
        try clear hcz20_2
        try clear hcz20_3
        try clear hcz20_4
        try clear hcz22_0
        try clear hcz22_1
        try clear hcz22_2
        try clear hcz22_3
        try clear hcz22_4
        try clear hcz23_0
        try clear hcz23_1
        try clear hcz23_2
        try clear hcz23_3
        try clear hcz23_4
        try clear hcz25_0
        try clear hcz25_1
        try clear hcz25_2
        try clear hcz25_3
        try clear hcz25_4
        try clear hcz26_0
        try clear hcz26_1
        try clear hcz26_2
        try clear hcz26_3
        try clear hcz26_4
        try clear hcz33_0
        try clear hcz33_1
        try clear hcz33_2
        try clear hcz33_3
        try clear hcz33_4
        try clear hcz34_0
        try clear hcz34_1
        try clear hcz34_2
        try clear hcz34_3
        try clear hcz34_4
        try clear hcz36_0
        try clear hcz36_1
        try clear hcz36_2
        try clear hcz36_3
        try clear hcz36_4
        try clear hcz37_0
        try clear hcz37_1
        try clear hcz37_2
        try clear hcz37_3
        try clear hcz37_4
        try clear hcz39_0
        try clear hcz39_1
        try clear hcz39_2
        try clear hcz39_3
        try clear hcz39_4
        try clear hfz13_0
        try clear hfz13_1
        try clear hfz13_2
        try clear hfz13_3
        try clear hfz13_4
        try clear hfz14_0
        try clear hfz14_1
        try clear hfz14_2
        try clear hfz14_3
        try clear hfz14_4
        try clear hfz16_0
        try clear hfz16_1
        try clear hfz16_2
        try clear hfz16_3
        try clear hfz16_4
        try clear hfz17_0
        try clear hfz17_1
        try clear hfz17_2
        try clear hfz17_3
        try clear hfz17_4
        try clear hfz19_0
        try clear hfz19_1
        try clear hfz19_2
        try clear hfz19_3
        try clear hfz19_4
        try clear hfz20_0
        try clear hfz20_1
        try clear hfz20_2
        try clear hfz20_3
        try clear hfz20_4
        try clear hfz22_0
        try clear hfz22_1
        try clear hfz22_2
        try clear hfz22_3
        try clear hfz22_4
        try clear hfz23_0
        try clear hfz23_1
        try clear hfz23_2
        try clear hfz23_3
        try clear hfz23_4
        try clear hfz25_0
        try clear hfz25_1
        try clear hfz25_2
        try clear hfz25_3
        try clear hfz25_4
        try clear hfz26_0
        try clear hfz26_1
        try clear hfz26_2
        try clear hfz26_3
        try clear hfz26_4
        try clear hfz33_0
        try clear hfz33_1
        try clear hfz33_2
        try clear hfz33_3
        try clear hfz33_4
        try clear hfz34_0
        try clear hfz34_1
        try clear hfz34_2
        try clear hfz34_3
        try clear hfz34_4
        try clear hfz36_0
        try clear hfz36_1
        try clear hfz36_2
        try clear hfz36_3
        try clear hfz36_4
        try clear hfz37_0
        try clear hfz37_1
        try clear hfz37_2
        try clear hfz37_3
        try clear hfz37_4
        try clear hfz39_0
        try clear hfz39_1
        try clear hfz39_2
        try clear hfz39_3
        try clear hfz39_4
        try clear hx422_0
        try clear hx422_1
        try clear hx422_2
        try clear hx423_0
        try clear hx423_1
        try clear hx423_2
        try clear p2
        try clear p422
        try clear p423
        try clear q422
        try clear q423
        obtain ⟨x6_3, rfl, HA, HK3, BK418, BK419, HB⟩ := hrel
        cases gk with
        | zero => exact absurd HA.out (by simp [longcaseref06_Same.l1])
        | succ k3 =>
         have H := HA.out
         clear HA
         simp only [longcaseref06_Same.l1] at H
         by_cases c40 : x6_3 < (l0_1.length : Int)
         ·
          rw [if_pos c40] at H
          have c40b0 : decide (x6_3 < (l0_1.length : Int)) = true := decide_eq_true c40
          clear c40
          by_cases c41 : 0 ≤ x6_3
          ·
           rw [if_pos c41] at H
           have c41b0 : decide (0 ≤ x6_3) = true := decide_eq_true c41
           clear c41
           by_cases c42 : x6_3 < (l1_1.length : Int)
           ·
            rw [if_pos c42] at H
            have c42b0 : decide (x6_3 < (l1_1.length : Int)) = true := decide_eq_true c42
            clear c42
            by_cases c43 : (!(((rd_T54 l0_1 x6_3).f0) == ((rd_T54 l1_1 x6_3).f0)) || (!(((rd_T54 l0_1 x6_3).f1) == ((rd_T54 l1_1 x6_3).f1)))) = true
            ·
             rw [if_pos c43] at H
             have c43b0 : (!(((rd_T54 l0_1 x6_3).f0) == ((rd_T54 l1_1 x6_3).f0)) || (!(((rd_T54 l0_1 x6_3).f1) == ((rd_T54 l1_1 x6_3).f1)))) = true := c43
             clear c43
             obtain rfl := Option.some.inj H
             have hnb44 := NB418_419.out
             have hnc44 := NB419_418.out
             have hcz45_0 : wr.cell? ⟨gb418, 0, none⟩ = some (.slice A0_0 l0_0.length c0_0) := (blk_cell BK418.out 0).trans rfl
             have hcz45_1 : wr.cell? ⟨gb418, 1, none⟩ = some (.slice A0_1 l0_1.length c0_1) := (blk_cell BK418.out 1).trans rfl
             have hcz45_2 : wr.cell? ⟨gb418, 2, none⟩ = some (.slice A0_2 l0_2.length c0_2) := (blk_cell BK418.out 2).trans rfl
             have hcz45_3 : wr.cell? ⟨gb418, 3, none⟩ = some (.slice A0_3 l0_3.length c0_3) := (blk_cell BK418.out 3).trans rfl
             have hcz45_4 : wr.cell? ⟨gb418, 4, none⟩ = some (.slice A0_4 l0_4.length c0_4) := (blk_cell BK418.out 4).trans rfl
             have hfz45_0 := blk_frozen BK418.out 0
             have hfz45_1 := blk_frozen BK418.out 1
             have hfz45_2 := blk_frozen BK418.out 2
             have hfz45_3 := blk_frozen BK418.out 3
             have hfz45_4 := blk_frozen BK418.out 4
             have p424 : 0 ≤ (x6_3 : Int) := of_decide_eq_true (by first | (with_reducible assumption) | assumption)
             have q424 : x6_3 < (l0_1.length : Int) := of_decide_eq_true (by first | (with_reducible assumption) | assumption)
             obtain ⟨ad424, e424, hx424_0, hx424_1⟩ := at_T54 HR0_1.out x6_3 p424 q424
             cases e424
             replace hx424_0 := (HB.out.cell (World.block_lt_of_cell? w _ hx424_0)).trans hx424_0
             replace hx424_1 := (HB.out.cell (World.block_lt_of_cell? w _ hx424_1)).trans hx424_1
             replace p424 := eq_true p424
             replace q424 := eq_true q424
             have hcz46_0 : wr.cell? ⟨gb419, 0, none⟩ = some (.slice A1_0 l1_0.length c1_0) := (blk_cell BK419.out 0).trans rfl
             have hcz46_1 : wr.cell? ⟨gb419, 1, none⟩ = some (.slice A1_1 l1_1.length c1_1) := (blk_cell BK419.out 1).trans rfl
             have hcz46_2 : wr.cell? ⟨gb419, 2, none⟩ = some (.slice A1_2 l1_2.length c1_2) := (blk_cell BK419.out 2).trans rfl
             have hcz46_3 : wr.cell? ⟨gb419, 3, none⟩ = some (.slice A1_3 l1_3.length c1_3) := (blk_cell BK419.out 3).trans rfl
             have hcz46_4 : wr.cell? ⟨gb419, 4, none⟩ = some (.slice A1_4 l1_4.length c1_4) := (blk_cell BK419.out 4).trans rfl
             have hfz46_0 := blk_frozen BK419.out 0
             have hfz46_1 := blk_frozen BK419.out 1
             have hfz46_2 := blk_frozen BK419.out 2
             have hfz46_3 := blk_frozen BK419.out 3
             have hfz46_4 := blk_frozen BK419.out 4
             have p425 : 0 ≤ (x6_3 : Int) := of_decide_eq_true (by first | (with_reducible assumption) | assumption)
             have q425 : x6_3 < (l1_1.length : Int) := of_decide_eq_true (by first | (with_reducible assumption) | assumption)
             obtain ⟨ad425, e425, hx425_0, hx425_1⟩ := at_T54 HR1_1.out x6_3 p425 q425
             cases e425
             replace hx425_0 := (HB.out.cell (World.block_lt_of_cell? w _ hx425_0)).trans hx425_0
             replace hx425_1 := (HB.out.cell (World.block_lt_of_cell? w _ hx425_1)).trans hx425_1
             replace p425 := eq_true p425
             replace q425 := eq_true q425
             go_wp2
             repeat (go_quiet (fail); try go_wp2)
             go_ret
             exact ⟨by first | rfl | (simp [errW_none, errW_some] <;> rfl) | (simp [*, errW_none, errW_some] <;> rfl), by repeat (first | (with_reducible first | exact HB.out | apply below_alloc | apply pw_below_drewN | apply below_drew1 | refine below_set ?_ GE418.out | refine below_set ?_ GE419.out) | exact HB.out)⟩
            ·
             rw [if_neg c43] at H
             have c43b0 : (!(((rd_T54 l0_1 x6_3).f0) == ((rd_T54 l1_1 x6_3).f0)) || (!(((rd_T54 l0_1 x6_3).f1) == ((rd_T54 l1_1 x6_3).f1)))) = false := by simpa using c43
             clear c43
             have H' := Aside0.mk H
             clear H
             have hnb47 := NB418_419.out
             have hnc47 := NB419_418.out
             have hcz48_0 : wr.cell? ⟨gb418, 0, none⟩ = some (.slice A0_0 l0_0.length c0_0) := (blk_cell BK418.out 0).trans rfl
             have hcz48_1 : wr.cell? ⟨gb418, 1, none⟩ = some (.slice A0_1 l0_1.length c0_1) := (blk_cell BK418.out 1).trans rfl
             have hcz48_2 : wr.cell? ⟨gb418, 2, none⟩ = some (.slice A0_2 l0_2.length c0_2) := (blk_cell BK418.out 2).trans rfl
             have hcz48_3 : wr.cell? ⟨gb418, 3, none⟩ = some (.slice A0_3 l0_3.length c0_3) := (blk_cell BK418.out 3).trans rfl
             have hcz48_4 : wr.cell? ⟨gb418, 4, none⟩ = some (.slice A0_4 l0_4.length c0_4) := (blk_cell BK418.out 4).trans rfl
             have hfz48_0 := blk_frozen BK418.out 0
             have hfz48_1 := blk_frozen BK418.out 1
             have hfz48_2 := blk_frozen BK418.out 2
             have hfz48_3 := blk_frozen BK418.out 3
             have hfz48_4 := blk_frozen BK418.out 4
             have p424 : 0 ≤ (x6_3 : Int) := of_decide_eq_true (by first | (with_reducible assumption) | assumption)
             have q424 : x6_3 < (l0_1.length : Int) := of_decide_eq_true (by first | (with_reducible assumption) | assumption)
             obtain ⟨ad424, e424, hx424_0, hx424_1⟩ := at_T54 HR0_1.out x6_3 p424 q424
             cases e424
             replace hx424_0 := (HB.out.cell (World.block_lt_of_cell? w _ hx424_0)).trans hx424_0
             replace hx424_1 := (HB.out.cell (World.block_lt_of_cell? w _ hx424_1)).trans hx424_1
             replace p424 := eq_true p424
             replace q424 := eq_true q424
             have hcz49_0 : wr.cell? ⟨gb419, 0, none⟩ = some (.slice A1_0 l1_0.length c1_0) := (blk_cell BK419.out 0).trans rfl
             have hcz49_1 : wr.cell? ⟨gb419, 1, none⟩ = some (.slice A1_1 l1_1.length c1_1) := (blk_cell BK419.out 1).trans rfl
             have hcz49_2 : wr.cell? ⟨gb419, 2, none⟩ = some (.slice A1_2 l1_2.length c1_2) := (blk_cell BK419.out 2).trans rfl
             have hcz49_3 : wr.cell? ⟨gb419, 3, none⟩ = some (.slice A1_3 l1_3.length c1_3) := (blk_cell BK419.out 3).trans rfl
             have hcz49_4 : wr.cell? ⟨gb419, 4, none⟩ = some (.slice A1_4 l1_4.length c1_4) := (blk_cell BK419.out 4).trans rfl
             have hfz49_0 := blk_frozen BK419.out 0
             have hfz49_1 := blk_frozen BK419.out 1
             have hfz49_2 := blk_frozen BK419.out 2
             have hfz49_3 := blk_frozen BK419.out 3
             have hfz49_4 := blk_frozen BK419.out 4
             have p425 : 0 ≤ (x6_3 : Int) := of_decide_eq_true (by first | (with_reducible assumption) | assumption)
             have q425 : x6_3 < (l1_1.length : Int) := of_decide_eq_true (by first | (with_reducible assumption) | assumption)
             obtain ⟨ad425, e425, hx425_0, hx425_1⟩ := at_T54 HR1_1.out x6_3 p425 q425
             cases e425
             replace hx425_0 := (HB.out.cell (World.block_lt_of_cell? w _ hx425_0)).trans hx425_0
             replace hx425_1 := (HB.out.cell (World.block_lt_of_cell? w _ hx425_1)).trans hx425_1
             replace p425 := eq_true p425
             replace q425 := eq_true q425
             go_wp2
             repeat (go_quiet (fail); try go_wp2)
             go_roundg k3
             case measure => have := HJ2.out; have := HK2.out; have := HK3.out; omega
             case rel => exact ⟨(wrap64 (x6_3 + 1)), (by first | rfl | (simp; done) | (simp [*]; done)), H', ⟨by have := HJ2.out; have := HK2.out; have := HK3.out; omega⟩, ⟨by (with_reducible repeat (first | refine blk_drewN ?_ _ | refine blk_drew ?_ | refine blk_alloc ?_ _)); exact BK418.out⟩, ⟨by (with_reducible repeat (first | refine blk_drewN ?_ _ | refine blk_drew ?_ | refine blk_alloc ?_ _)); exact BK419.out⟩, ⟨by repeat (first | (with_reducible first | exact HB.out | apply below_alloc | apply pw_below_drewN | apply below_drew1 | refine below_set ?_ GE418.out | refine below_set ?_ GE419.out) | exact HB.out)⟩⟩
           ·
            rw [if_neg c42] at H
            exact absurd H (by simp)
          ·
           rw [if_neg c41] at H
           exact absurd H (by simp)
         ·
          rw [if_neg c40] at H
          have c40b0 : decide (x6_3 < (l0_1.length : Int)) = false := decide_eq_false c40
          clear c40
          have H' := Aside0.mk H
          clear H
          have hnb50 := NB418_419.out
          have hnc50 := NB419_418.out
          have hcz51_0 : wr.cell? ⟨gb418, 0, none⟩ = some (.slice A0_0 l0_0.length c0_0) := (blk_cell BK418.out 0).trans rfl
          have hcz51_1 : wr.cell? ⟨gb418, 1, none⟩ = some (.slice A0_1 l0_1.length c0_1) := (blk_cell BK418.out 1).trans rfl
          have hcz51_2 : wr.cell? ⟨gb418, 2, none⟩ = some (.slice A0_2 l0_2.length c0_2) := (blk_cell BK418.out 2).trans rfl
          have hcz51_3 : wr.cell? ⟨gb418, 3, none⟩ = some (.slice A0_3 l0_3.length c0_3) := (blk_cell BK418.out 3).trans rfl
          have hcz51_4 : wr.cell? ⟨gb418, 4, none⟩ = some (.slice A0_4 l0_4.length c0_4) := (blk_cell BK418.out 4).trans rfl
          have hfz51_0 := blk_frozen BK418.out 0
          have hfz51_1 := blk_frozen BK418.out 1
          have hfz51_2 := blk_frozen BK418.out 2
          have hfz51_3 := blk_frozen BK418.out 3
          have hfz51_4 := blk_frozen BK418.out 4
          go_wp2
          repeat (go_quiet (fail); try go_wp2)
          go_loopg [7] k3 (fun kq v7 w' => ∃ (x7_4 : Int), v7 = .int .i64 x7_4 ∧ Aside0 (longcaseref06_Same.l2 kq x7_4 l0_0 l0_1 l0_2 l0_3 l0_4 l1_0 l1_1 l1_2 l1_3 l1_4 = some r) ∧ Aside0 (kq ≤ k3) ∧ Aside0 (w'.heap[gb418]? = some (.cells #[(.slice A0_0 l0_0.length c0_0), (.slice A0_1 l0_1.length c0_1), (.slice A0_2 l0_2.length c0_2), (.slice A0_3 l0_3.length c0_3), (.slice A0_4 l0_4.length c0_4)] 31 (0, 0))) ∧ Aside0 (w'.heap[gb419]? = some (.cells #[(.slice A1_0 l1_0.length c1_0), (.slice A1_1 l1_1.length c1_1), (.slice A1_2 l1_2.length c1_2), (.slice A1_3 l1_3.length c1_3), (.slice A1_4 l1_4.length c1_4)] 31 (0, 0))) ∧ Aside0 (Below w.heap.size w w'))
          case atStart => exact ⟨(0), (by first | rfl | (simp; done) | (simp [*]; done)), H', ⟨Nat.le_refl _⟩, ⟨by (with_reducible repeat (first | refine blk_drewN ?_ _ | refine blk_drew ?_ | refine blk_alloc ?_ _)); exact BK418.out⟩, ⟨by (with_reducible repeat (first | refine blk_drewN ?_ _ | refine blk_drew ?_ | refine blk_alloc ?_ _)); exact BK419.out⟩, ⟨by repeat (first | (with_reducible first | exact HB.out | apply below_alloc | apply pw_below_drewN | apply below_drew1 | refine below_set ?_ GE418.out | refine below_set ?_ GE419.out) | exact HB.out)⟩⟩
          case round =>
           clear H'
           try clear c1
           try clear c2
           try clear p2
           try clear c3
           try clear c4
           try clear p4
           try clear q4
           try clear hx4
           try clear c5
           try clear c6
           try clear c6b0
           try clear c6b1
           try clear c6b2
           try clear p6
           try clear c7
           try clear c7b0
           try clear c7b1
           try clear c7b2
           try clear c8
           try clear c8b0
           try clear c8b1
           try clear c8b2
           try clear c10
           try clear c12
           try clear c15
           try clear c18
           try clear c21
           try clear c23
           try clear c24
           try clear c27
           try clear c28
           try clear c28b0
           try clear c29
           try clear c29b0
           try clear c30
           try clear c30b0
           try clear c31
           try clear c31b0
           try clear c32
           try clear c35
           try clear c38
           try clear c40
           try clear c40b0
           try clear c41
           try clear c41b0
           try clear c42
           try clear c42b0
           try clear p42
           try clear q42
           try clear hx42
           try clear c43
           try clear c43b0
           try clear c44
           try clear c47
           try clear c50
           try clear hcz13_0
           try clear hcz13_1
           try clear hcz13_2
           try clear hcz13_3
           try clear hcz13_4
           try clear hcz14_0
           try clear hcz14_1
           try clear hcz14_2
           try clear hcz14_3
           try clear hcz14_4
           try clear hcz16_0
           try clear hcz16_1
           try clear hcz16_2
           try clear hcz16_3
           try clear hcz16_4
           try clear hcz17_0
           try clear hcz17_1
           try clear hcz17_2
           try clear hcz17_3
           try clear hcz17_4
           try clear hcz19_0
           try clear hcz19_1
           try clear hcz19_2
           try clear hcz19_3
           try clear hcz19_4
           try clear hcz20_0
           try clear hcz20_1
           try clear hcz20_2
           try clear hcz20_3
           try clear hcz20_4
           try clear hcz22_0
           try clear hcz22_1
           try clear hcz22_2
           try clear hcz22_3
           try clear hcz22_4
           try clear hcz23_0
           try clear hcz23_1
           try clear hcz23_2
           try clear hcz23_3
           try clear hcz23_4
           try clear hcz25_0
           try clear hcz25_1
           try clear hcz25_2
           try clear hcz25_3
           try clear hcz25_4
           try clear hcz26_0
           try clear hcz26_1
           try clear hcz26_2
           try clear hcz26_3
           try clear hcz26_4
           try clear hcz33_0
           try clear hcz33_1
           try clear hcz33_2
           try clear hcz33_3
           try clear hcz33_4
           try clear hcz34_0
           try clear hcz34_1
           try clear hcz34_2
           try clear hcz34_3
           try clear hcz34_4
           try clear hcz36_0
           try clear hcz36_1
           try clear hcz36_2
           try clear hcz36_3
           try clear hcz36_4
           try clear hcz37_0
           try clear hcz37_1
           try clear hcz37_2
           try clear hcz37_3
           try clear hcz37_4
           try clear hcz39_0
           try clear hcz39_1
           try clear hcz39_2
           try clear hcz39_3
           try clear hcz39_4
           try clear hcz45_0
           try clear hcz45_1
           try clear hcz45_2
           try clear hcz45_3
           try clear hcz45_4
           try clear hcz46_0
           try clear hcz46_1
           try clear hcz46_2
           try clear hcz46_3
           try clear hcz46_4
           try clear hcz48_0
           try clear hcz48_1
           try clear hcz48_2
           try clear hcz48_3
           try clear hcz48_4
           try clear hcz49_0
           try clear hcz49_1
           try clear hcz49_2
           try clear hcz49_3
           try clear hcz49_4
           try clear hcz51_0
           try clear hcz51_1
           try clear hcz51_2
           try clear hcz51_3
           try clear hcz51_4
           try clear hfz13_0
           try clear hfz13_1
           try clear hfz13_2
           try clear hfz13_3
           try clear hfz13_4
           try clear hfz14_0
           try clear hfz14_1
           try clear hfz14_2
           try clear hfz14_3
           try clear hfz14_4
           try clear hfz16_0
           try clear hfz16_1
           try clear hfz16_2
           try clear hfz16_3
           try clear hfz16_4
           try clear hfz17_0
           try clear hfz17_1
           try clear hfz17_2
           try clear hfz17_3
           try clear hfz17_4
           try clear hfz19_0
           try clear hfz19_1
           try clear hfz19_2
           try clear hfz19_3
           try clear hfz19_4
           try clear hfz20_0
           try clear hfz20_1
           try clear hfz20_2
           try clear hfz20_3
           try clear hfz20_4
           try clear hfz22_0
           try clear hfz22_1
           try clear hfz22_2
           try clear hfz22_3
           try clear hfz22_4
           try clear hfz23_0
           try clear hfz23_1
           try clear hfz23_2
           try clear hfz23_3
           try clear hfz23_4
           try clear hfz25_0
           try clear hfz25_1
           try clear hfz25_2
           try clear hfz25_3
           try clear hfz25_4
           try clear hfz26_0
           try clear hfz26_1
           try clear hfz26_2
           try clear hfz26_3
           try clear hfz26_4
           try clear hfz33_0
           try clear hfz33_1
           try clear hfz33_2
           try clear hfz33_3
           try clear hfz33_4
           try clear hfz34_0
           try clear hfz34_1
           try clear hfz34_2
           try clear hfz34_3
           try clear hfz34_4
           try clear hfz36_0
           try clear hfz36_1
           try clear hfz36_2
           try clear hfz36_3
           try clear hfz36_4
           try clear hfz37_0
           try clear hfz37_1
           try clear hfz37_2
           try clear hfz37_3
           try clear hfz37_4
           try clear hfz39_0
           try clear hfz39_1
           try clear hfz39_2
           try clear hfz39_3
           try clear hfz39_4
           try clear hfz45_0
           try clear hfz45_1
           try clear hfz45_2
           try clear hfz45_3
           try clear hfz45_4
           try clear hfz46_0
           try clear hfz46_1
           try clear hfz46_2
           try clear hfz46_3
           try clear hfz46_4
           try clear hfz48_0
           try clear hfz48_1
           try clear hfz48_2
           try clear hfz48_3
           try clear hfz48_4
           try clear hfz49_0
           try clear hfz49_1
           try clear hfz49_2
           try clear hfz49_3
           try clear hfz49_4
           try clear hfz51_0
           try clear hfz51_1
           try clear hfz51_2
           try clear hfz51_3
           try clear hfz51_4
           try clear hx422_0
           try clear hx422_1
           try clear hx422_2
           try clear hx423_0
           try clear hx423_1
           try clear hx423_2
           try clear hx424_0
           try clear hx424_1
           try clear hx425_0
           try clear hx425_1
           try clear p2
           try clear p4
           try clear p422
           try clear p423
           try clear p424
           try clear p425
           try clear p6
           try clear q4
           try clear q422
           try clear q423
           try clear q424
           try clear q425
           obtain ⟨x7_4, rfl, HA, HK4, BK418, BK419, HB⟩ := hrel
           cases gk with
           | zero => exact absurd HA.out (by simp [longcaseref06_Same.l2])
           | succ k4 =>
            have H := HA.out
            clear HA
            simp only [longcaseref06_Same.l2] at H
            by_cases c52 : x7_4 < (l0_2.length : Int)
            ·
             rw [if_pos c52] at H
             have c52b0 : decide (x7_4 < (l0_2.length : Int)) = true := decide_eq_true c52
             clear c52
             by_cases c53 : 0 ≤ x7_4
             ·
              rw [if_pos c53] at H
              have c53b0 : decide (0 ≤ x7_4) = true := decide_eq_true c53
              clear c53
              by_cases c54 : x7_4 < (l1_2.length : Int)
              ·
               rw [if_pos c54] at H
               have c54b0 : decide (x7_4 < (l1_2.length : Int)) = true := decide_eq_true c54
               clear c54
               by_cases c55 : (!(((rd_T87 l0_2 x7_4).f0) == ((rd_T87 l1_2 x7_4).f0)) || (!(((rd_T87 l0_2 x7_4).f1) == ((rd_T87 l1_2 x7_4).f1)))) = true
               ·
                rw [if_pos c55] at H
                have c55b0 : (!(((rd_T87 l0_2 x7_4).f0) == ((rd_T87 l1_2 x7_4).f0)) || (!(((rd_T87 l0_2 x7_4).f1) == ((rd_T87 l1_2 x7_4).f1)))) = true := c55
                clear c55
                obtain rfl := Option.some.inj H
                have hnb56 := NB418_419.out
                have hnc56 := NB419_418.out
                have hcz57_0 : wr.cell? ⟨gb418, 0, none⟩ = some (.slice A0_0 l0_0.length c0_0) := (blk_cell BK418.out 0).trans rfl
                have hcz57_1 : wr.cell? ⟨gb418, 1, none⟩ = some (.slice A0_1 l0_1.length c0_1) := (blk_cell BK418.out 1).trans rfl
                have hcz57_2 : wr.cell? ⟨gb418, 2, none⟩ = some (.slice A0_2 l0_2.length c0_2) := (blk_cell BK418.out 2).trans rfl
                have hcz57_3 : wr.cell? ⟨gb418, 3, none⟩ = some (.slice A0_3 l0_3.length c0_3) := (blk_cell BK418.out 3).trans rfl
                have hcz57_4 : wr.cell? ⟨gb418, 4, none⟩ = some (.slice A0_4 l0_4.length c0_4) := (blk_cell BK418.out 4).trans rfl
                have hfz57_0 := blk_frozen BK418.out 0
                have hfz57_1 := blk_frozen BK418.out 1
                have hfz57_2 := blk_frozen BK418.out 2
                have hfz57_3 := blk_frozen BK418.out 3
                have hfz57_4 := blk_frozen BK418.out 4
                have p426 : 0 ≤ (x7_4 : Int) := of_decide_eq_true (by first | (with_reducible assumption) | assumption)
                have q426 : x7_4 < (l0_2.length : Int) := of_decide_eq_true (by first | (with_reducible assumption) | assumption)
                obtain ⟨ad426, e426, hx426_0, hx426_1⟩ := at_T87 HR0_2.out x7_4 p426 q426
                cases e426
                replace hx426_0 := (HB.out.cell (World.block_lt_of_cell? w _ hx426_0)).trans hx426_0
                replace hx426_1 := (HB.out.cell (World.block_lt_of_cell? w _ hx426_1)).trans hx426_1
                replace p426 := eq_true p426
                replace q426 := eq_true q426
                have hcz58_0 : wr.cell? ⟨gb419, 0, none⟩ = some (.slice A1_0 l1_0.length c1_0) := (blk_cell BK419.out 0).trans rfl
                have hcz58_1 : wr.cell? ⟨gb419, 1, none⟩ = some (.slice A1_1 l1_1.length c1_1) := (blk_cell BK419.out 1).trans rfl
                have hcz58_2 : wr.cell? ⟨gb419, 2, none⟩ = some (.slice A1_2 l1_2.length c1_2) := (blk_cell BK419.out 2).trans rfl
                have hcz58_3 : wr.cell? ⟨gb419, 3, none⟩ = some (.slice A1_3 l1_3.length c1_3) := (blk_cell BK419.out 3).trans rfl
                have hcz58_4 : wr.cell? ⟨gb419, 4, none⟩ = some (.slice A1_4 l1_4.length c1_4) := (blk_cell BK419.out 4).trans rfl
                have hfz58_0 := blk_frozen BK419.out 0
                have hfz58_1 := blk_frozen BK419.out 1
                have hfz58_2 := blk_frozen BK419.out 2
                have hfz58_3 := blk_frozen BK419.out 3
                have hfz58_4 := blk_frozen BK419.out 4
                have p427 : 0 ≤ (x7_4 : Int) := of_decide_eq_true (by first | (with_reducible assumption) | assumption)
                have q427 : x7_4 < (l1_2.length : Int) := of_decide_eq_true (by first | (with_reducible assumption) | assumption)
                obtain ⟨ad427, e427, hx427_0, hx427_1⟩ := at_T87 HR1_2.out x7_4 p427 q427
                cases e427
                replace hx427_0 := (HB.out.cell (World.block_lt_of_cell? w _ hx427_0)).trans hx427_0
                replace hx427_1 := (HB.out.cell (World.block_lt_of_cell? w _ hx427_1)).trans hx427_1
                replace p427 := eq_true p427
                replace q427 := eq_true q427
                go_wp2
                repeat (go_quiet (fail); try go_wp2)
                go_ret
                exact ⟨by first | rfl | (simp [errW_none, errW_some] <;> rfl) | (simp [*, errW_none, errW_some] <;> rfl), by repeat (first | (with_reducible first | exact HB.out | apply below_alloc | apply pw_below_drewN | apply below_drew1 | refine below_set ?_ GE418.out | refine below_set ?_ GE419.out) | exact HB.out)⟩
               ·
                rw [if_neg c55] at H
                have c55b0 : (!(((rd_T87 l0_2 x7_4).f0) == ((rd_T87 l1_2 x7_4).f0)) || (!(((rd_T87 l0_2 x7_4).f1) == ((rd_T87 l1_2 x7_4).f1)))) = false := by simpa using c55
                clear c55
                have H' := Aside0.mk H
                clear H
                have hnb59 := NB418_419.out
                have hnc59 := NB419_418.out
                have hcz60_0 : wr.cell? ⟨gb418, 0, none⟩ = some (.slice A0_0 l0_0.length c0_0) := (blk_cell BK418.out 0).trans rfl
                have hcz60_1 : wr.cell? ⟨gb418, 1, none⟩ = some (.slice A0_1 l0_1.length c0_1) := (blk_cell BK418.out 1).trans rfl
                have hcz60_2 : wr.cell? ⟨gb418, 2, none⟩ = some (.slice A0_2 l0_2.length c0_2) := (blk_cell BK418.out 2).trans rfl
                have hcz60_3 : wr.cell? ⟨gb418, 3, none⟩ = some (.slice A0_3 l0_3.length c0_3) := (blk_cell BK418.out 3).trans rfl
                have hcz60_4 : wr.cell? ⟨gb418, 4, none⟩ = some (.slice A0_4 l0_4.length c0_4) := (blk_cell BK418.out 4).trans rfl
                have hfz60_0 := blk_frozen BK418.out 0
                have hfz60_1 := blk_frozen BK418.out 1
                have hfz60_2 := blk_frozen BK418.out 2
                have hfz60_3 := blk_frozen BK418.out 3
                have hfz60_4 := blk_frozen BK418.out 4
                have p426 : 0 ≤ (x7_4 : Int) := of_decide_eq_true (by first | (with_reducible assumption) | assumption)
                have q426 : x7_4 < (l0_2.length : Int) := of_decide_eq_true (by first | (with_reducible assumption) | assumption)
                obtain ⟨ad426, e426, hx426_0, hx426_1⟩ := at_T87 HR0_2.out x7_4 p426 q426
                cases e426
                replace hx426_0 := (HB.out.cell (World.block_lt_of_cell? w _ hx426_0)).trans hx426_0
                replace hx426_1 := (HB.out.cell (World.block_lt_of_cell? w _ hx426_1)).trans hx426_1
                replace p426 := eq_true p426
                replace q426 := eq_true q426
                have hcz61_0 : wr.cell? ⟨gb419, 0, none⟩ = some (.slice A1_0 l1_0.length c1_0) := (blk_cell BK419.out 0).trans rfl
                have hcz61_1 : wr.cell? ⟨gb419, 1, none⟩ = some (.slice A1_1 l1_1.length c1_1) := (blk_cell BK419.out 1).trans rfl
                have hcz61_2 : wr.cell? ⟨gb419, 2, none⟩ = some (.slice A1_2 l1_2.length c1_2) := (blk_cell BK419.out 2).trans rfl
                have hcz61_3 : wr.cell? ⟨gb419, 3, none⟩ = some (.slice A1_3 l1_3.length c1_3) := (blk_cell BK419.out 3).trans rfl
                have hcz61_4 : wr.cell? ⟨gb419, 4, none⟩ = some (.slice A1_4 l1_4.length c1_4) := (blk_cell BK419.out 4).trans rfl
                have hfz61_0 := blk_frozen BK419.out 0
                have hfz61_1 := blk_frozen BK419.out 1
                have hfz61_2 := blk_frozen BK419.out 2
                have hfz61_3 := blk_frozen BK419.out 3
                have hfz61_4 := blk_frozen BK419.out 4
                have p427 : 0 ≤ (x7_4 : Int) := of_decide_eq_true (by first | (with_reducible assumption) | assumption)
                have q427 : x7_4 < (l1_2.length : Int) := of_decide_eq_true (by first | (with_reducible assumption) | assumption)
                obtain ⟨ad427, e427, hx427_0, hx427_1⟩ := at_T87 HR1_2.out x7_4 p427 q427
                cases e427
                replace hx427_0 := (HB.out.cell (World.block_lt_of_cell? w _ hx427_0)).trans hx427_0
                replace hx427_1 := (HB.out.cell (World.block_lt_of_cell? w _ hx427_1)).trans hx427_1
                replace p427 := eq_true p427
                replace q427 := eq_true q427
                go_wp2
                repeat (go_quiet (fail); try go_wp2)
                go_roundg k4
                case measure => have := HJ2.out; have := HK2.out; have := HK3.out; have := HK4.out; omega
                case rel => exact ⟨(wrap64 (x7_4 + 1)), (by first | rfl | (simp; done) | (simp [*]; done)), H', ⟨by have := HJ2.out; have := HK2.out; have := HK3.out; have := HK4.out; omega⟩, ⟨by (with_reducible repeat (first | refine blk_drewN ?_ _ | refine blk_drew ?_ | refine blk_alloc ?_ _)); exact BK418.out⟩, ⟨by (with_reducible repeat (first | refine blk_drewN ?_ _ | refine blk_drew ?_ | refine blk_alloc ?_ _)); exact BK419.out⟩, ⟨by repeat (first | (with_reducible first | exact HB.out | apply below_alloc | apply pw_below_drewN | apply below_drew1 | refine below_set ?_ GE418.out | refine below_set ?_ GE419.out) | exact HB.out)⟩⟩
              ·
               rw [if_neg c54] at H
               exact absurd H (by simp)
             ·
              rw [if_neg c53] at H
              exact absurd H (by simp)
            ·
             rw [if_neg c52] at H
             have c52b0 : decide (x7_4 < (l0_2.length : Int)) = false := decide_eq_false c52
             clear c52
             obtain rfl := Option.some.inj H
             have hnb62 := NB418_419.out
             have hnc62 := NB419_418.out
             have hcz63_0 : wr.cell? ⟨gb418, 0, none⟩ = some (.slice A0_0 l0_0.length c0_0) := (blk_cell BK418.out 0).trans rfl
             have hcz63_1 : wr.cell? ⟨gb418, 1, none⟩ = some (.slice A0_1 l0_1.length c0_1) := (blk_cell BK418.out 1).trans rfl
             have hcz63_2 : wr.cell? ⟨gb418, 2, none⟩ = some (.slice A0_2 l0_2.length c0_2) := (blk_cell BK418.out 2).trans rfl
             have hcz63_3 : wr.cell? ⟨gb418, 3, none⟩ = some (.slice A0_3 l0_3.length c0_3) := (blk_cell BK418.out 3).trans rfl
             have hcz63_4 : wr.cell? ⟨gb418, 4, none⟩ = some (.slice A0_4 l0_4.length c0_4) := (blk_cell BK418.out 4).trans rfl
             have hfz63_0 := blk_frozen BK418.out 0
             have hfz63_1 := blk_frozen BK418.out 1
             have hfz63_2 := blk_frozen BK418.out 2
             have hfz63_3 := blk_frozen BK418.out 3
             have hfz63_4 := blk_frozen BK418.out 4
             go_wp2
             repeat (go_quiet (fail); try go_wp2)
             go_ret
             exact ⟨by first | rfl | (simp [errW_none, errW_some] <;> rfl) | (simp [*, errW_none, errW_some] <;> rfl), by repeat (first | (with_reducible first | exact HB.out | apply below_alloc | apply pw_below_drewN | apply below_drew1 | refine below_set ?_ GE418.out | refine below_set ?_ GE419.out) | exact HB.out)⟩
end Go.Proofs.Ytdcgclhmfflheaa.PQ
