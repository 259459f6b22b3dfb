import Derived.Test.YtdcgclhmfflheaaXbwPQ0
import Derived.Test.YtdcgclhmfflheaaXbwPQf77
namespace Go.Proofs.Ytdcgclhmfflheaa.PQ
open Go.RowKit Go.Proofs.YtdcgclhmfflheaaW.PrintWords Go.Proofs.YtdcgclhmfflheaaW.PrintLast Go.Proofs.YtdcgclhmfflheaaW.PrintMore
attribute [local go_sem] max2_int min2_int max_two min_two max_three min_three max_four min_four
set_option linter.unusedVariables false
set_option linter.unusedSimpArgs false
mutual
def block_Block_leaped.l0 : Nat → Int → Int → List (S87) → Int → Int → List (S56) → List (S54) → List (S87) → List Bool → List Bool → Int → Int → Option (Bool)
 | 0, _, _, _, _, _, _, _, _, _, _, _, _ => none
 | k + 1, x1, x2, x14, x15, x16, x120000, x120001, x120002, x120003, x120004, x121000, x121001 => if x16 < x15 then (if 0 ≤ x16 then (if x16 < (x14.length : Int) then (if x2 = 4 then (if x16 > 0 then (if x16 = (wrap64 ((x120002.length : Int) - 1)) then (block_Block_leaped.j1 k x1 x2 (wrap64 (((rd_T87 x14 x16).f1) - x121001)) ((wrap64 (((rd_T87 x14 x16).f1) - x121001)) == 0) x14 x15 x16 x120000 x120001 x120002 x120003 x120004 x121000 x121001 ((rd_T87 x14 x16).f0) ((rd_T87 x14 x16).f1)) else (block_Block_leaped.j1 k x1 x2 (wrap64 (((rd_T87 x14 x16).f1) - x121001)) false x14 x15 x16 x120000 x120001 x120002 x120003 x120004 x121000 x121001 ((rd_T87 x14 x16).f0) ((rd_T87 x14 x16).f1))) else (block_Block_leaped.j1 k x1 x2 (wrap64 (((rd_T87 x14 x16).f1) - x121001)) false x14 x15 x16 x120000 x120001 x120002 x120003 x120004 x121000 x121001 ((rd_T87 x14 x16).f0) ((rd_T87 x14 x16).f1))) else (block_Block_leaped.j1 k x1 x2 (wrap64 (((rd_T87 x14 x16).f1) - x121001)) false x14 x15 x16 x120000 x120001 x120002 x120003 x120004 x121000 x121001 ((rd_T87 x14 x16).f0) ((rd_T87 x14 x16).f1))) else (none)) else (none)) else (some (decide ((x120002.length : Int) ≤ 5000)))
def block_Block_leaped.j1 : Nat → Int → Int → Int → Bool → List (S87) → Int → Int → List (S56) → List (S54) → List (S87) → List Bool → List Bool → Int → Int → Int → Int → Option (Bool)
 | 0, _, _, _, _, _, _, _, _, _, _, _, _, _, _, _, _ => none
 | k + 1, x1, x2, x10, x11, x14, x15, x16, x120000, x120001, x120002, x120003, x120004, x121000, x121001, x123000, x123001 => if x123000 ≤ x121000 then (block_Block_leaped.j2 k x1 x2 x14 x15 x16 true x120000 x120001 x120002 x120003 x120004 x123000 x123001) else (if x10 = 1 then ((block_fits.f x123000 x1).bind fun t123 => (block_Block_leaped.j2 k x1 x2 x14 x15 x16 (!t123) x120000 x120001 x120002 x120003 x120004 x123000 x123001)) else (if x10 = (-1) then ((block_fits.f x123000 x1).bind fun t124 => (block_Block_leaped.j2 k x1 x2 x14 x15 x16 (!t124) x120000 x120001 x120002 x120003 x120004 x123000 x123001)) else (if x11 = true then ((block_fits.f x123000 x1).bind fun t125 => (block_Block_leaped.j2 k x1 x2 x14 x15 x16 (!t125) x120000 x120001 x120002 x120003 x120004 x123000 x123001)) else (block_Block_leaped.j2 k x1 x2 x14 x15 x16 true x120000 x120001 x120002 x120003 x120004 x123000 x123001))))
def block_Block_leaped.j2 : Nat → Int → Int → List (S87) → Int → Int → Bool → List (S56) → List (S54) → List (S87) → List Bool → List Bool → Int → Int → Option (Bool)
 | 0, _, _, _, _, _, _, _, _, _, _, _, _, _ => none
 | k + 1, x1, x2, x14, x15, x16, x67, x120000, x120001, x120002, x120003, x120004, x123000, x123001 => if x67 = true then (some false) else (block_Block_leaped.l0 k x1 x2 x14 x15 (wrap64 (x16 + 1)) x120000 x120001 x120002 x120003 x120004 x123000 x123001)
end
def block_Block_leaped.f (k : Nat) (l0_0 : List (S56)) (l0_1 : List (S54)) (l0_2 : List (S87)) (l0_3 : List Bool) (l0_4 : List Bool) (a1 : Int) (a2 : Int) : Option (Bool) := block_Block_leaped.l0 k a1 a2 l0_2 (l0_2.length : Int) 0 l0_0 l0_1 l0_2 l0_3 l0_4 (-1) 0
set_option maxHeartbeats 8000000 in
set_option maxRecDepth 100000 in
theorem block_Block_leaped.calls (k : Nat) (A0_0 : Option Addr) (c0_0 : Nat) (l0_0 : List (S56)) (A0_1 : Option Addr) (c0_1 : Nat) (l0_1 : List (S54)) (A0_2 : Option Addr) (c0_2 : Nat) (l0_2 : List (S87)) (A0_3 : Option Addr) (c0_3 : Nat) (l0_3 : List Bool) (A0_4 : Option Addr) (c0_4 : Nat) (l0_4 : List Bool) (a1 : Int) (a2 : Int) (r : Bool) (w : World) (hr0_0 : Kd.C k56 w A0_0 l0_0.length l0_0) (hc0_0 : l0_0.length ≤ c0_0) (hr0_1 : Kd.C k54 w A0_1 l0_1.length l0_1) (hc0_1 : l0_1.length ≤ c0_1) (hr0_2 : Kd.C k87 w A0_2 l0_2.length l0_2) (hc0_2 : l0_2.length ≤ c0_2) (hr0_3 : Kd.C Kd.bool w A0_3 l0_3.length l0_3) (hc0_3 : l0_3.length ≤ c0_3) (hr0_4 : Kd.C Kd.bool w A0_4 l0_4.length l0_4) (hc0_4 : l0_4.length ≤ c0_4) (h : block_Block_leaped.f k l0_0 l0_1 l0_2 l0_3 l0_4 a1 a2 = some r) :
  Calls Try.prog 48 #[.agg #[.slice A0_0 l0_0.length c0_0, .slice A0_1 l0_1.length c0_1, .slice A0_2 l0_2.length c0_2, .slice A0_3 l0_3.length c0_3, .slice A0_4 l0_4.length c0_4], .int .i64 a1, .int .i64 a2] w fun e w' => e = .returned (.bool r) ∧ Below w.heap.size w w' := by
 have hu27 := Try.underlying27
 have hu87 := Try.underlying87
 have HR0_0 := Aside0.mk hr0_0
 have HC0_0 := Aside0.mk hc0_0
 clear hr0_0 hc0_0
 have HR0_1 := Aside0.mk hr0_1
 have HC0_1 := Aside0.mk hc0_1
 clear hr0_1 hc0_1
 have HR0_2 := Aside0.mk hr0_2
 have HC0_2 := Aside0.mk hc0_2
 clear hr0_2 hc0_2
 have HR0_3 := Aside0.mk hr0_3
 have HC0_3 := Aside0.mk hc0_3
 clear hr0_3 hc0_3
 have HR0_4 := Aside0.mk hr0_4
 have HC0_4 := Aside0.mk hc0_4
 clear hr0_4 hc0_4
 have HB := Aside0.mk (Below.refl w.heap.size w)
 have H : (block_Block_leaped.l0 k a1 a2 l0_2 (l0_2.length : Int) 0 l0_0 l0_1 l0_2 l0_3 l0_4 (-1) 0) = some r := h
 clear h
 have H' := Aside0.mk H
 clear H
 go_enter Try.func48, Try.ntmps48
 go_wp2_with (first | ((with_reducible refine gate_dst (N := 3) rfl ?_); (try (refine gate_guard (by rfl) ?_; dsimp only)); refine box_event ?hg (N := 3) ?hd (cs := #[.slice A0_0 l0_0.length c0_0, .slice A0_1 l0_1.length c0_1, .slice A0_2 l0_2.length c0_2, .slice A0_3 l0_3.length c0_3, .slice A0_4 l0_4.length c0_4]) (t := 27) ?hr ?_; (case hd => rfl); (case hg => rfl); (case hr => first | (go_simp; done) | (go_simp; rfl)); intro gb119 hg w4 hbox hb; have n0_ := Aside0.mk (below_step (by repeat (first | (with_reducible first | exact HB.out | apply below_alloc | apply pw_below_drewN | apply below_drew1) | exact HB.out)) hb); have n1_ := Aside0.mk (hbox); have n2_ := Aside0.mk ((by rw [hg]; exact (below_size (by repeat (first | (with_reducible first | exact HB.out | apply below_alloc | apply pw_below_drewN | apply below_drew1) | exact HB.out))) : w.heap.size ≤ gb119)); have n3_ := Aside0.mk ((by rw [hg]; exact (below_size (by repeat (first | (with_reducible first | exact HB.out | apply below_alloc | apply pw_below_drewN | apply below_drew1) | exact HB.out))) : w.heap.size ≤ gb119)); clear HB; have HB := n0_; have BK119 := n1_; have GW119 := n2_; have GE119 := n3_; clear n0_ n1_ n2_ n3_; clear hb hbox hg) | ((with_reducible refine gate_dst (N := 7) rfl ?_); (try (refine gate_guard (by rfl) ?_; dsimp only)); refine box_event ?hg (N := 7) ?hd (cs := #[.int .i64 0, .int .i64 0]) (t := 87) ?hr ?_; (case hd => rfl); (case hg => rfl); (case hr => first | (go_simp; done) | (go_simp; rfl)); intro gb120 hg w5 hbox hb; have n0_ := Aside0.mk (blk_below (g := gb119) (o := .cells #[.slice A0_0 l0_0.length c0_0, .slice A0_1 l0_1.length c0_1, .slice A0_2 l0_2.length c0_2, .slice A0_3 l0_3.length c0_3, .slice A0_4 l0_4.length c0_4] 27 (0, 0)) (by (with_reducible repeat (first | refine blk_drewN ?_ _ | refine blk_drew ?_ | refine blk_alloc ?_ _)); exact BK119.out) hb); have n1_ := Aside0.mk (below_step (by repeat (first | (with_reducible first | exact HB.out | apply below_alloc | apply pw_below_drewN | apply below_drew1 | refine below_set ?_ GE119.out) | exact HB.out)) hb); have n2_ := Aside0.mk (hbox); have n3_ := Aside0.mk ((by rw [hg]; exact (below_size (by repeat (first | (with_reducible first | exact HB.out | apply below_alloc | apply pw_below_drewN | apply below_drew1 | refine below_set ?_ GE119.out) | exact HB.out))) : w.heap.size ≤ gb120)); have n4_ := Aside0.mk ((by rw [hg]; exact (below_size (by repeat (first | (with_reducible first | exact HB.out | apply below_alloc | apply pw_below_drewN | apply below_drew1 | refine below_set ?_ GE119.out) | exact HB.out))) : w.heap.size ≤ gb120)); have n5_ := Aside0.mk ((by rw [hg]; exact Nat.ne_of_lt (blk_lt (g := gb119) (o := .cells #[.slice A0_0 l0_0.length c0_0, .slice A0_1 l0_1.length c0_1, .slice A0_2 l0_2.length c0_2, .slice A0_3 l0_3.length c0_3, .slice A0_4 l0_4.length c0_4] 27 (0, 0)) (by (with_reducible repeat (first | refine blk_drewN ?_ _ | refine blk_drew ?_ | refine blk_alloc ?_ _)); exact BK119.out)) : gb119 ≠ gb120)); have n6_ := Aside0.mk ((by rw [hg]; exact Nat.ne_of_gt (blk_lt (g := gb119) (o := .cells #[.slice A0_0 l0_0.length c0_0, .slice A0_1 l0_1.length c0_1, .slice A0_2 l0_2.length c0_2, .slice A0_3 l0_3.length c0_3, .slice A0_4 l0_4.length c0_4] 27 (0, 0)) (by (with_reducible repeat (first | refine blk_drewN ?_ _ | refine blk_drew ?_ | refine blk_alloc ?_ _)); exact BK119.out)) : gb120 ≠ gb119)); clear BK119; clear HB; have BK119 := n0_; have HB := n1_; have BK120 := n2_; have GW120 := n3_; have GE120 := n4_; have NB119_120 := n5_; have NB120_119 := n6_; clear n0_ n1_ n2_ n3_ n4_ n5_ n6_; clear hb hbox hg; have hnb6 := NB120_119.out; have hnc6 := NB119_120.out; have hcz7_0 : w5.cell? ⟨gb120, 0, none⟩ = some (.int .i64 0) := (blk_cell BK120.out 0).trans rfl; have hcz7_1 : w5.cell? ⟨gb120, 1, none⟩ = some (.int .i64 0) := (blk_cell BK120.out 1).trans rfl; have hfz7_0 := blk_frozen BK120.out 0; have hfz7_1 := blk_frozen BK120.out 1; have hcz8_0 : w5.cell? ⟨gb119, 0, none⟩ = some (.slice A0_0 l0_0.length c0_0) := (blk_cell BK119.out 0).trans rfl; have hcz8_1 : w5.cell? ⟨gb119, 1, none⟩ = some (.slice A0_1 l0_1.length c0_1) := (blk_cell BK119.out 1).trans rfl; have hcz8_2 : w5.cell? ⟨gb119, 2, none⟩ = some (.slice A0_2 l0_2.length c0_2) := (blk_cell BK119.out 2).trans rfl; have hcz8_3 : w5.cell? ⟨gb119, 3, none⟩ = some (.slice A0_3 l0_3.length c0_3) := (blk_cell BK119.out 3).trans rfl; have hcz8_4 : w5.cell? ⟨gb119, 4, none⟩ = some (.slice A0_4 l0_4.length c0_4) := (blk_cell BK119.out 4).trans rfl; have hfz8_0 := blk_frozen BK119.out 0; have hfz8_1 := blk_frozen BK119.out 1; have hfz8_2 := blk_frozen BK119.out 2; have hfz8_3 := blk_frozen BK119.out 3; have hfz8_4 := blk_frozen BK119.out 4))
 go_loopg [16] k (fun kq v16 w' => ∃ (x16_1 : Int) (x121000_1 : Int) (x121001_1 : Int), v16 = .int .i64 x16_1 ∧ Aside0 (block_Block_leaped.l0 kq a1 a2 l0_2 (l0_2.length : Int) x16_1 l0_0 l0_1 l0_2 l0_3 l0_4 x121000_1 x121001_1 = some r) ∧ Aside0 (kq ≤ k) ∧ Aside0 (w'.heap[gb119]? = some (.cells #[(.slice A0_0 l0_0.length c0_0), (.slice A0_1 l0_1.length c0_1), (.slice A0_2 l0_2.length c0_2), (.slice A0_3 l0_3.length c0_3), (.slice A0_4 l0_4.length c0_4)] 27 (0, 0))) ∧ Aside0 (w'.heap[gb120]? = some (.cells #[.int .i64 x121000_1, .int .i64 x121001_1] 87 (0, 0))) ∧ Aside0 (Below w.heap.size w w'))
 case atStart => exact ⟨(0), ((-1)), (0), (by first | rfl | (simp; done) | (simp [*]; done)), H', ⟨Nat.le_refl _⟩, ⟨by (with_reducible repeat (first | refine blk_drewN ?_ _ | refine blk_drew ?_ | refine blk_alloc ?_ _)); refine blk_far ?_ NB119_120.out _; (with_reducible repeat (first | refine blk_drewN ?_ _ | refine blk_drew ?_ | refine blk_alloc ?_ _)); refine blk_far ?_ NB119_120.out _; (with_reducible repeat (first | refine blk_drewN ?_ _ | refine blk_drew ?_ | refine blk_alloc ?_ _)); exact BK119.out⟩, ⟨by (with_reducible repeat (first | refine blk_drewN ?_ _ | refine blk_drew ?_ | refine blk_alloc ?_ _)); refine blk_put (cs := #[.int .i64 (-1), .int .i64 0]) ?_ 1 _ rfl; (with_reducible repeat (first | refine blk_drewN ?_ _ | refine blk_drew ?_ | refine blk_alloc ?_ _)); refine blk_put (cs := #[.int .i64 0, .int .i64 0]) ?_ 0 _ rfl; (with_reducible repeat (first | refine blk_drewN ?_ _ | refine blk_drew ?_ | refine blk_alloc ?_ _)); exact BK120.out⟩, ⟨by repeat (first | (with_reducible first | exact HB.out | apply below_alloc | apply pw_below_drewN | apply below_drew1 | refine below_set ?_ GE119.out | refine below_set ?_ GE120.out) | exact HB.out)⟩⟩
 case round =>
  clear H'
  try clear p2
  try clear c4
  try clear c6
  try clear hcz7_0
  try clear hcz7_1
  try clear hcz8_0
  try clear hcz8_1
  try clear hcz8_2
  try clear hcz8_3
  try clear hcz8_4
  try clear hfz7_0
  try clear hfz7_1
  try clear hfz8_0
  try clear hfz8_1
  try clear hfz8_2
  try clear hfz8_3
  try clear hfz8_4
  obtain ⟨x16_1, x121000_1, x121001_1, rfl, HA, HK1, BK119, BK120, HB⟩ := hrel
  cases gk with
  | zero => exact absurd HA.out (by simp [block_Block_leaped.l0])
  | succ k1 =>
   have H := HA.out
   clear HA
   simp only [block_Block_leaped.l0] at H
   by_cases c9 : x16_1 < (l0_2.length : Int)
   ·
    rw [if_pos c9] at H
    have c9b0 : decide (x16_1 < (l0_2.length : Int)) = true := decide_eq_true c9
    clear c9
    by_cases c10 : 0 ≤ x16_1
    ·
     rw [if_pos c10] at H
     have c10b0 : decide (0 ≤ x16_1) = true := decide_eq_true c10
     clear c10
     by_cases c11 : x16_1 < (l0_2.length : Int)
     ·
      rw [if_pos c11] at H
      have c11b0 : decide (x16_1 < (l0_2.length : Int)) = true := decide_eq_true c11
      clear c11
      have HC12 := Aside0.mk H
      clear H
      have p121 : 0 ≤ (x16_1 : Int) := of_decide_eq_true (by first | (with_reducible assumption) | assumption)
      have q121 : x16_1 < (l0_2.length : Int) := of_decide_eq_true (by first | (with_reducible assumption) | assumption)
      obtain ⟨ad121, e121, hx121_0, hx121_1⟩ := at_T87 HR0_2.out x16_1 p121 q121
      cases e121
      replace hx121_0 := (HB.out.cell (World.block_lt_of_cell? w _ hx121_0)).trans hx121_0
      replace hx121_1 := (HB.out.cell (World.block_lt_of_cell? w _ hx121_1)).trans hx121_1
      replace p121 := eq_true p121
      replace q121 := eq_true q121
      go_upto_region 6 with (first | ((with_reducible refine gate_dst (N := 9) rfl ?_); (try (refine gate_guard (by rfl) ?_; dsimp only)); refine box_event ?hg (N := 9) ?hd (cs := #[.int .i64 0, .int .i64 0]) (t := 87) ?hr ?_; (case hd => rfl); (case hg => rfl); (case hr => first | (go_simp; done) | (go_simp; rfl)); intro gb122 hg w13 hbox hb; have n0_ := Aside0.mk (blk_below (g := gb119) (o := .cells #[.slice A0_0 l0_0.length c0_0, .slice A0_1 l0_1.length c0_1, .slice (some ad121) l0_2.length c0_2, .slice A0_3 l0_3.length c0_3, .slice A0_4 l0_4.length c0_4] 27 (0, 0)) (by (with_reducible repeat (first | refine blk_drewN ?_ _ | refine blk_drew ?_ | refine blk_alloc ?_ _)); exact BK119.out) hb); have n1_ := Aside0.mk (blk_below (g := gb120) (o := .cells #[.int .i64 x121000_1, .int .i64 x121001_1] 87 (0, 0)) (by (with_reducible repeat (first | refine blk_drewN ?_ _ | refine blk_drew ?_ | refine blk_alloc ?_ _)); exact BK120.out) hb); have n2_ := Aside0.mk (below_step (by repeat (first | (with_reducible first | exact HB.out | apply below_alloc | apply pw_below_drewN | apply below_drew1 | refine below_set ?_ GE119.out | refine below_set ?_ GE120.out) | exact HB.out)) hb); have n3_ := Aside0.mk (hbox); have n4_ := Aside0.mk ((by rw [hg]; exact (below_size (by repeat (first | (with_reducible first | exact HB.out | apply below_alloc | apply pw_below_drewN | apply below_drew1 | refine below_set ?_ GE119.out | refine below_set ?_ GE120.out) | exact HB.out))) : w.heap.size ≤ gb122)); have n5_ := Aside0.mk ((by rw [hg]; exact (below_size (by repeat (first | (with_reducible first | exact HB.out | apply below_alloc | apply pw_below_drewN | apply below_drew1 | refine below_set ?_ GE119.out | refine below_set ?_ GE120.out) | exact HB.out))) : w.heap.size ≤ gb122)); have n6_ := Aside0.mk ((by rw [hg]; exact Nat.ne_of_lt (blk_lt (g := gb119) (o := .cells #[.slice A0_0 l0_0.length c0_0, .slice A0_1 l0_1.length c0_1, .slice (some ad121) l0_2.length c0_2, .slice A0_3 l0_3.length c0_3, .slice A0_4 l0_4.length c0_4] 27 (0, 0)) (by (with_reducible repeat (first | refine blk_drewN ?_ _ | refine blk_drew ?_ | refine blk_alloc ?_ _)); exact BK119.out)) : gb119 ≠ gb122)); have n7_ := Aside0.mk ((by rw [hg]; exact Nat.ne_of_gt (blk_lt (g := gb119) (o := .cells #[.slice A0_0 l0_0.length c0_0, .slice A0_1 l0_1.length c0_1, .slice (some ad121) l0_2.length c0_2, .slice A0_3 l0_3.length c0_3, .slice A0_4 l0_4.length c0_4] 27 (0, 0)) (by (with_reducible repeat (first | refine blk_drewN ?_ _ | refine blk_drew ?_ | refine blk_alloc ?_ _)); exact BK119.out)) : gb122 ≠ gb119)); have n8_ := Aside0.mk ((by rw [hg]; exact Nat.ne_of_lt (blk_lt (g := gb120) (o := .cells #[.int .i64 x121000_1, .int .i64 x121001_1] 87 (0, 0)) (by (with_reducible repeat (first | refine blk_drewN ?_ _ | refine blk_drew ?_ | refine blk_alloc ?_ _)); exact BK120.out)) : gb120 ≠ gb122)); have n9_ := Aside0.mk ((by rw [hg]; exact Nat.ne_of_gt (blk_lt (g := gb120) (o := .cells #[.int .i64 x121000_1, .int .i64 x121001_1] 87 (0, 0)) (by (with_reducible repeat (first | refine blk_drewN ?_ _ | refine blk_drew ?_ | refine blk_alloc ?_ _)); exact BK120.out)) : gb122 ≠ gb120)); clear BK119; clear BK120; clear HB; have BK119 := n0_; have BK120 := n1_; have HB := n2_; have BK122 := n3_; have GW122 := n4_; have GE122 := n5_; have NB119_122 := n6_; have NB122_119 := n7_; have NB120_122 := n8_; have NB122_120 := n9_; clear n0_ n1_ n2_ n3_ n4_ n5_ n6_ n7_ n8_ n9_; clear hb hbox hg; have hnb14 := NB122_119.out; have hnc14 := NB119_122.out; have hnb15 := NB122_120.out; have hnc15 := NB120_122.out; have hcz16_0 : w13.cell? ⟨gb122, 0, none⟩ = some (.int .i64 0) := (blk_cell BK122.out 0).trans rfl; have hcz16_1 : w13.cell? ⟨gb122, 1, none⟩ = some (.int .i64 0) := (blk_cell BK122.out 1).trans rfl; have hfz16_0 := blk_frozen BK122.out 0; have hfz16_1 := blk_frozen BK122.out 1; have hnb17 := NB120_119.out; have hnc17 := NB119_120.out; have hcz18_0 : w13.cell? ⟨gb120, 0, none⟩ = some (.int .i64 x121000_1) := (blk_cell BK120.out 0).trans rfl; have hcz18_1 : w13.cell? ⟨gb120, 1, none⟩ = some (.int .i64 x121001_1) := (blk_cell BK120.out 1).trans rfl; have hfz18_0 := blk_frozen BK120.out 0; have hfz18_1 := blk_frozen BK120.out 1))
      (try simp only [Act.put, List.setIfInBounds_toArray, List.set_cons_zero, List.set_cons_succ])
      go_cut [11] (fun v11 wc => ∃ (kq : Nat) (x11_11 : Bool), v11 = .bool x11_11 ∧ Aside0 (block_Block_leaped.j1 kq a1 a2 (wrap64 (((rd_T87 l0_2 x16_1).f1) - x121001_1)) x11_11 l0_2 (l0_2.length : Int) x16_1 l0_0 l0_1 l0_2 l0_3 l0_4 x121000_1 x121001_1 ((rd_T87 l0_2 x16_1).f0) ((rd_T87 l0_2 x16_1).f1) = some r) ∧ Aside0 (kq ≤ k1) ∧ Aside0 (wc.heap[gb119]? = some (.cells #[(.slice A0_0 l0_0.length c0_0), (.slice A0_1 l0_1.length c0_1), (.slice (some ad121) l0_2.length c0_2), (.slice A0_3 l0_3.length c0_3), (.slice A0_4 l0_4.length c0_4)] 27 (0, 0))) ∧ Aside0 (wc.heap[gb120]? = some (.cells #[.int .i64 x121000_1, .int .i64 x121001_1] 87 (0, 0))) ∧ Aside0 (wc.heap[gb122]? = some (.cells #[.int .i64 ((rd_T87 l0_2 x16_1).f0), .int .i64 ((rd_T87 l0_2 x16_1).f1)] 87 (0, 0))) ∧ Aside0 (Below w.heap.size w wc))
      case first =>
       have H := HC12.out
       clear HC12
       by_cases c19 : a2 = 4
       ·
        rw [if_pos c19] at H
        have c19b0 : (a2 == 4) = true := beq_iff_eq.mpr c19
        have c19b1 : (a2 != 4) = false := bne_eq_false_iff_eq.mpr c19
        clear c19
        (first | rw [c19b0] | (simp only [i64_w, i32_w]; rw [c19b0]) | skip)
        by_cases c20 : x16_1 > 0
        ·
         rw [if_pos c20] at H
         have c20b0 : decide (0 < x16_1) = true := decide_eq_true c20
         clear c20
         by_cases c21 : x16_1 = (wrap64 ((l0_2.length : Int) - 1))
         ·
          rw [if_pos c21] at H
          have c21b0 : (x16_1 == (wrap64 ((l0_2.length : Int) - 1))) = true := beq_iff_eq.mpr c21
          have c21b1 : (x16_1 != (wrap64 ((l0_2.length : Int) - 1))) = false := bne_eq_false_iff_eq.mpr c21
          clear c21
          have H' := Aside0.mk H
          clear H
          have hnb22 := NB119_120.out
          have hnc22 := NB120_119.out
          have hnb23 := NB119_122.out
          have hnc23 := NB122_119.out
          have hcz24_0 : w13.cell? ⟨gb119, 0, none⟩ = some (.slice A0_0 l0_0.length c0_0) := (blk_cell BK119.out 0).trans rfl
          have hcz24_1 : w13.cell? ⟨gb119, 1, none⟩ = some (.slice A0_1 l0_1.length c0_1) := (blk_cell BK119.out 1).trans rfl
          have hcz24_2 : w13.cell? ⟨gb119, 2, none⟩ = some (.slice (some ad121) l0_2.length c0_2) := (blk_cell BK119.out 2).trans rfl
          have hcz24_3 : w13.cell? ⟨gb119, 3, none⟩ = some (.slice A0_3 l0_3.length c0_3) := (blk_cell BK119.out 3).trans rfl
          have hcz24_4 : w13.cell? ⟨gb119, 4, none⟩ = some (.slice A0_4 l0_4.length c0_4) := (blk_cell BK119.out 4).trans rfl
          have hfz24_0 := blk_frozen BK119.out 0
          have hfz24_1 := blk_frozen BK119.out 1
          have hfz24_2 := blk_frozen BK119.out 2
          have hfz24_3 := blk_frozen BK119.out 3
          have hfz24_4 := blk_frozen BK119.out 4
          go_wp2
          go_meet
          case rel => exact ⟨_, (((wrap64 (((rd_T87 l0_2 x16_1).f1) - x121001_1)) == 0)), (by first | rfl | (simp; done) | (simp [*]; done)), H', ⟨by have := HK1.out; first | omega | exact Nat.le_refl _⟩, ⟨by (with_reducible repeat (first | refine blk_drewN ?_ _ | refine blk_drew ?_ | refine blk_alloc ?_ _)); refine blk_far ?_ NB119_122.out _; (with_reducible repeat (first | refine blk_drewN ?_ _ | refine blk_drew ?_ | refine blk_alloc ?_ _)); refine blk_far ?_ NB119_122.out _; (with_reducible repeat (first | refine blk_drewN ?_ _ | refine blk_drew ?_ | refine blk_alloc ?_ _)); exact BK119.out⟩, ⟨by (with_reducible repeat (first | refine blk_drewN ?_ _ | refine blk_drew ?_ | refine blk_alloc ?_ _)); refine blk_far ?_ NB120_122.out _; (with_reducible repeat (first | refine blk_drewN ?_ _ | refine blk_drew ?_ | refine blk_alloc ?_ _)); refine blk_far ?_ NB120_122.out _; (with_reducible repeat (first | refine blk_drewN ?_ _ | refine blk_drew ?_ | refine blk_alloc ?_ _)); exact BK120.out⟩, ⟨by (with_reducible repeat (first | refine blk_drewN ?_ _ | refine blk_drew ?_ | refine blk_alloc ?_ _)); refine blk_put (cs := #[.int .i64 ((rd_T87 l0_2 x16_1).f0), .int .i64 0]) ?_ 1 _ rfl; (with_reducible repeat (first | refine blk_drewN ?_ _ | refine blk_drew ?_ | refine blk_alloc ?_ _)); refine blk_put (cs := #[.int .i64 0, .int .i64 0]) ?_ 0 _ rfl; (with_reducible repeat (first | refine blk_drewN ?_ _ | refine blk_drew ?_ | refine blk_alloc ?_ _)); exact BK122.out⟩, ⟨by repeat (first | (with_reducible first | exact HB.out | apply below_alloc | apply pw_below_drewN | apply below_drew1 | refine below_set ?_ GE119.out | refine below_set ?_ GE120.out | refine below_set ?_ GE122.out) | exact HB.out)⟩⟩
         ·
          rw [if_neg c21] at H
          have c21b0 : (x16_1 == (wrap64 ((l0_2.length : Int) - 1))) = false := beq_eq_false_iff_ne.mpr c21
          have c21b1 : (x16_1 != (wrap64 ((l0_2.length : Int) - 1))) = true := bne_iff_ne.mpr c21
          have H' := Aside0.mk H
          clear H
          have hnb25 := NB119_120.out
          have hnc25 := NB120_119.out
          have hnb26 := NB119_122.out
          have hnc26 := NB122_119.out
          have hcz27_0 : w13.cell? ⟨gb119, 0, none⟩ = some (.slice A0_0 l0_0.length c0_0) := (blk_cell BK119.out 0).trans rfl
          have hcz27_1 : w13.cell? ⟨gb119, 1, none⟩ = some (.slice A0_1 l0_1.length c0_1) := (blk_cell BK119.out 1).trans rfl
          have hcz27_2 : w13.cell? ⟨gb119, 2, none⟩ = some (.slice (some ad121) l0_2.length c0_2) := (blk_cell BK119.out 2).trans rfl
          have hcz27_3 : w13.cell? ⟨gb119, 3, none⟩ = some (.slice A0_3 l0_3.length c0_3) := (blk_cell BK119.out 3).trans rfl
          have hcz27_4 : w13.cell? ⟨gb119, 4, none⟩ = some (.slice A0_4 l0_4.length c0_4) := (blk_cell BK119.out 4).trans rfl
          have hfz27_0 := blk_frozen BK119.out 0
          have hfz27_1 := blk_frozen BK119.out 1
          have hfz27_2 := blk_frozen BK119.out 2
          have hfz27_3 := blk_frozen BK119.out 3
          have hfz27_4 := blk_frozen BK119.out 4
          go_wp2
          go_meet
          case rel => exact ⟨_, (false), (by first | rfl | (simp; done) | (simp [*]; done)), H', ⟨by have := HK1.out; first | omega | exact Nat.le_refl _⟩, ⟨by (with_reducible repeat (first | refine blk_drewN ?_ _ | refine blk_drew ?_ | refine blk_alloc ?_ _)); refine blk_far ?_ NB119_122.out _; (with_reducible repeat (first | refine blk_drewN ?_ _ | refine blk_drew ?_ | refine blk_alloc ?_ _)); refine blk_far ?_ NB119_122.out _; (with_reducible repeat (first | refine blk_drewN ?_ _ | refine blk_drew ?_ | refine blk_alloc ?_ _)); exact BK119.out⟩, ⟨by (with_reducible repeat (first | refine blk_drewN ?_ _ | refine blk_drew ?_ | refine blk_alloc ?_ _)); refine blk_far ?_ NB120_122.out _; (with_reducible repeat (first | refine blk_drewN ?_ _ | refine blk_drew ?_ | refine blk_alloc ?_ _)); refine blk_far ?_ NB120_122.out _; (with_reducible repeat (first | refine blk_drewN ?_ _ | refine blk_drew ?_ | refine blk_alloc ?_ _)); exact BK120.out⟩, ⟨by (with_reducible repeat (first | refine blk_drewN ?_ _ | refine blk_drew ?_ | refine blk_alloc ?_ _)); refine blk_put (cs := #[.int .i64 ((rd_T87 l0_2 x16_1).f0), .int .i64 0]) ?_ 1 _ rfl; (with_reducible repeat (first | refine blk_drewN ?_ _ | refine blk_drew ?_ | refine blk_alloc ?_ _)); refine blk_put (cs := #[.int .i64 0, .int .i64 0]) ?_ 0 _ rfl; (with_reducible repeat (first | refine blk_drewN ?_ _ | refine blk_drew ?_ | refine blk_alloc ?_ _)); exact BK122.out⟩, ⟨by repeat (first | (with_reducible first | exact HB.out | apply below_alloc | apply pw_below_drewN | apply below_drew1 | refine below_set ?_ GE119.out | refine below_set ?_ GE120.out | refine below_set ?_ GE122.out) | exact HB.out)⟩⟩
        ·
         rw [if_neg c20] at H
         have c20b0 : decide (0 < x16_1) = false := decide_eq_false c20
         clear c20
         have H' := Aside0.mk H
         clear H
         go_wp2
         go_meet
         case rel => exact ⟨_, (false), (by first | rfl | (simp; done) | (simp [*]; done)), H', ⟨by have := HK1.out; first | omega | exact Nat.le_refl _⟩, ⟨by (with_reducible repeat (first | refine blk_drewN ?_ _ | refine blk_drew ?_ | refine blk_alloc ?_ _)); refine blk_far ?_ NB119_122.out _; (with_reducible repeat (first | refine blk_drewN ?_ _ | refine blk_drew ?_ | refine blk_alloc ?_ _)); refine blk_far ?_ NB119_122.out _; (with_reducible repeat (first | refine blk_drewN ?_ _ | refine blk_drew ?_ | refine blk_alloc ?_ _)); exact BK119.out⟩, ⟨by (with_reducible repeat (first | refine blk_drewN ?_ _ | refine blk_drew ?_ | refine blk_alloc ?_ _)); refine blk_far ?_ NB120_122.out _; (with_reducible repeat (first | refine blk_drewN ?_ _ | refine blk_drew ?_ | refine blk_alloc ?_ _)); refine blk_far ?_ NB120_122.out _; (with_reducible repeat (first | refine blk_drewN ?_ _ | refine blk_drew ?_ | refine blk_alloc ?_ _)); exact BK120.out⟩, ⟨by (with_reducible repeat (first | refine blk_drewN ?_ _ | refine blk_drew ?_ | refine blk_alloc ?_ _)); refine blk_put (cs := #[.int .i64 ((rd_T87 l0_2 x16_1).f0), .int .i64 0]) ?_ 1 _ rfl; (with_reducible repeat (first | refine blk_drewN ?_ _ | refine blk_drew ?_ | refine blk_alloc ?_ _)); refine blk_put (cs := #[.int .i64 0, .int .i64 0]) ?_ 0 _ rfl; (with_reducible repeat (first | refine blk_drewN ?_ _ | refine blk_drew ?_ | refine blk_alloc ?_ _)); exact BK122.out⟩, ⟨by repeat (first | (with_reducible first | exact HB.out | apply below_alloc | apply pw_below_drewN | apply below_drew1 | refine below_set ?_ GE119.out | refine below_set ?_ GE120.out | refine below_set ?_ GE122.out) | exact HB.out)⟩⟩
       ·
        rw [if_neg c19] at H
        have c19b0 : (a2 == 4) = false := beq_eq_false_iff_ne.mpr c19
        have c19b1 : (a2 != 4) = true := bne_iff_ne.mpr c19
        (first | rw [c19b0] | (simp only [i64_w, i32_w]; rw [c19b0]) | skip)
        have H' := Aside0.mk H
        clear H
        go_wp2
        go_meet
        case rel => exact ⟨_, (false), (by first | rfl | (simp; done) | (simp [*]; done)), H', ⟨by have := HK1.out; first | omega | exact Nat.le_refl _⟩, ⟨by (with_reducible repeat (first | refine blk_drewN ?_ _ | refine blk_drew ?_ | refine blk_alloc ?_ _)); refine blk_far ?_ NB119_122.out _; (with_reducible repeat (first | refine blk_drewN ?_ _ | refine blk_drew ?_ | refine blk_alloc ?_ _)); refine blk_far ?_ NB119_122.out _; (with_reducible repeat (first | refine blk_drewN ?_ _ | refine blk_drew ?_ | refine blk_alloc ?_ _)); exact BK119.out⟩, ⟨by (with_reducible repeat (first | refine blk_drewN ?_ _ | refine blk_drew ?_ | refine blk_alloc ?_ _)); refine blk_far ?_ NB120_122.out _; (with_reducible repeat (first | refine blk_drewN ?_ _ | refine blk_drew ?_ | refine blk_alloc ?_ _)); refine blk_far ?_ NB120_122.out _; (with_reducible repeat (first | refine blk_drewN ?_ _ | refine blk_drew ?_ | refine blk_alloc ?_ _)); exact BK120.out⟩, ⟨by (with_reducible repeat (first | refine blk_drewN ?_ _ | refine blk_drew ?_ | refine blk_alloc ?_ _)); refine blk_put (cs := #[.int .i64 ((rd_T87 l0_2 x16_1).f0), .int .i64 0]) ?_ 1 _ rfl; (with_reducible repeat (first | refine blk_drewN ?_ _ | refine blk_drew ?_ | refine blk_alloc ?_ _)); refine blk_put (cs := #[.int .i64 0, .int .i64 0]) ?_ 0 _ rfl; (with_reducible repeat (first | refine blk_drewN ?_ _ | refine blk_drew ?_ | refine blk_alloc ?_ _)); exact BK122.out⟩, ⟨by repeat (first | (with_reducible first | exact HB.out | apply below_alloc | apply pw_below_drewN | apply below_drew1 | refine below_set ?_ GE119.out | refine below_set ?_ GE120.out | refine below_set ?_ GE122.out) | exact HB.out)⟩⟩
      case rest =>
       clear HC12
       try clear c1
       try clear p1
       try clear q1
       try clear hx1
       try clear c2
       try clear p2
       try clear c4
       try clear c6
       try clear p6
       try clear c9
       try clear c9b0
       try clear c10
       try clear c10b0
       try clear c11
       try clear c11b0
       try clear p12
       try clear q12
       try clear hx12
       try clear c14
       try clear c15
       try clear c17
       try clear c19
       try clear c19b0
       try clear c19b1
       try clear c20
       try clear c20b0
       try clear c21
       try clear c21b0
       try clear c21b1
       try clear c22
       try clear c23
       try clear c25
       try clear c26
       try clear hcz16_0
       try clear hcz16_1
       try clear hcz18_0
       try clear hcz18_1
       try clear hcz24_0
       try clear hcz24_1
       try clear hcz24_2
       try clear hcz24_3
       try clear hcz24_4
       try clear hcz27_0
       try clear hcz27_1
       try clear hcz27_2
       try clear hcz27_3
       try clear hcz27_4
       try clear hcz7_0
       try clear hcz7_1
       try clear hcz8_0
       try clear hcz8_1
       try clear hcz8_2
       try clear hcz8_3
       try clear hcz8_4
       try clear hfz16_0
       try clear hfz16_1
       try clear hfz18_0
       try clear hfz18_1
       try clear hfz24_0
       try clear hfz24_1
       try clear hfz24_2
       try clear hfz24_3
       try clear hfz24_4
       try clear hfz27_0
       try clear hfz27_1
       try clear hfz27_2
       try clear hfz27_3
       try clear hfz27_4
       try clear hfz7_0
       try clear hfz7_1
       try clear hfz8_0
       try clear hfz8_1
       try clear hfz8_2
       try clear hfz8_3
       try clear hfz8_4
       try clear hx121_0
       try clear hx121_1
       try clear p121
       try clear p2
       try clear q121
       obtain ⟨kq, x11_11, rfl, HA, HJ11, BK119, BK120, BK122, HB⟩ := hcut
       cases kq with
       | zero => exact absurd HA.out (by simp [block_Block_leaped.j1])
       | succ kj11 =>
        have H := HA.out
        clear HA
        simp only [block_Block_leaped.j1] at H
        have HC28 := Aside0.mk H
        clear H
        go_upto_region 7 with (fail)
        go_cut [67] (fun v67 wc => ∃ (kq : Nat) (x67_27 : Bool), v67 = .bool x67_27 ∧ Aside0 (block_Block_leaped.j2 kq a1 a2 l0_2 (l0_2.length : Int) x16_1 x67_27 l0_0 l0_1 l0_2 l0_3 l0_4 ((rd_T87 l0_2 x16_1).f0) ((rd_T87 l0_2 x16_1).f1) = some r) ∧ Aside0 (kq ≤ kj11) ∧ Aside0 (wc.heap[gb119]? = some (.cells #[(.slice A0_0 l0_0.length c0_0), (.slice A0_1 l0_1.length c0_1), (.slice (some ad121) l0_2.length c0_2), (.slice A0_3 l0_3.length c0_3), (.slice A0_4 l0_4.length c0_4)] 27 (0, 0))) ∧ Aside0 (wc.heap[gb120]? = some (.cells #[.int .i64 x121000_1, .int .i64 x121001_1] 87 (0, 0))) ∧ Aside0 (wc.heap[gb122]? = some (.cells #[.int .i64 ((rd_T87 l0_2 x16_1).f0), .int .i64 ((rd_T87 l0_2 x16_1).f1)] 87 (0, 0))) ∧ Aside0 (Below w.heap.size w wc))
        case first =>
         have H := HC28.out
         clear HC28
         by_cases c29 : ((rd_T87 l0_2 x16_1).f0) ≤ x121000_1
         ·
          rw [if_pos c29] at H
          have c29b0 : decide (((rd_T87 l0_2 x16_1).f0) ≤ x121000_1) = true := decide_eq_true c29
          clear c29
          (first | rw [c29b0] | (simp only [i64_w, i32_w]; rw [c29b0]) | skip)
          have H' := Aside0.mk H
          clear H
          have hnb30 := NB122_119.out
          have hnc30 := NB119_122.out
          have hnb31 := NB122_120.out
          have hnc31 := NB120_122.out
          have hcz32_0 : wc.cell? ⟨gb122, 0, none⟩ = some (.int .i64 ((rd_T87 l0_2 x16_1).f0)) := (blk_cell BK122.out 0).trans rfl
          have hcz32_1 : wc.cell? ⟨gb122, 1, none⟩ = some (.int .i64 ((rd_T87 l0_2 x16_1).f1)) := (blk_cell BK122.out 1).trans rfl
          have hfz32_0 := blk_frozen BK122.out 0
          have hfz32_1 := blk_frozen BK122.out 1
          have hnb33 := NB120_119.out
          have hnc33 := NB119_120.out
          have hcz34_0 : wc.cell? ⟨gb120, 0, none⟩ = some (.int .i64 x121000_1) := (blk_cell BK120.out 0).trans rfl
          have hcz34_1 : wc.cell? ⟨gb120, 1, none⟩ = some (.int .i64 x121001_1) := (blk_cell BK120.out 1).trans rfl
          have hfz34_0 := blk_frozen BK120.out 0
          have hfz34_1 := blk_frozen BK120.out 1
          go_wp2
          go_meet
          case rel => exact ⟨_, (true), (by first | rfl | (simp; done) | (simp [*]; done)), H', ⟨by have := HK1.out; have := HJ11.out; first | omega | exact Nat.le_refl _⟩, ⟨by (with_reducible repeat (first | refine blk_drewN ?_ _ | refine blk_drew ?_ | refine blk_alloc ?_ _)); exact BK119.out⟩, ⟨by (with_reducible repeat (first | refine blk_drewN ?_ _ | refine blk_drew ?_ | refine blk_alloc ?_ _)); exact BK120.out⟩, ⟨by (with_reducible repeat (first | refine blk_drewN ?_ _ | refine blk_drew ?_ | refine blk_alloc ?_ _)); exact BK122.out⟩, ⟨by repeat (first | (with_reducible first | exact HB.out | apply below_alloc | apply pw_below_drewN | apply below_drew1 | refine below_set ?_ GE119.out | refine below_set ?_ GE120.out | refine below_set ?_ GE122.out) | exact HB.out)⟩⟩
         ·
          rw [if_neg c29] at H
          have c29b0 : decide (((rd_T87 l0_2 x16_1).f0) ≤ x121000_1) = false := decide_eq_false c29
          clear c29
          (first | rw [c29b0] | (simp only [i64_w, i32_w]; rw [c29b0]) | skip)
          by_cases c35 : (wrap64 (((rd_T87 l0_2 x16_1).f1) - x121001_1)) = 1
          ·
           rw [if_pos c35] at H
           have c35b0 : ((wrap64 (((rd_T87 l0_2 x16_1).f1) - x121001_1)) == 1) = true := beq_iff_eq.mpr c35
           have c35b1 : ((wrap64 (((rd_T87 l0_2 x16_1).f1) - x121001_1)) != 1) = false := bne_eq_false_iff_eq.mpr c35
           clear c35
           replace H := Option.bind_eq_some_iff.mp H
           obtain ⟨t123, A360, H⟩ := H
           replace H : (block_Block_leaped.j2 kj11 a1 a2 l0_2 (l0_2.length : Int) x16_1 (!t123) l0_0 l0_1 l0_2 l0_3 l0_4 ((rd_T87 l0_2 x16_1).f0) ((rd_T87 l0_2 x16_1).f1)) = some r := H
           have A36 := Aside0.mk A360
           clear A360
           have H' := Aside0.mk H
           clear H
           have hnb37 := NB122_119.out
           have hnc37 := NB119_122.out
           have hnb38 := NB122_120.out
           have hnc38 := NB120_122.out
           have hcz39_0 : wc.cell? ⟨gb122, 0, none⟩ = some (.int .i64 ((rd_T87 l0_2 x16_1).f0)) := (blk_cell BK122.out 0).trans rfl
           have hcz39_1 : wc.cell? ⟨gb122, 1, none⟩ = some (.int .i64 ((rd_T87 l0_2 x16_1).f1)) := (blk_cell BK122.out 1).trans rfl
           have hfz39_0 := blk_frozen BK122.out 0
           have hfz39_1 := blk_frozen BK122.out 1
           have hnb40 := NB120_119.out
           have hnc40 := NB119_120.out
           have hcz41_0 : wc.cell? ⟨gb120, 0, none⟩ = some (.int .i64 x121000_1) := (blk_cell BK120.out 0).trans rfl
           have hcz41_1 : wc.cell? ⟨gb120, 1, none⟩ = some (.int .i64 x121001_1) := (blk_cell BK120.out 1).trans rfl
           have hfz41_0 := blk_frozen BK120.out 0
           have hfz41_1 := blk_frozen BK120.out 1
           go_wp2_with (first | (go_at_call 77; (with_reducible refine (block_fits.calls ((rd_T87 l0_2 x16_1).f0) a1 t123 _ A36.out).mono ?_); rintro e w' ⟨rfl, ⟨nd, rfl⟩⟩))
           go_meet
           case rel => exact ⟨_, (!t123), (by first | rfl | (simp; done) | (simp [*]; done)), H', ⟨by have := HK1.out; have := HJ11.out; first | omega | exact Nat.le_refl _⟩, ⟨by (with_reducible repeat (first | refine blk_drewN ?_ _ | refine blk_drew ?_ | refine blk_alloc ?_ _)); exact BK119.out⟩, ⟨by (with_reducible repeat (first | refine blk_drewN ?_ _ | refine blk_drew ?_ | refine blk_alloc ?_ _)); exact BK120.out⟩, ⟨by (with_reducible repeat (first | refine blk_drewN ?_ _ | refine blk_drew ?_ | refine blk_alloc ?_ _)); exact BK122.out⟩, ⟨by repeat (first | (with_reducible first | exact HB.out | apply below_alloc | apply pw_below_drewN | apply below_drew1 | refine below_set ?_ GE119.out | refine below_set ?_ GE120.out | refine below_set ?_ GE122.out) | exact HB.out)⟩⟩
          ·
           rw [if_neg c35] at H
           have c35b0 : ((wrap64 (((rd_T87 l0_2 x16_1).f1) - x121001_1)) == 1) = false := beq_eq_false_iff_ne.mpr c35
           have c35b1 : ((wrap64 (((rd_T87 l0_2 x16_1).f1) - x121001_1)) != 1) = true := bne_iff_ne.mpr c35
           by_cases c42 : (wrap64 (((rd_T87 l0_2 x16_1).f1) - x121001_1)) = (-1)
           ·
            rw [if_pos c42] at H
            have c42b0 : ((wrap64 (((rd_T87 l0_2 x16_1).f1) - x121001_1)) == (-1)) = true := beq_iff_eq.mpr c42
            have c42b1 : ((wrap64 (((rd_T87 l0_2 x16_1).f1) - x121001_1)) != (-1)) = false := bne_eq_false_iff_eq.mpr c42
            clear c42
            replace H := Option.bind_eq_some_iff.mp H
            obtain ⟨t124, A430, H⟩ := H
            replace H : (block_Block_leaped.j2 kj11 a1 a2 l0_2 (l0_2.length : Int) x16_1 (!t124) l0_0 l0_1 l0_2 l0_3 l0_4 ((rd_T87 l0_2 x16_1).f0) ((rd_T87 l0_2 x16_1).f1)) = some r := H
            have A43 := Aside0.mk A430
            clear A430
            have H' := Aside0.mk H
            clear H
            have hnb44 := NB122_119.out
            have hnc44 := NB119_122.out
            have hnb45 := NB122_120.out
            have hnc45 := NB120_122.out
            have hcz46_0 : wc.cell? ⟨gb122, 0, none⟩ = some (.int .i64 ((rd_T87 l0_2 x16_1).f0)) := (blk_cell BK122.out 0).trans rfl
            have hcz46_1 : wc.cell? ⟨gb122, 1, none⟩ = some (.int .i64 ((rd_T87 l0_2 x16_1).f1)) := (blk_cell BK122.out 1).trans rfl
            have hfz46_0 := blk_frozen BK122.out 0
            have hfz46_1 := blk_frozen BK122.out 1
            have hnb47 := NB120_119.out
            have hnc47 := NB119_120.out
            have hcz48_0 : wc.cell? ⟨gb120, 0, none⟩ = some (.int .i64 x121000_1) := (blk_cell BK120.out 0).trans rfl
            have hcz48_1 : wc.cell? ⟨gb120, 1, none⟩ = some (.int .i64 x121001_1) := (blk_cell BK120.out 1).trans rfl
            have hfz48_0 := blk_frozen BK120.out 0
            have hfz48_1 := blk_frozen BK120.out 1
            go_wp2_with (first | (go_at_call 77; (with_reducible refine (block_fits.calls ((rd_T87 l0_2 x16_1).f0) a1 t124 _ A43.out).mono ?_); rintro e w' ⟨rfl, ⟨nd, rfl⟩⟩))
            go_meet
            case rel => exact ⟨_, (!t124), (by first | rfl | (simp; done) | (simp [*]; done)), H', ⟨by have := HK1.out; have := HJ11.out; first | omega | exact Nat.le_refl _⟩, ⟨by (with_reducible repeat (first | refine blk_drewN ?_ _ | refine blk_drew ?_ | refine blk_alloc ?_ _)); exact BK119.out⟩, ⟨by (with_reducible repeat (first | refine blk_drewN ?_ _ | refine blk_drew ?_ | refine blk_alloc ?_ _)); exact BK120.out⟩, ⟨by (with_reducible repeat (first | refine blk_drewN ?_ _ | refine blk_drew ?_ | refine blk_alloc ?_ _)); exact BK122.out⟩, ⟨by repeat (first | (with_reducible first | exact HB.out | apply below_alloc | apply pw_below_drewN | apply below_drew1 | refine below_set ?_ GE119.out | refine below_set ?_ GE120.out | refine below_set ?_ GE122.out) | exact HB.out)⟩⟩
           ·
            rw [if_neg c42] at H
            have c42b0 : ((wrap64 (((rd_T87 l0_2 x16_1).f1) - x121001_1)) == (-1)) = false := beq_eq_false_iff_ne.mpr c42
            have c42b1 : ((wrap64 (((rd_T87 l0_2 x16_1).f1) - x121001_1)) != (-1)) = true := bne_iff_ne.mpr c42
            by_cases c49 : x11_11 = true
            ·
             subst c49
             have H1 : ((block_fits.f ((rd_T87 l0_2 x16_1).f0) a1).bind fun t125 => (block_Block_leaped.j2 kj11 a1 a2 l0_2 (l0_2.length : Int) x16_1 (!t125) l0_0 l0_1 l0_2 l0_3 l0_4 ((rd_T87 l0_2 x16_1).f0) ((rd_T87 l0_2 x16_1).f1))) = some r := by rw [if_pos rfl] at H; exact H
             clear H
             have H := H1
             clear H1
             replace H := Option.bind_eq_some_iff.mp H
             obtain ⟨t125, A500, H⟩ := H
             replace H : (block_Block_leaped.j2 kj11 a1 a2 l0_2 (l0_2.length : Int) x16_1 (!t125) l0_0 l0_1 l0_2 l0_3 l0_4 ((rd_T87 l0_2 x16_1).f0) ((rd_T87 l0_2 x16_1).f1)) = some r := H
             have A50 := Aside0.mk A500
             clear A500
             have H' := Aside0.mk H
             clear H
             have hnb51 := NB122_119.out
             have hnc51 := NB119_122.out
             have hnb52 := NB122_120.out
             have hnc52 := NB120_122.out
             have hcz53_0 : wc.cell? ⟨gb122, 0, none⟩ = some (.int .i64 ((rd_T87 l0_2 x16_1).f0)) := (blk_cell BK122.out 0).trans rfl
             have hcz53_1 : wc.cell? ⟨gb122, 1, none⟩ = some (.int .i64 ((rd_T87 l0_2 x16_1).f1)) := (blk_cell BK122.out 1).trans rfl
             have hfz53_0 := blk_frozen BK122.out 0
             have hfz53_1 := blk_frozen BK122.out 1
             have hnb54 := NB120_119.out
             have hnc54 := NB119_120.out
             have hcz55_0 : wc.cell? ⟨gb120, 0, none⟩ = some (.int .i64 x121000_1) := (blk_cell BK120.out 0).trans rfl
             have hcz55_1 : wc.cell? ⟨gb120, 1, none⟩ = some (.int .i64 x121001_1) := (blk_cell BK120.out 1).trans rfl
             have hfz55_0 := blk_frozen BK120.out 0
             have hfz55_1 := blk_frozen BK120.out 1
             go_wp2_with (first | (go_at_call 77; (with_reducible refine (block_fits.calls ((rd_T87 l0_2 x16_1).f0) a1 t125 _ A50.out).mono ?_); rintro e w' ⟨rfl, ⟨nd, rfl⟩⟩))
             go_meet
             case rel => exact ⟨_, (!t125), (by first | rfl | (simp; done) | (simp [*]; done)), H', ⟨by have := HK1.out; have := HJ11.out; first | omega | exact Nat.le_refl _⟩, ⟨by (with_reducible repeat (first | refine blk_drewN ?_ _ | refine blk_drew ?_ | refine blk_alloc ?_ _)); exact BK119.out⟩, ⟨by (with_reducible repeat (first | refine blk_drewN ?_ _ | refine blk_drew ?_ | refine blk_alloc ?_ _)); exact BK120.out⟩, ⟨by (with_reducible repeat (first | refine blk_drewN ?_ _ | refine blk_drew ?_ | refine blk_alloc ?_ _)); exact BK122.out⟩, ⟨by repeat (first | (with_reducible first | exact HB.out | apply below_alloc | apply pw_below_drewN | apply below_drew1 | refine below_set ?_ GE119.out | refine below_set ?_ GE120.out | refine below_set ?_ GE122.out) | exact HB.out)⟩⟩
            ·
             replace c49 := Bool.eq_false_iff.mpr c49
             subst c49
             have H1 : (block_Block_leaped.j2 kj11 a1 a2 l0_2 (l0_2.length : Int) x16_1 true l0_0 l0_1 l0_2 l0_3 l0_4 ((rd_T87 l0_2 x16_1).f0) ((rd_T87 l0_2 x16_1).f1)) = some r := by rw [if_neg (show ¬ (false = true) by decide)] at H; exact H
             clear H
             have H := H1
             clear H1
             have H' := Aside0.mk H
             clear H
             have hnb56 := NB122_119.out
             have hnc56 := NB119_122.out
             have hnb57 := NB122_120.out
             have hnc57 := NB120_122.out
             have hcz58_0 : wc.cell? ⟨gb122, 0, none⟩ = some (.int .i64 ((rd_T87 l0_2 x16_1).f0)) := (blk_cell BK122.out 0).trans rfl
             have hcz58_1 : wc.cell? ⟨gb122, 1, none⟩ = some (.int .i64 ((rd_T87 l0_2 x16_1).f1)) := (blk_cell BK122.out 1).trans rfl
             have hfz58_0 := blk_frozen BK122.out 0
             have hfz58_1 := blk_frozen BK122.out 1
             have hnb59 := NB120_119.out
             have hnc59 := NB119_120.out
             have hcz60_0 : wc.cell? ⟨gb120, 0, none⟩ = some (.int .i64 x121000_1) := (blk_cell BK120.out 0).trans rfl
             have hcz60_1 : wc.cell? ⟨gb120, 1, none⟩ = some (.int .i64 x121001_1) := (blk_cell BK120.out 1).trans rfl
             have hfz60_0 := blk_frozen BK120.out 0
             have hfz60_1 := blk_frozen BK120.out 1
             go_wp2
             go_meet
             case rel => exact ⟨_, (true), (by first | rfl | (simp; done) | (simp [*]; done)), H', ⟨by have := HK1.out; have := HJ11.out; first | omega | exact Nat.le_refl _⟩, ⟨by (with_reducible repeat (first | refine blk_drewN ?_ _ | refine blk_drew ?_ | refine blk_alloc ?_ _)); exact BK119.out⟩, ⟨by (with_reducible repeat (first | refine blk_drewN ?_ _ | refine blk_drew ?_ | refine blk_alloc ?_ _)); exact BK120.out⟩, ⟨by (with_reducible repeat (first | refine blk_drewN ?_ _ | refine blk_drew ?_ | refine blk_alloc ?_ _)); exact BK122.out⟩, ⟨by repeat (first | (with_reducible first | exact HB.out | apply below_alloc | apply pw_below_drewN | apply below_drew1 | refine below_set ?_ GE119.out | refine below_set ?_ GE120.out | refine below_set ?_ GE122.out) | exact HB.out)⟩⟩
        case rest =>
         clear HC28
         try clear c1
         try clear p1
         try clear q1
         try clear hx1
         try clear c2
         try clear p2
         try clear c3
         try clear c4
         try clear c5
         try clear c6
         try clear p6
         try clear c9
         try clear c9b0
         try clear c10
         try clear c10b0
         try clear c11
         try clear c11b0
         try clear p12
         try clear q12
         try clear hx12
         try clear c14
         try clear c15
         try clear c17
         try clear c19
         try clear c19b0
         try clear c19b1
         try clear c20
         try clear c20b0
         try clear c21
         try clear c21b0
         try clear c21b1
         try clear c22
         try clear c23
         try clear c25
         try clear c26
         try clear c29
         try clear c29b0
         try clear c30
         try clear c31
         try clear c33
         try clear c35
         try clear c35b0
         try clear c35b1
         try clear c37
         try clear c38
         try clear c40
         try clear c42
         try clear c42b0
         try clear c42b1
         try clear c44
         try clear c45
         try clear c47
         try clear c48
         try clear c49
         try clear c51
         try clear c52
         try clear c54
         try clear c56
         try clear c57
         try clear c59
         try clear hcz16_0
         try clear hcz16_1
         try clear hcz18_0
         try clear hcz18_1
         try clear hcz24_0
         try clear hcz24_1
         try clear hcz24_2
         try clear hcz24_3
         try clear hcz24_4
         try clear hcz27_0
         try clear hcz27_1
         try clear hcz27_2
         try clear hcz27_3
         try clear hcz27_4
         try clear hcz32_0
         try clear hcz32_1
         try clear hcz34_0
         try clear hcz34_1
         try clear hcz39_0
         try clear hcz39_1
         try clear hcz41_0
         try clear hcz41_1
         try clear hcz46_0
         try clear hcz46_1
         try clear hcz48_0
         try clear hcz48_1
         try clear hcz53_0
         try clear hcz53_1
         try clear hcz55_0
         try clear hcz55_1
         try clear hcz58_0
         try clear hcz58_1
         try clear hcz60_0
         try clear hcz60_1
         try clear hcz7_0
         try clear hcz7_1
         try clear hcz8_0
         try clear hcz8_1
         try clear hcz8_2
         try clear hcz8_3
         try clear hcz8_4
         try clear hfz16_0
         try clear hfz16_1
         try clear hfz18_0
         try clear hfz18_1
         try clear hfz24_0
         try clear hfz24_1
         try clear hfz24_2
         try clear hfz24_3
         try clear hfz24_4
         try clear hfz27_0
         try clear hfz27_1
         try clear hfz27_2
         try clear hfz27_3
         try clear hfz27_4
         try clear hfz32_0
         try clear hfz32_1
         try clear hfz34_0
         try clear hfz34_1
         try clear hfz39_0
         try clear hfz39_1
         try clear hfz41_0
         try clear hfz41_1
         try clear hfz46_0
         try clear hfz46_1
         try clear hfz48_0
         try clear hfz48_1
         try clear hfz53_0
         try clear hfz53_1
         try clear hfz55_0
         try clear hfz55_1
         try clear hfz58_0
         try clear hfz58_1
         try clear hfz60_0
         try clear hfz60_1
         try clear hfz7_0
         try clear hfz7_1
         try clear hfz8_0
         try clear hfz8_1
         try clear hfz8_2
         try clear hfz8_3
         try clear hfz8_4
         try clear hx121_0
         try clear hx121_1
         try clear p1
         try clear p12
         try clear p121
         try clear p2
         try clear p6
         try clear q1
         try clear q12
         try clear q121
         obtain ⟨kq, x67_27, rfl, HA, HJ27, BK119, BK120, BK122, HB⟩ := hcut
         cases kq with
         | zero => exact absurd HA.out (by simp [block_Block_leaped.j2])
         | succ kj27 =>
          have H := HA.out
          clear HA
          simp only [block_Block_leaped.j2] at H
          by_cases c61 : x67_27 = true
          ·
           subst c61
           have H1 : (some false) = some r := by rw [if_pos rfl] at H; exact H
           clear H
           have H := H1
           clear H1
           obtain rfl := Option.some.inj H
           go_wp2
           go_ret
           exact ⟨by first | rfl | (simp [errW_none, errW_some] <;> rfl) | (simp [*, errW_none, errW_some] <;> rfl), by repeat (first | (with_reducible first | exact HB.out | apply below_alloc | apply pw_below_drewN | apply below_drew1 | refine below_set ?_ GE119.out | refine below_set ?_ GE120.out | refine below_set ?_ GE122.out) | exact HB.out)⟩
          ·
           replace c61 := Bool.eq_false_iff.mpr c61
           subst c61
           have H1 : (block_Block_leaped.l0 kj27 a1 a2 l0_2 (l0_2.length : Int) (wrap64 (x16_1 + 1)) l0_0 l0_1 l0_2 l0_3 l0_4 ((rd_T87 l0_2 x16_1).f0) ((rd_T87 l0_2 x16_1).f1)) = some r := by rw [if_neg (show ¬ (false = true) by decide)] at H; exact H
           clear H
           have H := H1
           clear H1
           have H' := Aside0.mk H
           clear H
           have hnb62 := NB122_119.out
           have hnc62 := NB119_122.out
           have hnb63 := NB122_120.out
           have hnc63 := NB120_122.out
           have hcz64_0 : wc.cell? ⟨gb122, 0, none⟩ = some (.int .i64 ((rd_T87 l0_2 x16_1).f0)) := (blk_cell BK122.out 0).trans rfl
           have hcz64_1 : wc.cell? ⟨gb122, 1, none⟩ = some (.int .i64 ((rd_T87 l0_2 x16_1).f1)) := (blk_cell BK122.out 1).trans rfl
           have hfz64_0 := blk_frozen BK122.out 0
           have hfz64_1 := blk_frozen BK122.out 1
           have hnb65 := NB120_119.out
           have hnc65 := NB119_120.out
           have hcz66_0 : wc.cell? ⟨gb120, 0, none⟩ = some (.int .i64 x121000_1) := (blk_cell BK120.out 0).trans rfl
           have hcz66_1 : wc.cell? ⟨gb120, 1, none⟩ = some (.int .i64 x121001_1) := (blk_cell BK120.out 1).trans rfl
           have hfz66_0 := blk_frozen BK120.out 0
           have hfz66_1 := blk_frozen BK120.out 1
           go_wp2
           go_roundg kj27
           case measure => have := HK1.out; have := HJ11.out; have := HJ27.out; omega
           case rel => exact ⟨(wrap64 (x16_1 + 1)), (((rd_T87 l0_2 x16_1).f0)), (((rd_T87 l0_2 x16_1).f1)), (by first | rfl | (simp; done) | (simp [*]; done)), H', ⟨by have := HK1.out; have := HJ11.out; have := HJ27.out; omega⟩, ⟨by (with_reducible repeat (first | refine blk_drewN ?_ _ | refine blk_drew ?_ | refine blk_alloc ?_ _)); refine blk_far ?_ NB119_120.out _; (with_reducible repeat (first | refine blk_drewN ?_ _ | refine blk_drew ?_ | refine blk_alloc ?_ _)); refine blk_far ?_ NB119_120.out _; (with_reducible repeat (first | refine blk_drewN ?_ _ | refine blk_drew ?_ | refine blk_alloc ?_ _)); exact BK119.out⟩, ⟨by (with_reducible repeat (first | refine blk_drewN ?_ _ | refine blk_drew ?_ | refine blk_alloc ?_ _)); refine blk_put (cs := #[.int .i64 ((rd_T87 l0_2 x16_1).f0), .int .i64 x121001_1]) ?_ 1 _ rfl; (with_reducible repeat (first | refine blk_drewN ?_ _ | refine blk_drew ?_ | refine blk_alloc ?_ _)); refine blk_put (cs := #[.int .i64 x121000_1, .int .i64 x121001_1]) ?_ 0 _ rfl; (with_reducible repeat (first | refine blk_drewN ?_ _ | refine blk_drew ?_ | refine blk_alloc ?_ _)); exact BK120.out⟩, ⟨by repeat (first | (with_reducible first | exact HB.out | apply below_alloc | apply pw_below_drewN | apply below_drew1 | refine below_set ?_ GE119.out | refine below_set ?_ GE120.out | refine below_set ?_ GE122.out) | exact HB.out)⟩⟩
     ·
      rw [if_neg c11] at H
      exact absurd H (by simp)
    ·
     rw [if_neg c10] at H
     exact absurd H (by simp)
   ·
    rw [if_neg c9] at H
    have c9b0 : decide (x16_1 < (l0_2.length : Int)) = false := decide_eq_false c9
    clear c9
    obtain rfl := Option.some.inj H
    have hnb67 := NB119_120.out
    have hnc67 := NB120_119.out
    have hcz68_0 : wr.cell? ⟨gb119, 0, none⟩ = some (.slice A0_0 l0_0.length c0_0) := (blk_cell BK119.out 0).trans rfl
    have hcz68_1 : wr.cell? ⟨gb119, 1, none⟩ = some (.slice A0_1 l0_1.length c0_1) := (blk_cell BK119.out 1).trans rfl
    have hcz68_2 : wr.cell? ⟨gb119, 2, none⟩ = some (.slice A0_2 l0_2.length c0_2) := (blk_cell BK119.out 2).trans rfl
    have hcz68_3 : wr.cell? ⟨gb119, 3, none⟩ = some (.slice A0_3 l0_3.length c0_3) := (blk_cell BK119.out 3).trans rfl
    have hcz68_4 : wr.cell? ⟨gb119, 4, none⟩ = some (.slice A0_4 l0_4.length c0_4) := (blk_cell BK119.out 4).trans rfl
    have hfz68_0 := blk_frozen BK119.out 0
    have hfz68_1 := blk_frozen BK119.out 1
    have hfz68_2 := blk_frozen BK119.out 2
    have hfz68_3 := blk_frozen BK119.out 3
    have hfz68_4 := blk_frozen BK119.out 4
    go_wp2
    go_ret
    exact ⟨by first | rfl | (simp [errW_none, errW_some] <;> rfl) | (simp [*, errW_none, errW_some] <;> rfl), by repeat (first | (with_reducible first | exact HB.out | apply below_alloc | apply pw_below_drewN | apply below_drew1 | refine below_set ?_ GE119.out | refine below_set ?_ GE120.out) | exact HB.out)⟩
end Go.Proofs.Ytdcgclhmfflheaa.PQ
