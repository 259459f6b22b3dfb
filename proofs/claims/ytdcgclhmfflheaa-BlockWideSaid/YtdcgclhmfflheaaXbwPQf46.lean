import Derived.Test.YtdcgclhmfflheaaXbwPQ0
import Derived.Test.YtdcgclhmfflheaaXbwFnames
import Derived.Test.YtdcgclhmfflheaaXbwFstr
namespace Go.Proofs.Ytdcgclhmfflheaa.PQ
open Go.RowKit Go.Proofs.YtdcgclhmfflheaaW.PrintWords Go.Proofs.YtdcgclhmfflheaaW.PrintLast Go.Proofs.YtdcgclhmfflheaaW.PrintMore
attribute [local go_sem] max2_int min2_int max_two min_two max_three min_three max_four min_four
set_option linter.unusedVariables false
set_option linter.unusedSimpArgs false
mutual
def block_Block_kinded.j0 : Nat → Bool → List (S56) → List (S54) → List (S87) → List Bool → List Bool → Option (Bool)
 | 0, _, _, _, _, _, _ => none
 | k + 1, x42, x104000, x104001, x104002, x104003, x104004 => if x42 = true then (some false) else (block_Block_kinded.l0 k x104000 (x104000.length : Int) 0 x104000 x104001 x104002 x104003 x104004)
def block_Block_kinded.l0 : Nat → List (S56) → Int → Int → List (S56) → List (S54) → List (S87) → List Bool → List Bool → Option (Bool)
 | 0, _, _, _, _, _, _, _, _ => none
 | k + 1, x44, x45, x46, x104000, x104001, x104002, x104003, x104004 => if x46 < x45 then (if 0 ≤ x46 then (if x46 < (x44.length : Int) then (if ((rd_T56 x44 x46).f0) ≤ (-2147483648) then (block_Block_kinded.j2 k x46 x44 x45 x46 true x104000 x104001 x104002 x104003 x104004) else (if ((rd_T56 x44 x46).f0) > 2147483647 then (block_Block_kinded.j2 k x46 x44 x45 x46 true x104000 x104001 x104002 x104003 x104004) else ((strings_Contains.f ((rd_T56 x44 x46).f2) (⟨#[0]⟩ : ByteArray)).bind fun t106 => (block_Block_kinded.j2 k x46 x44 x45 x46 t106 x104000 x104001 x104002 x104003 x104004)))) else (none)) else (none)) else ((block_names.f x104000).bind fun bt109 => (some (decide ((bt109.1.size : Int) ≤ 256))))
def block_Block_kinded.j2 : Nat → Int → List (S56) → Int → Int → Bool → List (S56) → List (S54) → List (S87) → List Bool → List Bool → Option (Bool)
 | 0, _, _, _, _, _, _, _, _, _, _ => none
 | k + 1, x4, x44, x45, x46, x63, x104000, x104001, x104002, x104003, x104004 => if x63 = true then (some false) else (if (x104004.length : Int) > 0 then (if 0 ≤ x4 then (if x4 < (x104004.length : Int) then (if rdOf false x104004 x4 = true then (if (x104003.length : Int) = 0 then (block_Block_kinded.j3 k x44 x45 x46 true x104000 x104001 x104002 x104003 x104004) else (if x4 < (x104003.length : Int) then (block_Block_kinded.j3 k x44 x45 x46 (!(rdOf false x104003 x4)) x104000 x104001 x104002 x104003 x104004) else (none))) else (block_Block_kinded.j3 k x44 x45 x46 false x104000 x104001 x104002 x104003 x104004)) else (none)) else (none)) else (block_Block_kinded.j3 k x44 x45 x46 false x104000 x104001 x104002 x104003 x104004))
def block_Block_kinded.j3 : Nat → List (S56) → Int → Int → Bool → List (S56) → List (S54) → List (S87) → List Bool → List Bool → Option (Bool)
 | 0, _, _, _, _, _, _, _, _, _ => none
 | k + 1, x44, x45, x46, x88, x104000, x104001, x104002, x104003, x104004 => if x88 = true then (some false) else (block_Block_kinded.l0 k x44 x45 (wrap64 (x46 + 1)) x104000 x104001 x104002 x104003 x104004)
end
def block_Block_kinded.f (k : Nat) (l0_0 : List (S56)) (l0_1 : List (S54)) (l0_2 : List (S87)) (l0_3 : List Bool) (l0_4 : List Bool) : Option (Bool) := if (l0_0.length : Int) < 1 then (block_Block_kinded.j0 k true l0_0 l0_1 l0_2 l0_3 l0_4) else (if (l0_0.length : Int) > 256 then (block_Block_kinded.j0 k true l0_0 l0_1 l0_2 l0_3 l0_4) else (if (l0_3.length : Int) = 0 then (if (l0_4.length : Int) = 0 then (block_Block_kinded.j0 k false l0_0 l0_1 l0_2 l0_3 l0_4) else (block_Block_kinded.j0 k ((l0_4.length : Int) != (l0_0.length : Int)) l0_0 l0_1 l0_2 l0_3 l0_4)) else (if (l0_3.length : Int) = (l0_0.length : Int) then (if (l0_4.length : Int) = 0 then (block_Block_kinded.j0 k false l0_0 l0_1 l0_2 l0_3 l0_4) else (block_Block_kinded.j0 k ((l0_4.length : Int) != (l0_0.length : Int)) l0_0 l0_1 l0_2 l0_3 l0_4)) else (block_Block_kinded.j0 k true l0_0 l0_1 l0_2 l0_3 l0_4))))
set_option maxHeartbeats 8000000 in
set_option maxRecDepth 100000 in
theorem block_Block_kinded.calls (k : Nat) (A0_0 : Option Addr) (c0_0 : Nat) (l0_0 : List (S56)) (A0_1 : Option Addr) (c0_1 : Nat) (l0_1 : List (S54)) (A0_2 : Option Addr) (c0_2 : Nat) (l0_2 : List (S87)) (A0_3 : Option Addr) (c0_3 : Nat) (l0_3 : List Bool) (A0_4 : Option Addr) (c0_4 : Nat) (l0_4 : List Bool) (r : Bool) (w : World) (hr0_0 : Kd.C k56 w A0_0 l0_0.length l0_0) (hc0_0 : l0_0.length ≤ c0_0) (hr0_1 : Kd.C k54 w A0_1 l0_1.length l0_1) (hc0_1 : l0_1.length ≤ c0_1) (hr0_2 : Kd.C k87 w A0_2 l0_2.length l0_2) (hc0_2 : l0_2.length ≤ c0_2) (hr0_3 : Kd.C Kd.bool w A0_3 l0_3.length l0_3) (hc0_3 : l0_3.length ≤ c0_3) (hr0_4 : Kd.C Kd.bool w A0_4 l0_4.length l0_4) (hc0_4 : l0_4.length ≤ c0_4) (h : block_Block_kinded.f k l0_0 l0_1 l0_2 l0_3 l0_4 = some r) :
  Calls Try.prog 46 #[.agg #[.slice A0_0 l0_0.length c0_0, .slice A0_1 l0_1.length c0_1, .slice A0_2 l0_2.length c0_2, .slice A0_3 l0_3.length c0_3, .slice A0_4 l0_4.length c0_4]] w fun e w' => e = .returned (.bool r) ∧ Below w.heap.size w w' := by
 have hu27 := Try.underlying27
 have hu56 := Try.underlying56
 have HR0_0 := Aside0.mk hr0_0
 have HC0_0 := Aside0.mk hc0_0
 clear hr0_0 hc0_0
 have HR0_1 := Aside0.mk hr0_1
 have HC0_1 := Aside0.mk hc0_1
 clear hr0_1 hc0_1
 have HR0_2 := Aside0.mk hr0_2
 have HC0_2 := Aside0.mk hc0_2
 clear hr0_2 hc0_2
 have HR0_3 := Aside0.mk hr0_3
 have HC0_3 := Aside0.mk hc0_3
 clear hr0_3 hc0_3
 have HR0_4 := Aside0.mk hr0_4
 have HC0_4 := Aside0.mk hc0_4
 clear hr0_4 hc0_4
 have HB := Aside0.mk (Below.refl w.heap.size w)
 have H : (if (l0_0.length : Int) < 1 then (block_Block_kinded.j0 k true l0_0 l0_1 l0_2 l0_3 l0_4) else (if (l0_0.length : Int) > 256 then (block_Block_kinded.j0 k true l0_0 l0_1 l0_2 l0_3 l0_4) else (if (l0_3.length : Int) = 0 then (if (l0_4.length : Int) = 0 then (block_Block_kinded.j0 k false l0_0 l0_1 l0_2 l0_3 l0_4) else (block_Block_kinded.j0 k ((l0_4.length : Int) != (l0_0.length : Int)) l0_0 l0_1 l0_2 l0_3 l0_4)) else (if (l0_3.length : Int) = (l0_0.length : Int) then (if (l0_4.length : Int) = 0 then (block_Block_kinded.j0 k false l0_0 l0_1 l0_2 l0_3 l0_4) else (block_Block_kinded.j0 k ((l0_4.length : Int) != (l0_0.length : Int)) l0_0 l0_1 l0_2 l0_3 l0_4)) else (block_Block_kinded.j0 k true l0_0 l0_1 l0_2 l0_3 l0_4))))) = some r := h
 clear h
 have HC2 := Aside0.mk H
 clear H
 go_enter Try.func46, Try.ntmps46
 go_upto_region 2 with (first | ((with_reducible refine gate_dst (N := 1) rfl ?_); (try (refine gate_guard (by rfl) ?_; dsimp only)); refine box_event ?hg (N := 1) ?hd (cs := #[.slice A0_0 l0_0.length c0_0, .slice A0_1 l0_1.length c0_1, .slice A0_2 l0_2.length c0_2, .slice A0_3 l0_3.length c0_3, .slice A0_4 l0_4.length c0_4]) (t := 27) ?hr ?_; (case hd => rfl); (case hg => rfl); (case hr => first | (go_simp; done) | (go_simp; rfl)); intro gb103 hg w3 hbox hb; have n0_ := Aside0.mk (below_step (by repeat (first | (with_reducible first | exact HB.out | apply below_alloc | apply pw_below_drewN | apply below_drew1) | exact HB.out)) hb); have n1_ := Aside0.mk (hbox); have n2_ := Aside0.mk ((by rw [hg]; exact (below_size (by repeat (first | (with_reducible first | exact HB.out | apply below_alloc | apply pw_below_drewN | apply below_drew1) | exact HB.out))) : w.heap.size ≤ gb103)); have n3_ := Aside0.mk ((by rw [hg]; exact (below_size (by repeat (first | (with_reducible first | exact HB.out | apply below_alloc | apply pw_below_drewN | apply below_drew1) | exact HB.out))) : w.heap.size ≤ gb103)); clear HB; have HB := n0_; have BK103 := n1_; have GW103 := n2_; have GE103 := n3_; clear n0_ n1_ n2_ n3_; clear hb hbox hg; have hcz4_0 : w3.cell? ⟨gb103, 0, none⟩ = some (.slice A0_0 l0_0.length c0_0) := (blk_cell BK103.out 0).trans rfl; have hcz4_1 : w3.cell? ⟨gb103, 1, none⟩ = some (.slice A0_1 l0_1.length c0_1) := (blk_cell BK103.out 1).trans rfl; have hcz4_2 : w3.cell? ⟨gb103, 2, none⟩ = some (.slice A0_2 l0_2.length c0_2) := (blk_cell BK103.out 2).trans rfl; have hcz4_3 : w3.cell? ⟨gb103, 3, none⟩ = some (.slice A0_3 l0_3.length c0_3) := (blk_cell BK103.out 3).trans rfl; have hcz4_4 : w3.cell? ⟨gb103, 4, none⟩ = some (.slice A0_4 l0_4.length c0_4) := (blk_cell BK103.out 4).trans rfl; have hfz4_0 := blk_frozen BK103.out 0; have hfz4_1 := blk_frozen BK103.out 1; have hfz4_2 := blk_frozen BK103.out 2; have hfz4_3 := blk_frozen BK103.out 3; have hfz4_4 := blk_frozen BK103.out 4))
 (try simp only [Act.put, List.setIfInBounds_toArray, List.set_cons_zero, List.set_cons_succ])
 go_cut [42] (fun v42 wc => ∃ (kq : Nat) (x42_1 : Bool), v42 = .bool x42_1 ∧ Aside0 (block_Block_kinded.j0 kq x42_1 l0_0 l0_1 l0_2 l0_3 l0_4 = some r) ∧ Aside0 (kq ≤ k) ∧ Aside0 (wc.heap[gb103]? = some (.cells #[(.slice A0_0 l0_0.length c0_0), (.slice A0_1 l0_1.length c0_1), (.slice A0_2 l0_2.length c0_2), (.slice A0_3 l0_3.length c0_3), (.slice A0_4 l0_4.length c0_4)] 27 (0, 0))) ∧ Aside0 (Below w.heap.size w wc))
 case first =>
  have H := HC2.out
  clear HC2
  by_cases c5 : (l0_0.length : Int) < 1
  ·
   rw [if_pos c5] at H
   have c5b0 : decide ((l0_0.length : Int) < 1) = true := decide_eq_true c5
   have c5b1 : decide (l0_0.length < 1) = true := decide_eq_true (by omega)
   clear c5
   (first | rw [c5b0] | (simp only [i64_w, i32_w]; rw [c5b0]) | skip)
   have H' := Aside0.mk H
   clear H
   go_wp2
   go_meet
   case rel => exact ⟨_, (true), (by first | rfl | (simp; done) | (simp [*]; done)), H', ⟨by first | omega | exact Nat.le_refl _⟩, ⟨by (with_reducible repeat (first | refine blk_drewN ?_ _ | refine blk_drew ?_ | refine blk_alloc ?_ _)); exact BK103.out⟩, ⟨by repeat (first | (with_reducible first | exact HB.out | apply below_alloc | apply pw_below_drewN | apply below_drew1 | refine below_set ?_ GE103.out) | exact HB.out)⟩⟩
  ·
   rw [if_neg c5] at H
   have c5b0 : decide ((l0_0.length : Int) < 1) = false := decide_eq_false c5
   have c5b1 : decide (l0_0.length < 1) = false := decide_eq_false (by omega)
   clear c5
   (first | rw [c5b0] | (simp only [i64_w, i32_w]; rw [c5b0]) | skip)
   by_cases c6 : (l0_0.length : Int) > 256
   ·
    rw [if_pos c6] at H
    have c6b0 : decide (256 < (l0_0.length : Int)) = true := decide_eq_true c6
    have c6b1 : decide (256 < l0_0.length) = true := decide_eq_true (by omega)
    clear c6
    have H' := Aside0.mk H
    clear H
    go_wp2
    go_meet
    case rel => exact ⟨_, (true), (by first | rfl | (simp; done) | (simp [*]; done)), H', ⟨by first | omega | exact Nat.le_refl _⟩, ⟨by (with_reducible repeat (first | refine blk_drewN ?_ _ | refine blk_drew ?_ | refine blk_alloc ?_ _)); exact BK103.out⟩, ⟨by repeat (first | (with_reducible first | exact HB.out | apply below_alloc | apply pw_below_drewN | apply below_drew1 | refine below_set ?_ GE103.out) | exact HB.out)⟩⟩
   ·
    rw [if_neg c6] at H
    have c6b0 : decide (256 < (l0_0.length : Int)) = false := decide_eq_false c6
    have c6b1 : decide (256 < l0_0.length) = false := decide_eq_false (by omega)
    clear c6
    by_cases c7 : (l0_3.length : Int) = 0
    ·
     rw [if_pos c7] at H
     have c7b0 : ((l0_3.length : Int) == 0) = true := beq_iff_eq.mpr c7
     have c7b1 : ((l0_3.length : Int) != 0) = false := bne_eq_false_iff_eq.mpr c7
     clear c7
     by_cases c8 : (l0_4.length : Int) = 0
     ·
      rw [if_pos c8] at H
      have c8b0 : ((l0_4.length : Int) == 0) = true := beq_iff_eq.mpr c8
      have c8b1 : ((l0_4.length : Int) != 0) = false := bne_eq_false_iff_eq.mpr c8
      clear c8
      have H' := Aside0.mk H
      clear H
      have hcz9_0 : w3.cell? ⟨gb103, 0, none⟩ = some (.slice A0_0 l0_0.length c0_0) := (blk_cell BK103.out 0).trans rfl
      have hcz9_1 : w3.cell? ⟨gb103, 1, none⟩ = some (.slice A0_1 l0_1.length c0_1) := (blk_cell BK103.out 1).trans rfl
      have hcz9_2 : w3.cell? ⟨gb103, 2, none⟩ = some (.slice A0_2 l0_2.length c0_2) := (blk_cell BK103.out 2).trans rfl
      have hcz9_3 : w3.cell? ⟨gb103, 3, none⟩ = some (.slice A0_3 l0_3.length c0_3) := (blk_cell BK103.out 3).trans rfl
      have hcz9_4 : w3.cell? ⟨gb103, 4, none⟩ = some (.slice A0_4 l0_4.length c0_4) := (blk_cell BK103.out 4).trans rfl
      have hfz9_0 := blk_frozen BK103.out 0
      have hfz9_1 := blk_frozen BK103.out 1
      have hfz9_2 := blk_frozen BK103.out 2
      have hfz9_3 := blk_frozen BK103.out 3
      have hfz9_4 := blk_frozen BK103.out 4
      go_wp2
      go_meet
      case rel => exact ⟨_, (false), (by first | rfl | (simp; done) | (simp [*]; done)), H', ⟨by first | omega | exact Nat.le_refl _⟩, ⟨by (with_reducible repeat (first | refine blk_drewN ?_ _ | refine blk_drew ?_ | refine blk_alloc ?_ _)); exact BK103.out⟩, ⟨by repeat (first | (with_reducible first | exact HB.out | apply below_alloc | apply pw_below_drewN | apply below_drew1 | refine below_set ?_ GE103.out) | exact HB.out)⟩⟩
     ·
      rw [if_neg c8] at H
      have c8b0 : ((l0_4.length : Int) == 0) = false := beq_eq_false_iff_ne.mpr c8
      have c8b1 : ((l0_4.length : Int) != 0) = true := bne_iff_ne.mpr c8
      have c8b2 : ¬ (l0_4 = []) := fun h_ => c8 (by rw [h_]; rfl)
      have H' := Aside0.mk H
      clear H
      have hcz10_0 : w3.cell? ⟨gb103, 0, none⟩ = some (.slice A0_0 l0_0.length c0_0) := (blk_cell BK103.out 0).trans rfl
      have hcz10_1 : w3.cell? ⟨gb103, 1, none⟩ = some (.slice A0_1 l0_1.length c0_1) := (blk_cell BK103.out 1).trans rfl
      have hcz10_2 : w3.cell? ⟨gb103, 2, none⟩ = some (.slice A0_2 l0_2.length c0_2) := (blk_cell BK103.out 2).trans rfl
      have hcz10_3 : w3.cell? ⟨gb103, 3, none⟩ = some (.slice A0_3 l0_3.length c0_3) := (blk_cell BK103.out 3).trans rfl
      have hcz10_4 : w3.cell? ⟨gb103, 4, none⟩ = some (.slice A0_4 l0_4.length c0_4) := (blk_cell BK103.out 4).trans rfl
      have hfz10_0 := blk_frozen BK103.out 0
      have hfz10_1 := blk_frozen BK103.out 1
      have hfz10_2 := blk_frozen BK103.out 2
      have hfz10_3 := blk_frozen BK103.out 3
      have hfz10_4 := blk_frozen BK103.out 4
      go_wp2
      go_meet
      case rel => exact ⟨_, (((l0_4.length : Int) != (l0_0.length : Int))), (by first | rfl | (simp; done) | (simp [*]; done)), H', ⟨by first | omega | exact Nat.le_refl _⟩, ⟨by (with_reducible repeat (first | refine blk_drewN ?_ _ | refine blk_drew ?_ | refine blk_alloc ?_ _)); exact BK103.out⟩, ⟨by repeat (first | (with_reducible first | exact HB.out | apply below_alloc | apply pw_below_drewN | apply below_drew1 | refine below_set ?_ GE103.out) | exact HB.out)⟩⟩
    ·
     rw [if_neg c7] at H
     have c7b0 : ((l0_3.length : Int) == 0) = false := beq_eq_false_iff_ne.mpr c7
     have c7b1 : ((l0_3.length : Int) != 0) = true := bne_iff_ne.mpr c7
     have c7b2 : ¬ (l0_3 = []) := fun h_ => c7 (by rw [h_]; rfl)
     by_cases c11 : (l0_3.length : Int) = (l0_0.length : Int)
     ·
      rw [if_pos c11] at H
      have c11b0 : ((l0_3.length : Int) == (l0_0.length : Int)) = true := beq_iff_eq.mpr c11
      have c11b1 : ((l0_3.length : Int) != (l0_0.length : Int)) = false := bne_eq_false_iff_eq.mpr c11
      have c11b2 : (l0_3.length == l0_0.length) = true := by first | simpa using c11 | (simp at c11 ⊢; omega)
      clear c11
      by_cases c12 : (l0_4.length : Int) = 0
      ·
       rw [if_pos c12] at H
       have c12b0 : ((l0_4.length : Int) == 0) = true := beq_iff_eq.mpr c12
       have c12b1 : ((l0_4.length : Int) != 0) = false := bne_eq_false_iff_eq.mpr c12
       clear c12
       have H' := Aside0.mk H
       clear H
       have hcz13_0 : w3.cell? ⟨gb103, 0, none⟩ = some (.slice A0_0 l0_0.length c0_0) := (blk_cell BK103.out 0).trans rfl
       have hcz13_1 : w3.cell? ⟨gb103, 1, none⟩ = some (.slice A0_1 l0_1.length c0_1) := (blk_cell BK103.out 1).trans rfl
       have hcz13_2 : w3.cell? ⟨gb103, 2, none⟩ = some (.slice A0_2 l0_2.length c0_2) := (blk_cell BK103.out 2).trans rfl
       have hcz13_3 : w3.cell? ⟨gb103, 3, none⟩ = some (.slice A0_3 l0_3.length c0_3) := (blk_cell BK103.out 3).trans rfl
       have hcz13_4 : w3.cell? ⟨gb103, 4, none⟩ = some (.slice A0_4 l0_4.length c0_4) := (blk_cell BK103.out 4).trans rfl
       have hfz13_0 := blk_frozen BK103.out 0
       have hfz13_1 := blk_frozen BK103.out 1
       have hfz13_2 := blk_frozen BK103.out 2
       have hfz13_3 := blk_frozen BK103.out 3
       have hfz13_4 := blk_frozen BK103.out 4
       go_wp2
       go_meet
       case rel => exact ⟨_, (false), (by first | rfl | (simp; done) | (simp [*]; done)), H', ⟨by first | omega | exact Nat.le_refl _⟩, ⟨by (with_reducible repeat (first | refine blk_drewN ?_ _ | refine blk_drew ?_ | refine blk_alloc ?_ _)); exact BK103.out⟩, ⟨by repeat (first | (with_reducible first | exact HB.out | apply below_alloc | apply pw_below_drewN | apply below_drew1 | refine below_set ?_ GE103.out) | exact HB.out)⟩⟩
      ·
       rw [if_neg c12] at H
       have c12b0 : ((l0_4.length : Int) == 0) = false := beq_eq_false_iff_ne.mpr c12
       have c12b1 : ((l0_4.length : Int) != 0) = true := bne_iff_ne.mpr c12
       have c12b2 : ¬ (l0_4 = []) := fun h_ => c12 (by rw [h_]; rfl)
       have H' := Aside0.mk H
       clear H
       have hcz14_0 : w3.cell? ⟨gb103, 0, none⟩ = some (.slice A0_0 l0_0.length c0_0) := (blk_cell BK103.out 0).trans rfl
       have hcz14_1 : w3.cell? ⟨gb103, 1, none⟩ = some (.slice A0_1 l0_1.length c0_1) := (blk_cell BK103.out 1).trans rfl
       have hcz14_2 : w3.cell? ⟨gb103, 2, none⟩ = some (.slice A0_2 l0_2.length c0_2) := (blk_cell BK103.out 2).trans rfl
       have hcz14_3 : w3.cell? ⟨gb103, 3, none⟩ = some (.slice A0_3 l0_3.length c0_3) := (blk_cell BK103.out 3).trans rfl
       have hcz14_4 : w3.cell? ⟨gb103, 4, none⟩ = some (.slice A0_4 l0_4.length c0_4) := (blk_cell BK103.out 4).trans rfl
       have hfz14_0 := blk_frozen BK103.out 0
       have hfz14_1 := blk_frozen BK103.out 1
       have hfz14_2 := blk_frozen BK103.out 2
       have hfz14_3 := blk_frozen BK103.out 3
       have hfz14_4 := blk_frozen BK103.out 4
       go_wp2
       go_meet
       case rel => exact ⟨_, (((l0_4.length : Int) != (l0_0.length : Int))), (by first | rfl | (simp; done) | (simp [*]; done)), H', ⟨by first | omega | exact Nat.le_refl _⟩, ⟨by (with_reducible repeat (first | refine blk_drewN ?_ _ | refine blk_drew ?_ | refine blk_alloc ?_ _)); exact BK103.out⟩, ⟨by repeat (first | (with_reducible first | exact HB.out | apply below_alloc | apply pw_below_drewN | apply below_drew1 | refine below_set ?_ GE103.out) | exact HB.out)⟩⟩
     ·
      rw [if_neg c11] at H
      have c11b0 : ((l0_3.length : Int) == (l0_0.length : Int)) = false := beq_eq_false_iff_ne.mpr c11
      have c11b1 : ((l0_3.length : Int) != (l0_0.length : Int)) = true := bne_iff_ne.mpr c11
      have c11b2 : (l0_3.length == l0_0.length) = false := by first | simpa using c11 | (simp at c11 ⊢; omega)
      have H' := Aside0.mk H
      clear H
      have hcz15_0 : w3.cell? ⟨gb103, 0, none⟩ = some (.slice A0_0 l0_0.length c0_0) := (blk_cell BK103.out 0).trans rfl
      have hcz15_1 : w3.cell? ⟨gb103, 1, none⟩ = some (.slice A0_1 l0_1.length c0_1) := (blk_cell BK103.out 1).trans rfl
      have hcz15_2 : w3.cell? ⟨gb103, 2, none⟩ = some (.slice A0_2 l0_2.length c0_2) := (blk_cell BK103.out 2).trans rfl
      have hcz15_3 : w3.cell? ⟨gb103, 3, none⟩ = some (.slice A0_3 l0_3.length c0_3) := (blk_cell BK103.out 3).trans rfl
      have hcz15_4 : w3.cell? ⟨gb103, 4, none⟩ = some (.slice A0_4 l0_4.length c0_4) := (blk_cell BK103.out 4).trans rfl
      have hfz15_0 := blk_frozen BK103.out 0
      have hfz15_1 := blk_frozen BK103.out 1
      have hfz15_2 := blk_frozen BK103.out 2
      have hfz15_3 := blk_frozen BK103.out 3
      have hfz15_4 := blk_frozen BK103.out 4
      go_wp2
      go_meet
      case rel => exact ⟨_, (true), (by first | rfl | (simp; done) | (simp [*]; done)), H', ⟨by first | omega | exact Nat.le_refl _⟩, ⟨by (with_reducible repeat (first | refine blk_drewN ?_ _ | refine blk_drew ?_ | refine blk_alloc ?_ _)); exact BK103.out⟩, ⟨by repeat (first | (with_reducible first | exact HB.out | apply below_alloc | apply pw_below_drewN | apply below_drew1 | refine below_set ?_ GE103.out) | exact HB.out)⟩⟩
 case rest =>
  clear HC2
  try clear c1
  try clear p2
  try clear c4
  try clear c5
  try clear c5b0
  try clear c5b1
  try clear c6
  try clear c6b0
  try clear c6b1
  try clear c7
  try clear c7b0
  try clear c7b1
  try clear c7b2
  try clear c8
  try clear c8b0
  try clear c8b1
  try clear c8b2
  try clear c11
  try clear c11b0
  try clear c11b1
  try clear c11b2
  try clear c12
  try clear c12b0
  try clear c12b1
  try clear c12b2
  try clear hcz10_0
  try clear hcz10_1
  try clear hcz10_2
  try clear hcz10_3
  try clear hcz10_4
  try clear hcz13_0
  try clear hcz13_1
  try clear hcz13_2
  try clear hcz13_3
  try clear hcz13_4
  try clear hcz14_0
  try clear hcz14_1
  try clear hcz14_2
  try clear hcz14_3
  try clear hcz14_4
  try clear hcz15_0
  try clear hcz15_1
  try clear hcz15_2
  try clear hcz15_3
  try clear hcz15_4
  try clear hcz4_0
  try clear hcz4_1
  try clear hcz4_2
  try clear hcz4_3
  try clear hcz4_4
  try clear hcz9_0
  try clear hcz9_1
  try clear hcz9_2
  try clear hcz9_3
  try clear hcz9_4
  try clear hfz10_0
  try clear hfz10_1
  try clear hfz10_2
  try clear hfz10_3
  try clear hfz10_4
  try clear hfz13_0
  try clear hfz13_1
  try clear hfz13_2
  try clear hfz13_3
  try clear hfz13_4
  try clear hfz14_0
  try clear hfz14_1
  try clear hfz14_2
  try clear hfz14_3
  try clear hfz14_4
  try clear hfz15_0
  try clear hfz15_1
  try clear hfz15_2
  try clear hfz15_3
  try clear hfz15_4
  try clear hfz4_0
  try clear hfz4_1
  try clear hfz4_2
  try clear hfz4_3
  try clear hfz4_4
  try clear hfz9_0
  try clear hfz9_1
  try clear hfz9_2
  try clear hfz9_3
  try clear hfz9_4
  obtain ⟨kq, x42_1, rfl, HA, HJ1, BK103, HB⟩ := hcut
  cases kq with
  | zero => exact absurd HA.out (by simp [block_Block_kinded.j0])
  | succ kj1 =>
   have H := HA.out
   clear HA
   simp only [block_Block_kinded.j0] at H
   by_cases c16 : x42_1 = true
   ·
    subst c16
    have H1 : (some false) = some r := by rw [if_pos rfl] at H; exact H
    clear H
    have H := H1
    clear H1
    obtain rfl := Option.some.inj H
    go_wp2
    go_ret
    exact ⟨by first | rfl | (simp [errW_none, errW_some] <;> rfl) | (simp [*, errW_none, errW_some] <;> rfl), by repeat (first | (with_reducible first | exact HB.out | apply below_alloc | apply pw_below_drewN | apply below_drew1 | refine below_set ?_ GE103.out) | exact HB.out)⟩
   ·
    replace c16 := Bool.eq_false_iff.mpr c16
    subst c16
    have H1 : (block_Block_kinded.l0 kj1 l0_0 (l0_0.length : Int) 0 l0_0 l0_1 l0_2 l0_3 l0_4) = some r := by rw [if_neg (show ¬ (false = true) by decide)] at H; exact H
    clear H
    have H := H1
    clear H1
    have H' := Aside0.mk H
    clear H
    have hcz17_0 : wc.cell? ⟨gb103, 0, none⟩ = some (.slice A0_0 l0_0.length c0_0) := (blk_cell BK103.out 0).trans rfl
    have hcz17_1 : wc.cell? ⟨gb103, 1, none⟩ = some (.slice A0_1 l0_1.length c0_1) := (blk_cell BK103.out 1).trans rfl
    have hcz17_2 : wc.cell? ⟨gb103, 2, none⟩ = some (.slice A0_2 l0_2.length c0_2) := (blk_cell BK103.out 2).trans rfl
    have hcz17_3 : wc.cell? ⟨gb103, 3, none⟩ = some (.slice A0_3 l0_3.length c0_3) := (blk_cell BK103.out 3).trans rfl
    have hcz17_4 : wc.cell? ⟨gb103, 4, none⟩ = some (.slice A0_4 l0_4.length c0_4) := (blk_cell BK103.out 4).trans rfl
    have hfz17_0 := blk_frozen BK103.out 0
    have hfz17_1 := blk_frozen BK103.out 1
    have hfz17_2 := blk_frozen BK103.out 2
    have hfz17_3 := blk_frozen BK103.out 3
    have hfz17_4 := blk_frozen BK103.out 4
    go_wp2
    go_loopg [46] kj1 (fun kq v46 w' => ∃ (x46_2 : Int), v46 = .int .i64 x46_2 ∧ Aside0 (block_Block_kinded.l0 kq l0_0 (l0_0.length : Int) x46_2 l0_0 l0_1 l0_2 l0_3 l0_4 = some r) ∧ Aside0 (kq ≤ kj1) ∧ Aside0 (w'.heap[gb103]? = some (.cells #[(.slice A0_0 l0_0.length c0_0), (.slice A0_1 l0_1.length c0_1), (.slice A0_2 l0_2.length c0_2), (.slice A0_3 l0_3.length c0_3), (.slice A0_4 l0_4.length c0_4)] 27 (0, 0))) ∧ Aside0 (Below w.heap.size w w'))
    case atStart => exact ⟨(0), (by first | rfl | (simp; done) | (simp [*]; done)), H', ⟨Nat.le_refl _⟩, ⟨by (with_reducible repeat (first | refine blk_drewN ?_ _ | refine blk_drew ?_ | refine blk_alloc ?_ _)); exact BK103.out⟩, ⟨by repeat (first | (with_reducible first | exact HB.out | apply below_alloc | apply pw_below_drewN | apply below_drew1 | refine below_set ?_ GE103.out) | exact HB.out)⟩⟩
    case round =>
     clear H'
     try clear c1
     try clear p2
     try clear c4
     try clear c5
     try clear c5b0
     try clear c5b1
     try clear c6
     try clear c6b0
     try clear c6b1
     try clear c7
     try clear c7b0
     try clear c7b1
     try clear c7b2
     try clear c8
     try clear c8b0
     try clear c8b1
     try clear c8b2
     try clear c11
     try clear c11b0
     try clear c11b1
     try clear c11b2
     try clear c12
     try clear c12b0
     try clear c12b1
     try clear c12b2
     try clear c16
     try clear hcz10_0
     try clear hcz10_1
     try clear hcz10_2
     try clear hcz10_3
     try clear hcz10_4
     try clear hcz13_0
     try clear hcz13_1
     try clear hcz13_2
     try clear hcz13_3
     try clear hcz13_4
     try clear hcz14_0
     try clear hcz14_1
     try clear hcz14_2
     try clear hcz14_3
     try clear hcz14_4
     try clear hcz15_0
     try clear hcz15_1
     try clear hcz15_2
     try clear hcz15_3
     try clear hcz15_4
     try clear hcz17_0
     try clear hcz17_1
     try clear hcz17_2
     try clear hcz17_3
     try clear hcz17_4
     try clear hcz4_0
     try clear hcz4_1
     try clear hcz4_2
     try clear hcz4_3
     try clear hcz4_4
     try clear hcz9_0
     try clear hcz9_1
     try clear hcz9_2
     try clear hcz9_3
     try clear hcz9_4
     try clear hfz10_0
     try clear hfz10_1
     try clear hfz10_2
     try clear hfz10_3
     try clear hfz10_4
     try clear hfz13_0
     try clear hfz13_1
     try clear hfz13_2
     try clear hfz13_3
     try clear hfz13_4
     try clear hfz14_0
     try clear hfz14_1
     try clear hfz14_2
     try clear hfz14_3
     try clear hfz14_4
     try clear hfz15_0
     try clear hfz15_1
     try clear hfz15_2
     try clear hfz15_3
     try clear hfz15_4
     try clear hfz17_0
     try clear hfz17_1
     try clear hfz17_2
     try clear hfz17_3
     try clear hfz17_4
     try clear hfz4_0
     try clear hfz4_1
     try clear hfz4_2
     try clear hfz4_3
     try clear hfz4_4
     try clear hfz9_0
     try clear hfz9_1
     try clear hfz9_2
     try clear hfz9_3
     try clear hfz9_4
     try clear p2
     obtain ⟨x46_2, rfl, HA, HK2, BK103, HB⟩ := hrel
     cases gk with
     | zero => exact absurd HA.out (by simp [block_Block_kinded.l0])
     | succ k2 =>
      have H := HA.out
      clear HA
      simp only [block_Block_kinded.l0] at H
      by_cases c18 : x46_2 < (l0_0.length : Int)
      ·
       rw [if_pos c18] at H
       have c18b0 : decide (x46_2 < (l0_0.length : Int)) = true := decide_eq_true c18
       clear c18
       by_cases c19 : 0 ≤ x46_2
       ·
        rw [if_pos c19] at H
        have c19b0 : decide (0 ≤ x46_2) = true := decide_eq_true c19
        clear c19
        by_cases c20 : x46_2 < (l0_0.length : Int)
        ·
         rw [if_pos c20] at H
         have c20b0 : decide (x46_2 < (l0_0.length : Int)) = true := decide_eq_true c20
         clear c20
         have HC21 := Aside0.mk H
         clear H
         have p104 : 0 ≤ (x46_2 : Int) := of_decide_eq_true (by first | (with_reducible assumption) | assumption)
         have q104 : x46_2 < (l0_0.length : Int) := of_decide_eq_true (by first | (with_reducible assumption) | assumption)
         obtain ⟨ad104, e104, hx104_0, hx104_1, hx104_2⟩ := at_T56 HR0_0.out x46_2 p104 q104
         cases e104
         replace hx104_0 := (HB.out.cell (World.block_lt_of_cell? w _ hx104_0)).trans hx104_0
         replace hx104_1 := (HB.out.cell (World.block_lt_of_cell? w _ hx104_1)).trans hx104_1
         replace hx104_2 := (HB.out.cell (World.block_lt_of_cell? w _ hx104_2)).trans hx104_2
         replace p104 := eq_true p104
         replace q104 := eq_true q104
         go_upto_region 7 with (first | ((with_reducible refine gate_dst (N := 5) rfl ?_); (try (refine gate_guard (by rfl) ?_; dsimp only)); refine box_event ?hg (N := 5) ?hd (cs := #[.int .i64 0, .bool false, .string (⟨#[]⟩ : ByteArray)]) (t := 56) ?hr ?_; (case hd => rfl); (case hg => rfl); (case hr => first | (go_simp; done) | (go_simp; rfl)); intro gb105 hg w22 hbox hb; have n0_ := Aside0.mk (blk_below (g := gb103) (o := .cells #[.slice (some ad104) l0_0.length c0_0, .slice A0_1 l0_1.length c0_1, .slice A0_2 l0_2.length c0_2, .slice A0_3 l0_3.length c0_3, .slice A0_4 l0_4.length c0_4] 27 (0, 0)) (by (with_reducible repeat (first | refine blk_drewN ?_ _ | refine blk_drew ?_ | refine blk_alloc ?_ _)); exact BK103.out) hb); have n1_ := Aside0.mk (below_step (by repeat (first | (with_reducible first | exact HB.out | apply below_alloc | apply pw_below_drewN | apply below_drew1 | refine below_set ?_ GE103.out) | exact HB.out)) hb); have n2_ := Aside0.mk (hbox); have n3_ := Aside0.mk ((by rw [hg]; exact (below_size (by repeat (first | (with_reducible first | exact HB.out | apply below_alloc | apply pw_below_drewN | apply below_drew1 | refine below_set ?_ GE103.out) | exact HB.out))) : w.heap.size ≤ gb105)); have n4_ := Aside0.mk ((by rw [hg]; exact (below_size (by repeat (first | (with_reducible first | exact HB.out | apply below_alloc | apply pw_below_drewN | apply below_drew1 | refine below_set ?_ GE103.out) | exact HB.out))) : w.heap.size ≤ gb105)); have n5_ := Aside0.mk ((by rw [hg]; exact Nat.ne_of_lt (blk_lt (g := gb103) (o := .cells #[.slice (some ad104) l0_0.length c0_0, .slice A0_1 l0_1.length c0_1, .slice A0_2 l0_2.length c0_2, .slice A0_3 l0_3.length c0_3, .slice A0_4 l0_4.length c0_4] 27 (0, 0)) (by (with_reducible repeat (first | refine blk_drewN ?_ _ | refine blk_drew ?_ | refine blk_alloc ?_ _)); exact BK103.out)) : gb103 ≠ gb105)); have n6_ := Aside0.mk ((by rw [hg]; exact Nat.ne_of_gt (blk_lt (g := gb103) (o := .cells #[.slice (some ad104) l0_0.length c0_0, .slice A0_1 l0_1.length c0_1, .slice A0_2 l0_2.length c0_2, .slice A0_3 l0_3.length c0_3, .slice A0_4 l0_4.length c0_4] 27 (0, 0)) (by (with_reducible repeat (first | refine blk_drewN ?_ _ | refine blk_drew ?_ | refine blk_alloc ?_ _)); exact BK103.out)) : gb105 ≠ gb103)); clear BK103; clear HB; have BK103 := n0_; have HB := n1_; have BK105 := n2_; have GW105 := n3_; have GE105 := n4_; have NB103_105 := n5_; have NB105_103 := n6_; clear n0_ n1_ n2_ n3_ n4_ n5_ n6_; clear hb hbox hg; have hnb23 := NB105_103.out; have hnc23 := NB103_105.out; have hcz24_0 : w22.cell? ⟨gb105, 0, none⟩ = some (.int .i64 0) := (blk_cell BK105.out 0).trans rfl; have hcz24_1 : w22.cell? ⟨gb105, 1, none⟩ = some (.bool false) := (blk_cell BK105.out 1).trans rfl; have hcz24_2 : w22.cell? ⟨gb105, 2, none⟩ = some (.string (⟨#[]⟩ : ByteArray)) := (blk_cell BK105.out 2).trans rfl; have hfz24_0 := blk_frozen BK105.out 0; have hfz24_1 := blk_frozen BK105.out 1; have hfz24_2 := blk_frozen BK105.out 2))
         (try simp only [Act.put, List.setIfInBounds_toArray, List.set_cons_zero, List.set_cons_succ])
         go_cut [63] (fun v63 wc => ∃ (kq : Nat) (x63_20 : Bool), v63 = .bool x63_20 ∧ Aside0 (block_Block_kinded.j2 kq x46_2 l0_0 (l0_0.length : Int) x46_2 x63_20 l0_0 l0_1 l0_2 l0_3 l0_4 = some r) ∧ Aside0 (kq ≤ k2) ∧ Aside0 (wc.heap[gb103]? = some (.cells #[(.slice (some ad104) l0_0.length c0_0), (.slice A0_1 l0_1.length c0_1), (.slice A0_2 l0_2.length c0_2), (.slice A0_3 l0_3.length c0_3), (.slice A0_4 l0_4.length c0_4)] 27 (0, 0))) ∧ Aside0 (wc.heap[gb105]? = some (.cells #[.int .i64 ((rd_T56 l0_0 x46_2).f0), .bool ((rd_T56 l0_0 x46_2).f1), .string ((rd_T56 l0_0 x46_2).f2)] 56 (0, 0))) ∧ Aside0 (Below w.heap.size w wc))
         case first =>
          have H := HC21.out
          clear HC21
          by_cases c25 : ((rd_T56 l0_0 x46_2).f0) ≤ (-2147483648)
          ·
           rw [if_pos c25] at H
           have c25b0 : decide (((rd_T56 l0_0 x46_2).f0) ≤ (-2147483648)) = true := decide_eq_true c25
           clear c25
           (first | rw [c25b0] | (simp only [i64_w, i32_w]; rw [c25b0]) | skip)
           have H' := Aside0.mk H
           clear H
           have hnb26 := NB105_103.out
           have hnc26 := NB103_105.out
           have hcz27_0 : w22.cell? ⟨gb105, 0, none⟩ = some (.int .i64 0) := (blk_cell BK105.out 0).trans rfl
           have hcz27_1 : w22.cell? ⟨gb105, 1, none⟩ = some (.bool false) := (blk_cell BK105.out 1).trans rfl
           have hcz27_2 : w22.cell? ⟨gb105, 2, none⟩ = some (.string (⟨#[]⟩ : ByteArray)) := (blk_cell BK105.out 2).trans rfl
           have hfz27_0 := blk_frozen BK105.out 0
           have hfz27_1 := blk_frozen BK105.out 1
           have hfz27_2 := blk_frozen BK105.out 2
           go_wp2
           go_meet
           case rel => exact ⟨_, (true), (by first | rfl | (simp; done) | (simp [*]; done)), H', ⟨by have := HJ1.out; have := HK2.out; first | omega | exact Nat.le_refl _⟩, ⟨by (with_reducible repeat (first | refine blk_drewN ?_ _ | refine blk_drew ?_ | refine blk_alloc ?_ _)); refine blk_far ?_ NB103_105.out _; (with_reducible repeat (first | refine blk_drewN ?_ _ | refine blk_drew ?_ | refine blk_alloc ?_ _)); refine blk_far ?_ NB103_105.out _; (with_reducible repeat (first | refine blk_drewN ?_ _ | refine blk_drew ?_ | refine blk_alloc ?_ _)); refine blk_far ?_ NB103_105.out _; (with_reducible repeat (first | refine blk_drewN ?_ _ | refine blk_drew ?_ | refine blk_alloc ?_ _)); exact BK103.out⟩, ⟨by (with_reducible repeat (first | refine blk_drewN ?_ _ | refine blk_drew ?_ | refine blk_alloc ?_ _)); refine blk_put (cs := #[.int .i64 ((rd_T56 l0_0 x46_2).f0), .bool ((rd_T56 l0_0 x46_2).f1), .string (⟨#[]⟩ : ByteArray)]) ?_ 2 _ rfl; (with_reducible repeat (first | refine blk_drewN ?_ _ | refine blk_drew ?_ | refine blk_alloc ?_ _)); refine blk_put (cs := #[.int .i64 ((rd_T56 l0_0 x46_2).f0), .bool false, .string (⟨#[]⟩ : ByteArray)]) ?_ 1 _ rfl; (with_reducible repeat (first | refine blk_drewN ?_ _ | refine blk_drew ?_ | refine blk_alloc ?_ _)); refine blk_put (cs := #[.int .i64 0, .bool false, .string (⟨#[]⟩ : ByteArray)]) ?_ 0 _ rfl; (with_reducible repeat (first | refine blk_drewN ?_ _ | refine blk_drew ?_ | refine blk_alloc ?_ _)); exact BK105.out⟩, ⟨by repeat (first | (with_reducible first | exact HB.out | apply below_alloc | apply pw_below_drewN | apply below_drew1 | refine below_set ?_ GE103.out | refine below_set ?_ GE105.out) | exact HB.out)⟩⟩
          ·
           rw [if_neg c25] at H
           have c25b0 : decide (((rd_T56 l0_0 x46_2).f0) ≤ (-2147483648)) = false := decide_eq_false c25
           clear c25
           (first | rw [c25b0] | (simp only [i64_w, i32_w]; rw [c25b0]) | skip)
           by_cases c28 : ((rd_T56 l0_0 x46_2).f0) > 2147483647
           ·
            rw [if_pos c28] at H
            have c28b0 : decide (2147483647 < ((rd_T56 l0_0 x46_2).f0)) = true := decide_eq_true c28
            clear c28
            have H' := Aside0.mk H
            clear H
            have hnb29 := NB105_103.out
            have hnc29 := NB103_105.out
            have hcz30_0 : w22.cell? ⟨gb105, 0, none⟩ = some (.int .i64 0) := (blk_cell BK105.out 0).trans rfl
            have hcz30_1 : w22.cell? ⟨gb105, 1, none⟩ = some (.bool false) := (blk_cell BK105.out 1).trans rfl
            have hcz30_2 : w22.cell? ⟨gb105, 2, none⟩ = some (.string (⟨#[]⟩ : ByteArray)) := (blk_cell BK105.out 2).trans rfl
            have hfz30_0 := blk_frozen BK105.out 0
            have hfz30_1 := blk_frozen BK105.out 1
            have hfz30_2 := blk_frozen BK105.out 2
            go_wp2
            go_meet
            case rel => exact ⟨_, (true), (by first | rfl | (simp; done) | (simp [*]; done)), H', ⟨by have := HJ1.out; have := HK2.out; first | omega | exact Nat.le_refl _⟩, ⟨by (with_reducible repeat (first | refine blk_drewN ?_ _ | refine blk_drew ?_ | refine blk_alloc ?_ _)); refine blk_far ?_ NB103_105.out _; (with_reducible repeat (first | refine blk_drewN ?_ _ | refine blk_drew ?_ | refine blk_alloc ?_ _)); refine blk_far ?_ NB103_105.out _; (with_reducible repeat (first | refine blk_drewN ?_ _ | refine blk_drew ?_ | refine blk_alloc ?_ _)); refine blk_far ?_ NB103_105.out _; (with_reducible repeat (first | refine blk_drewN ?_ _ | refine blk_drew ?_ | refine blk_alloc ?_ _)); exact BK103.out⟩, ⟨by (with_reducible repeat (first | refine blk_drewN ?_ _ | refine blk_drew ?_ | refine blk_alloc ?_ _)); refine blk_put (cs := #[.int .i64 ((rd_T56 l0_0 x46_2).f0), .bool ((rd_T56 l0_0 x46_2).f1), .string (⟨#[]⟩ : ByteArray)]) ?_ 2 _ rfl; (with_reducible repeat (first | refine blk_drewN ?_ _ | refine blk_drew ?_ | refine blk_alloc ?_ _)); refine blk_put (cs := #[.int .i64 ((rd_T56 l0_0 x46_2).f0), .bool false, .string (⟨#[]⟩ : ByteArray)]) ?_ 1 _ rfl; (with_reducible repeat (first | refine blk_drewN ?_ _ | refine blk_drew ?_ | refine blk_alloc ?_ _)); refine blk_put (cs := #[.int .i64 0, .bool false, .string (⟨#[]⟩ : ByteArray)]) ?_ 0 _ rfl; (with_reducible repeat (first | refine blk_drewN ?_ _ | refine blk_drew ?_ | refine blk_alloc ?_ _)); exact BK105.out⟩, ⟨by repeat (first | (with_reducible first | exact HB.out | apply below_alloc | apply pw_below_drewN | apply below_drew1 | refine below_set ?_ GE103.out | refine below_set ?_ GE105.out) | exact HB.out)⟩⟩
           ·
            rw [if_neg c28] at H
            have c28b0 : decide (2147483647 < ((rd_T56 l0_0 x46_2).f0)) = false := decide_eq_false c28
            clear c28
            replace H := Option.bind_eq_some_iff.mp H
            obtain ⟨t106, A310, H⟩ := H
            replace H : (block_Block_kinded.j2 k2 x46_2 l0_0 (l0_0.length : Int) x46_2 t106 l0_0 l0_1 l0_2 l0_3 l0_4) = some r := H
            have A31 := Aside0.mk A310
            clear A310
            have H' := Aside0.mk H
            clear H
            have hnb32 := NB105_103.out
            have hnc32 := NB103_105.out
            have hcz33_0 : w22.cell? ⟨gb105, 0, none⟩ = some (.int .i64 0) := (blk_cell BK105.out 0).trans rfl
            have hcz33_1 : w22.cell? ⟨gb105, 1, none⟩ = some (.bool false) := (blk_cell BK105.out 1).trans rfl
            have hcz33_2 : w22.cell? ⟨gb105, 2, none⟩ = some (.string (⟨#[]⟩ : ByteArray)) := (blk_cell BK105.out 2).trans rfl
            have hfz33_0 := blk_frozen BK105.out 0
            have hfz33_1 := blk_frozen BK105.out 1
            have hfz33_2 := blk_frozen BK105.out 2
            go_wp2_with (first | (go_at_call 76; (with_reducible refine (strings_Contains.calls ((rd_T56 l0_0 x46_2).f2) (⟨#[0]⟩ : ByteArray) t106 _ A31.out).mono ?_); rintro e w' ⟨rfl, ⟨nd, rfl⟩⟩))
            go_meet
            case rel => exact ⟨_, (t106), (by first | rfl | (simp; done) | (simp [*]; done)), H', ⟨by have := HJ1.out; have := HK2.out; first | omega | exact Nat.le_refl _⟩, ⟨by (with_reducible repeat (first | refine blk_drewN ?_ _ | refine blk_drew ?_ | refine blk_alloc ?_ _)); refine blk_far ?_ NB103_105.out _; (with_reducible repeat (first | refine blk_drewN ?_ _ | refine blk_drew ?_ | refine blk_alloc ?_ _)); refine blk_far ?_ NB103_105.out _; (with_reducible repeat (first | refine blk_drewN ?_ _ | refine blk_drew ?_ | refine blk_alloc ?_ _)); refine blk_far ?_ NB103_105.out _; (with_reducible repeat (first | refine blk_drewN ?_ _ | refine blk_drew ?_ | refine blk_alloc ?_ _)); exact BK103.out⟩, ⟨by (with_reducible repeat (first | refine blk_drewN ?_ _ | refine blk_drew ?_ | refine blk_alloc ?_ _)); refine blk_put (cs := #[.int .i64 ((rd_T56 l0_0 x46_2).f0), .bool ((rd_T56 l0_0 x46_2).f1), .string (⟨#[]⟩ : ByteArray)]) ?_ 2 _ rfl; (with_reducible repeat (first | refine blk_drewN ?_ _ | refine blk_drew ?_ | refine blk_alloc ?_ _)); refine blk_put (cs := #[.int .i64 ((rd_T56 l0_0 x46_2).f0), .bool false, .string (⟨#[]⟩ : ByteArray)]) ?_ 1 _ rfl; (with_reducible repeat (first | refine blk_drewN ?_ _ | refine blk_drew ?_ | refine blk_alloc ?_ _)); refine blk_put (cs := #[.int .i64 0, .bool false, .string (⟨#[]⟩ : ByteArray)]) ?_ 0 _ rfl; (with_reducible repeat (first | refine blk_drewN ?_ _ | refine blk_drew ?_ | refine blk_alloc ?_ _)); exact BK105.out⟩, ⟨by repeat (first | (with_reducible first | exact HB.out | apply below_alloc | apply pw_below_drewN | apply below_drew1 | refine below_set ?_ GE103.out | refine below_set ?_ GE105.out) | exact HB.out)⟩⟩
         case rest =>
          clear HC21
          try clear c1
          try clear p1
          try clear q1
          try clear hx1
          try clear c2
          try clear p2
          try clear c3
          try clear c4
          try clear c5
          try clear c5b0
          try clear c5b1
          try clear c6
          try clear c6b0
          try clear c6b1
          try clear c7
          try clear c7b0
          try clear c7b1
          try clear c7b2
          try clear c8
          try clear c8b0
          try clear c8b1
          try clear c8b2
          try clear p10
          try clear q10
          try clear hx10
          try clear c11
          try clear c11b0
          try clear c11b1
          try clear c11b2
          try clear c12
          try clear c12b0
          try clear c12b1
          try clear c12b2
          try clear c16
          try clear c18
          try clear c18b0
          try clear c19
          try clear c19b0
          try clear c20
          try clear c20b0
          try clear c23
          try clear c25
          try clear c25b0
          try clear c26
          try clear c28
          try clear c28b0
          try clear c29
          try clear c32
          try clear hcz10_0
          try clear hcz10_1
          try clear hcz10_2
          try clear hcz10_3
          try clear hcz10_4
          try clear hcz13_0
          try clear hcz13_1
          try clear hcz13_2
          try clear hcz13_3
          try clear hcz13_4
          try clear hcz14_0
          try clear hcz14_1
          try clear hcz14_2
          try clear hcz14_3
          try clear hcz14_4
          try clear hcz15_0
          try clear hcz15_1
          try clear hcz15_2
          try clear hcz15_3
          try clear hcz15_4
          try clear hcz17_0
          try clear hcz17_1
          try clear hcz17_2
          try clear hcz17_3
          try clear hcz17_4
          try clear hcz24_0
          try clear hcz24_1
          try clear hcz24_2
          try clear hcz27_0
          try clear hcz27_1
          try clear hcz27_2
          try clear hcz30_0
          try clear hcz30_1
          try clear hcz30_2
          try clear hcz33_0
          try clear hcz33_1
          try clear hcz33_2
          try clear hcz4_0
          try clear hcz4_1
          try clear hcz4_2
          try clear hcz4_3
          try clear hcz4_4
          try clear hcz9_0
          try clear hcz9_1
          try clear hcz9_2
          try clear hcz9_3
          try clear hcz9_4
          try clear hfz10_0
          try clear hfz10_1
          try clear hfz10_2
          try clear hfz10_3
          try clear hfz10_4
          try clear hfz13_0
          try clear hfz13_1
          try clear hfz13_2
          try clear hfz13_3
          try clear hfz13_4
          try clear hfz14_0
          try clear hfz14_1
          try clear hfz14_2
          try clear hfz14_3
          try clear hfz14_4
          try clear hfz15_0
          try clear hfz15_1
          try clear hfz15_2
          try clear hfz15_3
          try clear hfz15_4
          try clear hfz17_0
          try clear hfz17_1
          try clear hfz17_2
          try clear hfz17_3
          try clear hfz17_4
          try clear hfz24_0
          try clear hfz24_1
          try clear hfz24_2
          try clear hfz27_0
          try clear hfz27_1
          try clear hfz27_2
          try clear hfz30_0
          try clear hfz30_1
          try clear hfz30_2
          try clear hfz33_0
          try clear hfz33_1
          try clear hfz33_2
          try clear hfz4_0
          try clear hfz4_1
          try clear hfz4_2
          try clear hfz4_3
          try clear hfz4_4
          try clear hfz9_0
          try clear hfz9_1
          try clear hfz9_2
          try clear hfz9_3
          try clear hfz9_4
          try clear hx104_0
          try clear hx104_1
          try clear hx104_2
          try clear p104
          try clear p2
          try clear q104
          obtain ⟨kq, x63_20, rfl, HA, HJ20, BK103, BK105, HB⟩ := hcut
          cases kq with
          | zero => exact absurd HA.out (by simp [block_Block_kinded.j2])
          | succ kj20 =>
           have H := HA.out
           clear HA
           simp only [block_Block_kinded.j2] at H
           by_cases c34 : x63_20 = true
           ·
            subst c34
            have H1 : (some false) = some r := by rw [if_pos rfl] at H; exact H
            clear H
            have H := H1
            clear H1
            obtain rfl := Option.some.inj H
            go_wp2
            go_ret
            exact ⟨by first | rfl | (simp [errW_none, errW_some] <;> rfl) | (simp [*, errW_none, errW_some] <;> rfl), by repeat (first | (with_reducible first | exact HB.out | apply below_alloc | apply pw_below_drewN | apply below_drew1 | refine below_set ?_ GE103.out | refine below_set ?_ GE105.out) | exact HB.out)⟩
           ·
            replace c34 := Bool.eq_false_iff.mpr c34
            subst c34
            have H1 : (if (l0_4.length : Int) > 0 then (if 0 ≤ x46_2 then (if x46_2 < (l0_4.length : Int) then (if rdOf false l0_4 x46_2 = true then (if (l0_3.length : Int) = 0 then (block_Block_kinded.j3 kj20 l0_0 (l0_0.length : Int) x46_2 true l0_0 l0_1 l0_2 l0_3 l0_4) else (if x46_2 < (l0_3.length : Int) then (block_Block_kinded.j3 kj20 l0_0 (l0_0.length : Int) x46_2 (!(rdOf false l0_3 x46_2)) l0_0 l0_1 l0_2 l0_3 l0_4) else (none))) else (block_Block_kinded.j3 kj20 l0_0 (l0_0.length : Int) x46_2 false l0_0 l0_1 l0_2 l0_3 l0_4)) else (none)) else (none)) else (block_Block_kinded.j3 kj20 l0_0 (l0_0.length : Int) x46_2 false l0_0 l0_1 l0_2 l0_3 l0_4)) = some r := by rw [if_neg (show ¬ (false = true) by decide)] at H; exact H
            clear H
            have H := H1
            clear H1
            have HC35 := Aside0.mk H
            clear H
            go_upto_region 9 with (fail)
            go_cut [88] (fun v88 wc => ∃ (kq : Nat) (x88_34 : Bool), v88 = .bool x88_34 ∧ Aside0 (block_Block_kinded.j3 kq l0_0 (l0_0.length : Int) x46_2 x88_34 l0_0 l0_1 l0_2 l0_3 l0_4 = some r) ∧ Aside0 (kq ≤ kj20) ∧ Aside0 (wc.heap[gb103]? = some (.cells #[(.slice (some ad104) l0_0.length c0_0), (.slice A0_1 l0_1.length c0_1), (.slice A0_2 l0_2.length c0_2), (.slice A0_3 l0_3.length c0_3), (.slice A0_4 l0_4.length c0_4)] 27 (0, 0))) ∧ Aside0 (wc.heap[gb105]? = some (.cells #[.int .i64 ((rd_T56 l0_0 x46_2).f0), .bool ((rd_T56 l0_0 x46_2).f1), .string ((rd_T56 l0_0 x46_2).f2)] 56 (0, 0))) ∧ Aside0 (Below w.heap.size w wc))
            case first =>
             have H := HC35.out
             clear HC35
             by_cases c36 : (l0_4.length : Int) > 0
             ·
              rw [if_pos c36] at H
              have c36b0 : decide (0 < (l0_4.length : Int)) = true := decide_eq_true c36
              have c36b1 : decide (0 < l0_4.length) = true := decide_eq_true (by omega)
              clear c36
              (first | rw [c36b0] | (simp only [i64_w, i32_w]; rw [c36b0]) | skip)
              by_cases c37 : 0 ≤ x46_2
              ·
               rw [if_pos c37] at H
               have c37b0 : decide (0 ≤ x46_2) = true := decide_eq_true c37
               clear c37
               by_cases c38 : x46_2 < (l0_4.length : Int)
               ·
                rw [if_pos c38] at H
                have c38b0 : decide (x46_2 < (l0_4.length : Int)) = true := decide_eq_true c38
                clear c38
                obtain ⟨bq39, hbq39⟩ : ∃ b_ : Bool, b_ = (rdOf false l0_4 x46_2) := ⟨_, rfl⟩
                replace H : (if bq39 = true then (if (l0_3.length : Int) = 0 then (block_Block_kinded.j3 kj20 l0_0 (l0_0.length : Int) x46_2 true l0_0 l0_1 l0_2 l0_3 l0_4) else (if x46_2 < (l0_3.length : Int) then (block_Block_kinded.j3 kj20 l0_0 (l0_0.length : Int) x46_2 (!(rdOf false l0_3 x46_2)) l0_0 l0_1 l0_2 l0_3 l0_4) else (none))) else (block_Block_kinded.j3 kj20 l0_0 (l0_0.length : Int) x46_2 false l0_0 l0_1 l0_2 l0_3 l0_4)) = some r := by rw [← hbq39] at H; exact H
                have Nbq39 := Aside0.mk hbq39
                clear hbq39
                by_cases c40 : bq39 = true
                ·
                 subst c40
                 have H1 : (if (l0_3.length : Int) = 0 then (block_Block_kinded.j3 kj20 l0_0 (l0_0.length : Int) x46_2 true l0_0 l0_1 l0_2 l0_3 l0_4) else (if x46_2 < (l0_3.length : Int) then (block_Block_kinded.j3 kj20 l0_0 (l0_0.length : Int) x46_2 (!(rdOf false l0_3 x46_2)) l0_0 l0_1 l0_2 l0_3 l0_4) else (none))) = some r := by rw [if_pos rfl] at H; exact H
                 clear H
                 have H := H1
                 clear H1
                 by_cases c41 : (l0_3.length : Int) = 0
                 ·
                  rw [if_pos c41] at H
                  have c41b0 : ((l0_3.length : Int) == 0) = true := beq_iff_eq.mpr c41
                  have c41b1 : ((l0_3.length : Int) != 0) = false := bne_eq_false_iff_eq.mpr c41
                  clear c41
                  have H' := Aside0.mk H
                  clear H
                  have hnb42 := NB103_105.out
                  have hnc42 := NB105_103.out
                  have hcz43_0 : wc.cell? ⟨gb103, 0, none⟩ = some (.slice (some ad104) l0_0.length c0_0) := (blk_cell BK103.out 0).trans rfl
                  have hcz43_1 : wc.cell? ⟨gb103, 1, none⟩ = some (.slice A0_1 l0_1.length c0_1) := (blk_cell BK103.out 1).trans rfl
                  have hcz43_2 : wc.cell? ⟨gb103, 2, none⟩ = some (.slice A0_2 l0_2.length c0_2) := (blk_cell BK103.out 2).trans rfl
                  have hcz43_3 : wc.cell? ⟨gb103, 3, none⟩ = some (.slice A0_3 l0_3.length c0_3) := (blk_cell BK103.out 3).trans rfl
                  have hcz43_4 : wc.cell? ⟨gb103, 4, none⟩ = some (.slice A0_4 l0_4.length c0_4) := (blk_cell BK103.out 4).trans rfl
                  have hfz43_0 := blk_frozen BK103.out 0
                  have hfz43_1 := blk_frozen BK103.out 1
                  have hfz43_2 := blk_frozen BK103.out 2
                  have hfz43_3 := blk_frozen BK103.out 3
                  have hfz43_4 := blk_frozen BK103.out 4
                  have p107 : 0 ≤ (x46_2 : Int) := of_decide_eq_true (by first | (with_reducible assumption) | assumption)
                  have q107 : x46_2 < (l0_4.length : Int) := of_decide_eq_true (by first | (with_reducible assumption) | assumption)
                  obtain ⟨ad107, e107, hx107_0⟩ := Kd.at_bool HR0_4.out x46_2 p107 q107
                  (try rw [← Nbq39.out] at hx107_0)
                  cases e107
                  replace hx107_0 := (HB.out.cell (World.block_lt_of_cell? w _ hx107_0)).trans hx107_0
                  replace p107 := eq_true p107
                  replace q107 := eq_true q107
                  go_wp2
                  go_meet
                  case rel => exact ⟨_, (true), (by first | rfl | (simp; done) | (simp [*]; done)), H', ⟨by have := HJ1.out; have := HK2.out; have := HJ20.out; first | omega | exact Nat.le_refl _⟩, ⟨by (with_reducible repeat (first | refine blk_drewN ?_ _ | refine blk_drew ?_ | refine blk_alloc ?_ _)); exact BK103.out⟩, ⟨by (with_reducible repeat (first | refine blk_drewN ?_ _ | refine blk_drew ?_ | refine blk_alloc ?_ _)); exact BK105.out⟩, ⟨by repeat (first | (with_reducible first | exact HB.out | apply below_alloc | apply pw_below_drewN | apply below_drew1 | refine below_set ?_ GE103.out | refine below_set ?_ GE105.out) | exact HB.out)⟩⟩
                 ·
                  rw [if_neg c41] at H
                  have c41b0 : ((l0_3.length : Int) == 0) = false := beq_eq_false_iff_ne.mpr c41
                  have c41b1 : ((l0_3.length : Int) != 0) = true := bne_iff_ne.mpr c41
                  have c41b2 : ¬ (l0_3 = []) := fun h_ => c41 (by rw [h_]; rfl)
                  by_cases c44 : x46_2 < (l0_3.length : Int)
                  ·
                   rw [if_pos c44] at H
                   have c44b0 : decide (x46_2 < (l0_3.length : Int)) = true := decide_eq_true c44
                   clear c44
                   have H' := Aside0.mk H
                   clear H
                   have hnb45 := NB103_105.out
                   have hnc45 := NB105_103.out
                   have hcz46_0 : wc.cell? ⟨gb103, 0, none⟩ = some (.slice (some ad104) l0_0.length c0_0) := (blk_cell BK103.out 0).trans rfl
                   have hcz46_1 : wc.cell? ⟨gb103, 1, none⟩ = some (.slice A0_1 l0_1.length c0_1) := (blk_cell BK103.out 1).trans rfl
                   have hcz46_2 : wc.cell? ⟨gb103, 2, none⟩ = some (.slice A0_2 l0_2.length c0_2) := (blk_cell BK103.out 2).trans rfl
                   have hcz46_3 : wc.cell? ⟨gb103, 3, none⟩ = some (.slice A0_3 l0_3.length c0_3) := (blk_cell BK103.out 3).trans rfl
                   have hcz46_4 : wc.cell? ⟨gb103, 4, none⟩ = some (.slice A0_4 l0_4.length c0_4) := (blk_cell BK103.out 4).trans rfl
                   have hfz46_0 := blk_frozen BK103.out 0
                   have hfz46_1 := blk_frozen BK103.out 1
                   have hfz46_2 := blk_frozen BK103.out 2
                   have hfz46_3 := blk_frozen BK103.out 3
                   have hfz46_4 := blk_frozen BK103.out 4
                   have p107 : 0 ≤ (x46_2 : Int) := of_decide_eq_true (by first | (with_reducible assumption) | assumption)
                   have q107 : x46_2 < (l0_4.length : Int) := of_decide_eq_true (by first | (with_reducible assumption) | assumption)
                   obtain ⟨ad107, e107, hx107_0⟩ := Kd.at_bool HR0_4.out x46_2 p107 q107
                   (try rw [← Nbq39.out] at hx107_0)
                   cases e107
                   replace hx107_0 := (HB.out.cell (World.block_lt_of_cell? w _ hx107_0)).trans hx107_0
                   replace p107 := eq_true p107
                   replace q107 := eq_true q107
                   have p108 : 0 ≤ (x46_2 : Int) := of_decide_eq_true (by first | (with_reducible assumption) | assumption)
                   have q108 : x46_2 < (l0_3.length : Int) := of_decide_eq_true (by first | (with_reducible assumption) | assumption)
                   obtain ⟨ad108, e108, hx108_0⟩ := Kd.at_bool HR0_3.out x46_2 p108 q108
                   (try rw [← Nbq39.out] at hx108_0)
                   cases e108
                   replace hx108_0 := (HB.out.cell (World.block_lt_of_cell? w _ hx108_0)).trans hx108_0
                   replace p108 := eq_true p108
                   replace q108 := eq_true q108
                   go_wp2
                   go_meet
                   case rel => exact ⟨_, (!(rdOf false l0_3 x46_2)), (by first | rfl | (simp; done) | (simp [*]; done)), H', ⟨by have := HJ1.out; have := HK2.out; have := HJ20.out; first | omega | exact Nat.le_refl _⟩, ⟨by (with_reducible repeat (first | refine blk_drewN ?_ _ | refine blk_drew ?_ | refine blk_alloc ?_ _)); exact BK103.out⟩, ⟨by (with_reducible repeat (first | refine blk_drewN ?_ _ | refine blk_drew ?_ | refine blk_alloc ?_ _)); exact BK105.out⟩, ⟨by repeat (first | (with_reducible first | exact HB.out | apply below_alloc | apply pw_below_drewN | apply below_drew1 | refine below_set ?_ GE103.out | refine below_set ?_ GE105.out) | exact HB.out)⟩⟩
                  ·
                   rw [if_neg c44] at H
                   exact absurd H (by simp)
                ·
                 replace c40 := Bool.eq_false_iff.mpr c40
                 subst c40
                 have H1 : (block_Block_kinded.j3 kj20 l0_0 (l0_0.length : Int) x46_2 false l0_0 l0_1 l0_2 l0_3 l0_4) = some r := by rw [if_neg (show ¬ (false = true) by decide)] at H; exact H
                 clear H
                 have H := H1
                 clear H1
                 have H' := Aside0.mk H
                 clear H
                 have hnb47 := NB103_105.out
                 have hnc47 := NB105_103.out
                 have hcz48_0 : wc.cell? ⟨gb103, 0, none⟩ = some (.slice (some ad104) l0_0.length c0_0) := (blk_cell BK103.out 0).trans rfl
                 have hcz48_1 : wc.cell? ⟨gb103, 1, none⟩ = some (.slice A0_1 l0_1.length c0_1) := (blk_cell BK103.out 1).trans rfl
                 have hcz48_2 : wc.cell? ⟨gb103, 2, none⟩ = some (.slice A0_2 l0_2.length c0_2) := (blk_cell BK103.out 2).trans rfl
                 have hcz48_3 : wc.cell? ⟨gb103, 3, none⟩ = some (.slice A0_3 l0_3.length c0_3) := (blk_cell BK103.out 3).trans rfl
                 have hcz48_4 : wc.cell? ⟨gb103, 4, none⟩ = some (.slice A0_4 l0_4.length c0_4) := (blk_cell BK103.out 4).trans rfl
                 have hfz48_0 := blk_frozen BK103.out 0
                 have hfz48_1 := blk_frozen BK103.out 1
                 have hfz48_2 := blk_frozen BK103.out 2
                 have hfz48_3 := blk_frozen BK103.out 3
                 have hfz48_4 := blk_frozen BK103.out 4
                 have p107 : 0 ≤ (x46_2 : Int) := of_decide_eq_true (by first | (with_reducible assumption) | assumption)
                 have q107 : x46_2 < (l0_4.length : Int) := of_decide_eq_true (by first | (with_reducible assumption) | assumption)
                 obtain ⟨ad107, e107, hx107_0⟩ := Kd.at_bool HR0_4.out x46_2 p107 q107
                 (try rw [← Nbq39.out] at hx107_0)
                 cases e107
                 replace hx107_0 := (HB.out.cell (World.block_lt_of_cell? w _ hx107_0)).trans hx107_0
                 replace p107 := eq_true p107
                 replace q107 := eq_true q107
                 go_wp2
                 go_meet
                 case rel => exact ⟨_, (false), (by first | rfl | (simp; done) | (simp [*]; done)), H', ⟨by have := HJ1.out; have := HK2.out; have := HJ20.out; first | omega | exact Nat.le_refl _⟩, ⟨by (with_reducible repeat (first | refine blk_drewN ?_ _ | refine blk_drew ?_ | refine blk_alloc ?_ _)); exact BK103.out⟩, ⟨by (with_reducible repeat (first | refine blk_drewN ?_ _ | refine blk_drew ?_ | refine blk_alloc ?_ _)); exact BK105.out⟩, ⟨by repeat (first | (with_reducible first | exact HB.out | apply below_alloc | apply pw_below_drewN | apply below_drew1 | refine below_set ?_ GE103.out | refine below_set ?_ GE105.out) | exact HB.out)⟩⟩
               ·
                rw [if_neg c38] at H
                exact absurd H (by simp)
              ·
               rw [if_neg c37] at H
               exact absurd H (by simp)
             ·
              rw [if_neg c36] at H
              have c36b0 : decide (0 < (l0_4.length : Int)) = false := decide_eq_false c36
              have c36b1 : decide (0 < l0_4.length) = false := decide_eq_false (by omega)
              clear c36
              (first | rw [c36b0] | (simp only [i64_w, i32_w]; rw [c36b0]) | skip)
              have H' := Aside0.mk H
              clear H
              have hnb49 := NB103_105.out
              have hnc49 := NB105_103.out
              have hcz50_0 : wc.cell? ⟨gb103, 0, none⟩ = some (.slice (some ad104) l0_0.length c0_0) := (blk_cell BK103.out 0).trans rfl
              have hcz50_1 : wc.cell? ⟨gb103, 1, none⟩ = some (.slice A0_1 l0_1.length c0_1) := (blk_cell BK103.out 1).trans rfl
              have hcz50_2 : wc.cell? ⟨gb103, 2, none⟩ = some (.slice A0_2 l0_2.length c0_2) := (blk_cell BK103.out 2).trans rfl
              have hcz50_3 : wc.cell? ⟨gb103, 3, none⟩ = some (.slice A0_3 l0_3.length c0_3) := (blk_cell BK103.out 3).trans rfl
              have hcz50_4 : wc.cell? ⟨gb103, 4, none⟩ = some (.slice A0_4 l0_4.length c0_4) := (blk_cell BK103.out 4).trans rfl
              have hfz50_0 := blk_frozen BK103.out 0
              have hfz50_1 := blk_frozen BK103.out 1
              have hfz50_2 := blk_frozen BK103.out 2
              have hfz50_3 := blk_frozen BK103.out 3
              have hfz50_4 := blk_frozen BK103.out 4
              go_wp2
              go_meet
              case rel => exact ⟨_, (false), (by first | rfl | (simp; done) | (simp [*]; done)), H', ⟨by have := HJ1.out; have := HK2.out; have := HJ20.out; first | omega | exact Nat.le_refl _⟩, ⟨by (with_reducible repeat (first | refine blk_drewN ?_ _ | refine blk_drew ?_ | refine blk_alloc ?_ _)); exact BK103.out⟩, ⟨by (with_reducible repeat (first | refine blk_drewN ?_ _ | refine blk_drew ?_ | refine blk_alloc ?_ _)); exact BK105.out⟩, ⟨by repeat (first | (with_reducible first | exact HB.out | apply below_alloc | apply pw_below_drewN | apply below_drew1 | refine below_set ?_ GE103.out | refine below_set ?_ GE105.out) | exact HB.out)⟩⟩
            case rest =>
             clear HC35
             try clear c1
             try clear p1
             try clear q1
             try clear hx1
             try clear c2
             try clear p2
             try clear c3
             try clear q3
             try clear c4
             try clear c5
             try clear c5b0
             try clear c5b1
             try clear c6
             try clear c6b0
             try clear c6b1
             try clear c7
             try clear c7b0
             try clear c7b1
             try clear c7b2
             try clear c8
             try clear c8b0
             try clear c8b1
             try clear c8b2
             try clear p10
             try clear q10
             try clear hx10
             try clear c11
             try clear c11b0
             try clear c11b1
             try clear c11b2
             try clear c12
             try clear c12b0
             try clear c12b1
             try clear c12b2
             try clear c16
             try clear c18
             try clear c18b0
             try clear c19
             try clear c19b0
             try clear c20
             try clear c20b0
             try clear c23
             try clear c25
             try clear c25b0
             try clear c26
             try clear c28
             try clear c28b0
             try clear c29
             try clear c32
             try clear c34
             try clear c36
             try clear c36b0
             try clear c36b1
             try clear c37
             try clear c37b0
             try clear c38
             try clear c38b0
             try clear q39
             try clear c40
             try clear c41
             try clear c41b0
             try clear c41b1
             try clear c41b2
             try clear c42
             try clear c44
             try clear c44b0
             try clear c45
             try clear c47
             try clear c49
             try clear hcz10_0
             try clear hcz10_1
             try clear hcz10_2
             try clear hcz10_3
             try clear hcz10_4
             try clear hcz13_0
             try clear hcz13_1
             try clear hcz13_2
             try clear hcz13_3
             try clear hcz13_4
             try clear hcz14_0
             try clear hcz14_1
             try clear hcz14_2
             try clear hcz14_3
             try clear hcz14_4
             try clear hcz15_0
             try clear hcz15_1
             try clear hcz15_2
             try clear hcz15_3
             try clear hcz15_4
             try clear hcz17_0
             try clear hcz17_1
             try clear hcz17_2
             try clear hcz17_3
             try clear hcz17_4
             try clear hcz24_0
             try clear hcz24_1
             try clear hcz24_2
             try clear hcz27_0
             try clear hcz27_1
             try clear hcz27_2
             try clear hcz30_0
             try clear hcz30_1
             try clear hcz30_2
             try clear hcz33_0
             try clear hcz33_1
             try clear hcz33_2
             try clear hcz43_0
             try clear hcz43_1
             try clear hcz43_2
             try clear hcz43_3
             try clear hcz43_4
             try clear hcz46_0
             try clear hcz46_1
             try clear hcz46_2
             try clear hcz46_3
             try clear hcz46_4
             try clear hcz48_0
             try clear hcz48_1
             try clear hcz48_2
             try clear hcz48_3
             try clear hcz48_4
             try clear hcz4_0
             try clear hcz4_1
             try clear hcz4_2
             try clear hcz4_3
             try clear hcz4_4
             try clear hcz50_0
             try clear hcz50_1
             try clear hcz50_2
             try clear hcz50_3
             try clear hcz50_4
             try clear hcz9_0
             try clear hcz9_1
             try clear hcz9_2
             try clear hcz9_3
             try clear hcz9_4
             try clear hfz10_0
             try clear hfz10_1
             try clear hfz10_2
             try clear hfz10_3
             try clear hfz10_4
             try clear hfz13_0
             try clear hfz13_1
             try clear hfz13_2
             try clear hfz13_3
             try clear hfz13_4
             try clear hfz14_0
             try clear hfz14_1
             try clear hfz14_2
             try clear hfz14_3
             try clear hfz14_4
             try clear hfz15_0
             try clear hfz15_1
             try clear hfz15_2
             try clear hfz15_3
             try clear hfz15_4
             try clear hfz17_0
             try clear hfz17_1
             try clear hfz17_2
             try clear hfz17_3
             try clear hfz17_4
             try clear hfz24_0
             try clear hfz24_1
             try clear hfz24_2
             try clear hfz27_0
             try clear hfz27_1
             try clear hfz27_2
             try clear hfz30_0
             try clear hfz30_1
             try clear hfz30_2
             try clear hfz33_0
             try clear hfz33_1
             try clear hfz33_2
             try clear hfz43_0
             try clear hfz43_1
             try clear hfz43_2
             try clear hfz43_3
             try clear hfz43_4
             try clear hfz46_0
             try clear hfz46_1
             try clear hfz46_2
             try clear hfz46_3
             try clear hfz46_4
             try clear hfz48_0
             try clear hfz48_1
             try clear hfz48_2
             try clear hfz48_3
             try clear hfz48_4
             try clear hfz4_0
             try clear hfz4_1
             try clear hfz4_2
             try clear hfz4_3
             try clear hfz4_4
             try clear hfz50_0
             try clear hfz50_1
             try clear hfz50_2
             try clear hfz50_3
             try clear hfz50_4
             try clear hfz9_0
             try clear hfz9_1
             try clear hfz9_2
             try clear hfz9_3
             try clear hfz9_4
             try clear hx104_0
             try clear hx104_1
             try clear hx104_2
             try clear hx107_0
             try clear hx108_0
             try clear p1
             try clear p10
             try clear p104
             try clear p107
             try clear p108
             try clear p2
             try clear q1
             try clear q10
             try clear q104
             try clear q107
             try clear q108
             obtain ⟨kq, x88_34, rfl, HA, HJ34, BK103, BK105, HB⟩ := hcut
             cases kq with
             | zero => exact absurd HA.out (by simp [block_Block_kinded.j3])
             | succ kj34 =>
              have H := HA.out
              clear HA
              simp only [block_Block_kinded.j3] at H
              by_cases c51 : x88_34 = true
              ·
               subst c51
               have H1 : (some false) = some r := by rw [if_pos rfl] at H; exact H
               clear H
               have H := H1
               clear H1
               obtain rfl := Option.some.inj H
               go_wp2
               go_ret
               exact ⟨by first | rfl | (simp [errW_none, errW_some] <;> rfl) | (simp [*, errW_none, errW_some] <;> rfl), by repeat (first | (with_reducible first | exact HB.out | apply below_alloc | apply pw_below_drewN | apply below_drew1 | refine below_set ?_ GE103.out | refine below_set ?_ GE105.out) | exact HB.out)⟩
              ·
               replace c51 := Bool.eq_false_iff.mpr c51
               subst c51
               have H1 : (block_Block_kinded.l0 kj34 l0_0 (l0_0.length : Int) (wrap64 (x46_2 + 1)) l0_0 l0_1 l0_2 l0_3 l0_4) = some r := by rw [if_neg (show ¬ (false = true) by decide)] at H; exact H
               clear H
               have H := H1
               clear H1
               have H' := Aside0.mk H
               clear H
               go_wp2
               go_roundg kj34
               case measure => have := HJ1.out; have := HK2.out; have := HJ20.out; have := HJ34.out; omega
               case rel => exact ⟨(wrap64 (x46_2 + 1)), (by first | rfl | (simp; done) | (simp [*]; done)), H', ⟨by have := HJ1.out; have := HK2.out; have := HJ20.out; have := HJ34.out; omega⟩, ⟨by (with_reducible repeat (first | refine blk_drewN ?_ _ | refine blk_drew ?_ | refine blk_alloc ?_ _)); exact BK103.out⟩, ⟨by repeat (first | (with_reducible first | exact HB.out | apply below_alloc | apply pw_below_drewN | apply below_drew1 | refine below_set ?_ GE103.out | refine below_set ?_ GE105.out) | exact HB.out)⟩⟩
        ·
         rw [if_neg c20] at H
         exact absurd H (by simp)
       ·
        rw [if_neg c19] at H
        exact absurd H (by simp)
      ·
       rw [if_neg c18] at H
       have c18b0 : decide (x46_2 < (l0_0.length : Int)) = false := decide_eq_false c18
       clear c18
       replace H := Option.bind_eq_some_iff.mp H
       obtain ⟨⟨t109, t110⟩, A520, H⟩ := H
       replace H : (some (decide ((t109.size : Int) ≤ 256))) = some r := H
       have A52 := Aside0.mk A520
       clear A520
       obtain rfl := Option.some.inj H
       have hcz53_0 : wr.cell? ⟨gb103, 0, none⟩ = some (.slice A0_0 l0_0.length c0_0) := (blk_cell BK103.out 0).trans rfl
       have hcz53_1 : wr.cell? ⟨gb103, 1, none⟩ = some (.slice A0_1 l0_1.length c0_1) := (blk_cell BK103.out 1).trans rfl
       have hcz53_2 : wr.cell? ⟨gb103, 2, none⟩ = some (.slice A0_2 l0_2.length c0_2) := (blk_cell BK103.out 2).trans rfl
       have hcz53_3 : wr.cell? ⟨gb103, 3, none⟩ = some (.slice A0_3 l0_3.length c0_3) := (blk_cell BK103.out 3).trans rfl
       have hcz53_4 : wr.cell? ⟨gb103, 4, none⟩ = some (.slice A0_4 l0_4.length c0_4) := (blk_cell BK103.out 4).trans rfl
       have hfz53_0 := blk_frozen BK103.out 0
       have hfz53_1 := blk_frozen BK103.out 1
       have hfz53_2 := blk_frozen BK103.out 2
       have hfz53_3 := blk_frozen BK103.out 3
       have hfz53_4 := blk_frozen BK103.out 4
       go_wp2_with (first | ((with_reducible refine gate_callee (f := 43) rfl ?_); refine goesL_ (some 93) rfl rfl Try.func43 (by kernel_rfl) rfl #[.slice A0_0 l0_0.length c0_0] rfl (by (try simp only [List.map_toArray, List.map_cons, List.map_nil]); first | done | rfl | (simp only [List.length_drop, List.length_take]; rfl)) ?_; (with_reducible refine (block_names.calls _ _ l0_0 t109 t110 _ ?side1 ?side2 A52.out).mono ?_); (case side1 => repeat (first | exact (Kd.C_below HR0_0.out HB.out) | (with_reducible refine Kd.C_alloc ?_ _) | (with_reducible refine Kd.C_drewN ?_ _) | (with_reducible refine Kd.C_drew ?_))); (case side2 => exact HC0_0.out); rintro e w54 ⟨v111, rfl, ho0, hb⟩; refine ⟨_, rfl, ?_⟩; have n0_ := Aside0.mk (Kd.R_lower ho0 (below_size (by repeat (first | (with_reducible first | exact HB.out | apply below_alloc | apply pw_below_drewN | apply below_drew1 | refine below_set ?_ GE103.out) | exact HB.out)))); have n1_ := Aside0.mk (blk_below (g := gb103) (o := .cells #[.slice A0_0 l0_0.length c0_0, .slice A0_1 l0_1.length c0_1, .slice A0_2 l0_2.length c0_2, .slice A0_3 l0_3.length c0_3, .slice A0_4 l0_4.length c0_4] 27 (0, 0)) (by (with_reducible repeat (first | refine blk_drewN ?_ _ | refine blk_drew ?_ | refine blk_alloc ?_ _)); exact BK103.out) hb); have n2_ := Aside0.mk (below_step (by repeat (first | (with_reducible first | exact HB.out | apply below_alloc | apply pw_below_drewN | apply below_drew1 | refine below_set ?_ GE103.out) | exact HB.out)) hb); clear BK103; clear HB; have HO112 := n0_; have BK103 := n1_; have HB := n2_; clear n0_ n1_ n2_; (try clear hb); (try clear hb2); (try clear hk); (try clear hi); (try clear ho0)))
       go_ret
       exact ⟨by first | rfl | (simp [errW_none, errW_some] <;> rfl) | (simp [*, errW_none, errW_some] <;> rfl), by repeat (first | (with_reducible first | exact HB.out | apply below_alloc | apply pw_below_drewN | apply below_drew1 | refine below_set ?_ GE103.out) | exact HB.out)⟩
end Go.Proofs.Ytdcgclhmfflheaa.PQ
