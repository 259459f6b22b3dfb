import Derived.Test.YtdcgclhmfflheaaXbwPQ0
namespace Go.Proofs.Ytdcgclhmfflheaa.PQ
open Go.RowKit Go.Proofs.YtdcgclhmfflheaaW.PrintWords Go.Proofs.YtdcgclhmfflheaaW.PrintLast Go.Proofs.YtdcgclhmfflheaaW.PrintMore
attribute [local go_sem] max2_int min2_int max_two min_two max_three min_three max_four min_four
set_option linter.unusedVariables false
set_option linter.unusedSimpArgs false
def block_fits.f (a0 : Int) (a1 : Int) : Option (Bool) := if a1 = 4 then (some (a0 == (wrap64 (wrap32 (a0))))) else (some true)
set_option maxHeartbeats 8000000 in
set_option maxRecDepth 100000 in
theorem block_fits.calls (a0 : Int) (a1 : Int) (r : Bool) (w : World) (h : block_fits.f a0 a1 = some r) :
  Calls Try.prog 77 #[.int .i64 a0, .int .i64 a1] w fun e w' => e = .returned (.bool r) ∧ Drawn0 w w' := by
 have H : (if a1 = 4 then (some (a0 == (wrap64 (wrap32 (a0))))) else (some true)) = some r := h
 clear h
 by_cases c3 : a1 = 4
 ·
  rw [if_pos c3] at H
  have c3b0 : (a1 == 4) = true := beq_iff_eq.mpr c3
  have c3b1 : (a1 != 4) = false := bne_eq_false_iff_eq.mpr c3
  clear c3
  obtain rfl := Option.some.inj H
  go_enter Try.func77, Try.ntmps77
  go_wp2
  go_ret
  exact ⟨by first | rfl | (simp; done) | (simp [*]; done), by repeat (first | exact Drawn0.refl _ | apply Drawn0.step)⟩
 ·
  rw [if_neg c3] at H
  have c3b0 : (a1 == 4) = false := beq_eq_false_iff_ne.mpr c3
  have c3b1 : (a1 != 4) = true := bne_iff_ne.mpr c3
  obtain rfl := Option.some.inj H
  go_enter Try.func77, Try.ntmps77
  go_wp2
  go_ret
  exact ⟨by first | rfl | (simp; done) | (simp [*]; done), by repeat (first | exact Drawn0.refl _ | apply Drawn0.step)⟩
end Go.Proofs.Ytdcgclhmfflheaa.PQ
