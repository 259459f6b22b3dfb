import Derived.Test.YtdcgclhmfflheaaXbwPQ0
import Derived.Test.YtdcgclhmfflheaaXbwFoct
namespace Go.Proofs.Ytdcgclhmfflheaa.PQ
open Go.RowKit Go.Proofs.YtdcgclhmfflheaaW.PrintWords Go.Proofs.YtdcgclhmfflheaaW.PrintLast Go.Proofs.YtdcgclhmfflheaaW.PrintMore
attribute [local go_sem] max2_int min2_int max_two min_two max_three min_three max_four min_four
set_option linter.unusedVariables false
set_option linter.unusedSimpArgs false
def octets_Int.f (l0 : List Int) (a1 : Int) (a2 : Int) : Option (Int × Bool) := (octets_Uint.f l0 a1 a2).bind fun bt220 => (if bt220.2 = true then (if 0 ≤ (wrap64 (8 * (wrap64 (8 - a2)))) then (some (shr .i64 (wrap64 (shl .u64 bt220.1 (wrap64 (8 * (wrap64 (8 - a2)))))) (wrap64 (8 * (wrap64 (8 - a2)))), true)) else (none)) else (some (0, false)))
set_option maxHeartbeats 8000000 in
set_option maxRecDepth 100000 in
theorem octets_Int.calls (A0 : Option Addr) (c0 : Nat) (l0 : List Int) (a1 : Int) (a2 : Int) (r1 : Int) (r2 : Bool) (w : World) (hr0 : Kd.C (Kd.int .u8) w A0 l0.length l0) (hc0 : l0.length ≤ c0) (h : octets_Int.f l0 a1 a2 = some (r1, r2)) :
  Calls Try.prog 78 #[.slice A0 l0.length c0, .int .i64 a1, .int .i64 a2] w fun e w' => e = .returned (.tuple #[.int .i64 r1, .bool r2]) ∧ Drawn0 w w' := by
 have HR0 := Aside0.mk hr0
 have HC0 := Aside0.mk hc0
 clear hr0 hc0
 have H : ((octets_Uint.f l0 a1 a2).bind fun bt220 => (if bt220.2 = true then (if 0 ≤ (wrap64 (8 * (wrap64 (8 - a2)))) then (some (shr .i64 (wrap64 (shl .u64 bt220.1 (wrap64 (8 * (wrap64 (8 - a2)))))) (wrap64 (8 * (wrap64 (8 - a2)))), true)) else (none)) else (some (0, false)))) = some (r1, r2) := h
 clear h
 replace H := Option.bind_eq_some_iff.mp H
 obtain ⟨⟨t220, t221⟩, A40, H⟩ := H
 replace H : (if t221 = true then (if 0 ≤ (wrap64 (8 * (wrap64 (8 - a2)))) then (some (shr .i64 (wrap64 (shl .u64 t220 (wrap64 (8 * (wrap64 (8 - a2)))))) (wrap64 (8 * (wrap64 (8 - a2)))), true)) else (none)) else (some (0, false))) = some (r1, r2) := H
 have A4 := Aside0.mk A40
 clear A40
 by_cases c5 : t221 = true
 ·
  subst c5
  have H1 : (if 0 ≤ (wrap64 (8 * (wrap64 (8 - a2)))) then (some (shr .i64 (wrap64 (shl .u64 t220 (wrap64 (8 * (wrap64 (8 - a2)))))) (wrap64 (8 * (wrap64 (8 - a2)))), true)) else (none)) = some (r1, r2) := by rw [if_pos rfl] at H; exact H
  clear H
  have H := H1
  clear H1
  obtain ⟨ji6, hji6⟩ : ∃ j_ : Int, (wrap64 (8 * (wrap64 (8 - a2)))) = j_ := ⟨_, rfl⟩
  replace H : (if 0 ≤ (ji6) then (some (shr .i64 (wrap64 (shl .u64 t220 (ji6))) (ji6), true)) else (none)) = some (r1, r2) := by first | (rw [hji6] at H; exact H) | (simp only [hji6] at H ⊢; exact H)
  (try rw [hji6] at A4)
  have hji6w : (IntKind.i64.wrap (8 * (wrap64 (8 - a2)))) = ji6 := (i64_w _).trans hji6
  by_cases c7 : 0 ≤ (ji6)
  ·
   rw [if_pos c7] at H
   have c7b0 := eq_true c7
   have c7b1 : decide (0 ≤ (ji6)) = true := decide_eq_true c7
   clear c7
   obtain ⟨ji8, hji8⟩ : ∃ j_ : Int, (shl .u64 t220 (ji6)) = j_ := ⟨_, rfl⟩
   replace H : (some (shr .i64 (wrap64 (ji8)) (ji6), true)) = some (r1, r2) := by first | (rw [hji8] at H; exact H) | (simp only [hji8] at H ⊢; exact H)
   (try rw [hji8] at A4)
   have hji8_ : (IntKind.u64.wrap (t220 * 2 ^ min (ji6).toNat 64)) = ji8 := hji8
   have hji8z : (ji6) ≤ 64 → (IntKind.u64.wrap (t220 * 2 ^ (ji6).toNat)) = ji8 := shl_small hji8
   have c9b0 := eq_true (of_decide_eq_true (by first | (with_reducible assumption) | assumption) : 0 ≤ (ji6))
   obtain ⟨ji10, hji10⟩ : ∃ j_ : Int, (shr .i64 (wrap64 (ji8)) (ji6)) = j_ := ⟨_, rfl⟩
   replace H : (some (ji10, true)) = some (r1, r2) := by first | (rw [hji10] at H; exact H) | (simp only [hji10] at H ⊢; exact H)
   (try rw [hji10] at A4)
   have hji10_ : ((wrap64 (ji8)) / 2 ^ min (ji6).toNat 64) = ji10 := hji10
   have hji10z : (ji6) ≤ 64 → ((wrap64 (ji8)) / 2 ^ (ji6).toNat) = ji10 := shr_small hji10
   simp only [Option.some.injEq, Prod.mk.injEq] at H
   obtain ⟨rfl, rfl⟩ := H
   go_enter Try.func78, Try.ntmps78
   go_wp2_with (first | ((with_reducible refine gate_callee (f := 89) rfl ?_); refine goesL_ (some 15) rfl rfl Try.func89 (by kernel_rfl) rfl #[.slice A0 l0.length c0, .int .i64 a1, .int .i64 a2] rfl (by (try simp only [List.map_toArray, List.map_cons, List.map_nil]); first | done | rfl | (simp only [List.length_drop, List.length_take]; rfl)) ?_; (with_reducible refine (octets_Uint.calls _ _ l0 a1 a2 t220 true _ ?side1 ?side2 A4.out).mono ?_); (case side1 => repeat (first | exact HR0.out | (with_reducible refine Kd.C_alloc ?_ _) | (with_reducible refine Kd.C_drewN ?_ _) | (with_reducible refine Kd.C_drew ?_))); (case side2 => exact HC0.out); rintro e w' ⟨rfl, ⟨nd, rfl⟩⟩; refine ⟨_, rfl, ?_⟩))
   go_ret2
   exact ⟨by first | rfl | (simp; done) | (simp only [← hji6, ← hji8, ← hji10] <;> (first | rfl | simp)) | (simp [*]; done), by repeat (first | exact Drawn0.refl _ | apply Drawn0.step)⟩
  ·
   rw [if_neg c7] at H
   exact absurd H (by simp)
 ·
  replace c5 := Bool.eq_false_iff.mpr c5
  subst c5
  have H1 : (some (0, false)) = some (r1, r2) := by rw [if_neg (show ¬ (false = true) by decide)] at H; exact H
  clear H
  have H := H1
  clear H1
  simp only [Option.some.injEq, Prod.mk.injEq] at H
  obtain ⟨rfl, rfl⟩ := H
  go_enter Try.func78, Try.ntmps78
  go_wp2_with (first | ((with_reducible refine gate_callee (f := 89) rfl ?_); refine goesL_ (some 15) rfl rfl Try.func89 (by kernel_rfl) rfl #[.slice A0 l0.length c0, .int .i64 a1, .int .i64 a2] rfl (by (try simp only [List.map_toArray, List.map_cons, List.map_nil]); first | done | rfl | (simp only [List.length_drop, List.length_take]; rfl)) ?_; (with_reducible refine (octets_Uint.calls _ _ l0 a1 a2 t220 false _ ?side1 ?side2 A4.out).mono ?_); (case side1 => repeat (first | exact HR0.out | (with_reducible refine Kd.C_alloc ?_ _) | (with_reducible refine Kd.C_drewN ?_ _) | (with_reducible refine Kd.C_drew ?_))); (case side2 => exact HC0.out); rintro e w' ⟨rfl, ⟨nd, rfl⟩⟩; refine ⟨_, rfl, ?_⟩))
  go_ret2
  exact ⟨by first | rfl | (simp; done) | (simp [*]; done), by repeat (first | exact Drawn0.refl _ | apply Drawn0.step)⟩
end Go.Proofs.Ytdcgclhmfflheaa.PQ
