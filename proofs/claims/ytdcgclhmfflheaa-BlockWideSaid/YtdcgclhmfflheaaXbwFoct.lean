import Derived.Test.YtdcgclhmfflheaaXbwPQ0
import Derived.WalkSpells
import Derived.Lib.Hide
import Derived.IntWalk
import Derived.Laws.BitsLemmas
namespace Go.Proofs.Ytdcgclhmfflheaa.PQ
open Go.RowKit Go.Proofs.YtdcgclhmfflheaaW.PrintWords Go.Proofs.YtdcgclhmfflheaaW.PrintLast Go.Proofs.YtdcgclhmfflheaaW.PrintMore
set_option linter.unusedVariables false
set_option linter.unusedSimpArgs false
def beU (l : List Int) : Int := l.foldl (fun n c => n * 256 + c) 0
def bytesOk (l : List Int) : Prop := ∀ x ∈ l, 0 ≤ x ∧ x < 256
instance (l : List Int) : Decidable (bytesOk l) := by unfold bytesOk; infer_instance
theorem beU_snoc (l : List Int) (c : Int) : beU (l ++ [c]) = beU l * 256 + c := by simp [beU]
theorem bytesOk_take {l : List Int} (h : bytesOk l) (k : Nat) : bytesOk (l.take k) := fun x hx => h x (List.mem_of_mem_take hx)
theorem beU_bd : ∀ (n : Nat) (l : List Int), l.length = n → bytesOk l → 0 ≤ beU l ∧ beU l < ((256 ^ n : Nat) : Int) := by
 intro n
 induction n with
 | zero =>
  intro l h _
  obtain rfl := List.length_eq_zero_iff.1 h
  exact ⟨by simp [beU], by simp [beU]⟩
 | succ n ih =>
  intro l h hb
  have hne : l ≠ [] := by intro e; subst e; simp at h
  obtain ⟨l', c, rfl⟩ : ∃ l' c, l = l' ++ [c] := ⟨l.dropLast, l.getLast hne, (List.dropLast_concat_getLast hne).symm⟩
  have h1 := ih l' (by simpa using h) (fun x hx => hb x (by simp [hx]))
  have h2 := hb c (by simp)
  rw [beU_snoc, Nat.pow_succ]
  constructor <;> omega
theorem beU_bd7 (l : List Int) (h : l.length ≤ 7) (hb : bytesOk l) : 0 ≤ beU l ∧ beU l < 72057594037927936 := by
 have h1 := beU_bd _ l rfl hb
 have h2 : 256 ^ l.length ≤ 256 ^ 7 := Nat.pow_le_pow_right (by decide) h
 have h3 : 256 ^ 7 = 72057594037927936 := by decide
 rw [h3] at h2
 omega
theorem wrap_u64 (n : Int) (a : 0 ≤ n) (b : n < 18446744073709551616) : IntKind.u64.wrap n = n := by
 simp [IntKind.wrap, IntKind.bits, IntKind.signed]
 omega
theorem two64 : (2 : Int) ^ 64 = 18446744073709551616 := by decide
theorem or_byte (N c : Int) (h0 : 0 ≤ N) (h1 : N < 72057594037927936) (h2 : 0 ≤ c) (h3 : c < 256) : Go.bits .or .u64 (IntKind.u64.wrap (N * 256)) (IntKind.u64.wrap c) = N * 256 + c := by
 rw [wrap_u64 (N * 256) (by omega) (by omega), wrap_u64 c h2 (by omega)]
 exact bits_join .u64 64 (by decide) (fun n a b => wrap_u64 n a (by rw [two64] at b; exact b)) 8 (N * 256) c (by omega) (by omega) (by rw [two64]; omega) h2 (by omega) (by rw [two64]; omega)
def octets_Uint.f (l0 : List Int) (a1 a2 : Int) : Option (Int × Bool) :=
 if 1 ≤ a2 ∧ a2 ≤ 8 ∧ 0 ≤ a1 ∧ a1 ≤ (l0.length : Int) - a2 then
  (if bytesOk ((l0.take (a1 + a2).toNat).drop a1.toNat) then some (beU ((l0.take (a1 + a2).toNat).drop a1.toNat), true) else none)
 else some (0, false)
set_option maxHeartbeats 1000000 in
theorem octets_Uint.calls (A0 : Option Addr) (c0 : Nat) (l0 : List Int) (a1 : Int) (a2 : Int) (r1 : Int) (r2 : Bool) (w : World) (hr0 : Kd.C (Kd.int .u8) w A0 l0.length l0) (hc0 : l0.length ≤ c0) (h : octets_Uint.f l0 a1 a2 = some (r1, r2)) :
  Calls Try.prog 89 #[.slice A0 l0.length c0, .int .i64 a1, .int .i64 a2] w fun e w' => e = .returned (.tuple #[.int .u64 r1, .bool r2]) ∧ Drawn0 w w' := by
 have hn := hr0.2.1
 unfold octets_Uint.f at h
 by_cases hin : 1 ≤ a2 ∧ a2 ≤ 8 ∧ 0 ≤ a1 ∧ a1 ≤ (l0.length : Int) - a2
 ·
  rw [if_pos hin] at h
  obtain ⟨g1, g2, g3, g4⟩ := hin
  by_cases hb : bytesOk ((l0.take (a1 + a2).toNat).drop a1.toNat)
  case neg => rw [if_neg hb] at h; exact absurd h (by simp)
  rw [if_pos hb] at h
  simp only [Option.some.injEq, Prod.mk.injEq] at h
  obtain ⟨e1, rfl⟩ := h
  have E1 := Aside0.mk e1
  obtain ⟨i0, hi0, _, hsz, _⟩ := info_parts info5
  obtain ⟨A2, hc2, hA2, hL2⟩ := print_mid_of (P := Try.prog) (Value.int .u8) 0 33 5 .i64 .i64 Try.underlying33 hi0 hsz A0 c0 l0 a1 (a1 + a2) g3 (by omega) (by omega) hc0
  have hC := Kd.C_of_reads (enc := Value.int .u8) (h1 := fun _ => rfl) (hA2 _ (Kd.reads_of_C (d := (0 : Int)) hr0))
  have hlen : ((l0.take (a1 + a2).toNat).drop a1.toNat).length = a2.toNat := by rw [List.length_drop, List.length_take]; omega
  have w0 : IntKind.i64.wrap (a1 + a2) = a1 + a2 := IntWalk.i64_in _ (by omega)
  have d1 : decide (a2 < 1) = false := decide_eq_false (by omega)
  have d2 : decide (8 < a2) = false := decide_eq_false (by omega)
  have d3 : decide (a1 < 0) = false := decide_eq_false (by omega)
  have d4 : decide ((l0.length : Int) - a2 < a1) = false := decide_eq_false (by omega)
  clear hi0 hsz hA2 hL2 e1 hr0
  rw [hlen] at hc2 hC
  generalize ((l0.take (a1 + a2).toNat).drop a1.toNat) = X at *
  have HC := Aside0.mk hC
  have HB := Aside0.mk hb
  have HL := Aside0.mk hlen
  clear hC hb hlen
  obtain ⟨m, rfl⟩ : ∃ m : Nat, a2 = m := ⟨a2.toNat, by omega⟩
  rw [Int.toNat_natCast] at hc2 HC HL
  go_enter Try.func89, Try.ntmps89
  go_wp2
  go_loop [6, 35] (fun n i => ∃ k : Nat, k ≤ m ∧ i = .int .i64 k ∧ n = .int .u64 (beU (X.take k))) (fun _ i => m - (intOf i).toNat)
  case atStart => exact ⟨0, Nat.zero_le _, rfl, rfl⟩
  case round =>
   obtain ⟨k, hk, rfl, rfl⟩ := hrel
   by_cases hlt : k < m
   ·
    obtain ⟨ad, e, hx⟩ := (Kd.reads_of_C (enc := Value.int .u8) (h1 := fun _ => rfl) (d := (0 : Int)) HC.out).2.2 (by omega)
    subst e
    replace hx := hx k hlt
    have hkX : k < X.length := by rw [HL.out]; exact hlt
    have hgd : X.getD k 0 = X[k] := by rw [List.getD_eq_getElem?_getD, List.getElem?_eq_getElem hkX]; rfl
    have hby := HB.out X[k] (List.getElem_mem hkX)
    have hbd := beU_bd7 (X.take k) (by rw [List.length_take]; omega) (bytesOk_take HB.out k)
    have hsn : beU (X.take (k + 1)) = beU (X.take k) * 256 + X[k] := by rw [List.take_succ_eq_append_getElem hkX, beU_snoc]
    rw [hgd] at hx
    have hor := or_byte (beU (X.take k)) X[k] hbd.1 hbd.2 hby.1 hby.2
    have HS := Aside0.mk hsn
    clear hsn hgd hbd
    generalize X[k] = c at *
    generalize beU (X.take k) = N at *
    clear hkX hby
    go_wp2
    go_round
    case rel => exact ⟨k + 1, by omega, by go_num, by rw [HS.out]⟩
    case measure => simp [intOf]; omega
   ·
    obtain rfl : k = m := by omega
    have hT : X.take k = X := by rw [List.take_of_length_le (by rw [HL.out]; exact Nat.le_refl _)]
    have HT := Aside0.mk hT
    clear hT
    go_wp2
    go_ret2
    exact ⟨by rw [HT.out, E1.out]; rfl, Drawn0.refl _⟩
 ·
  rw [if_neg hin] at h
  simp only [Option.some.injEq, Prod.mk.injEq] at h
  obtain ⟨rfl, rfl⟩ := h
  clear hr0 hc0
  by_cases e1 : a2 < 1
  ·
   go_enter Try.func89, Try.ntmps89
   go_wp2
   go_ret2
   exact ⟨rfl, Drawn0.refl _⟩
  by_cases e2 : 8 < a2
  ·
   have d1 : decide (a2 < 1) = false := decide_eq_false e1
   go_enter Try.func89, Try.ntmps89
   go_wp2
   go_ret2
   exact ⟨rfl, Drawn0.refl _⟩
  by_cases e3 : a1 < 0
  ·
   have d1 : decide (a2 < 1) = false := decide_eq_false e1
   have d2 : decide (8 < a2) = false := decide_eq_false e2
   go_enter Try.func89, Try.ntmps89
   go_wp2
   go_ret2
   exact ⟨rfl, Drawn0.refl _⟩
  ·
   have e4 : (l0.length : Int) - a2 < a1 := by omega
   have d1 : decide (a2 < 1) = false := decide_eq_false e1
   have d2 : decide (8 < a2) = false := decide_eq_false e2
   have d3 : decide (a1 < 0) = false := decide_eq_false e3
   have d4 : decide ((l0.length : Int) - a2 < a1) = true := decide_eq_true e4
   clear hin
   go_enter Try.func89, Try.ntmps89
   go_wp2
   go_ret2
   exact ⟨rfl, Drawn0.refl _⟩
end Go.Proofs.Ytdcgclhmfflheaa.PQ
