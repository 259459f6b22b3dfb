import Derived.Test.YtdcgclhmfflheaaXbwPQ0
import Derived.WalkSpells
import Derived.Lib.Hide
import Derived.IntWalk
import Derived.Lib.Strings
import Derived.Lib.Slices
import Derived.Lib.Walk
import Derived.Lib.Bytealg
import Derived.Shelf.Bytes.SlIndexAt
namespace Go.Proofs.Ytdcgclhmfflheaa.PQ
open Go.RowKit Go.Proofs.YtdcgclhmfflheaaW.PrintWords Go.Proofs.YtdcgclhmfflheaaW.PrintLast Go.Proofs.YtdcgclhmfflheaaW.PrintMore
set_option linter.unusedVariables false
set_option linter.unusedSimpArgs false
set_option maxHeartbeats 1000000 in
set_option maxRecDepth 100000 in
theorem slite_IndexByte (s : ByteArray) (c : Int) (w : World) :
  Calls Try.prog 103 #[.string s, .int .u8 c] w fun e w' => e = .returned (.int .i64 (Lib.indexByte s.data.toList c.toNat.toUInt8)) ∧ w' = w := by
 go_enter Try.func103, Try.ntmps103
 go_wp2
 rw [run_callFunc_extern Try.func107 (by kernel_rfl) (by kernel_rfl) (by kernel_rfl) (e := Extern.BytealgIndexByte.indexByte) (by kernel_rfl), Lib.run_indexByteString]
 simp only [Result.andThen]
 rw [Oper.upon_value]
 go_wp2
 go_ret
 exact ⟨rfl, rfl⟩
set_option maxHeartbeats 2000000 in
set_option maxRecDepth 100000 in
theorem slite_Index_one (s : ByteArray) (c : UInt8) (w : World) :
  Calls Try.prog 98 #[.string s, .string ⟨#[c]⟩] w fun e w' => e = .returned (.int .i64 (Lib.indexByte s.data.toList c)) ∧ w' = w := by
 go_enter Try.func98, Try.ntmps98
 go_wp2_with (go_at_call 103; refine (slite_IndexByte _ _ _).mono ?_; rintro e w' ⟨rfl, rfl⟩)
 ·
  have h : ([c] == s.toList) = true := by assumption
  go_ret
  refine ⟨?_, rfl⟩
  have e : s.data.toList = [c] := by rw [← Lib.toList_data]; exact (beq_iff_eq.1 h).symm
  rw [e]
  simp [Lib.indexByte]
 ·
  go_ret
  exact ⟨rfl, rfl⟩
set_option maxHeartbeats 1000000 in
theorem strs_Index_one (s : ByteArray) (c : UInt8) (w : World) :
  Calls Try.prog 88 #[.string s, .string ⟨#[c]⟩] w fun e w' => e = .returned (.int .i64 (Lib.indexByte s.data.toList c)) ∧ w' = w := by
 go_enter Try.func88, Try.ntmps88
 go_wp2_with (go_at_call 98; refine (slite_Index_one _ _ _).mono ?_; rintro e w' ⟨rfl, rfl⟩)
 go_ret
 exact ⟨rfl, rfl⟩
def strings_Contains.f (a0 a1 : ByteArray) : Option Bool := if a1 = ⟨#[0]⟩ then some (decide (0 ≤ Lib.indexByte a0.data.toList 0)) else none
set_option maxHeartbeats 1000000 in
theorem strings_Contains.calls (a0 a1 : ByteArray) (r : Bool) (w : World) (h : strings_Contains.f a0 a1 = some r) :
  Calls Try.prog 76 #[.string a0, .string a1] w fun e w' => e = .returned (.bool r) ∧ Drawn0 w w' := by
 unfold strings_Contains.f at h
 by_cases hl : a1 = ⟨#[0]⟩
 case neg => rw [if_neg hl] at h; exact absurd h (by simp)
 rw [if_pos hl] at h
 obtain rfl := Option.some.inj h
 clear h
 subst hl
 go_enter Try.func76, Try.ntmps76
 go_wp2_with (go_at_call 88; refine (strs_Index_one _ _ _).mono ?_; rintro e w' ⟨rfl, rfl⟩)
 go_ret
 exact ⟨rfl, Drawn0.refl _⟩
set_option maxHeartbeats 1000000 in
set_option maxRecDepth 100000 in
theorem bytes_IndexByte_any (a : Addr) (n c : Nat) (xs : List Int) (cv : Int) (w : World) (hx : xs.length = n) (hc : ∀ i, i < n → w.cell? (a.add i) = some (.int .u8 (xs.getD i 0))) :
  Calls Try.prog 99 #[.slice (some a) n c, .int .u8 cv] w fun e w' => e = .returned (.int .i64 (Lib.indexByte (Lib.bytesOf xs) cv.toNat.toUInt8)) ∧ w' = w := by
 go_enter Try.func99, Try.ntmps99
 go_wp2
 rw [run_callFunc_extern Try.func105 (by kernel_rfl) (by kernel_rfl) (by kernel_rfl) (e := Extern.BytealgIndexByte.indexByte) (by kernel_rfl), Lib.run_indexByteAt w a n c xs hx hc]
 simp only [Result.andThen]
 rw [Oper.upon_value]
 go_wp2
 go_ret
 exact ⟨rfl, rfl⟩
set_option maxHeartbeats 1000000 in
set_option maxRecDepth 100000 in
theorem bytes_IndexByte_none (cv : Int) (c : Nat) (w : World) :
  Calls Try.prog 99 #[.slice none 0 c, .int .u8 cv] w fun e w' => e = .returned (.int .i64 (-1)) ∧ w' = w := by
 go_enter Try.func99, Try.ntmps99
 go_wp2
 rw [run_callFunc_extern Try.func105 (by kernel_rfl) (by kernel_rfl) (by kernel_rfl) (e := Extern.BytealgIndexByte.indexByte) (by kernel_rfl), Lib.run_indexByteNil w 0 c]
 simp only [Result.andThen]
 rw [Oper.upon_value]
 go_wp2
 go_ret
 exact ⟨rfl, rfl⟩
theorem reads_cells {w : World} {a : Addr} {xs : List Int} (h : Kd.C (Kd.int .u8) w (some a) xs.length xs) : ∀ i, i < xs.length → w.cell? (a.add i) = some (.int .u8 (xs.getD i 0)) := by
 intro i hi
 have hr := Kd.reads_of_C (d := (0 : Int)) h
 obtain ⟨ad, e, hc⟩ := hr.2.2 (by omega)
 injection e with e
 subst e
 exact hc i hi
theorem reads_none {w : World} {xs : List Int} (h : Kd.C (Kd.int .u8) w none xs.length xs) : xs = [] := by
 cases xs with
 | nil => rfl
 | cons x l => obtain ⟨ad, e, _⟩ := h.2.2 (by simp); exact absurd e (by simp)
theorem index_lt : ∀ (l : List UInt8) (c : UInt8), Lib.indexByte l c < l.length ∨ l = []
 | [], _ => .inr rfl
 | b :: l, c => by
  left
  have h := index_lt l c
  have hg := Lib.indexByte_ge l c
  simp only [Lib.indexByte, List.length_cons]
  split
  ·
   omega
  ·
   split
   ·
    omega
   ·
    rcases h with h | rfl
    ·
     omega
    ·
     simp [Lib.indexByte] at *
theorem index_bd (xs : List Int) : -1 ≤ Lib.indexByte (Lib.bytesOf xs) 0 ∧ (0 ≤ Lib.indexByte (Lib.bytesOf xs) 0 → Lib.indexByte (Lib.bytesOf xs) 0 < xs.length) := by
 refine ⟨Lib.indexByte_ge _ _, fun h => ?_⟩
 have hl : (Lib.bytesOf xs).length = xs.length := by simp [Lib.bytesOf]
 rcases index_lt (Lib.bytesOf xs) 0 with h1 | h1
 ·
  rw [hl] at h1; exact h1
 ·
  rw [h1] at h; exact absurd h (by decide)
set_option maxHeartbeats 2000000 in
set_option maxRecDepth 100000 in
theorem bytes_Index_one (A : Option Addr) (c : Nat) (xs : List Int) (g : Nat) (w : World) (hr : Kd.C (Kd.int .u8) w A xs.length xs) (hs : w.cell? ⟨g, 0, none⟩ = some (.int .u8 0)) :
  Calls Try.prog 90 #[.slice A xs.length c, .slice (some ⟨g, 0, none⟩) 1 1] w fun e w' => e = .returned (.int .i64 (Lib.indexByte (Lib.bytesOf xs) 0)) ∧ w' = w := by
 have hn := hr.2.1
 cases A with
 | none =>
  have hx := reads_none hr
  subst hx
  go_enter Try.func90, Try.ntmps90
  go_wp2_with (go_at_call 99; refine (bytes_IndexByte_none _ _ _).mono ?_; rintro e w' ⟨rfl, rfl⟩)
  go_ret
  exact ⟨rfl, rfl⟩
 | some a =>
  have hcells := Aside0.mk (reads_cells hr)
  clear hr
  go_enter Try.func90, Try.ntmps90
  go_wp2_with (go_at_call 99; refine (bytes_IndexByte_any a _ _ xs 0 _ rfl hcells.out).mono ?_; rintro e w' ⟨rfl, rfl⟩)
  go_ret
  exact ⟨rfl, rfl⟩
def CutYes (A : Option Addr) (c n : Nat) (w : World) (e : Ending) (w' : World) : Prop := ∃ v : Value, e = .returned (.tuple #[.slice A n c, v, .bool true]) ∧ Drawn0 w w'
set_option maxHeartbeats 2000000 in
theorem bytes_Cut_yes (A : Option Addr) (c : Nat) (xs : List Int) (g : Nat) (w : World) (hr : Kd.C (Kd.int .u8) w A xs.length xs) (hcap : xs.length ≤ c) (hs : w.cell? ⟨g, 0, none⟩ = some (.int .u8 0)) (h0 : 0 ≤ Lib.indexByte (Lib.bytesOf xs) 0) :
  Calls Try.prog 79 #[.slice A xs.length c, .slice (some ⟨g, 0, none⟩) 1 1] w (CutYes A c (Lib.indexByte (Lib.bytesOf xs) 0).toNat w) := by
 have hb := (index_bd xs).2 h0
 have hn := hr.2.1
 have HI := bytes_Index_one A c xs g w hr hs
 generalize Lib.indexByte (Lib.bytesOf xs) 0 = t at *
 have HIH := Aside0.mk HI
 clear HI
 have HR := Aside0.mk hr
 clear hr
 obtain ⟨i0, hi0, _, hsz, _⟩ := info_parts info5
 obtain ⟨hc1, _, _⟩ := print_take_of (P := Try.prog) (Value.int .u8) 0 33 5 .i64 Try.underlying33 hi0 hsz A c xs t h0 (by omega) hcap
 obtain ⟨A2, hc2, _, _⟩ := print_drop_of (P := Try.prog) (Value.int .u8) 0 33 5 .i64 Try.underlying33 hi0 hsz A c xs (t + 1) (by omega) (by omega) hcap
 clear hi0 hsz
 have hl : (xs.take t.toNat).length = t.toNat := by rw [List.length_take]; omega
 rw [hl] at hc1
 clear hl
 have w0 : IntKind.i64.wrap (t + 1) = t + 1 := IntWalk.i64_in _ (by omega)
 go_enter Try.func79, Try.ntmps79
 go_wp2_with (go_at_call 90; refine (HIH.out).mono ?_; rintro e w' ⟨rfl, rfl⟩)
 go_quiet (fail)
 go_wp2
 go_ret3
 exact ⟨_, rfl, ⟨nq, rfl⟩⟩
set_option maxHeartbeats 2000000 in
theorem bytes_Cut_no (A : Option Addr) (c : Nat) (xs : List Int) (g : Nat) (w : World) (hr : Kd.C (Kd.int .u8) w A xs.length xs) (hs : w.cell? ⟨g, 0, none⟩ = some (.int .u8 0)) (h0 : ¬ 0 ≤ Lib.indexByte (Lib.bytesOf xs) 0) :
  Calls Try.prog 79 #[.slice A xs.length c, .slice (some ⟨g, 0, none⟩) 1 1] w fun e w' => e = .returned (.tuple #[.slice A xs.length c, .slice none 0 0, .bool false]) ∧ w' = w := by
 have hb := (index_bd xs).1
 have HI := bytes_Index_one A c xs g w hr hs
 generalize Lib.indexByte (Lib.bytesOf xs) 0 = t at *
 obtain rfl : t = -1 := by omega
 have HIH := Aside0.mk HI
 clear HI hr
 go_enter Try.func79, Try.ntmps79
 go_wp2_with (go_at_call 90; refine (HIH.out).mono ?_; rintro e w' ⟨rfl, rfl⟩)
 go_ret3
 exact ⟨rfl, rfl⟩
def octets_Name.f (l0 : List Int) (a1 : Int) : Option (ByteArray × Bool) :=
 if 0 ≤ a1 ∧ a1 ≤ l0.length then
  (if 0 ≤ Lib.indexByte (Lib.bytesOf (l0.drop a1.toNat)) 0 then some (strOfNums ((l0.drop a1.toNat).take (Lib.indexByte (Lib.bytesOf (l0.drop a1.toNat)) 0).toNat), true) else some (⟨#[]⟩, false))
 else some (⟨#[]⟩, false)
set_option maxHeartbeats 2000000 in
theorem octets_Name.calls (A0 : Option Addr) (c0 : Nat) (l0 : List Int) (a1 : Int) (r1 : ByteArray) (r2 : Bool) (w : World) (hr0 : Kd.C (Kd.int .u8) w A0 l0.length l0) (hc0 : l0.length ≤ c0) (h : octets_Name.f l0 a1 = some (r1, r2)) :
  Calls Try.prog 56 #[.slice A0 l0.length c0, .int .i64 a1] w fun e w' => e = .returned (.tuple #[.string r1, .bool r2]) ∧ Below w.heap.size w w' := by
 have hn := hr0.2.1
 unfold octets_Name.f at h
 by_cases hin : 0 ≤ a1 ∧ a1 ≤ l0.length
 ·
  rw [if_pos hin] at h
  obtain ⟨h0, h1⟩ := hin
  have d0 : decide (a1 < 0) = false := decide_eq_false (by omega)
  have d1 : decide ((l0.length : Int) < a1) = false := decide_eq_false (by omega)
  obtain ⟨i0, hi0, _, hsz, _⟩ := info_parts info5
  obtain ⟨A2, hc2, hR2, hL2⟩ := print_drop_of (P := Try.prog) (Value.int .u8) 0 33 5 .i64 Try.underlying33 hi0 hsz A0 c0 l0 a1 h0 h1 hc0
  have hC2 := Kd.C_of_reads (h1 := fun _ => rfl) (hR2 _ (Kd.reads_of_C hr0))
  have hk : (IntKind.u8).wrap 0 = 0 := rfl
  clear hR2 hi0 hsz
  generalize hX : l0.drop a1.toNat = X at *
  generalize hC : c0 - a1.toNat = C at *
  clear hX hC hr0
  have HC2 := Aside0.mk hC2
  have hB := fun (g : Nat) (W : World) (hb : Below w.heap.size w W) => Kd.C_below hC2 hb
  clear hC2
  by_cases hy : 0 ≤ Lib.indexByte (Lib.bytesOf X) 0
  ·
   rw [if_pos hy] at h
   simp only [Option.some.injEq, Prod.mk.injEq] at h
   obtain ⟨e1, rfl⟩ := h
   have E1 := Aside0.mk e1
   clear e1
   go_enter Try.func56, Try.ntmps56
   go_wp2_with fail
   refine (bytes_Cut_yes A2 C X _ _ (hB 0 _ ((Below.refl _ _).alloc (Nat.le_refl _) _)) hL2 (by simp [go_sem]) hy).mono ?_
   rintro e w1 ⟨v, rfl, hd⟩
   have hb1 : Below w.heap.size w w1 := ((Below.refl _ _).alloc (Nat.le_refl _) _).trans ((hd.below).mono (by simp))
   have hb2 := (index_bd X).2 hy
   have hl : (X.take (Lib.indexByte (Lib.bytesOf X) 0).toNat).length = (Lib.indexByte (Lib.bytesOf X) 0).toNat := by rw [List.length_take]; omega
   have hcx := Kd.C_of_reads (enc := Value.int .u8) (h1 := fun _ => rfl) (ReadsOf.take_ (Kd.reads_of_C (d := (0 : Int)) (hB 0 _ hb1)) (Lib.indexByte (Lib.bytesOf X) 0).toNat (by omega))
   have hcv := Kd.C_string (P := Try.prog) (A := A2) (c := C) Try.underlying33 Try.underlying5 Try.underlying9 hcx
   have HB1 := Aside0.mk hb1
   clear hcx hb2 hl hB HC2 hc2 hd hb1 hL2
   generalize hS : strOfNums (X.take (Lib.indexByte (Lib.bytesOf X) 0).toNat) = S at hcv
   have HS := Aside0.mk hS
   clear hS
   generalize (Lib.indexByte (Lib.bytesOf X) 0).toNat = t at hcv ⊢
   go_wp2
   go_ret2
   exact ⟨by rw [← E1.out, ← HS.out]; rfl, HB1.out⟩
  ·
   rw [if_neg hy] at h
   simp only [Option.some.injEq, Prod.mk.injEq] at h
   obtain ⟨rfl, rfl⟩ := h
   go_enter Try.func56, Try.ntmps56
   go_wp2_with fail
   refine (bytes_Cut_no A2 C X _ _ (hB 0 _ ((Below.refl _ _).alloc (Nat.le_refl _) _)) (by simp [go_sem]) (by omega)).mono ?_
   rintro e w1 ⟨rfl, rfl⟩
   go_wp2
   go_ret2
   exact ⟨rfl, (Below.refl _ _).alloc (Nat.le_refl _) _⟩
 ·
  rw [if_neg hin] at h
  simp only [Option.some.injEq, Prod.mk.injEq] at h
  obtain ⟨rfl, rfl⟩ := h
  by_cases h0 : a1 < 0
  ·
   go_enter Try.func56, Try.ntmps56
   go_wp2
   go_ret2
   exact ⟨rfl, Below.refl _ _⟩
  ·
   have h1 : (l0.length : Int) < a1 := by omega
   go_enter Try.func56, Try.ntmps56
   go_wp2
   go_ret2
   exact ⟨rfl, Below.refl _ _⟩
end Go.Proofs.Ytdcgclhmfflheaa.PQ
