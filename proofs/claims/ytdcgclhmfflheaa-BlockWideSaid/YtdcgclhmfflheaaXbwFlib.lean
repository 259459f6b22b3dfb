import Derived.Test.YtdcgclhmfflheaaXbwPQ0
import Derived.WalkSpells
import Derived.Lib.Hide
namespace Go.Proofs.Ytdcgclhmfflheaa.PQ
open Go.RowKit Go.Proofs.YtdcgclhmfflheaaW.PrintWords Go.Proofs.YtdcgclhmfflheaaW.PrintLast Go.Proofs.YtdcgclhmfflheaaW.PrintMore
set_option linter.unusedVariables false
set_option linter.unusedSimpArgs false
def slices_Clone_byte_byte.f (l0 : List Int) : Option (List Int) := if l0.length < 140737488355328 then some l0 else none
set_option maxHeartbeats 1000000 in
theorem slices_Clone_byte_byte.calls (A0 : Option Addr) (c0 : Nat) (l0 : List Int) (r : List Int) (w : World) (hr0 : Kd.C (Kd.int .u8) w A0 l0.length l0) (hc0 : l0.length ≤ c0) (h : slices_Clone_byte_byte.f l0 = some r) :
  Calls Try.prog 71 #[.slice A0 l0.length c0] w fun e w' => ∃ v0_ : Value, e = .returned (v0_) ∧ Kd.R (Kd.int .u8) 5 w' w.heap.size (fun _ => True) v0_ r ∧ Below w.heap.size w w' := by
 unfold slices_Clone_byte_byte.f at h
 by_cases hl : l0.length < 140737488355328
 case neg => rw [if_neg hl] at h; exact absurd h (by simp)
 rw [if_pos hl] at h
 obtain rfl := Option.some.inj h
 clear h
 have HL := Aside0.mk hl
 clear hl
 have hnil := fun (w : World) (a : Option Addr) (n c : Nat) => Lib.run_eql_slice_nil (P := Try.prog) w 33 5 a n c 0 0 Try.underlying33
 cases A0 with
 | none =>
  have h0 : l0 = [] := by
   cases l0 with
   | nil => rfl
   | cons x l => obtain ⟨ad, e, _⟩ := hr0.2.2 (by simp); exact absurd e (by simp)
  subst h0
  go_enter Try.func71, Try.ntmps71
  go_wp2
  go_ret
  exact ⟨_, rfl, Kd.R_nil _ _ _ _ _, Below.refl _ _⟩
 | some ad =>
  have HR0 := Aside0.mk hr0
  have HC0 := Aside0.mk hc0
  clear hr0 hc0
  have HB := Aside0.mk (Below.refl w.heap.size w)
  go_enter Try.func71, Try.ntmps71
  go_wp2_with (first | ((with_reducible refine gate_dst (N := 5) rfl ?_); refine Kd.R_lit (Kd.int .u8) _ 5 ?hg (N := 5) ?hd (xs := ([] : List Int)) (inner := []) (ok := fun _ => True) (okp := fun _ => True) ?hr ?hp (fun _ hk => hk) trivial (Below.refl _ _) (Nat.le_refl _) (by simp) ?_; (case hd => rfl); (case hg => rfl); (case hr => first | (go_simp; done) | (go_simp; rfl)); (case hp => exact (Reps.none _ _)); intro v431 w6 ho7 hb hg_ hnew_; clear hg_ hnew_; have n0_ := Aside0.mk (Kd.R_lower ho7 (below_size (by repeat (first | (with_reducible first | exact HB.out | apply below_alloc | apply pw_below_drewN | apply below_drew1) | exact HB.out)))); have n1_ := Aside0.mk (below_step (by repeat (first | (with_reducible first | exact HB.out | apply below_alloc | apply pw_below_drewN | apply below_drew1) | exact HB.out)) hb); clear HB; have HO432 := n0_; have HB := n1_; clear n0_ n1_; clear hb ho7) | ((with_reducible refine gate_builtin (b := .append) (xs := #[.tmp 5, .tmp 6]) rfl ?_); at_builtin; refine Kd.R_append_rows (Kd.int .u8) (w0 := w) w.heap.size rfl (.tmp 5) (.tmp 6) 33 5 (.int .u8 0) 1 rfl Try.underlying33 info5 rfl (by decide) (by omega) v431 [] l0 _ _ _ (fun _ => True) (fun _ => False) rfl rfl ?aO ?aR (fun _ _ h => h) (fun _ h => h.elim) ?aF ?aB ?aS ?aL ?_; (case aR => repeat (first | exact (Kd.C_below HR0.out HB.out) | (with_reducible refine Kd.C_alloc ?_ _) | (with_reducible refine Kd.C_drewN ?_ _) | (with_reducible refine Kd.C_drew ?_))); (case aB => exact (by repeat (first | (with_reducible first | exact HB.out | apply below_alloc | apply pw_below_drewN | apply below_drew1) | exact HB.out))); (case aF => exact (fun _ _ => trivial)); (case aO => exact (by (with_reducible repeat (first | apply Kd.R_alloc | apply Kd.R_drewN | apply Kd.R_drew)); exact HO432.out)); (case aS => exact (below_size (by repeat (first | (with_reducible first | exact HB.out | apply below_alloc | apply pw_below_drewN | apply below_drew1) | exact HB.out)))); (case aL => have := HL.out; simp; omega); intro v434 w8 ho hb hg hat; have n0_ := Aside0.mk (hb); have n1_ := Aside0.mk (ho); clear HB; clear HO432; have HB := n0_; have HO435 := n1_; clear n0_ n1_; clear ho hb hg hat))
  go_ret
  exact ⟨_, rfl, by (with_reducible repeat (first | apply Kd.R_alloc | apply Kd.R_drewN | apply Kd.R_drew)); exact HO435.out, HB.out⟩
set_option maxHeartbeats 1000000 in
theorem slices_Grow_nil (n : Int) (w : World) (h0 : 0 ≤ n) (h1 : n < 140737488355328) :
  Calls Try.prog 75 #[.slice none 0 0, .int .i64 n] w fun e w' => ∃ v0_ : Value, e = .returned (v0_) ∧ Kd.R (Kd.int .u8) 5 w' w.heap.size (fun _ => True) v0_ [] ∧ Below w.heap.size w w' := by
 have HB := Aside0.mk (Below.refl w.heap.size w)
 by_cases hn : 0 < n
 ·
  have d0 : decide (n < 0) = false := decide_eq_false (by omega)
  go_enter Try.func75, Try.ntmps75
  go_wp2_with (first | (at_builtin; (refine Kd.R_append_zeros (Kd.int .u8) (w0 := w) w.heap.size rfl (.tmp 20) (.tmp 21) 33 3 5 (.int .u8 0) 1 rfl Try.underlying33 Try.underlying3 info5 rfl (by decide) (by omega) (.slice none 0 0) [] 0 n (fun _ => True) rfl rfl rfl ?aF ?aO (by omega) ?aB ?aS ?aL ?_; (case aB => exact HB.out); (case aF => exact (fun _ _ => trivial)); (case aO => exact Kd.R_nil _ _ _ _ _); (case aS => exact Nat.le_refl _); (case aL => simp only [List.length_nil]; omega); intro v434 w8 ho hb hg hat; obtain ⟨A9, c9, rfl⟩ := Kd.R_slice ho; obtain ⟨i0q, hi0q, _, hszq, _⟩ := info_parts info5; have hq := (Kd.R_reads' ho).1; have q9 : (0 : Int) ≤ (([] ++ List.replicate n.toNat (0 : Int)).length : Int) := (by omega); have hcut := cut_to (P := Try.prog) 33 5 .i64 Try.underlying33 hi0q A9 ([] ++ List.replicate n.toNat (0 : Int)).length c9 0 (Int.le_refl 0) q9 (Kd.R_reads' ho).2.1; have hr := Kd.R_take (m := 0) ho (Nat.zero_le _); clear hq hi0q hszq; have n0_ := Aside0.mk (hb); have n1_ := Aside0.mk hr; clear HB ho; have HB := n0_; have HO435 := n1_; clear n0_ n1_; clear hb hg hat)))
  go_ret
  exact ⟨_, rfl, by (with_reducible repeat (first | apply Kd.R_alloc | apply Kd.R_drewN | apply Kd.R_drew)); exact HO435.out, HB.out⟩
 ·
  obtain rfl : n = 0 := by omega
  go_enter Try.func75, Try.ntmps75
  go_wp2
  go_ret
  exact ⟨_, rfl, Kd.R_nil _ _ _ _ _, Below.refl _ _⟩
def slices_Concat_byte_byte.f (l0 : List (List Int)) : Option (List Int) := if l0.flatten.length < 140737488355328 then some l0.flatten else none
theorem rd_rows (l0 : List (List Int)) (k : Nat) (h : k < l0.length) : rd_L6 l0 (k : Int) = l0[k] := by
 unfold rd_L6
 rw [Int.toNat_natCast, List.getD_eq_getElem?_getD, List.getElem?_eq_getElem h]
 rfl
theorem flat_take_succ (l0 : List (List Int)) (k : Nat) (h : k < l0.length) : (l0.take (k + 1)).flatten = (l0.take k).flatten ++ rd_L6 l0 (k : Int) := by
 rw [rd_rows l0 k h, List.take_succ_eq_append_getElem h, List.flatten_append]
 simp
theorem flat_take_le (l0 : List (List Int)) (k : Nat) : (l0.take k).flatten.length ≤ l0.flatten.length := by
 conv => rhs; rw [← List.take_append_drop k l0, List.flatten_append, List.length_append]
 omega
set_option maxHeartbeats 1000000 in
set_option maxRecDepth 100000 in
theorem slices_Concat_byte_byte.calls (A0 : Option Addr) (c0 : Nat) (l0 : List (List Int)) (r : List Int) (w : World) (hr0 : Kd.C (Kd.slice 5 (Kd.int .u8)) w A0 l0.length l0) (hc0 : l0.length ≤ c0) (h : slices_Concat_byte_byte.f l0 = some r) :
  Calls Try.prog 44 #[.slice A0 l0.length c0] w fun e w' => ∃ v0_ : Value, e = .returned (v0_) ∧ Kd.R (Kd.int .u8) 5 w' w.heap.size (fun _ => True) v0_ r ∧ Below w.heap.size w w' := by
 unfold slices_Concat_byte_byte.f at h
 by_cases hl : l0.flatten.length < 140737488355328
 case neg => rw [if_neg hl] at h; exact absurd h (by simp)
 rw [if_pos hl] at h
 obtain rfl := Option.some.inj h
 clear h
 have HL := Aside0.mk hl
 clear hl
 have HR0 := Aside0.mk hr0
 have HN : l0.length ≤ 9223372036854775807 := hr0.2.1
 have HC0 := Aside0.mk hc0
 clear hr0 hc0
 have HB := Aside0.mk (Below.refl w.heap.size w)
 go_enter Try.func44, Try.ntmps44
 go_wp2
 go_loop [3, 11] (fun s i => ∃ k : Nat, k ≤ l0.length ∧ i = .int .i64 k ∧ s = .int .i64 ((l0.take k).flatten.length : Nat)) (fun _ i => l0.length - (intOf i).toNat)
 case atStart => exact ⟨0, Nat.zero_le _, rfl, by simp⟩
 case round =>
  obtain ⟨k, hk, rfl, rfl⟩ := hrel
  by_cases hlt : k < l0.length
  ·
   obtain ⟨ad, A1, c1, rfl, hx, _, _⟩ := at_L6 HR0.out (k : Int) (by omega) (by omega)
   have hf := flat_take_succ l0 k hlt
   have hle := flat_take_le l0 (k + 1)
   have hl := HL.out
   have hs : ((l0.take (k + 1)).flatten.length : Nat) = (l0.take k).flatten.length + (rd_L6 l0 (k : Int)).length := by rw [hf, List.length_append]
   rw [hs] at hle
   have HS := Lib.hid hs
   clear hf hs
   generalize (l0.take k).flatten.length = S at *
   generalize (rd_L6 l0 (k : Int)).length = n1 at *
   have hlim : S + n1 < 140737488355328 := by omega
   clear hl hle
   rw [Int.toNat_natCast] at hx
   go_wp2
   go_round
   case rel => exact ⟨k + 1, by omega, by go_num, by rw [HS.out]; go_num⟩
   case measure => simp [intOf]; omega
  ·
   obtain rfl : k = l0.length := by omega
   have hcl : (l0.take l0.length).flatten = l0.flatten := by rw [List.take_length]
   have HCL := Lib.hid hcl
   rw [hcl]
   clear hcl
   have hl := HL.out
   generalize hT : l0.flatten.length = T at *
   have HT := Lib.hid hT
   clear hT
   go_wp2_with (go_at_call 75; refine (slices_Grow_nil _ _ (by omega) (by omega)).mono ?_; rintro e w7 ⟨v134, rfl, ho0, hb⟩)
   have HO := Aside0.mk ho0
   clear HB ho0
   have HB := Aside0.mk hb
   clear hb hk hlt hl
   go_loopw [6, 27] (fun v i w' => ∃ k : Nat, k ≤ l0.length ∧ i = .int .i64 k ∧ Aside0 (Kd.R (Kd.int .u8) 5 w' w.heap.size (fun _ => True) v ((l0.take k).flatten)) ∧ Aside0 (Below w.heap.size w w')) (fun _ i _ => l0.length - (intOf i).toNat)
   case atStart => exact ⟨0, Nat.zero_le _, rfl, ⟨by simpa using HO.out⟩, HB⟩
   case round =>
    clear HO HB
    obtain ⟨k, hk, rfl, HO, HB⟩ := hrel
    by_cases hlt : k < l0.length
    ·
     obtain ⟨ad, A1, c1, rfl, hx, _, hC⟩ := at_L6 HR0.out (k : Int) (by omega) (by omega)
     have hf := flat_take_succ l0 k hlt
     have hle := flat_take_le l0 (k + 1)
     have hl := HL.out
     rw [hf, List.length_append] at hle
     have HF := Lib.hid hf
     have HLE := Aside0.mk (Nat.lt_of_le_of_lt hle (by rw [HT.out]; exact hl))
     have HC1 := Aside0.mk hC
     clear hf hle hl hC
     generalize rd_L6 l0 (k : Int) = X at *
     rw [Int.toNat_natCast] at hx
     replace hx := (HB.out.cell (World.block_lt_of_cell? w _ hx)).trans hx
     go_wp2_with (first | ((with_reducible refine gate_builtin (b := .append) (xs := #[.tmp 31, .tmp 32]) rfl ?_); at_builtin; (refine Kd.R_append_rows (Kd.int .u8) (w0 := w) w.heap.size rfl (.tmp 31) (.tmp 32) 33 5 (.int .u8 0) 1 rfl Try.underlying33 info5 rfl (by decide) (by omega) u6 ((l0.take k).flatten) X _ _ _ (fun _ => True) (fun _ => False) rfl rfl ?aO ?aR (fun _ _ h => h) (fun _ h => h.elim) ?aF ?aB ?aS ?aL ?_; (case aR => exact (Kd.C_below HC1.out HB.out)); (case aB => exact HB.out); (case aF => exact (fun _ _ => trivial)); (case aO => exact HO.out); (case aS => exact (below_size HB.out)); (case aL => have := HLE.out; omega); intro v434 w8 ho hb hg hat; have n0_ := Aside0.mk (hb); have n1_ := Aside0.mk (ho); clear HB HO; have HB := n0_; have HO := n1_; clear n0_ n1_; clear ho hb hg hat)))
     go_roundw
     case rel => exact ⟨k + 1, by omega, by go_num, ⟨by rw [HF.out]; exact HO.out⟩, HB⟩
     case measure => simp [intOf]; omega
    ·
     obtain rfl : k = l0.length := by omega
     go_wp2
     go_ret
     refine ⟨_, rfl, ?_, HB.out⟩
     have h := HO.out
     rw [List.take_length] at h
     exact h
end Go.Proofs.Ytdcgclhmfflheaa.PQ
