import Derived.Test.YtdcgclhmfflheaaXbwPQ0
import Derived.WalkSpells
import Derived.Lib.Hide
import Derived.RegionTactic
import Derived.Shelf.Strings.BuilderK
namespace Go.Proofs.Ytdcgclhmfflheaa.PQ
open Go.RowKit Go.Proofs.YtdcgclhmfflheaaW.PrintWords Go.Proofs.YtdcgclhmfflheaaW.PrintLast Go.Proofs.YtdcgclhmfflheaaW.PrintMore
set_option linter.unusedVariables false
set_option linter.unusedSimpArgs false
theorem bsize : (Try.prog.info? 126).map (·.size) = some 2 := by kernel_rfl
theorem blies : liesAt Try.prog Try.prog.depth 126 (2 / Try.prog.cellsOf 126) 0 126 1 = true := by kernel_rfl
theorem bcells5 : Try.prog.cellsOf 5 = 1 := by kernel_rfl
set_option maxHeartbeats 1000000 in
theorem bld_Len (b : Nat) (p : Value) (A : Option Addr) (n c : Nat) (w : World) (hb : w.heap[b]? = some (.cells #[p, .slice A n c] 126 (0, 0))) :
  Calls Try.prog 72 #[.pointer (some ⟨b, 0, none⟩)] w fun e w' => e = .returned (.int .i64 n) ∧ w' = w := by
 have c1 : w.cell? ⟨b, 1, none⟩ = some (.slice A n c) := by rw [Lib.cell_of_heap hb]; rfl
 clear hb
 go_enter Try.func72, Try.ntmps72
 go_wp2
 go_ret
 exact ⟨rfl, rfl⟩
set_option maxHeartbeats 1000000 in
set_option maxRecDepth 100000 in
theorem bld_used (b : Nat) (w : World) (h0 : w.cell? ⟨b, 0, none⟩ = some (.pointer (some ⟨b, 0, none⟩))) :
  Calls Try.prog 87 #[.pointer (some ⟨b, 0, none⟩)] w fun e w' => e = .returned (.tuple #[]) ∧ w' = w := by
 obtain ⟨j, hj, _⟩ := Option.map_eq_some_iff.1 bsize
 go_enter Try.func87, Try.ntmps87
 go_wp2
 rw [Lib.run_neq_ptr_same w _ Try.underlying124 hj]
 go_wp2
 go_end0
 exact ⟨rfl, rfl⟩
set_option maxHeartbeats 1000000 in
set_option maxRecDepth 100000 in
theorem bld_fresh (b : Nat) (w : World) (h0 : w.cell? ⟨b, 0, none⟩ = some (.pointer none)) (hsh : w.shape? b = some (126, 2)) (hfz : w.frozen? ⟨b, 0, none⟩ = false) :
  Calls Try.prog 87 #[.pointer (some ⟨b, 0, none⟩)] w fun e w' => e = .returned (.tuple #[]) ∧ w' = w.setCell ⟨b, 0, none⟩ (.pointer (some ⟨b, 0, none⟩)) := by
 obtain ⟨j, hj, hjs⟩ := Option.map_eq_some_iff.1 bsize
 go_enter Try.func87, Try.ntmps87
 go_wp2
 rw [Lib.run_to_unsafe w ⟨b, 0, none⟩ Try.underlying124 Try.underlying160 hj (by rw [hjs]; decide) hsh (Nat.zero_lt_succ 1)]
 simp only [Result.andThen]
 rw [Oper.upon_value]
 go_wp2
 rw [run_callFunc_extern Try.func97 (by kernel_rfl) (by kernel_rfl) (by kernel_rfl) (e := Extern.AbiNoEscape.same) (by kernel_rfl)]
 rw [Lib.run_noEscape]
 simp only [Result.andThen]
 rw [Oper.upon_value]
 go_wp2
 rw [Lib.run_from_unsafe w ⟨b, 0, none⟩ Try.underlying160 Try.underlying124 hj hsh blies]
 simp only [Result.andThen]
 rw [Oper.upon_value]
 go_wp2
 go_end0
 exact ⟨rfl, rfl⟩
theorem bld_check (b : Nat) (p v : Value) (w : World) (hb : w.heap[b]? = some (.cells #[p, v] 126 (0, 0))) (hp : p = .pointer none ∨ p = .pointer (some ⟨b, 0, none⟩)) :
  Calls Try.prog 87 #[.pointer (some ⟨b, 0, none⟩)] w fun e w' => e = .returned (.tuple #[]) ∧ w'.heap[b]? = some (.cells #[.pointer (some ⟨b, 0, none⟩), v] 126 (0, 0)) ∧ KeepBut w w' b none ∧ w'.heap.size = w.heap.size ∧ Below b w w' := by
 have c0 : w.cell? ⟨b, 0, none⟩ = some p := by rw [Lib.cell_of_heap hb]; rfl
 rcases hp with rfl | rfl
 ·
  refine (bld_fresh b w c0 (by simp [World.shape?, hb]) (by simp [World.frozen?, hb])).mono ?_
  rintro e w' ⟨rfl, rfl⟩
  refine ⟨rfl, ?_, ?_, by simp, (Below.refl b w).setCell (p := ⟨b, 0, none⟩) (Nat.le_refl _) _⟩
  ·
   exact blk_put hb 0 _ rfl
  ·
   exact ⟨by simp, fun i hi hne _ => Below.heap_setCell w _ _ i hne⟩
 ·
  refine (bld_used b w c0).mono ?_
  rintro e w' ⟨rfl, rfl⟩
  exact ⟨rfl, hb, ⟨Nat.le_refl _, fun _ _ _ _ => rfl⟩, rfl, Below.refl _ _⟩
def BldPost (b base : Nat) (xs : List Int) (w w' : World) : Prop :=
 ∃ v1 : Value, w'.heap[b]? = some (.cells #[.pointer (some ⟨b, 0, none⟩), v1] 126 (0, 0)) ∧ Kd.R (Kd.int .u8) 5 w' base (fun _ => True) v1 xs ∧ w.heap.size ≤ w'.heap.size ∧ Below b w w' ∧ ∀ k, k < base → k ≠ b → w'.heap[k]? = w.heap[k]?
theorem bld_own {w w1 : World} {b base : Nat} {v : Value} {xs : List Int} (h : Kd.R (Kd.int .u8) 5 w base (fun _ => True) v xs) (hk : KeepBut w w1 b none) (hb : b < base) : Kd.R (Kd.int .u8) 5 w1 base (fun _ => True) v xs :=
 Kd.R_mono (Kd.R_step (Kd.R_mono (Kd.R_bound h) (ok' := fun k => base ≤ k) (fun k hk => hk.2.1)) (fun k hk1 hk2 => hk.2 k hk2 (by omega) (by simp))) (fun _ _ => trivial)
set_option maxHeartbeats 2000000 in
set_option maxRecDepth 100000 in
theorem bld_Write (b base : Nat) (p v : Value) (xs : List Int) (s : ByteArray) (w : World) (hb : w.heap[b]? = some (.cells #[p, v] 126 (0, 0))) (hp : p = .pointer none ∨ p = .pointer (some ⟨b, 0, none⟩))
  (HO : Kd.R (Kd.int .u8) 5 w base (fun _ => True) v xs) (hbase : base ≤ w.heap.size) (hbb : b < base) (hl : xs.length + s.size ≤ 140737488355328) :
  Calls Try.prog 73 #[.pointer (some ⟨b, 0, none⟩), .string s] w fun e w' => e = .returned (.tuple #[.int .i64 s.size, .nilIface]) ∧ BldPost b base (xs ++ bytesOf s) w w' := by
 have HC := Aside0.mk (bld_check b p v w hb hp)
 have HO := Aside0.mk HO
 have HL := Aside0.mk hl
 have HS := Aside0.mk hbase
 have HBB := Aside0.mk hbb
 clear hb hp hl hbase hbb
 go_enter Try.func73, Try.ntmps73
 go_wp2_with (first
  | (go_at_call 87; refine HC.out.mono ?_; rintro e w1 ⟨rfl, hb1, hk1, hs1, hbb1⟩; have HK := Aside0.mk hk1; have HBB1 := Aside0.mk hbb1; have HS1 := Aside0.mk hs1; have HB1 := Aside0.mk hb1; have HO1 := Aside0.mk (bld_own HO.out hk1 HBB.out); have c1 : w1.cell? ⟨b, 1, none⟩ = some v := (by rw [Lib.cell_of_heap hb1]; rfl); clear hk1 hs1 hb1 hbb1)
  | (at_builtin; refine print_append_str (w0 := w1) base rfl (.tmp 12) (.tmp 13) 33 9 5 rfl Try.underlying33 Try.underlying9 info5 v xs s rfl rfl ?aO ?aB ?aS ?aL ?_; (case aO => exact Kd.own_of_R HO1.out); (case aB => exact Below.refl _ _); (case aS => rw [HS1.out]; exact HS.out); (case aL => exact HL.out); intro v1 w2 ho0 hb2 hg; have ho1 : Kd.R (Kd.int .u8) 5 w2 base (fun _ => True) v1 (xs ++ bytesOf s) := Kd.R_of_own (h1 := fun _ => rfl) (ok := fun _ => True) ho0 (fun _ _ => trivial); obtain ⟨Av, cv, rfl⟩ := Kd.R_slice ho1; have ho := Aside0.mk ho1; clear ho1; have hb3 := Aside0.mk ((hg.block b (Nat.lt_of_lt_of_le HBB.out (by rw [HS1.out]; exact HS.out)) (by intro e; have := own_base (Kd.own_of_R HO1.out) b e.symm; have := HBB.out; omega)).trans HB1.out); have c2 : w2.cell? ⟨b, 1, none⟩ = some v := (by rw [Lib.cell_of_heap hb3.out]; rfl); have f2 : w2.frozen? ⟨b, 1, none⟩ = false := (by simp [World.frozen?, hb3.out]); have HG := Aside0.mk hg; have HB2 := Aside0.mk hb2; clear ho0 hb2 hg))
 go_ret2
 refine ⟨rfl, _, blk_put hb3.out 1 _ rfl, ?_, ?_, (HBB1.out.trans (HB2.out.mono (Nat.le_of_lt HBB.out))).setCell (p := ⟨b, 1, none⟩) (Nat.le_refl _) _, ?_⟩
 ·
  have ho2 := ho.out
  rw [List.length_append] at ho2
  exact bld_own ho2 ⟨by simp, fun i hi hne _ => Below.heap_setCell w2 _ _ i hne⟩ HBB.out
 ·
  have h1 := HG.out.size
  have h2 := HS1.out
  simp
  omega
 ·
  intro k hk hne
  rw [Below.heap_setCell w2 ⟨b, 1, none⟩ _ k hne]
  have hkw : k < w.heap.size := Nat.lt_of_lt_of_le hk HS.out
  rw [HG.out.block k (by rw [HS1.out]; exact hkw) (by intro e; have := own_base (Kd.own_of_R HO1.out) k e.symm; omega)]
  exact HK.out.2 k hkw hne (by simp)
def StrPost (base : Nat) (w w' : World) : Prop := ∃ g n, base ≤ g ∧ w' = w.drew.freeze ⟨g, 0, none⟩ n
set_option maxHeartbeats 2000000 in
set_option maxRecDepth 100000 in
theorem bld_String (b base : Nat) (p v : Value) (s : ByteArray) (w : World) (hbk : w.heap[b]? = some (.cells #[p, v] 126 (0, 0))) (HO : Kd.R (Kd.int .u8) 5 w base (fun _ => True) v (bytesOf s)) (h0 : s.size ≠ 0) :
  Calls Try.prog 74 #[.pointer (some ⟨b, 0, none⟩)] w fun e w' => e = .returned (.string s) ∧ StrPost base w w' := by
 obtain ⟨l, rfl⟩ : ∃ l : List UInt8, s = ⟨l.toArray⟩ := ⟨s.data.toList, by cases s; simp⟩
 have hl0 : l ≠ [] := by intro e; subst e; exact h0 rfl
 have hbo : bytesOf ⟨l.toArray⟩ = l.map fun b => (b.toNat : Int) := by simp [bytesOf]
 have hown := Kd.own_of_R HO
 rw [hbo] at hown
 have hlm : (l.map fun b => (b.toNat : Int)).length = l.length := by simp
 rw [hlm] at hown
 have hce : nums .u8 (l.map fun b => (b.toNat : Int)) = Lib.byteCells l := by simp [nums, Lib.byteCells]
 obtain ⟨g, cap, cur, rfl, hbg, hg, hnc, hcm, hcs, htake⟩ : ∃ g cap cur, v = .slice (some ⟨g, 0, none⟩) l.length cap ∧ base ≤ g ∧ w.heap[g]? = some (.cells cur 5 (0, 0)) ∧ l.length ≤ cap ∧ cap ≤ maxLen ∧ cur.size = cap ∧ cur.toList.take l.length = Lib.byteCells l := by
  rcases hown.2 with ⟨_, hz⟩ | ⟨g, cap, cur, h1, h2, h3, h4, h5, h6, h7⟩
  ·
   exact absurd (List.length_eq_zero_iff.1 hz) hl0
  ·
   exact ⟨g, cap, cur, h1, h2, h3, h4, h5, by omega, by rw [← hce]; simpa [nums, encs] using h7⟩
 have c1 : w.drew.cell? ⟨b, 1, none⟩ = some (.slice (some ⟨g, 0, none⟩) l.length cap) := by
  have : w.drew.heap[b]? = some (.cells #[p, .slice (some ⟨g, 0, none⟩) l.length cap] 126 (0, 0)) := hbk
  rw [Lib.cell_of_heap this]; rfl
 have hlen : l.length ≠ 0 := by simpa using hl0
 have hSD : (Builtin.unsafeSliceData_ #[33] 151 #[.slice (some ⟨g, 0, none⟩) l.length cap]).run Try.prog w.drew = .ok (.pointer (some ⟨g, 0, none⟩)) w.drew :=
  Lib.run_unsafeSliceData_row _ _ _ _ _ _ (by omega)
 have hUS : (Builtin.unsafeString_ #[151, 3] 9 #[.pointer (some ⟨g, 0, none⟩), .int .i64 l.length]).run Try.prog w.drew = .ok (.string ⟨l.toArray⟩) (w.drew.freeze ⟨g, 0, none⟩ l.length) := by
  refine Lib.run_unsafeString_row w.drew 151 3 9 5 Try.underlying151 bcells5 g cur.size (by have hg' : w.drew.heap[g]? = some (.cells cur 5 (0, 0)) := hg; simp [World.shape?, hg']) l hl0 (by omega) (by unfold maxLen at hcm; omega) ?_
  intro j x hx
  have hj := (List.getElem?_eq_some_iff.1 hx).1
  have e2 : cur[j]? = some (.int .u8 x.toNat) := by
   have h1 : (cur.toList.take l.length)[j]? = some (.int .u8 x.toNat) := by rw [htake]; simp [Lib.byteCells, hx]
   rw [List.getElem?_take] at h1
   rw [if_pos hj] at h1
   simpa using h1
  have hg' : w.drew.heap[g]? = some (.cells cur 5 (0, 0)) := hg
  rw [show ((⟨g, 0, none⟩ : Addr).add j) = ⟨g, j, none⟩ from by simp [Addr.add]; intro h; exact h.symm, Lib.cell_of_heap hg']
  exact e2
 have hfin : StrPost base w (w.drew.freeze ⟨g, 0, none⟩ l.length) := ⟨g, l.length, hbg, rfl⟩
 have HFIN := Aside0.mk hfin
 clear hfin hbk HO hown hcs htake hg hcm hbg hlm hbo hce h0
 go_enter Try.func74, Try.ntmps74
 go_wp2
 go_region
 all_goals (go_wp2; go_ret; exact ⟨rfl, HFIN.out⟩)
end Go.Proofs.Ytdcgclhmfflheaa.PQ
