import Derived.Test.YtdcgclhmfflheaaXbrFfw
import Derived.Test.YtdcgclhmfflheaaXbrLrules
namespace Go.Proofs.Ytdcgclhmfflheaa.PQ
open Go.RowKit Go.Proofs.YtdcgclhmfflheaaW.PrintWords Go.Proofs.YtdcgclhmfflheaaW.PrintLast Go.Proofs.YtdcgclhmfflheaaW.PrintMore
set_option linter.unusedVariables false
set_option linter.unusedSimpArgs false
section
variable {B : Nat} {w w1 : World} {K : List S56} {J J1 : List S54} {L : List S87} {S S1 U : List Bool} {vK vJ vL vS vU v : Value}
theorem Rows5.app (h : Rows5 B w K J L S U vK vJ vL vS vU) (hg : w.grownBy w1 vJ.ownBlock) (ho : Kd.R k54 54 w1 B (fun _ => True) v J1) : Rows5 B w1 K J1 L S U vK v vL vS vU := by
  have ht := Kd.R_typed h.rJ
  exact ⟨Kd.R_over' h.rK ht (by decide) hg, ho, Kd.R_over' h.rL ht (by decide) hg, Kd.R_over' h.rS ht (by decide) hg, Kd.R_over' h.rU ht (by decide) hg, h.sU⟩
theorem Rows5.lower {B' : Nat} (h : Rows5 B w K J L S U vK vJ vL vS vU) (hb : B' ≤ B) : Rows5 B' w K J L S U vK vJ vL vS vU := ⟨Kd.R_lower h.rK hb, Kd.R_lower h.rJ hb, Kd.R_lower h.rL hb, Kd.R_lower h.rS hb, Kd.R_lower h.rU hb, h.sU⟩
theorem Rows5.box_app (h : Rows5 B w K J L S U vK vJ vL vS vU) (hg : w.grownBy w1 vJ.ownBlock) {g : Nat} {cs : Array Value} (hX : w.heap[g]? = some (.cells cs 27 (0, 0))) : w1.heap[g]? = some (.cells cs 27 (0, 0)) :=
  blk_grown hX hg (fun e' => by
    obtain ⟨cells, hc⟩ := Kd.R_typed h.rJ g e'.symm
    rw [hX] at hc
    injection hc with hc
    injection hc with _ hc
    exact absurd hc (by decide))
theorem Rows5.last {A : Option Addr} {c : Nat} (h : Rows5 B w K J L S U vK (.slice A J.length c) vL vS vU) (hJ : J.length ≠ 0) : ∃ g, A = some ⟨g, 0, none⟩ ∧ w.cell? ⟨g, (J.length - 1) * 2, none⟩ = some (.int .i64 (lastAt J)) := by
  obtain ⟨g, c', e, _, _, _⟩ := Kd.R_form h.rJ (by omega)
  injection e with e1 e2 e3
  subst e1
  obtain ⟨ce, h1, h2, h3, h4⟩ := Kd.R_elem h.rJ z54 ((J.length : Int) - 1) (by omega) (by omega)
  have h5 := k54_openM h2
  subst h5
  have e : ((J.length : Int) - 1).toNat = J.length - 1 := by omega
  have h6 := h3 0 _ rfl
  rw [e] at h6
  refine ⟨g, rfl, h6.trans ?_⟩
  unfold lastAt
  rw [if_neg hJ]
theorem Rows5.first {A : Option Addr} {c : Nat} (h : Rows5 B w K J L S U (.slice A K.length c) vJ vL vS vU) (hK : 0 < K.length) : ∃ g, A = some ⟨g, 0, none⟩ ∧ B ≤ g ∧ w.cell? ⟨g, 2, none⟩ = some (.string (K.getD 0 z56).f2) ∧ w.frozen? ⟨g, 2, none⟩ = false ∧
    ∀ s, Rows5 B (w.setCell ⟨g, 2, none⟩ (.string s)) (K.set 0 ⟨(K.getD 0 z56).f0, (K.getD 0 z56).f1, s⟩) J L S U (.slice A K.length c) vJ vL vS vU := by
  obtain ⟨g, c', e, hge, _, _⟩ := Kd.R_form h.rK (by omega)
  injection e with e1 e2 e3
  subst e1
  obtain ⟨ce, h1, h2, h3, h4⟩ := Kd.R_elem h.rK z56 (0 : Int) (by omega) (by omega)
  have h5 := k56_openM h2
  subst h5
  obtain ⟨cs, hcs⟩ := Kd.R_typed h.rK g (by simp [Value.ownBlock])
  refine ⟨g, rfl, hge, h3 2 _ rfl, h4 2, fun s => ?_⟩
  obtain ⟨hp, _⟩ := Kd.R_seg h.rK (0 : Int) (by omega) (by omega) (seg := [.string s]) (j := 2) h1 h3 (show 3 ≤ 3 from by decide) (x' := (⟨(K.getD 0 z56).f0, (K.getD 0 z56).f1, s⟩ : S56)) (k56_mkM _ _ _ (⟨(K.getD 0 z56).f0, (K.getD 0 z56).f1, s⟩ : S56)) (fun _ hk => hk)
  have hs : ∀ i, i ≠ g → (w.setCell ⟨g, 2, none⟩ (.string s)).heap[i]? = w.heap[i]? := fun i hi => Below.heap_setCell _ _ _ i hi
  have hty : ∀ (i : Nat) (cells : Array Value) (t : Nat), t ≠ 56 → w.heap[i]? = some (.cells cells t (0, 0)) → i ≠ g := by
    rintro i cells t ht hc rfl
    rw [hcs] at hc
    injection hc with hc
    injection hc with _ hc
    exact ht hc.symm
  exact ⟨hp, R_ty h.rJ rfl (fun i cells _ _ _ hc => hs i (hty i cells 54 (by decide) hc)), R_ty h.rL rfl (fun i cells _ _ _ hc => hs i (hty i cells 87 (by decide) hc)), R_ty h.rS rfl (fun i cells _ _ _ hc => hs i (hty i cells 4 (by decide) hc)), R_ty h.rU rfl (fun i cells _ _ _ hc => hs i (hty i cells 4 (by decide) hc)), h.sU⟩
theorem Rows5.std (h : Rows5 B w K J L S U vK vJ vL vS vU) (hb : Below w.heap.size w w1) (ho : Kd.R Kd.bool 4 w1 B (fun _ => True) v S1) (hn : ∃ k, v.ownBlock = some k ∧ w.heap.size ≤ k) : Rows5 B w1 K J L S1 U vK vJ vL v vU :=
  ⟨Kd.R_below h.rK hb, Kd.R_below h.rJ hb, Kd.R_below h.rL hb, ho, Kd.R_below h.rU hb, fun k hk he => by
    obtain ⟨k', hk', hle⟩ := hn
    rw [hk'] at hk
    injection hk with hk
    have := Kd.R_lt h.rU k he
    omega⟩
end
theorem kind_of (a : Int) : ∃ v : Int, 0 ≤ v ∧ v ≤ 511 ∧ Go.bits .and .i64 a 511 = v := by
  have h : 0 ≤ Go.bits .and .i64 a 511 ∧ Go.bits .and .i64 a 511 ≤ 511 := by
    have e : (511 : Int) = ((511 : Nat) : Int) := rfl
    simp only [e, Go.bits, BitVec.ofInt_natCast, BitVec.toNat_and, BitVec.toNat_ofNat]
    generalize (BitVec.ofInt _ a).toNat = x
    have h : x &&& 511 % 2 ^ IntKind.i64.bits ≤ 511 := Nat.le_trans Nat.and_le_right (by decide)
    generalize x &&& 511 % 2 ^ IntKind.i64.bits = y at h
    rw [IntKind.wrap_i64]
    omega
  exact ⟨_, h.1, h.2, rfl⟩
structure RulesP (K : List S56) (J : List S54) (L : List S87) (S U : List Bool) (kd : Int) : Prop where
  r0 : block_Right.f 2000 K J L S U 8 4 = some true
  r1 : J.length ≠ 0 → block_Right.f 2000 K (J ++ [⟨lastAt J, 0⟩]) L S U 8 4 = some false
  r2 : block_Right.f 2000 K (J ++ [⟨lastAt J + 1, kd⟩]) L S U 8 4 = some (decide (kd < (K.length : Int)))
  r3 : block_Right.f 2000 K J L (List.replicate (K.length + 1) false) U 8 4 = some false
  r4 : block_Right.f 2000 (K.set 0 ⟨(K.getD 0 z56).f0, (K.getD 0 z56).f1, ⟨#[0]⟩⟩) J L S U 8 4 = some false
  n0 : 0 < K.length
theorem rules_p {K : List S56} {J : List S54} {L : List S87} {S U : List Bool} (hb : CutBd K J L S U) (h60 : ∀ x ∈ K, x.f2.size ≤ 60) (h : rightS K J L S U 8 4 = true) (kd : Int) (hk : 0 ≤ kd) : RulesP K J L S U kd := by
  have b := right_bd h
  have h1 := hb.lK
  have h2 := hb.lJ
  have h3 := hb.lL
  have h4 := hb.room
  have hK : 0 < K.length := List.length_pos_iff.2 b.K0
  have hr : nroom (K.set 0 ⟨(K.getD 0 z56).f0, (K.getD 0 z56).f1, ⟨#[0]⟩⟩) ≤ 40 * (60 + 1) := nroom_le' _ 40 60 (by simpa using h1) (fun x hx => by
    rcases List.mem_or_eq_of_mem_set hx with hx | rfl
    · exact h60 x hx
    · show (1 : Nat) ≤ 60; decide)
  refine ⟨?_, fun hJ => ?_, ?_, ?_, ?_, hK⟩
  · rw [right_eq 2000 K J L S U 8 4 (by omega) (by omega) (by omega) (by omega), h]
  · rw [right_eq 2000 _ _ L S U 8 4 (by omega) (by simp; omega) (by omega) (by simp; omega), right_same_at hJ]
  · rw [right_eq 2000 _ _ L S U 8 4 (by omega) (by simp; omega) (by omega) (by simp; omega), right_next h (by omega) kd hk]
  · rw [right_eq 2000 _ _ L _ U 8 4 (by omega) (by omega) (by omega) (by omega), right_std (by simp)]
  · rw [right_eq 2000 _ _ L S U 8 4 (by omega) (by omega) (by omega) (by simp; omega), right_nul (by simpa using hK) ?_]
    rw [getD_lt _ _ _ (by simpa using hK), List.getElem_set_self]
    rfl
end Go.Proofs.Ytdcgclhmfflheaa.PQ
