import Derived.Test.YtdcgclhmfflheaaXbwFfew18
import Derived.Test.YtdcgclhmfflheaaXbwFblk
import Derived.Test.YtdcgclhmfflheaaXbwLrt
namespace Go.Proofs.Ytdcgclhmfflheaa.PQ
open Go.RowKit Go.Proofs.YtdcgclhmfflheaaW.PrintWords Go.Proofs.YtdcgclhmfflheaaW.PrintLast Go.Proofs.YtdcgclhmfflheaaW.PrintMore
set_option linter.unusedVariables false
set_option linter.unusedSimpArgs false
structure Rows5 (B : Nat) (w : World) (K : List S56) (J : List S54) (L : List S87) (S U : List Bool) (vK vJ vL vS vU : Value) : Prop where
 rK : Kd.R k56 56 w B (fun _ => True) vK K
 rJ : Kd.R k54 54 w B (fun _ => True) vJ J
 rL : Kd.R k87 87 w B (fun _ => True) vL L
 rS : Kd.R Kd.bool 4 w B (fun _ => True) vS S
 rU : Kd.R Kd.bool 4 w B (fun _ => True) vU U
 sU : ∀ k, vS.ownBlock = some k → vU.ownBlock ≠ some k
section
variable {B : Nat} {w w1 : World} {K : List S56} {J : List S54} {L : List S87} {S U : List Bool} {vK vJ vL vS vU : Value}
theorem Rows5.below (h : Rows5 B w K J L S U vK vJ vL vS vU) (hb : Below w.heap.size w w1) : Rows5 B w1 K J L S U vK vJ vL vS vU :=
 ⟨Kd.R_below h.rK hb, Kd.R_below h.rJ hb, Kd.R_below h.rL hb, Kd.R_below h.rS hb, Kd.R_below h.rU hb, h.sU⟩
theorem Rows5.far (h : Rows5 B w K J L S U vK vJ vL vS vU) {g t : Nat} {cs : Array Value} (hX : w.heap[g]? = some (.cells cs t (0, 0))) (ht : t ≠ 56 ∧ t ≠ 54 ∧ t ≠ 87 ∧ t ≠ 4) (j : Nat) (u : Value) : Rows5 B (w.setCell ⟨g, j, none⟩ u) K J L S U vK vJ vL vS vU := by
 have hh : ∀ q, q ≠ t → ∀ (k : Nat) (cells : Array Value), w.heap[k]? = some (.cells cells q (0, 0)) → (w.setCell ⟨g, j, none⟩ u).heap[k]? = w.heap[k]? := fun q hq k cells hc => Below.heap_setCell w _ _ k (fun e' => by
  subst e'
  rw [hX] at hc
  injection hc with hc
  injection hc with _ hc
  exact hq hc.symm)
 exact ⟨R_ty h.rK rfl (fun k cells _ _ _ hc => hh 56 (Ne.symm ht.1) k cells hc), R_ty h.rJ rfl (fun k cells _ _ _ hc => hh 54 (Ne.symm ht.2.1) k cells hc), R_ty h.rL rfl (fun k cells _ _ _ hc => hh 87 (Ne.symm ht.2.2.1) k cells hc), R_ty h.rS rfl (fun k cells _ _ _ hc => hh 4 (Ne.symm ht.2.2.2) k cells hc), R_ty h.rU rfl (fun k cells _ _ _ hc => hh 4 (Ne.symm ht.2.2.2) k cells hc), h.sU⟩
theorem Rows5.far5 (h : Rows5 B w K J L S U vK vJ vL vS vU) {g t : Nat} {cs : Array Value} (hX : w.heap[g]? = some (.cells cs t (0, 0))) (ht : t ≠ 56 ∧ t ≠ 54 ∧ t ≠ 87 ∧ t ≠ 4) (u0 u1 u2 u3 u4 : Value) :
  Rows5 B (((((w.setCell ⟨g, 0, none⟩ u0).setCell ⟨g, 1, none⟩ u1).setCell ⟨g, 2, none⟩ u2).setCell ⟨g, 3, none⟩ u3).setCell ⟨g, 4, none⟩ u4) K J L S U vK vJ vL vS vU :=
 ((((h.far hX ht 0 u0).far (blk_put hX 0 u0 rfl) ht 1 u1).far (blk_put (blk_put hX 0 u0 rfl) 1 u1 rfl) ht 2 u2).far (blk_put (blk_put (blk_put hX 0 u0 rfl) 1 u1 rfl) 2 u2 rfl) ht 3 u3).far (blk_put (blk_put (blk_put (blk_put hX 0 u0 rfl) 1 u1 rfl) 2 u2 rfl) 3 u3 rfl) ht 4 u4
end
theorem Rows5.blk {B : Nat} {w : World} {K : List S56} {J : List S54} {L : List S87} {S U : List Bool} {AK AJ AL AS AU : Option Addr} {cK cJ cL cS cU : Nat} (h : Rows5 B w K J L S U (.slice AK K.length cK) (.slice AJ J.length cJ) (.slice AL L.length cL) (.slice AS S.length cS) (.slice AU U.length cU)) : BlkC w AK cK K AJ cJ J AL cL L AS cS S AU cU U := by
 obtain ⟨_, a1, b1⟩ := Kd.R_reads' h.rK
 obtain ⟨_, a2, b2⟩ := Kd.R_reads' h.rJ
 obtain ⟨_, a3, b3⟩ := Kd.R_reads' h.rL
 obtain ⟨_, a4, b4⟩ := Kd.R_reads' h.rS
 obtain ⟨_, a5, b5⟩ := Kd.R_reads' h.rU
 exact ⟨b1, b2, b3, b4, b5, a1, a2, a3, a4, a5⟩
def FewB (K : List S56) (J : List S54) (L : List S87) (S U : List Bool) (w : World) (e : Ending) (w' : World) : Prop :=
 ∃ AK cK AJ cJ AL cL AS cS AU cU, e = .returned (.agg #[.slice AK K.length cK, .slice AJ J.length cJ, .slice AL L.length cL, .slice AS S.length cS, .slice AU U.length cU]) ∧
  Rows5 w.heap.size w' K J L S U (.slice AK K.length cK) (.slice AJ J.length cJ) (.slice AL L.length cL) (.slice AS S.length cS) (.slice AU U.length cU) ∧ Below w.heap.size w w'
structure CutOf (K : List S56) (J : List S54) (L : List S87) (S U : List Bool) (K' : List S56) (J' : List S54) (L' : List S87) (S' U' : List Bool) : Prop where
 eK : K' = (K.take 40).map cutK
 eJ : J' = J.take 100
 eL : L' = L.take 50
 eS : S' = S.take 40
 eU : U' = U.take 40
theorem few_blk {w : World} {AK AJ AL AS AU : Option Addr} {cK cJ cL cS cU : Nat} {K K' : List S56} {J J' : List S54} {L L' : List S87} {S U S' U' : List Bool} (h : BlkC w AK cK K AJ cJ J AL cL L AS cS S AU cU U) (hc : CutOf K J L S U K' J' L' S' U') :
  Calls Try.prog 18 #[.agg #[.slice AK K.length cK, .slice AJ J.length cJ, .slice AL L.length cL, .slice AS S.length cS, .slice AU U.length cU]] w (FewB K' J' L' S' U' w) := by
 obtain ⟨rfl, rfl, rfl, rfl, rfl⟩ := hc
 refine (few18_walk AK cK K AJ cJ J AL cL L AS cS S AU cU U w h.rK h.hK h.rJ h.hJ h.rL h.hL h.rS h.hS h.rU h.hU).mono ?_
 rintro e w' ⟨vK, vJ, vL, vS, vU, he, hR, hb⟩
 obtain ⟨AK, cK, AJ, cJ, AL, cL, AS, cS, AU, cU, rfl, rfl, rfl, rfl, rfl, _⟩ := hR.blk
 exact ⟨AK, cK, AJ, cJ, AL, cL, AS, cS, AU, cU, he, ⟨hR.K, hR.J, hR.L, hR.S, hR.U, hR.SU⟩, hb⟩
structure CutBd (K : List S56) (J : List S54) (L : List S87) (S U : List Bool) : Prop where
 lK : K.length ≤ 40
 lJ : J.length ≤ 100
 lL : L.length ≤ 50
 lS : S.length ≤ 40
 lU : U.length ≤ 40
 room : nroom K ≤ 2440
 j0 : ∀ x ∈ J, i64b x.f0
 l0 : ∀ x ∈ L, i64b x.f0 ∧ i64b x.f1
 k0 : ∀ x ∈ K, i64b x.f0
theorem nroom_le' : ∀ (K : List S56) (n m : Nat), K.length ≤ n → (∀ x ∈ K, x.f2.size ≤ m) → nroom K ≤ n * (m + 1) := by
 intro K
 induction K with
 | nil => intro n m _ _; show 0 ≤ _; exact Nat.zero_le _
 | cons k K ih =>
  intro n m hn hm
  obtain ⟨n, rfl⟩ : ∃ n', n = n' + 1 := ⟨n - 1, by simp at hn; omega⟩
  have h1 := ih n m (by simpa using hn) (fun x hx => hm x (by simp [hx]))
  have h2 := hm k (by simp)
  have e : nroom (k :: K) = (k.f2.size + 1) + nroom K := by unfold nroom; rw [List.map_cons, List.sum_cons]
  rw [e, Nat.succ_mul]
  omega
theorem cut_bd {w : World} {AK AJ AL AS AU : Option Addr} {cK cJ cL cS cU : Nat} {K K' : List S56} {J J' : List S54} {L L' : List S87} {S U S' U' : List Bool} (h : InB w AK cK K AJ cJ J AL cL L AS cS S AU cU U) (hc : CutOf K J L S U K' J' L' S' U') : CutBd K' J' L' S' U' := by
 obtain ⟨rfl, rfl, rfl, rfl, rfl⟩ := hc
 have hk : ∀ x ∈ (K.take 40).map cutK, x.f2.size ≤ 60 ∧ i64b x.f0 := fun x hx => by
  obtain ⟨y, hy, rfl⟩ := List.mem_map.1 hx
  refine ⟨?_, (h.K.pr y (List.mem_of_mem_take hy)).1⟩
  unfold cutK
  simp only [ByteArray.size_extract]
  omega
 refine ⟨by simp; omega, by simp; omega, by simp; omega, by simp; omega, by simp; omega, ?_, fun x hx => (h.J.pr x (List.mem_of_mem_take hx)).1, fun x hx => h.L.pr x (List.mem_of_mem_take hx), fun x hx => (hk x hx).2⟩
 exact nroom_le' _ 40 60 (by simp; omega) (fun x hx => (hk x hx).1)
theorem and_bd3 (a : Int) : 0 ≤ Go.bits .and .i64 a 3 ∧ Go.bits .and .i64 a 3 ≤ 3 := by
 have e : (3 : Int) = ((3 : Nat) : Int) := rfl
 simp only [e, Go.bits, BitVec.ofInt_natCast, BitVec.toNat_and, BitVec.toNat_ofNat]
 generalize (BitVec.ofInt _ a).toNat = x
 have h : x &&& 3 % 2 ^ IntKind.i64.bits ≤ 3 := Nat.le_trans Nat.and_le_right (by decide)
 generalize x &&& 3 % 2 ^ IntKind.i64.bits = y at h
 rw [IntKind.wrap_i64]
 omega
theorem version_of (a : Int) : ∃ v : Int, 1 ≤ v ∧ v ≤ 4 ∧ 1 + Go.bits .and .i64 a 3 = v ∧ wrap64 (1 + Go.bits .and .i64 a 3) = v := by
 obtain ⟨h0, h1⟩ := and_bd3 a
 refine ⟨1 + Go.bits .and .i64 a 3, by omega, by omega, rfl, ?_⟩
 unfold wrap64
 omega
end Go.Proofs.Ytdcgclhmfflheaa.PQ
