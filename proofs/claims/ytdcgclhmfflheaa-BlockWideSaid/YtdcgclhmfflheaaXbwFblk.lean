import Derived.Test.YtdcgclhmfflheaaXbwFfi
import Derived.Test.YtdcgclhmfflheaaXbwPQf21
import Derived.Test.YtdcgclhmfflheaaXbwPQf22
import Derived.Test.YtdcgclhmfflheaaXbwPQf23
import Derived.Test.YtdcgclhmfflheaaXbwFde
import Derived.Test.YtdcgclhmfflheaaXbwFopn
namespace Go.Proofs.Ytdcgclhmfflheaa.PQ
open Go.RowKit Go.Proofs.YtdcgclhmfflheaaW.PrintWords Go.Proofs.YtdcgclhmfflheaaW.PrintLast Go.Proofs.YtdcgclhmfflheaaW.PrintMore
set_option linter.unusedVariables false
set_option linter.unusedSimpArgs false
structure BlkC (w : World) (AK : Option Addr) (cK : Nat) (K : List S56) (AJ : Option Addr) (cJ : Nat) (J : List S54) (AL : Option Addr) (cL : Nat) (L : List S87) (AS : Option Addr) (cS : Nat) (S : List Bool) (AU : Option Addr) (cU : Nat) (U : List Bool) : Prop where
 rK : Kd.C k56 w AK K.length K
 rJ : Kd.C k54 w AJ J.length J
 rL : Kd.C k87 w AL L.length L
 rS : Kd.C Kd.bool w AS S.length S
 rU : Kd.C Kd.bool w AU U.length U
 hK : K.length ≤ cK
 hJ : J.length ≤ cJ
 hL : L.length ≤ cL
 hS : S.length ≤ cS
 hU : U.length ≤ cU
section
variable {w w1 : World} {AK AJ AL AS AU : Option Addr} {cK cJ cL cS cU : Nat} {K : List S56} {J : List S54} {L : List S87} {S U : List Bool}
theorem BlkC.below (h : BlkC w AK cK K AJ cJ J AL cL L AS cS S AU cU U) (hb : Below w.heap.size w w1) : BlkC w1 AK cK K AJ cJ J AL cL L AS cS S AU cU U :=
 ⟨Kd.C_below h.rK hb, Kd.C_below h.rJ hb, Kd.C_below h.rL hb, Kd.C_below h.rS hb, Kd.C_below h.rU hb, h.hK, h.hJ, h.hL, h.hS, h.hU⟩
theorem InB.blk (h : InB w AK cK K AJ cJ J AL cL L AS cS S AU cU U) : BlkC w AK cK K AJ cJ J AL cL L AS cS S AU cU U :=
 ⟨h.K.c, h.J.c, h.L.c, h.S.c, h.U.c, h.K.hc, h.J.hc, h.L.hc, h.S.hc, h.U.hc⟩
theorem R_open' {α : Type} {d : Kd α} {e B : Nat} {ok : Nat → Prop} {v : Value} {xs : List α} (h : d.R e w B ok v xs) : ∃ A c, v = .slice A xs.length c ∧ d.C w A xs.length xs ∧ xs.length ≤ c := by
 obtain ⟨A, c, rfl⟩ := Kd.R_slice h
 obtain ⟨h1, h2, h3⟩ := Kd.R_reads' h
 exact ⟨A, c, rfl, h3, h2⟩
theorem blk_of {B : Nat} {okK okJ okL okS okU : Nat → Prop} {vK vJ vL vS vU : Value} (hK : Kd.R k56 56 w B okK vK K) (hJ : Kd.R k54 54 w B okJ vJ J) (hL : Kd.R k87 87 w B okL vL L) (hS : Kd.R Kd.bool 4 w B okS vS S) (hU : Kd.R Kd.bool 4 w B okU vU U) :
  ∃ AK cK AJ cJ AL cL AS cS AU cU, vK = .slice AK K.length cK ∧ vJ = .slice AJ J.length cJ ∧ vL = .slice AL L.length cL ∧ vS = .slice AS S.length cS ∧ vU = .slice AU U.length cU ∧ BlkC w AK cK K AJ cJ J AL cL L AS cS S AU cU U := by
 obtain ⟨AK, cK, e1, c1, l1⟩ := R_open' hK
 obtain ⟨AJ, cJ, e2, c2, l2⟩ := R_open' hJ
 obtain ⟨AL, cL, e3, c3, l3⟩ := R_open' hL
 obtain ⟨AS, cS, e4, c4, l4⟩ := R_open' hS
 obtain ⟨AU, cU, e5, c5, l5⟩ := R_open' hU
 exact ⟨AK, cK, AJ, cJ, AL, cL, AS, cS, AU, cU, e1, e2, e3, e4, e5, c1, c2, c3, c4, c5, l1, l2, l3, l4, l5⟩
theorem right_blk (k : Nat) {a1 a2 : Int} {r : Bool} (h : BlkC w AK cK K AJ cJ J AL cL L AS cS S AU cU U) (hf : block_Right.f k K J L S U a1 a2 = some r) :
  Calls Try.prog 22 #[.agg #[.slice AK K.length cK, .slice AJ J.length cJ, .slice AL L.length cL, .slice AS S.length cS, .slice AU U.length cU], .int .i64 a1, .int .i64 a2] w fun e w' => e = .returned (.bool r) ∧ Below w.heap.size w w' :=
 block_Right.calls k AK cK K AJ cJ J AL cL L AS cS S AU cU U a1 a2 r w h.rK h.hK h.rJ h.hJ h.rL h.hL h.rS h.hS h.rU h.hU hf
def EncPost (r1 : List Int) (r2 r3 r4 r5 r6 r7 r8 r9 : Int) (w : World) (e : Ending) (w' : World) : Prop :=
 ∃ A c, e = .returned (.tuple #[.slice A r1.length c, .agg #[.int .i64 r2, .int .i64 r3, .int .i64 r4, .int .i64 r5, .int .i64 r6, .int .i64 r7, .int .i64 r8], .int .i64 r9]) ∧ Kd.R (Kd.int .u8) 5 w' w.heap.size (fun _ => True) (.slice A r1.length c) r1 ∧ Below w.heap.size w w'
theorem enc_blk (k : Nat) {a1 a2 r2 r3 r4 r5 r6 r7 r8 r9 : Int} {r1 : List Int} (h : BlkC w AK cK K AJ cJ J AL cL L AS cS S AU cU U) (hf : block_Encode.f k K J L S U a1 a2 = some (r1, r2, r3, r4, r5, r6, r7, r8, r9)) :
  Calls Try.prog 21 #[.agg #[.slice AK K.length cK, .slice AJ J.length cJ, .slice AL L.length cL, .slice AS S.length cS, .slice AU U.length cU], .int .i64 a1, .int .i64 a2] w (EncPost r1 r2 r3 r4 r5 r6 r7 r8 r9 w) :=
 (block_Encode.calls k AK cK K AJ cJ J AL cL L AS cS S AU cU U a1 a2 r1 r2 r3 r4 r5 r6 r7 r8 r9 w h.rK h.hK h.rJ h.hJ h.rL h.hL h.rS h.hS h.rU h.hU hf).mono fun e w' ⟨v, he, hR, hb⟩ => by
  obtain ⟨A, c, rfl⟩ := Kd.R_slice hR
  exact ⟨A, c, he, hR, hb⟩
def DecB (K : List S56) (J : List S54) (L : List S87) (S U : List Bool) (r : Int) (w : World) (e : Ending) (w' : World) : Prop :=
 ∃ AK cK AJ cJ AL cL AS cS AU cU, e = .returned (.tuple #[.agg #[.slice AK K.length cK, .slice AJ J.length cJ, .slice AL L.length cL, .slice AS S.length cS, .slice AU U.length cU], .int .i64 r]) ∧ BlkC w' AK cK K AJ cJ J AL cL L AS cS S AU cU U ∧ Below w.heap.size w w'
theorem dec_blk {A : Option Addr} {c : Nat} {l : List Int} {a0 a1 a2 a3 a4 a5 a6 s r : Int} (hC : Kd.C (Kd.int .u8) w A l.length l) (hc : l.length ≤ c) (hf : block_Decode.f l a0 a1 a2 a3 a4 a5 a6 s = some (K, J, L, S, U, r)) :
  Calls Try.prog 27 #[.slice A l.length c, .agg #[.int .i64 a0, .int .i64 a1, .int .i64 a2, .int .i64 a3, .int .i64 a4, .int .i64 a5, .int .i64 a6], .int .i64 s] w (DecB K J L S U r w) :=
 (block_Decode.calls A c l a0 a1 a2 a3 a4 a5 a6 s K J L S U r w hC hc hf).mono fun e w' ⟨v0, v1, v2, v3, v4, he, h0, h1, h2, h3, h4, hb⟩ => by
  obtain ⟨AK, cK, AJ, cJ, AL, cL, AS, cS, AU, cU, rfl, rfl, rfl, rfl, rfl, hB⟩ := blk_of h0 h1 h2 h3 h4
  exact ⟨AK, cK, AJ, cJ, AL, cL, AS, cS, AU, cU, he, hB, hb⟩
end
section
variable {w : World} {AK AJ AL AS AU BK BJ BL BS BU : Option Addr} {cK cJ cL cS cU dK dJ dL dS dU : Nat} {K K2 : List S56} {J J2 : List S54} {L L2 : List S87} {S U S2 U2 : List Bool}
theorem same_blk (k : Nat) {r : Bool} (h : BlkC w AK cK K AJ cJ J AL cL L AS cS S AU cU U) (h2 : BlkC w BK dK K2 BJ dJ J2 BL dL L2 BS dS S2 BU dU U2) (hf : longcaseref06_Same.f k K J L S U K2 J2 L2 S2 U2 = some r) :
  Calls Try.prog 23 #[.agg #[.slice AK K.length cK, .slice AJ J.length cJ, .slice AL L.length cL, .slice AS S.length cS, .slice AU U.length cU], .agg #[.slice BK K2.length dK, .slice BJ J2.length dJ, .slice BL L2.length dL, .slice BS S2.length dS, .slice BU U2.length dU]] w fun e w' => e = .returned (.bool r) ∧ Below w.heap.size w w' :=
 longcaseref06_Same.calls k AK cK K AJ cJ J AL cL L AS cS S AU cU U BK dK K2 BJ dJ J2 BL dL L2 BS dS S2 BU dU U2 r w h.rK h.hK h.rJ h.hJ h.rL h.hL h.rS h.hS h.rU h.hU h2.rK h2.hK h2.rJ h2.hJ h2.rL h2.hL h2.rS h2.hS h2.rU h2.hU hf
end
theorem FewR.blk {B : Nat} {w : World} {K : List S56} {J : List S54} {L : List S87} {S U : List Bool} {vK vJ vL vS vU : Value} (h : FewR B w K J L S U vK vJ vL vS vU) :
  ∃ AK cK AJ cJ AL cL AS cS AU cU, vK = .slice AK ((K.take 40).map cutK).length cK ∧ vJ = .slice AJ (J.take 100).length cJ ∧ vL = .slice AL (L.take 50).length cL ∧ vS = .slice AS (S.take 40).length cS ∧ vU = .slice AU (U.take 40).length cU ∧ BlkC w AK cK ((K.take 40).map cutK) AJ cJ (J.take 100) AL cL (L.take 50) AS cS (S.take 40) AU cU (U.take 40) := blk_of h.K h.J h.L h.S h.U
set_option maxHeartbeats 2000000 in
theorem ref_blk (AK AJ AL AS AU : Option Addr) (nK cK nJ cJ nL cL nS cS nU cU : Nat) (w : World) :
  Calls Try.prog 20 #[.agg #[.slice AK nK cK, .slice AJ nJ cJ, .slice AL nL cL, .slice AS nS cS, .slice AU nU cU]] w fun e w' => e = .returned (.agg #[.slice AK nK cK, .slice AJ nJ cJ, .slice AL nL cL, .slice AS nS cS, .slice AU nU cU]) ∧ Below w.heap.size w w' := by
 have hu27 := Try.underlying27
 have hu31 := Try.underlying31
 go_enter Try.func20, Try.ntmps20
 go_wp2_with (first | ((with_reducible refine gate_dst (N := 1) rfl ?_); refine box_event ?hg1 (N := 1) ?hd1 (cs := #[.slice AK nK cK, .slice AJ nJ cJ, .slice AL nL cL, .slice AS nS cS, .slice AU nU cU]) (t := 27) ?hr1 ?_; (case hd1 => rfl); (case hg1 => rfl); (case hr1 => first | (go_simp; done) | (go_simp; rfl)); intro gp gpE w1 gpH gpB; have gpEA := Aside0.mk gpE; have gpHA := Aside0.mk gpH; have gpBA := Aside0.mk gpB; clear gpE gpH gpB) | (((with_reducible refine gate_dst (N := 2) rfl ?_); refine box_event ?hg2 (N := 2) ?hd2 (cs := #[.slice none 0 0, .slice none 0 0, .slice none 0 0, .slice none 0 0, .slice none 0 0]) (t := 31) ?hr2 ?_; (case hd2 => rfl); (case hg2 => rfl); (case hr2 => first | (go_simp; done) | (go_simp; rfl)); intro gr grE w2 grH grB; have grEA := Aside0.mk grE; have grHA := Aside0.mk grH; have grBA := Aside0.mk grB; clear grE grH grB); have hne : gp ≠ gr := (by have h1 := blk_lt gpHA.out; have h2 := grEA.out; omega); have zp0 : w2.cell? ⟨gp, 0, none⟩ = some (.slice AK nK cK) := (by rw [Lib.cell_of_heap ((grBA.out.block gp (blk_lt gpHA.out)).trans gpHA.out)]; rfl); have zp1 : w2.cell? ⟨gp, 1, none⟩ = some (.slice AJ nJ cJ) := (by rw [Lib.cell_of_heap ((grBA.out.block gp (blk_lt gpHA.out)).trans gpHA.out)]; rfl); have zp2 : w2.cell? ⟨gp, 2, none⟩ = some (.slice AL nL cL) := (by rw [Lib.cell_of_heap ((grBA.out.block gp (blk_lt gpHA.out)).trans gpHA.out)]; rfl); have zp3 : w2.cell? ⟨gp, 3, none⟩ = some (.slice AS nS cS) := (by rw [Lib.cell_of_heap ((grBA.out.block gp (blk_lt gpHA.out)).trans gpHA.out)]; rfl); have zp4 : w2.cell? ⟨gp, 4, none⟩ = some (.slice AU nU cU) := (by rw [Lib.cell_of_heap ((grBA.out.block gp (blk_lt gpHA.out)).trans gpHA.out)]; rfl); have zr0 : w2.cell? ⟨gr, 0, none⟩ = some (.slice none 0 0) := (by rw [Lib.cell_of_heap grHA.out]; rfl); have fr0 := blk_frozen grHA.out 0; have zr1 : w2.cell? ⟨gr, 1, none⟩ = some (.slice none 0 0) := (by rw [Lib.cell_of_heap grHA.out]; rfl); have fr1 := blk_frozen grHA.out 1; have zr2 : w2.cell? ⟨gr, 2, none⟩ = some (.slice none 0 0) := (by rw [Lib.cell_of_heap grHA.out]; rfl); have fr2 := blk_frozen grHA.out 2; have zr3 : w2.cell? ⟨gr, 3, none⟩ = some (.slice none 0 0) := (by rw [Lib.cell_of_heap grHA.out]; rfl); have fr3 := blk_frozen grHA.out 3; have zr4 : w2.cell? ⟨gr, 4, none⟩ = some (.slice none 0 0) := (by rw [Lib.cell_of_heap grHA.out]; rfl); have fr4 := blk_frozen grHA.out 4))
 refine bodyPost_ret (v := .agg #[.slice AK nK cK, .slice AJ nJ cJ, .slice AL nL cL, .slice AS nS cS, .slice AU nU cU]) (by simp [results, Try.results20, go_sem, zr0, zr1, zr2, zr3, zr4]) rfl ?_
 have hgr : w.heap.size ≤ gr := by rw [grEA.out]; exact gpBA.out.size
 exact ⟨rfl, (((((gpBA.out.trans (grBA.out.mono gpBA.out.size)).setCell hgr _).setCell hgr _).setCell hgr _).setCell hgr _).setCell hgr _⟩
end Go.Proofs.Ytdcgclhmfflheaa.PQ
