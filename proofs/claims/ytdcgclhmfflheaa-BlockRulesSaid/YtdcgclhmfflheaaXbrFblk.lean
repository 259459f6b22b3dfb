import Derived.Test.YtdcgclhmfflheaaXbrFfi
import Derived.Test.YtdcgclhmfflheaaXbrPQf21
import Derived.Test.YtdcgclhmfflheaaXbrPQf22
import Derived.Test.YtdcgclhmfflheaaXbrPQf23
import Derived.Test.YtdcgclhmfflheaaXbrFde
import Derived.Test.YtdcgclhmfflheaaXbrFopn
namespace Go.Proofs.Ytdcgclhmfflheaa.PQ
open Go.RowKit Go.Proofs.YtdcgclhmfflheaaW.PrintWords Go.Proofs.YtdcgclhmfflheaaW.PrintLast Go.Proofs.YtdcgclhmfflheaaW.PrintMore
set_option linter.unusedVariables false
set_option linter.unusedSimpArgs false
structure BlkC (w : World) (AK : Option Addr) (cK : Nat) (K : List S56) (AJ : Option Addr) (cJ : Nat) (J : List S54) (AL : Option Addr) (cL : Nat) (L : List S87) (AS : Option Addr) (cS : Nat) (S : List Bool) (AU : Option Addr) (cU : Nat) (U : List Bool) : Prop where
  rK : Kd.C k56 w AK K.length K
  rJ : Kd.C k54 w AJ J.length J
  rL : Kd.C k87 w AL L.length L
  rS : Kd.C Kd.bool w AS S.length S
  rU : Kd.C Kd.bool w AU U.length U
  hK : K.length ≤ cK
  hJ : J.length ≤ cJ
  hL : L.length ≤ cL
  hS : S.length ≤ cS
  hU : U.length ≤ cU
section
variable {w w1 : World} {AK AJ AL AS AU : Option Addr} {cK cJ cL cS cU : Nat} {K : List S56} {J : List S54} {L : List S87} {S U : List Bool}
theorem BlkC.below (h : BlkC w AK cK K AJ cJ J AL cL L AS cS S AU cU U) (hb : Below w.heap.size w w1) : BlkC w1 AK cK K AJ cJ J AL cL L AS cS S AU cU U :=
  ⟨Kd.C_below h.rK hb, Kd.C_below h.rJ hb, Kd.C_below h.rL hb, Kd.C_below h.rS hb, Kd.C_below h.rU hb, h.hK, h.hJ, h.hL, h.hS, h.hU⟩
theorem InB.blk (h : InB w AK cK K AJ cJ J AL cL L AS cS S AU cU U) : BlkC w AK cK K AJ cJ J AL cL L AS cS S AU cU U :=
  ⟨h.K.c, h.J.c, h.L.c, h.S.c, h.U.c, h.K.hc, h.J.hc, h.L.hc, h.S.hc, h.U.hc⟩
theorem R_open' {α : Type} {d : Kd α} {e B : Nat} {ok : Nat → Prop} {v : Value} {xs : List α} (h : d.R e w B ok v xs) : ∃ A c, v = .slice A xs.length c ∧ d.C w A xs.length xs ∧ xs.length ≤ c := by
  obtain ⟨A, c, rfl⟩ := Kd.R_slice h
  obtain ⟨h1, h2, h3⟩ := Kd.R_reads' h
  exact ⟨A, c, rfl, h3, h2⟩
theorem blk_of {B : Nat} {okK okJ okL okS okU : Nat → Prop} {vK vJ vL vS vU : Value} (hK : Kd.R k56 56 w B okK vK K) (hJ : Kd.R k54 54 w B okJ vJ J) (hL : Kd.R k87 87 w B okL vL L) (hS : Kd.R Kd.bool 4 w B okS vS S) (hU : Kd.R Kd.bool 4 w B okU vU U) :
    ∃ AK cK AJ cJ AL cL AS cS AU cU, vK = .slice AK K.length cK ∧ vJ = .slice AJ J.length cJ ∧ vL = .slice AL L.length cL ∧ vS = .slice AS S.length cS ∧ vU = .slice AU U.length cU ∧ BlkC w AK cK K AJ cJ J AL cL L AS cS S AU cU U := by
  obtain ⟨AK, cK, e1, c1, l1⟩ := R_open' hK
  obtain ⟨AJ, cJ, e2, c2, l2⟩ := R_open' hJ
  obtain ⟨AL, cL, e3, c3, l3⟩ := R_open' hL
  obtain ⟨AS, cS, e4, c4, l4⟩ := R_open' hS
  obtain ⟨AU, cU, e5, c5, l5⟩ := R_open' hU
  exact ⟨AK, cK, AJ, cJ, AL, cL, AS, cS, AU, cU, e1, e2, e3, e4, e5, c1, c2, c3, c4, c5, l1, l2, l3, l4, l5⟩
theorem right_blk (k : Nat) {a1 a2 : Int} {r : Bool} (h : BlkC w AK cK K AJ cJ J AL cL L AS cS S AU cU U) (hf : block_Right.f k K J L S U a1 a2 = some r) :
    Calls Try.prog 22 #[.agg #[.slice AK K.length cK, .slice AJ J.length cJ, .slice AL L.length cL, .slice AS S.length cS, .slice AU U.length cU], .int .i64 a1, .int .i64 a2] w fun e w' => e = .returned (.bool r) ∧ Below w.heap.size w w' :=
  block_Right.calls k AK cK K AJ cJ J AL cL L AS cS S AU cU U a1 a2 r w h.rK h.hK h.rJ h.hJ h.rL h.hL h.rS h.hS h.rU h.hU hf
end
theorem FewR.blk {B : Nat} {w : World} {K : List S56} {J : List S54} {L : List S87} {S U : List Bool} {vK vJ vL vS vU : Value} (h : FewR B w K J L S U vK vJ vL vS vU) :
    ∃ AK cK AJ cJ AL cL AS cS AU cU, vK = .slice AK ((K.take 40).map cutK).length cK ∧ vJ = .slice AJ (J.take 100).length cJ ∧ vL = .slice AL (L.take 50).length cL ∧ vS = .slice AS (S.take 40).length cS ∧ vU = .slice AU (U.take 40).length cU ∧ BlkC w AK cK ((K.take 40).map cutK) AJ cJ (J.take 100) AL cL (L.take 50) AS cS (S.take 40) AU cU (U.take 40) := blk_of h.K h.J h.L h.S h.U
end Go.Proofs.Ytdcgclhmfflheaa.PQ
