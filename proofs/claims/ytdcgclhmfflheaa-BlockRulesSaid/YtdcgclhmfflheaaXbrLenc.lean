import Derived.Test.YtdcgclhmfflheaaXbrPQf21
import Derived.Test.YtdcgclhmfflheaaXbrLright
import Derived.Test.YtdcgclhmfflheaaXbrPQf78
import Derived.Test.YtdcgclhmfflheaaXbrFdec
namespace Go.Proofs.Ytdcgclhmfflheaa.PQ
open Go.RowKit Go.Proofs.YtdcgclhmfflheaaW.PrintWords Go.Proofs.YtdcgclhmfflheaaW.PrintMore
set_option linter.unusedVariables false
set_option linter.unusedSimpArgs false
structure RightB (K : List S56) (J : List S54) (L : List S87) (S U : List Bool) (sz : Nat) : Prop where
  s : sz = 4 ∨ sz = 8
  K0 : K ≠ []
  K1 : K.length ≤ 256
  J1 : J.length ≤ 5000
  L1 : L.length ≤ 5000
  S1 : S.length = 0 ∨ S.length = K.length
  U1 : U.length = 0 ∨ U.length = K.length
  N1 : (nst K).b.size ≤ 256
theorem right_bd {K : List S56} {J : List S54} {L : List S87} {S U : List Bool} {sz : Nat} {ver : Int} (h : rightS K J L S U sz ver = true) : RightB K J L S U sz := by
  unfold rightS kindedS jumpedS leapedS at h
  simp only [Bool.and_eq_true, Bool.or_eq_true, decide_eq_true_eq] at h
  obtain ⟨⟨⟨h1, ⟨⟨⟨⟨h2, h3⟩, h4⟩, h5⟩, h6⟩, h7⟩, h8, h9⟩, h10, h11⟩ := h
  exact ⟨by omega, fun e => by rw [e] at h2; simp at h2, h3, h9, h11, h4, h5, h7⟩
end Go.Proofs.Ytdcgclhmfflheaa.PQ
