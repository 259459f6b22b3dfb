import Derived.Test.YtdcgclhmfflheaaXbrLenc
namespace Go.Proofs.Ytdcgclhmfflheaa.PQ
open Go.RowKit Go.Proofs.YtdcgclhmfflheaaW.PrintWords Go.Proofs.YtdcgclhmfflheaaW.PrintMore
set_option linter.unusedVariables false
set_option linter.unusedSimpArgs false
theorem bytesOf_append (a b : ByteArray) : bytesOf (a ++ b) = bytesOf a ++ bytesOf b := by simp [bytesOf]
def NameAt (b : ByteArray) (n : ByteArray) (p : Nat) : Prop := ∃ pre rest, bytesOf b = pre ++ (bytesOf n ++ 0 :: rest) ∧ pre.length = p
theorem NameAt.more {b n : ByteArray} {p : Nat} (h : NameAt b n p) (c : ByteArray) : NameAt (b ++ c) n p := by
  obtain ⟨pre, rest, h1, h2⟩ := h
  exact ⟨pre, rest ++ bytesOf c, by rw [bytesOf_append, h1]; simp, h2⟩
theorem NameAt.new (b n : ByteArray) : NameAt (b ++ (n ++ ⟨#[0]⟩)) n b.size := ⟨bytesOf b, [], by rw [bytesOf_append, bytesOf_append]; rfl, bytesOf_length b⟩
structure NstOk (K : List S56) (s : NSt) : Prop where
  known : ∀ n p, s.known n = some p → NameAt s.b n p
  len : s.at_.length = K.length
  at_ : ∀ i (hi : i < K.length), ∃ p : Nat, s.at_.getD i 0 = (p : Int) % 256 ∧ NameAt s.b K[i].f2 p
theorem NstOk.step {K : List S56} {s : NSt} (h : NstOk K s) (k : S56) : NstOk (K ++ [k]) (nstep s k) := by
  unfold nstep
  cases hk : s.known k.f2 with
  | some p =>
    refine ⟨h.known, by simp [h.len], fun i hi => ?_⟩
    rcases Nat.lt_or_ge i K.length with hlt | hge
    · obtain ⟨q, h1, h2⟩ := h.at_ i hlt
      refine ⟨q, ?_, by rw [List.getElem_append_left hlt]; exact h2⟩
      rw [← h1]
      simp only [List.getD_eq_getElem?_getD]
      rw [List.getElem?_append_left (by rw [h.len]; exact hlt)]
    · have hi' : i = K.length := by simp at hi; omega
      subst hi'
      refine ⟨p, ?_, by simp; exact h.known _ _ hk⟩
      simp [List.getD_eq_getElem?_getD, ← h.len]
  | none =>
    refine ⟨fun n p hn => ?_, by simp [h.len], fun i hi => ?_⟩
    · have hn : (if n = k.f2 then some s.b.size else s.known n) = some p := hn
      by_cases e : n = k.f2
      · rw [if_pos e] at hn
        injection hn with hn
        subst hn
        rw [e]
        exact NameAt.new _ _
      · rw [if_neg e] at hn
        exact (h.known n p hn).more _
    · rcases Nat.lt_or_ge i K.length with hlt | hge
      · obtain ⟨q, h1, h2⟩ := h.at_ i hlt
        refine ⟨q, ?_, by rw [List.getElem_append_left hlt]; exact h2.more _⟩
        rw [← h1]
        simp only [List.getD_eq_getElem?_getD]
        rw [List.getElem?_append_left (by rw [h.len]; exact hlt)]
      · have hi' : i = K.length := by simp at hi; omega
        subst hi'
        refine ⟨s.b.size, ?_, by simp; exact NameAt.new _ _⟩
        simp [List.getD_eq_getElem?_getD, ← h.len]
end Go.Proofs.Ytdcgclhmfflheaa.PQ
