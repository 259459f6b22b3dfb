import Derived.Test.YtdcgclhmfflheaaXbwFfw
namespace Go.Proofs.Ytdcgclhmfflheaa.PQ
open Go.RowKit Go.Proofs.YtdcgclhmfflheaaW.PrintWords Go.Proofs.YtdcgclhmfflheaaW.PrintMore
set_option linter.unusedVariables false
set_option linter.unusedSimpArgs false
theorem fits_8 (n : Int) : fitsS n 8 = true := by unfold fitsS; simp
theorem leaps_8 (n : Nat) (version : Int) : ∀ (L : List S87) (i : Nat) (a c : Int), leapsOk n 4 version i a c L = true → leapsOk n 8 version i a c L = true
 | [], _, _, _, _ => rfl
 | X :: L, i, a, c, h => by
  unfold leapsOk leapOk at h ⊢
  rw [fits_8]
  simp only [Bool.and_eq_true] at h ⊢
  exact ⟨⟨h.1.1, trivial⟩, leaps_8 n version L _ _ _ h.2⟩
theorem right_wide {K : List S56} {J : List S54} {L : List S87} {S U : List Bool} {ver : Int} (h : rightS K J L S U 4 ver = true) : rightS K J L S U 8 ver = true := by
 unfold rightS jumpedS leapedS at h ⊢
 simp only [Bool.and_eq_true] at h ⊢
 obtain ⟨⟨⟨h1, h2⟩, h3, h4⟩, h5, h6⟩ := h
 refine ⟨⟨⟨by simp, h2⟩, ?_, h4⟩, leaps_8 _ _ _ _ _ _ h5, h6⟩
 rw [List.all_eq_true] at h3 ⊢
 intro i hi
 have := h3 i hi
 unfold jumpOk at this ⊢
 rw [fits_8]
 simp only [Bool.and_eq_true] at this ⊢
 exact ⟨this.1, trivial⟩
theorem bools_l0 (a : List Bool) (ha : a.length ≤ 1000000) : ∀ (m i k : Nat), i + m = a.length → m + 1 ≤ k → longcaseref06_bools.l0 k a a (i : Int) = some true := by
 intro m
 induction m with
 | zero =>
  intro i k hi hk
  obtain ⟨k, rfl⟩ : ∃ k', k = k' + 1 := ⟨k - 1, by omega⟩
  unfold longcaseref06_bools.l0
  rw [if_neg (by omega)]
 | succ m ih =>
  intro i k hi hk
  obtain ⟨k, rfl⟩ : ∃ k', k = k' + 1 := ⟨k - 1, by omega⟩
  unfold longcaseref06_bools.l0
  have e : (rdOf false a (i : Int) != rdOf false a (i : Int)) = false := by simp
  have hi1 : (i : Int) + 1 = ((i + 1 : Nat) : Int) := by omega
  rw [if_pos (by omega), if_pos (by omega), if_pos (by omega), e, if_neg (by decide), wrap64_id ((i : Int) + 1) (by omega) (by omega), hi1]
  exact ih (i + 1) k (by omega) (by omega)
theorem bools_same (k : Nat) (a : List Bool) (ha : a.length ≤ 1000000) (hk : a.length + 1 ≤ k) : longcaseref06_bools.f k a a = some true := by
 unfold longcaseref06_bools.f
 rw [if_pos rfl]
 exact bools_l0 a ha a.length 0 k (by omega) hk
section
variable (K : List S56) (J : List S54) (L : List S87) (S U : List Bool)
theorem same_l2 (hL : L.length ≤ 1000000) : ∀ (m i k : Nat), i + m = L.length → m + 1 ≤ k → longcaseref06_Same.l2 k (i : Int) K J L S U K J L S U = some true := by
 intro m
 induction m with
 | zero =>
  intro i k hi hk
  obtain ⟨k, rfl⟩ : ∃ k', k = k' + 1 := ⟨k - 1, by omega⟩
  unfold longcaseref06_Same.l2
  rw [if_neg (by omega)]
 | succ m ih =>
  intro i k hi hk
  obtain ⟨k, rfl⟩ : ∃ k', k = k' + 1 := ⟨k - 1, by omega⟩
  unfold longcaseref06_Same.l2
  have hi1 : (i : Int) + 1 = ((i + 1 : Nat) : Int) := by omega
  rw [if_pos (by omega), if_pos (by omega), if_pos (by omega), if_neg (by simp), wrap64_id ((i : Int) + 1) (by omega) (by omega), hi1]
  exact ih (i + 1) k (by omega) (by omega)
theorem same_l1 (hJ : J.length ≤ 1000000) (hL : L.length ≤ 1000000) : ∀ (m i k : Nat), i + m = J.length → m + L.length + 2 ≤ k → longcaseref06_Same.l1 k (i : Int) K J L S U K J L S U = some true := by
 intro m
 induction m with
 | zero =>
  intro i k hi hk
  obtain ⟨k, rfl⟩ : ∃ k', k = k' + 1 := ⟨k - 1, by omega⟩
  unfold longcaseref06_Same.l1
  rw [if_neg (by omega)]
  exact same_l2 K J L S U hL L.length 0 k (by omega) (by omega)
 | succ m ih =>
  intro i k hi hk
  obtain ⟨k, rfl⟩ : ∃ k', k = k' + 1 := ⟨k - 1, by omega⟩
  unfold longcaseref06_Same.l1
  have hi1 : (i : Int) + 1 = ((i + 1 : Nat) : Int) := by omega
  rw [if_pos (by omega), if_pos (by omega), if_pos (by omega), if_neg (by simp), wrap64_id ((i : Int) + 1) (by omega) (by omega), hi1]
  exact ih (i + 1) k (by omega) (by omega)
theorem same_l0 (hK : K.length ≤ 1000000) (hJ : J.length ≤ 1000000) (hL : L.length ≤ 1000000) : ∀ (m i k : Nat), i + m = K.length → m + J.length + L.length + 3 ≤ k → longcaseref06_Same.l0 k (i : Int) K J L S U K J L S U = some true := by
 intro m
 induction m with
 | zero =>
  intro i k hi hk
  obtain ⟨k, rfl⟩ : ∃ k', k = k' + 1 := ⟨k - 1, by omega⟩
  unfold longcaseref06_Same.l0
  rw [if_neg (by omega)]
  exact same_l1 K J L S U hJ hL J.length 0 k (by omega) (by omega)
 | succ m ih =>
  intro i k hi hk
  obtain ⟨k, rfl⟩ : ∃ k', k = k' + 1 := ⟨k - 1, by omega⟩
  unfold longcaseref06_Same.l0
  have hi1 : (i : Int) + 1 = ((i + 1 : Nat) : Int) := by omega
  rw [if_pos (by omega), if_pos (by omega), if_pos (by omega), if_neg (by simp), wrap64_id ((i : Int) + 1) (by omega) (by omega), hi1]
  exact ih (i + 1) k (by omega) (by omega)
theorem same_self (k : Nat) (hK : K.length ≤ 100000) (hJ : J.length ≤ 100000) (hL : L.length ≤ 100000) (hS : S.length ≤ 100000) (hU : U.length ≤ 100000) (hk : 500010 ≤ k) : longcaseref06_Same.f k K J L S U K J L S U = some true := by
 unfold longcaseref06_Same.f
 rw [if_pos rfl, if_pos rfl, if_pos rfl, bools_same k S (by omega) (by omega), Option.bind_some, if_pos rfl, bools_same k U (by omega) (by omega), Option.bind_some]
 obtain ⟨k, rfl⟩ : ∃ k', k = k' + 1 := ⟨k - 1, by omega⟩
 unfold longcaseref06_Same.j0
 show (if (!true) = true then some false else longcaseref06_Same.l0 k 0 _ _ _ _ _ _ _ _ _ _) = _
 rw [if_neg (by decide)]
 exact same_l0 K J L S U (by omega) (by omega) (by omega) K.length 0 k (by omega) (by omega)
end
end Go.Proofs.Ytdcgclhmfflheaa.PQ
