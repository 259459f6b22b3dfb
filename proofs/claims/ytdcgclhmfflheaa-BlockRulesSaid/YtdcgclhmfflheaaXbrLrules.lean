import Derived.Test.YtdcgclhmfflheaaXbrFfw
import Derived.Test.YtdcgclhmfflheaaXbrLmarks
namespace Go.Proofs.Ytdcgclhmfflheaa.PQ
open Go.RowKit Go.Proofs.YtdcgclhmfflheaaW.PrintWords Go.Proofs.YtdcgclhmfflheaaW.PrintMore
set_option linter.unusedVariables false
set_option linter.unusedSimpArgs false
theorem extract_all (s : ByteArray) : s.extract 0 s.size = s := by
  apply ByteArray.ext
  simp [ByteArray.data_extract]
  first | done | (rw [show s.size = s.data.size from rfl]; simp)
theorem cutK_small (k : S56) (h : k.f2.size ≤ 60) : cutK k = k := by
  unfold cutK
  rw [Nat.min_eq_left h, extract_all]
theorem cut_again {K : List S56} {J : List S54} {L : List S87} {S U : List Bool} {K' : List S56} {J' : List S54} {L' : List S87} {S' U' : List Bool} (h : CutOf K J L S U K' J' L' S' U') : CutOf K' J' L' S' U' K' J' L' S' U' := by
  obtain ⟨hK, rfl, rfl, rfl, rfl⟩ := h
  refine ⟨?_, by rw [List.take_take, Nat.min_self], by rw [List.take_take, Nat.min_self], by rw [List.take_take, Nat.min_self], by rw [List.take_take, Nat.min_self]⟩
  have hlen : K'.length ≤ 40 := by rw [hK, List.length_map, List.length_take]; omega
  have hall : ∀ x ∈ K', cutK x = x := fun x hx => by
    rw [hK] at hx
    obtain ⟨y, _, rfl⟩ := List.mem_map.1 hx
    refine cutK_small _ ?_
    unfold cutK
    simp only [ByteArray.size_extract]
    omega
  rw [List.take_of_length_le hlen]
  exact ((List.map_congr_left (g := id) hall).trans (List.map_id _)).symm
def lastAt (J : List S54) : Int := if J.length = 0 then 0 else (J.getD (J.length - 1) z54).f0
theorem jumps_snoc (n : Nat) (size : Int) (J : List S54) (x : S54) : ((List.range' 0 (J ++ [x]).length).all fun i => jumpOk n size (J ++ [x]) i) = (((List.range' 0 J.length).all fun i => jumpOk n size J i) && ((decide (J.length = 0) || decide ((J.getD (J.length - 1) z54).f0 < x.f0)) && decide (0 ≤ x.f1) && decide (x.f1 < (n : Int)) && fitsS x.f0 size)) := by
  have e : (J ++ [x]).length = J.length + 1 := by simp
  have h2 : List.range' 0 (J.length + 1) = List.range' 0 J.length ++ [J.length] := by rw [List.range'_concat]; simp
  rw [e, h2, List.all_append]
  congr 1
  · refine all_on _ _ _ (fun i hi => ?_)
    have hi := (List.mem_range'_1.1 hi).2
    unfold jumpOk
    have g : ∀ j, j < J.length → (J ++ [x]).getD j z54 = J.getD j z54 := fun j hj => by
      simp only [List.getD_eq_getElem?_getD]
      rw [List.getElem?_append_left hj]
    rw [g i (by omega), g (i - 1) (by omega)]
  · simp only [List.all_cons, List.all_nil, Bool.and_true]
    unfold jumpOk
    have g1 : (J ++ [x]).getD J.length z54 = x := by simp [List.getD_eq_getElem?_getD]
    rw [g1]
    by_cases h0 : J.length = 0
    · simp [h0]
    · have g2 : (J ++ [x]).getD (J.length - 1) z54 = J.getD (J.length - 1) z54 := by
        simp only [List.getD_eq_getElem?_getD]
        rw [List.getElem?_append_left (by omega)]
      rw [g2]
theorem right_parts {K : List S56} {J : List S54} {L : List S87} {S U : List Bool} {size ver : Int} (h : rightS K J L S U size ver = true) : (size = 4 ∨ size = 8) ∧ kindedS K S U = true ∧ ((List.range' 0 J.length).all fun i => jumpOk K.length size J i) = true ∧ J.length ≤ 5000 ∧ leapedS L size ver = true := by
  unfold rightS jumpedS at h
  simp only [Bool.and_eq_true, Bool.or_eq_true, decide_eq_true_eq] at h
  exact ⟨h.1.1.1, h.1.1.2, h.1.2.1, h.1.2.2, h.2⟩
theorem right_same_at {K : List S56} {J : List S54} {L : List S87} {S U : List Bool} {size ver : Int} (hJ : J.length ≠ 0) : rightS K (J ++ [⟨lastAt J, 0⟩]) L S U size ver = false := by
  unfold rightS jumpedS
  rw [jumps_snoc]
  have : (decide (J.length = 0) || decide ((J.getD (J.length - 1) z54).f0 < (⟨lastAt J, 0⟩ : S54).f0)) = false := by
    unfold lastAt
    rw [if_neg hJ]
    simp [hJ]
  rw [this]
  simp
theorem right_next {K : List S56} {J : List S54} {L : List S87} {S U : List Bool} {ver : Int} (h : rightS K J L S U 8 ver = true) (hl : J.length + 1 ≤ 5000) (kind : Int) (hk : 0 ≤ kind) : rightS K (J ++ [⟨lastAt J + 1, kind⟩]) L S U 8 ver = decide (kind < (K.length : Int)) := by
  obtain ⟨h1, h2, h3, h4, h5⟩ := right_parts h
  unfold rightS jumpedS
  rw [jumps_snoc, h2, h3, h5]
  have e1 : (decide (J.length = 0) || decide ((J.getD (J.length - 1) z54).f0 < (⟨lastAt J + 1, kind⟩ : S54).f0)) = true := by
    unfold lastAt
    by_cases h0 : J.length = 0
    · simp [h0]
    · simp [h0]
      omega
  have e2 : fitsS (⟨lastAt J + 1, kind⟩ : S54).f0 8 = true := by unfold fitsS; simp
  have e3 : decide ((J ++ [(⟨lastAt J + 1, kind⟩ : S54)]).length ≤ 5000) = true := by simp; omega
  have e4 : decide (0 ≤ (⟨lastAt J + 1, kind⟩ : S54).f1) = true := by simpa using hk
  rw [e1, e2, e3, e4]
  simp
theorem right_std {K : List S56} {J : List S54} {L : List S87} {S U : List Bool} {size ver : Int} (hS : S.length = K.length + 1) : rightS K J L S U size ver = false := by
  unfold rightS kindedS
  have e1 : decide (S.length = 0) = false := decide_eq_false (by omega)
  have e2 : decide (S.length = K.length) = false := decide_eq_false (by omega)
  rw [e1, e2]
  simp
theorem right_nul {K : List S56} {J : List S54} {L : List S87} {S U : List Bool} {size ver : Int} (hK : 0 < K.length) (h : hasNul (K.getD 0 z56).f2 = true) : rightS K J L S U size ver = false := by
  unfold rightS kindedS
  have : ((List.range' 0 K.length).all fun i => kindOk S U i (K.getD i z56)) = false := by
    cases hall : ((List.range' 0 K.length).all fun i => kindOk S U i (K.getD i z56)) with
    | false => rfl
    | true =>
      have := List.all_eq_true.1 hall 0 (by rw [List.mem_range'_1]; omega)
      unfold kindOk at this
      rw [h] at this
      simp at this
  rw [this]
  simp
theorem lastAt_bd {J : List S54} (h : ∀ x ∈ J, i64b x.f0) : i64b (lastAt J) := by
  unfold lastAt
  by_cases h0 : J.length = 0
  · rw [if_pos h0]; unfold i64b; omega
  · rw [if_neg h0, getD_lt _ _ _ (by omega)]
    exact h _ (List.getElem_mem _)
end Go.Proofs.Ytdcgclhmfflheaa.PQ
