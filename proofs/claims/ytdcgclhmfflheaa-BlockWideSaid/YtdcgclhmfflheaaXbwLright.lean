import Derived.Test.YtdcgclhmfflheaaXbwPQf22
import Derived.Test.YtdcgclhmfflheaaXbwFnames
namespace Go.Proofs.Ytdcgclhmfflheaa.PQ
open Go.RowKit Go.Proofs.YtdcgclhmfflheaaW.PrintWords
set_option linter.unusedVariables false
set_option linter.unusedSimpArgs false
def hasNul (s : ByteArray) : Bool := decide (0 ≤ Lib.indexByte s.data.toList 0)
def kindOk (S U : List Bool) (i : Nat) (k : S56) : Bool :=
 decide (-2147483648 < k.f0) && decide (k.f0 ≤ 2147483647) && !hasNul k.f2 && !(decide (0 < U.length) && (U.getD i false && (decide (S.length = 0) || !S.getD i false)))
def kindedS (K : List S56) (S U : List Bool) : Bool :=
 decide (1 ≤ K.length) && decide (K.length ≤ 256) && (decide (S.length = 0) || decide (S.length = K.length)) && (decide (U.length = 0) || decide (U.length = K.length)) &&
  ((List.range' 0 K.length).all fun i => kindOk S U i (K.getD i z56)) && decide ((nst K).b.size ≤ 256)
theorem wrap64_id (n : Int) (a : -9223372036854775808 ≤ n) (b : n < 9223372036854775808) : wrap64 n = n := by unfold wrap64; omega
theorem contains_nul (s : ByteArray) : strings_Contains.f s (⟨#[0]⟩ : ByteArray) = some (hasNul s) := by unfold strings_Contains.f; rw [if_pos rfl]; rfl
theorem kinded_l0 (K : List S56) (J : List S54) (L : List S87) (S U : List Bool) (hK : K ≠ []) (hl : K.length ≤ 256) (hr : nroom K ≤ 140737488355328) (hS : S.length = 0 ∨ S.length = K.length) (hU : U.length = 0 ∨ U.length = K.length) :
  ∀ (m i k : Nat), i + m = K.length → 3 * m + 1 ≤ k → block_Block_kinded.l0 k K (K.length : Int) (i : Int) K J L S U = some (((List.range' i m).all fun i => kindOk S U i (K.getD i z56)) && decide ((nst K).b.size ≤ 256)) := by
 intro m
 induction m with
 | zero =>
  intro i k hi hk
  obtain ⟨k, rfl⟩ : ∃ k', k = k' + 1 := ⟨k - 1, by omega⟩
  unfold block_Block_kinded.l0
  rw [if_neg (by omega)]
  have hn : block_names.f K = some ((nst K).b, (nst K).at_) := by unfold block_names.f; rw [if_pos ⟨hK, hr, by omega⟩]
  rw [hn]
  have : ((nst K).b.size : Int) ≤ 256 ↔ (nst K).b.size ≤ 256 := by omega
  simp [this]
 | succ m ih =>
  intro i k hi hk
  obtain ⟨k, rfl⟩ : ∃ k', k = k' + 3 := ⟨k - 3, by omega⟩
  have hrd : rd_T56 K (i : Int) = K.getD i z56 := by unfold rd_T56; rw [Int.toNat_natCast]
  have hS' : rdOf false S (i : Int) = S.getD i false := by unfold rdOf; rw [Int.toNat_natCast]
  have hU' : rdOf false U (i : Int) = U.getD i false := by unfold rdOf; rw [Int.toNat_natCast]
  have hj3 : ∀ b, block_Block_kinded.j3 (k + 1) K (K.length : Int) (i : Int) b K J L S U = if b = true then some false else some (((List.range' (i + 1) m).all fun i => kindOk S U i (K.getD i z56)) && decide ((nst K).b.size ≤ 256)) := by
   intro b
   unfold block_Block_kinded.j3
   rw [wrap64_id _ (by omega) (by omega), ← ih (i + 1) k (by omega) (by omega)]
   rfl
  have hj2 : ∀ b, block_Block_kinded.j2 (k + 2) (i : Int) K (K.length : Int) (i : Int) b K J L S U = if b = true then some false else (if (decide (0 < U.length) && (U.getD i false && (decide (S.length = 0) || !S.getD i false))) = true then some false else some (((List.range' (i + 1) m).all fun i => kindOk S U i (K.getD i z56)) && decide ((nst K).b.size ≤ 256))) := by
   intro b
   unfold block_Block_kinded.j2
   cases b with
   | true => rfl
   | false =>
    simp only [hj3, hS', hU', if_neg (show ¬ (false = true) by decide)]
    rcases hU with hU | hU
    ·
     rw [if_neg (by omega)]
     simp [hU]
    ·
     rw [if_pos (by omega), if_pos (by omega), if_pos (by omega)]
     have hu : decide (0 < U.length) = true := by simp; omega
     rw [hu]
     cases hb : U.getD i false with
     | false => simp
     | true =>
      rcases hS with hS | hS
      ·
       rw [if_pos rfl, if_pos (by omega)]
       simp [hS]
      ·
       rw [if_pos rfl, if_neg (by omega), if_pos (by omega)]
       have : ¬ S.length = 0 := by omega
       simp [this]
  unfold block_Block_kinded.l0
  rw [if_pos (by omega), if_pos (by omega), if_pos (by omega), hrd]
  simp only [hj2, contains_nul, Option.bind_some]
  rw [List.range'_succ, List.all_cons]
  generalize K.getD i z56 = X
  unfold kindOk
  by_cases h1 : X.f0 ≤ -2147483648
  ·
   have h1' : ¬ (-2147483648 < X.f0) := by omega
   simp [h1, h1']
  ·
   have h1' : -2147483648 < X.f0 := by omega
   by_cases h2 : X.f0 > 2147483647
   ·
    have h2' : ¬ (X.f0 ≤ 2147483647) := by omega
    simp [h1, h2, h2']
   ·
    have h2' : X.f0 ≤ 2147483647 := by omega
    rw [if_neg h1, if_neg h2]
    cases h3 : hasNul X.f2 with
    | true => simp
    | false =>
     simp only [h1', h2', decide_true, Bool.true_and, Bool.not_false, if_neg (show ¬ (false = true) by decide)]
     cases (decide (0 < U.length) && (U.getD i false && (decide (S.length = 0) || !S.getD i false))) <;> simp
theorem kinded_eq (k : Nat) (K : List S56) (J : List S54) (L : List S87) (S U : List Bool) (hr : nroom K ≤ 140737488355328) (hk : 3 * K.length + 2 ≤ k) : block_Block_kinded.f k K J L S U = some (kindedS K S U) := by
 obtain ⟨k, rfl⟩ : ∃ k', k = k' + 1 := ⟨k - 1, by omega⟩
 unfold block_Block_kinded.f
 have hj : ∀ b, block_Block_kinded.j0 (k + 1) b K J L S U = if b = true then some false else block_Block_kinded.l0 k K (K.length : Int) 0 K J L S U := fun b => rfl
 simp only [hj]
 unfold kindedS
 by_cases h1 : K.length < 1
 ·
  rw [if_pos (by omega), if_pos trivial]
  have : ¬ 1 ≤ K.length := by omega
  simp [this]
 rw [if_neg (by omega)]
 by_cases h2 : 256 < K.length
 ·
  rw [if_pos (by omega), if_pos trivial]
  have : ¬ K.length ≤ 256 := by omega
  simp [this]
 rw [if_neg (by omega)]
 have e1 : decide (1 ≤ K.length) = true := by simp; omega
 have e2 : decide (K.length ≤ 256) = true := by simp; omega
 rw [e1, e2]
 simp only [Bool.true_and]
 have hne : K ≠ [] := by intro h; rw [h] at h1; simp at h1
 by_cases hS : S.length = 0 ∨ S.length = K.length
 ·
  by_cases hU : U.length = 0 ∨ U.length = K.length
  ·
   have hl := kinded_l0 K J L S U hne (by omega) hr hS hU K.length 0 k (by omega) (by omega)
   rw [Int.natCast_zero] at hl
   have eS : (decide (S.length = 0) || decide (S.length = K.length)) = true := by rcases hS with h | h <;> simp [h]
   have eU : (decide (U.length = 0) || decide (U.length = K.length)) = true := by rcases hU with h | h <;> simp [h]
   rw [eS, eU]
   simp only [Bool.true_and]
   rw [← hl]
   have hb : ((U.length : Int) = 0 ∨ ((U.length : Int) != (K.length : Int)) = false) := by
    rcases hU with h | h
    ·
     left; omega
    ·
     right; simp [h]
   split
   ·
    split
    ·
     rfl
    ·
     rcases hb with h | h
     ·
      omega
     ·
      rw [h]; rfl
   ·
    split
    ·
     split
     ·
      rfl
     ·
      rcases hb with h | h
      ·
       omega
      ·
       rw [h]; rfl
    ·
     omega
  ·
   have eU : (decide (U.length = 0) || decide (U.length = K.length)) = false := by
    rw [Bool.or_eq_false_iff]; constructor <;> (apply decide_eq_false; omega)
   rw [eU]
   have hb : ((U.length : Int) != (K.length : Int)) = true := by rw [bne_iff_ne]; omega
   have h0 : ¬ (U.length : Int) = 0 := by omega
   simp only [if_neg h0, hb, if_true, Bool.and_false, Bool.false_and]
   split
   ·
    rfl
   ·
    split <;> rfl
 ·
  have eS : (decide (S.length = 0) || decide (S.length = K.length)) = false := by rw [Bool.or_eq_false_iff]; constructor <;> (apply decide_eq_false; omega)
  rw [eS, if_neg (by omega), if_neg (by omega)]
  simp
def fitsS (n size : Int) : Bool := decide (size ≠ 4) || decide (-2147483648 ≤ n ∧ n < 2147483648)
theorem fits_eq (n size : Int) : block_fits.f n size = some (fitsS n size) := by
 unfold block_fits.f fitsS
 by_cases h : size = 4
 ·
  rw [if_pos h]
  have e : (n == wrap64 (wrap32 n)) = decide (-2147483648 ≤ n ∧ n < 2147483648) := by
   show decide (n = wrap64 (wrap32 n)) = _
   apply decide_eq_decide.2
   unfold wrap64 wrap32
   omega
  rw [e]
  simp [h]
 ·
  rw [if_neg h]
  simp [h]
def jumpOk (nK : Nat) (size : Int) (J : List S54) (i : Nat) : Bool :=
 (decide (i = 0) || decide ((J.getD (i - 1) z54).f0 < (J.getD i z54).f0)) && decide (0 ≤ (J.getD i z54).f1) && decide ((J.getD i z54).f1 < (nK : Int)) && fitsS (J.getD i z54).f0 size
def jumpedS (nK : Nat) (J : List S54) (size : Int) : Bool := ((List.range' 0 J.length).all fun i => jumpOk nK size J i) && decide (J.length ≤ 5000)
theorem jumped_l0 (K : List S56) (J : List S54) (L : List S87) (S U : List Bool) (size : Int) (hl : J.length ≤ 140737488355328) :
  ∀ (m i k : Nat), i + m = J.length → 2 * m + 1 ≤ k → block_Block_jumped.l0 k size J (J.length : Int) (i : Int) K J L S U = some (((List.range' i m).all fun i => jumpOk K.length size J i) && decide (J.length ≤ 5000)) := by
 intro m
 induction m with
 | zero =>
  intro i k hi hk
  obtain ⟨k, rfl⟩ : ∃ k', k = k' + 1 := ⟨k - 1, by omega⟩
  unfold block_Block_jumped.l0
  rw [if_neg (by omega)]
  have : (J.length : Int) ≤ 5000 ↔ J.length ≤ 5000 := by omega
  simp [this]
 | succ m ih =>
  intro i k hi hk
  obtain ⟨k, rfl⟩ : ∃ k', k = k' + 2 := ⟨k - 2, by omega⟩
  have hj : ∀ b, block_Block_jumped.j1 (k + 1) size J (J.length : Int) (i : Int) b K J L S U = if b = true then some false else some (((List.range' (i + 1) m).all fun i => jumpOk K.length size J i) && decide (J.length ≤ 5000)) := by
   intro b
   unfold block_Block_jumped.j1
   rw [wrap64_id _ (by omega) (by omega), ← ih (i + 1) k (by omega) (by omega)]
   rfl
  have hrd : rd_T54 J (i : Int) = J.getD i z54 := by unfold rd_T54; rw [Int.toNat_natCast]
  unfold block_Block_jumped.l0
  rw [if_pos (by omega), if_pos (by omega), if_pos (by omega), hrd]
  simp only [hj, fits_eq, Option.bind_some]
  rw [List.range'_succ, List.all_cons]
  unfold jumpOk
  by_cases h0 : i = 0
  ·
   subst h0
   rw [if_neg (by omega)]
   generalize J.getD 0 z54 = X
   by_cases h1 : X.f1 < 0
   ·
    have h1' : ¬ 0 ≤ X.f1 := by omega
    simp [h1, h1']
   ·
    have h1' : 0 ≤ X.f1 := by omega
    by_cases h2 : X.f1 ≥ (K.length : Int)
    ·
     have h2' : ¬ X.f1 < (K.length : Int) := by omega
     simp [h1, h2, h2']
    ·
     have h2' : X.f1 < (K.length : Int) := by omega
     rw [if_neg h1, if_neg h2]
     cases fitsS X.f0 size <;> simp [h1', h2']
  ·
   have hp : rd_T54 J (wrap64 ((i : Int) - 1)) = J.getD (i - 1) z54 := by
    rw [wrap64_id _ (by omega) (by omega)]
    unfold rd_T54
    congr 1
    omega
   rw [if_pos (by omega), hp, wrap64_id _ (by omega) (by omega), if_pos (by omega), if_pos (by omega)]
   generalize J.getD i z54 = X
   generalize J.getD (i - 1) z54 = Y
   have e0 : decide (i = 0) = false := by simp [h0]
   rw [e0]
   by_cases h3 : X.f0 ≤ Y.f0
   ·
    have h3' : ¬ Y.f0 < X.f0 := by omega
    simp [h3, h3']
   ·
    have h3' : Y.f0 < X.f0 := by omega
    rw [if_neg h3]
    by_cases h1 : X.f1 < 0
    ·
     have h1' : ¬ 0 ≤ X.f1 := by omega
     simp [h1, h1']
    ·
     have h1' : 0 ≤ X.f1 := by omega
     by_cases h2 : X.f1 ≥ (K.length : Int)
     ·
      have h2' : ¬ X.f1 < (K.length : Int) := by omega
      simp [h1, h2, h2']
     ·
      have h2' : X.f1 < (K.length : Int) := by omega
      rw [if_neg h1, if_neg h2]
      cases fitsS X.f0 size <;> simp [h1', h2', h3']
theorem jumped_eq (k : Nat) (K : List S56) (J : List S54) (L : List S87) (S U : List Bool) (size : Int) (hl : J.length ≤ 140737488355328) (hk : 2 * J.length + 1 ≤ k) : block_Block_jumped.f k K J L S U size = some (jumpedS K.length J size) := by
 unfold block_Block_jumped.f jumpedS
 have h := jumped_l0 K J L S U size hl J.length 0 k (by omega) hk
 rw [Int.natCast_zero] at h
 exact h
theorem ite_some (B R : Bool) : (if B = true then some R else some false) = some (B && R) := by cases B <;> rfl
def leapOk (n : Nat) (size version : Int) (i : Nat) (wasAt wasCorr : Int) (X : S87) : Bool :=
 decide (wasAt < X.f0) && (decide (wrap64 (X.f1 - wasCorr) = 1) || decide (wrap64 (X.f1 - wasCorr) = -1) || (decide (version = 4) && decide (0 < i) && decide (i + 1 = n) && decide (wrap64 (X.f1 - wasCorr) = 0))) && fitsS X.f0 size
def leapsOk (n : Nat) (size version : Int) : Nat → Int → Int → List S87 → Bool
 | _, _, _, [] => true
 | i, a, c, X :: l => leapOk n size version i a c X && leapsOk n size version (i + 1) X.f0 X.f1 l
def leapedS (L : List S87) (size version : Int) : Bool := leapsOk L.length size version 0 (-1) 0 L && decide (L.length ≤ 5000)
theorem leaped_l0 (K : List S56) (J : List S54) (L : List S87) (S U : List Bool) (size version : Int) (hl : L.length ≤ 140737488355328) :
  ∀ (m i k : Nat) (a c : Int), i + m = L.length → 3 * m + 1 ≤ k → block_Block_leaped.l0 k size version L (L.length : Int) (i : Int) K J L S U a c = some (leapsOk L.length size version i a c (L.drop i) && decide (L.length ≤ 5000)) := by
 intro m
 induction m with
 | zero =>
  intro i k a c hi hk
  obtain ⟨k, rfl⟩ : ∃ k', k = k' + 1 := ⟨k - 1, by omega⟩
  unfold block_Block_leaped.l0
  rw [if_neg (by omega), List.drop_eq_nil_of_le (by omega)]
  have : (L.length : Int) ≤ 5000 ↔ L.length ≤ 5000 := by omega
  simp [this, leapsOk]
 | succ m ih =>
  intro i k a c hi hk
  obtain ⟨k, rfl⟩ : ∃ k', k = k' + 3 := ⟨k - 3, by omega⟩
  have hil : i < L.length := by omega
  have hrd : rd_T87 L (i : Int) = L[i] := by unfold rd_T87; rw [Int.toNat_natCast, List.getD_eq_getElem?_getD, List.getElem?_eq_getElem hil]; rfl
  have hj2 : ∀ b a c, block_Block_leaped.j2 (k + 1) size version L (L.length : Int) (i : Int) b K J L S U a c = if b = true then some false else some (leapsOk L.length size version (i + 1) a c (L.drop (i + 1)) && decide (L.length ≤ 5000)) := by
   intro b a c
   unfold block_Block_leaped.j2
   rw [wrap64_id _ (by omega) (by omega), ← ih (i + 1) k a c (by omega) (by omega)]
   rfl
  unfold block_Block_leaped.l0
  rw [if_pos (by omega), if_pos (by omega), if_pos (by omega), hrd, List.drop_eq_getElem_cons hil]
  generalize L[i] = X
  unfold leapsOk leapOk
  have hj1 : ∀ b, block_Block_leaped.j1 (k + 2) size version (wrap64 (X.f1 - c)) b L (L.length : Int) (i : Int) K J L S U a c X.f0 X.f1 =
    if (decide (a < X.f0) && (decide (wrap64 (X.f1 - c) = 1) || decide (wrap64 (X.f1 - c) = -1) || b) && fitsS X.f0 size) = true then some (leapsOk L.length size version (i + 1) X.f0 X.f1 (L.drop (i + 1)) && decide (L.length ≤ 5000)) else some false := by
   intro b
   unfold block_Block_leaped.j1
   simp only [hj2, fits_eq, Option.bind_some]
   generalize wrap64 (X.f1 - c) = d
   generalize fitsS X.f0 size = f
   generalize some (leapsOk L.length size version (i + 1) X.f0 X.f1 (L.drop (i + 1)) && decide (L.length ≤ 5000)) = R
   by_cases h1 : X.f0 ≤ a
   ·
    have h1' : ¬ a < X.f0 := by omega
    simp [h1, h1']
   ·
    have h1' : a < X.f0 := by omega
    rw [if_neg h1]
    by_cases h2 : d = 1
    ·
     rw [if_pos h2]; cases f <;> simp [h1', h2]
    ·
     rw [if_neg h2]
     by_cases h3 : d = -1
     ·
      rw [if_pos h3]; cases f <;> simp [h1', h3]
     ·
      rw [if_neg h3]
      cases b <;> cases f <;> simp [h1', h2, h3]
  simp only [hj1]
  generalize leapsOk L.length size version (i + 1) X.f0 X.f1 (L.drop (i + 1)) = R
  have hw : (i : Int) = wrap64 ((L.length : Int) - 1) ↔ i + 1 = L.length := by rw [wrap64_id _ (by omega) (by omega)]; omega
  have hz : (wrap64 (X.f1 - c) == 0) = decide (wrap64 (X.f1 - c) = 0) := rfl
  by_cases hv : version = 4
  ·
   rw [if_pos hv]
   by_cases h0 : 0 < i
   ·
    rw [if_pos (by omega)]
    by_cases hl' : i + 1 = L.length
    ·
     rw [if_pos (hw.2 hl'), hz]
     simp only [hv, h0, hl', decide_true, Bool.true_and]
     rw [ite_some, ← Bool.and_assoc]
    ·
     rw [if_neg (fun h => hl' (hw.1 h))]
     simp only [hv, h0, hl', decide_true, decide_false, Bool.true_and, Bool.false_and, Bool.and_false]
     rw [ite_some, ← Bool.and_assoc]
   ·
    rw [if_neg (by omega)]
    simp only [hv, h0, decide_true, decide_false, Bool.true_and, Bool.false_and, Bool.and_false]
    rw [ite_some, ← Bool.and_assoc]
  ·
   rw [if_neg hv]
   simp only [hv, decide_false, Bool.false_and]
   rw [ite_some, ← Bool.and_assoc]
theorem leaped_eq (k : Nat) (K : List S56) (J : List S54) (L : List S87) (S U : List Bool) (size version : Int) (hl : L.length ≤ 140737488355328) (hk : 3 * L.length + 1 ≤ k) : block_Block_leaped.f k K J L S U size version = some (leapedS L size version) := by
 unfold block_Block_leaped.f leapedS
 have h := leaped_l0 K J L S U size version hl L.length 0 k (-1) 0 (by omega) hk
 rw [Int.natCast_zero, List.drop_zero] at h
 exact h
def rightS (K : List S56) (J : List S54) (L : List S87) (S U : List Bool) (size version : Int) : Bool :=
 (decide (size = 4) || decide (size = 8)) && kindedS K S U && jumpedS K.length J size && leapedS L size version
theorem right_eq (k : Nat) (K : List S56) (J : List S54) (L : List S87) (S U : List Bool) (size version : Int) (hr : nroom K ≤ 140737488355328) (hJ : J.length ≤ 140737488355328) (hL : L.length ≤ 140737488355328) (hk : 3 * K.length + 2 * J.length + 3 * L.length + 2 ≤ k) :
  block_Right.f k K J L S U size version = some (rightS K J L S U size version) := by
 unfold block_Right.f rightS
 rw [kinded_eq k K J L S U hr (by omega), jumped_eq k K J L S U size hJ (by omega), leaped_eq k K J L S U size version hL (by omega)]
 simp only [Option.bind_some]
 by_cases h4 : size = 4
 ·
  rw [if_pos h4]
  cases kindedS K S U <;> cases jumpedS K.length J size <;> simp [h4]
 ·
  rw [if_neg h4]
  by_cases h8 : size = 8
  ·
   rw [if_pos h8]
   cases kindedS K S U <;> cases jumpedS K.length J size <;> simp [h8]
  ·
   rw [if_neg h8]
   simp [h4, h8]
end Go.Proofs.Ytdcgclhmfflheaa.PQ
