import Derived.Test.YtdcgclhmfflheaaXbmLright
namespace Go.Proofs.Ytdcgclhmfflheaa.PQ
open Go.RowKit Go.Proofs.YtdcgclhmfflheaaW.PrintWords
set_option linter.unusedVariables false
set_option linter.unusedSimpArgs false
theorem nst_same (n : Nat) : ∀ (s : NSt) (p : Nat), s.known z56.f2 = some p → ((List.replicate n z56).foldl nstep s).b = s.b := by
  induction n with
  | zero => intro s p h; rfl
  | succ n ih =>
    intro s p h
    rw [List.replicate_succ, List.foldl_cons]
    have e : nstep s z56 = { s with at_ := s.at_ ++ [(p : Int) % 256] } := by unfold nstep; rw [h]
    rw [e]
    exact ih _ p h
theorem nst_zeros (n : Nat) : (nst (List.replicate (n + 1) z56)).b.size = 1 := by
  unfold nst
  rw [List.replicate_succ, List.foldl_cons]
  rw [nst_same n _ 0 (by rfl)]
  rfl
theorem nroom_zeros (n : Nat) : nroom (List.replicate n z56) = n := by
  induction n with
  | zero => rfl
  | succ n ih =>
    rw [List.replicate_succ]
    have : nroom (z56 :: List.replicate n z56) = 1 + nroom (List.replicate n z56) := by
      unfold nroom
      rw [List.map_cons, List.sum_cons]
      rfl
    rw [this, ih]
    omega
theorem kindOk_zero (n : Nat) (S U : List Bool) (i : Nat) (hi : i < n) : kindOk S U i ((List.replicate n z56).getD i z56) = !(decide (0 < U.length) && (U.getD i false && (decide (S.length = 0) || !S.getD i false))) := by
  have e : (List.replicate n z56).getD i z56 = z56 := by simp [List.getD_eq_getElem?_getD, hi]
  rw [e]
  unfold kindOk
  have h0 : hasNul z56.f2 = false := by rfl
  rw [h0]
  have h1 : decide (-2147483648 < z56.f0) = true := by rfl
  have h2 : decide (z56.f0 ≤ 2147483647) = true := by rfl
  rw [h1, h2]
  rfl
theorem all_on {α : Type} (l : List α) (f g : α → Bool) (h : ∀ x, x ∈ l → f x = g x) : l.all f = l.all g := by
  induction l with
  | nil => rfl
  | cons a l ih => rw [List.all_cons, List.all_cons, h a List.mem_cons_self, ih (fun x hx => h x (List.mem_cons_of_mem _ hx))]
theorem right_zeros (n : Nat) (S U : List Bool) (h1 : 1 ≤ n) (h2 : n ≤ 20) (hS : S.length = 0 ∨ S.length = n) (hU : U.length = 0 ∨ U.length = n) :
    block_Right.f 400 (List.replicate n z56) [] [] S U 8 2 = some ((List.range n).all fun i => !(decide (0 < U.length) && (U.getD i false && (decide (S.length = 0) || !S.getD i false)))) := by
  rw [right_eq 400 _ [] [] S U 8 2 (by rw [nroom_zeros]; omega) (by simp) (by simp) (by simp; omega)]
  congr 1
  unfold rightS kindedS
  have e1 : decide ((8 : Int) = 8) = true := rfl
  have e2 : jumpedS (List.replicate n z56).length [] 8 = true := rfl
  have e3 : leapedS [] 8 2 = true := rfl
  have e4 : decide ((nst (List.replicate n z56)).b.size ≤ 256) = true := by
    obtain ⟨m, rfl⟩ : ∃ m, n = m + 1 := ⟨n - 1, by omega⟩
    rw [nst_zeros]
    rfl
  have e5 : (decide (S.length = 0) || decide (S.length = (List.replicate n z56).length)) = true := by rw [List.length_replicate]; rcases hS with h | h <;> simp [h]
  have e6 : (decide (U.length = 0) || decide (U.length = (List.replicate n z56).length)) = true := by rw [List.length_replicate]; rcases hU with h | h <;> simp [h]
  have e7 : decide (1 ≤ (List.replicate n z56).length) = true := by rw [List.length_replicate]; simp [h1]
  have e8 : decide ((List.replicate n z56).length ≤ 256) = true := by rw [List.length_replicate]; simp; omega
  rw [e1, e2, e3, e4, e5, e6, e7, e8, List.length_replicate]
  simp only [Bool.or_true, Bool.true_and, Bool.and_true]
  rw [← List.range_eq_range']
  exact all_on _ _ _ (fun i hi => kindOk_zero n S U i (List.mem_range.1 hi))
theorem right_call (n : Nat) (AK AS AU : Option Addr) (cK nS cS nU cU : Nat) (S U : List Bool) (o : Bool) (w : World) (hK : Kd.C k56 w AK n (List.replicate n z56)) (hcK : n ≤ cK) (hS : Kd.C Kd.bool w AS nS S) (hcS : nS ≤ cS) (hU : Kd.C Kd.bool w AU nU U) (hcU : nU ≤ cU) (hSl : S.length = nS) (hUl : U.length = nU)
    (h : block_Right.f 400 (List.replicate n z56) [] [] S U 8 2 = some o) :
    Calls Try.prog 22 #[.agg #[.slice AK n cK, .slice none 0 0, .slice none 0 0, .slice AS nS cS, .slice AU nU cU], .int .i64 8, .int .i64 2] w fun e w' => e = .returned (.bool o) ∧ Below w.heap.size w w' := by
  subst hSl
  subst hUl
  have hn : (List.replicate n z56).length = n := List.length_replicate
  have cn : ∀ {α : Type} (d : Kd α), Kd.C d w none ([] : List α).length [] := fun d => by
    obtain ⟨A, c, he, _, hc⟩ := Kd.R_reads (Kd.R_nil d 0 w 0 (fun _ => True))
    injection he with e1 e2 e3
    subst e1
    exact hc
  have hh := block_Right.calls 400 AK cK (List.replicate n z56) none 0 [] none 0 [] AS cS S AU cU U 8 2 o w (by rw [hn]; exact hK) (by rw [hn]; exact hcK) (cn _) (Nat.le_refl _) (cn _) (Nat.le_refl _) hS hcS hU hcU h
  rw [hn] at hh
  exact hh
end Go.Proofs.Ytdcgclhmfflheaa.PQ
