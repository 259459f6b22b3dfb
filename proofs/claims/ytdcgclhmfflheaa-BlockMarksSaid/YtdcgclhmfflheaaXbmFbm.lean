import Derived.Test.YtdcgclhmfflheaaXbmFmk
import Derived.Test.YtdcgclhmfflheaaXbmFsh
import Derived.Test.YtdcgclhmfflheaaXbmLmarks
namespace Go.Proofs.Ytdcgclhmfflheaa.PQ
open Go.RowKit Go.Proofs.YtdcgclhmfflheaaW.PrintWords Go.Proofs.YtdcgclhmfflheaaW.PrintLast Go.Proofs.YtdcgclhmfflheaaW.PrintMore
set_option linter.unusedVariables false
set_option linter.unusedSimpArgs false
theorem and_bd (a : Int) : 0 ≤ Go.bits .and .i64 a 65535 ∧ Go.bits .and .i64 a 65535 ≤ 65535 := by
  have e : (65535 : Int) = ((65535 : Nat) : Int) := rfl
  simp only [e, Go.bits, BitVec.ofInt_natCast, BitVec.toNat_and, BitVec.toNat_ofNat]
  generalize (BitVec.ofInt _ a).toNat = x
  have h : x &&& 65535 % 2 ^ IntKind.i64.bits ≤ 65535 := Nat.le_trans Nat.and_le_right (by decide)
  generalize x &&& 65535 % 2 ^ IntKind.i64.bits = y at h
  rw [IntKind.wrap_i64]
  omega
theorem marksN (a : Int) : ∃ N : Nat, 1 ≤ N ∧ N ≤ 20 ∧ wrap64 (1 + (Go.bits .and .i64 a 65535).tmod 20) = (N : Int) := by
  obtain ⟨h0, h1⟩ := and_bd a
  generalize Go.bits .and .i64 a 65535 = b at h0 h1
  rw [Int.tmod_eq_emod_of_nonneg h0]
  refine ⟨(1 + b % 20).toNat, by omega, by omega, ?_⟩
  unfold wrap64
  omega
def longcaselaw06_BlockMarks.T3 : Bool × List (List Nat × List Nat) := (true, [([], []), ([0, 0], [0]), ([], []), ([2, 2], [2]), ([], []), ([4, 4], [4]), ([1, 3, 5], [1, 3, 5]), ([], []), ([7, 6, 0, 1, 2, 3, 4, 5, 6, 7], [6, 7])])
def longcaselaw06_BlockMarks.B3 : List Nat := [0, 1, 0, 4, 0, 16, 63, 0, 255]
theorem longcaselaw06_BlockMarks.tab3 : rtab .any (opsOf Try.f9 3) = longcaselaw06_BlockMarks.T3 := by kernel_rfl
theorem longcaselaw06_BlockMarks.bits3 : waitsOk longcaselaw06_BlockMarks.T3.2 longcaselaw06_BlockMarks.B3 = true := by kernel_rfl
set_option maxHeartbeats 4000000 in
set_option maxRecDepth 100000 in
theorem blockMarks_walk (A0 : Option Addr) (c0 : Nat) (l0 : List Bool) (A1 : Option Addr) (c1 : Nat) (l1 : List Bool) (a2 : Int) (w : World) (hr0 : Kd.C Kd.bool w A0 l0.length l0) (hr1 : Kd.C Kd.bool w A1 l1.length l1) :
    Calls Try.prog 9 #[.slice A0 l0.length c0, .slice A1 l1.length c1, .int .i64 a2] w fun e w' => e = .returned (.bool true) ∧ Below w.heap.size w w' := by
  have HR0 := Aside0.mk hr0
  have HR1 := Aside0.mk hr1
  clear hr0 hr1
  have hu27 := Try.underlying27
  go_enter Try.func9, Try.ntmps9
  go_upto_region 3 with (go_at_call 17; refine (longcaselaw06_shown.calls true _ rfl).mono ?_; rintro e w1 ⟨rfl, hb1⟩; have HB1 := Aside0.mk hb1; clear hb1)
  obtain ⟨N, hN1, hN2, hN⟩ := marksN a2
  rw [hN]
  clear hN
  have HBD : Aside0 (Below w.heap.size w w1.drew) := ⟨HB1.out.drew⟩
  have hF := MkF.none_ N w1.drew.heap.size w1.drew (Nat.le_refl _)
  have hu56 := Try.underlying56
  go_cut [8] (fun v8 wx => ∃ g0 gk ck gs cs gu cu, v8 = .pointer (some ⟨g0, 0, none⟩) ∧ Aside0 (MInv N w1.drew.heap.size w wx g0 (.slice (some ⟨gk, 0, none⟩) N ck) (.slice (some ⟨gs, 0, none⟩) N cs) (.slice (some ⟨gu, 0, none⟩) N cu) (List.replicate N false) (List.replicate N false)))
  case first =>
    refine start_ (n := 9) (S := fun w' => True) (ds := [8]) #[false, false, false, false, false, false, false, false, false] (by kernel_rfl) rfl rfl trivial (fun hHeld => ?_); refine with_tabW longcaselaw06_BlockMarks.tab3 longcaselaw06_BlockMarks.bits3 (fun HT_ HW_ => ?_)
    refine pure_ (i := 0) (N := some 19) (v := ?_) (a' := ?_) #[true, false, false, false, false, false, false, false, false] rfl rfl (any_of HT_.out (by kernel_rfl)) (fun _ _ _ h => h) (Or.inl ⟨by rfl, ?_⟩) ?_ ?_
    rotate_left
    · intro w'
      go_simp
      with_reducible rfl
    rotate_left
    · simp only [Act.put, List.setIfInBounds_toArray, List.set_cons_zero, List.set_cons_succ, i64_w, i32_w]
      rfl
    refine pure_ (i := 2) (N := some 21) (v := ?_) (a' := ?_) #[true, false, true, false, false, false, false, false, false] rfl rfl (any_of HT_.out (by kernel_rfl)) (fun _ _ _ h => h) (Or.inl ⟨by rfl, ?_⟩) ?_ ?_
    rotate_left
    · intro w'
      go_simp
      with_reducible rfl
    rotate_left
    · simp only [Act.put, List.setIfInBounds_toArray, List.set_cons_zero, List.set_cons_succ, i64_w, i32_w]
      rfl
    refine pure_ (i := 4) (N := some 23) (v := ?_) (a' := ?_) #[true, false, true, false, true, false, false, false, false] rfl rfl (any_of HT_.out (by kernel_rfl)) (fun _ _ _ h => h) (Or.inl ⟨by rfl, ?_⟩) ?_ ?_
    rotate_left
    · intro w'
      go_simp
      with_reducible rfl
    rotate_left
    · simp only [Act.put, List.setIfInBounds_toArray, List.set_cons_zero, List.set_cons_succ, i64_w, i32_w]
      rfl
    refine join_ (σ := (Nat × Nat) × (Nat × Nat) × (Nat × Nat) × Nat) 1 #[true, true, true, true, true, true, true, true, false] (fun s => [(20, (.slice (some ⟨s.1.1, 0, none⟩) N s.1.2)), (22, (.slice (some ⟨s.2.1.1, 0, none⟩) N s.2.1.2)), (24, (.slice (some ⟨s.2.2.1.1, 0, none⟩) N s.2.2.1.2)), (8, .pointer (some ⟨s.2.2.2, 0, none⟩)), (25, .agg #[(.slice (some ⟨s.1.1, 0, none⟩) N s.1.2), .slice none 0 0, .slice none 0 0, (.slice (some ⟨s.2.1.1, 0, none⟩) N s.2.1.2), (.slice (some ⟨s.2.2.1.1, 0, none⟩) N s.2.2.1.2)])]) (fun s w' => MkF N w1.drew.heap.size w1.drew w' (some (.slice (some ⟨s.1.1, 0, none⟩) N s.1.2)) (some (.slice (some ⟨s.2.1.1, 0, none⟩) N s.2.1.2)) (some (.slice (some ⟨s.2.2.1.1, 0, none⟩) N s.2.2.1.2)) (some s.2.2.2)) ?_ ?_
    rotate_left
    · intro hJ1_3_5_7
      refine join_ (σ := (Nat × Nat) × (Nat × Nat) × (Nat × Nat) × Nat) 2 #[true, true, true, true, true, true, true, false, false] (fun s => [(20, (.slice (some ⟨s.1.1, 0, none⟩) N s.1.2)), (22, (.slice (some ⟨s.2.1.1, 0, none⟩) N s.2.1.2)), (24, (.slice (some ⟨s.2.2.1.1, 0, none⟩) N s.2.2.1.2)), (25, .agg #[(.slice (some ⟨s.1.1, 0, none⟩) N s.1.2), .slice none 0 0, .slice none 0 0, (.slice (some ⟨s.2.1.1, 0, none⟩) N s.2.1.2), (.slice (some ⟨s.2.2.1.1, 0, none⟩) N s.2.2.1.2)])]) (fun s w' => MkF N w1.drew.heap.size w1.drew w' (some (.slice (some ⟨s.1.1, 0, none⟩) N s.1.2)) (some (.slice (some ⟨s.2.1.1, 0, none⟩) N s.2.1.2)) (some (.slice (some ⟨s.2.2.1.1, 0, none⟩) N s.2.2.1.2)) none) ?_ ?_
      rotate_left
      · intro hJ1_3_5
        refine join_ (σ := (Nat × Nat) × (Nat × Nat) × (Nat × Nat) × Nat) 3 #[true, true, true, true, true, false, false, true, false] (fun s => [(20, (.slice (some ⟨s.1.1, 0, none⟩) N s.1.2)), (22, (.slice (some ⟨s.2.1.1, 0, none⟩) N s.2.1.2)), (8, .pointer (some ⟨s.2.2.2, 0, none⟩))]) (fun s w' => MkF N w1.drew.heap.size w1.drew w' (some (.slice (some ⟨s.1.1, 0, none⟩) N s.1.2)) (some (.slice (some ⟨s.2.1.1, 0, none⟩) N s.2.1.2)) none (some s.2.2.2)) ?_ ?_
        rotate_left
        · intro hJ1_3_7
          refine join_ (σ := (Nat × Nat) × (Nat × Nat) × (Nat × Nat) × Nat) 3 #[true, true, true, false, true, true, false, true, false] (fun s => [(20, (.slice (some ⟨s.1.1, 0, none⟩) N s.1.2)), (24, (.slice (some ⟨s.2.2.1.1, 0, none⟩) N s.2.2.1.2)), (8, .pointer (some ⟨s.2.2.2, 0, none⟩))]) (fun s w' => MkF N w1.drew.heap.size w1.drew w' (some (.slice (some ⟨s.1.1, 0, none⟩) N s.1.2)) none (some (.slice (some ⟨s.2.2.1.1, 0, none⟩) N s.2.2.1.2)) (some s.2.2.2)) ?_ ?_
          rotate_left
          · intro hJ1_5_7
            refine join_ (σ := (Nat × Nat) × (Nat × Nat) × (Nat × Nat) × Nat) 3 #[true, false, true, true, true, true, false, true, false] (fun s => [(22, (.slice (some ⟨s.2.1.1, 0, none⟩) N s.2.1.2)), (24, (.slice (some ⟨s.2.2.1.1, 0, none⟩) N s.2.2.1.2)), (8, .pointer (some ⟨s.2.2.2, 0, none⟩))]) (fun s w' => MkF N w1.drew.heap.size w1.drew w' none (some (.slice (some ⟨s.2.1.1, 0, none⟩) N s.2.1.2)) (some (.slice (some ⟨s.2.2.1.1, 0, none⟩) N s.2.2.1.2)) (some s.2.2.2)) ?_ ?_
            rotate_left
            · intro hJ3_5_7
              refine join_ (σ := (Nat × Nat) × (Nat × Nat) × (Nat × Nat) × Nat) 4 #[true, true, true, true, true, false, false, false, false] (fun s => [(20, (.slice (some ⟨s.1.1, 0, none⟩) N s.1.2)), (22, (.slice (some ⟨s.2.1.1, 0, none⟩) N s.2.1.2))]) (fun s w' => MkF N w1.drew.heap.size w1.drew w' (some (.slice (some ⟨s.1.1, 0, none⟩) N s.1.2)) (some (.slice (some ⟨s.2.1.1, 0, none⟩) N s.2.1.2)) none none) ?_ ?_
              rotate_left
              · intro hJ1_3
                refine join_ (σ := (Nat × Nat) × (Nat × Nat) × (Nat × Nat) × Nat) 4 #[true, true, true, false, true, true, false, false, false] (fun s => [(20, (.slice (some ⟨s.1.1, 0, none⟩) N s.1.2)), (24, (.slice (some ⟨s.2.2.1.1, 0, none⟩) N s.2.2.1.2))]) (fun s w' => MkF N w1.drew.heap.size w1.drew w' (some (.slice (some ⟨s.1.1, 0, none⟩) N s.1.2)) none (some (.slice (some ⟨s.2.2.1.1, 0, none⟩) N s.2.2.1.2)) none) ?_ ?_
                rotate_left
                · intro hJ1_5
                  refine join_ (σ := (Nat × Nat) × (Nat × Nat) × (Nat × Nat) × Nat) 4 #[true, true, true, false, true, false, false, true, false] (fun s => [(20, (.slice (some ⟨s.1.1, 0, none⟩) N s.1.2)), (8, .pointer (some ⟨s.2.2.2, 0, none⟩))]) (fun s w' => MkF N w1.drew.heap.size w1.drew w' (some (.slice (some ⟨s.1.1, 0, none⟩) N s.1.2)) none none (some s.2.2.2)) ?_ ?_
                  rotate_left
                  · intro hJ1_7
                    refine join_ (σ := (Nat × Nat) × (Nat × Nat) × (Nat × Nat) × Nat) 4 #[true, false, true, true, true, true, false, false, false] (fun s => [(22, (.slice (some ⟨s.2.1.1, 0, none⟩) N s.2.1.2)), (24, (.slice (some ⟨s.2.2.1.1, 0, none⟩) N s.2.2.1.2))]) (fun s w' => MkF N w1.drew.heap.size w1.drew w' none (some (.slice (some ⟨s.2.1.1, 0, none⟩) N s.2.1.2)) (some (.slice (some ⟨s.2.2.1.1, 0, none⟩) N s.2.2.1.2)) none) ?_ ?_
                    rotate_left
                    · intro hJ3_5
                      refine join_ (σ := (Nat × Nat) × (Nat × Nat) × (Nat × Nat) × Nat) 4 #[true, false, true, true, true, false, false, true, false] (fun s => [(22, (.slice (some ⟨s.2.1.1, 0, none⟩) N s.2.1.2)), (8, .pointer (some ⟨s.2.2.2, 0, none⟩))]) (fun s w' => MkF N w1.drew.heap.size w1.drew w' none (some (.slice (some ⟨s.2.1.1, 0, none⟩) N s.2.1.2)) none (some s.2.2.2)) ?_ ?_
                      rotate_left
                      · intro hJ3_7
                        refine join_ (σ := (Nat × Nat) × (Nat × Nat) × (Nat × Nat) × Nat) 4 #[true, false, true, false, true, true, false, true, false] (fun s => [(24, (.slice (some ⟨s.2.2.1.1, 0, none⟩) N s.2.2.1.2)), (8, .pointer (some ⟨s.2.2.2, 0, none⟩))]) (fun s w' => MkF N w1.drew.heap.size w1.drew w' none none (some (.slice (some ⟨s.2.2.1.1, 0, none⟩) N s.2.2.1.2)) (some s.2.2.2)) ?_ ?_
                        rotate_left
                        · intro hJ5_7
                          refine join_ (σ := (Nat × Nat) × (Nat × Nat) × (Nat × Nat) × Nat) 5 #[true, true, true, false, true, false, false, false, false] (fun s => [(20, (.slice (some ⟨s.1.1, 0, none⟩) N s.1.2))]) (fun s w' => MkF N w1.drew.heap.size w1.drew w' (some (.slice (some ⟨s.1.1, 0, none⟩) N s.1.2)) none none none) ?_ ?_
                          rotate_left
                          · intro hJ1
                            refine join_ (σ := (Nat × Nat) × (Nat × Nat) × (Nat × Nat) × Nat) 5 #[true, false, true, true, true, false, false, false, false] (fun s => [(22, (.slice (some ⟨s.2.1.1, 0, none⟩) N s.2.1.2))]) (fun s w' => MkF N w1.drew.heap.size w1.drew w' none (some (.slice (some ⟨s.2.1.1, 0, none⟩) N s.2.1.2)) none none) ?_ ?_
                            rotate_left
                            · intro hJ3
                              refine join_ (σ := (Nat × Nat) × (Nat × Nat) × (Nat × Nat) × Nat) 5 #[true, false, true, false, true, true, false, false, false] (fun s => [(24, (.slice (some ⟨s.2.2.1.1, 0, none⟩) N s.2.2.1.2))]) (fun s w' => MkF N w1.drew.heap.size w1.drew w' none none (some (.slice (some ⟨s.2.2.1.1, 0, none⟩) N s.2.2.1.2)) none) ?_ ?_
                              rotate_left
                              · intro hJ5
                                refine join_ (σ := (Nat × Nat) × (Nat × Nat) × (Nat × Nat) × Nat) 5 #[true, false, true, false, true, false, false, true, false] (fun s => [(8, .pointer (some ⟨s.2.2.2, 0, none⟩))]) (fun s w' => MkF N w1.drew.heap.size w1.drew w' none none none (some s.2.2.2)) ?_ ?_
                                rotate_left
                                · intro hJ7
                                  refine four_ (i := 1) (j := 3) (k := 5) (m := 7) (Ni := some 20) (Nj := some 22) (Nk := some 24) (Nm := some 8) #[true, true, true, false, true, false, false, false, false] #[true, false, true, true, true, false, false, false, false] #[true, false, true, false, true, true, false, false, false] #[true, false, true, false, true, false, false, true, false] rfl rfl rfl rfl rfl rfl rfl rfl (four_of HT_.out (by kernel_rfl)) (by decide) (by decide) (by decide) (by decide) (fun K hK => ?_) (fun K hK => ?_) (fun K hK => ?_) (fun K hK => ?_)
                                  · skip
                                    refine Kd.R_make_step k56 (w0 := w1.drew) w1.drew.heap.size 56 (by rfl) (N := 20) rfl 22 _ _ rfl (N : Int) rfl rfl Try.underlying22 (.agg #[(.int .i64 0), (.bool false), (.string ⟨#[]⟩)]) 32 info56 rfl (by decide) (by omega) z56 (ok := fun _ => True) (okp := fun _ => False) (k56_mkM _ _ _ _) (fun _ h => h.elim) trivial (by omega) (by omega) (Below.refl _ _) (Nat.le_trans hF.hB hF.bel.size) ?_
                                    intro v3 w3 ho hb hg hn
                                    rw [Int.toNat_natCast] at ho
                                    obtain ⟨gb, cb, hvv⟩ := R_open ho (by decide) (by simp; omega)
                                    rw [List.length_replicate] at hvv
                                    subst hvv
                                    have hF3 := hF.addK ((Below.refl _ _).grown hg (Nat.le_refl _) (fun i hi => by cases hi)) ho
                                    clear ho hb hg hn
                                    refine hK.out _ _ trivial (fun hHeld => ?_)
                                    clear hK K
                                    refine norm_ (a' := ?_) ?_ ?_
                                    rotate_left
                                    · show Act.put _ (some 20) _ = _
                                      simp only [Act.put, List.setIfInBounds_toArray, List.set_cons_zero, List.set_cons_succ, i64_w, i32_w]
                                      rfl
                                    exact norm_ (by first | (simp only [putAll, Act.put, List.setIfInBounds_toArray, List.set_cons_zero, List.set_cons_succ]; done) | (simp only [putAll, Act.put, List.setIfInBounds_toArray, List.set_cons_zero, List.set_cons_succ]; rfl)) (hJ1 ((gb, cb), (0, 0), (0, 0), 0) _ hF3)
                                  · skip
                                    refine Kd.R_make_step Kd.bool (w0 := w1.drew) w1.drew.heap.size 4 (by rfl) (N := 22) rfl 25 _ _ rfl (N : Int) rfl rfl Try.underlying25 (.bool false) 1 info4 rfl (by decide) (by omega) false (ok := fun _ => True) (okp := fun _ => False) rfl (fun _ h => h.elim) trivial (by omega) (by omega) (Below.refl _ _) (Nat.le_trans hF.hB hF.bel.size) ?_
                                    intro v3 w3 ho hb hg hn
                                    rw [Int.toNat_natCast] at ho
                                    obtain ⟨gb, cb, hvv⟩ := R_open ho (by decide) (by simp; omega)
                                    rw [List.length_replicate] at hvv
                                    subst hvv
                                    have hF3 := hF.addS ((Below.refl _ _).grown hg (Nat.le_refl _) (fun i hi => by cases hi)) ho hn
                                    clear ho hb hg hn
                                    refine hK.out _ _ trivial (fun hHeld => ?_)
                                    clear hK K
                                    refine norm_ (a' := ?_) ?_ ?_
                                    rotate_left
                                    · show Act.put _ (some 22) _ = _
                                      simp only [Act.put, List.setIfInBounds_toArray, List.set_cons_zero, List.set_cons_succ, i64_w, i32_w]
                                      rfl
                                    exact norm_ (by first | (simp only [putAll, Act.put, List.setIfInBounds_toArray, List.set_cons_zero, List.set_cons_succ]; done) | (simp only [putAll, Act.put, List.setIfInBounds_toArray, List.set_cons_zero, List.set_cons_succ]; rfl)) (hJ3 ((0, 0), (gb, cb), (0, 0), 0) _ hF3)
                                  · skip
                                    refine Kd.R_make_step Kd.bool (w0 := w1.drew) w1.drew.heap.size 4 (by rfl) (N := 24) rfl 25 _ _ rfl (N : Int) rfl rfl Try.underlying25 (.bool false) 1 info4 rfl (by decide) (by omega) false (ok := fun _ => True) (okp := fun _ => False) rfl (fun _ h => h.elim) trivial (by omega) (by omega) (Below.refl _ _) (Nat.le_trans hF.hB hF.bel.size) ?_
                                    intro v3 w3 ho hb hg hn
                                    rw [Int.toNat_natCast] at ho
                                    obtain ⟨gb, cb, hvv⟩ := R_open ho (by decide) (by simp; omega)
                                    rw [List.length_replicate] at hvv
                                    subst hvv
                                    have hF3 := hF.addU ((Below.refl _ _).grown hg (Nat.le_refl _) (fun i hi => by cases hi)) ho hn
                                    clear ho hb hg hn
                                    refine hK.out _ _ trivial (fun hHeld => ?_)
                                    clear hK K
                                    refine norm_ (a' := ?_) ?_ ?_
                                    rotate_left
                                    · show Act.put _ (some 24) _ = _
                                      simp only [Act.put, List.setIfInBounds_toArray, List.set_cons_zero, List.set_cons_succ, i64_w, i32_w]
                                      rfl
                                    exact norm_ (by first | (simp only [putAll, Act.put, List.setIfInBounds_toArray, List.set_cons_zero, List.set_cons_succ]; done) | (simp only [putAll, Act.put, List.setIfInBounds_toArray, List.set_cons_zero, List.set_cons_succ]; rfl)) (hJ5 ((0, 0), (0, 0), (gb, cb), 0) _ hF3)
                                  · skip
                                    refine value_ (w1 := ?_) (v := ?_) (by rfl) rfl ?_ ?_
                                    rotate_left 2
                                    · go_simp
                                      constructor
                                      · rfl
                                      · rfl
                                    have hF3 := hF.addX
                                    refine hK.out _ _ trivial (fun hHeld => ?_)
                                    clear hK K
                                    refine norm_ (a' := ?_) ?_ ?_
                                    rotate_left
                                    · show Act.put _ (some 8) _ = _
                                      simp only [Act.put, List.setIfInBounds_toArray, List.set_cons_zero, List.set_cons_succ, i64_w, i32_w]
                                      rfl
                                    exact norm_ (by first | (simp only [putAll, Act.put, List.setIfInBounds_toArray, List.set_cons_zero, List.set_cons_succ]; done) | (simp only [putAll, Act.put, List.setIfInBounds_toArray, List.set_cons_zero, List.set_cons_succ]; rfl)) (hJ7 ((0, 0), (0, 0), (0, 0), w1.drew.heap.size) _ hF3)
                                · skip
                                  rintro ⟨⟨gk, ck⟩, ⟨gs, cs⟩, ⟨gu, cu⟩, g0⟩ w2 hF0
                                  have hF : MkF N w1.drew.heap.size w1.drew w2 none none none (some g0) := hF0
                                  have hHeld := True.intro
                                  clear hF0
                                  refine norm_ (a' := ?_) ?_ ?_
                                  rotate_left
                                  · simp only [putAll, Act.put, List.setIfInBounds_toArray, List.set_cons_zero, List.set_cons_succ]
                                    rfl
                                  refine three_ (i := 1) (j := 3) (k := 5) (Ni := some 20) (Nj := some 22) (Nk := some 24) #[true, true, true, false, true, false, false, true, false] #[true, false, true, true, true, false, false, true, false] #[true, false, true, false, true, true, false, true, false] rfl rfl rfl rfl rfl rfl (three_of HT_.out (by kernel_rfl)) (by decide) (by decide) (by decide) (fun K hK => ?_) (fun K hK => ?_) (fun K hK => ?_)
                                  · skip
                                    refine Kd.R_make_step k56 (w0 := w2) w1.drew.heap.size 56 (by rfl) (N := 20) rfl 22 _ _ rfl (N : Int) rfl rfl Try.underlying22 (.agg #[(.int .i64 0), (.bool false), (.string ⟨#[]⟩)]) 32 info56 rfl (by decide) (by omega) z56 (ok := fun _ => True) (okp := fun _ => False) (k56_mkM _ _ _ _) (fun _ h => h.elim) trivial (by omega) (by omega) (Below.refl _ _) (Nat.le_trans hF.hB hF.bel.size) ?_
                                    intro v3 w3 ho hb hg hn
                                    rw [Int.toNat_natCast] at ho
                                    obtain ⟨gb, cb, hvv⟩ := R_open ho (by decide) (by simp; omega)
                                    rw [List.length_replicate] at hvv
                                    subst hvv
                                    have hF3 := hF.addK ((Below.refl _ _).grown hg (Nat.le_refl _) (fun i hi => by cases hi)) ho
                                    clear ho hb hg hn
                                    refine hK.out _ _ trivial (fun hHeld => ?_)
                                    clear hK K
                                    refine norm_ (a' := ?_) ?_ ?_
                                    rotate_left
                                    · show Act.put _ (some 20) _ = _
                                      simp only [Act.put, List.setIfInBounds_toArray, List.set_cons_zero, List.set_cons_succ, i64_w, i32_w]
                                      rfl
                                    exact norm_ (by first | (simp only [putAll, Act.put, List.setIfInBounds_toArray, List.set_cons_zero, List.set_cons_succ]; done) | (simp only [putAll, Act.put, List.setIfInBounds_toArray, List.set_cons_zero, List.set_cons_succ]; rfl)) (hJ1_7 ((gb, cb), (0, 0), (0, 0), g0) _ hF3)
                                  · skip
                                    refine Kd.R_make_step Kd.bool (w0 := w2) w1.drew.heap.size 4 (by rfl) (N := 22) rfl 25 _ _ rfl (N : Int) rfl rfl Try.underlying25 (.bool false) 1 info4 rfl (by decide) (by omega) false (ok := fun _ => True) (okp := fun _ => False) rfl (fun _ h => h.elim) trivial (by omega) (by omega) (Below.refl _ _) (Nat.le_trans hF.hB hF.bel.size) ?_
                                    intro v3 w3 ho hb hg hn
                                    rw [Int.toNat_natCast] at ho
                                    obtain ⟨gb, cb, hvv⟩ := R_open ho (by decide) (by simp; omega)
                                    rw [List.length_replicate] at hvv
                                    subst hvv
                                    have hF3 := hF.addS ((Below.refl _ _).grown hg (Nat.le_refl _) (fun i hi => by cases hi)) ho hn
                                    clear ho hb hg hn
                                    refine hK.out _ _ trivial (fun hHeld => ?_)
                                    clear hK K
                                    refine norm_ (a' := ?_) ?_ ?_
                                    rotate_left
                                    · show Act.put _ (some 22) _ = _
                                      simp only [Act.put, List.setIfInBounds_toArray, List.set_cons_zero, List.set_cons_succ, i64_w, i32_w]
                                      rfl
                                    exact norm_ (by first | (simp only [putAll, Act.put, List.setIfInBounds_toArray, List.set_cons_zero, List.set_cons_succ]; done) | (simp only [putAll, Act.put, List.setIfInBounds_toArray, List.set_cons_zero, List.set_cons_succ]; rfl)) (hJ3_7 ((0, 0), (gb, cb), (0, 0), g0) _ hF3)
                                  · skip
                                    refine Kd.R_make_step Kd.bool (w0 := w2) w1.drew.heap.size 4 (by rfl) (N := 24) rfl 25 _ _ rfl (N : Int) rfl rfl Try.underlying25 (.bool false) 1 info4 rfl (by decide) (by omega) false (ok := fun _ => True) (okp := fun _ => False) rfl (fun _ h => h.elim) trivial (by omega) (by omega) (Below.refl _ _) (Nat.le_trans hF.hB hF.bel.size) ?_
                                    intro v3 w3 ho hb hg hn
                                    rw [Int.toNat_natCast] at ho
                                    obtain ⟨gb, cb, hvv⟩ := R_open ho (by decide) (by simp; omega)
                                    rw [List.length_replicate] at hvv
                                    subst hvv
                                    have hF3 := hF.addU ((Below.refl _ _).grown hg (Nat.le_refl _) (fun i hi => by cases hi)) ho hn
                                    clear ho hb hg hn
                                    refine hK.out _ _ trivial (fun hHeld => ?_)
                                    clear hK K
                                    refine norm_ (a' := ?_) ?_ ?_
                                    rotate_left
                                    · show Act.put _ (some 24) _ = _
                                      simp only [Act.put, List.setIfInBounds_toArray, List.set_cons_zero, List.set_cons_succ, i64_w, i32_w]
                                      rfl
                                    exact norm_ (by first | (simp only [putAll, Act.put, List.setIfInBounds_toArray, List.set_cons_zero, List.set_cons_succ]; done) | (simp only [putAll, Act.put, List.setIfInBounds_toArray, List.set_cons_zero, List.set_cons_succ]; rfl)) (hJ5_7 ((0, 0), (0, 0), (gb, cb), g0) _ hF3)
                              · skip
                                rintro ⟨⟨gk, ck⟩, ⟨gs, cs⟩, ⟨gu, cu⟩, g0⟩ w2 hF0
                                have hF : MkF N w1.drew.heap.size w1.drew w2 none none (some (.slice (some ⟨gu, 0, none⟩) N cu)) none := hF0
                                have hHeld := True.intro
                                clear hF0
                                refine norm_ (a' := ?_) ?_ ?_
                                rotate_left
                                · simp only [putAll, Act.put, List.setIfInBounds_toArray, List.set_cons_zero, List.set_cons_succ]
                                  rfl
                                refine three_ (i := 1) (j := 3) (k := 7) (Ni := some 20) (Nj := some 22) (Nk := some 8) #[true, true, true, false, true, true, false, false, false] #[true, false, true, true, true, true, false, false, false] #[true, false, true, false, true, true, false, true, false] rfl rfl rfl rfl rfl rfl (three_of HT_.out (by kernel_rfl)) (by decide) (by decide) (by decide) (fun K hK => ?_) (fun K hK => ?_) (fun K hK => ?_)
                                · skip
                                  refine Kd.R_make_step k56 (w0 := w2) w1.drew.heap.size 56 (by rfl) (N := 20) rfl 22 _ _ rfl (N : Int) rfl rfl Try.underlying22 (.agg #[(.int .i64 0), (.bool false), (.string ⟨#[]⟩)]) 32 info56 rfl (by decide) (by omega) z56 (ok := fun _ => True) (okp := fun _ => False) (k56_mkM _ _ _ _) (fun _ h => h.elim) trivial (by omega) (by omega) (Below.refl _ _) (Nat.le_trans hF.hB hF.bel.size) ?_
                                  intro v3 w3 ho hb hg hn
                                  rw [Int.toNat_natCast] at ho
                                  obtain ⟨gb, cb, hvv⟩ := R_open ho (by decide) (by simp; omega)
                                  rw [List.length_replicate] at hvv
                                  subst hvv
                                  have hF3 := hF.addK ((Below.refl _ _).grown hg (Nat.le_refl _) (fun i hi => by cases hi)) ho
                                  clear ho hb hg hn
                                  refine hK.out _ _ trivial (fun hHeld => ?_)
                                  clear hK K
                                  refine norm_ (a' := ?_) ?_ ?_
                                  rotate_left
                                  · show Act.put _ (some 20) _ = _
                                    simp only [Act.put, List.setIfInBounds_toArray, List.set_cons_zero, List.set_cons_succ, i64_w, i32_w]
                                    rfl
                                  exact norm_ (by first | (simp only [putAll, Act.put, List.setIfInBounds_toArray, List.set_cons_zero, List.set_cons_succ]; done) | (simp only [putAll, Act.put, List.setIfInBounds_toArray, List.set_cons_zero, List.set_cons_succ]; rfl)) (hJ1_5 ((gb, cb), (0, 0), (gu, cu), 0) _ hF3)
                                · skip
                                  refine Kd.R_make_step Kd.bool (w0 := w2) w1.drew.heap.size 4 (by rfl) (N := 22) rfl 25 _ _ rfl (N : Int) rfl rfl Try.underlying25 (.bool false) 1 info4 rfl (by decide) (by omega) false (ok := fun _ => True) (okp := fun _ => False) rfl (fun _ h => h.elim) trivial (by omega) (by omega) (Below.refl _ _) (Nat.le_trans hF.hB hF.bel.size) ?_
                                  intro v3 w3 ho hb hg hn
                                  rw [Int.toNat_natCast] at ho
                                  obtain ⟨gb, cb, hvv⟩ := R_open ho (by decide) (by simp; omega)
                                  rw [List.length_replicate] at hvv
                                  subst hvv
                                  have hF3 := hF.addS ((Below.refl _ _).grown hg (Nat.le_refl _) (fun i hi => by cases hi)) ho hn
                                  clear ho hb hg hn
                                  refine hK.out _ _ trivial (fun hHeld => ?_)
                                  clear hK K
                                  refine norm_ (a' := ?_) ?_ ?_
                                  rotate_left
                                  · show Act.put _ (some 22) _ = _
                                    simp only [Act.put, List.setIfInBounds_toArray, List.set_cons_zero, List.set_cons_succ, i64_w, i32_w]
                                    rfl
                                  exact norm_ (by first | (simp only [putAll, Act.put, List.setIfInBounds_toArray, List.set_cons_zero, List.set_cons_succ]; done) | (simp only [putAll, Act.put, List.setIfInBounds_toArray, List.set_cons_zero, List.set_cons_succ]; rfl)) (hJ3_5 ((0, 0), (gb, cb), (gu, cu), 0) _ hF3)
                                · skip
                                  refine value_ (w1 := ?_) (v := ?_) (by rfl) rfl ?_ ?_
                                  rotate_left 2
                                  · go_simp
                                    constructor
                                    · rfl
                                    · rfl
                                  have hF3 := hF.addX
                                  refine hK.out _ _ trivial (fun hHeld => ?_)
                                  clear hK K
                                  refine norm_ (a' := ?_) ?_ ?_
                                  rotate_left
                                  · show Act.put _ (some 8) _ = _
                                    simp only [Act.put, List.setIfInBounds_toArray, List.set_cons_zero, List.set_cons_succ, i64_w, i32_w]
                                    rfl
                                  exact norm_ (by first | (simp only [putAll, Act.put, List.setIfInBounds_toArray, List.set_cons_zero, List.set_cons_succ]; done) | (simp only [putAll, Act.put, List.setIfInBounds_toArray, List.set_cons_zero, List.set_cons_succ]; rfl)) (hJ5_7 ((0, 0), (0, 0), (gu, cu), w2.heap.size) _ hF3)
                            · skip
                              rintro ⟨⟨gk, ck⟩, ⟨gs, cs⟩, ⟨gu, cu⟩, g0⟩ w2 hF0
                              have hF : MkF N w1.drew.heap.size w1.drew w2 none (some (.slice (some ⟨gs, 0, none⟩) N cs)) none none := hF0
                              have hHeld := True.intro
                              clear hF0
                              refine norm_ (a' := ?_) ?_ ?_
                              rotate_left
                              · simp only [putAll, Act.put, List.setIfInBounds_toArray, List.set_cons_zero, List.set_cons_succ]
                                rfl
                              refine three_ (i := 1) (j := 5) (k := 7) (Ni := some 20) (Nj := some 24) (Nk := some 8) #[true, true, true, true, true, false, false, false, false] #[true, false, true, true, true, true, false, false, false] #[true, false, true, true, true, false, false, true, false] rfl rfl rfl rfl rfl rfl (three_of HT_.out (by kernel_rfl)) (by decide) (by decide) (by decide) (fun K hK => ?_) (fun K hK => ?_) (fun K hK => ?_)
                              · skip
                                refine Kd.R_make_step k56 (w0 := w2) w1.drew.heap.size 56 (by rfl) (N := 20) rfl 22 _ _ rfl (N : Int) rfl rfl Try.underlying22 (.agg #[(.int .i64 0), (.bool false), (.string ⟨#[]⟩)]) 32 info56 rfl (by decide) (by omega) z56 (ok := fun _ => True) (okp := fun _ => False) (k56_mkM _ _ _ _) (fun _ h => h.elim) trivial (by omega) (by omega) (Below.refl _ _) (Nat.le_trans hF.hB hF.bel.size) ?_
                                intro v3 w3 ho hb hg hn
                                rw [Int.toNat_natCast] at ho
                                obtain ⟨gb, cb, hvv⟩ := R_open ho (by decide) (by simp; omega)
                                rw [List.length_replicate] at hvv
                                subst hvv
                                have hF3 := hF.addK ((Below.refl _ _).grown hg (Nat.le_refl _) (fun i hi => by cases hi)) ho
                                clear ho hb hg hn
                                refine hK.out _ _ trivial (fun hHeld => ?_)
                                clear hK K
                                refine norm_ (a' := ?_) ?_ ?_
                                rotate_left
                                · show Act.put _ (some 20) _ = _
                                  simp only [Act.put, List.setIfInBounds_toArray, List.set_cons_zero, List.set_cons_succ, i64_w, i32_w]
                                  rfl
                                exact norm_ (by first | (simp only [putAll, Act.put, List.setIfInBounds_toArray, List.set_cons_zero, List.set_cons_succ]; done) | (simp only [putAll, Act.put, List.setIfInBounds_toArray, List.set_cons_zero, List.set_cons_succ]; rfl)) (hJ1_3 ((gb, cb), (gs, cs), (0, 0), 0) _ hF3)
                              · skip
                                refine Kd.R_make_step Kd.bool (w0 := w2) w1.drew.heap.size 4 (by rfl) (N := 24) rfl 25 _ _ rfl (N : Int) rfl rfl Try.underlying25 (.bool false) 1 info4 rfl (by decide) (by omega) false (ok := fun _ => True) (okp := fun _ => False) rfl (fun _ h => h.elim) trivial (by omega) (by omega) (Below.refl _ _) (Nat.le_trans hF.hB hF.bel.size) ?_
                                intro v3 w3 ho hb hg hn
                                rw [Int.toNat_natCast] at ho
                                obtain ⟨gb, cb, hvv⟩ := R_open ho (by decide) (by simp; omega)
                                rw [List.length_replicate] at hvv
                                subst hvv
                                have hF3 := hF.addU ((Below.refl _ _).grown hg (Nat.le_refl _) (fun i hi => by cases hi)) ho hn
                                clear ho hb hg hn
                                refine hK.out _ _ trivial (fun hHeld => ?_)
                                clear hK K
                                refine norm_ (a' := ?_) ?_ ?_
                                rotate_left
                                · show Act.put _ (some 24) _ = _
                                  simp only [Act.put, List.setIfInBounds_toArray, List.set_cons_zero, List.set_cons_succ, i64_w, i32_w]
                                  rfl
                                exact norm_ (by first | (simp only [putAll, Act.put, List.setIfInBounds_toArray, List.set_cons_zero, List.set_cons_succ]; done) | (simp only [putAll, Act.put, List.setIfInBounds_toArray, List.set_cons_zero, List.set_cons_succ]; rfl)) (hJ3_5 ((0, 0), (gs, cs), (gb, cb), 0) _ hF3)
                              · skip
                                refine value_ (w1 := ?_) (v := ?_) (by rfl) rfl ?_ ?_
                                rotate_left 2
                                · go_simp
                                  constructor
                                  · rfl
                                  · rfl
                                have hF3 := hF.addX
                                refine hK.out _ _ trivial (fun hHeld => ?_)
                                clear hK K
                                refine norm_ (a' := ?_) ?_ ?_
                                rotate_left
                                · show Act.put _ (some 8) _ = _
                                  simp only [Act.put, List.setIfInBounds_toArray, List.set_cons_zero, List.set_cons_succ, i64_w, i32_w]
                                  rfl
                                exact norm_ (by first | (simp only [putAll, Act.put, List.setIfInBounds_toArray, List.set_cons_zero, List.set_cons_succ]; done) | (simp only [putAll, Act.put, List.setIfInBounds_toArray, List.set_cons_zero, List.set_cons_succ]; rfl)) (hJ3_7 ((0, 0), (gs, cs), (0, 0), w2.heap.size) _ hF3)
                          · skip
                            rintro ⟨⟨gk, ck⟩, ⟨gs, cs⟩, ⟨gu, cu⟩, g0⟩ w2 hF0
                            have hF : MkF N w1.drew.heap.size w1.drew w2 (some (.slice (some ⟨gk, 0, none⟩) N ck)) none none none := hF0
                            have hHeld := True.intro
                            clear hF0
                            refine norm_ (a' := ?_) ?_ ?_
                            rotate_left
                            · simp only [putAll, Act.put, List.setIfInBounds_toArray, List.set_cons_zero, List.set_cons_succ]
                              rfl
                            refine three_ (i := 3) (j := 5) (k := 7) (Ni := some 22) (Nj := some 24) (Nk := some 8) #[true, true, true, true, true, false, false, false, false] #[true, true, true, false, true, true, false, false, false] #[true, true, true, false, true, false, false, true, false] rfl rfl rfl rfl rfl rfl (three_of HT_.out (by kernel_rfl)) (by decide) (by decide) (by decide) (fun K hK => ?_) (fun K hK => ?_) (fun K hK => ?_)
                            · skip
                              refine Kd.R_make_step Kd.bool (w0 := w2) w1.drew.heap.size 4 (by rfl) (N := 22) rfl 25 _ _ rfl (N : Int) rfl rfl Try.underlying25 (.bool false) 1 info4 rfl (by decide) (by omega) false (ok := fun _ => True) (okp := fun _ => False) rfl (fun _ h => h.elim) trivial (by omega) (by omega) (Below.refl _ _) (Nat.le_trans hF.hB hF.bel.size) ?_
                              intro v3 w3 ho hb hg hn
                              rw [Int.toNat_natCast] at ho
                              obtain ⟨gb, cb, hvv⟩ := R_open ho (by decide) (by simp; omega)
                              rw [List.length_replicate] at hvv
                              subst hvv
                              have hF3 := hF.addS ((Below.refl _ _).grown hg (Nat.le_refl _) (fun i hi => by cases hi)) ho hn
                              clear ho hb hg hn
                              refine hK.out _ _ trivial (fun hHeld => ?_)
                              clear hK K
                              refine norm_ (a' := ?_) ?_ ?_
                              rotate_left
                              · show Act.put _ (some 22) _ = _
                                simp only [Act.put, List.setIfInBounds_toArray, List.set_cons_zero, List.set_cons_succ, i64_w, i32_w]
                                rfl
                              exact norm_ (by first | (simp only [putAll, Act.put, List.setIfInBounds_toArray, List.set_cons_zero, List.set_cons_succ]; done) | (simp only [putAll, Act.put, List.setIfInBounds_toArray, List.set_cons_zero, List.set_cons_succ]; rfl)) (hJ1_3 ((gk, ck), (gb, cb), (0, 0), 0) _ hF3)
                            · skip
                              refine Kd.R_make_step Kd.bool (w0 := w2) w1.drew.heap.size 4 (by rfl) (N := 24) rfl 25 _ _ rfl (N : Int) rfl rfl Try.underlying25 (.bool false) 1 info4 rfl (by decide) (by omega) false (ok := fun _ => True) (okp := fun _ => False) rfl (fun _ h => h.elim) trivial (by omega) (by omega) (Below.refl _ _) (Nat.le_trans hF.hB hF.bel.size) ?_
                              intro v3 w3 ho hb hg hn
                              rw [Int.toNat_natCast] at ho
                              obtain ⟨gb, cb, hvv⟩ := R_open ho (by decide) (by simp; omega)
                              rw [List.length_replicate] at hvv
                              subst hvv
                              have hF3 := hF.addU ((Below.refl _ _).grown hg (Nat.le_refl _) (fun i hi => by cases hi)) ho hn
                              clear ho hb hg hn
                              refine hK.out _ _ trivial (fun hHeld => ?_)
                              clear hK K
                              refine norm_ (a' := ?_) ?_ ?_
                              rotate_left
                              · show Act.put _ (some 24) _ = _
                                simp only [Act.put, List.setIfInBounds_toArray, List.set_cons_zero, List.set_cons_succ, i64_w, i32_w]
                                rfl
                              exact norm_ (by first | (simp only [putAll, Act.put, List.setIfInBounds_toArray, List.set_cons_zero, List.set_cons_succ]; done) | (simp only [putAll, Act.put, List.setIfInBounds_toArray, List.set_cons_zero, List.set_cons_succ]; rfl)) (hJ1_5 ((gk, ck), (0, 0), (gb, cb), 0) _ hF3)
                            · skip
                              refine value_ (w1 := ?_) (v := ?_) (by rfl) rfl ?_ ?_
                              rotate_left 2
                              · go_simp
                                constructor
                                · rfl
                                · rfl
                              have hF3 := hF.addX
                              refine hK.out _ _ trivial (fun hHeld => ?_)
                              clear hK K
                              refine norm_ (a' := ?_) ?_ ?_
                              rotate_left
                              · show Act.put _ (some 8) _ = _
                                simp only [Act.put, List.setIfInBounds_toArray, List.set_cons_zero, List.set_cons_succ, i64_w, i32_w]
                                rfl
                              exact norm_ (by first | (simp only [putAll, Act.put, List.setIfInBounds_toArray, List.set_cons_zero, List.set_cons_succ]; done) | (simp only [putAll, Act.put, List.setIfInBounds_toArray, List.set_cons_zero, List.set_cons_succ]; rfl)) (hJ1_7 ((gk, ck), (0, 0), (0, 0), w2.heap.size) _ hF3)
                        · skip
                          rintro ⟨⟨gk, ck⟩, ⟨gs, cs⟩, ⟨gu, cu⟩, g0⟩ w2 hF0
                          have hF : MkF N w1.drew.heap.size w1.drew w2 none none (some (.slice (some ⟨gu, 0, none⟩) N cu)) (some g0) := hF0
                          have hHeld := True.intro
                          clear hF0
                          refine norm_ (a' := ?_) ?_ ?_
                          rotate_left
                          · simp only [putAll, Act.put, List.setIfInBounds_toArray, List.set_cons_zero, List.set_cons_succ]
                            rfl
                          refine two_ (i := 1) (j := 3) (Ni := some 20) (Nj := some 22) #[true, true, true, false, true, true, false, true, false] #[true, false, true, true, true, true, false, true, false] rfl rfl rfl rfl (two_of HT_.out (by kernel_rfl)) (by decide) (by decide) (fun K hK => ?_) (fun K hK => ?_)
                          · skip
                            refine Kd.R_make_step k56 (w0 := w2) w1.drew.heap.size 56 (by rfl) (N := 20) rfl 22 _ _ rfl (N : Int) rfl rfl Try.underlying22 (.agg #[(.int .i64 0), (.bool false), (.string ⟨#[]⟩)]) 32 info56 rfl (by decide) (by omega) z56 (ok := fun _ => True) (okp := fun _ => False) (k56_mkM _ _ _ _) (fun _ h => h.elim) trivial (by omega) (by omega) (Below.refl _ _) (Nat.le_trans hF.hB hF.bel.size) ?_
                            intro v3 w3 ho hb hg hn
                            rw [Int.toNat_natCast] at ho
                            obtain ⟨gb, cb, hvv⟩ := R_open ho (by decide) (by simp; omega)
                            rw [List.length_replicate] at hvv
                            subst hvv
                            have hF3 := hF.addK ((Below.refl _ _).grown hg (Nat.le_refl _) (fun i hi => by cases hi)) ho
                            clear ho hb hg hn
                            refine hK.out _ _ trivial (fun hHeld => ?_)
                            clear hK K
                            refine norm_ (a' := ?_) ?_ ?_
                            rotate_left
                            · show Act.put _ (some 20) _ = _
                              simp only [Act.put, List.setIfInBounds_toArray, List.set_cons_zero, List.set_cons_succ, i64_w, i32_w]
                              rfl
                            exact norm_ (by first | (simp only [putAll, Act.put, List.setIfInBounds_toArray, List.set_cons_zero, List.set_cons_succ]; done) | (simp only [putAll, Act.put, List.setIfInBounds_toArray, List.set_cons_zero, List.set_cons_succ]; rfl)) (hJ1_5_7 ((gb, cb), (0, 0), (gu, cu), g0) _ hF3)
                          · skip
                            refine Kd.R_make_step Kd.bool (w0 := w2) w1.drew.heap.size 4 (by rfl) (N := 22) rfl 25 _ _ rfl (N : Int) rfl rfl Try.underlying25 (.bool false) 1 info4 rfl (by decide) (by omega) false (ok := fun _ => True) (okp := fun _ => False) rfl (fun _ h => h.elim) trivial (by omega) (by omega) (Below.refl _ _) (Nat.le_trans hF.hB hF.bel.size) ?_
                            intro v3 w3 ho hb hg hn
                            rw [Int.toNat_natCast] at ho
                            obtain ⟨gb, cb, hvv⟩ := R_open ho (by decide) (by simp; omega)
                            rw [List.length_replicate] at hvv
                            subst hvv
                            have hF3 := hF.addS ((Below.refl _ _).grown hg (Nat.le_refl _) (fun i hi => by cases hi)) ho hn
                            clear ho hb hg hn
                            refine hK.out _ _ trivial (fun hHeld => ?_)
                            clear hK K
                            refine norm_ (a' := ?_) ?_ ?_
                            rotate_left
                            · show Act.put _ (some 22) _ = _
                              simp only [Act.put, List.setIfInBounds_toArray, List.set_cons_zero, List.set_cons_succ, i64_w, i32_w]
                              rfl
                            exact norm_ (by first | (simp only [putAll, Act.put, List.setIfInBounds_toArray, List.set_cons_zero, List.set_cons_succ]; done) | (simp only [putAll, Act.put, List.setIfInBounds_toArray, List.set_cons_zero, List.set_cons_succ]; rfl)) (hJ3_5_7 ((0, 0), (gb, cb), (gu, cu), g0) _ hF3)
                      · skip
                        rintro ⟨⟨gk, ck⟩, ⟨gs, cs⟩, ⟨gu, cu⟩, g0⟩ w2 hF0
                        have hF : MkF N w1.drew.heap.size w1.drew w2 none (some (.slice (some ⟨gs, 0, none⟩) N cs)) none (some g0) := hF0
                        have hHeld := True.intro
                        clear hF0
                        refine norm_ (a' := ?_) ?_ ?_
                        rotate_left
                        · simp only [putAll, Act.put, List.setIfInBounds_toArray, List.set_cons_zero, List.set_cons_succ]
                          rfl
                        refine two_ (i := 1) (j := 5) (Ni := some 20) (Nj := some 24) #[true, true, true, true, true, false, false, true, false] #[true, false, true, true, true, true, false, true, false] rfl rfl rfl rfl (two_of HT_.out (by kernel_rfl)) (by decide) (by decide) (fun K hK => ?_) (fun K hK => ?_)
                        · skip
                          refine Kd.R_make_step k56 (w0 := w2) w1.drew.heap.size 56 (by rfl) (N := 20) rfl 22 _ _ rfl (N : Int) rfl rfl Try.underlying22 (.agg #[(.int .i64 0), (.bool false), (.string ⟨#[]⟩)]) 32 info56 rfl (by decide) (by omega) z56 (ok := fun _ => True) (okp := fun _ => False) (k56_mkM _ _ _ _) (fun _ h => h.elim) trivial (by omega) (by omega) (Below.refl _ _) (Nat.le_trans hF.hB hF.bel.size) ?_
                          intro v3 w3 ho hb hg hn
                          rw [Int.toNat_natCast] at ho
                          obtain ⟨gb, cb, hvv⟩ := R_open ho (by decide) (by simp; omega)
                          rw [List.length_replicate] at hvv
                          subst hvv
                          have hF3 := hF.addK ((Below.refl _ _).grown hg (Nat.le_refl _) (fun i hi => by cases hi)) ho
                          clear ho hb hg hn
                          refine hK.out _ _ trivial (fun hHeld => ?_)
                          clear hK K
                          refine norm_ (a' := ?_) ?_ ?_
                          rotate_left
                          · show Act.put _ (some 20) _ = _
                            simp only [Act.put, List.setIfInBounds_toArray, List.set_cons_zero, List.set_cons_succ, i64_w, i32_w]
                            rfl
                          exact norm_ (by first | (simp only [putAll, Act.put, List.setIfInBounds_toArray, List.set_cons_zero, List.set_cons_succ]; done) | (simp only [putAll, Act.put, List.setIfInBounds_toArray, List.set_cons_zero, List.set_cons_succ]; rfl)) (hJ1_3_7 ((gb, cb), (gs, cs), (0, 0), g0) _ hF3)
                        · skip
                          refine Kd.R_make_step Kd.bool (w0 := w2) w1.drew.heap.size 4 (by rfl) (N := 24) rfl 25 _ _ rfl (N : Int) rfl rfl Try.underlying25 (.bool false) 1 info4 rfl (by decide) (by omega) false (ok := fun _ => True) (okp := fun _ => False) rfl (fun _ h => h.elim) trivial (by omega) (by omega) (Below.refl _ _) (Nat.le_trans hF.hB hF.bel.size) ?_
                          intro v3 w3 ho hb hg hn
                          rw [Int.toNat_natCast] at ho
                          obtain ⟨gb, cb, hvv⟩ := R_open ho (by decide) (by simp; omega)
                          rw [List.length_replicate] at hvv
                          subst hvv
                          have hF3 := hF.addU ((Below.refl _ _).grown hg (Nat.le_refl _) (fun i hi => by cases hi)) ho hn
                          clear ho hb hg hn
                          refine hK.out _ _ trivial (fun hHeld => ?_)
                          clear hK K
                          refine norm_ (a' := ?_) ?_ ?_
                          rotate_left
                          · show Act.put _ (some 24) _ = _
                            simp only [Act.put, List.setIfInBounds_toArray, List.set_cons_zero, List.set_cons_succ, i64_w, i32_w]
                            rfl
                          exact norm_ (by first | (simp only [putAll, Act.put, List.setIfInBounds_toArray, List.set_cons_zero, List.set_cons_succ]; done) | (simp only [putAll, Act.put, List.setIfInBounds_toArray, List.set_cons_zero, List.set_cons_succ]; rfl)) (hJ3_5_7 ((0, 0), (gs, cs), (gb, cb), g0) _ hF3)
                    · skip
                      rintro ⟨⟨gk, ck⟩, ⟨gs, cs⟩, ⟨gu, cu⟩, g0⟩ w2 hF0
                      have hF : MkF N w1.drew.heap.size w1.drew w2 none (some (.slice (some ⟨gs, 0, none⟩) N cs)) (some (.slice (some ⟨gu, 0, none⟩) N cu)) none := hF0
                      have hHeld := True.intro
                      clear hF0
                      refine norm_ (a' := ?_) ?_ ?_
                      rotate_left
                      · simp only [putAll, Act.put, List.setIfInBounds_toArray, List.set_cons_zero, List.set_cons_succ]
                        rfl
                      refine two_ (i := 1) (j := 7) (Ni := some 20) (Nj := some 8) #[true, true, true, true, true, true, false, false, false] #[true, false, true, true, true, true, false, true, false] rfl rfl rfl rfl (two_of HT_.out (by kernel_rfl)) (by decide) (by decide) (fun K hK => ?_) (fun K hK => ?_)
                      · skip
                        refine Kd.R_make_step k56 (w0 := w2) w1.drew.heap.size 56 (by rfl) (N := 20) rfl 22 _ _ rfl (N : Int) rfl rfl Try.underlying22 (.agg #[(.int .i64 0), (.bool false), (.string ⟨#[]⟩)]) 32 info56 rfl (by decide) (by omega) z56 (ok := fun _ => True) (okp := fun _ => False) (k56_mkM _ _ _ _) (fun _ h => h.elim) trivial (by omega) (by omega) (Below.refl _ _) (Nat.le_trans hF.hB hF.bel.size) ?_
                        intro v3 w3 ho hb hg hn
                        rw [Int.toNat_natCast] at ho
                        obtain ⟨gb, cb, hvv⟩ := R_open ho (by decide) (by simp; omega)
                        rw [List.length_replicate] at hvv
                        subst hvv
                        have hF3 := hF.addK ((Below.refl _ _).grown hg (Nat.le_refl _) (fun i hi => by cases hi)) ho
                        clear ho hb hg hn
                        refine hK.out _ _ trivial (fun hHeld => ?_)
                        clear hK K
                        refine norm_ (a' := ?_) ?_ ?_
                        rotate_left
                        · show Act.put _ (some 20) _ = _
                          simp only [Act.put, List.setIfInBounds_toArray, List.set_cons_zero, List.set_cons_succ, i64_w, i32_w]
                          rfl
                        refine pure_ (i := 6) (N := some 25) (v := ?_) (a' := ?_) #[true, true, true, true, true, true, true, false, false] rfl rfl (any_of HT_.out (by kernel_rfl)) (fun _ _ _ h => h) (Or.inl ⟨by rfl, ?_⟩) ?_ ?_
                        rotate_left
                        · intro w'
                          go_simp
                          with_reducible rfl
                        rotate_left
                        · simp only [Act.put, List.setIfInBounds_toArray, List.set_cons_zero, List.set_cons_succ, i64_w, i32_w]
                          rfl
                        exact norm_ (by first | (simp only [putAll, Act.put, List.setIfInBounds_toArray, List.set_cons_zero, List.set_cons_succ]; done) | (simp only [putAll, Act.put, List.setIfInBounds_toArray, List.set_cons_zero, List.set_cons_succ]; rfl)) (hJ1_3_5 ((gb, cb), (gs, cs), (gu, cu), 0) _ hF3)
                      · skip
                        refine value_ (w1 := ?_) (v := ?_) (by rfl) rfl ?_ ?_
                        rotate_left 2
                        · go_simp
                          constructor
                          · rfl
                          · rfl
                        have hF3 := hF.addX
                        refine hK.out _ _ trivial (fun hHeld => ?_)
                        clear hK K
                        refine norm_ (a' := ?_) ?_ ?_
                        rotate_left
                        · show Act.put _ (some 8) _ = _
                          simp only [Act.put, List.setIfInBounds_toArray, List.set_cons_zero, List.set_cons_succ, i64_w, i32_w]
                          rfl
                        exact norm_ (by first | (simp only [putAll, Act.put, List.setIfInBounds_toArray, List.set_cons_zero, List.set_cons_succ]; done) | (simp only [putAll, Act.put, List.setIfInBounds_toArray, List.set_cons_zero, List.set_cons_succ]; rfl)) (hJ3_5_7 ((0, 0), (gs, cs), (gu, cu), w2.heap.size) _ hF3)
                  · skip
                    rintro ⟨⟨gk, ck⟩, ⟨gs, cs⟩, ⟨gu, cu⟩, g0⟩ w2 hF0
                    have hF : MkF N w1.drew.heap.size w1.drew w2 (some (.slice (some ⟨gk, 0, none⟩) N ck)) none none (some g0) := hF0
                    have hHeld := True.intro
                    clear hF0
                    refine norm_ (a' := ?_) ?_ ?_
                    rotate_left
                    · simp only [putAll, Act.put, List.setIfInBounds_toArray, List.set_cons_zero, List.set_cons_succ]
                      rfl
                    refine two_ (i := 3) (j := 5) (Ni := some 22) (Nj := some 24) #[true, true, true, true, true, false, false, true, false] #[true, true, true, false, true, true, false, true, false] rfl rfl rfl rfl (two_of HT_.out (by kernel_rfl)) (by decide) (by decide) (fun K hK => ?_) (fun K hK => ?_)
                    · skip
                      refine Kd.R_make_step Kd.bool (w0 := w2) w1.drew.heap.size 4 (by rfl) (N := 22) rfl 25 _ _ rfl (N : Int) rfl rfl Try.underlying25 (.bool false) 1 info4 rfl (by decide) (by omega) false (ok := fun _ => True) (okp := fun _ => False) rfl (fun _ h => h.elim) trivial (by omega) (by omega) (Below.refl _ _) (Nat.le_trans hF.hB hF.bel.size) ?_
                      intro v3 w3 ho hb hg hn
                      rw [Int.toNat_natCast] at ho
                      obtain ⟨gb, cb, hvv⟩ := R_open ho (by decide) (by simp; omega)
                      rw [List.length_replicate] at hvv
                      subst hvv
                      have hF3 := hF.addS ((Below.refl _ _).grown hg (Nat.le_refl _) (fun i hi => by cases hi)) ho hn
                      clear ho hb hg hn
                      refine hK.out _ _ trivial (fun hHeld => ?_)
                      clear hK K
                      refine norm_ (a' := ?_) ?_ ?_
                      rotate_left
                      · show Act.put _ (some 22) _ = _
                        simp only [Act.put, List.setIfInBounds_toArray, List.set_cons_zero, List.set_cons_succ, i64_w, i32_w]
                        rfl
                      exact norm_ (by first | (simp only [putAll, Act.put, List.setIfInBounds_toArray, List.set_cons_zero, List.set_cons_succ]; done) | (simp only [putAll, Act.put, List.setIfInBounds_toArray, List.set_cons_zero, List.set_cons_succ]; rfl)) (hJ1_3_7 ((gk, ck), (gb, cb), (0, 0), g0) _ hF3)
                    · skip
                      refine Kd.R_make_step Kd.bool (w0 := w2) w1.drew.heap.size 4 (by rfl) (N := 24) rfl 25 _ _ rfl (N : Int) rfl rfl Try.underlying25 (.bool false) 1 info4 rfl (by decide) (by omega) false (ok := fun _ => True) (okp := fun _ => False) rfl (fun _ h => h.elim) trivial (by omega) (by omega) (Below.refl _ _) (Nat.le_trans hF.hB hF.bel.size) ?_
                      intro v3 w3 ho hb hg hn
                      rw [Int.toNat_natCast] at ho
                      obtain ⟨gb, cb, hvv⟩ := R_open ho (by decide) (by simp; omega)
                      rw [List.length_replicate] at hvv
                      subst hvv
                      have hF3 := hF.addU ((Below.refl _ _).grown hg (Nat.le_refl _) (fun i hi => by cases hi)) ho hn
                      clear ho hb hg hn
                      refine hK.out _ _ trivial (fun hHeld => ?_)
                      clear hK K
                      refine norm_ (a' := ?_) ?_ ?_
                      rotate_left
                      · show Act.put _ (some 24) _ = _
                        simp only [Act.put, List.setIfInBounds_toArray, List.set_cons_zero, List.set_cons_succ, i64_w, i32_w]
                        rfl
                      exact norm_ (by first | (simp only [putAll, Act.put, List.setIfInBounds_toArray, List.set_cons_zero, List.set_cons_succ]; done) | (simp only [putAll, Act.put, List.setIfInBounds_toArray, List.set_cons_zero, List.set_cons_succ]; rfl)) (hJ1_5_7 ((gk, ck), (0, 0), (gb, cb), g0) _ hF3)
                · skip
                  rintro ⟨⟨gk, ck⟩, ⟨gs, cs⟩, ⟨gu, cu⟩, g0⟩ w2 hF0
                  have hF : MkF N w1.drew.heap.size w1.drew w2 (some (.slice (some ⟨gk, 0, none⟩) N ck)) none (some (.slice (some ⟨gu, 0, none⟩) N cu)) none := hF0
                  have hHeld := True.intro
                  clear hF0
                  refine norm_ (a' := ?_) ?_ ?_
                  rotate_left
                  · simp only [putAll, Act.put, List.setIfInBounds_toArray, List.set_cons_zero, List.set_cons_succ]
                    rfl
                  refine two_ (i := 3) (j := 7) (Ni := some 22) (Nj := some 8) #[true, true, true, true, true, true, false, false, false] #[true, true, true, false, true, true, false, true, false] rfl rfl rfl rfl (two_of HT_.out (by kernel_rfl)) (by decide) (by decide) (fun K hK => ?_) (fun K hK => ?_)
                  · skip
                    refine Kd.R_make_step Kd.bool (w0 := w2) w1.drew.heap.size 4 (by rfl) (N := 22) rfl 25 _ _ rfl (N : Int) rfl rfl Try.underlying25 (.bool false) 1 info4 rfl (by decide) (by omega) false (ok := fun _ => True) (okp := fun _ => False) rfl (fun _ h => h.elim) trivial (by omega) (by omega) (Below.refl _ _) (Nat.le_trans hF.hB hF.bel.size) ?_
                    intro v3 w3 ho hb hg hn
                    rw [Int.toNat_natCast] at ho
                    obtain ⟨gb, cb, hvv⟩ := R_open ho (by decide) (by simp; omega)
                    rw [List.length_replicate] at hvv
                    subst hvv
                    have hF3 := hF.addS ((Below.refl _ _).grown hg (Nat.le_refl _) (fun i hi => by cases hi)) ho hn
                    clear ho hb hg hn
                    refine hK.out _ _ trivial (fun hHeld => ?_)
                    clear hK K
                    refine norm_ (a' := ?_) ?_ ?_
                    rotate_left
                    · show Act.put _ (some 22) _ = _
                      simp only [Act.put, List.setIfInBounds_toArray, List.set_cons_zero, List.set_cons_succ, i64_w, i32_w]
                      rfl
                    refine pure_ (i := 6) (N := some 25) (v := ?_) (a' := ?_) #[true, true, true, true, true, true, true, false, false] rfl rfl (any_of HT_.out (by kernel_rfl)) (fun _ _ _ h => h) (Or.inl ⟨by rfl, ?_⟩) ?_ ?_
                    rotate_left
                    · intro w'
                      go_simp
                      with_reducible rfl
                    rotate_left
                    · simp only [Act.put, List.setIfInBounds_toArray, List.set_cons_zero, List.set_cons_succ, i64_w, i32_w]
                      rfl
                    exact norm_ (by first | (simp only [putAll, Act.put, List.setIfInBounds_toArray, List.set_cons_zero, List.set_cons_succ]; done) | (simp only [putAll, Act.put, List.setIfInBounds_toArray, List.set_cons_zero, List.set_cons_succ]; rfl)) (hJ1_3_5 ((gk, ck), (gb, cb), (gu, cu), 0) _ hF3)
                  · skip
                    refine value_ (w1 := ?_) (v := ?_) (by rfl) rfl ?_ ?_
                    rotate_left 2
                    · go_simp
                      constructor
                      · rfl
                      · rfl
                    have hF3 := hF.addX
                    refine hK.out _ _ trivial (fun hHeld => ?_)
                    clear hK K
                    refine norm_ (a' := ?_) ?_ ?_
                    rotate_left
                    · show Act.put _ (some 8) _ = _
                      simp only [Act.put, List.setIfInBounds_toArray, List.set_cons_zero, List.set_cons_succ, i64_w, i32_w]
                      rfl
                    exact norm_ (by first | (simp only [putAll, Act.put, List.setIfInBounds_toArray, List.set_cons_zero, List.set_cons_succ]; done) | (simp only [putAll, Act.put, List.setIfInBounds_toArray, List.set_cons_zero, List.set_cons_succ]; rfl)) (hJ1_5_7 ((gk, ck), (0, 0), (gu, cu), w2.heap.size) _ hF3)
              · skip
                rintro ⟨⟨gk, ck⟩, ⟨gs, cs⟩, ⟨gu, cu⟩, g0⟩ w2 hF0
                have hF : MkF N w1.drew.heap.size w1.drew w2 (some (.slice (some ⟨gk, 0, none⟩) N ck)) (some (.slice (some ⟨gs, 0, none⟩) N cs)) none none := hF0
                have hHeld := True.intro
                clear hF0
                refine norm_ (a' := ?_) ?_ ?_
                rotate_left
                · simp only [putAll, Act.put, List.setIfInBounds_toArray, List.set_cons_zero, List.set_cons_succ]
                  rfl
                refine two_ (i := 5) (j := 7) (Ni := some 24) (Nj := some 8) #[true, true, true, true, true, true, false, false, false] #[true, true, true, true, true, false, false, true, false] rfl rfl rfl rfl (two_of HT_.out (by kernel_rfl)) (by decide) (by decide) (fun K hK => ?_) (fun K hK => ?_)
                · skip
                  refine Kd.R_make_step Kd.bool (w0 := w2) w1.drew.heap.size 4 (by rfl) (N := 24) rfl 25 _ _ rfl (N : Int) rfl rfl Try.underlying25 (.bool false) 1 info4 rfl (by decide) (by omega) false (ok := fun _ => True) (okp := fun _ => False) rfl (fun _ h => h.elim) trivial (by omega) (by omega) (Below.refl _ _) (Nat.le_trans hF.hB hF.bel.size) ?_
                  intro v3 w3 ho hb hg hn
                  rw [Int.toNat_natCast] at ho
                  obtain ⟨gb, cb, hvv⟩ := R_open ho (by decide) (by simp; omega)
                  rw [List.length_replicate] at hvv
                  subst hvv
                  have hF3 := hF.addU ((Below.refl _ _).grown hg (Nat.le_refl _) (fun i hi => by cases hi)) ho hn
                  clear ho hb hg hn
                  refine hK.out _ _ trivial (fun hHeld => ?_)
                  clear hK K
                  refine norm_ (a' := ?_) ?_ ?_
                  rotate_left
                  · show Act.put _ (some 24) _ = _
                    simp only [Act.put, List.setIfInBounds_toArray, List.set_cons_zero, List.set_cons_succ, i64_w, i32_w]
                    rfl
                  refine pure_ (i := 6) (N := some 25) (v := ?_) (a' := ?_) #[true, true, true, true, true, true, true, false, false] rfl rfl (any_of HT_.out (by kernel_rfl)) (fun _ _ _ h => h) (Or.inl ⟨by rfl, ?_⟩) ?_ ?_
                  rotate_left
                  · intro w'
                    go_simp
                    with_reducible rfl
                  rotate_left
                  · simp only [Act.put, List.setIfInBounds_toArray, List.set_cons_zero, List.set_cons_succ, i64_w, i32_w]
                    rfl
                  exact norm_ (by first | (simp only [putAll, Act.put, List.setIfInBounds_toArray, List.set_cons_zero, List.set_cons_succ]; done) | (simp only [putAll, Act.put, List.setIfInBounds_toArray, List.set_cons_zero, List.set_cons_succ]; rfl)) (hJ1_3_5 ((gk, ck), (gs, cs), (gb, cb), 0) _ hF3)
                · skip
                  refine value_ (w1 := ?_) (v := ?_) (by rfl) rfl ?_ ?_
                  rotate_left 2
                  · go_simp
                    constructor
                    · rfl
                    · rfl
                  have hF3 := hF.addX
                  refine hK.out _ _ trivial (fun hHeld => ?_)
                  clear hK K
                  refine norm_ (a' := ?_) ?_ ?_
                  rotate_left
                  · show Act.put _ (some 8) _ = _
                    simp only [Act.put, List.setIfInBounds_toArray, List.set_cons_zero, List.set_cons_succ, i64_w, i32_w]
                    rfl
                  exact norm_ (by first | (simp only [putAll, Act.put, List.setIfInBounds_toArray, List.set_cons_zero, List.set_cons_succ]; done) | (simp only [putAll, Act.put, List.setIfInBounds_toArray, List.set_cons_zero, List.set_cons_succ]; rfl)) (hJ1_3_7 ((gk, ck), (gs, cs), (0, 0), w2.heap.size) _ hF3)
            · skip
              rintro ⟨⟨gk, ck⟩, ⟨gs, cs⟩, ⟨gu, cu⟩, g0⟩ w2 hF0
              have hF : MkF N w1.drew.heap.size w1.drew w2 none (some (.slice (some ⟨gs, 0, none⟩) N cs)) (some (.slice (some ⟨gu, 0, none⟩) N cu)) (some g0) := hF0
              have hHeld := True.intro
              clear hF0
              refine norm_ (a' := ?_) ?_ ?_
              rotate_left
              · simp only [putAll, Act.put, List.setIfInBounds_toArray, List.set_cons_zero, List.set_cons_succ]
                rfl
              refine one_ (i := 1) (N := some 20) #[true, true, true, true, true, true, false, true, false] rfl rfl (one_of HT_.out (by kernel_rfl)) (by decide) (fun K hK => ?_)
              refine Kd.R_make_step k56 (w0 := w2) w1.drew.heap.size 56 (by rfl) (N := 20) rfl 22 _ _ rfl (N : Int) rfl rfl Try.underlying22 (.agg #[(.int .i64 0), (.bool false), (.string ⟨#[]⟩)]) 32 info56 rfl (by decide) (by omega) z56 (ok := fun _ => True) (okp := fun _ => False) (k56_mkM _ _ _ _) (fun _ h => h.elim) trivial (by omega) (by omega) (Below.refl _ _) (Nat.le_trans hF.hB hF.bel.size) ?_
              intro v3 w3 ho hb hg hn
              rw [Int.toNat_natCast] at ho
              obtain ⟨gb, cb, hvv⟩ := R_open ho (by decide) (by simp; omega)
              rw [List.length_replicate] at hvv
              subst hvv
              have hF3 := hF.addK ((Below.refl _ _).grown hg (Nat.le_refl _) (fun i hi => by cases hi)) ho
              clear ho hb hg hn
              refine hK.out _ _ trivial (fun hHeld => ?_)
              clear hK K
              refine norm_ (a' := ?_) ?_ ?_
              rotate_left
              · show Act.put _ (some 20) _ = _
                simp only [Act.put, List.setIfInBounds_toArray, List.set_cons_zero, List.set_cons_succ, i64_w, i32_w]
                rfl
              refine pure_ (i := 6) (N := some 25) (v := ?_) (a' := ?_) #[true, true, true, true, true, true, true, true, false] rfl rfl (any_of HT_.out (by kernel_rfl)) (fun _ _ _ h => h) (Or.inl ⟨by rfl, ?_⟩) ?_ ?_
              rotate_left
              · intro w'
                go_simp
                with_reducible rfl
              rotate_left
              · simp only [Act.put, List.setIfInBounds_toArray, List.set_cons_zero, List.set_cons_succ, i64_w, i32_w]
                rfl
              exact norm_ (by first | (simp only [putAll, Act.put, List.setIfInBounds_toArray, List.set_cons_zero, List.set_cons_succ]; done) | (simp only [putAll, Act.put, List.setIfInBounds_toArray, List.set_cons_zero, List.set_cons_succ]; rfl)) (hJ1_3_5_7 ((gb, cb), (gs, cs), (gu, cu), g0) _ hF3)
          · skip
            rintro ⟨⟨gk, ck⟩, ⟨gs, cs⟩, ⟨gu, cu⟩, g0⟩ w2 hF0
            have hF : MkF N w1.drew.heap.size w1.drew w2 (some (.slice (some ⟨gk, 0, none⟩) N ck)) none (some (.slice (some ⟨gu, 0, none⟩) N cu)) (some g0) := hF0
            have hHeld := True.intro
            clear hF0
            refine norm_ (a' := ?_) ?_ ?_
            rotate_left
            · simp only [putAll, Act.put, List.setIfInBounds_toArray, List.set_cons_zero, List.set_cons_succ]
              rfl
            refine one_ (i := 3) (N := some 22) #[true, true, true, true, true, true, false, true, false] rfl rfl (one_of HT_.out (by kernel_rfl)) (by decide) (fun K hK => ?_)
            refine Kd.R_make_step Kd.bool (w0 := w2) w1.drew.heap.size 4 (by rfl) (N := 22) rfl 25 _ _ rfl (N : Int) rfl rfl Try.underlying25 (.bool false) 1 info4 rfl (by decide) (by omega) false (ok := fun _ => True) (okp := fun _ => False) rfl (fun _ h => h.elim) trivial (by omega) (by omega) (Below.refl _ _) (Nat.le_trans hF.hB hF.bel.size) ?_
            intro v3 w3 ho hb hg hn
            rw [Int.toNat_natCast] at ho
            obtain ⟨gb, cb, hvv⟩ := R_open ho (by decide) (by simp; omega)
            rw [List.length_replicate] at hvv
            subst hvv
            have hF3 := hF.addS ((Below.refl _ _).grown hg (Nat.le_refl _) (fun i hi => by cases hi)) ho hn
            clear ho hb hg hn
            refine hK.out _ _ trivial (fun hHeld => ?_)
            clear hK K
            refine norm_ (a' := ?_) ?_ ?_
            rotate_left
            · show Act.put _ (some 22) _ = _
              simp only [Act.put, List.setIfInBounds_toArray, List.set_cons_zero, List.set_cons_succ, i64_w, i32_w]
              rfl
            refine pure_ (i := 6) (N := some 25) (v := ?_) (a' := ?_) #[true, true, true, true, true, true, true, true, false] rfl rfl (any_of HT_.out (by kernel_rfl)) (fun _ _ _ h => h) (Or.inl ⟨by rfl, ?_⟩) ?_ ?_
            rotate_left
            · intro w'
              go_simp
              with_reducible rfl
            rotate_left
            · simp only [Act.put, List.setIfInBounds_toArray, List.set_cons_zero, List.set_cons_succ, i64_w, i32_w]
              rfl
            exact norm_ (by first | (simp only [putAll, Act.put, List.setIfInBounds_toArray, List.set_cons_zero, List.set_cons_succ]; done) | (simp only [putAll, Act.put, List.setIfInBounds_toArray, List.set_cons_zero, List.set_cons_succ]; rfl)) (hJ1_3_5_7 ((gk, ck), (gb, cb), (gu, cu), g0) _ hF3)
        · skip
          rintro ⟨⟨gk, ck⟩, ⟨gs, cs⟩, ⟨gu, cu⟩, g0⟩ w2 hF0
          have hF : MkF N w1.drew.heap.size w1.drew w2 (some (.slice (some ⟨gk, 0, none⟩) N ck)) (some (.slice (some ⟨gs, 0, none⟩) N cs)) none (some g0) := hF0
          have hHeld := True.intro
          clear hF0
          refine norm_ (a' := ?_) ?_ ?_
          rotate_left
          · simp only [putAll, Act.put, List.setIfInBounds_toArray, List.set_cons_zero, List.set_cons_succ]
            rfl
          refine one_ (i := 5) (N := some 24) #[true, true, true, true, true, true, false, true, false] rfl rfl (one_of HT_.out (by kernel_rfl)) (by decide) (fun K hK => ?_)
          refine Kd.R_make_step Kd.bool (w0 := w2) w1.drew.heap.size 4 (by rfl) (N := 24) rfl 25 _ _ rfl (N : Int) rfl rfl Try.underlying25 (.bool false) 1 info4 rfl (by decide) (by omega) false (ok := fun _ => True) (okp := fun _ => False) rfl (fun _ h => h.elim) trivial (by omega) (by omega) (Below.refl _ _) (Nat.le_trans hF.hB hF.bel.size) ?_
          intro v3 w3 ho hb hg hn
          rw [Int.toNat_natCast] at ho
          obtain ⟨gb, cb, hvv⟩ := R_open ho (by decide) (by simp; omega)
          rw [List.length_replicate] at hvv
          subst hvv
          have hF3 := hF.addU ((Below.refl _ _).grown hg (Nat.le_refl _) (fun i hi => by cases hi)) ho hn
          clear ho hb hg hn
          refine hK.out _ _ trivial (fun hHeld => ?_)
          clear hK K
          refine norm_ (a' := ?_) ?_ ?_
          rotate_left
          · show Act.put _ (some 24) _ = _
            simp only [Act.put, List.setIfInBounds_toArray, List.set_cons_zero, List.set_cons_succ, i64_w, i32_w]
            rfl
          refine pure_ (i := 6) (N := some 25) (v := ?_) (a' := ?_) #[true, true, true, true, true, true, true, true, false] rfl rfl (any_of HT_.out (by kernel_rfl)) (fun _ _ _ h => h) (Or.inl ⟨by rfl, ?_⟩) ?_ ?_
          rotate_left
          · intro w'
            go_simp
            with_reducible rfl
          rotate_left
          · simp only [Act.put, List.setIfInBounds_toArray, List.set_cons_zero, List.set_cons_succ, i64_w, i32_w]
            rfl
          exact norm_ (by first | (simp only [putAll, Act.put, List.setIfInBounds_toArray, List.set_cons_zero, List.set_cons_succ]; done) | (simp only [putAll, Act.put, List.setIfInBounds_toArray, List.set_cons_zero, List.set_cons_succ]; rfl)) (hJ1_3_5_7 ((gk, ck), (gs, cs), (gb, cb), g0) _ hF3)
      · skip
        rintro ⟨⟨gk, ck⟩, ⟨gs, cs⟩, ⟨gu, cu⟩, g0⟩ w2 hF0
        have hF : MkF N w1.drew.heap.size w1.drew w2 (some (.slice (some ⟨gk, 0, none⟩) N ck)) (some (.slice (some ⟨gs, 0, none⟩) N cs)) (some (.slice (some ⟨gu, 0, none⟩) N cu)) none := hF0
        have hHeld := True.intro
        clear hF0
        refine norm_ (a' := ?_) ?_ ?_
        rotate_left
        · simp only [putAll, Act.put, List.setIfInBounds_toArray, List.set_cons_zero, List.set_cons_succ]
          rfl
        refine one_ (i := 7) (N := some 8) #[true, true, true, true, true, true, true, true, false] rfl rfl (one_of HT_.out (by kernel_rfl)) (by decide) (fun K hK => ?_)
        refine value_ (w1 := ?_) (v := ?_) (by rfl) rfl ?_ ?_
        rotate_left 2
        · go_simp
          constructor
          · rfl
          · rfl
        have hF3 := hF.addX
        refine hK.out _ _ trivial (fun hHeld => ?_)
        clear hK K
        refine norm_ (a' := ?_) ?_ ?_
        rotate_left
        · show Act.put _ (some 8) _ = _
          simp only [Act.put, List.setIfInBounds_toArray, List.set_cons_zero, List.set_cons_succ, i64_w, i32_w]
          rfl
        exact norm_ (by first | (simp only [putAll, Act.put, List.setIfInBounds_toArray, List.set_cons_zero, List.set_cons_succ]; done) | (simp only [putAll, Act.put, List.setIfInBounds_toArray, List.set_cons_zero, List.set_cons_succ]; rfl)) (hJ1_3_5_7 ((gk, ck), (gs, cs), (gu, cu), w2.heap.size) _ hF3)
    rintro ⟨⟨gk, ck⟩, ⟨gs, cs⟩, ⟨gu, cu⟩, g0⟩ w2 hF0
    have hF : MkF N w1.drew.heap.size w1.drew w2 (some (.slice (some ⟨gk, 0, none⟩) N ck)) (some (.slice (some ⟨gs, 0, none⟩) N cs)) (some (.slice (some ⟨gu, 0, none⟩) N cu)) (some g0) := hF0
    have hHeld := True.intro
    clear hF0
    obtain ⟨hge, hX⟩ := hF.X _ rfl
    have z0 : w2.cell? ⟨g0, 0, none⟩ = some (.slice none 0 0) := blk_cell hX 0
    have z1 : w2.cell? ⟨g0, 1, none⟩ = some (.slice none 0 0) := blk_cell hX 1
    have z2 : w2.cell? ⟨g0, 2, none⟩ = some (.slice none 0 0) := blk_cell hX 2
    have z3 : w2.cell? ⟨g0, 3, none⟩ = some (.slice none 0 0) := blk_cell hX 3
    have z4 : w2.cell? ⟨g0, 4, none⟩ = some (.slice none 0 0) := blk_cell hX 4
    have f0 := blk_frozen hX 0
    have f1 := blk_frozen hX 1
    have f2 := blk_frozen hX 2
    have f3 := blk_frozen hX 3
    have f4 := blk_frozen hX 4
    have HF := Aside0.mk hF
    clear hF hX
    refine norm_ (a' := ?_) ?_ ?_
    rotate_left
    · simp only [putAll, Act.put, List.setIfInBounds_toArray, List.set_cons_zero, List.set_cons_succ]
      rfl
    refine last_ (i := 8) (N := none) #[true, true, true, true, true, true, true, true, true] rfl rfl (one_of HT_.out (by kernel_rfl)) (by decide) (fun K hK => ?_)
    refine skip_ (w1 := ?_) (by rfl) rfl ?_ ?_
    rotate_left
    · go_simp
      rfl
    refine hK.out _ _ ?_
    clear hK K
    refine done_ (done_of HT_.out (by kernel_rfl)) ?_
    go_wp2_with fail
    go_meet
    case rel => exact ⟨g0, gk, ck, gs, cs, gu, cu, rfl, ⟨HF.out.fin HBD.out HBD.out.size⟩⟩
  case rest =>
    obtain ⟨g0, gk, ck, gs, cs, gu, cu, rfl, HI⟩ := hcut
    obtain ⟨B, hB⟩ : ∃ B, B = w1.drew.heap.size := ⟨_, rfl⟩
    rw [← hB] at HI
    clear hB hF HBD HB1
    obtain ⟨SL, hSL⟩ : ∃ SL : Nat → List Bool, SL = fun k => (List.range N).map fun i => if i < k then l0.getD i false else false := ⟨_, rfl⟩
    obtain ⟨UL, hUL⟩ : ∃ UL : Nat → List Bool, UL = fun k => (List.range N).map fun i => if i < k then l1.getD i false else false := ⟨_, rfl⟩
    have HSL := Aside0.mk hSL
    have HUL := Aside0.mk hUL
    have hrep : ∀ l : List Bool, List.replicate N false = (List.range N).map fun i => if i < 0 then l.getD i false else false := fun l => by
      apply List.ext_getElem (by simp)
      intro i h1 h2
      simp
    have HI0 : Aside0 (MInv N B w wc g0 (.slice (some ⟨gk, 0, none⟩) N ck) (.slice (some ⟨gs, 0, none⟩) N cs) (.slice (some ⟨gu, 0, none⟩) N cu) (SL 0) (UL 0)) := ⟨by rw [hSL, hUL]; have h := HI.out; rw [hrep l0] at h; rw [← hrep l0] at h; exact (by have h2 := HI.out; simpa [hrep l0] using h2)⟩
    clear hSL hUL hrep HI
    have hu25 := Try.underlying25
    go_wp2_with fail
    go_loopw [9, 10, 11] (fun v9 v10 v11 wr => ∃ k : Nat, k ≤ N ∧ v11 = .int .i64 k ∧ v9 = .bool ((List.range k).all fun i => !l1.getD i false || l0.getD i false) ∧ v10 = .bool ((List.range k).all fun i => !l1.getD i false) ∧ Aside0 (MInv N B w wr g0 (.slice (some ⟨gk, 0, none⟩) N ck) (.slice (some ⟨gs, 0, none⟩) N cs) (.slice (some ⟨gu, 0, none⟩) N cu) (SL k) (UL k))) (fun _ _ i _ => N - (intOf i).toNat)
    case atStart => exact ⟨0, Nat.zero_le _, rfl, rfl, rfl, HI0⟩
    case round =>
      clear HI0
      obtain ⟨k, hk, rfl, rfl, rfl, HI⟩ := hrel
      by_cases hlt : k < N
      · go_upto_region 9 with fail
        go_cut [] from 31 to 44 (fun wx => Aside0 (MInv N B w wx g0 (.slice (some ⟨gk, 0, none⟩) N ck) (.slice (some ⟨gs, 0, none⟩) N cs) (.slice (some ⟨gu, 0, none⟩) N cu) (SL (k + 1)) (UL k)))
        case first =>
          have HD1 := Aside0.mk (HI.out.below (Below.refl _ _).drew)
          obtain ⟨jc, jf⟩ := bool_cell HD1.out.S k hlt
          have HREL : ∀ b, b = l0.getD k false → Aside0 (MInv N B w (wr.setCell ⟨gs, k, none⟩ (.bool b)).drew g0 (.slice (some ⟨gk, 0, none⟩) N ck) (.slice (some ⟨gs, 0, none⟩) N cs) (.slice (some ⟨gu, 0, none⟩) N cu) (SL (k + 1)) (UL k)) := fun b hb => ⟨by
            have h := (HI.out.setS k b).below (Below.refl _ _).drew
            have e : (SL k).set k b = SL (k + 1) := by
              rw [HSL.out]
              refine map_range_set _ _ _ _ _ (fun _ => ?_) (fun i hi hne => ?_)
              · rw [if_pos (Nat.lt_succ_self k)]; exact hb
              · have : (i < k) ↔ (i < k + 1) := by omega
                simp [this]
            rw [e] at h
            exact h⟩
          have HRELA := Aside0.mk HREL
          clear HREL
          by_cases hkl : k < l0.length
          · obtain ⟨ad, rfl, hx⟩ := bool_read HR0.out k hkl
            obtain ⟨b, hb⟩ : ∃ b, b = l0.getD k false := ⟨_, rfl⟩
            rw [← hb] at hx
            have HBV := Aside0.mk hb
            have HX := Aside0.mk hx
            have HBL := Aside0.mk (World.block_lt_of_cell? _ _ hx)
            have hdl : decide ((k : Int) < (l0.length : Int)) = true := by simp; omega
            clear hx hb
            refine start_ (n := 15) (S := fun w' => w'.cell? ⟨g0, 3, none⟩ = some (.slice (some ⟨gs, 0, none⟩) N cs) ∧ w'.cell? (ad.add k) = some (.bool b)) (ds := [14]) #[false, false, false, false, false, false, false, false, false, false, false, false, false, false, false] (by kernel_rfl) rfl rfl ⟨(HD1.out.xc 3).trans rfl, (HD1.out.bel.cell HBL.out).trans HX.out⟩ (fun hHeld => ?_)
            refine pure_ (i := 0) (N := some 31) (v := ?_) (a' := ?_) #[true, false, false, false, false, false, false, false, false, false, false, false, false, false, false] rfl rfl (by kernel_rfl) (fun _ _ _ h => h) (Or.inl ⟨by rfl, ?_⟩) ?_ ?_
            rotate_left
            · intro w'
              go_simp
              with_reducible rfl
            rotate_left
            · simp only [Act.put, List.setIfInBounds_toArray, List.set_cons_zero, List.set_cons_succ, i64_w, i32_w]
              rfl
            refine pure_ (i := 2) (N := some 33) (v := ?_) (a' := ?_) #[true, false, true, false, false, false, false, false, false, false, false, false, false, false, false] rfl rfl (by kernel_rfl) (fun _ _ _ h => h) (Or.inl ⟨by rfl, ?_⟩) ?_ ?_
            rotate_left
            · intro w'
              go_simp
              with_reducible rfl
            rotate_left
            · simp only [Act.put, List.setIfInBounds_toArray, List.set_cons_zero, List.set_cons_succ, i64_w, i32_w]
              rfl
            refine pure_ (i := 3) (N := some 34) (v := ?_) (a' := ?_) #[true, false, true, true, false, false, false, false, false, false, false, false, false, false, false] rfl rfl (by kernel_rfl) (fun _ _ _ h => h) (Or.inl ⟨by rfl, ?_⟩) ?_ ?_
            rotate_left
            · intro w'
              go_simp
              with_reducible rfl
            rotate_left
            · simp only [Act.put, List.setIfInBounds_toArray, List.set_cons_zero, List.set_cons_succ, i64_w, i32_w]
              rfl
            refine pure_ (i := 4) (N := some 35) (v := ?_) (a' := ?_) #[true, false, true, true, true, false, false, false, false, false, false, false, false, false, false] rfl rfl (by kernel_rfl) (fun _ _ _ h => h) (Or.inl ⟨by rfl, ?_⟩) ?_ ?_
            rotate_left
            · intro w'
              go_simp
              with_reducible rfl
            rotate_left
            · simp only [Act.put, List.setIfInBounds_toArray, List.set_cons_zero, List.set_cons_succ, i64_w, i32_w]
              rfl
            refine pure_ (i := 5) (N := some 36) (v := ?_) (a' := ?_) #[true, false, true, true, true, true, false, false, false, false, false, false, false, false, false] rfl rfl (by kernel_rfl) (fun _ _ _ h => h) (Or.inl ⟨by rfl, ?_⟩) ?_ ?_
            rotate_left
            · intro w'
              go_simp
              with_reducible rfl
            rotate_left
            · simp only [Act.put, List.setIfInBounds_toArray, List.set_cons_zero, List.set_cons_succ, i64_w, i32_w]
              rfl
            refine pure_ (i := 6) (N := some 37) (v := ?_) (a' := ?_) #[true, false, true, true, true, true, true, false, false, false, false, false, false, false, false] rfl rfl (by kernel_rfl) (fun _ _ _ h => h) (Or.inl ⟨by rfl, ?_⟩) ?_ ?_
            rotate_left
            · intro w'
              go_simp
              with_reducible rfl
            rotate_left
            · simp only [Act.put, List.setIfInBounds_toArray, List.set_cons_zero, List.set_cons_succ, i64_w, i32_w]
              rfl
            refine pure_ (i := 7) (N := some 38) (v := ?_) (a' := ?_) #[true, false, true, true, true, true, true, true, false, false, false, false, false, false, false] rfl rfl (by kernel_rfl) (fun _ _ _ h => h) (Or.inl ⟨by rfl, ?_⟩) ?_ ?_
            rotate_left
            · intro w'
              go_simp
              with_reducible rfl
            rotate_left
            · simp only [Act.put, List.setIfInBounds_toArray, List.set_cons_zero, List.set_cons_succ, i64_w, i32_w]
              rfl
            refine pure_ (i := 8) (N := some 39) (v := ?_) (a' := ?_) #[true, false, true, true, true, true, true, true, true, false, false, false, false, false, false] rfl rfl (by kernel_rfl) (fun _ _ _ h => h) (Or.inl ⟨by rfl, ?_⟩) ?_ ?_
            rotate_left
            · intro w'
              go_simp
              with_reducible rfl
            rotate_left
            · simp only [Act.put, List.setIfInBounds_toArray, List.set_cons_zero, List.set_cons_succ, i64_w, i32_w]
              rfl
            refine pure_ (i := 9) (N := some 40) (v := ?_) (a' := ?_) #[true, false, true, true, true, true, true, true, true, true, false, false, false, false, false] rfl rfl (by kernel_rfl) (fun _ _ _ h => h) (Or.inl ⟨by rfl, ?_⟩) ?_ ?_
            rotate_left
            · intro w'
              go_simp
              with_reducible rfl
            rotate_left
            · simp only [Act.put, List.setIfInBounds_toArray, List.set_cons_zero, List.set_cons_succ, i64_w, i32_w]
              rfl
            refine pure_ (i := 10) (N := some 41) (v := ?_) (a' := ?_) #[true, false, true, true, true, true, true, true, true, true, true, false, false, false, false] rfl rfl (by kernel_rfl) (fun _ _ _ h => h) (Or.inl ⟨by rfl, ?_⟩) ?_ ?_
            rotate_left
            · intro w'
              go_simp
              with_reducible rfl
            rotate_left
            · simp only [Act.put, List.setIfInBounds_toArray, List.set_cons_zero, List.set_cons_succ, i64_w, i32_w]
              rfl
            refine take_ (i := 1) (N := some 32) (v := ?_) (a' := ?_) #[true, true, true, true, true, true, true, true, true, true, true, false, false, false, false] rfl rfl (by kernel_rfl) (fun _ _ _ h => h) (Or.inl ⟨by rfl, ?_⟩) hHeld ?_ ?_
            rotate_left
            · rintro w' ⟨s0, s1⟩
              go_simp
              with_reducible rfl
            rotate_left
            · simp only [Act.put, List.setIfInBounds_toArray, List.set_cons_zero, List.set_cons_succ, i64_w, i32_w]
              rfl
            refine take_ (i := 11) (N := some 42) (v := ?_) (a' := ?_) #[true, true, true, true, true, true, true, true, true, true, true, true, false, false, false] rfl rfl (by kernel_rfl) (fun _ _ _ h => h) (Or.inl ⟨by rfl, ?_⟩) hHeld ?_ ?_
            rotate_left
            · rintro w' ⟨s0, s1⟩
              go_simp
              with_reducible rfl
            rotate_left
            · simp only [Act.put, List.setIfInBounds_toArray, List.set_cons_zero, List.set_cons_succ, i64_w, i32_w]
              rfl
            refine pure_ (i := 12) (N := some 43) (v := ?_) (a' := ?_) #[true, true, true, true, true, true, true, true, true, true, true, true, true, false, false] rfl rfl (by kernel_rfl) (fun _ _ _ h => h) (Or.inl ⟨by rfl, ?_⟩) ?_ ?_
            rotate_left
            · intro w'
              go_simp
              with_reducible rfl
            rotate_left
            · simp only [Act.put, List.setIfInBounds_toArray, List.set_cons_zero, List.set_cons_succ, i64_w, i32_w]
              rfl
            refine pure_ (i := 13) (N := some 44) (v := ?_) (a' := ?_) #[true, true, true, true, true, true, true, true, true, true, true, true, true, true, false] rfl rfl (by kernel_rfl) (fun _ _ _ h => h) (Or.inl ⟨by rfl, ?_⟩) ?_ ?_
            rotate_left
            · intro w'
              go_simp
              with_reducible rfl
            rotate_left
            · simp only [Act.put, List.setIfInBounds_toArray, List.set_cons_zero, List.set_cons_succ, i64_w, i32_w]
              rfl
            refine last_ (i := 14) (N := none) #[true, true, true, true, true, true, true, true, true, true, true, true, true, true, true] rfl rfl (by kernel_rfl) (by decide) (fun K hK => ?_)
            refine skip_ (w1 := ?_) (by rfl) rfl ?_ ?_
            rotate_left
            · go_simp
              rfl
            refine hK.out _ _ ?_
            clear hK K
            refine done_ (by kernel_rfl) ?_
            go_wp2_with fail
            go_meet
            case rel => exact HRELA.out _ HBV.out
          · have hdl : decide ((k : Int) < (l0.length : Int)) = false := by simp; omega
            have HBV : Aside0 (false = l0.getD k false) := ⟨by rw [List.getD_eq_getElem?_getD, List.getElem?_eq_none (by omega)]; rfl⟩
            refine start_ (n := 15) (S := fun w' => w'.cell? ⟨g0, 3, none⟩ = some (.slice (some ⟨gs, 0, none⟩) N cs)) (ds := [14]) #[false, false, false, false, false, false, false, false, false, false, false, false, false, false, false] (by kernel_rfl) rfl rfl ((HD1.out.xc 3).trans rfl) (fun hHeld => ?_)
            refine pure_ (i := 0) (N := some 31) (v := ?_) (a' := ?_) #[true, false, false, false, false, false, false, false, false, false, false, false, false, false, false] rfl rfl (by kernel_rfl) (fun _ _ _ h => h) (Or.inl ⟨by rfl, ?_⟩) ?_ ?_
            rotate_left
            · intro w'
              go_simp
              with_reducible rfl
            rotate_left
            · simp only [Act.put, List.setIfInBounds_toArray, List.set_cons_zero, List.set_cons_succ, i64_w, i32_w]
              rfl
            refine pure_ (i := 2) (N := some 33) (v := ?_) (a' := ?_) #[true, false, true, false, false, false, false, false, false, false, false, false, false, false, false] rfl rfl (by kernel_rfl) (fun _ _ _ h => h) (Or.inl ⟨by rfl, ?_⟩) ?_ ?_
            rotate_left
            · intro w'
              go_simp
              with_reducible rfl
            rotate_left
            · simp only [Act.put, List.setIfInBounds_toArray, List.set_cons_zero, List.set_cons_succ, i64_w, i32_w]
              rfl
            refine pure_ (i := 3) (N := some 34) (v := ?_) (a' := ?_) #[true, false, true, true, false, false, false, false, false, false, false, false, false, false, false] rfl rfl (by kernel_rfl) (fun _ _ _ h => h) (Or.inl ⟨by rfl, ?_⟩) ?_ ?_
            rotate_left
            · intro w'
              go_simp
              with_reducible rfl
            rotate_left
            · simp only [Act.put, List.setIfInBounds_toArray, List.set_cons_zero, List.set_cons_succ, i64_w, i32_w]
              rfl
            refine pure_ (i := 4) (N := some 35) (v := ?_) (a' := ?_) #[true, false, true, true, true, false, false, false, false, false, false, false, false, false, false] rfl rfl (by kernel_rfl) (fun _ _ _ h => h) (Or.inl ⟨by rfl, ?_⟩) ?_ ?_
            rotate_left
            · intro w'
              go_simp
              with_reducible rfl
            rotate_left
            · simp only [Act.put, List.setIfInBounds_toArray, List.set_cons_zero, List.set_cons_succ, i64_w, i32_w]
              rfl
            refine pure_ (i := 5) (N := some 36) (v := ?_) (a' := ?_) #[true, false, true, true, true, true, false, false, false, false, false, false, false, false, false] rfl rfl (by kernel_rfl) (fun _ _ _ h => h) (Or.inl ⟨by rfl, ?_⟩) ?_ ?_
            rotate_left
            · intro w'
              go_simp
              with_reducible rfl
            rotate_left
            · simp only [Act.put, List.setIfInBounds_toArray, List.set_cons_zero, List.set_cons_succ, i64_w, i32_w]
              rfl
            refine pure_ (i := 6) (N := some 37) (v := ?_) (a' := ?_) #[true, false, true, true, true, true, true, false, false, false, false, false, false, false, false] rfl rfl (by kernel_rfl) (fun _ _ _ h => h) (Or.inl ⟨by rfl, ?_⟩) ?_ ?_
            rotate_left
            · intro w'
              go_simp
              with_reducible rfl
            rotate_left
            · simp only [Act.put, List.setIfInBounds_toArray, List.set_cons_zero, List.set_cons_succ, i64_w, i32_w]
              rfl
            refine pure_ (i := 7) (N := some 38) (v := ?_) (a' := ?_) #[true, false, true, true, true, true, true, true, false, false, false, false, false, false, false] rfl rfl (by kernel_rfl) (fun _ _ _ h => h) (Or.inl ⟨by rfl, ?_⟩) ?_ ?_
            rotate_left
            · intro w'
              go_simp
              with_reducible rfl
            rotate_left
            · simp only [Act.put, List.setIfInBounds_toArray, List.set_cons_zero, List.set_cons_succ, i64_w, i32_w]
              rfl
            refine pure_ (i := 8) (N := some 39) (v := undef) (a' := ?_) #[true, false, true, true, true, true, true, true, true, false, false, false, false, false, false] rfl rfl (by kernel_rfl) (fun _ _ _ h => h) (Or.inr ⟨by rfl, rfl⟩) ?_ ?_
            rotate_left
            · simp only [Act.put, List.setIfInBounds_toArray, List.set_cons_zero, List.set_cons_succ, i64_w, i32_w]
              rfl
            refine pure_ (i := 9) (N := some 40) (v := undef) (a' := ?_) #[true, false, true, true, true, true, true, true, true, true, false, false, false, false, false] rfl rfl (by kernel_rfl) (fun _ _ _ h => h) (Or.inr ⟨by rfl, rfl⟩) ?_ ?_
            rotate_left
            · simp only [Act.put, List.setIfInBounds_toArray, List.set_cons_zero, List.set_cons_succ, i64_w, i32_w]
              rfl
            refine pure_ (i := 10) (N := some 41) (v := undef) (a' := ?_) #[true, false, true, true, true, true, true, true, true, true, true, false, false, false, false] rfl rfl (by kernel_rfl) (fun _ _ _ h => h) (Or.inr ⟨by rfl, rfl⟩) ?_ ?_
            rotate_left
            · simp only [Act.put, List.setIfInBounds_toArray, List.set_cons_zero, List.set_cons_succ, i64_w, i32_w]
              rfl
            refine pure_ (i := 11) (N := some 42) (v := undef) (a' := ?_) #[true, false, true, true, true, true, true, true, true, true, true, true, false, false, false] rfl rfl (by kernel_rfl) (fun _ _ _ h => h) (Or.inr ⟨by rfl, rfl⟩) ?_ ?_
            rotate_left
            · simp only [Act.put, List.setIfInBounds_toArray, List.set_cons_zero, List.set_cons_succ, i64_w, i32_w]
              rfl
            refine pure_ (i := 12) (N := some 43) (v := ?_) (a' := ?_) #[true, false, true, true, true, true, true, true, true, true, true, true, true, false, false] rfl rfl (by kernel_rfl) (fun _ _ _ h => h) (Or.inl ⟨by rfl, ?_⟩) ?_ ?_
            rotate_left
            · intro w'
              go_simp
              with_reducible rfl
            rotate_left
            · simp only [Act.put, List.setIfInBounds_toArray, List.set_cons_zero, List.set_cons_succ, i64_w, i32_w]
              rfl
            refine take_ (i := 1) (N := some 32) (v := ?_) (a' := ?_) #[true, true, true, true, true, true, true, true, true, true, true, true, true, false, false] rfl rfl (by kernel_rfl) (fun _ _ _ h => h) (Or.inl ⟨by rfl, ?_⟩) hHeld ?_ ?_
            rotate_left
            · intro w' s0
              go_simp
              with_reducible rfl
            rotate_left
            · simp only [Act.put, List.setIfInBounds_toArray, List.set_cons_zero, List.set_cons_succ, i64_w, i32_w]
              rfl
            refine pure_ (i := 13) (N := some 44) (v := ?_) (a' := ?_) #[true, true, true, true, true, true, true, true, true, true, true, true, true, true, false] rfl rfl (by kernel_rfl) (fun _ _ _ h => h) (Or.inl ⟨by rfl, ?_⟩) ?_ ?_
            rotate_left
            · intro w'
              go_simp
              with_reducible rfl
            rotate_left
            · simp only [Act.put, List.setIfInBounds_toArray, List.set_cons_zero, List.set_cons_succ, i64_w, i32_w]
              rfl
            refine last_ (i := 14) (N := none) #[true, true, true, true, true, true, true, true, true, true, true, true, true, true, true] rfl rfl (by kernel_rfl) (by decide) (fun K hK => ?_)
            refine skip_ (w1 := ?_) (by rfl) rfl ?_ ?_
            rotate_left
            · go_simp
              rfl
            refine hK.out _ _ ?_
            clear hK K
            refine done_ (by kernel_rfl) ?_
            go_wp2_with fail
            go_meet
            case rel => exact HRELA.out _ HBV.out
        case rest =>
          clear HI
          have HI := hcut
          clear hcut
          go_upto_region 10 with fail
          go_cut [] from 45 to 58 (fun wx => Aside0 (MInv N B w wx g0 (.slice (some ⟨gk, 0, none⟩) N ck) (.slice (some ⟨gs, 0, none⟩) N cs) (.slice (some ⟨gu, 0, none⟩) N cu) (SL (k + 1)) (UL (k + 1))))
          case first =>
            have HD1 := Aside0.mk (HI.out.below (Below.refl _ _).drew)
            obtain ⟨jc, jf⟩ := bool_cell HD1.out.U k hlt
            have HREL : ∀ b, b = l1.getD k false → Aside0 (MInv N B w (wc.setCell ⟨gu, k, none⟩ (.bool b)).drew g0 (.slice (some ⟨gk, 0, none⟩) N ck) (.slice (some ⟨gs, 0, none⟩) N cs) (.slice (some ⟨gu, 0, none⟩) N cu) (SL (k + 1)) (UL (k + 1))) := fun b hb => ⟨by
              have h := (HI.out.setU k b).below (Below.refl _ _).drew
              have e : (UL k).set k b = UL (k + 1) := by
                rw [HUL.out]
                refine map_range_set _ _ _ _ _ (fun _ => ?_) (fun i hi hne => ?_)
                · rw [if_pos (Nat.lt_succ_self k)]; exact hb
                · have : (i < k) ↔ (i < k + 1) := by omega
                  simp [this]
              rw [e] at h
              exact h⟩
            have HRELA := Aside0.mk HREL
            clear HREL
            by_cases hkl : k < l1.length
            · obtain ⟨ad, rfl, hx⟩ := bool_read HR1.out k hkl
              obtain ⟨b, hb⟩ : ∃ b, b = l1.getD k false := ⟨_, rfl⟩
              rw [← hb] at hx
              have HBV := Aside0.mk hb
              have HX := Aside0.mk hx
              have HBL := Aside0.mk (World.block_lt_of_cell? _ _ hx)
              have hdl : decide ((k : Int) < (l1.length : Int)) = true := by simp; omega
              clear hx hb
              refine start_ (n := 15) (S := fun w' => w'.cell? ⟨g0, 4, none⟩ = some (.slice (some ⟨gu, 0, none⟩) N cu) ∧ w'.cell? (ad.add k) = some (.bool b)) (ds := [14]) #[false, false, false, false, false, false, false, false, false, false, false, false, false, false, false] (by kernel_rfl) rfl rfl ⟨(HD1.out.xc 4).trans rfl, (HD1.out.bel.cell HBL.out).trans HX.out⟩ (fun hHeld => ?_)
              refine pure_ (i := 0) (N := some 45) (v := ?_) (a' := ?_) #[true, false, false, false, false, false, false, false, false, false, false, false, false, false, false] rfl rfl (by kernel_rfl) (fun _ _ _ h => h) (Or.inl ⟨by rfl, ?_⟩) ?_ ?_
              rotate_left
              · intro w'
                go_simp
                with_reducible rfl
              rotate_left
              · simp only [Act.put, List.setIfInBounds_toArray, List.set_cons_zero, List.set_cons_succ, i64_w, i32_w]
                rfl
              refine pure_ (i := 2) (N := some 47) (v := ?_) (a' := ?_) #[true, false, true, false, false, false, false, false, false, false, false, false, false, false, false] rfl rfl (by kernel_rfl) (fun _ _ _ h => h) (Or.inl ⟨by rfl, ?_⟩) ?_ ?_
              rotate_left
              · intro w'
                go_simp
                with_reducible rfl
              rotate_left
              · simp only [Act.put, List.setIfInBounds_toArray, List.set_cons_zero, List.set_cons_succ, i64_w, i32_w]
                rfl
              refine pure_ (i := 3) (N := some 48) (v := ?_) (a' := ?_) #[true, false, true, true, false, false, false, false, false, false, false, false, false, false, false] rfl rfl (by kernel_rfl) (fun _ _ _ h => h) (Or.inl ⟨by rfl, ?_⟩) ?_ ?_
              rotate_left
              · intro w'
                go_simp
                with_reducible rfl
              rotate_left
              · simp only [Act.put, List.setIfInBounds_toArray, List.set_cons_zero, List.set_cons_succ, i64_w, i32_w]
                rfl
              refine pure_ (i := 4) (N := some 49) (v := ?_) (a' := ?_) #[true, false, true, true, true, false, false, false, false, false, false, false, false, false, false] rfl rfl (by kernel_rfl) (fun _ _ _ h => h) (Or.inl ⟨by rfl, ?_⟩) ?_ ?_
              rotate_left
              · intro w'
                go_simp
                with_reducible rfl
              rotate_left
              · simp only [Act.put, List.setIfInBounds_toArray, List.set_cons_zero, List.set_cons_succ, i64_w, i32_w]
                rfl
              refine pure_ (i := 5) (N := some 50) (v := ?_) (a' := ?_) #[true, false, true, true, true, true, false, false, false, false, false, false, false, false, false] rfl rfl (by kernel_rfl) (fun _ _ _ h => h) (Or.inl ⟨by rfl, ?_⟩) ?_ ?_
              rotate_left
              · intro w'
                go_simp
                with_reducible rfl
              rotate_left
              · simp only [Act.put, List.setIfInBounds_toArray, List.set_cons_zero, List.set_cons_succ, i64_w, i32_w]
                rfl
              refine pure_ (i := 6) (N := some 51) (v := ?_) (a' := ?_) #[true, false, true, true, true, true, true, false, false, false, false, false, false, false, false] rfl rfl (by kernel_rfl) (fun _ _ _ h => h) (Or.inl ⟨by rfl, ?_⟩) ?_ ?_
              rotate_left
              · intro w'
                go_simp
                with_reducible rfl
              rotate_left
              · simp only [Act.put, List.setIfInBounds_toArray, List.set_cons_zero, List.set_cons_succ, i64_w, i32_w]
                rfl
              refine pure_ (i := 7) (N := some 52) (v := ?_) (a' := ?_) #[true, false, true, true, true, true, true, true, false, false, false, false, false, false, false] rfl rfl (by kernel_rfl) (fun _ _ _ h => h) (Or.inl ⟨by rfl, ?_⟩) ?_ ?_
              rotate_left
              · intro w'
                go_simp
                with_reducible rfl
              rotate_left
              · simp only [Act.put, List.setIfInBounds_toArray, List.set_cons_zero, List.set_cons_succ, i64_w, i32_w]
                rfl
              refine pure_ (i := 8) (N := some 53) (v := ?_) (a' := ?_) #[true, false, true, true, true, true, true, true, true, false, false, false, false, false, false] rfl rfl (by kernel_rfl) (fun _ _ _ h => h) (Or.inl ⟨by rfl, ?_⟩) ?_ ?_
              rotate_left
              · intro w'
                go_simp
                with_reducible rfl
              rotate_left
              · simp only [Act.put, List.setIfInBounds_toArray, List.set_cons_zero, List.set_cons_succ, i64_w, i32_w]
                rfl
              refine pure_ (i := 9) (N := some 54) (v := ?_) (a' := ?_) #[true, false, true, true, true, true, true, true, true, true, false, false, false, false, false] rfl rfl (by kernel_rfl) (fun _ _ _ h => h) (Or.inl ⟨by rfl, ?_⟩) ?_ ?_
              rotate_left
              · intro w'
                go_simp
                with_reducible rfl
              rotate_left
              · simp only [Act.put, List.setIfInBounds_toArray, List.set_cons_zero, List.set_cons_succ, i64_w, i32_w]
                rfl
              refine pure_ (i := 10) (N := some 55) (v := ?_) (a' := ?_) #[true, false, true, true, true, true, true, true, true, true, true, false, false, false, false] rfl rfl (by kernel_rfl) (fun _ _ _ h => h) (Or.inl ⟨by rfl, ?_⟩) ?_ ?_
              rotate_left
              · intro w'
                go_simp
                with_reducible rfl
              rotate_left
              · simp only [Act.put, List.setIfInBounds_toArray, List.set_cons_zero, List.set_cons_succ, i64_w, i32_w]
                rfl
              refine take_ (i := 1) (N := some 46) (v := ?_) (a' := ?_) #[true, true, true, true, true, true, true, true, true, true, true, false, false, false, false] rfl rfl (by kernel_rfl) (fun _ _ _ h => h) (Or.inl ⟨by rfl, ?_⟩) hHeld ?_ ?_
              rotate_left
              · rintro w' ⟨s0, s1⟩
                go_simp
                with_reducible rfl
              rotate_left
              · simp only [Act.put, List.setIfInBounds_toArray, List.set_cons_zero, List.set_cons_succ, i64_w, i32_w]
                rfl
              refine take_ (i := 11) (N := some 56) (v := ?_) (a' := ?_) #[true, true, true, true, true, true, true, true, true, true, true, true, false, false, false] rfl rfl (by kernel_rfl) (fun _ _ _ h => h) (Or.inl ⟨by rfl, ?_⟩) hHeld ?_ ?_
              rotate_left
              · rintro w' ⟨s0, s1⟩
                go_simp
                with_reducible rfl
              rotate_left
              · simp only [Act.put, List.setIfInBounds_toArray, List.set_cons_zero, List.set_cons_succ, i64_w, i32_w]
                rfl
              refine pure_ (i := 12) (N := some 57) (v := ?_) (a' := ?_) #[true, true, true, true, true, true, true, true, true, true, true, true, true, false, false] rfl rfl (by kernel_rfl) (fun _ _ _ h => h) (Or.inl ⟨by rfl, ?_⟩) ?_ ?_
              rotate_left
              · intro w'
                go_simp
                with_reducible rfl
              rotate_left
              · simp only [Act.put, List.setIfInBounds_toArray, List.set_cons_zero, List.set_cons_succ, i64_w, i32_w]
                rfl
              refine pure_ (i := 13) (N := some 58) (v := ?_) (a' := ?_) #[true, true, true, true, true, true, true, true, true, true, true, true, true, true, false] rfl rfl (by kernel_rfl) (fun _ _ _ h => h) (Or.inl ⟨by rfl, ?_⟩) ?_ ?_
              rotate_left
              · intro w'
                go_simp
                with_reducible rfl
              rotate_left
              · simp only [Act.put, List.setIfInBounds_toArray, List.set_cons_zero, List.set_cons_succ, i64_w, i32_w]
                rfl
              refine last_ (i := 14) (N := none) #[true, true, true, true, true, true, true, true, true, true, true, true, true, true, true] rfl rfl (by kernel_rfl) (by decide) (fun K hK => ?_)
              refine skip_ (w1 := ?_) (by rfl) rfl ?_ ?_
              rotate_left
              · go_simp
                rfl
              refine hK.out _ _ ?_
              clear hK K
              refine done_ (by kernel_rfl) ?_
              go_wp2_with fail
              go_meet
              case rel => exact HRELA.out _ HBV.out
            · have hdl : decide ((k : Int) < (l1.length : Int)) = false := by simp; omega
              have HBV : Aside0 (false = l1.getD k false) := ⟨by rw [List.getD_eq_getElem?_getD, List.getElem?_eq_none (by omega)]; rfl⟩
              refine start_ (n := 15) (S := fun w' => w'.cell? ⟨g0, 4, none⟩ = some (.slice (some ⟨gu, 0, none⟩) N cu)) (ds := [14]) #[false, false, false, false, false, false, false, false, false, false, false, false, false, false, false] (by kernel_rfl) rfl rfl ((HD1.out.xc 4).trans rfl) (fun hHeld => ?_)
              refine pure_ (i := 0) (N := some 45) (v := ?_) (a' := ?_) #[true, false, false, false, false, false, false, false, false, false, false, false, false, false, false] rfl rfl (by kernel_rfl) (fun _ _ _ h => h) (Or.inl ⟨by rfl, ?_⟩) ?_ ?_
              rotate_left
              · intro w'
                go_simp
                with_reducible rfl
              rotate_left
              · simp only [Act.put, List.setIfInBounds_toArray, List.set_cons_zero, List.set_cons_succ, i64_w, i32_w]
                rfl
              refine pure_ (i := 2) (N := some 47) (v := ?_) (a' := ?_) #[true, false, true, false, false, false, false, false, false, false, false, false, false, false, false] rfl rfl (by kernel_rfl) (fun _ _ _ h => h) (Or.inl ⟨by rfl, ?_⟩) ?_ ?_
              rotate_left
              · intro w'
                go_simp
                with_reducible rfl
              rotate_left
              · simp only [Act.put, List.setIfInBounds_toArray, List.set_cons_zero, List.set_cons_succ, i64_w, i32_w]
                rfl
              refine pure_ (i := 3) (N := some 48) (v := ?_) (a' := ?_) #[true, false, true, true, false, false, false, false, false, false, false, false, false, false, false] rfl rfl (by kernel_rfl) (fun _ _ _ h => h) (Or.inl ⟨by rfl, ?_⟩) ?_ ?_
              rotate_left
              · intro w'
                go_simp
                with_reducible rfl
              rotate_left
              · simp only [Act.put, List.setIfInBounds_toArray, List.set_cons_zero, List.set_cons_succ, i64_w, i32_w]
                rfl
              refine pure_ (i := 4) (N := some 49) (v := ?_) (a' := ?_) #[true, false, true, true, true, false, false, false, false, false, false, false, false, false, false] rfl rfl (by kernel_rfl) (fun _ _ _ h => h) (Or.inl ⟨by rfl, ?_⟩) ?_ ?_
              rotate_left
              · intro w'
                go_simp
                with_reducible rfl
              rotate_left
              · simp only [Act.put, List.setIfInBounds_toArray, List.set_cons_zero, List.set_cons_succ, i64_w, i32_w]
                rfl
              refine pure_ (i := 5) (N := some 50) (v := ?_) (a' := ?_) #[true, false, true, true, true, true, false, false, false, false, false, false, false, false, false] rfl rfl (by kernel_rfl) (fun _ _ _ h => h) (Or.inl ⟨by rfl, ?_⟩) ?_ ?_
              rotate_left
              · intro w'
                go_simp
                with_reducible rfl
              rotate_left
              · simp only [Act.put, List.setIfInBounds_toArray, List.set_cons_zero, List.set_cons_succ, i64_w, i32_w]
                rfl
              refine pure_ (i := 6) (N := some 51) (v := ?_) (a' := ?_) #[true, false, true, true, true, true, true, false, false, false, false, false, false, false, false] rfl rfl (by kernel_rfl) (fun _ _ _ h => h) (Or.inl ⟨by rfl, ?_⟩) ?_ ?_
              rotate_left
              · intro w'
                go_simp
                with_reducible rfl
              rotate_left
              · simp only [Act.put, List.setIfInBounds_toArray, List.set_cons_zero, List.set_cons_succ, i64_w, i32_w]
                rfl
              refine pure_ (i := 7) (N := some 52) (v := ?_) (a' := ?_) #[true, false, true, true, true, true, true, true, false, false, false, false, false, false, false] rfl rfl (by kernel_rfl) (fun _ _ _ h => h) (Or.inl ⟨by rfl, ?_⟩) ?_ ?_
              rotate_left
              · intro w'
                go_simp
                with_reducible rfl
              rotate_left
              · simp only [Act.put, List.setIfInBounds_toArray, List.set_cons_zero, List.set_cons_succ, i64_w, i32_w]
                rfl
              refine pure_ (i := 8) (N := some 53) (v := undef) (a' := ?_) #[true, false, true, true, true, true, true, true, true, false, false, false, false, false, false] rfl rfl (by kernel_rfl) (fun _ _ _ h => h) (Or.inr ⟨by rfl, rfl⟩) ?_ ?_
              rotate_left
              · simp only [Act.put, List.setIfInBounds_toArray, List.set_cons_zero, List.set_cons_succ, i64_w, i32_w]
                rfl
              refine pure_ (i := 9) (N := some 54) (v := undef) (a' := ?_) #[true, false, true, true, true, true, true, true, true, true, false, false, false, false, false] rfl rfl (by kernel_rfl) (fun _ _ _ h => h) (Or.inr ⟨by rfl, rfl⟩) ?_ ?_
              rotate_left
              · simp only [Act.put, List.setIfInBounds_toArray, List.set_cons_zero, List.set_cons_succ, i64_w, i32_w]
                rfl
              refine pure_ (i := 10) (N := some 55) (v := undef) (a' := ?_) #[true, false, true, true, true, true, true, true, true, true, true, false, false, false, false] rfl rfl (by kernel_rfl) (fun _ _ _ h => h) (Or.inr ⟨by rfl, rfl⟩) ?_ ?_
              rotate_left
              · simp only [Act.put, List.setIfInBounds_toArray, List.set_cons_zero, List.set_cons_succ, i64_w, i32_w]
                rfl
              refine pure_ (i := 11) (N := some 56) (v := undef) (a' := ?_) #[true, false, true, true, true, true, true, true, true, true, true, true, false, false, false] rfl rfl (by kernel_rfl) (fun _ _ _ h => h) (Or.inr ⟨by rfl, rfl⟩) ?_ ?_
              rotate_left
              · simp only [Act.put, List.setIfInBounds_toArray, List.set_cons_zero, List.set_cons_succ, i64_w, i32_w]
                rfl
              refine pure_ (i := 12) (N := some 57) (v := ?_) (a' := ?_) #[true, false, true, true, true, true, true, true, true, true, true, true, true, false, false] rfl rfl (by kernel_rfl) (fun _ _ _ h => h) (Or.inl ⟨by rfl, ?_⟩) ?_ ?_
              rotate_left
              · intro w'
                go_simp
                with_reducible rfl
              rotate_left
              · simp only [Act.put, List.setIfInBounds_toArray, List.set_cons_zero, List.set_cons_succ, i64_w, i32_w]
                rfl
              refine take_ (i := 1) (N := some 46) (v := ?_) (a' := ?_) #[true, true, true, true, true, true, true, true, true, true, true, true, true, false, false] rfl rfl (by kernel_rfl) (fun _ _ _ h => h) (Or.inl ⟨by rfl, ?_⟩) hHeld ?_ ?_
              rotate_left
              · intro w' s0
                go_simp
                with_reducible rfl
              rotate_left
              · simp only [Act.put, List.setIfInBounds_toArray, List.set_cons_zero, List.set_cons_succ, i64_w, i32_w]
                rfl
              refine pure_ (i := 13) (N := some 58) (v := ?_) (a' := ?_) #[true, true, true, true, true, true, true, true, true, true, true, true, true, true, false] rfl rfl (by kernel_rfl) (fun _ _ _ h => h) (Or.inl ⟨by rfl, ?_⟩) ?_ ?_
              rotate_left
              · intro w'
                go_simp
                with_reducible rfl
              rotate_left
              · simp only [Act.put, List.setIfInBounds_toArray, List.set_cons_zero, List.set_cons_succ, i64_w, i32_w]
                rfl
              refine last_ (i := 14) (N := none) #[true, true, true, true, true, true, true, true, true, true, true, true, true, true, true] rfl rfl (by kernel_rfl) (by decide) (fun K hK => ?_)
              refine skip_ (w1 := ?_) (by rfl) rfl ?_ ?_
              rotate_left
              · go_simp
                rfl
              refine hK.out _ _ ?_
              clear hK K
              refine done_ (by kernel_rfl) ?_
              go_wp2_with fail
              go_meet
              case rel => exact HRELA.out _ HBV.out
          case rest =>
            clear HI
            have HI := hcut
            clear hcut
            obtain ⟨o, ho⟩ : ∃ o, o = ((List.range k).all fun i => !l1.getD i false || l0.getD i false) := ⟨_, rfl⟩
            obtain ⟨m, hm⟩ : ∃ m, m = ((List.range k).all fun i => !l1.getD i false) := ⟨_, rfl⟩
            obtain ⟨sv, hsv⟩ : ∃ sv, sv = l0.getD k false := ⟨_, rfl⟩
            obtain ⟨uv, huv⟩ : ∃ uv, uv = l1.getD k false := ⟨_, rfl⟩
            rw [← ho, ← hm]
            have js := (bool_cell HI.out.S k hlt).1
            have ju := (bool_cell HI.out.U k hlt).1
            have z3 : wc.cell? ⟨g0, 3, none⟩ = some (.slice (some ⟨gs, 0, none⟩) N cs) := (HI.out.xc 3).trans rfl
            have z4 : wc.cell? ⟨g0, 4, none⟩ = some (.slice (some ⟨gu, 0, none⟩) N cu) := (HI.out.xc 4).trans rfl
            rw [show (SL (k + 1)).getD k false = sv by rw [HSL.out, hsv]; simp [List.getD_eq_getElem?_getD, hlt]] at js
            rw [show (UL (k + 1)).getD k false = uv by rw [HUL.out, huv]; simp [List.getD_eq_getElem?_getD, hlt]] at ju
            have HREL : Aside0 (∃ k1 : Nat, k1 ≤ N ∧ Value.int .i64 ((k : Int) + 1) = .int .i64 k1 ∧ Value.bool (o && (!uv || sv)) = .bool ((List.range k1).all fun i => !l1.getD i false || l0.getD i false) ∧ Value.bool (m && !uv) = .bool ((List.range k1).all fun i => !l1.getD i false) ∧ Aside0 (MInv N B w wc g0 (.slice (some ⟨gk, 0, none⟩) N ck) (.slice (some ⟨gs, 0, none⟩) N cs) (.slice (some ⟨gu, 0, none⟩) N cu) (SL k1) (UL k1))) := by
              refine ⟨k + 1, by omega, by go_num, ?_, ?_, HI⟩
              · rw [List.range_succ, List.all_append, ← ho]
                show _ = Value.bool (o && ((!l1.getD k false || l0.getD k false) && true))
                rw [← huv, ← hsv, Bool.and_true]
              · rw [List.range_succ, List.all_append, ← hm]
                show _ = Value.bool (m && (!l1.getD k false && true))
                rw [← huv, Bool.and_true]
            clear ho hm hsv huv
            cases o <;> cases m <;> cases uv
            all_goals (go_wp2_with fail; go_roundw; (case rel => exact HREL.out); (case measure => simp [intOf]; omega))
      · obtain rfl : N = k := by omega
        clear hlt hk
        have hSU : (SL N).length = N ∧ (UL N).length = N := by rw [HSL.out, HUL.out]; simp
        have HSU := Aside0.mk hSU
        clear hSU
        obtain ⟨o, ho⟩ : ∃ o, o = ((List.range N).all fun i => !l1.getD i false || l0.getD i false) := ⟨_, rfl⟩
        obtain ⟨m, hm⟩ : ∃ m, m = ((List.range N).all fun i => !l1.getD i false) := ⟨_, rfl⟩
        rw [← ho, ← hm]
        have hgs : ∀ i, i < N → (SL N).getD i false = l0.getD i false := fun i hi => by rw [HSL.out]; simp [List.getD_eq_getElem?_getD, hi]
        have hgu : ∀ i, i < N → (UL N).getD i false = l1.getD i false := fun i hi => by rw [HUL.out]; simp [List.getD_eq_getElem?_getD, hi]
        have R1 : Aside0 (block_Right.f 400 (List.replicate N z56) [] [] (SL N) (UL N) 8 2 = some o) := ⟨by
          rw [right_zeros N _ _ hN1 hN2 (.inr HSU.out.1) (.inr HSU.out.2), ho]
          congr 1
          refine all_on _ _ _ (fun i hi => ?_)
          have hi := List.mem_range.1 hi
          rw [HSU.out.1, HSU.out.2, hgs i hi, hgu i hi]
          have h1 : decide (0 < N) = true := by simp; omega
          have h2 : decide (N = 0) = false := by simp; omega
          rw [h1, h2]
          cases l1.getD i false <;> cases l0.getD i false <;> rfl⟩
        have R2 : Aside0 (block_Right.f 400 (List.replicate N z56) [] [] [] (UL N) 8 2 = some m) := ⟨by
          rw [right_zeros N _ _ hN1 hN2 (.inl rfl) (.inr HSU.out.2), hm]
          congr 1
          refine all_on _ _ _ (fun i hi => ?_)
          have hi := List.mem_range.1 hi
          rw [HSU.out.2, hgu i hi]
          have h1 : decide (0 < N) = true := by simp; omega
          rw [h1]
          cases l1.getD i false <;> rfl⟩
        have R3 : Aside0 (block_Right.f 400 (List.replicate N z56) [] [] (SL N) [] 8 2 = some true) := ⟨by
          rw [right_zeros N _ _ hN1 hN2 (.inr HSU.out.1) (.inl rfl)]
          congr 1
          rw [List.all_eq_true]
          intro i _
          rfl⟩
        have z0 : wr.cell? ⟨g0, 0, none⟩ = some (.slice (some ⟨gk, 0, none⟩) N ck) := (HI.out.xc 0).trans rfl
        have z3 : wr.cell? ⟨g0, 3, none⟩ = some (.slice (some ⟨gs, 0, none⟩) N cs) := (HI.out.xc 3).trans rfl
        have z4 : wr.cell? ⟨g0, 4, none⟩ = some (.slice (some ⟨gu, 0, none⟩) N cu) := (HI.out.xc 4).trans rfl
        clear ho hm hgs hgu
        go_upto_region 14 with ((with_reducible refine gate_dst (N := 12) rfl ?_); refine box_event ?hggy (N := 12) ?hdgy (cs := #[.slice none 0 0, .slice none 0 0, .slice none 0 0, .slice none 0 0, .slice none 0 0]) (t := 27) ?hrgy ?_; (case hdgy => rfl); (case hggy => rfl); (case hrgy => first | (go_simp; done) | (go_simp; rfl)); intro gy gyE w2 gyH hb2; have zgy0 : w2.cell? ⟨gy, 0, none⟩ = some (.slice none 0 0) := (by rw [Lib.cell_of_heap gyH]; rfl); have fgy0 := blk_frozen gyH 0; have zgy1 : w2.cell? ⟨gy, 1, none⟩ = some (.slice none 0 0) := (by rw [Lib.cell_of_heap gyH]; rfl); have fgy1 := blk_frozen gyH 1; have zgy2 : w2.cell? ⟨gy, 2, none⟩ = some (.slice none 0 0) := (by rw [Lib.cell_of_heap gyH]; rfl); have fgy2 := blk_frozen gyH 2; have zgy3 : w2.cell? ⟨gy, 3, none⟩ = some (.slice none 0 0) := (by rw [Lib.cell_of_heap gyH]; rfl); have fgy3 := blk_frozen gyH 3; have zgy4 : w2.cell? ⟨gy, 4, none⟩ = some (.slice none 0 0) := (by rw [Lib.cell_of_heap gyH]; rfl); have fgy4 := blk_frozen gyH 4; have gyHA := Aside0.mk gyH; have gyEA := Aside0.mk gyE; have hb2A := Aside0.mk hb2; clear gyH gyE hb2)
        have HY := Aside0.mk (blk_put (blk_put (blk_put (blk_put (blk_put gyHA.out 0 ((.slice (some ⟨gk, 0, none⟩) N ck)) rfl) 1 (.slice none 0 0) rfl) 2 (.slice none 0 0) rfl) 3 (.slice none 0 0) rfl) 4 ((.slice (some ⟨gu, 0, none⟩) N cu)) rfl)
        have hge : wr.heap.size ≤ gy := Nat.le_of_eq gyEA.out.symm
        have BY : Aside0 (Below wr.heap.size wr (((((w2.setCell ⟨gy, 0, none⟩ ((.slice (some ⟨gk, 0, none⟩) N ck))).setCell ⟨gy, 1, none⟩ (.slice none 0 0)).setCell ⟨gy, 2, none⟩ (.slice none 0 0)).setCell ⟨gy, 3, none⟩ (.slice none 0 0)).setCell ⟨gy, 4, none⟩ ((.slice (some ⟨gu, 0, none⟩) N cu)))) := ⟨(((((hb2A.out).setCell hge _).setCell hge _).setCell hge _).setCell hge _).setCell hge _⟩
        have HI2 := Aside0.mk (HI.out.below BY.out)
        clear hge zgy0 fgy0 zgy1 fgy1 zgy2 fgy2 zgy3 fgy3 zgy4 fgy4 gyEA gyHA hb2A HI z0 z3 z4 BY
        generalize (((((w2.setCell ⟨gy, 0, none⟩ ((.slice (some ⟨gk, 0, none⟩) N ck))).setCell ⟨gy, 1, none⟩ (.slice none 0 0)).setCell ⟨gy, 2, none⟩ (.slice none 0 0)).setCell ⟨gy, 3, none⟩ (.slice none 0 0)).setCell ⟨gy, 4, none⟩ ((.slice (some ⟨gu, 0, none⟩) N cu))) = w3 at *
        have z0 : w3.cell? ⟨g0, 0, none⟩ = some (.slice (some ⟨gk, 0, none⟩) N ck) := (HI2.out.xc 0).trans rfl
        have z3 : w3.cell? ⟨g0, 3, none⟩ = some (.slice (some ⟨gs, 0, none⟩) N cs) := (HI2.out.xc 3).trans rfl
        have z4 : w3.cell? ⟨g0, 4, none⟩ = some (.slice (some ⟨gu, 0, none⟩) N cu) := (HI2.out.xc 4).trans rfl
        go_upto_region 15 with ((with_reducible refine gate_dst (N := 13) rfl ?_); refine box_event ?hggz (N := 13) ?hdgz (cs := #[.slice none 0 0, .slice none 0 0, .slice none 0 0, .slice none 0 0, .slice none 0 0]) (t := 27) ?hrgz ?_; (case hdgz => rfl); (case hggz => rfl); (case hrgz => first | (go_simp; done) | (go_simp; rfl)); intro gz gzE w4 gzH hb4; have zgz0 : w4.cell? ⟨gz, 0, none⟩ = some (.slice none 0 0) := (by rw [Lib.cell_of_heap gzH]; rfl); have fgz0 := blk_frozen gzH 0; have zgz1 : w4.cell? ⟨gz, 1, none⟩ = some (.slice none 0 0) := (by rw [Lib.cell_of_heap gzH]; rfl); have fgz1 := blk_frozen gzH 1; have zgz2 : w4.cell? ⟨gz, 2, none⟩ = some (.slice none 0 0) := (by rw [Lib.cell_of_heap gzH]; rfl); have fgz2 := blk_frozen gzH 2; have zgz3 : w4.cell? ⟨gz, 3, none⟩ = some (.slice none 0 0) := (by rw [Lib.cell_of_heap gzH]; rfl); have fgz3 := blk_frozen gzH 3; have zgz4 : w4.cell? ⟨gz, 4, none⟩ = some (.slice none 0 0) := (by rw [Lib.cell_of_heap gzH]; rfl); have fgz4 := blk_frozen gzH 4; have gzHA := Aside0.mk gzH; have gzEA := Aside0.mk gzE; have hb4A := Aside0.mk hb4; clear gzH gzE hb4)
        have HZ := Aside0.mk (blk_put (blk_put (blk_put (blk_put (blk_put gzHA.out 0 ((.slice (some ⟨gk, 0, none⟩) N ck)) rfl) 1 (.slice none 0 0) rfl) 2 (.slice none 0 0) rfl) 3 ((.slice (some ⟨gs, 0, none⟩) N cs)) rfl) 4 (.slice none 0 0) rfl)
        have hge : w3.heap.size ≤ gz := Nat.le_of_eq gzEA.out.symm
        have BZ : Aside0 (Below w3.heap.size w3 (((((w4.setCell ⟨gz, 0, none⟩ ((.slice (some ⟨gk, 0, none⟩) N ck))).setCell ⟨gz, 1, none⟩ (.slice none 0 0)).setCell ⟨gz, 2, none⟩ (.slice none 0 0)).setCell ⟨gz, 3, none⟩ ((.slice (some ⟨gs, 0, none⟩) N cs))).setCell ⟨gz, 4, none⟩ (.slice none 0 0))) := ⟨(((((hb4A.out).setCell hge _).setCell hge _).setCell hge _).setCell hge _).setCell hge _⟩
        have HI4 := Aside0.mk (HI2.out.below BZ.out)
        have HY4 := Aside0.mk (blk_keep HY.out BZ.out)
        clear hge zgz0 fgz0 zgz1 fgz1 zgz2 fgz2 zgz3 fgz3 zgz4 fgz4 gzEA gzHA hb4A HI2 HY z0 z3 z4 BZ
        generalize (((((w4.setCell ⟨gz, 0, none⟩ ((.slice (some ⟨gk, 0, none⟩) N ck))).setCell ⟨gz, 1, none⟩ (.slice none 0 0)).setCell ⟨gz, 2, none⟩ (.slice none 0 0)).setCell ⟨gz, 3, none⟩ ((.slice (some ⟨gs, 0, none⟩) N cs))).setCell ⟨gz, 4, none⟩ (.slice none 0 0)) = w5 at *
        have nilC : ∀ w, Kd.C Kd.bool w none 0 [] := fun w => c_nil _ _
        obtain ⟨eK_, hcK, hCK⟩ := Kd.R_reads' HI4.out.K
        obtain ⟨eS_, hcS, hCS⟩ := Kd.R_reads' HI4.out.S
        obtain ⟨eU_, hcU, hCU⟩ := Kd.R_reads' HI4.out.U
        rw [List.length_replicate] at hCK
        rw [HSU.out.1] at hCS
        rw [HSU.out.2] at hCU
        have CK := Aside0.mk hCK
        have CS := Aside0.mk hCS
        have CU := Aside0.mk hCU
        have LK := Aside0.mk hcK
        have LS := Aside0.mk hcS
        have LU := Aside0.mk hcU
        clear hCK hCS hCU hcK hcS hcU eK_ eS_ eU_
        have x0 : w5.cell? ⟨g0, 0, none⟩ = some (.slice (some ⟨gk, 0, none⟩) N ck) := blk_cell HI4.out.X 0
        have x1 : w5.cell? ⟨g0, 1, none⟩ = some (.slice none 0 0) := blk_cell HI4.out.X 1
        have x2 : w5.cell? ⟨g0, 2, none⟩ = some (.slice none 0 0) := blk_cell HI4.out.X 2
        have x3 : w5.cell? ⟨g0, 3, none⟩ = some (.slice (some ⟨gs, 0, none⟩) N cs) := blk_cell HI4.out.X 3
        have x4 : w5.cell? ⟨g0, 4, none⟩ = some (.slice (some ⟨gu, 0, none⟩) N cu) := blk_cell HI4.out.X 4
        have HT1 := Aside0.mk (right_call N _ _ _ ck N cs N cu (SL N) (UL N) o w5 CK.out LK.out CS.out LS.out CU.out LU.out HSU.out.1 HSU.out.2 R1.out)
        have NC := Aside0.mk nilC
        clear nilC
        cases o <;> cases m
        all_goals
          go_wp2_with fail
          with_reducible refine HT1.out.mono ?_; rintro e w6 ⟨rfl, hb6⟩; have B6 := Aside0.mk hb6; clear hb6; have HT2 := Aside0.mk (right_call N _ _ _ ck 0 0 N cu [] (UL N) _ w6 (Kd.C_below CK.out B6.out) LK.out (NC.out _) (Nat.le_refl _) (Kd.C_below CU.out B6.out) LU.out rfl HSU.out.2 R2.out); have y0 : w6.cell? ⟨gy, 0, none⟩ = some (.slice (some ⟨gk, 0, none⟩) N ck) := (blk_cell (blk_keep HY4.out B6.out) 0).trans rfl; have y1 : w6.cell? ⟨gy, 1, none⟩ = some (.slice none 0 0) := (blk_cell (blk_keep HY4.out B6.out) 1).trans rfl; have y2 : w6.cell? ⟨gy, 2, none⟩ = some (.slice none 0 0) := (blk_cell (blk_keep HY4.out B6.out) 2).trans rfl; have y3 : w6.cell? ⟨gy, 3, none⟩ = some (.slice none 0 0) := (blk_cell (blk_keep HY4.out B6.out) 3).trans rfl; have y4 : w6.cell? ⟨gy, 4, none⟩ = some (.slice (some ⟨gu, 0, none⟩) N cu) := (blk_cell (blk_keep HY4.out B6.out) 4).trans rfl
          go_wp2_with fail
          with_reducible refine HT2.out.mono ?_; rintro e w7 ⟨rfl, hb7⟩; have B7 := Aside0.mk hb7; clear hb7; have HT3 := Aside0.mk (right_call N _ _ _ ck N cs 0 0 (SL N) [] true w7 (Kd.C_below (Kd.C_below CK.out B6.out) B7.out) LK.out (Kd.C_below (Kd.C_below CS.out B6.out) B7.out) LS.out (NC.out _) (Nat.le_refl _) HSU.out.1 rfl R3.out); have q0 : w7.cell? ⟨gz, 0, none⟩ = some (.slice (some ⟨gk, 0, none⟩) N ck) := (blk_cell (blk_keep (blk_keep HZ.out B6.out) B7.out) 0).trans rfl; have q1 : w7.cell? ⟨gz, 1, none⟩ = some (.slice none 0 0) := (blk_cell (blk_keep (blk_keep HZ.out B6.out) B7.out) 1).trans rfl; have q2 : w7.cell? ⟨gz, 2, none⟩ = some (.slice none 0 0) := (blk_cell (blk_keep (blk_keep HZ.out B6.out) B7.out) 2).trans rfl; have q3 : w7.cell? ⟨gz, 3, none⟩ = some (.slice (some ⟨gs, 0, none⟩) N cs) := (blk_cell (blk_keep (blk_keep HZ.out B6.out) B7.out) 3).trans rfl; have q4 : w7.cell? ⟨gz, 4, none⟩ = some (.slice none 0 0) := (blk_cell (blk_keep (blk_keep HZ.out B6.out) B7.out) 4).trans rfl
          go_wp2_with fail
          with_reducible refine HT3.out.mono ?_; rintro e w8 ⟨rfl, hb8⟩; have B8 := Aside0.mk hb8; clear hb8
          go_wp2_with fail
          go_ret
          exact ⟨rfl, HI4.out.bel.trans ((B6.out.trans ((B7.out.trans (B8.out.mono B7.out.size)).mono B6.out.size)).mono HI4.out.bel.size)⟩
end Go.Proofs.Ytdcgclhmfflheaa.PQ
