import Derived.Test.YtdcgclhmfflheaaXbwFfi
import Derived.WalkSpells
namespace Go.Proofs.Ytdcgclhmfflheaa.PQ
open Go.RowKit Go.Proofs.YtdcgclhmfflheaaW.PrintWords Go.Proofs.YtdcgclhmfflheaaW.PrintLast Go.Proofs.YtdcgclhmfflheaaW.PrintMore
attribute [local go_sem] max2_int min2_int max_two min_two max_three min_three max_four min_four
set_option linter.unusedVariables false
set_option linter.unusedSimpArgs false
def few18.T1 : Bool × List (List Nat × List Nat) := (true, [([], []), ([], []), ([1], [1]), ([], []), ([3], [3]), ([4], [4]), ([5], [5]), ([2, 6], [2, 6]), ([0, 7], [0, 7]), ([], []), ([], []), ([10], [10]), ([], []), ([12], [12]), ([13], [13]), ([14], [14]), ([11, 15], [11, 15]), ([9, 16, 8], [9, 16]), ([], []), ([], []), ([19], [19]), ([], []), ([21], [21]), ([22], [22]), ([23], [23]), ([20, 24], [20, 24]), ([18, 25, 17], [18, 25]), ([], []), ([], []), ([28], [28]), ([], []), ([30], [30]), ([31], [31]), ([32], [32]), ([29, 33], [29, 33]), ([27, 34, 26], [27, 34]), ([], []), ([], []), ([37], [37]), ([], []), ([39], [39]), ([40], [40]), ([41], [41]), ([38, 42], [38, 42]), ([36, 43, 35], [36, 43]), ([8, 17, 26, 35, 44], [8, 17, 26, 35, 44]), ([], []), ([46, 45, 44, 0, 1, 2, 3, 4, 5, 6, 7, 8, 9, 10, 11, 12, 13, 14, 15, 16, 17, 18, 19, 20, 21, 22, 23, 24, 25, 26, 27, 28, 29, 30, 31, 32, 33, 34, 35, 36, 37, 38, 39, 40, 41, 42, 43, 44, 45, 46], [45, 46])])
def few18.B1 : List Nat := [0, 0, 2, 0, 8, 24, 56, 126, 255, 0, 0, 1024, 0, 4096, 12288, 28672, 64512, 131071, 0, 0, 524288, 0, 2097152, 6291456, 14680064, 33030144, 67108863, 0, 0, 268435456, 0, 1073741824, 3221225472, 7516192768, 16911433728, 34359738367, 0, 0, 137438953472, 0, 549755813888, 1649267441664, 3848290697216, 8658654068736, 17592186044415, 35184372088831, 0, 140737488355327]
theorem few18.tab1 : rtab .any (opsOf Try.f18 1) = few18.T1 := by kernel_rfl
theorem few18.bits1 : waitsOk few18.T1.2 few18.B1 = true := by kernel_rfl
def few18.T5 : Bool × List (List Nat × List Nat) := (true, [([], []), ([0], [0]), ([], []), ([], []), ([3], [3]), ([], []), ([4, 5], [4, 5]), ([6], [6]), ([7], [7]), ([], []), ([9], [9]), ([], []), ([10, 11], [10, 11]), ([12], [12]), ([13], [13]), ([14], [14]), ([15], [15]), ([8, 16], [8, 16]), ([1, 2, 0, 1, 2, 3, 4, 5, 6, 7, 8, 9, 10, 11, 12, 13, 14, 15, 16, 17], [1, 2]), ([18, 0, 1, 2, 3, 4, 5, 6, 7, 8, 9, 10, 11, 12, 13, 14, 15, 16, 17], [18]), ([19, 17, 0, 1, 2, 3, 4, 5, 6, 7, 8, 9, 10, 11, 12, 13, 14, 15, 16, 17], [17, 19])])
def few18.B5 : List Nat := [0, 1, 0, 0, 8, 0, 56, 120, 248, 0, 512, 0, 3584, 7680, 15872, 32256, 65024, 131064, 262143, 524287, 1048575]
theorem few18.tab5 : rtab .any (opsOf Try.f18 5) = few18.T5 := by kernel_rfl
theorem few18.bits5 : waitsOk few18.T5.2 few18.B5 = true := by kernel_rfl
set_option maxHeartbeats 4000000 in
set_option maxRecDepth 100000 in
theorem few18_walk (AK : Option Addr) (cK : Nat) (K : List S56) (AJ : Option Addr) (cJ : Nat) (J : List S54) (AL : Option Addr) (cL : Nat) (L : List S87) (AS : Option Addr) (cS : Nat) (S : List Bool) (AU : Option Addr) (cU : Nat) (U : List Bool) (w : World) (hrK : Kd.C k56 w AK K.length K) (hcK : K.length ≤ cK) (hrJ : Kd.C k54 w AJ J.length J) (hcJ : J.length ≤ cJ) (hrL : Kd.C k87 w AL L.length L) (hcL : L.length ≤ cL) (hrS : Kd.C Kd.bool w AS S.length S) (hcS : S.length ≤ cS) (hrU : Kd.C Kd.bool w AU U.length U) (hcU : U.length ≤ cU) :
  Calls Try.prog 18 #[.agg #[.slice AK K.length cK, .slice AJ J.length cJ, .slice AL L.length cL, .slice AS S.length cS, .slice AU U.length cU]] w (FewPost K J L S U w) := by
 have hu27 := Try.underlying27
 have hlK := hrK.2.1
 obtain ⟨TK, hTK⟩ : ∃ T_ : List S56, T_ = K.take 40 := ⟨_, rfl⟩
 have hmK : TK.length ≤ 40 := by rw [hTK, List.length_take]; omega
 have hnK : TK.length ≤ K.length := by rw [hTK, List.length_take]; omega
 have hjK : (if 40 < (K.length : Int) then 40 else (K.length : Int)) = (TK.length : Int) := by rw [hTK, List.length_take]; split <;> omega
 obtain ⟨iK, hiK, _, hszK, _⟩ := info_parts info56
 have hcutK := cut_to (P := Try.prog) 22 56 .i64 Try.underlying22 hiK AK K.length cK (TK.length : Int) (by omega) (by omega) hcK
 rw [Int.toNat_natCast] at hcutK
 have hCK := Kd.C_take (m := TK.length) hrK hnK
 rw [show K.take TK.length = TK from take_len hTK] at hCK
 have HTK := Aside0.mk hTK
 have HCK := Aside0.mk hCK
 clear hTK hCK hrK hiK hszK
 have hlJ := hrJ.2.1
 obtain ⟨TJ, hTJ⟩ : ∃ T_ : List S54, T_ = J.take 100 := ⟨_, rfl⟩
 have hmJ : TJ.length ≤ 100 := by rw [hTJ, List.length_take]; omega
 have hnJ : TJ.length ≤ J.length := by rw [hTJ, List.length_take]; omega
 have hjJ : (if 100 < (J.length : Int) then 100 else (J.length : Int)) = (TJ.length : Int) := by rw [hTJ, List.length_take]; split <;> omega
 obtain ⟨iJ, hiJ, _, hszJ, _⟩ := info_parts info54
 have hcutJ := cut_to (P := Try.prog) 23 54 .i64 Try.underlying23 hiJ AJ J.length cJ (TJ.length : Int) (by omega) (by omega) hcJ
 rw [Int.toNat_natCast] at hcutJ
 have hCJ := Kd.C_take (m := TJ.length) hrJ hnJ
 rw [show J.take TJ.length = TJ from take_len hTJ] at hCJ
 have HTJ := Aside0.mk hTJ
 have HCJ := Aside0.mk hCJ
 clear hTJ hCJ hrJ hiJ hszJ
 have hlL := hrL.2.1
 obtain ⟨TL, hTL⟩ : ∃ T_ : List S87, T_ = L.take 50 := ⟨_, rfl⟩
 have hmL : TL.length ≤ 50 := by rw [hTL, List.length_take]; omega
 have hnL : TL.length ≤ L.length := by rw [hTL, List.length_take]; omega
 have hjL : (if 50 < (L.length : Int) then 50 else (L.length : Int)) = (TL.length : Int) := by rw [hTL, List.length_take]; split <;> omega
 obtain ⟨iL, hiL, _, hszL, _⟩ := info_parts info87
 have hcutL := cut_to (P := Try.prog) 24 87 .i64 Try.underlying24 hiL AL L.length cL (TL.length : Int) (by omega) (by omega) hcL
 rw [Int.toNat_natCast] at hcutL
 have hCL := Kd.C_take (m := TL.length) hrL hnL
 rw [show L.take TL.length = TL from take_len hTL] at hCL
 have HTL := Aside0.mk hTL
 have HCL := Aside0.mk hCL
 clear hTL hCL hrL hiL hszL
 have hlS := hrS.2.1
 obtain ⟨TS, hTS⟩ : ∃ T_ : List Bool, T_ = S.take 40 := ⟨_, rfl⟩
 have hmS : TS.length ≤ 40 := by rw [hTS, List.length_take]; omega
 have hnS : TS.length ≤ S.length := by rw [hTS, List.length_take]; omega
 have hjS : (if 40 < (S.length : Int) then 40 else (S.length : Int)) = (TS.length : Int) := by rw [hTS, List.length_take]; split <;> omega
 obtain ⟨iS, hiS, _, hszS, _⟩ := info_parts info4
 have hcutS := cut_to (P := Try.prog) 25 4 .i64 Try.underlying25 hiS AS S.length cS (TS.length : Int) (by omega) (by omega) hcS
 rw [Int.toNat_natCast] at hcutS
 have hCS := Kd.C_take (m := TS.length) hrS hnS
 rw [show S.take TS.length = TS from take_len hTS] at hCS
 have HTS := Aside0.mk hTS
 have HCS := Aside0.mk hCS
 clear hTS hCS hrS hiS hszS
 have hlU := hrU.2.1
 obtain ⟨TU, hTU⟩ : ∃ T_ : List Bool, T_ = U.take 40 := ⟨_, rfl⟩
 have hmU : TU.length ≤ 40 := by rw [hTU, List.length_take]; omega
 have hnU : TU.length ≤ U.length := by rw [hTU, List.length_take]; omega
 have hjU : (if 40 < (U.length : Int) then 40 else (U.length : Int)) = (TU.length : Int) := by rw [hTU, List.length_take]; split <;> omega
 obtain ⟨iU, hiU, _, hszU, _⟩ := info_parts info4
 have hcutU := cut_to (P := Try.prog) 25 4 .i64 Try.underlying25 hiU AU U.length cU (TU.length : Int) (by omega) (by omega) hcU
 rw [Int.toNat_natCast] at hcutU
 have hCU := Kd.C_take (m := TU.length) hrU hnU
 rw [show U.take TU.length = TU from take_len hTU] at hCU
 have HTU := Aside0.mk hTU
 have HCU := Aside0.mk hCU
 clear hTU hCU hrU hiU hszU
 go_enter Try.func18, Try.ntmps18
 go_upto_region 1 with (first | ((with_reducible refine gate_dst (N := 1) rfl ?_); refine box_event ?hg1 (N := 1) ?hd1 (cs := #[.slice AK K.length cK, .slice AJ J.length cJ, .slice AL L.length cL, .slice AS S.length cS, .slice AU U.length cU]) (t := 27) ?hr1 ?_; (case hd1 => rfl); (case hg1 => rfl); (case hr1 => first | (go_simp; done) | (go_simp; rfl)); intro gp gpE w1 gpH gpB; have gpEA := Aside0.mk gpE; have gpHA := Aside0.mk gpH; have gpBA := Aside0.mk gpB; clear gpE gpH gpB) | ((with_reducible refine gate_dst (N := 2) rfl ?_); refine box_event ?hg2 (N := 2) ?hd2 (cs := #[.slice none 0 0, .slice none 0 0, .slice none 0 0, .slice none 0 0, .slice none 0 0]) (t := 27) ?hr2 ?_; (case hd2 => rfl); (case hg2 => rfl); (case hr2 => first | (go_simp; done) | (go_simp; rfl)); intro gr grE w2 grH grB; have grEA := Aside0.mk grE; have grHA := Aside0.mk grH; have grBA := Aside0.mk grB; clear grE grH grB))
 have hP : w2.drew.heap[gp]? = some (.cells #[.slice AK K.length cK, .slice AJ J.length cJ, .slice AL L.length cL, .slice AS S.length cS, .slice AU U.length cU] 27 (0, 0)) := (grBA.out.block gp (blk_lt gpHA.out)).trans gpHA.out
 have hR : w2.drew.heap[gr]? = some (.cells #[.slice none 0 0, .slice none 0 0, .slice none 0 0, .slice none 0 0, .slice none 0 0] 27 (0, 0)) := grHA.out
 have hW : Below w.heap.size w w2.drew := (gpBA.out.trans (grBA.out.mono gpBA.out.size)).drew
 have hgr : w.heap.size ≤ gr := by rw [grEA.out]; exact gpBA.out.size
 have HP := Aside0.mk hP
 have HR := Aside0.mk hR
 have HW := Aside0.mk hW
 clear hP hR hW gpEA gpHA gpBA grEA grHA grBA
 have HDK := Aside0.mk (Kd.C_below HCK.out HW.out)
 have HDJ := Aside0.mk (Kd.C_below HCJ.out HW.out)
 have HDL := Aside0.mk (Kd.C_below HCL.out HW.out)
 have HDS := Aside0.mk (Kd.C_below HCS.out HW.out)
 have HDU := Aside0.mk (Kd.C_below HCU.out HW.out)
 clear HCK HCJ HCL HCS HCU
 refine start_ (n := 48) (S := fun w' => True) (ds := []) #[false, false, false, false, false, false, false, false, false, false, false, false, false, false, false, false, false, false, false, false, false, false, false, false, false, false, false, false, false, false, false, false, false, false, false, false, false, false, false, false, false, false, false, false, false, false, false, false] (by kernel_rfl) rfl rfl trivial (fun hHeld => ?_)
 refine with_tabW few18.tab1 few18.bits1 (fun HT_ HW_ => ?_)
 generalize w2.drew = W at HP HR HW HDK HDJ HDL HDS HDU hHeld ⊢
 refine pure_ (i := 1) (N := some 6) (v := ?_) (a' := ?_) #[false, true, false, false, false, false, false, false, false, false, false, false, false, false, false, false, false, false, false, false, false, false, false, false, false, false, false, false, false, false, false, false, false, false, false, false, false, false, false, false, false, false, false, false, false, false, false, false] rfl rfl (any_of HT_.out (by kernel_rfl)) (fun _ _ _ h => h) (Or.inl ⟨by rfl, ?_⟩) ?_ ?_
 rotate_left
 ·
  intro w'
  go_simp
  with_reducible rfl
 rotate_left
 ·
  simp only [Act.put, List.setIfInBounds_toArray, List.set_cons_zero, List.set_cons_succ, i64_w, i32_w]
  rfl
 refine pure_ (i := 3) (N := some 8) (v := ?_) (a' := ?_) #[false, true, false, true, false, false, false, false, false, false, false, false, false, false, false, false, false, false, false, false, false, false, false, false, false, false, false, false, false, false, false, false, false, false, false, false, false, false, false, false, false, false, false, false, false, false, false, false] rfl rfl (any_of HT_.out (by kernel_rfl)) (fun _ _ _ h => h) (Or.inl ⟨by rfl, ?_⟩) ?_ ?_
 rotate_left
 ·
  intro w'
  go_simp
  with_reducible rfl
 rotate_left
 ·
  simp only [Act.put, List.setIfInBounds_toArray, List.set_cons_zero, List.set_cons_succ, i64_w, i32_w]
  rfl
 refine pure_ (i := 10) (N := some 15) (v := ?_) (a' := ?_) #[false, true, false, true, false, false, false, false, false, false, true, false, false, false, false, false, false, false, false, false, false, false, false, false, false, false, false, false, false, false, false, false, false, false, false, false, false, false, false, false, false, false, false, false, false, false, false, false] rfl rfl (any_of HT_.out (by kernel_rfl)) (fun _ _ _ h => h) (Or.inl ⟨by rfl, ?_⟩) ?_ ?_
 rotate_left
 ·
  intro w'
  go_simp
  with_reducible rfl
 rotate_left
 ·
  simp only [Act.put, List.setIfInBounds_toArray, List.set_cons_zero, List.set_cons_succ, i64_w, i32_w]
  rfl
 refine pure_ (i := 12) (N := some 17) (v := ?_) (a' := ?_) #[false, true, false, true, false, false, false, false, false, false, true, false, true, false, false, false, false, false, false, false, false, false, false, false, false, false, false, false, false, false, false, false, false, false, false, false, false, false, false, false, false, false, false, false, false, false, false, false] rfl rfl (any_of HT_.out (by kernel_rfl)) (fun _ _ _ h => h) (Or.inl ⟨by rfl, ?_⟩) ?_ ?_
 rotate_left
 ·
  intro w'
  go_simp
  with_reducible rfl
 rotate_left
 ·
  simp only [Act.put, List.setIfInBounds_toArray, List.set_cons_zero, List.set_cons_succ, i64_w, i32_w]
  rfl
 refine pure_ (i := 19) (N := some 24) (v := ?_) (a' := ?_) #[false, true, false, true, false, false, false, false, false, false, true, false, true, false, false, false, false, false, false, true, false, false, false, false, false, false, false, false, false, false, false, false, false, false, false, false, false, false, false, false, false, false, false, false, false, false, false, false] rfl rfl (any_of HT_.out (by kernel_rfl)) (fun _ _ _ h => h) (Or.inl ⟨by rfl, ?_⟩) ?_ ?_
 rotate_left
 ·
  intro w'
  go_simp
  with_reducible rfl
 rotate_left
 ·
  simp only [Act.put, List.setIfInBounds_toArray, List.set_cons_zero, List.set_cons_succ, i64_w, i32_w]
  rfl
 refine pure_ (i := 21) (N := some 26) (v := ?_) (a' := ?_) #[false, true, false, true, false, false, false, false, false, false, true, false, true, false, false, false, false, false, false, true, false, true, false, false, false, false, false, false, false, false, false, false, false, false, false, false, false, false, false, false, false, false, false, false, false, false, false, false] rfl rfl (any_of HT_.out (by kernel_rfl)) (fun _ _ _ h => h) (Or.inl ⟨by rfl, ?_⟩) ?_ ?_
 rotate_left
 ·
  intro w'
  go_simp
  with_reducible rfl
 rotate_left
 ·
  simp only [Act.put, List.setIfInBounds_toArray, List.set_cons_zero, List.set_cons_succ, i64_w, i32_w]
  rfl
 refine pure_ (i := 28) (N := some 33) (v := ?_) (a' := ?_) #[false, true, false, true, false, false, false, false, false, false, true, false, true, false, false, false, false, false, false, true, false, true, false, false, false, false, false, false, true, false, false, false, false, false, false, false, false, false, false, false, false, false, false, false, false, false, false, false] rfl rfl (any_of HT_.out (by kernel_rfl)) (fun _ _ _ h => h) (Or.inl ⟨by rfl, ?_⟩) ?_ ?_
 rotate_left
 ·
  intro w'
  go_simp
  with_reducible rfl
 rotate_left
 ·
  simp only [Act.put, List.setIfInBounds_toArray, List.set_cons_zero, List.set_cons_succ, i64_w, i32_w]
  rfl
 refine pure_ (i := 30) (N := some 35) (v := ?_) (a' := ?_) #[false, true, false, true, false, false, false, false, false, false, true, false, true, false, false, false, false, false, false, true, false, true, false, false, false, false, false, false, true, false, true, false, false, false, false, false, false, false, false, false, false, false, false, false, false, false, false, false] rfl rfl (any_of HT_.out (by kernel_rfl)) (fun _ _ _ h => h) (Or.inl ⟨by rfl, ?_⟩) ?_ ?_
 rotate_left
 ·
  intro w'
  go_simp
  with_reducible rfl
 rotate_left
 ·
  simp only [Act.put, List.setIfInBounds_toArray, List.set_cons_zero, List.set_cons_succ, i64_w, i32_w]
  rfl
 refine pure_ (i := 37) (N := some 42) (v := ?_) (a' := ?_) #[false, true, false, true, false, false, false, false, false, false, true, false, true, false, false, false, false, false, false, true, false, true, false, false, false, false, false, false, true, false, true, false, false, false, false, false, false, true, false, false, false, false, false, false, false, false, false, false] rfl rfl (any_of HT_.out (by kernel_rfl)) (fun _ _ _ h => h) (Or.inl ⟨by rfl, ?_⟩) ?_ ?_
 rotate_left
 ·
  intro w'
  go_simp
  with_reducible rfl
 rotate_left
 ·
  simp only [Act.put, List.setIfInBounds_toArray, List.set_cons_zero, List.set_cons_succ, i64_w, i32_w]
  rfl
 refine pure_ (i := 39) (N := some 44) (v := ?_) (a' := ?_) #[false, true, false, true, false, false, false, false, false, false, true, false, true, false, false, false, false, false, false, true, false, true, false, false, false, false, false, false, true, false, true, false, false, false, false, false, false, true, false, true, false, false, false, false, false, false, false, false] rfl rfl (any_of HT_.out (by kernel_rfl)) (fun _ _ _ h => h) (Or.inl ⟨by rfl, ?_⟩) ?_ ?_
 rotate_left
 ·
  intro w'
  go_simp
  with_reducible rfl
 rotate_left
 ·
  simp only [Act.put, List.setIfInBounds_toArray, List.set_cons_zero, List.set_cons_succ, i64_w, i32_w]
  rfl
 refine inv_at [0, 2, 4, 5, 6, 7, 8, 9, 11, 13, 14, 15, 16, 17, 18, 20, 22, 23, 24, 25, 26, 27, 29, 31, 32, 33, 34, 35, 36, 38, 40, 41, 42, 43, 44, 45, 46, 47] (fun a0_ b a w' => ∃ (vK aK vJ aJ vL aL vS aS vU aU : Value) (gx : Nat) (m : Value), a = putSel a0_ b [(0, 5, vK), (2, 7, .slice AK K.length cK), (4, 9, .slice AK K.length cK), (5, 10, .int .i64 (K.length : Int)), (6, 11, .int .i64 (TK.length : Int)), (7, 12, .slice AK TK.length cK), (8, 13, aK), (9, 14, vJ), (11, 16, .slice AJ J.length cJ), (13, 18, .slice AJ J.length cJ), (14, 19, .int .i64 (J.length : Int)), (15, 20, .int .i64 (TJ.length : Int)), (16, 21, .slice AJ TJ.length cJ), (17, 22, aJ), (18, 23, vL), (20, 25, .slice AL L.length cL), (22, 27, .slice AL L.length cL), (23, 28, .int .i64 (L.length : Int)), (24, 29, .int .i64 (TL.length : Int)), (25, 30, .slice AL TL.length cL), (26, 31, aL), (27, 32, vS), (29, 34, .slice AS S.length cS), (31, 36, .slice AS S.length cS), (32, 37, .int .i64 (S.length : Int)), (33, 38, .int .i64 (TS.length : Int)), (34, 39, .slice AS TS.length cS), (35, 40, aS), (36, 41, vU), (38, 43, .slice AU U.length cU), (40, 45, .slice AU U.length cU), (41, 46, .int .i64 (U.length : Int)), (42, 47, .int .i64 (TU.length : Int)), (43, 48, .slice AU TU.length cU), (44, 49, aU), (45, 50, m), (46, 3, .pointer (some ⟨gx, 0, none⟩))] ∧ FewI W w' TK TJ TL TS TU b vK aK vJ aJ vL aL vS aS vU aU gx m) HT_.out HW_.out (by kernel_rfl) (by kernel_rfl) ?_ ?_ ?_
 ·
  exact ⟨undef, undef, undef, undef, undef, undef, undef, undef, undef, undef, 0, undef, by simp only [putSel, Bool.false_eq_true, if_false], FewI.none_ _ _ _ _ _ _⟩
 ·
  skip
  refine steps_cons ?_ ?_
  ·
   rintro b a w' ⟨vK, aK, vJ, aJ, vL, aL, vS, aS, vU, aU, gx, m, ha, HI⟩ hb_ hon hoff
   refine ⟨_, rfl, fun K_ hK => ?_⟩
   replace ha := Aside0.mk ha
   refine Kd.R_lit_step k56 _ 56 ?hg (N := 5) ?hd (xs := ([] : List S56)) (inner := []) (ok := fun _ => True) (okp := fun _ => True) ?hr ?hp (fun _ hk => hk) trivial (Below.refl _ _) (Nat.le_refl _) (by simp) ?_; (case hd => rfl); (case hg => rfl); (case hr => first | (go_simp; done) | (go_simp; rfl)); (case hp => exact (Reps.none _ _))
   intro v w5 ho hb hg_ hnew_
   exact hK.out _ _ ⟨v, aK, vJ, aJ, vL, aL, vS, aS, vU, aU, gx, m, (by rw [ha.out]; exact putSel_upk 0 hb_ rfl rfl rfl), HI.litK hb (Kd.R_lower ho HI.bel.size) (hoff 8 (by kernel_rfl)) (hoff 45 (by kernel_rfl)) (hoff 47 (by kernel_rfl))⟩
  refine steps_cons ?_ ?_
  ·
   rintro b a w' ⟨vK, aK, vJ, aJ, vL, aL, vS, aS, vU, aU, gx, m, ha, HI⟩ hb_ hon hoff
   refine ⟨_, rfl, fun K_ hK => ?_⟩
   have e6 : a.tmps[6]? = some (.pointer (some ⟨gp, 0, none⟩)) := by rw [ha]; exact (putSel_off rfl).trans rfl
   replace ha := Aside0.mk ha
   have hc_ : w'.cell? ⟨gp, 0, none⟩ = some (.slice AK K.length cK) := (blk_cell ((HI.bel.block gp (blk_lt HP.out)).trans HP.out) 0).trans rfl
   refine value_ (w1 := w') (v := .slice AK K.length cK) (by rfl) rfl ?_ ?_
   ·
    go_simp
    (try simp only [i64_w])
    try rfl
   exact hK.out _ _ ⟨vK, aK, vJ, aJ, vL, aL, vS, aS, vU, aU, gx, m, (by rw [ha.out]; exact putSel_upk 1 hb_ rfl rfl rfl), HI.skip 2 rfl⟩
  refine steps_cons ?_ ?_
  ·
   rintro b a w' ⟨vK, aK, vJ, aJ, vL, aL, vS, aS, vU, aU, gx, m, ha, HI⟩ hb_ hon hoff
   refine ⟨_, rfl, fun K_ hK => ?_⟩
   have e8 : a.tmps[8]? = some (.pointer (some ⟨gp, 0, none⟩)) := by rw [ha]; exact (putSel_off rfl).trans rfl
   replace ha := Aside0.mk ha
   have hc_ : w'.cell? ⟨gp, 0, none⟩ = some (.slice AK K.length cK) := (blk_cell ((HI.bel.block gp (blk_lt HP.out)).trans HP.out) 0).trans rfl
   refine value_ (w1 := w') (v := .slice AK K.length cK) (by rfl) rfl ?_ ?_
   ·
    go_simp
    (try simp only [i64_w])
    try rfl
   exact hK.out _ _ ⟨vK, aK, vJ, aJ, vL, aL, vS, aS, vU, aU, gx, m, (by rw [ha.out]; exact putSel_upk 2 hb_ rfl rfl rfl), HI.skip 4 rfl⟩
  refine steps_cons ?_ ?_
  ·
   rintro b a w' ⟨vK, aK, vJ, aJ, vL, aL, vS, aS, vU, aU, gx, m, ha, HI⟩ hb_ hon hoff
   refine ⟨_, rfl, fun K_ hK => ?_⟩
   have e9 : a.tmps[9]? = some (.slice AK K.length cK) := by rw [ha]; exact putSel_on (e := (4, 9, .slice AK K.length cK)) 2 rfl rfl (hon 4 (by kernel_rfl)) rfl
   replace ha := Aside0.mk ha
   refine value_ (w1 := w') (v := .int .i64 (K.length : Int)) (by rfl) rfl ?_ ?_
   ·
    go_simp
    (try simp only [i64_w])
    try rfl
   exact hK.out _ _ ⟨vK, aK, vJ, aJ, vL, aL, vS, aS, vU, aU, gx, m, (by rw [ha.out]; exact putSel_upk 3 hb_ rfl rfl rfl), HI.skip 5 rfl⟩
  refine steps_cons ?_ ?_
  ·
   rintro b a w' ⟨vK, aK, vJ, aJ, vL, aL, vS, aS, vU, aU, gx, m, ha, HI⟩ hb_ hon hoff
   refine ⟨_, rfl, fun K_ hK => ?_⟩
   have e10 : a.tmps[10]? = some (.int .i64 (K.length : Int)) := by rw [ha]; exact putSel_on (e := (5, 10, .int .i64 (K.length : Int))) 3 rfl rfl (hon 5 (by kernel_rfl)) rfl
   replace ha := Aside0.mk ha
   refine value_ (w1 := w') (v := .int .i64 (TK.length : Int)) (by rfl) rfl ?_ ?_
   ·
    go_simp
    (try simp only [i64_w])
    try rfl
   exact hK.out _ _ ⟨vK, aK, vJ, aJ, vL, aL, vS, aS, vU, aU, gx, m, (by rw [ha.out]; exact putSel_upk 4 hb_ rfl rfl rfl), HI.skip 6 rfl⟩
  refine steps_cons ?_ ?_
  ·
   rintro b a w' ⟨vK, aK, vJ, aJ, vL, aL, vS, aS, vU, aU, gx, m, ha, HI⟩ hb_ hon hoff
   refine ⟨_, rfl, fun K_ hK => ?_⟩
   have e7 : a.tmps[7]? = some (.slice AK K.length cK) := by rw [ha]; exact putSel_on (e := (2, 7, .slice AK K.length cK)) 1 rfl rfl (hon 2 (by kernel_rfl)) rfl
   have e11 : a.tmps[11]? = some (.int .i64 (TK.length : Int)) := by rw [ha]; exact putSel_on (e := (6, 11, .int .i64 (TK.length : Int))) 4 rfl rfl (hon 6 (by kernel_rfl)) rfl
   replace ha := Aside0.mk ha
   refine value_ (w1 := w') (v := .slice AK TK.length cK) (by rfl) rfl ?_ ?_
   ·
    go_simp
    (try simp only [i64_w])
    try rfl
   exact hK.out _ _ ⟨vK, aK, vJ, aJ, vL, aL, vS, aS, vU, aU, gx, m, (by rw [ha.out]; exact putSel_upk 5 hb_ rfl rfl rfl), HI.skip 7 rfl⟩
  refine steps_cons ?_ ?_
  ·
   rintro b a w' ⟨vK, aK, vJ, aJ, vL, aL, vS, aS, vU, aU, gx, m, ha, HI⟩ hb_ hon hoff
   refine ⟨_, rfl, fun K_ hK => ?_⟩
   have e5 : a.tmps[5]? = some (vK) := by rw [ha]; exact putSel_on (e := (0, 5, vK)) 0 rfl rfl (hon 0 (by kernel_rfl)) rfl
   have e12 : a.tmps[12]? = some (.slice AK TK.length cK) := by rw [ha]; exact putSel_on (e := (7, 12, .slice AK TK.length cK)) 5 rfl rfl (hon 7 (by kernel_rfl)) rfl
   replace ha := Aside0.mk ha
   refine Kd.R_append_rows_step k56 (w0 := W) W.heap.size (by rfl) (.tmp 5) (.tmp 12) 22 56 (.agg #[(.int .i64 0), (.bool false), (.string ⟨#[]⟩)]) 32 rfl Try.underlying22 info56 rfl (by decide) (by omega) vK [] TK _ _ _ (fun _ => True) (fun _ => False) (by first | rfl | exact ev_of e5) (by first | rfl | exact ev_of e12) (HI.K.1 (hon 0 (by kernel_rfl)) hb_) (Kd.C_below HDK.out HI.bel) (fun _ _ h => h) (fun _ h => h.elim) (fun _ _ => trivial) HI.bel HI.bel.size (by simp only [List.length_nil]; omega) ?_
   intro v w5 ho hb hg hat
   rw [List.nil_append] at ho
   exact hK.out _ _ ⟨vK, v, vJ, aJ, vL, aL, vS, aS, vU, aU, gx, m, (by rw [ha.out]; exact putSel_upk 6 hb_ rfl rfl rfl), HI.appK (hon 0 (by kernel_rfl)) hb_ hb hg ho (hoff 45 (by kernel_rfl)) (hoff 47 (by kernel_rfl))⟩
  refine steps_cons ?_ ?_
  ·
   rintro b a w' ⟨vK, aK, vJ, aJ, vL, aL, vS, aS, vU, aU, gx, m, ha, HI⟩ hb_ hon hoff
   refine ⟨_, rfl, fun K_ hK => ?_⟩
   replace ha := Aside0.mk ha
   refine Kd.R_lit_step k54 _ 54 ?hg (N := 14) ?hd (xs := ([] : List S54)) (inner := []) (ok := fun _ => True) (okp := fun _ => True) ?hr ?hp (fun _ hk => hk) trivial (Below.refl _ _) (Nat.le_refl _) (by simp) ?_; (case hd => rfl); (case hg => rfl); (case hr => first | (go_simp; done) | (go_simp; rfl)); (case hp => exact (Reps.none _ _))
   intro v w5 ho hb hg_ hnew_
   exact hK.out _ _ ⟨vK, aK, v, aJ, vL, aL, vS, aS, vU, aU, gx, m, (by rw [ha.out]; exact putSel_upk 7 hb_ rfl rfl rfl), HI.litJ hb (Kd.R_lower ho HI.bel.size) (hoff 17 (by kernel_rfl)) (hoff 45 (by kernel_rfl)) (hoff 47 (by kernel_rfl))⟩
  refine steps_cons ?_ ?_
  ·
   rintro b a w' ⟨vK, aK, vJ, aJ, vL, aL, vS, aS, vU, aU, gx, m, ha, HI⟩ hb_ hon hoff
   refine ⟨_, rfl, fun K_ hK => ?_⟩
   have e15 : a.tmps[15]? = some (.pointer (some ⟨gp, 1, none⟩)) := by rw [ha]; exact (putSel_off rfl).trans rfl
   replace ha := Aside0.mk ha
   have hc_ : w'.cell? ⟨gp, 1, none⟩ = some (.slice AJ J.length cJ) := (blk_cell ((HI.bel.block gp (blk_lt HP.out)).trans HP.out) 1).trans rfl
   refine value_ (w1 := w') (v := .slice AJ J.length cJ) (by rfl) rfl ?_ ?_
   ·
    go_simp
    (try simp only [i64_w])
    try rfl
   exact hK.out _ _ ⟨vK, aK, vJ, aJ, vL, aL, vS, aS, vU, aU, gx, m, (by rw [ha.out]; exact putSel_upk 8 hb_ rfl rfl rfl), HI.skip 11 rfl⟩
  refine steps_cons ?_ ?_
  ·
   rintro b a w' ⟨vK, aK, vJ, aJ, vL, aL, vS, aS, vU, aU, gx, m, ha, HI⟩ hb_ hon hoff
   refine ⟨_, rfl, fun K_ hK => ?_⟩
   have e17 : a.tmps[17]? = some (.pointer (some ⟨gp, 1, none⟩)) := by rw [ha]; exact (putSel_off rfl).trans rfl
   replace ha := Aside0.mk ha
   have hc_ : w'.cell? ⟨gp, 1, none⟩ = some (.slice AJ J.length cJ) := (blk_cell ((HI.bel.block gp (blk_lt HP.out)).trans HP.out) 1).trans rfl
   refine value_ (w1 := w') (v := .slice AJ J.length cJ) (by rfl) rfl ?_ ?_
   ·
    go_simp
    (try simp only [i64_w])
    try rfl
   exact hK.out _ _ ⟨vK, aK, vJ, aJ, vL, aL, vS, aS, vU, aU, gx, m, (by rw [ha.out]; exact putSel_upk 9 hb_ rfl rfl rfl), HI.skip 13 rfl⟩
  refine steps_cons ?_ ?_
  ·
   rintro b a w' ⟨vK, aK, vJ, aJ, vL, aL, vS, aS, vU, aU, gx, m, ha, HI⟩ hb_ hon hoff
   refine ⟨_, rfl, fun K_ hK => ?_⟩
   have e18 : a.tmps[18]? = some (.slice AJ J.length cJ) := by rw [ha]; exact putSel_on (e := (13, 18, .slice AJ J.length cJ)) 9 rfl rfl (hon 13 (by kernel_rfl)) rfl
   replace ha := Aside0.mk ha
   refine value_ (w1 := w') (v := .int .i64 (J.length : Int)) (by rfl) rfl ?_ ?_
   ·
    go_simp
    (try simp only [i64_w])
    try rfl
   exact hK.out _ _ ⟨vK, aK, vJ, aJ, vL, aL, vS, aS, vU, aU, gx, m, (by rw [ha.out]; exact putSel_upk 10 hb_ rfl rfl rfl), HI.skip 14 rfl⟩
  refine steps_cons ?_ ?_
  ·
   rintro b a w' ⟨vK, aK, vJ, aJ, vL, aL, vS, aS, vU, aU, gx, m, ha, HI⟩ hb_ hon hoff
   refine ⟨_, rfl, fun K_ hK => ?_⟩
   have e19 : a.tmps[19]? = some (.int .i64 (J.length : Int)) := by rw [ha]; exact putSel_on (e := (14, 19, .int .i64 (J.length : Int))) 10 rfl rfl (hon 14 (by kernel_rfl)) rfl
   replace ha := Aside0.mk ha
   refine value_ (w1 := w') (v := .int .i64 (TJ.length : Int)) (by rfl) rfl ?_ ?_
   ·
    go_simp
    (try simp only [i64_w])
    try rfl
   exact hK.out _ _ ⟨vK, aK, vJ, aJ, vL, aL, vS, aS, vU, aU, gx, m, (by rw [ha.out]; exact putSel_upk 11 hb_ rfl rfl rfl), HI.skip 15 rfl⟩
  refine steps_cons ?_ ?_
  ·
   rintro b a w' ⟨vK, aK, vJ, aJ, vL, aL, vS, aS, vU, aU, gx, m, ha, HI⟩ hb_ hon hoff
   refine ⟨_, rfl, fun K_ hK => ?_⟩
   have e16 : a.tmps[16]? = some (.slice AJ J.length cJ) := by rw [ha]; exact putSel_on (e := (11, 16, .slice AJ J.length cJ)) 8 rfl rfl (hon 11 (by kernel_rfl)) rfl
   have e20 : a.tmps[20]? = some (.int .i64 (TJ.length : Int)) := by rw [ha]; exact putSel_on (e := (15, 20, .int .i64 (TJ.length : Int))) 11 rfl rfl (hon 15 (by kernel_rfl)) rfl
   replace ha := Aside0.mk ha
   refine value_ (w1 := w') (v := .slice AJ TJ.length cJ) (by rfl) rfl ?_ ?_
   ·
    go_simp
    (try simp only [i64_w])
    try rfl
   exact hK.out _ _ ⟨vK, aK, vJ, aJ, vL, aL, vS, aS, vU, aU, gx, m, (by rw [ha.out]; exact putSel_upk 12 hb_ rfl rfl rfl), HI.skip 16 rfl⟩
  refine steps_cons ?_ ?_
  ·
   rintro b a w' ⟨vK, aK, vJ, aJ, vL, aL, vS, aS, vU, aU, gx, m, ha, HI⟩ hb_ hon hoff
   refine ⟨_, rfl, fun K_ hK => ?_⟩
   have e14 : a.tmps[14]? = some (vJ) := by rw [ha]; exact putSel_on (e := (9, 14, vJ)) 7 rfl rfl (hon 9 (by kernel_rfl)) rfl
   have e21 : a.tmps[21]? = some (.slice AJ TJ.length cJ) := by rw [ha]; exact putSel_on (e := (16, 21, .slice AJ TJ.length cJ)) 12 rfl rfl (hon 16 (by kernel_rfl)) rfl
   replace ha := Aside0.mk ha
   refine Kd.R_append_rows_step k54 (w0 := W) W.heap.size (by rfl) (.tmp 14) (.tmp 21) 23 54 (.agg #[(.int .i64 0), (.int .i64 0)]) 16 rfl Try.underlying23 info54 rfl (by decide) (by omega) vJ [] TJ _ _ _ (fun _ => True) (fun _ => False) (by first | rfl | exact ev_of e14) (by first | rfl | exact ev_of e21) (HI.J.1 (hon 9 (by kernel_rfl)) hb_) (Kd.C_below HDJ.out HI.bel) (fun _ _ h => h) (fun _ h => h.elim) (fun _ _ => trivial) HI.bel HI.bel.size (by simp only [List.length_nil]; omega) ?_
   intro v w5 ho hb hg hat
   rw [List.nil_append] at ho
   exact hK.out _ _ ⟨vK, aK, vJ, v, vL, aL, vS, aS, vU, aU, gx, m, (by rw [ha.out]; exact putSel_upk 13 hb_ rfl rfl rfl), HI.appJ (hon 9 (by kernel_rfl)) hb_ hb hg ho (hoff 45 (by kernel_rfl)) (hoff 47 (by kernel_rfl))⟩
  refine steps_cons ?_ ?_
  ·
   rintro b a w' ⟨vK, aK, vJ, aJ, vL, aL, vS, aS, vU, aU, gx, m, ha, HI⟩ hb_ hon hoff
   refine ⟨_, rfl, fun K_ hK => ?_⟩
   replace ha := Aside0.mk ha
   refine Kd.R_lit_step k87 _ 87 ?hg (N := 23) ?hd (xs := ([] : List S87)) (inner := []) (ok := fun _ => True) (okp := fun _ => True) ?hr ?hp (fun _ hk => hk) trivial (Below.refl _ _) (Nat.le_refl _) (by simp) ?_; (case hd => rfl); (case hg => rfl); (case hr => first | (go_simp; done) | (go_simp; rfl)); (case hp => exact (Reps.none _ _))
   intro v w5 ho hb hg_ hnew_
   exact hK.out _ _ ⟨vK, aK, vJ, aJ, v, aL, vS, aS, vU, aU, gx, m, (by rw [ha.out]; exact putSel_upk 14 hb_ rfl rfl rfl), HI.litL hb (Kd.R_lower ho HI.bel.size) (hoff 26 (by kernel_rfl)) (hoff 45 (by kernel_rfl)) (hoff 47 (by kernel_rfl))⟩
  refine steps_cons ?_ ?_
  ·
   rintro b a w' ⟨vK, aK, vJ, aJ, vL, aL, vS, aS, vU, aU, gx, m, ha, HI⟩ hb_ hon hoff
   refine ⟨_, rfl, fun K_ hK => ?_⟩
   have e24 : a.tmps[24]? = some (.pointer (some ⟨gp, 2, none⟩)) := by rw [ha]; exact (putSel_off rfl).trans rfl
   replace ha := Aside0.mk ha
   have hc_ : w'.cell? ⟨gp, 2, none⟩ = some (.slice AL L.length cL) := (blk_cell ((HI.bel.block gp (blk_lt HP.out)).trans HP.out) 2).trans rfl
   refine value_ (w1 := w') (v := .slice AL L.length cL) (by rfl) rfl ?_ ?_
   ·
    go_simp
    (try simp only [i64_w])
    try rfl
   exact hK.out _ _ ⟨vK, aK, vJ, aJ, vL, aL, vS, aS, vU, aU, gx, m, (by rw [ha.out]; exact putSel_upk 15 hb_ rfl rfl rfl), HI.skip 20 rfl⟩
  refine steps_cons ?_ ?_
  ·
   rintro b a w' ⟨vK, aK, vJ, aJ, vL, aL, vS, aS, vU, aU, gx, m, ha, HI⟩ hb_ hon hoff
   refine ⟨_, rfl, fun K_ hK => ?_⟩
   have e26 : a.tmps[26]? = some (.pointer (some ⟨gp, 2, none⟩)) := by rw [ha]; exact (putSel_off rfl).trans rfl
   replace ha := Aside0.mk ha
   have hc_ : w'.cell? ⟨gp, 2, none⟩ = some (.slice AL L.length cL) := (blk_cell ((HI.bel.block gp (blk_lt HP.out)).trans HP.out) 2).trans rfl
   refine value_ (w1 := w') (v := .slice AL L.length cL) (by rfl) rfl ?_ ?_
   ·
    go_simp
    (try simp only [i64_w])
    try rfl
   exact hK.out _ _ ⟨vK, aK, vJ, aJ, vL, aL, vS, aS, vU, aU, gx, m, (by rw [ha.out]; exact putSel_upk 16 hb_ rfl rfl rfl), HI.skip 22 rfl⟩
  refine steps_cons ?_ ?_
  ·
   rintro b a w' ⟨vK, aK, vJ, aJ, vL, aL, vS, aS, vU, aU, gx, m, ha, HI⟩ hb_ hon hoff
   refine ⟨_, rfl, fun K_ hK => ?_⟩
   have e27 : a.tmps[27]? = some (.slice AL L.length cL) := by rw [ha]; exact putSel_on (e := (22, 27, .slice AL L.length cL)) 16 rfl rfl (hon 22 (by kernel_rfl)) rfl
   replace ha := Aside0.mk ha
   refine value_ (w1 := w') (v := .int .i64 (L.length : Int)) (by rfl) rfl ?_ ?_
   ·
    go_simp
    (try simp only [i64_w])
    try rfl
   exact hK.out _ _ ⟨vK, aK, vJ, aJ, vL, aL, vS, aS, vU, aU, gx, m, (by rw [ha.out]; exact putSel_upk 17 hb_ rfl rfl rfl), HI.skip 23 rfl⟩
  refine steps_cons ?_ ?_
  ·
   rintro b a w' ⟨vK, aK, vJ, aJ, vL, aL, vS, aS, vU, aU, gx, m, ha, HI⟩ hb_ hon hoff
   refine ⟨_, rfl, fun K_ hK => ?_⟩
   have e28 : a.tmps[28]? = some (.int .i64 (L.length : Int)) := by rw [ha]; exact putSel_on (e := (23, 28, .int .i64 (L.length : Int))) 17 rfl rfl (hon 23 (by kernel_rfl)) rfl
   replace ha := Aside0.mk ha
   refine value_ (w1 := w') (v := .int .i64 (TL.length : Int)) (by rfl) rfl ?_ ?_
   ·
    go_simp
    (try simp only [i64_w])
    try rfl
   exact hK.out _ _ ⟨vK, aK, vJ, aJ, vL, aL, vS, aS, vU, aU, gx, m, (by rw [ha.out]; exact putSel_upk 18 hb_ rfl rfl rfl), HI.skip 24 rfl⟩
  refine steps_cons ?_ ?_
  ·
   rintro b a w' ⟨vK, aK, vJ, aJ, vL, aL, vS, aS, vU, aU, gx, m, ha, HI⟩ hb_ hon hoff
   refine ⟨_, rfl, fun K_ hK => ?_⟩
   have e25 : a.tmps[25]? = some (.slice AL L.length cL) := by rw [ha]; exact putSel_on (e := (20, 25, .slice AL L.length cL)) 15 rfl rfl (hon 20 (by kernel_rfl)) rfl
   have e29 : a.tmps[29]? = some (.int .i64 (TL.length : Int)) := by rw [ha]; exact putSel_on (e := (24, 29, .int .i64 (TL.length : Int))) 18 rfl rfl (hon 24 (by kernel_rfl)) rfl
   replace ha := Aside0.mk ha
   refine value_ (w1 := w') (v := .slice AL TL.length cL) (by rfl) rfl ?_ ?_
   ·
    go_simp
    (try simp only [i64_w])
    try rfl
   exact hK.out _ _ ⟨vK, aK, vJ, aJ, vL, aL, vS, aS, vU, aU, gx, m, (by rw [ha.out]; exact putSel_upk 19 hb_ rfl rfl rfl), HI.skip 25 rfl⟩
  refine steps_cons ?_ ?_
  ·
   rintro b a w' ⟨vK, aK, vJ, aJ, vL, aL, vS, aS, vU, aU, gx, m, ha, HI⟩ hb_ hon hoff
   refine ⟨_, rfl, fun K_ hK => ?_⟩
   have e23 : a.tmps[23]? = some (vL) := by rw [ha]; exact putSel_on (e := (18, 23, vL)) 14 rfl rfl (hon 18 (by kernel_rfl)) rfl
   have e30 : a.tmps[30]? = some (.slice AL TL.length cL) := by rw [ha]; exact putSel_on (e := (25, 30, .slice AL TL.length cL)) 19 rfl rfl (hon 25 (by kernel_rfl)) rfl
   replace ha := Aside0.mk ha
   refine Kd.R_append_rows_step k87 (w0 := W) W.heap.size (by rfl) (.tmp 23) (.tmp 30) 24 87 (.agg #[(.int .i64 0), (.int .i64 0)]) 16 rfl Try.underlying24 info87 rfl (by decide) (by omega) vL [] TL _ _ _ (fun _ => True) (fun _ => False) (by first | rfl | exact ev_of e23) (by first | rfl | exact ev_of e30) (HI.L.1 (hon 18 (by kernel_rfl)) hb_) (Kd.C_below HDL.out HI.bel) (fun _ _ h => h) (fun _ h => h.elim) (fun _ _ => trivial) HI.bel HI.bel.size (by simp only [List.length_nil]; omega) ?_
   intro v w5 ho hb hg hat
   rw [List.nil_append] at ho
   exact hK.out _ _ ⟨vK, aK, vJ, aJ, vL, v, vS, aS, vU, aU, gx, m, (by rw [ha.out]; exact putSel_upk 20 hb_ rfl rfl rfl), HI.appL (hon 18 (by kernel_rfl)) hb_ hb hg ho (hoff 45 (by kernel_rfl)) (hoff 47 (by kernel_rfl))⟩
  refine steps_cons ?_ ?_
  ·
   rintro b a w' ⟨vK, aK, vJ, aJ, vL, aL, vS, aS, vU, aU, gx, m, ha, HI⟩ hb_ hon hoff
   refine ⟨_, rfl, fun K_ hK => ?_⟩
   replace ha := Aside0.mk ha
   refine Kd.R_lit_step Kd.bool _ 4 ?hg (N := 32) ?hd (xs := ([] : List Bool)) (inner := []) (ok := fun _ => True) (okp := fun _ => True) ?hr ?hp (fun _ hk => hk) trivial (Below.refl _ _) (Nat.le_refl _) (by simp) ?_; (case hd => rfl); (case hg => rfl); (case hr => first | (go_simp; done) | (go_simp; rfl)); (case hp => exact (Reps.none _ _))
   intro v w5 ho hb hg_ hnew_
   exact hK.out _ _ ⟨vK, aK, vJ, aJ, vL, aL, v, aS, vU, aU, gx, m, (by rw [ha.out]; exact putSel_upk 21 hb_ rfl rfl rfl), HI.litS hb (Kd.R_lower ho HI.bel.size) hnew_ (hoff 35 (by kernel_rfl)) (hoff 45 (by kernel_rfl)) (hoff 47 (by kernel_rfl))⟩
  refine steps_cons ?_ ?_
  ·
   rintro b a w' ⟨vK, aK, vJ, aJ, vL, aL, vS, aS, vU, aU, gx, m, ha, HI⟩ hb_ hon hoff
   refine ⟨_, rfl, fun K_ hK => ?_⟩
   have e33 : a.tmps[33]? = some (.pointer (some ⟨gp, 3, none⟩)) := by rw [ha]; exact (putSel_off rfl).trans rfl
   replace ha := Aside0.mk ha
   have hc_ : w'.cell? ⟨gp, 3, none⟩ = some (.slice AS S.length cS) := (blk_cell ((HI.bel.block gp (blk_lt HP.out)).trans HP.out) 3).trans rfl
   refine value_ (w1 := w') (v := .slice AS S.length cS) (by rfl) rfl ?_ ?_
   ·
    go_simp
    (try simp only [i64_w])
    try rfl
   exact hK.out _ _ ⟨vK, aK, vJ, aJ, vL, aL, vS, aS, vU, aU, gx, m, (by rw [ha.out]; exact putSel_upk 22 hb_ rfl rfl rfl), HI.skip 29 rfl⟩
  refine steps_cons ?_ ?_
  ·
   rintro b a w' ⟨vK, aK, vJ, aJ, vL, aL, vS, aS, vU, aU, gx, m, ha, HI⟩ hb_ hon hoff
   refine ⟨_, rfl, fun K_ hK => ?_⟩
   have e35 : a.tmps[35]? = some (.pointer (some ⟨gp, 3, none⟩)) := by rw [ha]; exact (putSel_off rfl).trans rfl
   replace ha := Aside0.mk ha
   have hc_ : w'.cell? ⟨gp, 3, none⟩ = some (.slice AS S.length cS) := (blk_cell ((HI.bel.block gp (blk_lt HP.out)).trans HP.out) 3).trans rfl
   refine value_ (w1 := w') (v := .slice AS S.length cS) (by rfl) rfl ?_ ?_
   ·
    go_simp
    (try simp only [i64_w])
    try rfl
   exact hK.out _ _ ⟨vK, aK, vJ, aJ, vL, aL, vS, aS, vU, aU, gx, m, (by rw [ha.out]; exact putSel_upk 23 hb_ rfl rfl rfl), HI.skip 31 rfl⟩
  refine steps_cons ?_ ?_
  ·
   rintro b a w' ⟨vK, aK, vJ, aJ, vL, aL, vS, aS, vU, aU, gx, m, ha, HI⟩ hb_ hon hoff
   refine ⟨_, rfl, fun K_ hK => ?_⟩
   have e36 : a.tmps[36]? = some (.slice AS S.length cS) := by rw [ha]; exact putSel_on (e := (31, 36, .slice AS S.length cS)) 23 rfl rfl (hon 31 (by kernel_rfl)) rfl
   replace ha := Aside0.mk ha
   refine value_ (w1 := w') (v := .int .i64 (S.length : Int)) (by rfl) rfl ?_ ?_
   ·
    go_simp
    (try simp only [i64_w])
    try rfl
   exact hK.out _ _ ⟨vK, aK, vJ, aJ, vL, aL, vS, aS, vU, aU, gx, m, (by rw [ha.out]; exact putSel_upk 24 hb_ rfl rfl rfl), HI.skip 32 rfl⟩
  refine steps_cons ?_ ?_
  ·
   rintro b a w' ⟨vK, aK, vJ, aJ, vL, aL, vS, aS, vU, aU, gx, m, ha, HI⟩ hb_ hon hoff
   refine ⟨_, rfl, fun K_ hK => ?_⟩
   have e37 : a.tmps[37]? = some (.int .i64 (S.length : Int)) := by rw [ha]; exact putSel_on (e := (32, 37, .int .i64 (S.length : Int))) 24 rfl rfl (hon 32 (by kernel_rfl)) rfl
   replace ha := Aside0.mk ha
   refine value_ (w1 := w') (v := .int .i64 (TS.length : Int)) (by rfl) rfl ?_ ?_
   ·
    go_simp
    (try simp only [i64_w])
    try rfl
   exact hK.out _ _ ⟨vK, aK, vJ, aJ, vL, aL, vS, aS, vU, aU, gx, m, (by rw [ha.out]; exact putSel_upk 25 hb_ rfl rfl rfl), HI.skip 33 rfl⟩
  refine steps_cons ?_ ?_
  ·
   rintro b a w' ⟨vK, aK, vJ, aJ, vL, aL, vS, aS, vU, aU, gx, m, ha, HI⟩ hb_ hon hoff
   refine ⟨_, rfl, fun K_ hK => ?_⟩
   have e34 : a.tmps[34]? = some (.slice AS S.length cS) := by rw [ha]; exact putSel_on (e := (29, 34, .slice AS S.length cS)) 22 rfl rfl (hon 29 (by kernel_rfl)) rfl
   have e38 : a.tmps[38]? = some (.int .i64 (TS.length : Int)) := by rw [ha]; exact putSel_on (e := (33, 38, .int .i64 (TS.length : Int))) 25 rfl rfl (hon 33 (by kernel_rfl)) rfl
   replace ha := Aside0.mk ha
   refine value_ (w1 := w') (v := .slice AS TS.length cS) (by rfl) rfl ?_ ?_
   ·
    go_simp
    (try simp only [i64_w])
    try rfl
   exact hK.out _ _ ⟨vK, aK, vJ, aJ, vL, aL, vS, aS, vU, aU, gx, m, (by rw [ha.out]; exact putSel_upk 26 hb_ rfl rfl rfl), HI.skip 34 rfl⟩
  refine steps_cons ?_ ?_
  ·
   rintro b a w' ⟨vK, aK, vJ, aJ, vL, aL, vS, aS, vU, aU, gx, m, ha, HI⟩ hb_ hon hoff
   refine ⟨_, rfl, fun K_ hK => ?_⟩
   have e32 : a.tmps[32]? = some (vS) := by rw [ha]; exact putSel_on (e := (27, 32, vS)) 21 rfl rfl (hon 27 (by kernel_rfl)) rfl
   have e39 : a.tmps[39]? = some (.slice AS TS.length cS) := by rw [ha]; exact putSel_on (e := (34, 39, .slice AS TS.length cS)) 26 rfl rfl (hon 34 (by kernel_rfl)) rfl
   replace ha := Aside0.mk ha
   refine Kd.R_append_rows_step Kd.bool (w0 := W) W.heap.size (by rfl) (.tmp 32) (.tmp 39) 25 4 (.bool false) 1 rfl Try.underlying25 info4 rfl (by decide) (by omega) vS [] TS _ _ _ (fun _ => True) (fun _ => False) (by first | rfl | exact ev_of e32) (by first | rfl | exact ev_of e39) (HI.S.1 (hon 27 (by kernel_rfl)) hb_) (Kd.C_below HDS.out HI.bel) (fun _ _ h => h) (fun _ h => h.elim) (fun _ _ => trivial) HI.bel HI.bel.size (by simp only [List.length_nil]; omega) ?_
   intro v w5 ho hb hg hat
   rw [List.nil_append] at ho
   exact hK.out _ _ ⟨vK, aK, vJ, aJ, vL, aL, vS, v, vU, aU, gx, m, (by rw [ha.out]; exact putSel_upk 27 hb_ rfl rfl rfl), HI.appS (hon 27 (by kernel_rfl)) hb_ hb hg hat ho (hoff 45 (by kernel_rfl)) (hoff 47 (by kernel_rfl))⟩
  refine steps_cons ?_ ?_
  ·
   rintro b a w' ⟨vK, aK, vJ, aJ, vL, aL, vS, aS, vU, aU, gx, m, ha, HI⟩ hb_ hon hoff
   refine ⟨_, rfl, fun K_ hK => ?_⟩
   replace ha := Aside0.mk ha
   refine Kd.R_lit_step Kd.bool _ 4 ?hg (N := 41) ?hd (xs := ([] : List Bool)) (inner := []) (ok := fun _ => True) (okp := fun _ => True) ?hr ?hp (fun _ hk => hk) trivial (Below.refl _ _) (Nat.le_refl _) (by simp) ?_; (case hd => rfl); (case hg => rfl); (case hr => first | (go_simp; done) | (go_simp; rfl)); (case hp => exact (Reps.none _ _))
   intro v w5 ho hb hg_ hnew_
   exact hK.out _ _ ⟨vK, aK, vJ, aJ, vL, aL, vS, aS, v, aU, gx, m, (by rw [ha.out]; exact putSel_upk 28 hb_ rfl rfl rfl), HI.litU hb (Kd.R_lower ho HI.bel.size) hnew_ (hoff 44 (by kernel_rfl)) (hoff 45 (by kernel_rfl)) (hoff 47 (by kernel_rfl))⟩
  refine steps_cons ?_ ?_
  ·
   rintro b a w' ⟨vK, aK, vJ, aJ, vL, aL, vS, aS, vU, aU, gx, m, ha, HI⟩ hb_ hon hoff
   refine ⟨_, rfl, fun K_ hK => ?_⟩
   have e42 : a.tmps[42]? = some (.pointer (some ⟨gp, 4, none⟩)) := by rw [ha]; exact (putSel_off rfl).trans rfl
   replace ha := Aside0.mk ha
   have hc_ : w'.cell? ⟨gp, 4, none⟩ = some (.slice AU U.length cU) := (blk_cell ((HI.bel.block gp (blk_lt HP.out)).trans HP.out) 4).trans rfl
   refine value_ (w1 := w') (v := .slice AU U.length cU) (by rfl) rfl ?_ ?_
   ·
    go_simp
    (try simp only [i64_w])
    try rfl
   exact hK.out _ _ ⟨vK, aK, vJ, aJ, vL, aL, vS, aS, vU, aU, gx, m, (by rw [ha.out]; exact putSel_upk 29 hb_ rfl rfl rfl), HI.skip 38 rfl⟩
  refine steps_cons ?_ ?_
  ·
   rintro b a w' ⟨vK, aK, vJ, aJ, vL, aL, vS, aS, vU, aU, gx, m, ha, HI⟩ hb_ hon hoff
   refine ⟨_, rfl, fun K_ hK => ?_⟩
   have e44 : a.tmps[44]? = some (.pointer (some ⟨gp, 4, none⟩)) := by rw [ha]; exact (putSel_off rfl).trans rfl
   replace ha := Aside0.mk ha
   have hc_ : w'.cell? ⟨gp, 4, none⟩ = some (.slice AU U.length cU) := (blk_cell ((HI.bel.block gp (blk_lt HP.out)).trans HP.out) 4).trans rfl
   refine value_ (w1 := w') (v := .slice AU U.length cU) (by rfl) rfl ?_ ?_
   ·
    go_simp
    (try simp only [i64_w])
    try rfl
   exact hK.out _ _ ⟨vK, aK, vJ, aJ, vL, aL, vS, aS, vU, aU, gx, m, (by rw [ha.out]; exact putSel_upk 30 hb_ rfl rfl rfl), HI.skip 40 rfl⟩
  refine steps_cons ?_ ?_
  ·
   rintro b a w' ⟨vK, aK, vJ, aJ, vL, aL, vS, aS, vU, aU, gx, m, ha, HI⟩ hb_ hon hoff
   refine ⟨_, rfl, fun K_ hK => ?_⟩
   have e45 : a.tmps[45]? = some (.slice AU U.length cU) := by rw [ha]; exact putSel_on (e := (40, 45, .slice AU U.length cU)) 30 rfl rfl (hon 40 (by kernel_rfl)) rfl
   replace ha := Aside0.mk ha
   refine value_ (w1 := w') (v := .int .i64 (U.length : Int)) (by rfl) rfl ?_ ?_
   ·
    go_simp
    (try simp only [i64_w])
    try rfl
   exact hK.out _ _ ⟨vK, aK, vJ, aJ, vL, aL, vS, aS, vU, aU, gx, m, (by rw [ha.out]; exact putSel_upk 31 hb_ rfl rfl rfl), HI.skip 41 rfl⟩
  refine steps_cons ?_ ?_
  ·
   rintro b a w' ⟨vK, aK, vJ, aJ, vL, aL, vS, aS, vU, aU, gx, m, ha, HI⟩ hb_ hon hoff
   refine ⟨_, rfl, fun K_ hK => ?_⟩
   have e46 : a.tmps[46]? = some (.int .i64 (U.length : Int)) := by rw [ha]; exact putSel_on (e := (41, 46, .int .i64 (U.length : Int))) 31 rfl rfl (hon 41 (by kernel_rfl)) rfl
   replace ha := Aside0.mk ha
   refine value_ (w1 := w') (v := .int .i64 (TU.length : Int)) (by rfl) rfl ?_ ?_
   ·
    go_simp
    (try simp only [i64_w])
    try rfl
   exact hK.out _ _ ⟨vK, aK, vJ, aJ, vL, aL, vS, aS, vU, aU, gx, m, (by rw [ha.out]; exact putSel_upk 32 hb_ rfl rfl rfl), HI.skip 42 rfl⟩
  refine steps_cons ?_ ?_
  ·
   rintro b a w' ⟨vK, aK, vJ, aJ, vL, aL, vS, aS, vU, aU, gx, m, ha, HI⟩ hb_ hon hoff
   refine ⟨_, rfl, fun K_ hK => ?_⟩
   have e43 : a.tmps[43]? = some (.slice AU U.length cU) := by rw [ha]; exact putSel_on (e := (38, 43, .slice AU U.length cU)) 29 rfl rfl (hon 38 (by kernel_rfl)) rfl
   have e47 : a.tmps[47]? = some (.int .i64 (TU.length : Int)) := by rw [ha]; exact putSel_on (e := (42, 47, .int .i64 (TU.length : Int))) 32 rfl rfl (hon 42 (by kernel_rfl)) rfl
   replace ha := Aside0.mk ha
   refine value_ (w1 := w') (v := .slice AU TU.length cU) (by rfl) rfl ?_ ?_
   ·
    go_simp
    (try simp only [i64_w])
    try rfl
   exact hK.out _ _ ⟨vK, aK, vJ, aJ, vL, aL, vS, aS, vU, aU, gx, m, (by rw [ha.out]; exact putSel_upk 33 hb_ rfl rfl rfl), HI.skip 43 rfl⟩
  refine steps_cons ?_ ?_
  ·
   rintro b a w' ⟨vK, aK, vJ, aJ, vL, aL, vS, aS, vU, aU, gx, m, ha, HI⟩ hb_ hon hoff
   refine ⟨_, rfl, fun K_ hK => ?_⟩
   have e41 : a.tmps[41]? = some (vU) := by rw [ha]; exact putSel_on (e := (36, 41, vU)) 28 rfl rfl (hon 36 (by kernel_rfl)) rfl
   have e48 : a.tmps[48]? = some (.slice AU TU.length cU) := by rw [ha]; exact putSel_on (e := (43, 48, .slice AU TU.length cU)) 33 rfl rfl (hon 43 (by kernel_rfl)) rfl
   replace ha := Aside0.mk ha
   refine Kd.R_append_rows_step Kd.bool (w0 := W) W.heap.size (by rfl) (.tmp 41) (.tmp 48) 25 4 (.bool false) 1 rfl Try.underlying25 info4 rfl (by decide) (by omega) vU [] TU _ _ _ (fun _ => True) (fun _ => False) (by first | rfl | exact ev_of e41) (by first | rfl | exact ev_of e48) (HI.U.1 (hon 36 (by kernel_rfl)) hb_) (Kd.C_below HDU.out HI.bel) (fun _ _ h => h) (fun _ h => h.elim) (fun _ _ => trivial) HI.bel HI.bel.size (by simp only [List.length_nil]; omega) ?_
   intro v w5 ho hb hg hat
   rw [List.nil_append] at ho
   exact hK.out _ _ ⟨vK, aK, vJ, aJ, vL, aL, vS, aS, vU, v, gx, m, (by rw [ha.out]; exact putSel_upk 34 hb_ rfl rfl rfl), HI.appU (hon 36 (by kernel_rfl)) hb_ hb hg hat ho (hoff 45 (by kernel_rfl)) (hoff 47 (by kernel_rfl))⟩
  refine steps_cons ?_ ?_
  ·
   rintro b a w' ⟨vK, aK, vJ, aJ, vL, aL, vS, aS, vU, aU, gx, m, ha, HI⟩ hb_ hon hoff
   refine ⟨_, rfl, fun K_ hK => ?_⟩
   obtain ⟨AK', cK', e_⟩ := Kd.R_slice (HI.K.2 (hon 8 (by kernel_rfl))); subst e_
   obtain ⟨AJ', cJ', e_⟩ := Kd.R_slice (HI.J.2 (hon 17 (by kernel_rfl))); subst e_
   obtain ⟨AL', cL', e_⟩ := Kd.R_slice (HI.L.2 (hon 26 (by kernel_rfl))); subst e_
   obtain ⟨AS', cS', e_⟩ := Kd.R_slice (HI.S.2 (hon 35 (by kernel_rfl))); subst e_
   obtain ⟨AU', cU', e_⟩ := Kd.R_slice (HI.U.2 (hon 44 (by kernel_rfl))); subst e_
   have e13 : a.tmps[13]? = some (.slice AK' TK.length cK') := by rw [ha]; exact putSel_on (e := (8, 13, .slice AK' TK.length cK')) 6 rfl rfl (hon 8 (by kernel_rfl)) rfl
   have e22 : a.tmps[22]? = some (.slice AJ' TJ.length cJ') := by rw [ha]; exact putSel_on (e := (17, 22, .slice AJ' TJ.length cJ')) 13 rfl rfl (hon 17 (by kernel_rfl)) rfl
   have e31 : a.tmps[31]? = some (.slice AL' TL.length cL') := by rw [ha]; exact putSel_on (e := (26, 31, .slice AL' TL.length cL')) 20 rfl rfl (hon 26 (by kernel_rfl)) rfl
   have e40 : a.tmps[40]? = some (.slice AS' TS.length cS') := by rw [ha]; exact putSel_on (e := (35, 40, .slice AS' TS.length cS')) 27 rfl rfl (hon 35 (by kernel_rfl)) rfl
   have e49 : a.tmps[49]? = some (.slice AU' TU.length cU') := by rw [ha]; exact putSel_on (e := (44, 49, .slice AU' TU.length cU')) 34 rfl rfl (hon 44 (by kernel_rfl)) rfl
   replace ha := Aside0.mk ha
   refine value_ (w1 := w') (v := .agg #[.slice AK' TK.length cK', .slice AJ' TJ.length cJ', .slice AL' TL.length cL', .slice AS' TS.length cS', .slice AU' TU.length cU']) (by rfl) rfl ?_ ?_
   ·
    go_simp
    (try simp only [i64_w])
    try rfl
   exact hK.out _ _ ⟨vK, .slice AK' TK.length cK', vJ, .slice AJ' TJ.length cJ', vL, .slice AL' TL.length cL', vS, .slice AS' TS.length cS', vU, .slice AU' TU.length cU', gx, .agg #[.slice AK' TK.length cK', .slice AJ' TJ.length cJ', .slice AL' TL.length cL', .slice AS' TS.length cS', .slice AU' TU.length cU'], (by rw [ha.out]; exact putSel_upk 35 hb_ rfl rfl rfl), HI.build⟩
  refine steps_cons ?_ ?_
  ·
   rintro b a w' ⟨vK, aK, vJ, aJ, vL, aL, vS, aS, vU, aU, gx, m, ha, HI⟩ hb_ hon hoff
   refine ⟨_, rfl, fun K_ hK => ?_⟩
   replace ha := Aside0.mk ha
   refine box_step ?hg (N := 3) ?hd (cs := #[.slice none 0 0, .slice none 0 0, .slice none 0 0, .slice none 0 0, .slice none 0 0]) (t := 27) ?hr ?_; (case hd => rfl); (case hg => rfl); (case hr => first | (go_simp; done) | (go_simp; rfl))
   intro g hg w5 hbox hb
   exact hK.out _ _ ⟨vK, aK, vJ, aJ, vL, aL, vS, aS, vU, aU, g, m, (by rw [ha.out]; exact putSel_upk 36 hb_ rfl rfl rfl), HI.box hb hg hbox (hoff 47 (by kernel_rfl))⟩
  refine steps_cons ?_ ?_
  ·
   rintro b a w' ⟨vK, aK, vJ, aJ, vL, aL, vS, aS, vU, aU, gx, m, ha, HI⟩ hb_ hon hoff
   refine ⟨_, rfl, fun K_ hK => ?_⟩
   obtain ⟨AK', cK', e_⟩ := Kd.R_slice (HI.K.2 (hon 8 (by kernel_rfl))); subst e_
   obtain ⟨AJ', cJ', e_⟩ := Kd.R_slice (HI.J.2 (hon 17 (by kernel_rfl))); subst e_
   obtain ⟨AL', cL', e_⟩ := Kd.R_slice (HI.L.2 (hon 26 (by kernel_rfl))); subst e_
   obtain ⟨AS', cS', e_⟩ := Kd.R_slice (HI.S.2 (hon 35 (by kernel_rfl))); subst e_
   obtain ⟨AU', cU', e_⟩ := Kd.R_slice (HI.U.2 (hon 44 (by kernel_rfl))); subst e_
   have e50 : a.tmps[50]? = some (m) := by rw [ha]; exact putSel_on (e := (45, 50, m)) 35 rfl rfl (hon 45 (by kernel_rfl)) rfl
   have e3 : a.tmps[3]? = some (.pointer (some ⟨gx, 0, none⟩)) := by rw [ha]; exact putSel_on (e := (46, 3, .pointer (some ⟨gx, 0, none⟩))) 36 rfl rfl (hon 46 (by kernel_rfl)) rfl
   rw [HI.M (hon 45 (by kernel_rfl))] at e50
   replace ha := Aside0.mk ha
   have hs0 : w'.cell? ⟨gx, 0, none⟩ = some (.slice none 0 0) := (blk_cell (HI.X0 (hon 46 (by kernel_rfl)) hb_) 0).trans rfl
   have hf0 := blk_frozen (HI.X0 (hon 46 (by kernel_rfl)) hb_) 0
   have hs1 : w'.cell? ⟨gx, 1, none⟩ = some (.slice none 0 0) := (blk_cell (HI.X0 (hon 46 (by kernel_rfl)) hb_) 1).trans rfl
   have hf1 := blk_frozen (HI.X0 (hon 46 (by kernel_rfl)) hb_) 1
   have hs2 : w'.cell? ⟨gx, 2, none⟩ = some (.slice none 0 0) := (blk_cell (HI.X0 (hon 46 (by kernel_rfl)) hb_) 2).trans rfl
   have hf2 := blk_frozen (HI.X0 (hon 46 (by kernel_rfl)) hb_) 2
   have hs3 : w'.cell? ⟨gx, 3, none⟩ = some (.slice none 0 0) := (blk_cell (HI.X0 (hon 46 (by kernel_rfl)) hb_) 3).trans rfl
   have hf3 := blk_frozen (HI.X0 (hon 46 (by kernel_rfl)) hb_) 3
   have hs4 : w'.cell? ⟨gx, 4, none⟩ = some (.slice none 0 0) := (blk_cell (HI.X0 (hon 46 (by kernel_rfl)) hb_) 4).trans rfl
   have hf4 := blk_frozen (HI.X0 (hon 46 (by kernel_rfl)) hb_) 4
   refine skip_ (w1 := ?_) (by rfl) rfl ?_ ?_
   rotate_left
   ·
    go_simp
    rfl
   exact hK.out _ _ ⟨vK, .slice AK' TK.length cK', vJ, .slice AJ' TJ.length cJ', vL, .slice AL' TL.length cL', vS, .slice AS' TS.length cS', vU, .slice AU' TU.length cU', gx, m, (by rw [ha.out]; exact putSel_none (v := undef) rfl), HI.store (hon 8 (by kernel_rfl)) (hon 17 (by kernel_rfl)) (hon 26 (by kernel_rfl)) (hon 35 (by kernel_rfl)) (hon 44 (by kernel_rfl)) (hon 46 (by kernel_rfl)) hb_ (hon 0 (by kernel_rfl)) (hon 9 (by kernel_rfl)) (hon 18 (by kernel_rfl))⟩
  exact steps_nil
 rintro b a w5 hall ⟨vK, aK, vJ, aJ, vL, aL, vS, aS, vU, aU, gx, m, ha, HI⟩
 have hb0_ := hall 0 (by kernel_rfl)
 have hb2_ := hall 2 (by kernel_rfl)
 have hb4_ := hall 4 (by kernel_rfl)
 have hb5_ := hall 5 (by kernel_rfl)
 have hb6_ := hall 6 (by kernel_rfl)
 have hb7_ := hall 7 (by kernel_rfl)
 have hb8_ := hall 8 (by kernel_rfl)
 have hb9_ := hall 9 (by kernel_rfl)
 have hb11_ := hall 11 (by kernel_rfl)
 have hb13_ := hall 13 (by kernel_rfl)
 have hb14_ := hall 14 (by kernel_rfl)
 have hb15_ := hall 15 (by kernel_rfl)
 have hb16_ := hall 16 (by kernel_rfl)
 have hb17_ := hall 17 (by kernel_rfl)
 have hb18_ := hall 18 (by kernel_rfl)
 have hb20_ := hall 20 (by kernel_rfl)
 have hb22_ := hall 22 (by kernel_rfl)
 have hb23_ := hall 23 (by kernel_rfl)
 have hb24_ := hall 24 (by kernel_rfl)
 have hb25_ := hall 25 (by kernel_rfl)
 have hb26_ := hall 26 (by kernel_rfl)
 have hb27_ := hall 27 (by kernel_rfl)
 have hb29_ := hall 29 (by kernel_rfl)
 have hb31_ := hall 31 (by kernel_rfl)
 have hb32_ := hall 32 (by kernel_rfl)
 have hb33_ := hall 33 (by kernel_rfl)
 have hb34_ := hall 34 (by kernel_rfl)
 have hb35_ := hall 35 (by kernel_rfl)
 have hb36_ := hall 36 (by kernel_rfl)
 have hb38_ := hall 38 (by kernel_rfl)
 have hb40_ := hall 40 (by kernel_rfl)
 have hb41_ := hall 41 (by kernel_rfl)
 have hb42_ := hall 42 (by kernel_rfl)
 have hb43_ := hall 43 (by kernel_rfl)
 have hb44_ := hall 44 (by kernel_rfl)
 have hb45_ := hall 45 (by kernel_rfl)
 have hb46_ := hall 46 (by kernel_rfl)
 have hb47_ := hall 47 (by kernel_rfl)
 obtain rfl := HI.M hb45_
 obtain ⟨AK', cK', e_⟩ := Kd.R_slice (HI.K.2 hb8_); subst e_
 obtain ⟨AJ', cJ', e_⟩ := Kd.R_slice (HI.J.2 hb17_); subst e_
 obtain ⟨AL', cL', e_⟩ := Kd.R_slice (HI.L.2 hb26_); subst e_
 obtain ⟨AS', cS', e_⟩ := Kd.R_slice (HI.S.2 hb35_); subst e_
 obtain ⟨AU', cU', e_⟩ := Kd.R_slice (HI.U.2 hb44_); subst e_
 subst ha
 simp only [putSel, hb0_, hb2_, hb4_, hb5_, hb6_, hb7_, hb8_, hb9_, hb11_, hb13_, hb14_, hb15_, hb16_, hb17_, hb18_, hb20_, hb22_, hb23_, hb24_, hb25_, hb26_, hb27_, hb29_, hb31_, hb32_, hb33_, hb34_, hb35_, hb36_, hb38_, hb40_, hb41_, hb42_, hb43_, hb44_, hb45_, hb46_, hb47_, if_true, Act.put, List.setIfInBounds_toArray, List.set_cons_zero, List.set_cons_succ]
 have hKr := HI.K.2 hb8_
 have HX := Aside0.mk (HI.X1 hb47_)
 have HJ := Aside0.mk (HI.J.2 hb17_)
 have HL := Aside0.mk (HI.L.2 hb26_)
 have HS := Aside0.mk (HI.S.2 hb35_)
 have HU := Aside0.mk (HI.U.2 hb44_)
 have hsu := HI.SU (HI.oS hb35_) (HI.oU hb44_)
 unfold cur at hsu
 rw [hb35_, hb44_, if_pos rfl, if_pos rfl] at hsu
 have HSU := Aside0.mk hsu
 have HBL := Aside0.mk HI.bel
 have hgx := HI.X hb46_
 have HKr := Aside0.mk hKr
 clear hKr hsu HI hall hb0_ hb2_ hb4_ hb5_ hb6_ hb7_ hb8_ hb9_ hb11_ hb13_ hb14_ hb15_ hb16_ hb17_ hb18_ hb20_ hb22_ hb23_ hb24_ hb25_ hb26_ hb27_ hb29_ hb31_ hb32_ hb33_ hb34_ hb35_ hb36_ hb38_ hb40_ hb41_ hb42_ hb43_ hb44_ hb45_ hb46_ hb47_ hcutK hjK hlK hnK hcK hcutJ hjJ hlJ hnJ hcJ hcutL hjL hlL hnL hcL hcutS hjS hlS hnS hcS hcutU hjU hlU hnU hcU
 have HL0 : Aside0 (FewL W w5 TK TJ TL TS TU 0 gx (.slice AK' TK.length cK') (.slice AJ' TJ.length cJ') (.slice AL' TL.length cL') (.slice AS' TS.length cS') (.slice AU' TU.length cU')) := ⟨⟨HBL.out, HX.out, hgx, by rw [List.take_zero, List.map_nil, List.nil_append, List.drop_zero]; exact HKr.out, HJ.out, HL.out, HS.out, HU.out, HSU.out⟩⟩
 clear HKr HX HJ HL HS HU HSU HBL
 have hz0 : w5.cell? ⟨gx, 0, none⟩ = some (.slice AK' TK.length cK') := (blk_cell HL0.out.X 0).trans rfl
 clear hz0
 go_wp2_with fail
 go_loopw [4] (fun v4 wr => ∃ k : Nat, k ≤ TK.length ∧ v4 = .int .i64 k ∧ Aside0 (FewL W wr TK TJ TL TS TU k gx (.slice AK' TK.length cK') (.slice AJ' TJ.length cJ') (.slice AL' TL.length cL') (.slice AS' TS.length cS') (.slice AU' TU.length cU'))) (fun v4 _ => TK.length - (intOf v4).toNat)
 case atStart => exact ⟨0, Nat.zero_le _, rfl, HL0⟩
 case round =>
  clear HL0
  obtain ⟨k, hk, rfl, HI⟩ := hrel
  have z0 : wr.cell? ⟨gx, 0, none⟩ = some (.slice AK' TK.length cK') := (blk_cell HI.out.X 0).trans rfl
  by_cases hlt : k < TK.length
  ·
   skip
   obtain ⟨gk, ck, e_, hgk⟩ := HI.out.form hlt
   injection e_ with e1 e2 e3
   subst e1
   subst e3
   clear e2
   obtain ⟨X, hX⟩ : ∃ X, X = (TK.getD k z56) := ⟨_, rfl⟩
   obtain ⟨hs0, hf0, hnx⟩ := HI.out.name hlt
   rw [← hX] at hs0 hnx
   obtain ⟨m60, hm60⟩ : ∃ m, m = min X.f2.size 60 := ⟨_, rfl⟩
   have hj60 : (if 60 < (X.f2.size : Int) then 60 else (X.f2.size : Int)) = (m60 : Int) := by rw [hm60]; split <;> omega
   have hm0 : m60 ≤ X.f2.size := by omega
   have HNX := Aside0.mk hnx
   have HM60 := Aside0.mk hm60
   clear hX hnx hm60
   have zx : wr.drew.cell? ⟨gx, 0, none⟩ = some (.slice (some ⟨gk, 0, none⟩) TK.length cK') := z0
   have zs : wr.drew.cell? ⟨gk, k * 3 + 2, none⟩ = some (.string X.f2) := hs0
   have hfz : wr.drew.frozen? ⟨gk, k * 3 + 2, none⟩ = false := hf0
   go_upto_region 5 with fail
   refine start_ (n := 21) (S := fun w' => w'.cell? ⟨gx, 0, none⟩ = some (.slice (some ⟨gk, 0, none⟩) TK.length cK') ∧ w'.cell? ⟨gk, k * 3 + 2, none⟩ = some (.string X.f2)) (ds := [20]) #[false, false, false, false, false, false, false, false, false, false, false, false, false, false, false, false, false, false, false, false, false] (by kernel_rfl) rfl rfl ⟨zx, zs⟩ (fun hHeld => ?_); refine with_tabW few18.tab5 few18.bits5 (fun HT_ HW_ => ?_)
   refine pure_ (i := 0) (N := some 58) (v := ?_) (a' := ?_) #[true, false, false, false, false, false, false, false, false, false, false, false, false, false, false, false, false, false, false, false, false] rfl rfl (any_of HT_.out (by kernel_rfl)) (fun _ _ _ h => h) (Or.inl ⟨by rfl, ?_⟩) ?_ ?_
   rotate_left
   ·
    intro w'
    go_simp
    with_reducible rfl
   rotate_left
   ·
    simp only [Act.put, List.setIfInBounds_toArray, List.set_cons_zero, List.set_cons_succ, i64_w, i32_w]
    rfl
   refine pure_ (i := 2) (N := some 60) (v := ?_) (a' := ?_) #[true, false, true, false, false, false, false, false, false, false, false, false, false, false, false, false, false, false, false, false, false] rfl rfl (any_of HT_.out (by kernel_rfl)) (fun _ _ _ h => h) (Or.inl ⟨by rfl, ?_⟩) ?_ ?_
   rotate_left
   ·
    intro w'
    go_simp
    with_reducible rfl
   rotate_left
   ·
    simp only [Act.put, List.setIfInBounds_toArray, List.set_cons_zero, List.set_cons_succ, i64_w, i32_w]
    rfl
   refine pure_ (i := 3) (N := some 61) (v := ?_) (a' := ?_) #[true, false, true, true, false, false, false, false, false, false, false, false, false, false, false, false, false, false, false, false, false] rfl rfl (any_of HT_.out (by kernel_rfl)) (fun _ _ _ h => h) (Or.inl ⟨by rfl, ?_⟩) ?_ ?_
   rotate_left
   ·
    intro w'
    go_simp
    with_reducible rfl
   rotate_left
   ·
    simp only [Act.put, List.setIfInBounds_toArray, List.set_cons_zero, List.set_cons_succ, i64_w, i32_w]
    rfl
   refine pure_ (i := 5) (N := some 63) (v := ?_) (a' := ?_) #[true, false, true, true, false, true, false, false, false, false, false, false, false, false, false, false, false, false, false, false, false] rfl rfl (any_of HT_.out (by kernel_rfl)) (fun _ _ _ h => h) (Or.inl ⟨by rfl, ?_⟩) ?_ ?_
   rotate_left
   ·
    intro w'
    go_simp
    with_reducible rfl
   rotate_left
   ·
    simp only [Act.put, List.setIfInBounds_toArray, List.set_cons_zero, List.set_cons_succ, i64_w, i32_w]
    rfl
   refine pure_ (i := 9) (N := some 67) (v := ?_) (a' := ?_) #[true, false, true, true, false, true, false, false, false, true, false, false, false, false, false, false, false, false, false, false, false] rfl rfl (any_of HT_.out (by kernel_rfl)) (fun _ _ _ h => h) (Or.inl ⟨by rfl, ?_⟩) ?_ ?_
   rotate_left
   ·
    intro w'
    go_simp
    with_reducible rfl
   rotate_left
   ·
    simp only [Act.put, List.setIfInBounds_toArray, List.set_cons_zero, List.set_cons_succ, i64_w, i32_w]
    rfl
   refine pure_ (i := 11) (N := some 69) (v := ?_) (a' := ?_) #[true, false, true, true, false, true, false, false, false, true, false, true, false, false, false, false, false, false, false, false, false] rfl rfl (any_of HT_.out (by kernel_rfl)) (fun _ _ _ h => h) (Or.inl ⟨by rfl, ?_⟩) ?_ ?_
   rotate_left
   ·
    intro w'
    go_simp
    with_reducible rfl
   rotate_left
   ·
    simp only [Act.put, List.setIfInBounds_toArray, List.set_cons_zero, List.set_cons_succ, i64_w, i32_w]
    rfl
   refine take_ (i := 1) (N := some 59) (v := ?_) (a' := ?_) #[true, true, true, true, false, true, false, false, false, true, false, true, false, false, false, false, false, false, false, false, false] rfl rfl (take_ofW HT_.out HW_.out (by kernel_rfl)) (fun _ _ _ h => h) (Or.inl ⟨by rfl, ?_⟩) hHeld ?_ ?_
   rotate_left
   ·
    rintro w' ⟨s0, s1⟩
    go_simp
    with_reducible rfl
   rotate_left
   ·
    simp only [Act.put, List.setIfInBounds_toArray, List.set_cons_zero, List.set_cons_succ, i64_w, i32_w]
    rfl
   refine take_ (i := 4) (N := some 62) (v := ?_) (a' := ?_) #[true, true, true, true, true, true, false, false, false, true, false, true, false, false, false, false, false, false, false, false, false] rfl rfl (take_ofW HT_.out HW_.out (by kernel_rfl)) (fun _ _ _ h => h) (Or.inl ⟨by rfl, ?_⟩) hHeld ?_ ?_
   rotate_left
   ·
    rintro w' ⟨s0, s1⟩
    go_simp
    with_reducible rfl
   rotate_left
   ·
    simp only [Act.put, List.setIfInBounds_toArray, List.set_cons_zero, List.set_cons_succ, i64_w, i32_w]
    rfl
   refine pure_ (i := 6) (N := some 64) (v := ?_) (a' := ?_) #[true, true, true, true, true, true, true, false, false, true, false, true, false, false, false, false, false, false, false, false, false] rfl rfl (any_of HT_.out (by kernel_rfl)) (fun _ _ _ h => h) (Or.inl ⟨by rfl, ?_⟩) ?_ ?_
   rotate_left
   ·
    intro w'
    go_simp
    with_reducible rfl
   rotate_left
   ·
    simp only [Act.put, List.setIfInBounds_toArray, List.set_cons_zero, List.set_cons_succ, i64_w, i32_w]
    rfl
   refine pure_ (i := 7) (N := some 65) (v := ?_) (a' := ?_) #[true, true, true, true, true, true, true, true, false, true, false, true, false, false, false, false, false, false, false, false, false] rfl rfl (any_of HT_.out (by kernel_rfl)) (fun _ _ _ h => h) (Or.inl ⟨by rfl, ?_⟩) ?_ ?_
   rotate_left
   ·
    intro w'
    go_simp
    with_reducible rfl
   rotate_left
   ·
    simp only [Act.put, List.setIfInBounds_toArray, List.set_cons_zero, List.set_cons_succ, i64_w, i32_w]
    rfl
   refine take_ (i := 8) (N := some 66) (v := ?_) (a' := ?_) #[true, true, true, true, true, true, true, true, true, true, false, true, false, false, false, false, false, false, false, false, false] rfl rfl (take_ofW HT_.out HW_.out (by kernel_rfl)) (fun _ _ _ h => h) (Or.inl ⟨by rfl, ?_⟩) hHeld ?_ ?_
   rotate_left
   ·
    rintro w' ⟨s0, s1⟩
    go_simp
    with_reducible rfl
   rotate_left
   ·
    simp only [Act.put, List.setIfInBounds_toArray, List.set_cons_zero, List.set_cons_succ, i64_w, i32_w]
    rfl
   refine take_ (i := 10) (N := some 68) (v := ?_) (a' := ?_) #[true, true, true, true, true, true, true, true, true, true, true, true, false, false, false, false, false, false, false, false, false] rfl rfl (take_ofW HT_.out HW_.out (by kernel_rfl)) (fun _ _ _ h => h) (Or.inl ⟨by rfl, ?_⟩) hHeld ?_ ?_
   rotate_left
   ·
    rintro w' ⟨s0, s1⟩
    go_simp
    with_reducible rfl
   rotate_left
   ·
    simp only [Act.put, List.setIfInBounds_toArray, List.set_cons_zero, List.set_cons_succ, i64_w, i32_w]
    rfl
   refine pure_ (i := 12) (N := some 70) (v := ?_) (a' := ?_) #[true, true, true, true, true, true, true, true, true, true, true, true, true, false, false, false, false, false, false, false, false] rfl rfl (any_of HT_.out (by kernel_rfl)) (fun _ _ _ h => h) (Or.inl ⟨by rfl, ?_⟩) ?_ ?_
   rotate_left
   ·
    intro w'
    go_simp
    with_reducible rfl
   rotate_left
   ·
    simp only [Act.put, List.setIfInBounds_toArray, List.set_cons_zero, List.set_cons_succ, i64_w, i32_w]
    rfl
   refine pure_ (i := 13) (N := some 71) (v := ?_) (a' := ?_) #[true, true, true, true, true, true, true, true, true, true, true, true, true, true, false, false, false, false, false, false, false] rfl rfl (any_of HT_.out (by kernel_rfl)) (fun _ _ _ h => h) (Or.inl ⟨by rfl, ?_⟩) ?_ ?_
   rotate_left
   ·
    intro w'
    go_simp
    with_reducible rfl
   rotate_left
   ·
    simp only [Act.put, List.setIfInBounds_toArray, List.set_cons_zero, List.set_cons_succ, i64_w, i32_w]
    rfl
   refine take_ (i := 14) (N := some 72) (v := ?_) (a' := ?_) #[true, true, true, true, true, true, true, true, true, true, true, true, true, true, true, false, false, false, false, false, false] rfl rfl (take_ofW HT_.out HW_.out (by kernel_rfl)) (fun _ _ _ h => h) (Or.inl ⟨by rfl, ?_⟩) hHeld ?_ ?_
   rotate_left
   ·
    rintro w' ⟨s0, s1⟩
    go_simp
    with_reducible rfl
   rotate_left
   ·
    simp only [Act.put, List.setIfInBounds_toArray, List.set_cons_zero, List.set_cons_succ, i64_w, i32_w]
    rfl
   refine pure_ (i := 15) (N := some 73) (v := ?_) (a' := ?_) #[true, true, true, true, true, true, true, true, true, true, true, true, true, true, true, true, false, false, false, false, false] rfl rfl (any_of HT_.out (by kernel_rfl)) (fun _ _ _ h => h) (Or.inl ⟨by rfl, ?_⟩) ?_ ?_
   rotate_left
   ·
    intro w'
    go_simp
    with_reducible rfl
   rotate_left
   ·
    simp only [Act.put, List.setIfInBounds_toArray, List.set_cons_zero, List.set_cons_succ, i64_w, i32_w]
    rfl
   refine pure_ (i := 16) (N := some 74) (v := ?_) (a' := ?_) #[true, true, true, true, true, true, true, true, true, true, true, true, true, true, true, true, true, false, false, false, false] rfl rfl (any_of HT_.out (by kernel_rfl)) (fun _ _ _ h => h) (Or.inl ⟨by rfl, ?_⟩) ?_ ?_
   rotate_left
   ·
    intro w'
    go_simp
    with_reducible rfl
   rotate_left
   ·
    simp only [Act.put, List.setIfInBounds_toArray, List.set_cons_zero, List.set_cons_succ, i64_w, i32_w]
    rfl
   refine pure_ (i := 17) (N := some 75) (v := ?_) (a' := ?_) #[true, true, true, true, true, true, true, true, true, true, true, true, true, true, true, true, true, true, false, false, false] rfl rfl (any_of HT_.out (by kernel_rfl)) (fun _ _ _ h => h) (Or.inl ⟨by rfl, ?_⟩) ?_ ?_
   rotate_left
   ·
    intro w'
    go_simp
    with_reducible rfl
   rotate_left
   ·
    simp only [Act.put, List.setIfInBounds_toArray, List.set_cons_zero, List.set_cons_succ, i64_w, i32_w]
    rfl
   refine pure_ (i := 18) (N := some 76) (v := ?_) (a' := ?_) #[true, true, true, true, true, true, true, true, true, true, true, true, true, true, true, true, true, true, true, false, false] rfl rfl (any_of HT_.out (by kernel_rfl)) (fun _ _ _ h => h) (Or.inl ⟨by rfl, ?_⟩) ?_ ?_
   rotate_left
   ·
    intro w'
    go_simp
    with_reducible rfl
   rotate_left
   ·
    simp only [Act.put, List.setIfInBounds_toArray, List.set_cons_zero, List.set_cons_succ, i64_w, i32_w]
    rfl
   refine pure_ (i := 19) (N := some 77) (v := ?_) (a' := ?_) #[true, true, true, true, true, true, true, true, true, true, true, true, true, true, true, true, true, true, true, true, false] rfl rfl (any_of HT_.out (by kernel_rfl)) (fun _ _ _ h => h) (Or.inl ⟨by rfl, ?_⟩) ?_ ?_
   rotate_left
   ·
    intro w'
    go_simp
    with_reducible rfl
   rotate_left
   ·
    simp only [Act.put, List.setIfInBounds_toArray, List.set_cons_zero, List.set_cons_succ, i64_w, i32_w]
    rfl
   refine last_ (i := 20) (N := none) #[true, true, true, true, true, true, true, true, true, true, true, true, true, true, true, true, true, true, true, true, true] rfl rfl (one_of HT_.out (by kernel_rfl)) (by decide) (fun K hK => ?_)
   refine skip_ (w1 := ?_) (by rfl) rfl ?_ ?_
   rotate_left
   ·
    go_simp
    rfl
   refine hK.out _ _ ?_
   clear hK K
   refine done_ (done_of HT_.out (by kernel_rfl)) ?_
   go_wp2_with fail
   go_roundw
   case rel => exact ⟨k + 1, by omega, by go_num, ⟨HNX.out _ (by rw [HM60.out])⟩⟩
   case measure => simp [intOf]; omega
  ·
   skip
   obtain rfl : k = TK.length := by omega
   have zx0 : wr.cell? ⟨gx, 0, none⟩ = some (.slice AK' TK.length cK') := (blk_cell HI.out.X 0).trans rfl
   have zx1 : wr.cell? ⟨gx, 1, none⟩ = some (.slice AJ' TJ.length cJ') := (blk_cell HI.out.X 1).trans rfl
   have zx2 : wr.cell? ⟨gx, 2, none⟩ = some (.slice AL' TL.length cL') := (blk_cell HI.out.X 2).trans rfl
   have zx3 : wr.cell? ⟨gx, 3, none⟩ = some (.slice AS' TS.length cS') := (blk_cell HI.out.X 3).trans rfl
   have zx4 : wr.cell? ⟨gx, 4, none⟩ = some (.slice AU' TU.length cU') := (blk_cell HI.out.X 4).trans rfl
   have hR := Aside0.mk ((HI.out.bel.block gr (blk_lt HR.out)).trans HR.out)
   have zr0 : wr.cell? ⟨gr, 0, none⟩ = some (.slice none 0 0) := (blk_cell hR.out 0).trans rfl
   have fr0 := blk_frozen hR.out 0
   have zr1 : wr.cell? ⟨gr, 1, none⟩ = some (.slice none 0 0) := (blk_cell hR.out 1).trans rfl
   have fr1 := blk_frozen hR.out 1
   have zr2 : wr.cell? ⟨gr, 2, none⟩ = some (.slice none 0 0) := (blk_cell hR.out 2).trans rfl
   have fr2 := blk_frozen hR.out 2
   have zr3 : wr.cell? ⟨gr, 3, none⟩ = some (.slice none 0 0) := (blk_cell hR.out 3).trans rfl
   have fr3 := blk_frozen hR.out 3
   have zr4 : wr.cell? ⟨gr, 4, none⟩ = some (.slice none 0 0) := (blk_cell hR.out 4).trans rfl
   have fr4 := blk_frozen hR.out 4
   clear z0 hlt hk
   go_wp2_with fail
   refine bodyPost_ret (v := .agg #[.slice AK' TK.length cK', .slice AJ' TJ.length cJ', .slice AL' TL.length cL', .slice AS' TS.length cS', .slice AU' TU.length cU']) (by simp [results, Try.results18, go_sem, zr0, zr1, zr2, zr3, zr4]) rfl ?_
   exact HI.out.fin HW.out HTK.out HTJ.out HTL.out HTS.out HTU.out hgr hR.out
end Go.Proofs.Ytdcgclhmfflheaa.PQ
