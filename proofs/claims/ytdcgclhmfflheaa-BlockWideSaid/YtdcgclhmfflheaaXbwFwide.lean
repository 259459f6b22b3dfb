import Derived.Test.YtdcgclhmfflheaaXbwLwide
import Derived.Test.YtdcgclhmfflheaaXbwFsh
import Derived.Test.YtdcgclhmfflheaaXbwPQe0
import Derived.IntWalk
namespace Go.Proofs.Ytdcgclhmfflheaa.PQ
open Go.RowKit Go.Proofs.YtdcgclhmfflheaaW.PrintWords Go.Proofs.YtdcgclhmfflheaaW.PrintLast Go.Proofs.YtdcgclhmfflheaaW.PrintMore
set_option linter.unusedVariables false
set_option linter.unusedSimpArgs false
attribute [local go_sem high] eqA35
def blockWide.T10 : Bool × List (List Nat × List Nat) := (true, [([], []), ([0], [0]), ([1], [1]), ([2, 1], [1, 2]), ([1, 3], [1, 3]), ([4, 1], [4]), ([5], [5]), ([6, 5], [5, 6]), ([5, 7], [5, 7]), ([8, 5], [8]), ([9], [9]), ([9], [9]), ([10, 11, 9], [9, 10, 11]), ([9, 12], [9, 12]), ([13, 9], [13]), ([14], [14]), ([15, 14], [14, 15]), ([14], [14]), ([17, 14], [14, 17]), ([14], [14]), ([19, 14], [14, 19]), ([20, 14], [14, 20]), ([21, 14], [14, 21]), ([18, 22, 14], [14, 18, 22]), ([14], [14]), ([24, 14], [14, 24]), ([25, 14], [14, 25]), ([26, 14], [14, 26]), ([23, 27, 14], [14, 23, 27]), ([16, 28, 14], [14, 16, 28]), ([14, 29], [14, 29]), ([30, 14], [30]), ([31], [31]), ([32, 31], [31, 32]), ([31, 33], [31, 33]), ([34, 31], [34]), ([35], [35]), ([36, 35], [35, 36]), ([35, 37], [35, 37]), ([38, 35], [38]), ([39], [39]), ([40, 39, 39], [39, 40]), ([39], [39]), ([42, 41, 39], [39, 42]), ([41, 43, 43, 39], [39, 41, 43]), ([39, 44], [39, 44]), ([45, 44, 0, 1, 2, 3, 4, 5, 6, 7, 8, 9, 10, 11, 12, 13, 14, 15, 16, 17, 18, 19, 20, 21, 22, 23, 24, 25, 26, 27, 28, 29, 30, 31, 32, 33, 34, 35, 36, 37, 38, 39, 40, 41, 42, 43, 44, 45], [45])])
def blockWide.B10 : List Nat := [0, 1, 3, 7, 15, 31, 63, 127, 255, 511, 1023, 1023, 4095, 8191, 16383, 32767, 65535, 32767, 163839, 32767, 557055, 1605631, 3702783, 8290303, 32767, 16809983, 50364415, 117473279, 268337151, 536870911, 1073741823, 2147483647, 4294967295, 8589934591, 17179869183, 34359738367, 68719476735, 137438953471, 274877906943, 549755813887, 1099511627775, 2199023255551, 1099511627775, 8796093022207, 17592186044415, 35184372088831, 70368744177663]
theorem blockWide.tab10 : rtab .any (opsOf Try.f6 10) = blockWide.T10 := by kernel_rfl
theorem blockWide.bits10 : waitsOk blockWide.T10.2 blockWide.B10 = true := by kernel_rfl
set_option maxHeartbeats 40000000 in
set_option maxRecDepth 100000 in
theorem blockWide_walk (AK : Option Addr) (cK : Nat) (K : List S56) (AJ : Option Addr) (cJ : Nat) (J : List S54) (AL : Option Addr) (cL : Nat) (L : List S87) (AS : Option Addr) (cS : Nat) (S : List Bool) (AU : Option Addr) (cU : Nat) (U : List Bool) (a1 : Int) (w : World) (hB : InB w AK cK K AJ cJ J AL cL L AS cS S AU cU U) :
  Calls Try.prog 6 #[.agg #[.slice AK K.length cK, .slice AJ J.length cJ, .slice AL L.length cL, .slice AS S.length cS, .slice AU U.length cU], .int .i64 a1] w fun e w' => e = .returned (.bool true) ∧ Below w.heap.size w w' := by
 have hu27 := Try.underlying27
 have hu35 := Try.underlying35
 obtain ⟨v, hv1, hv4, hv, hv'⟩ := version_of a1
 obtain ⟨K', J', L', S', U', hc⟩ : ∃ K' J' L' S' U', CutOf K J L S U K' J' L' S' U' := ⟨_, _, _, _, _, rfl, rfl, rfl, rfl, rfl⟩
 have CB := Aside0.mk (cut_bd hB hc)
 have HC := Aside0.mk hc
 have BP := Aside0.mk hB.blk
 clear hB hc hv'
 obtain ⟨r, hr⟩ : ∃ r, r = rightS K' J' L' S' U' 4 v := ⟨_, rfl⟩
 have HRF : Aside0 (block_Right.f 2000 K' J' L' S' U' 4 v = some r) := ⟨by rw [hr]; have b := CB.out; exact right_eq 2000 K' J' L' S' U' 4 v (by have := b.room; omega) (by have := b.lJ; omega) (by have := b.lL; omega) (by have := b.lK; have := b.lJ; have := b.lL; omega)⟩
 have HR := Aside0.mk hr
 clear hr
 go_enter Try.func6, Try.ntmps6
 go_upto_region 3 with (first | ((with_reducible refine gate_dst (N := 2) rfl ?_); refine box_event ?hg2 (N := 2) ?hd2 (cs := #[.slice AK K.length cK, .slice AJ J.length cJ, .slice AL L.length cL, .slice AS S.length cS, .slice AU U.length cU]) (t := 27) ?hr2 ?_; (case hd2 => rfl); (case hg2 => rfl); (case hr2 => first | (go_simp; done) | (go_simp; rfl)); intro gx gxE w1 gxH hb; have BEL := Aside0.mk hb; have n_BP := Aside0.mk (BP.out.below hb); clear BP; have BP := n_BP; clear n_BP; have GX := Aside0.mk gxH; have GE := Aside0.mk (Nat.le_of_eq gxE.symm); clear gxE gxH hb) | (go_at_call 17; refine (longcaselaw06_shown.calls true _ rfl).mono ?_; rintro e w2 ⟨rfl, hb⟩; have n_BEL := Aside0.mk (BEL.out.trans (hb.mono BEL.out.size)); have n_BP := Aside0.mk (BP.out.below hb); have n_GX := Aside0.mk ((hb.block _ (blk_lt GX.out)).trans GX.out); clear BEL; have BEL := n_BEL; clear n_BEL; clear BP; have BP := n_BP; clear n_BP; clear GX; have GX := n_GX; clear n_GX; clear hb; have zx0 : w2.cell? ⟨gx, 0, none⟩ = some (.slice AK K.length cK) := (blk_cell GX.out 0).trans rfl; have fx0 := blk_frozen GX.out 0; have zx1 : w2.cell? ⟨gx, 1, none⟩ = some (.slice AJ J.length cJ) := (blk_cell GX.out 1).trans rfl; have fx1 := blk_frozen GX.out 1; have zx2 : w2.cell? ⟨gx, 2, none⟩ = some (.slice AL L.length cL) := (blk_cell GX.out 2).trans rfl; have fx2 := blk_frozen GX.out 2; have zx3 : w2.cell? ⟨gx, 3, none⟩ = some (.slice AS S.length cS) := (blk_cell GX.out 3).trans rfl; have fx3 := blk_frozen GX.out 3; have zx4 : w2.cell? ⟨gx, 4, none⟩ = some (.slice AU U.length cU) := (blk_cell GX.out 4).trans rfl; have fx4 := blk_frozen GX.out 4) | (go_at_call 18; refine (few_blk BP.out HC.out).mono ?_; rintro e w3 ⟨AK', cK', AJ', cJ', AL', cL', AS', cS', AU', cU', rfl, hr3, hb⟩; have n_BEL := Aside0.mk (BEL.out.trans (hb.mono BEL.out.size)); have n_BP := Aside0.mk (BP.out.below hb); have n_GX := Aside0.mk ((hb.block _ (blk_lt GX.out)).trans GX.out); clear BEL; have BEL := n_BEL; clear n_BEL; clear BP; have BP := n_BP; clear n_BP; clear GX; have GX := n_GX; clear n_GX; have RW := Aside0.mk (hr3); clear hb hr3 BP; clear zx0 fx0 zx1 fx1 zx2 fx2 zx3 fx3 zx4 fx4; have zx0 : w3.cell? ⟨gx, 0, none⟩ = some (.slice AK K.length cK) := (blk_cell GX.out 0).trans rfl; have fx0 := blk_frozen GX.out 0; have zx1 : w3.cell? ⟨gx, 1, none⟩ = some (.slice AJ J.length cJ) := (blk_cell GX.out 1).trans rfl; have fx1 := blk_frozen GX.out 1; have zx2 : w3.cell? ⟨gx, 2, none⟩ = some (.slice AL L.length cL) := (blk_cell GX.out 2).trans rfl; have fx2 := blk_frozen GX.out 2; have zx3 : w3.cell? ⟨gx, 3, none⟩ = some (.slice AS S.length cS) := (blk_cell GX.out 3).trans rfl; have fx3 := blk_frozen GX.out 3; have zx4 : w3.cell? ⟨gx, 4, none⟩ = some (.slice AU U.length cU) := (blk_cell GX.out 4).trans rfl; have fx4 := blk_frozen GX.out 4))
 have RW4 := Aside0.mk (RW.out.far5 GX.out (by decide) (.slice AK' K'.length cK') (.slice AJ' J'.length cJ') (.slice AL' L'.length cL') (.slice AS' S'.length cS') (.slice AU' U'.length cU'))
 have GX4 := Aside0.mk (blk_put (blk_put (blk_put (blk_put (blk_put GX.out 0 (.slice AK' K'.length cK') rfl) 1 (.slice AJ' J'.length cJ') rfl) 2 (.slice AL' L'.length cL') rfl) 3 (.slice AS' S'.length cS') rfl) 4 (.slice AU' U'.length cU') rfl)
 have BEL4 := Aside0.mk (((((BEL.out.setCell (p := ⟨gx, 0, none⟩) GE.out (.slice AK' K'.length cK')).setCell (p := ⟨gx, 1, none⟩) GE.out (.slice AJ' J'.length cJ')).setCell (p := ⟨gx, 2, none⟩) GE.out (.slice AL' L'.length cL')).setCell (p := ⟨gx, 3, none⟩) GE.out (.slice AS' S'.length cS')).setCell (p := ⟨gx, 4, none⟩) GE.out (.slice AU' U'.length cU'))
 clear zx0 fx0 zx1 fx1 zx2 fx2 zx3 fx3 zx4 fx4
 clear RW GX BEL
 generalize (((((w3.setCell ⟨gx, 0, none⟩ (.slice AK' K'.length cK')).setCell ⟨gx, 1, none⟩ (.slice AJ' J'.length cJ')).setCell ⟨gx, 2, none⟩ (.slice AL' L'.length cL')).setCell ⟨gx, 3, none⟩ (.slice AS' S'.length cS')).setCell ⟨gx, 4, none⟩ (.slice AU' U'.length cU')) = w4 at RW4 GX4 BEL4 ⊢
 have BC := Aside0.mk RW4.out.blk
 clear RW4
 have zx0 : w4.cell? ⟨gx, 0, none⟩ = some (.slice AK' K'.length cK') := (blk_cell GX4.out 0).trans rfl
 have fx0 := blk_frozen GX4.out 0
 have zx1 : w4.cell? ⟨gx, 1, none⟩ = some (.slice AJ' J'.length cJ') := (blk_cell GX4.out 1).trans rfl
 have fx1 := blk_frozen GX4.out 1
 have zx2 : w4.cell? ⟨gx, 2, none⟩ = some (.slice AL' L'.length cL') := (blk_cell GX4.out 2).trans rfl
 have fx2 := blk_frozen GX4.out 2
 have zx3 : w4.cell? ⟨gx, 3, none⟩ = some (.slice AS' S'.length cS') := (blk_cell GX4.out 3).trans rfl
 have fx3 := blk_frozen GX4.out 3
 have zx4 : w4.cell? ⟨gx, 4, none⟩ = some (.slice AU' U'.length cU') := (blk_cell GX4.out 4).trans rfl
 have fx4 := blk_frozen GX4.out 4
 cases r
 ·
  skip
  go_wp2_with (first | (go_at_call 22; refine (right_blk 2000 BC.out HRF.out).mono ?_; rintro e w5 ⟨rfl, hb⟩; have n_BEL4 := Aside0.mk (BEL4.out.trans (hb.mono BEL4.out.size)); have n_BC := Aside0.mk (BC.out.below hb); have n_GX4 := Aside0.mk ((hb.block _ (blk_lt GX4.out)).trans GX4.out); clear BEL4; have BEL4 := n_BEL4; clear n_BEL4; clear BC; have BC := n_BC; clear n_BC; clear GX4; have GX4 := n_GX4; clear n_GX4; clear hb; clear zx0 fx0 zx1 fx1 zx2 fx2 zx3 fx3 zx4 fx4; have zx0 : w5.cell? ⟨gx, 0, none⟩ = some (.slice AK' K'.length cK') := (blk_cell GX4.out 0).trans rfl; have fx0 := blk_frozen GX4.out 0; have zx1 : w5.cell? ⟨gx, 1, none⟩ = some (.slice AJ' J'.length cJ') := (blk_cell GX4.out 1).trans rfl; have fx1 := blk_frozen GX4.out 1; have zx2 : w5.cell? ⟨gx, 2, none⟩ = some (.slice AL' L'.length cL') := (blk_cell GX4.out 2).trans rfl; have fx2 := blk_frozen GX4.out 2; have zx3 : w5.cell? ⟨gx, 3, none⟩ = some (.slice AS' S'.length cS') := (blk_cell GX4.out 3).trans rfl; have fx3 := blk_frozen GX4.out 3; have zx4 : w5.cell? ⟨gx, 4, none⟩ = some (.slice AU' U'.length cU') := (blk_cell GX4.out 4).trans rfl; have fx4 := blk_frozen GX4.out 4))
  go_ret
  exact ⟨rfl, BEL4.out⟩
 ·
  skip
  have E4 := Aside0.mk (encode_right 40000 K' J' L' S' U' 4 v ⟨hv1, hv4⟩ (by have := CB.out.room; omega) HR.out.symm (by omega))
  have R8 := Aside0.mk (right_wide HR.out.symm)
  have E8 := Aside0.mk (encode_right 40000 K' J' L' S' U' 8 v ⟨hv1, hv4⟩ (by have := CB.out.room; omega) R8.out (by omega))
  have D4 := Aside0.mk (decode_enc 0 ⟨hv1, hv4⟩ HR.out.symm (by have := CB.out.room; omega) CB.out.j0 CB.out.l0 [] (fun _ h => by cases h))
  have D8 := Aside0.mk (decode_enc 0 ⟨hv1, hv4⟩ R8.out (by have := CB.out.room; omega) CB.out.j0 CB.out.l0 [] (fun _ h => by cases h))
  have SS := Aside0.mk (same_self K' J' L' S' U' 600000 (by have := CB.out.lK; omega) (by have := CB.out.lJ; omega) (by have := CB.out.lL; omega) (by have := CB.out.lS; omega) (by have := CB.out.lU; omega) (by omega))
  have LN : Aside0 ((encB 8 K' J' L' S' U').length = (encB 4 K' J' L' S' U').length + 4 * J'.length + 4 * L'.length) := ⟨by rw [encB_len, encB_len]; omega⟩
  have LB : Aside0 ((encB 4 K' J' L' S' U').length ≤ 100000) := ⟨by rw [encB_len]; have b := CB.out; have := b.lK; have := b.lJ; have := b.lL; have := b.lS; have := b.lU; have := (right_bd HR.out.symm).N1; omega⟩
  obtain ⟨b4, hb4⟩ : ∃ b, b = encB 4 K' J' L' S' U' := ⟨_, rfl⟩
  obtain ⟨b8, hb8⟩ : ∃ b, b = encB 8 K' J' L' S' U' := ⟨_, rfl⟩
  obtain ⟨nm, hnm⟩ : ∃ n : Int, n = ((nst K').b.size : Int) := ⟨_, rfl⟩
  have D4' := D4.out
  have D8' := D8.out
  rw [List.append_nil] at D4' D8'
  have E4' := E4.out
  have E8' := E8.out
  have LN' := LN.out
  have LB' := LB.out
  rw [← hb4] at D4' E4' LN' LB'
  rw [← hb8] at D8' E8' LN'
  rw [← hnm] at D4' D8' E4' E8'
  clear D4 D8 E4 E8 LN LB hb4 hb8 hnm
  have D4 := Aside0.mk D4'
  have D8 := Aside0.mk D8'
  have E4 := Aside0.mk E4'
  have E8 := Aside0.mk E8'
  have LN := Aside0.mk LN'
  have LB := Aside0.mk LB'
  clear D4' D8' E4' E8' LN' LB'
  go_upto_region 6 with (first | (go_at_call 22; refine (right_blk 2000 BC.out HRF.out).mono ?_; rintro e w5 ⟨rfl, hb⟩; have n_BEL4 := Aside0.mk (BEL4.out.trans (hb.mono BEL4.out.size)); have n_BC := Aside0.mk (BC.out.below hb); have n_GX4 := Aside0.mk ((hb.block _ (blk_lt GX4.out)).trans GX4.out); clear BEL4; have BEL4 := n_BEL4; clear n_BEL4; clear BC; have BC := n_BC; clear n_BC; clear GX4; have GX4 := n_GX4; clear n_GX4; clear hb; clear zx0 fx0 zx1 fx1 zx2 fx2 zx3 fx3 zx4 fx4; have zx0 : w5.cell? ⟨gx, 0, none⟩ = some (.slice AK' K'.length cK') := (blk_cell GX4.out 0).trans rfl; have fx0 := blk_frozen GX4.out 0; have zx1 : w5.cell? ⟨gx, 1, none⟩ = some (.slice AJ' J'.length cJ') := (blk_cell GX4.out 1).trans rfl; have fx1 := blk_frozen GX4.out 1; have zx2 : w5.cell? ⟨gx, 2, none⟩ = some (.slice AL' L'.length cL') := (blk_cell GX4.out 2).trans rfl; have fx2 := blk_frozen GX4.out 2; have zx3 : w5.cell? ⟨gx, 3, none⟩ = some (.slice AS' S'.length cS') := (blk_cell GX4.out 3).trans rfl; have fx3 := blk_frozen GX4.out 3; have zx4 : w5.cell? ⟨gx, 4, none⟩ = some (.slice AU' U'.length cU') := (blk_cell GX4.out 4).trans rfl; have fx4 := blk_frozen GX4.out 4))
  clear zx0 fx0 zx1 fx1 zx2 fx2 zx3 fx3 zx4 fx4
  go_upto_region 6 with fail
  go_cut [6, 7, 8] from 27 to 33 (fun v6 v7 v8 wx6 => ∃ Ab4 cb4 gh4, v6 = .slice Ab4 b4.length cb4 ∧ v7 = .pointer (some ⟨gh4, 0, none⟩) ∧ v8 = .int .i64 0 ∧ Aside0 (Below w.heap.size w wx6) ∧ Aside0 (BlkC wx6 AK' cK' K' AJ' cJ' J' AL' cL' L' AS' cS' S' AU' cU' U') ∧ Aside0 (wx6.heap[gx]? = some (.cells #[.slice AK' K'.length cK', .slice AJ' J'.length cJ', .slice AL' L'.length cL', .slice AS' S'.length cS', .slice AU' U'.length cU'] 27 (0, 0))) ∧ Aside0 (Kd.C (Kd.int .u8) wx6 Ab4 b4.length b4 ∧ b4.length ≤ cb4) ∧ Aside0 (wx6.heap[gh4]? = some (.cells #[.int .i64 v, .int .i64 (U'.length : Int), .int .i64 (S'.length : Int), .int .i64 (L'.length : Int), .int .i64 (J'.length : Int), .int .i64 (K'.length : Int), .int .i64 nm] 35 (0, 0))))
  case first =>
   have zGX40 : w5.cell? ⟨gx, 0, none⟩ = some (.slice AK' K'.length cK') := (blk_cell GX4.out 0).trans rfl
   have zGX41 : w5.cell? ⟨gx, 1, none⟩ = some (.slice AJ' J'.length cJ') := (blk_cell GX4.out 1).trans rfl
   have zGX42 : w5.cell? ⟨gx, 2, none⟩ = some (.slice AL' L'.length cL') := (blk_cell GX4.out 2).trans rfl
   have zGX43 : w5.cell? ⟨gx, 3, none⟩ = some (.slice AS' S'.length cS') := (blk_cell GX4.out 3).trans rfl
   have zGX44 : w5.cell? ⟨gx, 4, none⟩ = some (.slice AU' U'.length cU') := (blk_cell GX4.out 4).trans rfl
   go_wp2_with (first | (go_at_call 21; refine (enc_blk 40000 BC.out E4.out).mono ?_; rintro e we4 ⟨Ab4, cb4, rfl, hRb, hb⟩; have n_BEL4 := Aside0.mk (BEL4.out.trans (hb.mono BEL4.out.size)); have n_BC := Aside0.mk (BC.out.below hb); have n_GX4 := Aside0.mk ((hb.block _ (blk_lt GX4.out)).trans GX4.out); clear BEL4; have BEL4 := n_BEL4; clear n_BEL4; clear BC; have BC := n_BC; clear n_BC; clear GX4; have GX4 := n_GX4; clear n_GX4; have CB4 := Aside0.mk (show Kd.C (Kd.int .u8) we4 Ab4 b4.length b4 ∧ b4.length ≤ cb4 from ⟨(Kd.R_reads' hRb).2.2, (Kd.R_reads' hRb).2.1⟩); clear hRb hb; clear zGX40 zGX41 zGX42 zGX43 zGX44) | ((with_reducible refine gate_dst (N := 7) rfl ?_); refine box_event ?hg7 (N := 7) ?hd7 (cs := #[.int .i64 0, .int .i64 0, .int .i64 0, .int .i64 0, .int .i64 0, .int .i64 0, .int .i64 0]) (t := 35) ?hr7 ?_; (case hd7 => rfl); (case hg7 => rfl); (case hr7 => first | (go_simp; done) | (go_simp; rfl)); intro gh4 gh4E wb6 gh4H hb; have zq0 : wb6.cell? ⟨gh4, 0, none⟩ = some (.int .i64 0) := (blk_cell gh4H 0).trans rfl; have fq0 := blk_frozen gh4H 0; have zq1 : wb6.cell? ⟨gh4, 1, none⟩ = some (.int .i64 0) := (blk_cell gh4H 1).trans rfl; have fq1 := blk_frozen gh4H 1; have zq2 : wb6.cell? ⟨gh4, 2, none⟩ = some (.int .i64 0) := (blk_cell gh4H 2).trans rfl; have fq2 := blk_frozen gh4H 2; have zq3 : wb6.cell? ⟨gh4, 3, none⟩ = some (.int .i64 0) := (blk_cell gh4H 3).trans rfl; have fq3 := blk_frozen gh4H 3; have zq4 : wb6.cell? ⟨gh4, 4, none⟩ = some (.int .i64 0) := (blk_cell gh4H 4).trans rfl; have fq4 := blk_frozen gh4H 4; have zq5 : wb6.cell? ⟨gh4, 5, none⟩ = some (.int .i64 0) := (blk_cell gh4H 5).trans rfl; have fq5 := blk_frozen gh4H 5; have zq6 : wb6.cell? ⟨gh4, 6, none⟩ = some (.int .i64 0) := (blk_cell gh4H 6).trans rfl; have fq6 := blk_frozen gh4H 6; have HBX := Aside0.mk hb; have GEX := Aside0.mk (Nat.le_of_eq gh4E.symm); have gh4F := Aside0.mk gh4H; clear hb gh4E gh4H))
   have hb := (((((((HBX.out.setCell (p := ⟨gh4, 0, none⟩) GEX.out (.int .i64 v)).setCell (p := ⟨gh4, 1, none⟩) GEX.out (.int .i64 (U'.length : Int))).setCell (p := ⟨gh4, 2, none⟩) GEX.out (.int .i64 (S'.length : Int))).setCell (p := ⟨gh4, 3, none⟩) GEX.out (.int .i64 (L'.length : Int))).setCell (p := ⟨gh4, 4, none⟩) GEX.out (.int .i64 (J'.length : Int))).setCell (p := ⟨gh4, 5, none⟩) GEX.out (.int .i64 (K'.length : Int))).setCell (p := ⟨gh4, 6, none⟩) GEX.out (.int .i64 nm))
   go_meet
   case rel => exact ⟨Ab4, cb4, gh4, rfl, rfl, rfl, ⟨BEL4.out.trans (hb.mono BEL4.out.size)⟩, ⟨BC.out.below hb⟩, ⟨(hb.block _ (blk_lt GX4.out)).trans GX4.out⟩, ⟨⟨Kd.C_below CB4.out.1 hb, CB4.out.2⟩⟩, ⟨(blk_put (blk_put (blk_put (blk_put (blk_put (blk_put (blk_put gh4F.out 0 (.int .i64 v) rfl) 1 (.int .i64 (U'.length : Int)) rfl) 2 (.int .i64 (S'.length : Int)) rfl) 3 (.int .i64 (L'.length : Int)) rfl) 4 (.int .i64 (J'.length : Int)) rfl) 5 (.int .i64 (K'.length : Int)) rfl) 6 (.int .i64 nm) rfl)⟩⟩
  case rest =>
   clear BEL4 BC GX4
   obtain ⟨Ab4, cb4, gh4, rfl, rfl, rfl, BEL4, BC, GX4, CB4, GH4⟩ := hcut
   go_upto_region 7 with fail
   go_cut [9, 10, 11] from 34 to 40 (fun v9 v10 v11 wx7 => ∃ Ab8 cb8 gh8, v9 = .slice Ab8 b8.length cb8 ∧ v10 = .pointer (some ⟨gh8, 0, none⟩) ∧ v11 = .int .i64 0 ∧ Aside0 (Below w.heap.size w wx7) ∧ Aside0 (BlkC wx7 AK' cK' K' AJ' cJ' J' AL' cL' L' AS' cS' S' AU' cU' U') ∧ Aside0 (wx7.heap[gx]? = some (.cells #[.slice AK' K'.length cK', .slice AJ' J'.length cJ', .slice AL' L'.length cL', .slice AS' S'.length cS', .slice AU' U'.length cU'] 27 (0, 0))) ∧ Aside0 (Kd.C (Kd.int .u8) wx7 Ab4 b4.length b4 ∧ b4.length ≤ cb4) ∧ Aside0 (wx7.heap[gh4]? = some (.cells #[.int .i64 v, .int .i64 (U'.length : Int), .int .i64 (S'.length : Int), .int .i64 (L'.length : Int), .int .i64 (J'.length : Int), .int .i64 (K'.length : Int), .int .i64 nm] 35 (0, 0))) ∧ Aside0 (Kd.C (Kd.int .u8) wx7 Ab8 b8.length b8 ∧ b8.length ≤ cb8) ∧ Aside0 (wx7.heap[gh8]? = some (.cells #[.int .i64 v, .int .i64 (U'.length : Int), .int .i64 (S'.length : Int), .int .i64 (L'.length : Int), .int .i64 (J'.length : Int), .int .i64 (K'.length : Int), .int .i64 nm] 35 (0, 0))))
   case first =>
    have zGX40 : wc.cell? ⟨gx, 0, none⟩ = some (.slice AK' K'.length cK') := (blk_cell GX4.out 0).trans rfl
    have zGX41 : wc.cell? ⟨gx, 1, none⟩ = some (.slice AJ' J'.length cJ') := (blk_cell GX4.out 1).trans rfl
    have zGX42 : wc.cell? ⟨gx, 2, none⟩ = some (.slice AL' L'.length cL') := (blk_cell GX4.out 2).trans rfl
    have zGX43 : wc.cell? ⟨gx, 3, none⟩ = some (.slice AS' S'.length cS') := (blk_cell GX4.out 3).trans rfl
    have zGX44 : wc.cell? ⟨gx, 4, none⟩ = some (.slice AU' U'.length cU') := (blk_cell GX4.out 4).trans rfl
    go_wp2_with (first | (go_at_call 21; refine (enc_blk 40000 BC.out E8.out).mono ?_; rintro e we8 ⟨Ab8, cb8, rfl, hRb, hb⟩; have n_BEL4 := Aside0.mk (BEL4.out.trans (hb.mono BEL4.out.size)); have n_BC := Aside0.mk (BC.out.below hb); have n_GX4 := Aside0.mk ((hb.block _ (blk_lt GX4.out)).trans GX4.out); have n_CB4 := Aside0.mk ((show _ ∧ _ from ⟨Kd.C_below CB4.out.1 hb, CB4.out.2⟩)); have n_GH4 := Aside0.mk ((hb.block _ (blk_lt GH4.out)).trans GH4.out); clear BEL4; have BEL4 := n_BEL4; clear n_BEL4; clear BC; have BC := n_BC; clear n_BC; clear GX4; have GX4 := n_GX4; clear n_GX4; clear CB4; have CB4 := n_CB4; clear n_CB4; clear GH4; have GH4 := n_GH4; clear n_GH4; have CB8 := Aside0.mk (show Kd.C (Kd.int .u8) we8 Ab8 b8.length b8 ∧ b8.length ≤ cb8 from ⟨(Kd.R_reads' hRb).2.2, (Kd.R_reads' hRb).2.1⟩); clear hRb hb; clear zGX40 zGX41 zGX42 zGX43 zGX44) | ((with_reducible refine gate_dst (N := 10) rfl ?_); refine box_event ?hg10 (N := 10) ?hd10 (cs := #[.int .i64 0, .int .i64 0, .int .i64 0, .int .i64 0, .int .i64 0, .int .i64 0, .int .i64 0]) (t := 35) ?hr10 ?_; (case hd10 => rfl); (case hg10 => rfl); (case hr10 => first | (go_simp; done) | (go_simp; rfl)); intro gh8 gh8E wb7 gh8H hb; have zq0 : wb7.cell? ⟨gh8, 0, none⟩ = some (.int .i64 0) := (blk_cell gh8H 0).trans rfl; have fq0 := blk_frozen gh8H 0; have zq1 : wb7.cell? ⟨gh8, 1, none⟩ = some (.int .i64 0) := (blk_cell gh8H 1).trans rfl; have fq1 := blk_frozen gh8H 1; have zq2 : wb7.cell? ⟨gh8, 2, none⟩ = some (.int .i64 0) := (blk_cell gh8H 2).trans rfl; have fq2 := blk_frozen gh8H 2; have zq3 : wb7.cell? ⟨gh8, 3, none⟩ = some (.int .i64 0) := (blk_cell gh8H 3).trans rfl; have fq3 := blk_frozen gh8H 3; have zq4 : wb7.cell? ⟨gh8, 4, none⟩ = some (.int .i64 0) := (blk_cell gh8H 4).trans rfl; have fq4 := blk_frozen gh8H 4; have zq5 : wb7.cell? ⟨gh8, 5, none⟩ = some (.int .i64 0) := (blk_cell gh8H 5).trans rfl; have fq5 := blk_frozen gh8H 5; have zq6 : wb7.cell? ⟨gh8, 6, none⟩ = some (.int .i64 0) := (blk_cell gh8H 6).trans rfl; have fq6 := blk_frozen gh8H 6; have HBX := Aside0.mk hb; have GEX := Aside0.mk (Nat.le_of_eq gh8E.symm); have gh8F := Aside0.mk gh8H; clear hb gh8E gh8H))
    have hb := (((((((HBX.out.setCell (p := ⟨gh8, 0, none⟩) GEX.out (.int .i64 v)).setCell (p := ⟨gh8, 1, none⟩) GEX.out (.int .i64 (U'.length : Int))).setCell (p := ⟨gh8, 2, none⟩) GEX.out (.int .i64 (S'.length : Int))).setCell (p := ⟨gh8, 3, none⟩) GEX.out (.int .i64 (L'.length : Int))).setCell (p := ⟨gh8, 4, none⟩) GEX.out (.int .i64 (J'.length : Int))).setCell (p := ⟨gh8, 5, none⟩) GEX.out (.int .i64 (K'.length : Int))).setCell (p := ⟨gh8, 6, none⟩) GEX.out (.int .i64 nm))
    go_meet
    case rel => exact ⟨Ab8, cb8, gh8, rfl, rfl, rfl, ⟨BEL4.out.trans (hb.mono BEL4.out.size)⟩, ⟨BC.out.below hb⟩, ⟨(hb.block _ (blk_lt GX4.out)).trans GX4.out⟩, ⟨⟨Kd.C_below CB4.out.1 hb, CB4.out.2⟩⟩, ⟨(hb.block _ (blk_lt GH4.out)).trans GH4.out⟩, ⟨⟨Kd.C_below CB8.out.1 hb, CB8.out.2⟩⟩, ⟨(blk_put (blk_put (blk_put (blk_put (blk_put (blk_put (blk_put gh8F.out 0 (.int .i64 v) rfl) 1 (.int .i64 (U'.length : Int)) rfl) 2 (.int .i64 (S'.length : Int)) rfl) 3 (.int .i64 (L'.length : Int)) rfl) 4 (.int .i64 (J'.length : Int)) rfl) 5 (.int .i64 (K'.length : Int)) rfl) 6 (.int .i64 nm) rfl)⟩⟩
   case rest =>
    clear BEL4 BC GX4 CB4 GH4
    obtain ⟨Ab8, cb8, gh8, rfl, rfl, rfl, BEL4, BC, GX4, CB4, GH4, CB8, GH8⟩ := hcut
    go_upto_region 8 with fail
    go_cut [12, 13] from 41 to 46 (fun v12 v13 wx8 => ∃ AKd4 cKd4 AJd4 cJd4 ALd4 cLd4 ASd4 cSd4 AUd4 cUd4 gd4, v12 = .pointer (some ⟨gd4, 0, none⟩) ∧ v13 = .int .i64 0 ∧ Aside0 (Below w.heap.size w wx8) ∧ Aside0 (BlkC wx8 AK' cK' K' AJ' cJ' J' AL' cL' L' AS' cS' S' AU' cU' U') ∧ Aside0 (wx8.heap[gx]? = some (.cells #[.slice AK' K'.length cK', .slice AJ' J'.length cJ', .slice AL' L'.length cL', .slice AS' S'.length cS', .slice AU' U'.length cU'] 27 (0, 0))) ∧ Aside0 (Kd.C (Kd.int .u8) wx8 Ab4 b4.length b4 ∧ b4.length ≤ cb4) ∧ Aside0 (wx8.heap[gh4]? = some (.cells #[.int .i64 v, .int .i64 (U'.length : Int), .int .i64 (S'.length : Int), .int .i64 (L'.length : Int), .int .i64 (J'.length : Int), .int .i64 (K'.length : Int), .int .i64 nm] 35 (0, 0))) ∧ Aside0 (Kd.C (Kd.int .u8) wx8 Ab8 b8.length b8 ∧ b8.length ≤ cb8) ∧ Aside0 (wx8.heap[gh8]? = some (.cells #[.int .i64 v, .int .i64 (U'.length : Int), .int .i64 (S'.length : Int), .int .i64 (L'.length : Int), .int .i64 (J'.length : Int), .int .i64 (K'.length : Int), .int .i64 nm] 35 (0, 0))) ∧ Aside0 (BlkC wx8 AKd4 cKd4 K' AJd4 cJd4 J' ALd4 cLd4 L' ASd4 cSd4 S' AUd4 cUd4 U') ∧ Aside0 (wx8.heap[gd4]? = some (.cells #[.slice AKd4 K'.length cKd4, .slice AJd4 J'.length cJd4, .slice ALd4 L'.length cLd4, .slice ASd4 S'.length cSd4, .slice AUd4 U'.length cUd4] 27 (0, 0))))
    case first =>
     have zGH40 : wc.cell? ⟨gh4, 0, none⟩ = some (.int .i64 v) := (blk_cell GH4.out 0).trans rfl
     have zGH41 : wc.cell? ⟨gh4, 1, none⟩ = some (.int .i64 (U'.length : Int)) := (blk_cell GH4.out 1).trans rfl
     have zGH42 : wc.cell? ⟨gh4, 2, none⟩ = some (.int .i64 (S'.length : Int)) := (blk_cell GH4.out 2).trans rfl
     have zGH43 : wc.cell? ⟨gh4, 3, none⟩ = some (.int .i64 (L'.length : Int)) := (blk_cell GH4.out 3).trans rfl
     have zGH44 : wc.cell? ⟨gh4, 4, none⟩ = some (.int .i64 (J'.length : Int)) := (blk_cell GH4.out 4).trans rfl
     have zGH45 : wc.cell? ⟨gh4, 5, none⟩ = some (.int .i64 (K'.length : Int)) := (blk_cell GH4.out 5).trans rfl
     have zGH46 : wc.cell? ⟨gh4, 6, none⟩ = some (.int .i64 nm) := (blk_cell GH4.out 6).trans rfl
     go_wp2_with (first | (go_at_call 27; refine (dec_blk CB4.out.1 CB4.out.2 D4.out).mono ?_; rintro e wd4 ⟨AKd4, cKd4, AJd4, cJd4, ALd4, cLd4, ASd4, cSd4, AUd4, cUd4, rfl, hBd, hb⟩; have n_BEL4 := Aside0.mk (BEL4.out.trans (hb.mono BEL4.out.size)); have n_BC := Aside0.mk (BC.out.below hb); have n_GX4 := Aside0.mk ((hb.block _ (blk_lt GX4.out)).trans GX4.out); have n_CB4 := Aside0.mk ((show _ ∧ _ from ⟨Kd.C_below CB4.out.1 hb, CB4.out.2⟩)); have n_GH4 := Aside0.mk ((hb.block _ (blk_lt GH4.out)).trans GH4.out); have n_CB8 := Aside0.mk ((show _ ∧ _ from ⟨Kd.C_below CB8.out.1 hb, CB8.out.2⟩)); have n_GH8 := Aside0.mk ((hb.block _ (blk_lt GH8.out)).trans GH8.out); clear BEL4; have BEL4 := n_BEL4; clear n_BEL4; clear BC; have BC := n_BC; clear n_BC; clear GX4; have GX4 := n_GX4; clear n_GX4; clear CB4; have CB4 := n_CB4; clear n_CB4; clear GH4; have GH4 := n_GH4; clear n_GH4; clear CB8; have CB8 := n_CB8; clear n_CB8; clear GH8; have GH8 := n_GH8; clear n_GH8; have BD4 := Aside0.mk hBd; clear hBd hb; clear zGH40 zGH41 zGH42 zGH43 zGH44 zGH45 zGH46) | ((with_reducible refine gate_dst (N := 12) rfl ?_); refine box_event ?hg12 (N := 12) ?hd12 (cs := #[.slice none 0 0, .slice none 0 0, .slice none 0 0, .slice none 0 0, .slice none 0 0]) (t := 27) ?hr12 ?_; (case hd12 => rfl); (case hg12 => rfl); (case hr12 => first | (go_simp; done) | (go_simp; rfl)); intro gd4 gd4E wb8 gd4H hb; have zq0 : wb8.cell? ⟨gd4, 0, none⟩ = some (.slice none 0 0) := (blk_cell gd4H 0).trans rfl; have fq0 := blk_frozen gd4H 0; have zq1 : wb8.cell? ⟨gd4, 1, none⟩ = some (.slice none 0 0) := (blk_cell gd4H 1).trans rfl; have fq1 := blk_frozen gd4H 1; have zq2 : wb8.cell? ⟨gd4, 2, none⟩ = some (.slice none 0 0) := (blk_cell gd4H 2).trans rfl; have fq2 := blk_frozen gd4H 2; have zq3 : wb8.cell? ⟨gd4, 3, none⟩ = some (.slice none 0 0) := (blk_cell gd4H 3).trans rfl; have fq3 := blk_frozen gd4H 3; have zq4 : wb8.cell? ⟨gd4, 4, none⟩ = some (.slice none 0 0) := (blk_cell gd4H 4).trans rfl; have fq4 := blk_frozen gd4H 4; have HBX := Aside0.mk hb; have GEX := Aside0.mk (Nat.le_of_eq gd4E.symm); have gd4F := Aside0.mk gd4H; clear hb gd4E gd4H))
     have hb := (((((HBX.out.setCell (p := ⟨gd4, 0, none⟩) GEX.out (.slice AKd4 K'.length cKd4)).setCell (p := ⟨gd4, 1, none⟩) GEX.out (.slice AJd4 J'.length cJd4)).setCell (p := ⟨gd4, 2, none⟩) GEX.out (.slice ALd4 L'.length cLd4)).setCell (p := ⟨gd4, 3, none⟩) GEX.out (.slice ASd4 S'.length cSd4)).setCell (p := ⟨gd4, 4, none⟩) GEX.out (.slice AUd4 U'.length cUd4))
     go_meet
     case rel => exact ⟨AKd4, cKd4, AJd4, cJd4, ALd4, cLd4, ASd4, cSd4, AUd4, cUd4, gd4, rfl, rfl, ⟨BEL4.out.trans (hb.mono BEL4.out.size)⟩, ⟨BC.out.below hb⟩, ⟨(hb.block _ (blk_lt GX4.out)).trans GX4.out⟩, ⟨⟨Kd.C_below CB4.out.1 hb, CB4.out.2⟩⟩, ⟨(hb.block _ (blk_lt GH4.out)).trans GH4.out⟩, ⟨⟨Kd.C_below CB8.out.1 hb, CB8.out.2⟩⟩, ⟨(hb.block _ (blk_lt GH8.out)).trans GH8.out⟩, ⟨BD4.out.below hb⟩, ⟨(blk_put (blk_put (blk_put (blk_put (blk_put gd4F.out 0 (.slice AKd4 K'.length cKd4) rfl) 1 (.slice AJd4 J'.length cJd4) rfl) 2 (.slice ALd4 L'.length cLd4) rfl) 3 (.slice ASd4 S'.length cSd4) rfl) 4 (.slice AUd4 U'.length cUd4) rfl)⟩⟩
    case rest =>
     clear BEL4 BC GX4 CB4 GH4 CB8 GH8
     obtain ⟨AKd4, cKd4, AJd4, cJd4, ALd4, cLd4, ASd4, cSd4, AUd4, cUd4, gd4, rfl, rfl, BEL4, BC, GX4, CB4, GH4, CB8, GH8, BD4, GD4⟩ := hcut
     go_upto_region 9 with fail
     go_cut [14, 15] from 47 to 52 (fun v14 v15 wx9 => ∃ AKd8 cKd8 AJd8 cJd8 ALd8 cLd8 ASd8 cSd8 AUd8 cUd8 gd8, v14 = .pointer (some ⟨gd8, 0, none⟩) ∧ v15 = .int .i64 0 ∧ Aside0 (Below w.heap.size w wx9) ∧ Aside0 (BlkC wx9 AK' cK' K' AJ' cJ' J' AL' cL' L' AS' cS' S' AU' cU' U') ∧ Aside0 (wx9.heap[gx]? = some (.cells #[.slice AK' K'.length cK', .slice AJ' J'.length cJ', .slice AL' L'.length cL', .slice AS' S'.length cS', .slice AU' U'.length cU'] 27 (0, 0))) ∧ Aside0 (Kd.C (Kd.int .u8) wx9 Ab4 b4.length b4 ∧ b4.length ≤ cb4) ∧ Aside0 (wx9.heap[gh4]? = some (.cells #[.int .i64 v, .int .i64 (U'.length : Int), .int .i64 (S'.length : Int), .int .i64 (L'.length : Int), .int .i64 (J'.length : Int), .int .i64 (K'.length : Int), .int .i64 nm] 35 (0, 0))) ∧ Aside0 (Kd.C (Kd.int .u8) wx9 Ab8 b8.length b8 ∧ b8.length ≤ cb8) ∧ Aside0 (wx9.heap[gh8]? = some (.cells #[.int .i64 v, .int .i64 (U'.length : Int), .int .i64 (S'.length : Int), .int .i64 (L'.length : Int), .int .i64 (J'.length : Int), .int .i64 (K'.length : Int), .int .i64 nm] 35 (0, 0))) ∧ Aside0 (BlkC wx9 AKd4 cKd4 K' AJd4 cJd4 J' ALd4 cLd4 L' ASd4 cSd4 S' AUd4 cUd4 U') ∧ Aside0 (wx9.heap[gd4]? = some (.cells #[.slice AKd4 K'.length cKd4, .slice AJd4 J'.length cJd4, .slice ALd4 L'.length cLd4, .slice ASd4 S'.length cSd4, .slice AUd4 U'.length cUd4] 27 (0, 0))) ∧ Aside0 (BlkC wx9 AKd8 cKd8 K' AJd8 cJd8 J' ALd8 cLd8 L' ASd8 cSd8 S' AUd8 cUd8 U') ∧ Aside0 (wx9.heap[gd8]? = some (.cells #[.slice AKd8 K'.length cKd8, .slice AJd8 J'.length cJd8, .slice ALd8 L'.length cLd8, .slice ASd8 S'.length cSd8, .slice AUd8 U'.length cUd8] 27 (0, 0))))
     case first =>
      have zGH80 : wc.cell? ⟨gh8, 0, none⟩ = some (.int .i64 v) := (blk_cell GH8.out 0).trans rfl
      have zGH81 : wc.cell? ⟨gh8, 1, none⟩ = some (.int .i64 (U'.length : Int)) := (blk_cell GH8.out 1).trans rfl
      have zGH82 : wc.cell? ⟨gh8, 2, none⟩ = some (.int .i64 (S'.length : Int)) := (blk_cell GH8.out 2).trans rfl
      have zGH83 : wc.cell? ⟨gh8, 3, none⟩ = some (.int .i64 (L'.length : Int)) := (blk_cell GH8.out 3).trans rfl
      have zGH84 : wc.cell? ⟨gh8, 4, none⟩ = some (.int .i64 (J'.length : Int)) := (blk_cell GH8.out 4).trans rfl
      have zGH85 : wc.cell? ⟨gh8, 5, none⟩ = some (.int .i64 (K'.length : Int)) := (blk_cell GH8.out 5).trans rfl
      have zGH86 : wc.cell? ⟨gh8, 6, none⟩ = some (.int .i64 nm) := (blk_cell GH8.out 6).trans rfl
      go_wp2_with (first | (go_at_call 27; refine (dec_blk CB8.out.1 CB8.out.2 D8.out).mono ?_; rintro e wd8 ⟨AKd8, cKd8, AJd8, cJd8, ALd8, cLd8, ASd8, cSd8, AUd8, cUd8, rfl, hBd, hb⟩; have n_BEL4 := Aside0.mk (BEL4.out.trans (hb.mono BEL4.out.size)); have n_BC := Aside0.mk (BC.out.below hb); have n_GX4 := Aside0.mk ((hb.block _ (blk_lt GX4.out)).trans GX4.out); have n_CB4 := Aside0.mk ((show _ ∧ _ from ⟨Kd.C_below CB4.out.1 hb, CB4.out.2⟩)); have n_GH4 := Aside0.mk ((hb.block _ (blk_lt GH4.out)).trans GH4.out); have n_CB8 := Aside0.mk ((show _ ∧ _ from ⟨Kd.C_below CB8.out.1 hb, CB8.out.2⟩)); have n_GH8 := Aside0.mk ((hb.block _ (blk_lt GH8.out)).trans GH8.out); have n_BD4 := Aside0.mk (BD4.out.below hb); have n_GD4 := Aside0.mk ((hb.block _ (blk_lt GD4.out)).trans GD4.out); clear BEL4; have BEL4 := n_BEL4; clear n_BEL4; clear BC; have BC := n_BC; clear n_BC; clear GX4; have GX4 := n_GX4; clear n_GX4; clear CB4; have CB4 := n_CB4; clear n_CB4; clear GH4; have GH4 := n_GH4; clear n_GH4; clear CB8; have CB8 := n_CB8; clear n_CB8; clear GH8; have GH8 := n_GH8; clear n_GH8; clear BD4; have BD4 := n_BD4; clear n_BD4; clear GD4; have GD4 := n_GD4; clear n_GD4; have BD8 := Aside0.mk hBd; clear hBd hb; clear zGH80 zGH81 zGH82 zGH83 zGH84 zGH85 zGH86) | ((with_reducible refine gate_dst (N := 14) rfl ?_); refine box_event ?hg14 (N := 14) ?hd14 (cs := #[.slice none 0 0, .slice none 0 0, .slice none 0 0, .slice none 0 0, .slice none 0 0]) (t := 27) ?hr14 ?_; (case hd14 => rfl); (case hg14 => rfl); (case hr14 => first | (go_simp; done) | (go_simp; rfl)); intro gd8 gd8E wb9 gd8H hb; have zq0 : wb9.cell? ⟨gd8, 0, none⟩ = some (.slice none 0 0) := (blk_cell gd8H 0).trans rfl; have fq0 := blk_frozen gd8H 0; have zq1 : wb9.cell? ⟨gd8, 1, none⟩ = some (.slice none 0 0) := (blk_cell gd8H 1).trans rfl; have fq1 := blk_frozen gd8H 1; have zq2 : wb9.cell? ⟨gd8, 2, none⟩ = some (.slice none 0 0) := (blk_cell gd8H 2).trans rfl; have fq2 := blk_frozen gd8H 2; have zq3 : wb9.cell? ⟨gd8, 3, none⟩ = some (.slice none 0 0) := (blk_cell gd8H 3).trans rfl; have fq3 := blk_frozen gd8H 3; have zq4 : wb9.cell? ⟨gd8, 4, none⟩ = some (.slice none 0 0) := (blk_cell gd8H 4).trans rfl; have fq4 := blk_frozen gd8H 4; have HBX := Aside0.mk hb; have GEX := Aside0.mk (Nat.le_of_eq gd8E.symm); have gd8F := Aside0.mk gd8H; clear hb gd8E gd8H))
      have hb := (((((HBX.out.setCell (p := ⟨gd8, 0, none⟩) GEX.out (.slice AKd8 K'.length cKd8)).setCell (p := ⟨gd8, 1, none⟩) GEX.out (.slice AJd8 J'.length cJd8)).setCell (p := ⟨gd8, 2, none⟩) GEX.out (.slice ALd8 L'.length cLd8)).setCell (p := ⟨gd8, 3, none⟩) GEX.out (.slice ASd8 S'.length cSd8)).setCell (p := ⟨gd8, 4, none⟩) GEX.out (.slice AUd8 U'.length cUd8))
      go_meet
      case rel => exact ⟨AKd8, cKd8, AJd8, cJd8, ALd8, cLd8, ASd8, cSd8, AUd8, cUd8, gd8, rfl, rfl, ⟨BEL4.out.trans (hb.mono BEL4.out.size)⟩, ⟨BC.out.below hb⟩, ⟨(hb.block _ (blk_lt GX4.out)).trans GX4.out⟩, ⟨⟨Kd.C_below CB4.out.1 hb, CB4.out.2⟩⟩, ⟨(hb.block _ (blk_lt GH4.out)).trans GH4.out⟩, ⟨⟨Kd.C_below CB8.out.1 hb, CB8.out.2⟩⟩, ⟨(hb.block _ (blk_lt GH8.out)).trans GH8.out⟩, ⟨BD4.out.below hb⟩, ⟨(hb.block _ (blk_lt GD4.out)).trans GD4.out⟩, ⟨BD8.out.below hb⟩, ⟨(blk_put (blk_put (blk_put (blk_put (blk_put gd8F.out 0 (.slice AKd8 K'.length cKd8) rfl) 1 (.slice AJd8 J'.length cJd8) rfl) 2 (.slice ALd8 L'.length cLd8) rfl) 3 (.slice ASd8 S'.length cSd8) rfl) 4 (.slice AUd8 U'.length cUd8) rfl)⟩⟩
     case rest =>
      clear BEL4 BC GX4 CB4 GH4 CB8 GH8 BD4 GD4
      obtain ⟨AKd8, cKd8, AJd8, cJd8, ALd8, cLd8, ASd8, cSd8, AUd8, cUd8, gd8, rfl, rfl, BEL4, BC, GX4, CB4, GH4, CB8, GH8, BD4, GD4, BD8, GD8⟩ := hcut
      go_upto_region 10 with fail
      have HBW := Aside0.mk (Below.refl wc.heap.size wc).drew
      have hln : ((b8.length : Int) == (b4.length : Int) + 4 * (J'.length : Int) + 4 * (L'.length : Int)) = true := by rw [beq_iff_eq]; have := LN.out; omega
      have hlb : (b4.length : Int) ≤ 100000 := by have := LB.out; omega
      have hjb : (J'.length : Int) ≤ 100 := by have := CB.out.lJ; omega
      have hlb2 : (L'.length : Int) ≤ 50 := by have := CB.out.lL; omega
      have hs1 : IntKind.i64.wrap (4 * (J'.length : Int)) = 4 * (J'.length : Int) := IntWalk.i64_in _ (by omega)
      have hs2 : IntKind.i64.wrap (4 * (L'.length : Int)) = 4 * (L'.length : Int) := IntWalk.i64_in _ (by omega)
      have hs3 : IntKind.i64.wrap ((b4.length : Int) + 4 * (J'.length : Int)) = (b4.length : Int) + 4 * (J'.length : Int) := IntWalk.i64_in _ (by omega)
      have hs4 : IntKind.i64.wrap ((b4.length : Int) + 4 * (J'.length : Int) + 4 * (L'.length : Int)) = (b4.length : Int) + 4 * (J'.length : Int) + 4 * (L'.length : Int) := IntWalk.i64_in _ (by omega)
      refine start_ (n := 47) (S := fun w' => w'.cell? ⟨gh4, 0, none⟩ = some (.int .i64 v) ∧ w'.cell? ⟨gh4, 1, none⟩ = some (.int .i64 (U'.length : Int)) ∧ w'.cell? ⟨gh4, 2, none⟩ = some (.int .i64 (S'.length : Int)) ∧ w'.cell? ⟨gh4, 3, none⟩ = some (.int .i64 (L'.length : Int)) ∧ w'.cell? ⟨gh4, 4, none⟩ = some (.int .i64 (J'.length : Int)) ∧ w'.cell? ⟨gh4, 5, none⟩ = some (.int .i64 (K'.length : Int)) ∧ w'.cell? ⟨gh4, 6, none⟩ = some (.int .i64 nm) ∧ w'.cell? ⟨gh8, 0, none⟩ = some (.int .i64 v) ∧ w'.cell? ⟨gh8, 1, none⟩ = some (.int .i64 (U'.length : Int)) ∧ w'.cell? ⟨gh8, 2, none⟩ = some (.int .i64 (S'.length : Int)) ∧ w'.cell? ⟨gh8, 3, none⟩ = some (.int .i64 (L'.length : Int)) ∧ w'.cell? ⟨gh8, 4, none⟩ = some (.int .i64 (J'.length : Int)) ∧ w'.cell? ⟨gh8, 5, none⟩ = some (.int .i64 (K'.length : Int)) ∧ w'.cell? ⟨gh8, 6, none⟩ = some (.int .i64 nm) ∧ w'.cell? ⟨gx, 1, none⟩ = some (.slice AJ' J'.length cJ') ∧ w'.cell? ⟨gx, 2, none⟩ = some (.slice AL' L'.length cL') ∧ w'.cell? ⟨gd4, 0, none⟩ = some (.slice AKd4 K'.length cKd4) ∧ w'.cell? ⟨gd4, 1, none⟩ = some (.slice AJd4 J'.length cJd4) ∧ w'.cell? ⟨gd4, 2, none⟩ = some (.slice ALd4 L'.length cLd4) ∧ w'.cell? ⟨gd4, 3, none⟩ = some (.slice ASd4 S'.length cSd4) ∧ w'.cell? ⟨gd4, 4, none⟩ = some (.slice AUd4 U'.length cUd4) ∧ w'.cell? ⟨gd8, 0, none⟩ = some (.slice AKd8 K'.length cKd8) ∧ w'.cell? ⟨gd8, 1, none⟩ = some (.slice AJd8 J'.length cJd8) ∧ w'.cell? ⟨gd8, 2, none⟩ = some (.slice ALd8 L'.length cLd8) ∧ w'.cell? ⟨gd8, 3, none⟩ = some (.slice ASd8 S'.length cSd8) ∧ w'.cell? ⟨gd8, 4, none⟩ = some (.slice AUd8 U'.length cUd8)) (ds := []) #[false, false, false, false, false, false, false, false, false, false, false, false, false, false, false, false, false, false, false, false, false, false, false, false, false, false, false, false, false, false, false, false, false, false, false, false, false, false, false, false, false, false, false, false, false, false, false] (by kernel_rfl) rfl rfl ⟨(blk_cell GH4.out 0).trans rfl, (blk_cell GH4.out 1).trans rfl, (blk_cell GH4.out 2).trans rfl, (blk_cell GH4.out 3).trans rfl, (blk_cell GH4.out 4).trans rfl, (blk_cell GH4.out 5).trans rfl, (blk_cell GH4.out 6).trans rfl, (blk_cell GH8.out 0).trans rfl, (blk_cell GH8.out 1).trans rfl, (blk_cell GH8.out 2).trans rfl, (blk_cell GH8.out 3).trans rfl, (blk_cell GH8.out 4).trans rfl, (blk_cell GH8.out 5).trans rfl, (blk_cell GH8.out 6).trans rfl, (blk_cell GX4.out 1).trans rfl, (blk_cell GX4.out 2).trans rfl, (blk_cell GD4.out 0).trans rfl, (blk_cell GD4.out 1).trans rfl, (blk_cell GD4.out 2).trans rfl, (blk_cell GD4.out 3).trans rfl, (blk_cell GD4.out 4).trans rfl, (blk_cell GD8.out 0).trans rfl, (blk_cell GD8.out 1).trans rfl, (blk_cell GD8.out 2).trans rfl, (blk_cell GD8.out 3).trans rfl, (blk_cell GD8.out 4).trans rfl⟩ (fun hHeld => ?_); refine with_tabW blockWide.tab10 blockWide.bits10 (fun HT_ HW_ => ?_)
      refine pure_ (i := 0) (N := some 53) (v := ?_) (a' := ?_) #[true, false, false, false, false, false, false, false, false, false, false, false, false, false, false, false, false, false, false, false, false, false, false, false, false, false, false, false, false, false, false, false, false, false, false, false, false, false, false, false, false, false, false, false, false, false, false] rfl rfl (any_of HT_.out (by kernel_rfl)) (fun _ _ _ h => h) (Or.inl ⟨by rfl, ?_⟩) ?_ ?_
      rotate_left
      ·
       intro w'
       go_simp
       with_reducible rfl
      rotate_left
      ·
       simp only [Act.put, List.setIfInBounds_toArray, List.set_cons_zero, List.set_cons_succ, i64_w, i32_w]
       rfl
      refine pure_ (i := 1) (N := some 54) (v := ?_) (a' := ?_) #[true, true, false, false, false, false, false, false, false, false, false, false, false, false, false, false, false, false, false, false, false, false, false, false, false, false, false, false, false, false, false, false, false, false, false, false, false, false, false, false, false, false, false, false, false, false, false] rfl rfl (any_of HT_.out (by kernel_rfl)) (fun _ _ _ h => h) (Or.inl ⟨by rfl, ?_⟩) ?_ ?_
      rotate_left
      ·
       intro w'
       go_simp
       with_reducible rfl
      rotate_left
      ·
       simp only [Act.put, List.setIfInBounds_toArray, List.set_cons_zero, List.set_cons_succ, i64_w, i32_w]
       rfl
      refine pure_ (i := 2) (N := some 55) (v := ?_) (a' := ?_) #[true, true, true, false, false, false, false, false, false, false, false, false, false, false, false, false, false, false, false, false, false, false, false, false, false, false, false, false, false, false, false, false, false, false, false, false, false, false, false, false, false, false, false, false, false, false, false] rfl rfl (any_of HT_.out (by kernel_rfl)) (fun _ _ _ h => h) (Or.inl ⟨by rfl, ?_⟩) ?_ ?_
      rotate_left
      ·
       intro w'
       go_simp
       with_reducible rfl
      rotate_left
      ·
       simp only [Act.put, List.setIfInBounds_toArray, List.set_cons_zero, List.set_cons_succ, i64_w, i32_w]
       rfl
      refine pure_ (i := 3) (N := some 56) (v := ?_) (a' := ?_) #[true, true, true, true, false, false, false, false, false, false, false, false, false, false, false, false, false, false, false, false, false, false, false, false, false, false, false, false, false, false, false, false, false, false, false, false, false, false, false, false, false, false, false, false, false, false, false] rfl rfl (any_of HT_.out (by kernel_rfl)) (fun _ _ _ h => h) (Or.inl ⟨by rfl, ?_⟩) ?_ ?_
      rotate_left
      ·
       intro w'
       go_simp
       with_reducible rfl
      rotate_left
      ·
       simp only [Act.put, List.setIfInBounds_toArray, List.set_cons_zero, List.set_cons_succ, i64_w, i32_w]
       rfl
      refine pure_ (i := 4) (N := some 57) (v := ?_) (a' := ?_) #[true, true, true, true, true, false, false, false, false, false, false, false, false, false, false, false, false, false, false, false, false, false, false, false, false, false, false, false, false, false, false, false, false, false, false, false, false, false, false, false, false, false, false, false, false, false, false] rfl rfl (any_of HT_.out (by kernel_rfl)) (fun _ _ _ h => h) (Or.inl ⟨by rfl, ?_⟩) ?_ ?_
      rotate_left
      ·
       intro w'
       go_simp
       with_reducible rfl
      rotate_left
      ·
       simp only [Act.put, List.setIfInBounds_toArray, List.set_cons_zero, List.set_cons_succ, i64_w, i32_w]
       rfl
      refine pure_ (i := 5) (N := some 58) (v := ?_) (a' := ?_) #[true, true, true, true, true, true, false, false, false, false, false, false, false, false, false, false, false, false, false, false, false, false, false, false, false, false, false, false, false, false, false, false, false, false, false, false, false, false, false, false, false, false, false, false, false, false, false] rfl rfl (any_of HT_.out (by kernel_rfl)) (fun _ _ _ h => h) (Or.inl ⟨by rfl, ?_⟩) ?_ ?_
      rotate_left
      ·
       intro w'
       go_simp
       with_reducible rfl
      rotate_left
      ·
       simp only [Act.put, List.setIfInBounds_toArray, List.set_cons_zero, List.set_cons_succ, i64_w, i32_w]
       rfl
      refine pure_ (i := 6) (N := some 59) (v := ?_) (a' := ?_) #[true, true, true, true, true, true, true, false, false, false, false, false, false, false, false, false, false, false, false, false, false, false, false, false, false, false, false, false, false, false, false, false, false, false, false, false, false, false, false, false, false, false, false, false, false, false, false] rfl rfl (any_of HT_.out (by kernel_rfl)) (fun _ _ _ h => h) (Or.inl ⟨by rfl, ?_⟩) ?_ ?_
      rotate_left
      ·
       intro w'
       go_simp
       with_reducible rfl
      rotate_left
      ·
       simp only [Act.put, List.setIfInBounds_toArray, List.set_cons_zero, List.set_cons_succ, i64_w, i32_w]
       rfl
      refine pure_ (i := 7) (N := some 60) (v := ?_) (a' := ?_) #[true, true, true, true, true, true, true, true, false, false, false, false, false, false, false, false, false, false, false, false, false, false, false, false, false, false, false, false, false, false, false, false, false, false, false, false, false, false, false, false, false, false, false, false, false, false, false] rfl rfl (any_of HT_.out (by kernel_rfl)) (fun _ _ _ h => h) (Or.inl ⟨by rfl, ?_⟩) ?_ ?_
      rotate_left
      ·
       intro w'
       go_simp
       with_reducible rfl
      rotate_left
      ·
       simp only [Act.put, List.setIfInBounds_toArray, List.set_cons_zero, List.set_cons_succ, i64_w, i32_w]
       rfl
      refine pure_ (i := 8) (N := some 61) (v := ?_) (a' := ?_) #[true, true, true, true, true, true, true, true, true, false, false, false, false, false, false, false, false, false, false, false, false, false, false, false, false, false, false, false, false, false, false, false, false, false, false, false, false, false, false, false, false, false, false, false, false, false, false] rfl rfl (any_of HT_.out (by kernel_rfl)) (fun _ _ _ h => h) (Or.inl ⟨by rfl, ?_⟩) ?_ ?_
      rotate_left
      ·
       intro w'
       go_simp
       with_reducible rfl
      rotate_left
      ·
       simp only [Act.put, List.setIfInBounds_toArray, List.set_cons_zero, List.set_cons_succ, i64_w, i32_w]
       rfl
      refine pure_ (i := 9) (N := some 62) (v := ?_) (a' := ?_) #[true, true, true, true, true, true, true, true, true, true, false, false, false, false, false, false, false, false, false, false, false, false, false, false, false, false, false, false, false, false, false, false, false, false, false, false, false, false, false, false, false, false, false, false, false, false, false] rfl rfl (any_of HT_.out (by kernel_rfl)) (fun _ _ _ h => h) (Or.inl ⟨by rfl, ?_⟩) ?_ ?_
      rotate_left
      ·
       intro w'
       go_simp
       with_reducible rfl
      rotate_left
      ·
       simp only [Act.put, List.setIfInBounds_toArray, List.set_cons_zero, List.set_cons_succ, i64_w, i32_w]
       rfl
      refine take_ (i := 10) (N := some 63) (v := ?_) (a' := ?_) #[true, true, true, true, true, true, true, true, true, true, true, false, false, false, false, false, false, false, false, false, false, false, false, false, false, false, false, false, false, false, false, false, false, false, false, false, false, false, false, false, false, false, false, false, false, false, false] rfl rfl (take_ofW HT_.out HW_.out (by kernel_rfl)) (fun _ _ _ h => h) (Or.inl ⟨by rfl, ?_⟩) hHeld ?_ ?_
      rotate_left
      ·
       rintro w' ⟨s0, s1, s2, s3, s4, s5, s6, s7, s8, s9, s10, s11, s12, s13, s14, s15, s16, s17, s18, s19, s20, s21, s22, s23, s24, s25⟩
       go_simp
       with_reducible rfl
      rotate_left
      ·
       simp only [Act.put, List.setIfInBounds_toArray, List.set_cons_zero, List.set_cons_succ, i64_w, i32_w]
       rfl
      refine take_ (i := 11) (N := some 64) (v := ?_) (a' := ?_) #[true, true, true, true, true, true, true, true, true, true, true, true, false, false, false, false, false, false, false, false, false, false, false, false, false, false, false, false, false, false, false, false, false, false, false, false, false, false, false, false, false, false, false, false, false, false, false] rfl rfl (take_ofW HT_.out HW_.out (by kernel_rfl)) (fun _ _ _ h => h) (Or.inl ⟨by rfl, ?_⟩) hHeld ?_ ?_
      rotate_left
      ·
       rintro w' ⟨s0, s1, s2, s3, s4, s5, s6, s7, s8, s9, s10, s11, s12, s13, s14, s15, s16, s17, s18, s19, s20, s21, s22, s23, s24, s25⟩
       go_simp
       with_reducible rfl
      rotate_left
      ·
       simp only [Act.put, List.setIfInBounds_toArray, List.set_cons_zero, List.set_cons_succ, i64_w, i32_w]
       rfl
      refine pure_ (i := 12) (N := some 65) (v := ?_) (a' := ?_) #[true, true, true, true, true, true, true, true, true, true, true, true, true, false, false, false, false, false, false, false, false, false, false, false, false, false, false, false, false, false, false, false, false, false, false, false, false, false, false, false, false, false, false, false, false, false, false] rfl rfl (any_of HT_.out (by kernel_rfl)) (fun _ _ _ h => h) (Or.inl ⟨by rfl, ?_⟩) ?_ ?_
      rotate_left
      ·
       intro w'
       go_simp
       with_reducible rfl
      rotate_left
      ·
       simp only [Act.put, List.setIfInBounds_toArray, List.set_cons_zero, List.set_cons_succ, i64_w, i32_w]
       rfl
      refine pure_ (i := 13) (N := some 66) (v := ?_) (a' := ?_) #[true, true, true, true, true, true, true, true, true, true, true, true, true, true, false, false, false, false, false, false, false, false, false, false, false, false, false, false, false, false, false, false, false, false, false, false, false, false, false, false, false, false, false, false, false, false, false] rfl rfl (any_of HT_.out (by kernel_rfl)) (fun _ _ _ h => h) (Or.inl ⟨by rfl, ?_⟩) ?_ ?_
      rotate_left
      ·
       intro w'
       go_simp
       with_reducible rfl
      rotate_left
      ·
       simp only [Act.put, List.setIfInBounds_toArray, List.set_cons_zero, List.set_cons_succ, i64_w, i32_w]
       rfl
      refine pure_ (i := 14) (N := some 67) (v := ?_) (a' := ?_) #[true, true, true, true, true, true, true, true, true, true, true, true, true, true, true, false, false, false, false, false, false, false, false, false, false, false, false, false, false, false, false, false, false, false, false, false, false, false, false, false, false, false, false, false, false, false, false] rfl rfl (any_of HT_.out (by kernel_rfl)) (fun _ _ _ h => h) (Or.inl ⟨by rfl, ?_⟩) ?_ ?_
      rotate_left
      ·
       intro w'
       go_simp
       with_reducible rfl
      rotate_left
      ·
       simp only [Act.put, List.setIfInBounds_toArray, List.set_cons_zero, List.set_cons_succ, i64_w, i32_w]
       rfl
      refine pure_ (i := 15) (N := some 68) (v := ?_) (a' := ?_) #[true, true, true, true, true, true, true, true, true, true, true, true, true, true, true, true, false, false, false, false, false, false, false, false, false, false, false, false, false, false, false, false, false, false, false, false, false, false, false, false, false, false, false, false, false, false, false] rfl rfl (any_of HT_.out (by kernel_rfl)) (fun _ _ _ h => h) (Or.inl ⟨by rfl, ?_⟩) ?_ ?_
      rotate_left
      ·
       intro w'
       go_simp
       with_reducible rfl
      rotate_left
      ·
       simp only [Act.put, List.setIfInBounds_toArray, List.set_cons_zero, List.set_cons_succ, i64_w, i32_w]
       rfl
      refine pure_ (i := 16) (N := some 69) (v := ?_) (a' := ?_) #[true, true, true, true, true, true, true, true, true, true, true, true, true, true, true, true, true, false, false, false, false, false, false, false, false, false, false, false, false, false, false, false, false, false, false, false, false, false, false, false, false, false, false, false, false, false, false] rfl rfl (any_of HT_.out (by kernel_rfl)) (fun _ _ _ h => h) (Or.inl ⟨by rfl, ?_⟩) ?_ ?_
      rotate_left
      ·
       intro w'
       go_simp
       with_reducible rfl
      rotate_left
      ·
       simp only [Act.put, List.setIfInBounds_toArray, List.set_cons_zero, List.set_cons_succ, i64_w, i32_w]
       rfl
      refine pure_ (i := 17) (N := some 70) (v := ?_) (a' := ?_) #[true, true, true, true, true, true, true, true, true, true, true, true, true, true, true, true, true, true, false, false, false, false, false, false, false, false, false, false, false, false, false, false, false, false, false, false, false, false, false, false, false, false, false, false, false, false, false] rfl rfl (any_of HT_.out (by kernel_rfl)) (fun _ _ _ h => h) (Or.inl ⟨by rfl, ?_⟩) ?_ ?_
      rotate_left
      ·
       intro w'
       go_simp
       with_reducible rfl
      rotate_left
      ·
       simp only [Act.put, List.setIfInBounds_toArray, List.set_cons_zero, List.set_cons_succ, i64_w, i32_w]
       rfl
      refine pure_ (i := 18) (N := some 71) (v := ?_) (a' := ?_) #[true, true, true, true, true, true, true, true, true, true, true, true, true, true, true, true, true, true, true, false, false, false, false, false, false, false, false, false, false, false, false, false, false, false, false, false, false, false, false, false, false, false, false, false, false, false, false] rfl rfl (any_of HT_.out (by kernel_rfl)) (fun _ _ _ h => h) (Or.inl ⟨by rfl, ?_⟩) ?_ ?_
      rotate_left
      ·
       intro w'
       go_simp
       with_reducible rfl
      rotate_left
      ·
       simp only [Act.put, List.setIfInBounds_toArray, List.set_cons_zero, List.set_cons_succ, i64_w, i32_w]
       rfl
      refine pure_ (i := 19) (N := some 72) (v := ?_) (a' := ?_) #[true, true, true, true, true, true, true, true, true, true, true, true, true, true, true, true, true, true, true, true, false, false, false, false, false, false, false, false, false, false, false, false, false, false, false, false, false, false, false, false, false, false, false, false, false, false, false] rfl rfl (any_of HT_.out (by kernel_rfl)) (fun _ _ _ h => h) (Or.inl ⟨by rfl, ?_⟩) ?_ ?_
      rotate_left
      ·
       intro w'
       go_simp
       with_reducible rfl
      rotate_left
      ·
       simp only [Act.put, List.setIfInBounds_toArray, List.set_cons_zero, List.set_cons_succ, i64_w, i32_w]
       rfl
      refine pure_ (i := 24) (N := some 77) (v := ?_) (a' := ?_) #[true, true, true, true, true, true, true, true, true, true, true, true, true, true, true, true, true, true, true, true, false, false, false, false, true, false, false, false, false, false, false, false, false, false, false, false, false, false, false, false, false, false, false, false, false, false, false] rfl rfl (any_of HT_.out (by kernel_rfl)) (fun _ _ _ h => h) (Or.inl ⟨by rfl, ?_⟩) ?_ ?_
      rotate_left
      ·
       intro w'
       go_simp
       with_reducible rfl
      rotate_left
      ·
       simp only [Act.put, List.setIfInBounds_toArray, List.set_cons_zero, List.set_cons_succ, i64_w, i32_w]
       rfl
      refine take_ (i := 20) (N := some 73) (v := ?_) (a' := ?_) #[true, true, true, true, true, true, true, true, true, true, true, true, true, true, true, true, true, true, true, true, true, false, false, false, true, false, false, false, false, false, false, false, false, false, false, false, false, false, false, false, false, false, false, false, false, false, false] rfl rfl (take_ofW HT_.out HW_.out (by kernel_rfl)) (fun _ _ _ h => h) (Or.inl ⟨by rfl, ?_⟩) hHeld ?_ ?_
      rotate_left
      ·
       rintro w' ⟨s0, s1, s2, s3, s4, s5, s6, s7, s8, s9, s10, s11, s12, s13, s14, s15, s16, s17, s18, s19, s20, s21, s22, s23, s24, s25⟩
       go_simp
       with_reducible rfl
      rotate_left
      ·
       simp only [Act.put, List.setIfInBounds_toArray, List.set_cons_zero, List.set_cons_succ, i64_w, i32_w]
       rfl
      refine pure_ (i := 21) (N := some 74) (v := ?_) (a' := ?_) #[true, true, true, true, true, true, true, true, true, true, true, true, true, true, true, true, true, true, true, true, true, true, false, false, true, false, false, false, false, false, false, false, false, false, false, false, false, false, false, false, false, false, false, false, false, false, false] rfl rfl (any_of HT_.out (by kernel_rfl)) (fun _ _ _ h => h) (Or.inl ⟨by rfl, ?_⟩) ?_ ?_
      rotate_left
      ·
       intro w'
       go_simp
       with_reducible rfl
      rotate_left
      ·
       simp only [Act.put, List.setIfInBounds_toArray, List.set_cons_zero, List.set_cons_succ, i64_w, i32_w]
       rfl
      refine pure_ (i := 22) (N := some 75) (v := ?_) (a' := ?_) #[true, true, true, true, true, true, true, true, true, true, true, true, true, true, true, true, true, true, true, true, true, true, true, false, true, false, false, false, false, false, false, false, false, false, false, false, false, false, false, false, false, false, false, false, false, false, false] rfl rfl (any_of HT_.out (by kernel_rfl)) (fun _ _ _ h => h) (Or.inl ⟨by rfl, ?_⟩) ?_ ?_
      rotate_left
      ·
       intro w'
       go_simp
       with_reducible rfl
      rotate_left
      ·
       simp only [Act.put, List.setIfInBounds_toArray, List.set_cons_zero, List.set_cons_succ, i64_w, i32_w]
       rfl
      refine pure_ (i := 23) (N := some 76) (v := ?_) (a' := ?_) #[true, true, true, true, true, true, true, true, true, true, true, true, true, true, true, true, true, true, true, true, true, true, true, true, true, false, false, false, false, false, false, false, false, false, false, false, false, false, false, false, false, false, false, false, false, false, false] rfl rfl (any_of HT_.out (by kernel_rfl)) (fun _ _ _ h => h) (Or.inl ⟨by rfl, ?_⟩) ?_ ?_
      rotate_left
      ·
       intro w'
       go_simp
       with_reducible rfl
      rotate_left
      ·
       simp only [Act.put, List.setIfInBounds_toArray, List.set_cons_zero, List.set_cons_succ, i64_w, i32_w]
       rfl
      refine take_ (i := 25) (N := some 78) (v := ?_) (a' := ?_) #[true, true, true, true, true, true, true, true, true, true, true, true, true, true, true, true, true, true, true, true, true, true, true, true, true, true, false, false, false, false, false, false, false, false, false, false, false, false, false, false, false, false, false, false, false, false, false] rfl rfl (take_ofW HT_.out HW_.out (by kernel_rfl)) (fun _ _ _ h => h) (Or.inl ⟨by rfl, ?_⟩) hHeld ?_ ?_
      rotate_left
      ·
       rintro w' ⟨s0, s1, s2, s3, s4, s5, s6, s7, s8, s9, s10, s11, s12, s13, s14, s15, s16, s17, s18, s19, s20, s21, s22, s23, s24, s25⟩
       go_simp
       with_reducible rfl
      rotate_left
      ·
       simp only [Act.put, List.setIfInBounds_toArray, List.set_cons_zero, List.set_cons_succ, i64_w, i32_w]
       rfl
      refine pure_ (i := 26) (N := some 79) (v := ?_) (a' := ?_) #[true, true, true, true, true, true, true, true, true, true, true, true, true, true, true, true, true, true, true, true, true, true, true, true, true, true, true, false, false, false, false, false, false, false, false, false, false, false, false, false, false, false, false, false, false, false, false] rfl rfl (any_of HT_.out (by kernel_rfl)) (fun _ _ _ h => h) (Or.inl ⟨by rfl, ?_⟩) ?_ ?_
      rotate_left
      ·
       intro w'
       go_simp
       with_reducible rfl
      rotate_left
      ·
       simp only [Act.put, List.setIfInBounds_toArray, List.set_cons_zero, List.set_cons_succ, i64_w, i32_w]
       rfl
      refine pure_ (i := 27) (N := some 80) (v := ?_) (a' := ?_) #[true, true, true, true, true, true, true, true, true, true, true, true, true, true, true, true, true, true, true, true, true, true, true, true, true, true, true, true, false, false, false, false, false, false, false, false, false, false, false, false, false, false, false, false, false, false, false] rfl rfl (any_of HT_.out (by kernel_rfl)) (fun _ _ _ h => h) (Or.inl ⟨by rfl, ?_⟩) ?_ ?_
      rotate_left
      ·
       intro w'
       go_simp
       with_reducible rfl
      rotate_left
      ·
       simp only [Act.put, List.setIfInBounds_toArray, List.set_cons_zero, List.set_cons_succ, i64_w, i32_w]
       rfl
      refine pure_ (i := 28) (N := some 81) (v := ?_) (a' := ?_) #[true, true, true, true, true, true, true, true, true, true, true, true, true, true, true, true, true, true, true, true, true, true, true, true, true, true, true, true, true, false, false, false, false, false, false, false, false, false, false, false, false, false, false, false, false, false, false] rfl rfl (any_of HT_.out (by kernel_rfl)) (fun _ _ _ h => h) (Or.inl ⟨by rfl, ?_⟩) ?_ ?_
      rotate_left
      ·
       intro w'
       go_simp
       with_reducible rfl
      rotate_left
      ·
       simp only [Act.put, List.setIfInBounds_toArray, List.set_cons_zero, List.set_cons_succ, i64_w, i32_w]
       rfl
      refine pure_ (i := 29) (N := some 82) (v := ?_) (a' := ?_) #[true, true, true, true, true, true, true, true, true, true, true, true, true, true, true, true, true, true, true, true, true, true, true, true, true, true, true, true, true, true, false, false, false, false, false, false, false, false, false, false, false, false, false, false, false, false, false] rfl rfl (any_of HT_.out (by kernel_rfl)) (fun _ _ _ h => h) (Or.inl ⟨by rfl, ?_⟩) ?_ ?_
      rotate_left
      ·
       intro w'
       go_simp
       with_reducible rfl
      rotate_left
      ·
       simp only [Act.put, List.setIfInBounds_toArray, List.set_cons_zero, List.set_cons_succ, i64_w, i32_w]
       rfl
      refine pure_ (i := 30) (N := some 83) (v := ?_) (a' := ?_) #[true, true, true, true, true, true, true, true, true, true, true, true, true, true, true, true, true, true, true, true, true, true, true, true, true, true, true, true, true, true, true, false, false, false, false, false, false, false, false, false, false, false, false, false, false, false, false] rfl rfl (any_of HT_.out (by kernel_rfl)) (fun _ _ _ h => h) (Or.inl ⟨by rfl, ?_⟩) ?_ ?_
      rotate_left
      ·
       intro w'
       go_simp
       with_reducible rfl
      rotate_left
      ·
       simp only [Act.put, List.setIfInBounds_toArray, List.set_cons_zero, List.set_cons_succ, i64_w, i32_w]
       rfl
      refine pure_ (i := 31) (N := some 84) (v := ?_) (a' := ?_) #[true, true, true, true, true, true, true, true, true, true, true, true, true, true, true, true, true, true, true, true, true, true, true, true, true, true, true, true, true, true, true, true, false, false, false, false, false, false, false, false, false, false, false, false, false, false, false] rfl rfl (any_of HT_.out (by kernel_rfl)) (fun _ _ _ h => h) (Or.inl ⟨by rfl, ?_⟩) ?_ ?_
      rotate_left
      ·
       intro w'
       go_simp
       with_reducible rfl
      rotate_left
      ·
       simp only [Act.put, List.setIfInBounds_toArray, List.set_cons_zero, List.set_cons_succ, i64_w, i32_w]
       rfl
      refine pure_ (i := 32) (N := some 85) (v := ?_) (a' := ?_) #[true, true, true, true, true, true, true, true, true, true, true, true, true, true, true, true, true, true, true, true, true, true, true, true, true, true, true, true, true, true, true, true, true, false, false, false, false, false, false, false, false, false, false, false, false, false, false] rfl rfl (any_of HT_.out (by kernel_rfl)) (fun _ _ _ h => h) (Or.inl ⟨by rfl, ?_⟩) ?_ ?_
      rotate_left
      ·
       intro w'
       go_simp
       with_reducible rfl
      rotate_left
      ·
       simp only [Act.put, List.setIfInBounds_toArray, List.set_cons_zero, List.set_cons_succ, i64_w, i32_w]
       rfl
      refine pure_ (i := 33) (N := some 86) (v := ?_) (a' := ?_) #[true, true, true, true, true, true, true, true, true, true, true, true, true, true, true, true, true, true, true, true, true, true, true, true, true, true, true, true, true, true, true, true, true, true, false, false, false, false, false, false, false, false, false, false, false, false, false] rfl rfl (any_of HT_.out (by kernel_rfl)) (fun _ _ _ h => h) (Or.inl ⟨by rfl, ?_⟩) ?_ ?_
      rotate_left
      ·
       intro w'
       go_simp
       with_reducible rfl
      rotate_left
      ·
       simp only [Act.put, List.setIfInBounds_toArray, List.set_cons_zero, List.set_cons_succ, i64_w, i32_w]
       rfl
      refine pure_ (i := 34) (N := some 87) (v := ?_) (a' := ?_) #[true, true, true, true, true, true, true, true, true, true, true, true, true, true, true, true, true, true, true, true, true, true, true, true, true, true, true, true, true, true, true, true, true, true, true, false, false, false, false, false, false, false, false, false, false, false, false] rfl rfl (any_of HT_.out (by kernel_rfl)) (fun _ _ _ h => h) (Or.inl ⟨by rfl, ?_⟩) ?_ ?_
      rotate_left
      ·
       intro w'
       go_simp
       with_reducible rfl
      rotate_left
      ·
       simp only [Act.put, List.setIfInBounds_toArray, List.set_cons_zero, List.set_cons_succ, i64_w, i32_w]
       rfl
      refine pure_ (i := 35) (N := some 88) (v := ?_) (a' := ?_) #[true, true, true, true, true, true, true, true, true, true, true, true, true, true, true, true, true, true, true, true, true, true, true, true, true, true, true, true, true, true, true, true, true, true, true, true, false, false, false, false, false, false, false, false, false, false, false] rfl rfl (any_of HT_.out (by kernel_rfl)) (fun _ _ _ h => h) (Or.inl ⟨by rfl, ?_⟩) ?_ ?_
      rotate_left
      ·
       intro w'
       go_simp
       with_reducible rfl
      rotate_left
      ·
       simp only [Act.put, List.setIfInBounds_toArray, List.set_cons_zero, List.set_cons_succ, i64_w, i32_w]
       rfl
      refine pure_ (i := 36) (N := some 89) (v := ?_) (a' := ?_) #[true, true, true, true, true, true, true, true, true, true, true, true, true, true, true, true, true, true, true, true, true, true, true, true, true, true, true, true, true, true, true, true, true, true, true, true, true, false, false, false, false, false, false, false, false, false, false] rfl rfl (any_of HT_.out (by kernel_rfl)) (fun _ _ _ h => h) (Or.inl ⟨by rfl, ?_⟩) ?_ ?_
      rotate_left
      ·
       intro w'
       go_simp
       with_reducible rfl
      rotate_left
      ·
       simp only [Act.put, List.setIfInBounds_toArray, List.set_cons_zero, List.set_cons_succ, i64_w, i32_w]
       rfl
      refine pure_ (i := 37) (N := some 90) (v := ?_) (a' := ?_) #[true, true, true, true, true, true, true, true, true, true, true, true, true, true, true, true, true, true, true, true, true, true, true, true, true, true, true, true, true, true, true, true, true, true, true, true, true, true, false, false, false, false, false, false, false, false, false] rfl rfl (any_of HT_.out (by kernel_rfl)) (fun _ _ _ h => h) (Or.inl ⟨by rfl, ?_⟩) ?_ ?_
      rotate_left
      ·
       intro w'
       go_simp
       with_reducible rfl
      rotate_left
      ·
       simp only [Act.put, List.setIfInBounds_toArray, List.set_cons_zero, List.set_cons_succ, i64_w, i32_w]
       rfl
      refine pure_ (i := 38) (N := some 91) (v := ?_) (a' := ?_) #[true, true, true, true, true, true, true, true, true, true, true, true, true, true, true, true, true, true, true, true, true, true, true, true, true, true, true, true, true, true, true, true, true, true, true, true, true, true, true, false, false, false, false, false, false, false, false] rfl rfl (any_of HT_.out (by kernel_rfl)) (fun _ _ _ h => h) (Or.inl ⟨by rfl, ?_⟩) ?_ ?_
      rotate_left
      ·
       intro w'
       go_simp
       with_reducible rfl
      rotate_left
      ·
       simp only [Act.put, List.setIfInBounds_toArray, List.set_cons_zero, List.set_cons_succ, i64_w, i32_w]
       rfl
      refine pure_ (i := 39) (N := some 92) (v := ?_) (a' := ?_) #[true, true, true, true, true, true, true, true, true, true, true, true, true, true, true, true, true, true, true, true, true, true, true, true, true, true, true, true, true, true, true, true, true, true, true, true, true, true, true, true, false, false, false, false, false, false, false] rfl rfl (any_of HT_.out (by kernel_rfl)) (fun _ _ _ h => h) (Or.inl ⟨by rfl, ?_⟩) ?_ ?_
      rotate_left
      ·
       intro w'
       go_simp
       with_reducible rfl
      rotate_left
      ·
       simp only [Act.put, List.setIfInBounds_toArray, List.set_cons_zero, List.set_cons_succ, i64_w, i32_w]
       rfl
      refine take_ (i := 40) (N := some 93) (v := ?_) (a' := ?_) #[true, true, true, true, true, true, true, true, true, true, true, true, true, true, true, true, true, true, true, true, true, true, true, true, true, true, true, true, true, true, true, true, true, true, true, true, true, true, true, true, true, false, false, false, false, false, false] rfl rfl (take_ofW HT_.out HW_.out (by kernel_rfl)) (fun _ _ _ h => h) (Or.inl ⟨by rfl, ?_⟩) hHeld ?_ ?_
      rotate_left
      ·
       rintro w' ⟨s0, s1, s2, s3, s4, s5, s6, s7, s8, s9, s10, s11, s12, s13, s14, s15, s16, s17, s18, s19, s20, s21, s22, s23, s24, s25⟩
       go_simp
       with_reducible rfl
      rotate_left
      ·
       simp only [Act.put, List.setIfInBounds_toArray, List.set_cons_zero, List.set_cons_succ, i64_w, i32_w]
       rfl
      refine take_ (i := 42) (N := some 95) (v := ?_) (a' := ?_) #[true, true, true, true, true, true, true, true, true, true, true, true, true, true, true, true, true, true, true, true, true, true, true, true, true, true, true, true, true, true, true, true, true, true, true, true, true, true, true, true, true, false, true, false, false, false, false] rfl rfl (take_ofW HT_.out HW_.out (by kernel_rfl)) (fun _ _ _ h => h) (Or.inl ⟨by rfl, ?_⟩) hHeld ?_ ?_
      rotate_left
      ·
       rintro w' ⟨s0, s1, s2, s3, s4, s5, s6, s7, s8, s9, s10, s11, s12, s13, s14, s15, s16, s17, s18, s19, s20, s21, s22, s23, s24, s25⟩
       go_simp
       with_reducible rfl
      rotate_left
      ·
       simp only [Act.put, List.setIfInBounds_toArray, List.set_cons_zero, List.set_cons_succ, i64_w, i32_w]
       rfl
      refine one_ (i := 41) (N := some 94) #[true, true, true, true, true, true, true, true, true, true, true, true, true, true, true, true, true, true, true, true, true, true, true, true, true, true, true, true, true, true, true, true, true, true, true, true, true, true, true, true, true, true, true, false, false, false, false] rfl rfl (one_of HT_.out (by kernel_rfl)) (by decide) (fun K hK => ?_)
      refine goes_ Try.func20 (by kernel_rfl) rfl #[.agg #[.slice AKd4 K'.length cKd4, .slice AJd4 J'.length cJd4, .slice ALd4 L'.length cLd4, .slice ASd4 S'.length cSd4, .slice AUd4 U'.length cUd4]] (by rfl) rfl rfl (by simp only [List.map_toArray, List.map_cons, List.map_nil]; rfl) ?_
      with_reducible refine (ref_blk _ _ _ _ _ _ _ _ _ _ _ _ _ _ _ _).mono ?_
      rintro e wx ⟨rfl, hb⟩
      refine ⟨_, rfl, ?_⟩
      have HT1 := Aside0.mk (HBW.out.trans (hb.mono HBW.out.size))
      clear hb
      refine hK.out _ _ ⟨(blk_cell ((HT1.out.block _ (blk_lt GH4.out)).trans GH4.out) 0).trans rfl, (blk_cell ((HT1.out.block _ (blk_lt GH4.out)).trans GH4.out) 1).trans rfl, (blk_cell ((HT1.out.block _ (blk_lt GH4.out)).trans GH4.out) 2).trans rfl, (blk_cell ((HT1.out.block _ (blk_lt GH4.out)).trans GH4.out) 3).trans rfl, (blk_cell ((HT1.out.block _ (blk_lt GH4.out)).trans GH4.out) 4).trans rfl, (blk_cell ((HT1.out.block _ (blk_lt GH4.out)).trans GH4.out) 5).trans rfl, (blk_cell ((HT1.out.block _ (blk_lt GH4.out)).trans GH4.out) 6).trans rfl, (blk_cell ((HT1.out.block _ (blk_lt GH8.out)).trans GH8.out) 0).trans rfl, (blk_cell ((HT1.out.block _ (blk_lt GH8.out)).trans GH8.out) 1).trans rfl, (blk_cell ((HT1.out.block _ (blk_lt GH8.out)).trans GH8.out) 2).trans rfl, (blk_cell ((HT1.out.block _ (blk_lt GH8.out)).trans GH8.out) 3).trans rfl, (blk_cell ((HT1.out.block _ (blk_lt GH8.out)).trans GH8.out) 4).trans rfl, (blk_cell ((HT1.out.block _ (blk_lt GH8.out)).trans GH8.out) 5).trans rfl, (blk_cell ((HT1.out.block _ (blk_lt GH8.out)).trans GH8.out) 6).trans rfl, (blk_cell ((HT1.out.block _ (blk_lt GX4.out)).trans GX4.out) 1).trans rfl, (blk_cell ((HT1.out.block _ (blk_lt GX4.out)).trans GX4.out) 2).trans rfl, (blk_cell ((HT1.out.block _ (blk_lt GD4.out)).trans GD4.out) 0).trans rfl, (blk_cell ((HT1.out.block _ (blk_lt GD4.out)).trans GD4.out) 1).trans rfl, (blk_cell ((HT1.out.block _ (blk_lt GD4.out)).trans GD4.out) 2).trans rfl, (blk_cell ((HT1.out.block _ (blk_lt GD4.out)).trans GD4.out) 3).trans rfl, (blk_cell ((HT1.out.block _ (blk_lt GD4.out)).trans GD4.out) 4).trans rfl, (blk_cell ((HT1.out.block _ (blk_lt GD8.out)).trans GD8.out) 0).trans rfl, (blk_cell ((HT1.out.block _ (blk_lt GD8.out)).trans GD8.out) 1).trans rfl, (blk_cell ((HT1.out.block _ (blk_lt GD8.out)).trans GD8.out) 2).trans rfl, (blk_cell ((HT1.out.block _ (blk_lt GD8.out)).trans GD8.out) 3).trans rfl, (blk_cell ((HT1.out.block _ (blk_lt GD8.out)).trans GD8.out) 4).trans rfl⟩ (fun hHeld => ?_)
      clear hK K
      refine norm_ (a' := ?_) ?_ ?_
      rotate_left
      ·
       show Act.put _ (some 94) _ = _
       simp only [Act.put, List.setIfInBounds_toArray, List.set_cons_zero, List.set_cons_succ, i64_w, i32_w]
       rfl
      refine one_ (i := 43) (N := some 96) #[true, true, true, true, true, true, true, true, true, true, true, true, true, true, true, true, true, true, true, true, true, true, true, true, true, true, true, true, true, true, true, true, true, true, true, true, true, true, true, true, true, true, true, true, false, false, false] rfl rfl (one_of HT_.out (by kernel_rfl)) (by decide) (fun K hK => ?_)
      refine goes_ Try.func20 (by kernel_rfl) rfl #[.agg #[.slice AKd8 K'.length cKd8, .slice AJd8 J'.length cJd8, .slice ALd8 L'.length cLd8, .slice ASd8 S'.length cSd8, .slice AUd8 U'.length cUd8]] (by rfl) rfl rfl (by simp only [List.map_toArray, List.map_cons, List.map_nil]; rfl) ?_
      with_reducible refine (ref_blk _ _ _ _ _ _ _ _ _ _ _ _ _ _ _ _).mono ?_
      rintro e wy ⟨rfl, hb⟩
      refine ⟨_, rfl, ?_⟩
      have HTY := Aside0.mk (HT1.out.trans (hb.mono HT1.out.size))
      clear hb
      refine hK.out _ _ ⟨(blk_cell ((HTY.out.block _ (blk_lt GH4.out)).trans GH4.out) 0).trans rfl, (blk_cell ((HTY.out.block _ (blk_lt GH4.out)).trans GH4.out) 1).trans rfl, (blk_cell ((HTY.out.block _ (blk_lt GH4.out)).trans GH4.out) 2).trans rfl, (blk_cell ((HTY.out.block _ (blk_lt GH4.out)).trans GH4.out) 3).trans rfl, (blk_cell ((HTY.out.block _ (blk_lt GH4.out)).trans GH4.out) 4).trans rfl, (blk_cell ((HTY.out.block _ (blk_lt GH4.out)).trans GH4.out) 5).trans rfl, (blk_cell ((HTY.out.block _ (blk_lt GH4.out)).trans GH4.out) 6).trans rfl, (blk_cell ((HTY.out.block _ (blk_lt GH8.out)).trans GH8.out) 0).trans rfl, (blk_cell ((HTY.out.block _ (blk_lt GH8.out)).trans GH8.out) 1).trans rfl, (blk_cell ((HTY.out.block _ (blk_lt GH8.out)).trans GH8.out) 2).trans rfl, (blk_cell ((HTY.out.block _ (blk_lt GH8.out)).trans GH8.out) 3).trans rfl, (blk_cell ((HTY.out.block _ (blk_lt GH8.out)).trans GH8.out) 4).trans rfl, (blk_cell ((HTY.out.block _ (blk_lt GH8.out)).trans GH8.out) 5).trans rfl, (blk_cell ((HTY.out.block _ (blk_lt GH8.out)).trans GH8.out) 6).trans rfl, (blk_cell ((HTY.out.block _ (blk_lt GX4.out)).trans GX4.out) 1).trans rfl, (blk_cell ((HTY.out.block _ (blk_lt GX4.out)).trans GX4.out) 2).trans rfl, (blk_cell ((HTY.out.block _ (blk_lt GD4.out)).trans GD4.out) 0).trans rfl, (blk_cell ((HTY.out.block _ (blk_lt GD4.out)).trans GD4.out) 1).trans rfl, (blk_cell ((HTY.out.block _ (blk_lt GD4.out)).trans GD4.out) 2).trans rfl, (blk_cell ((HTY.out.block _ (blk_lt GD4.out)).trans GD4.out) 3).trans rfl, (blk_cell ((HTY.out.block _ (blk_lt GD4.out)).trans GD4.out) 4).trans rfl, (blk_cell ((HTY.out.block _ (blk_lt GD8.out)).trans GD8.out) 0).trans rfl, (blk_cell ((HTY.out.block _ (blk_lt GD8.out)).trans GD8.out) 1).trans rfl, (blk_cell ((HTY.out.block _ (blk_lt GD8.out)).trans GD8.out) 2).trans rfl, (blk_cell ((HTY.out.block _ (blk_lt GD8.out)).trans GD8.out) 3).trans rfl, (blk_cell ((HTY.out.block _ (blk_lt GD8.out)).trans GD8.out) 4).trans rfl⟩ (fun hHeld => ?_)
      clear hK K
      refine norm_ (a' := ?_) ?_ ?_
      rotate_left
      ·
       show Act.put _ (some 96) _ = _
       simp only [Act.put, List.setIfInBounds_toArray, List.set_cons_zero, List.set_cons_succ, i64_w, i32_w]
       rfl
      refine one_ (i := 44) (N := some 97) #[true, true, true, true, true, true, true, true, true, true, true, true, true, true, true, true, true, true, true, true, true, true, true, true, true, true, true, true, true, true, true, true, true, true, true, true, true, true, true, true, true, true, true, true, true, false, false] rfl rfl (one_of HT_.out (by kernel_rfl)) (by decide) (fun K hK => ?_)
      refine goes_ Try.func23 (by kernel_rfl) rfl #[.agg #[.slice AKd4 K'.length cKd4, .slice AJd4 J'.length cJd4, .slice ALd4 L'.length cLd4, .slice ASd4 S'.length cSd4, .slice AUd4 U'.length cUd4], .agg #[.slice AKd8 K'.length cKd8, .slice AJd8 J'.length cJd8, .slice ALd8 L'.length cLd8, .slice ASd8 S'.length cSd8, .slice AUd8 U'.length cUd8]] (by rfl) rfl rfl (by simp only [List.map_toArray, List.map_cons, List.map_nil]; rfl) ?_
      with_reducible refine (same_blk 600000 (BD4.out.below HTY.out) (BD8.out.below HTY.out) SS.out).mono ?_
      rintro e wz ⟨rfl, hb⟩
      refine ⟨_, rfl, ?_⟩
      have HTZ := Aside0.mk (HTY.out.trans (hb.mono HTY.out.size))
      clear hb
      refine hK.out _ _ ⟨(blk_cell ((HTZ.out.block _ (blk_lt GH4.out)).trans GH4.out) 0).trans rfl, (blk_cell ((HTZ.out.block _ (blk_lt GH4.out)).trans GH4.out) 1).trans rfl, (blk_cell ((HTZ.out.block _ (blk_lt GH4.out)).trans GH4.out) 2).trans rfl, (blk_cell ((HTZ.out.block _ (blk_lt GH4.out)).trans GH4.out) 3).trans rfl, (blk_cell ((HTZ.out.block _ (blk_lt GH4.out)).trans GH4.out) 4).trans rfl, (blk_cell ((HTZ.out.block _ (blk_lt GH4.out)).trans GH4.out) 5).trans rfl, (blk_cell ((HTZ.out.block _ (blk_lt GH4.out)).trans GH4.out) 6).trans rfl, (blk_cell ((HTZ.out.block _ (blk_lt GH8.out)).trans GH8.out) 0).trans rfl, (blk_cell ((HTZ.out.block _ (blk_lt GH8.out)).trans GH8.out) 1).trans rfl, (blk_cell ((HTZ.out.block _ (blk_lt GH8.out)).trans GH8.out) 2).trans rfl, (blk_cell ((HTZ.out.block _ (blk_lt GH8.out)).trans GH8.out) 3).trans rfl, (blk_cell ((HTZ.out.block _ (blk_lt GH8.out)).trans GH8.out) 4).trans rfl, (blk_cell ((HTZ.out.block _ (blk_lt GH8.out)).trans GH8.out) 5).trans rfl, (blk_cell ((HTZ.out.block _ (blk_lt GH8.out)).trans GH8.out) 6).trans rfl, (blk_cell ((HTZ.out.block _ (blk_lt GX4.out)).trans GX4.out) 1).trans rfl, (blk_cell ((HTZ.out.block _ (blk_lt GX4.out)).trans GX4.out) 2).trans rfl, (blk_cell ((HTZ.out.block _ (blk_lt GD4.out)).trans GD4.out) 0).trans rfl, (blk_cell ((HTZ.out.block _ (blk_lt GD4.out)).trans GD4.out) 1).trans rfl, (blk_cell ((HTZ.out.block _ (blk_lt GD4.out)).trans GD4.out) 2).trans rfl, (blk_cell ((HTZ.out.block _ (blk_lt GD4.out)).trans GD4.out) 3).trans rfl, (blk_cell ((HTZ.out.block _ (blk_lt GD4.out)).trans GD4.out) 4).trans rfl, (blk_cell ((HTZ.out.block _ (blk_lt GD8.out)).trans GD8.out) 0).trans rfl, (blk_cell ((HTZ.out.block _ (blk_lt GD8.out)).trans GD8.out) 1).trans rfl, (blk_cell ((HTZ.out.block _ (blk_lt GD8.out)).trans GD8.out) 2).trans rfl, (blk_cell ((HTZ.out.block _ (blk_lt GD8.out)).trans GD8.out) 3).trans rfl, (blk_cell ((HTZ.out.block _ (blk_lt GD8.out)).trans GD8.out) 4).trans rfl⟩ (fun hHeld => ?_)
      clear hK K
      refine norm_ (a' := ?_) ?_ ?_
      rotate_left
      ·
       show Act.put _ (some 97) _ = _
       simp only [Act.put, List.setIfInBounds_toArray, List.set_cons_zero, List.set_cons_succ, i64_w, i32_w]
       rfl
      refine pure_ (i := 45) (N := some 98) (v := ?_) (a' := ?_) #[true, true, true, true, true, true, true, true, true, true, true, true, true, true, true, true, true, true, true, true, true, true, true, true, true, true, true, true, true, true, true, true, true, true, true, true, true, true, true, true, true, true, true, true, true, true, false] rfl rfl (any_of HT_.out (by kernel_rfl)) (fun _ _ _ h => h) (Or.inl ⟨by rfl, ?_⟩) ?_ ?_
      rotate_left
      ·
       intro w'
       go_simp
       with_reducible rfl
      rotate_left
      ·
       simp only [Act.put, List.setIfInBounds_toArray, List.set_cons_zero, List.set_cons_succ, i64_w, i32_w]
       rfl
      refine pure_ (i := 46) (N := some 4) (v := ?_) (a' := ?_) #[true, true, true, true, true, true, true, true, true, true, true, true, true, true, true, true, true, true, true, true, true, true, true, true, true, true, true, true, true, true, true, true, true, true, true, true, true, true, true, true, true, true, true, true, true, true, true] rfl rfl (any_of HT_.out (by kernel_rfl)) (fun _ _ _ h => h) (Or.inl ⟨by rfl, ?_⟩) ?_ ?_
      rotate_left
      ·
       intro w'
       go_simp
       with_reducible rfl
      rotate_left
      ·
       simp only [Act.put, List.setIfInBounds_toArray, List.set_cons_zero, List.set_cons_succ, i64_w, i32_w]
       rfl
      refine done_ (done_of HT_.out (by kernel_rfl)) ?_
      go_wp2_with fail
      go_ret
      exact ⟨rfl, BEL4.out.trans (HTZ.out.mono BEL4.out.size)⟩
end Go.Proofs.Ytdcgclhmfflheaa.PQ
