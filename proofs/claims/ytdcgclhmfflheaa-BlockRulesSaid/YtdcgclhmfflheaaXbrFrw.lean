import Derived.Test.YtdcgclhmfflheaaXbrFrul
import Derived.Test.YtdcgclhmfflheaaXbrFsh
namespace Go.Proofs.Ytdcgclhmfflheaa.PQ
open Go.RowKit Go.Proofs.YtdcgclhmfflheaaW.PrintWords Go.Proofs.YtdcgclhmfflheaaW.PrintLast Go.Proofs.YtdcgclhmfflheaaW.PrintMore
set_option linter.unusedVariables false
set_option linter.unusedSimpArgs false
set_option maxHeartbeats 40000000 in
set_option maxRecDepth 100000 in
theorem blockRules_walk (AK : Option Addr) (cK : Nat) (K : List S56) (AJ : Option Addr) (cJ : Nat) (J : List S54) (AL : Option Addr) (cL : Nat) (L : List S87) (AS : Option Addr) (cS : Nat) (S : List Bool) (AU : Option Addr) (cU : Nat) (U : List Bool) (a1 : Int) (w : World) (hB : InB w AK cK K AJ cJ J AL cL L AS cS S AU cU U) :
    Calls Try.prog 7 #[.agg #[.slice AK K.length cK, .slice AJ J.length cJ, .slice AL L.length cL, .slice AS S.length cS, .slice AU U.length cU], .int .i64 a1] w fun e w' => e = .returned (.bool true) ∧ Below w.heap.size w w' := by
  have hu27 := Try.underlying27
  have hu54 := Try.underlying54
  have hu56 := Try.underlying56
  obtain ⟨kd, hkd0, hkd1, hkd⟩ := kind_of a1
  obtain ⟨K', J', L', S', U', hc⟩ : ∃ K' J' L' S' U', CutOf K J L S U K' J' L' S' U' := ⟨_, _, _, _, _, rfl, rfl, rfl, rfl, rfl⟩
  have HC2 := Aside0.mk (cut_again hc)
  have CB := Aside0.mk (cut_bd hB hc)
  have HC := Aside0.mk hc
  have BP := Aside0.mk hB.blk
  have H60 : Aside0 (∀ x ∈ K', x.f2.size ≤ 60) := ⟨fun x hx => by rw [hc.eK] at hx; obtain ⟨y, _, rfl⟩ := List.mem_map.1 hx; unfold cutK; simp only [ByteArray.size_extract]; omega⟩
  clear hB hc
  obtain ⟨r, hr⟩ : ∃ r, r = rightS K' J' L' S' U' 8 4 := ⟨_, rfl⟩
  have HRF : Aside0 (block_Right.f 2000 K' J' L' S' U' 8 4 = some r) := ⟨by rw [hr]; have b := CB.out; exact right_eq 2000 K' J' L' S' U' 8 4 (by have := b.room; omega) (by have := b.lJ; omega) (by have := b.lL; omega) (by have := b.lK; have := b.lJ; have := b.lL; omega)⟩
  have HR := Aside0.mk hr
  clear hr
  go_enter Try.func7, Try.ntmps7
  go_upto_region 3 with (first | ((with_reducible refine gate_dst (N := 2) rfl ?_); refine box_event ?hg2 (N := 2) ?hd2 (cs := #[.slice AK K.length cK, .slice AJ J.length cJ, .slice AL L.length cL, .slice AS S.length cS, .slice AU U.length cU]) (t := 27) ?hr2 ?_; (case hd2 => rfl); (case hg2 => rfl); (case hr2 => first | (go_simp; done) | (go_simp; rfl)); intro gx gxE w1 gxH hb; have BEL := Aside0.mk hb; have n_BP := Aside0.mk (BP.out.below hb); clear BP; have BP := n_BP; clear n_BP; have GX := Aside0.mk gxH; have GE := Aside0.mk (Nat.le_of_eq gxE.symm); clear gxE gxH hb) | (go_at_call 17; refine (longcaselaw06_shown.calls true _ rfl).mono ?_; rintro e w2 ⟨rfl, hb⟩; have n_BEL := Aside0.mk (BEL.out.trans (hb.mono BEL.out.size)); have n_BP := Aside0.mk (BP.out.below hb); have n_GX := Aside0.mk ((hb.block _ (blk_lt GX.out)).trans GX.out); clear BEL; have BEL := n_BEL; clear n_BEL; clear BP; have BP := n_BP; clear n_BP; clear GX; have GX := n_GX; clear n_GX; clear hb; have zx0 : w2.cell? ⟨gx, 0, none⟩ = some (.slice AK K.length cK) := (blk_cell GX.out 0).trans rfl; have fx0 := blk_frozen GX.out 0; have zx1 : w2.cell? ⟨gx, 1, none⟩ = some (.slice AJ J.length cJ) := (blk_cell GX.out 1).trans rfl; have fx1 := blk_frozen GX.out 1; have zx2 : w2.cell? ⟨gx, 2, none⟩ = some (.slice AL L.length cL) := (blk_cell GX.out 2).trans rfl; have fx2 := blk_frozen GX.out 2; have zx3 : w2.cell? ⟨gx, 3, none⟩ = some (.slice AS S.length cS) := (blk_cell GX.out 3).trans rfl; have fx3 := blk_frozen GX.out 3; have zx4 : w2.cell? ⟨gx, 4, none⟩ = some (.slice AU U.length cU) := (blk_cell GX.out 4).trans rfl; have fx4 := blk_frozen GX.out 4) | (go_at_call 18; refine (few_blk BP.out HC.out).mono ?_; rintro e w3 ⟨AK', cK', AJ', cJ', AL', cL', AS', cS', AU', cU', rfl, hr3, hb⟩; have n_BEL := Aside0.mk (BEL.out.trans (hb.mono BEL.out.size)); have n_BP := Aside0.mk (BP.out.below hb); have n_GX := Aside0.mk ((hb.block _ (blk_lt GX.out)).trans GX.out); clear BEL; have BEL := n_BEL; clear n_BEL; clear BP; have BP := n_BP; clear n_BP; clear GX; have GX := n_GX; clear n_GX; have RW := Aside0.mk (hr3); clear hb hr3 BP; clear zx0 fx0 zx1 fx1 zx2 fx2 zx3 fx3 zx4 fx4; have zx0 : w3.cell? ⟨gx, 0, none⟩ = some (.slice AK K.length cK) := (blk_cell GX.out 0).trans rfl; have fx0 := blk_frozen GX.out 0; have zx1 : w3.cell? ⟨gx, 1, none⟩ = some (.slice AJ J.length cJ) := (blk_cell GX.out 1).trans rfl; have fx1 := blk_frozen GX.out 1; have zx2 : w3.cell? ⟨gx, 2, none⟩ = some (.slice AL L.length cL) := (blk_cell GX.out 2).trans rfl; have fx2 := blk_frozen GX.out 2; have zx3 : w3.cell? ⟨gx, 3, none⟩ = some (.slice AS S.length cS) := (blk_cell GX.out 3).trans rfl; have fx3 := blk_frozen GX.out 3; have zx4 : w3.cell? ⟨gx, 4, none⟩ = some (.slice AU U.length cU) := (blk_cell GX.out 4).trans rfl; have fx4 := blk_frozen GX.out 4))
  have RW4 := Aside0.mk (RW.out.far5 GX.out (by decide) (.slice AK' K'.length cK') (.slice AJ' J'.length cJ') (.slice AL' L'.length cL') (.slice AS' S'.length cS') (.slice AU' U'.length cU'))
  have GX4 := Aside0.mk (blk_put (blk_put (blk_put (blk_put (blk_put GX.out 0 (.slice AK' K'.length cK') rfl) 1 (.slice AJ' J'.length cJ') rfl) 2 (.slice AL' L'.length cL') rfl) 3 (.slice AS' S'.length cS') rfl) 4 (.slice AU' U'.length cU') rfl)
  have BEL4 := Aside0.mk (((((BEL.out.setCell (p := ⟨gx, 0, none⟩) GE.out (.slice AK' K'.length cK')).setCell (p := ⟨gx, 1, none⟩) GE.out (.slice AJ' J'.length cJ')).setCell (p := ⟨gx, 2, none⟩) GE.out (.slice AL' L'.length cL')).setCell (p := ⟨gx, 3, none⟩) GE.out (.slice AS' S'.length cS')).setCell (p := ⟨gx, 4, none⟩) GE.out (.slice AU' U'.length cU'))
  clear zx0 fx0 zx1 fx1 zx2 fx2 zx3 fx3 zx4 fx4
  clear RW GX BEL GE
  generalize (((((w3.setCell ⟨gx, 0, none⟩ (.slice AK' K'.length cK')).setCell ⟨gx, 1, none⟩ (.slice AJ' J'.length cJ')).setCell ⟨gx, 2, none⟩ (.slice AL' L'.length cL')).setCell ⟨gx, 3, none⟩ (.slice AS' S'.length cS')).setCell ⟨gx, 4, none⟩ (.slice AU' U'.length cU')) = w4 at RW4 GX4 BEL4 ⊢
  have BC := Aside0.mk RW4.out.blk
  clear RW4
  have zx0 : w4.cell? ⟨gx, 0, none⟩ = some (.slice AK' K'.length cK') := (blk_cell GX4.out 0).trans rfl
  have fx0 := blk_frozen GX4.out 0
  have zx1 : w4.cell? ⟨gx, 1, none⟩ = some (.slice AJ' J'.length cJ') := (blk_cell GX4.out 1).trans rfl
  have fx1 := blk_frozen GX4.out 1
  have zx2 : w4.cell? ⟨gx, 2, none⟩ = some (.slice AL' L'.length cL') := (blk_cell GX4.out 2).trans rfl
  have fx2 := blk_frozen GX4.out 2
  have zx3 : w4.cell? ⟨gx, 3, none⟩ = some (.slice AS' S'.length cS') := (blk_cell GX4.out 3).trans rfl
  have fx3 := blk_frozen GX4.out 3
  have zx4 : w4.cell? ⟨gx, 4, none⟩ = some (.slice AU' U'.length cU') := (blk_cell GX4.out 4).trans rfl
  have fx4 := blk_frozen GX4.out 4
  cases r
  · skip
    go_wp2_with (first | (go_at_call 22; refine (right_blk 2000 BC.out HRF.out).mono ?_; rintro e w5 ⟨rfl, hb⟩; have n_BEL4 := Aside0.mk (BEL4.out.trans (hb.mono BEL4.out.size)); have n_BC := Aside0.mk (BC.out.below hb); have n_GX4 := Aside0.mk ((hb.block _ (blk_lt GX4.out)).trans GX4.out); clear BEL4; have BEL4 := n_BEL4; clear n_BEL4; clear BC; have BC := n_BC; clear n_BC; clear GX4; have GX4 := n_GX4; clear n_GX4; clear hb; clear zx0 fx0 zx1 fx1 zx2 fx2 zx3 fx3 zx4 fx4; have zx0 : w5.cell? ⟨gx, 0, none⟩ = some (.slice AK' K'.length cK') := (blk_cell GX4.out 0).trans rfl; have fx0 := blk_frozen GX4.out 0; have zx1 : w5.cell? ⟨gx, 1, none⟩ = some (.slice AJ' J'.length cJ') := (blk_cell GX4.out 1).trans rfl; have fx1 := blk_frozen GX4.out 1; have zx2 : w5.cell? ⟨gx, 2, none⟩ = some (.slice AL' L'.length cL') := (blk_cell GX4.out 2).trans rfl; have fx2 := blk_frozen GX4.out 2; have zx3 : w5.cell? ⟨gx, 3, none⟩ = some (.slice AS' S'.length cS') := (blk_cell GX4.out 3).trans rfl; have fx3 := blk_frozen GX4.out 3; have zx4 : w5.cell? ⟨gx, 4, none⟩ = some (.slice AU' U'.length cU') := (blk_cell GX4.out 4).trans rfl; have fx4 := blk_frozen GX4.out 4))
    go_ret
    exact ⟨rfl, BEL4.out⟩
  · skip
    have HP := Aside0.mk (rules_p CB.out H60.out HR.out.symm kd hkd0)
    have LAT := Aside0.mk (lastAt_bd CB.out.j0)
    have hjl : J'.length ≤ 100 := CB.out.lJ
    have hkl : K'.length ≤ 40 := CB.out.lK
    have hk0 : 0 < K'.length := HP.out.n0
    go_upto_region 7 with (first | (go_at_call 22; refine (right_blk 2000 BC.out HRF.out).mono ?_; rintro e w5 ⟨rfl, hb⟩; have n_BEL4 := Aside0.mk (BEL4.out.trans (hb.mono BEL4.out.size)); have n_BC := Aside0.mk (BC.out.below hb); have n_GX4 := Aside0.mk ((hb.block _ (blk_lt GX4.out)).trans GX4.out); clear BEL4; have BEL4 := n_BEL4; clear n_BEL4; clear BC; have BC := n_BC; clear n_BC; clear GX4; have GX4 := n_GX4; clear n_GX4; clear hb; clear zx0 fx0 zx1 fx1 zx2 fx2 zx3 fx3 zx4 fx4; have zx0 : w5.cell? ⟨gx, 0, none⟩ = some (.slice AK' K'.length cK') := (blk_cell GX4.out 0).trans rfl; have fx0 := blk_frozen GX4.out 0; have zx1 : w5.cell? ⟨gx, 1, none⟩ = some (.slice AJ' J'.length cJ') := (blk_cell GX4.out 1).trans rfl; have fx1 := blk_frozen GX4.out 1; have zx2 : w5.cell? ⟨gx, 2, none⟩ = some (.slice AL' L'.length cL') := (blk_cell GX4.out 2).trans rfl; have fx2 := blk_frozen GX4.out 2; have zx3 : w5.cell? ⟨gx, 3, none⟩ = some (.slice AS' S'.length cS') := (blk_cell GX4.out 3).trans rfl; have fx3 := blk_frozen GX4.out 3; have zx4 : w5.cell? ⟨gx, 4, none⟩ = some (.slice AU' U'.length cU') := (blk_cell GX4.out 4).trans rfl; have fx4 := blk_frozen GX4.out 4) | (go_at_call 18; refine (few_blk BC.out HC2.out).mono ?_; rintro e w6 ⟨AKy, cKy, AJy, cJy, ALy, cLy, ASy, cSy, AUy, cUy, rfl, hry, hb⟩; have HBY := Aside0.mk hb; have RY := Aside0.mk hry; clear hb hry; clear zx0 fx0 zx1 fx1 zx2 fx2 zx3 fx3 zx4 fx4) | ((with_reducible refine gate_dst (N := 7) rfl ?_); refine box_event ?hg7 (N := 7) ?hd7 (cs := #[.slice none 0 0, .slice none 0 0, .slice none 0 0, .slice none 0 0, .slice none 0 0]) (t := 27) ?hr7 ?_; (case hd7 => rfl); (case hg7 => rfl); (case hr7 => first | (go_simp; done) | (go_simp; rfl)); intro gy gyE w7 gyH hb; have zq0 : w7.cell? ⟨gy, 0, none⟩ = some (.slice none 0 0) := (blk_cell gyH 0).trans rfl; have fq0 := blk_frozen gyH 0; have zq1 : w7.cell? ⟨gy, 1, none⟩ = some (.slice none 0 0) := (blk_cell gyH 1).trans rfl; have fq1 := blk_frozen gyH 1; have zq2 : w7.cell? ⟨gy, 2, none⟩ = some (.slice none 0 0) := (blk_cell gyH 2).trans rfl; have fq2 := blk_frozen gyH 2; have zq3 : w7.cell? ⟨gy, 3, none⟩ = some (.slice none 0 0) := (blk_cell gyH 3).trans rfl; have fq3 := blk_frozen gyH 3; have zq4 : w7.cell? ⟨gy, 4, none⟩ = some (.slice none 0 0) := (blk_cell gyH 4).trans rfl; have fq4 := blk_frozen gyH 4; have HBX := Aside0.mk hb; have GEQ := Aside0.mk (Nat.le_of_eq gyE.symm); have GYF := Aside0.mk gyH; clear hb gyE gyH))
    have hge : w5.heap.size ≤ gy := Nat.le_trans HBY.out.size GEQ.out
    have GEY := Aside0.mk hge
    clear hge
    have hb := (((((HBX.out.setCell (p := ⟨gy, 0, none⟩) GEQ.out (.slice AKy K'.length cKy)).setCell (p := ⟨gy, 1, none⟩) GEQ.out (.slice AJy J'.length cJy)).setCell (p := ⟨gy, 2, none⟩) GEQ.out (.slice ALy L'.length cLy)).setCell (p := ⟨gy, 3, none⟩) GEQ.out (.slice ASy S'.length cSy)).setCell (p := ⟨gy, 4, none⟩) GEQ.out (.slice AUy U'.length cUy))
    have HBY8 := Aside0.mk (HBY.out.trans (hb.mono HBY.out.size))
    have RY8 := Aside0.mk (RY.out.below hb)
    have GY8 := Aside0.mk (blk_put (blk_put (blk_put (blk_put (blk_put GYF.out 0 (.slice AKy K'.length cKy) rfl) 1 (.slice AJy J'.length cJy) rfl) 2 (.slice ALy L'.length cLy) rfl) 3 (.slice ASy S'.length cSy) rfl) 4 (.slice AUy U'.length cUy) rfl)
    clear hb HBY RY GYF HBX GEQ zq0 fq0 zq1 fq1 zq2 fq2 zq3 fq3 zq4 fq4
    generalize (((((w7.setCell ⟨gy, 0, none⟩ (.slice AKy K'.length cKy)).setCell ⟨gy, 1, none⟩ (.slice AJy J'.length cJy)).setCell ⟨gy, 2, none⟩ (.slice ALy L'.length cLy)).setCell ⟨gy, 3, none⟩ (.slice ASy S'.length cSy)).setCell ⟨gy, 4, none⟩ (.slice AUy U'.length cUy)) = w8 at HBY8 RY8 GY8 ⊢
    have zy0 : w8.cell? ⟨gy, 0, none⟩ = some (.slice AKy K'.length cKy) := (blk_cell GY8.out 0).trans rfl
    have fy0 := blk_frozen GY8.out 0
    have zy1 : w8.cell? ⟨gy, 1, none⟩ = some (.slice AJy J'.length cJy) := (blk_cell GY8.out 1).trans rfl
    have fy1 := blk_frozen GY8.out 1
    have zy2 : w8.cell? ⟨gy, 2, none⟩ = some (.slice ALy L'.length cLy) := (blk_cell GY8.out 2).trans rfl
    have fy2 := blk_frozen GY8.out 2
    have zy3 : w8.cell? ⟨gy, 3, none⟩ = some (.slice ASy S'.length cSy) := (blk_cell GY8.out 3).trans rfl
    have fy3 := blk_frozen GY8.out 3
    have zy4 : w8.cell? ⟨gy, 4, none⟩ = some (.slice AUy U'.length cUy) := (blk_cell GY8.out 4).trans rfl
    have fy4 := blk_frozen GY8.out 4
    have hx7 : True := trivial
    go_upto_if 25 with (fail)
    go_cut [8] from 25 to 43 (fun v8 wx => v8 = .int .i64 (lastAt J') ∧ Aside0 (Below w5.heap.size w5 wx) ∧ Aside0 (∃ y0 y1 y2 y3 y4 : Value, wx.heap[gy]? = some (.cells #[y0, y1, y2, y3, y4] 27 (0, 0))))
    case first =>
      by_cases hJ : J'.length = 0
      · skip
        have HJ := Aside0.mk hJ
        clear hJ
        have hd : decide (0 < J'.length) = false := decide_eq_false (by have := HJ.out; omega)
        simp only [hd]
        go_wp2_with fail
        go_meet
        case rel => exact ⟨by unfold lastAt; rw [if_pos HJ.out], HBY8, ⟨_, _, _, _, _, GY8.out⟩⟩
      · skip
        have HJ := Aside0.mk hJ
        have hd : decide (0 < J'.length) = true := decide_eq_true (by omega)
        have hj0 : 0 < J'.length := by omega
        obtain ⟨gj, rfl, hz⟩ := RY8.out.last hJ
        clear hJ
        have hj1 : (0 : Int) ≤ (J'.length : Int) - 1 := by omega
        have hj2 : (J'.length : Int) - 1 < (J'.length : Int) := by omega
        obtain ⟨at_, hat_⟩ : ∃ a, a = lastAt J' := ⟨_, rfl⟩
        rw [← hat_] at hz
        have HAT := Aside0.mk hat_
        clear hat_
        simp only [hd]
        go_upto_region 11 with (first | ((with_reducible refine gate_builtin (b := .append) (xs := #[.tmp 36, .tmp 39]) rfl ?_); at_builtin; refine Kd.R_append k54 (w0 := w5) w5.heap.size rfl (.tmp 36) (.tmp 39) 23 54 (.agg #[(.int .i64 0), (.int .i64 0)]) 16 rfl Try.underlying23 info54 rfl (by decide) (by omega) _ J' ⟨at_, 0⟩ [.int .i64 (at_), .int .i64 (0)] (fun _ => True) (fun _ => False) rfl rfl ?aP (fun _ hk => hk.elim) ?aF ?aO ?aB ?aS ?aL ?_; (case aP => exact k54_mkM _ _ _ (⟨at_, 0⟩ : S54)); (case aF => exact (fun _ _ => trivial)); (case aO => exact RY8.out.rJ); (case aB => exact HBY8.out); (case aS => exact HBY8.out.size); (case aL => omega); intro v9 w9 ho hb hg hat; have RA1 := Aside0.mk (RY8.out.app hg ho); have GA1 := Aside0.mk (RY8.out.box_app hg GY8.out); have HA1 := Aside0.mk hb; obtain ⟨AA1, cA1, eA⟩ := Kd.R_slice ho; subst eA; clear ho hb hg hat; have zp0 : w9.cell? ⟨gy, 0, none⟩ = some (.slice AKy K'.length cKy) := (blk_cell GA1.out 0).trans rfl; have fp0 := blk_frozen GA1.out 0; have zp1 : w9.cell? ⟨gy, 1, none⟩ = some (.slice (some ⟨gj, 0, none⟩) J'.length cJy) := (blk_cell GA1.out 1).trans rfl; have fp1 := blk_frozen GA1.out 1; have zp2 : w9.cell? ⟨gy, 2, none⟩ = some (.slice ALy L'.length cLy) := (blk_cell GA1.out 2).trans rfl; have fp2 := blk_frozen GA1.out 2; have zp3 : w9.cell? ⟨gy, 3, none⟩ = some (.slice ASy S'.length cSy) := (blk_cell GA1.out 3).trans rfl; have fp3 := blk_frozen GA1.out 3; have zp4 : w9.cell? ⟨gy, 4, none⟩ = some (.slice AUy U'.length cUy) := (blk_cell GA1.out 4).trans rfl; have fp4 := blk_frozen GA1.out 4))
        have HB10 := Aside0.mk (HA1.out.setCell (p := ⟨gy, 1, none⟩) GEY.out (.slice AA1 (J'.length + 1) cA1))
        have GY10 := Aside0.mk (blk_put GA1.out 1 (.slice AA1 (J'.length + 1) cA1) rfl)
        have BY10 := Aside0.mk (RA1.out.far GA1.out (by decide) 1 (.slice AA1 (J'.length + 1) cA1)).blk
        clear zp0 fp0 zp1 fp1 zp2 fp2 zp3 fp3 zp4 fp4
        clear zy0 fy0 zy1 fy1 zy2 fy2 zy3 fy3 zy4 fy4
        clear RA1 GA1 HA1 hz
        generalize (World.setCell _ ⟨gy, 1, none⟩ (.slice AA1 (J'.length + 1) cA1)) = w10 at HB10 GY10 BY10 ⊢
        have zr0 : w10.cell? ⟨gy, 0, none⟩ = some (.slice AKy K'.length cKy) := (blk_cell GY10.out 0).trans rfl
        have fr0 := blk_frozen GY10.out 0
        have zr1 : w10.cell? ⟨gy, 1, none⟩ = some (.slice AA1 (J'.length + 1) cA1) := (blk_cell GY10.out 1).trans rfl
        have fr1 := blk_frozen GY10.out 1
        have zr2 : w10.cell? ⟨gy, 2, none⟩ = some (.slice ALy L'.length cLy) := (blk_cell GY10.out 2).trans rfl
        have fr2 := blk_frozen GY10.out 2
        have zr3 : w10.cell? ⟨gy, 3, none⟩ = some (.slice ASy S'.length cSy) := (blk_cell GY10.out 3).trans rfl
        have fr3 := blk_frozen GY10.out 3
        have zr4 : w10.cell? ⟨gy, 4, none⟩ = some (.slice AUy U'.length cUy) := (blk_cell GY10.out 4).trans rfl
        have fr4 := blk_frozen GY10.out 4
        have hf1 := HP.out.r1 HJ.out
        rw [← HAT.out] at hf1
        have HF1 := Aside0.mk hf1
        clear hf1
        have hl1 : (J' ++ [(⟨at_, 0⟩ : S54)]).length = J'.length + 1 := by simp
        have hc1 := right_blk 2000 BY10.out HF1.out
        rw [hl1] at hc1
        have HC1 := Aside0.mk hc1
        clear hc1 hl1
        go_wp2_with (first | (go_at_call 22; refine HC1.out.mono ?_; rintro e w11 ⟨rfl, hb⟩; have HB11 := Aside0.mk (HB10.out.trans (hb.mono HB10.out.size)); have GY11 := Aside0.mk ((hb.block gy (blk_lt GY10.out)).trans GY10.out); clear hb))
        go_meet
        case rel => exact ⟨by rw [HAT.out], HB11, ⟨_, _, _, _, _, GY11.out⟩⟩
    case rest =>
      obtain ⟨rfl, HBY, HGY⟩ := hcut
      clear zy0 fy0 zy1 fy1 zy2 fy2 zy3 fy3 zy4 fy4
      clear GY8 HBY8 RY8 hx7
      obtain ⟨y0, y1, y2, y3, y4, GY⟩ := HGY.out
      have GYA := Aside0.mk GY
      clear GY HGY
      obtain ⟨at_, hat_⟩ : ∃ a, a = lastAt J' := ⟨_, rfl⟩
      rw [← hat_]
      have hatb : -9223372036854775808 ≤ at_ ∧ at_ ≤ 9223372036854775807 := by rw [hat_]; exact LAT.out
      have HAT := Aside0.mk hat_
      clear hat_
      obtain ⟨hat0, hat1⟩ := hatb
      have BCn := Aside0.mk (BC.out.below HBY.out)
      have GXn := Aside0.mk ((HBY.out.block gx (blk_lt GX4.out)).trans GX4.out)
      have zx0 : wc.cell? ⟨gx, 0, none⟩ = some (.slice AK' K'.length cK') := (blk_cell GXn.out 0).trans rfl
      have fx0 := blk_frozen GXn.out 0
      have zx1 : wc.cell? ⟨gx, 1, none⟩ = some (.slice AJ' J'.length cJ') := (blk_cell GXn.out 1).trans rfl
      have fx1 := blk_frozen GXn.out 1
      have zx2 : wc.cell? ⟨gx, 2, none⟩ = some (.slice AL' L'.length cL') := (blk_cell GXn.out 2).trans rfl
      have fx2 := blk_frozen GXn.out 2
      have zx3 : wc.cell? ⟨gx, 3, none⟩ = some (.slice AS' S'.length cS') := (blk_cell GXn.out 3).trans rfl
      have fx3 := blk_frozen GXn.out 3
      have zx4 : wc.cell? ⟨gx, 4, none⟩ = some (.slice AU' U'.length cU') := (blk_cell GXn.out 4).trans rfl
      have fx4 := blk_frozen GXn.out 4
      go_upto_region 14 with (first | (go_at_call 18; refine (few_blk BCn.out HC2.out).mono ?_; rintro e w12 ⟨AKn, cKn, AJn, cJn, ALn, cLn, ASn, cSn, AUn, cUn, rfl, hry, hb⟩; have HBn := Aside0.mk (HBY.out.trans (hb.mono HBY.out.size)); have RYn := Aside0.mk (hry.lower HBY.out.size); have GYn := Aside0.mk ((hb.block gy (blk_lt GYA.out)).trans GYA.out); clear hb hry; clear zx0 fx0 zx1 fx1 zx2 fx2 zx3 fx3 zx4 fx4; have zy0 : w12.cell? ⟨gy, 0, none⟩ = some (y0) := (blk_cell GYn.out 0).trans rfl; have fy0 := blk_frozen GYn.out 0; have zy1 : w12.cell? ⟨gy, 1, none⟩ = some (y1) := (blk_cell GYn.out 1).trans rfl; have fy1 := blk_frozen GYn.out 1; have zy2 : w12.cell? ⟨gy, 2, none⟩ = some (y2) := (blk_cell GYn.out 2).trans rfl; have fy2 := blk_frozen GYn.out 2; have zy3 : w12.cell? ⟨gy, 3, none⟩ = some (y3) := (blk_cell GYn.out 3).trans rfl; have fy3 := blk_frozen GYn.out 3; have zy4 : w12.cell? ⟨gy, 4, none⟩ = some (y4) := (blk_cell GYn.out 4).trans rfl; have fy4 := blk_frozen GYn.out 4))
      have RYm := Aside0.mk (RYn.out.far5 GYn.out (by decide) (.slice AKn K'.length cKn) (.slice AJn J'.length cJn) (.slice ALn L'.length cLn) (.slice ASn S'.length cSn) (.slice AUn U'.length cUn))
      have GYm := Aside0.mk (blk_put (blk_put (blk_put (blk_put (blk_put GYn.out 0 (.slice AKn K'.length cKn) rfl) 1 (.slice AJn J'.length cJn) rfl) 2 (.slice ALn L'.length cLn) rfl) 3 (.slice ASn S'.length cSn) rfl) 4 (.slice AUn U'.length cUn) rfl)
      have HBm := Aside0.mk (((((HBn.out.setCell (p := ⟨gy, 0, none⟩) GEY.out (.slice AKn K'.length cKn)).setCell (p := ⟨gy, 1, none⟩) GEY.out (.slice AJn J'.length cJn)).setCell (p := ⟨gy, 2, none⟩) GEY.out (.slice ALn L'.length cLn)).setCell (p := ⟨gy, 3, none⟩) GEY.out (.slice ASn S'.length cSn)).setCell (p := ⟨gy, 4, none⟩) GEY.out (.slice AUn U'.length cUn))
      clear zy0 fy0 zy1 fy1 zy2 fy2 zy3 fy3 zy4 fy4
      clear HBY GYA HBn RYn GYn BCn GXn
      generalize (((((w12.setCell ⟨gy, 0, none⟩ (.slice AKn K'.length cKn)).setCell ⟨gy, 1, none⟩ (.slice AJn J'.length cJn)).setCell ⟨gy, 2, none⟩ (.slice ALn L'.length cLn)).setCell ⟨gy, 3, none⟩ (.slice ASn S'.length cSn)).setCell ⟨gy, 4, none⟩ (.slice AUn U'.length cUn)) = w13 at RYm GYm HBm ⊢
      have HBY := HBm
      have RY := RYm
      have GYA := GYm
      clear HBm RYm GYm
      have zy0 : w13.cell? ⟨gy, 0, none⟩ = some (.slice AKn K'.length cKn) := (blk_cell GYA.out 0).trans rfl
      have fy0 := blk_frozen GYA.out 0
      have zy1 : w13.cell? ⟨gy, 1, none⟩ = some (.slice AJn J'.length cJn) := (blk_cell GYA.out 1).trans rfl
      have fy1 := blk_frozen GYA.out 1
      have zy2 : w13.cell? ⟨gy, 2, none⟩ = some (.slice ALn L'.length cLn) := (blk_cell GYA.out 2).trans rfl
      have fy2 := blk_frozen GYA.out 2
      have zy3 : w13.cell? ⟨gy, 3, none⟩ = some (.slice ASn S'.length cSn) := (blk_cell GYA.out 3).trans rfl
      have fy3 := blk_frozen GYA.out 3
      have zy4 : w13.cell? ⟨gy, 4, none⟩ = some (.slice AUn U'.length cUn) := (blk_cell GYA.out 4).trans rfl
      have fy4 := blk_frozen GYA.out 4
      go_upto_if 47 with (fail)
      go_cut [] from 47 to 64 (fun wx => Aside0 (Below w5.heap.size w5 wx) ∧ Aside0 (∃ y0 y1 y2 y3 y4 : Value, wx.heap[gy]? = some (.cells #[y0, y1, y2, y3, y4] 27 (0, 0))))
      case first =>
        by_cases hmx : at_ < 9223372036854775807
        · skip
          have HF2 : Aside0 (block_Right.f 2000 K' (J' ++ [⟨at_ + 1, kd⟩]) L' S' U' 8 4 = some (decide (kd < (K'.length : Int)))) := ⟨by rw [HAT.out]; exact HP.out.r2⟩
          obtain ⟨q, hq⟩ : ∃ q, q = decide (kd < (K'.length : Int)) := ⟨_, rfl⟩
          rw [← hq] at HF2
          go_upto_region 17 with (first | ((with_reducible refine gate_builtin (b := .append) (xs := #[.tmp 51, .tmp 56]) rfl ?_); at_builtin; refine Kd.R_append k54 (w0 := w5) w5.heap.size rfl (.tmp 51) (.tmp 56) 23 54 (.agg #[(.int .i64 0), (.int .i64 0)]) 16 rfl Try.underlying23 info54 rfl (by decide) (by omega) _ J' ⟨at_ + 1, kd⟩ [.int .i64 (at_ + 1), .int .i64 (kd)] (fun _ => True) (fun _ => False) rfl rfl ?aP (fun _ hk => hk.elim) ?aF ?aO ?aB ?aS ?aL ?_; (case aP => exact k54_mkM _ _ _ (⟨at_ + 1, kd⟩ : S54)); (case aF => exact (fun _ _ => trivial)); (case aO => exact RY.out.rJ); (case aB => exact HBY.out); (case aS => exact HBY.out.size); (case aL => omega); intro v14 w14 ho hb hg hat; have RA2 := Aside0.mk (RY.out.app hg ho); have GA2 := Aside0.mk (RY.out.box_app hg GYA.out); have HA2 := Aside0.mk hb; obtain ⟨AA2, cA2, eA⟩ := Kd.R_slice ho; subst eA; clear ho hb hg hat; have zp0 : w14.cell? ⟨gy, 0, none⟩ = some (.slice AKn K'.length cKn) := (blk_cell GA2.out 0).trans rfl; have fp0 := blk_frozen GA2.out 0; have zp1 : w14.cell? ⟨gy, 1, none⟩ = some (.slice AJn J'.length cJn) := (blk_cell GA2.out 1).trans rfl; have fp1 := blk_frozen GA2.out 1; have zp2 : w14.cell? ⟨gy, 2, none⟩ = some (.slice ALn L'.length cLn) := (blk_cell GA2.out 2).trans rfl; have fp2 := blk_frozen GA2.out 2; have zp3 : w14.cell? ⟨gy, 3, none⟩ = some (.slice ASn S'.length cSn) := (blk_cell GA2.out 3).trans rfl; have fp3 := blk_frozen GA2.out 3; have zp4 : w14.cell? ⟨gy, 4, none⟩ = some (.slice AUn U'.length cUn) := (blk_cell GA2.out 4).trans rfl; have fp4 := blk_frozen GA2.out 4))
          have HB15 := Aside0.mk (HA2.out.setCell (p := ⟨gy, 1, none⟩) GEY.out (.slice AA2 (J'.length + 1) cA2))
          have GY15 := Aside0.mk (blk_put GA2.out 1 (.slice AA2 (J'.length + 1) cA2) rfl)
          have BY15 := Aside0.mk (RA2.out.far GA2.out (by decide) 1 (.slice AA2 (J'.length + 1) cA2)).blk
          clear zp0 fp0 zp1 fp1 zp2 fp2 zp3 fp3 zp4 fp4
          clear zy0 fy0 zy1 fy1 zy2 fy2 zy3 fy3 zy4 fy4
          clear RA2 GA2 HA2
          generalize (World.setCell _ ⟨gy, 1, none⟩ (.slice AA2 (J'.length + 1) cA2)) = w15 at HB15 GY15 BY15 ⊢
          have zr0 : w15.cell? ⟨gy, 0, none⟩ = some (.slice AKn K'.length cKn) := (blk_cell GY15.out 0).trans rfl
          have fr0 := blk_frozen GY15.out 0
          have zr1 : w15.cell? ⟨gy, 1, none⟩ = some (.slice AA2 (J'.length + 1) cA2) := (blk_cell GY15.out 1).trans rfl
          have fr1 := blk_frozen GY15.out 1
          have zr2 : w15.cell? ⟨gy, 2, none⟩ = some (.slice ALn L'.length cLn) := (blk_cell GY15.out 2).trans rfl
          have fr2 := blk_frozen GY15.out 2
          have zr3 : w15.cell? ⟨gy, 3, none⟩ = some (.slice ASn S'.length cSn) := (blk_cell GY15.out 3).trans rfl
          have fr3 := blk_frozen GY15.out 3
          have zr4 : w15.cell? ⟨gy, 4, none⟩ = some (.slice AUn U'.length cUn) := (blk_cell GY15.out 4).trans rfl
          have fr4 := blk_frozen GY15.out 4
          have hl1 : (J' ++ [(⟨at_ + 1, kd⟩ : S54)]).length = J'.length + 1 := by simp
          have hc1 := right_blk 2000 BY15.out HF2.out
          rw [hl1] at hc1
          have HC1 := Aside0.mk hc1
          clear hc1 hl1
          cases q
          · skip
            have hq' : decide (kd < (K'.length : Int)) = false := hq.symm
            clear hq
            go_wp2_with (first | (go_at_call 22; refine HC1.out.mono ?_; rintro e w16 ⟨rfl, hb⟩; have HB16 := Aside0.mk (HB15.out.trans (hb.mono HB15.out.size)); have GY16 := Aside0.mk ((hb.block gy (blk_lt GY15.out)).trans GY15.out); clear hb))
            go_meet
            case rel => exact ⟨HB16, ⟨_, _, _, _, _, GY16.out⟩⟩
          · skip
            have hq' : decide (kd < (K'.length : Int)) = true := hq.symm
            clear hq
            go_wp2_with (first | (go_at_call 22; refine HC1.out.mono ?_; rintro e w16 ⟨rfl, hb⟩; have HB16 := Aside0.mk (HB15.out.trans (hb.mono HB15.out.size)); have GY16 := Aside0.mk ((hb.block gy (blk_lt GY15.out)).trans GY15.out); clear hb))
            go_meet
            case rel => exact ⟨HB16, ⟨_, _, _, _, _, GY16.out⟩⟩
        · skip
          have hd2 : decide (at_ < 9223372036854775807) = false := decide_eq_false hmx
          go_wp2_with fail
          go_meet
          case rel => exact ⟨HBY, ⟨_, _, _, _, _, GYA.out⟩⟩
      case rest =>
        clear zy0 fy0 zy1 fy1 zy2 fy2 zy3 fy3 zy4 fy4
        clear RY GYA HBY
        obtain ⟨HBY, HGY⟩ := hcut
        obtain ⟨y0, y1, y2, y3, y4, GY⟩ := HGY.out
        have GYA := Aside0.mk GY
        clear GY HGY
        have BCn := Aside0.mk (BC.out.below HBY.out)
        have GXn := Aside0.mk ((HBY.out.block gx (blk_lt GX4.out)).trans GX4.out)
        have zx0 : wc.cell? ⟨gx, 0, none⟩ = some (.slice AK' K'.length cK') := (blk_cell GXn.out 0).trans rfl
        have fx0 := blk_frozen GXn.out 0
        have zx1 : wc.cell? ⟨gx, 1, none⟩ = some (.slice AJ' J'.length cJ') := (blk_cell GXn.out 1).trans rfl
        have fx1 := blk_frozen GXn.out 1
        have zx2 : wc.cell? ⟨gx, 2, none⟩ = some (.slice AL' L'.length cL') := (blk_cell GXn.out 2).trans rfl
        have fx2 := blk_frozen GXn.out 2
        have zx3 : wc.cell? ⟨gx, 3, none⟩ = some (.slice AS' S'.length cS') := (blk_cell GXn.out 3).trans rfl
        have fx3 := blk_frozen GXn.out 3
        have zx4 : wc.cell? ⟨gx, 4, none⟩ = some (.slice AU' U'.length cU') := (blk_cell GXn.out 4).trans rfl
        have fx4 := blk_frozen GXn.out 4
        go_upto_region 20 with (first | (go_at_call 18; refine (few_blk BCn.out HC2.out).mono ?_; rintro e w17 ⟨AKm, cKm, AJm, cJm, ALm, cLm, ASm, cSm, AUm, cUm, rfl, hry, hb⟩; have HBn := Aside0.mk (HBY.out.trans (hb.mono HBY.out.size)); have RYn := Aside0.mk (hry.lower HBY.out.size); have GYn := Aside0.mk ((hb.block gy (blk_lt GYA.out)).trans GYA.out); clear hb hry; clear zx0 fx0 zx1 fx1 zx2 fx2 zx3 fx3 zx4 fx4; have zy0 : w17.cell? ⟨gy, 0, none⟩ = some (y0) := (blk_cell GYn.out 0).trans rfl; have fy0 := blk_frozen GYn.out 0; have zy1 : w17.cell? ⟨gy, 1, none⟩ = some (y1) := (blk_cell GYn.out 1).trans rfl; have fy1 := blk_frozen GYn.out 1; have zy2 : w17.cell? ⟨gy, 2, none⟩ = some (y2) := (blk_cell GYn.out 2).trans rfl; have fy2 := blk_frozen GYn.out 2; have zy3 : w17.cell? ⟨gy, 3, none⟩ = some (y3) := (blk_cell GYn.out 3).trans rfl; have fy3 := blk_frozen GYn.out 3; have zy4 : w17.cell? ⟨gy, 4, none⟩ = some (y4) := (blk_cell GYn.out 4).trans rfl; have fy4 := blk_frozen GYn.out 4))
        have RYm := Aside0.mk (RYn.out.far5 GYn.out (by decide) (.slice AKm K'.length cKm) (.slice AJm J'.length cJm) (.slice ALm L'.length cLm) (.slice ASm S'.length cSm) (.slice AUm U'.length cUm))
        have GYm := Aside0.mk (blk_put (blk_put (blk_put (blk_put (blk_put GYn.out 0 (.slice AKm K'.length cKm) rfl) 1 (.slice AJm J'.length cJm) rfl) 2 (.slice ALm L'.length cLm) rfl) 3 (.slice ASm S'.length cSm) rfl) 4 (.slice AUm U'.length cUm) rfl)
        have HBm := Aside0.mk (((((HBn.out.setCell (p := ⟨gy, 0, none⟩) GEY.out (.slice AKm K'.length cKm)).setCell (p := ⟨gy, 1, none⟩) GEY.out (.slice AJm J'.length cJm)).setCell (p := ⟨gy, 2, none⟩) GEY.out (.slice ALm L'.length cLm)).setCell (p := ⟨gy, 3, none⟩) GEY.out (.slice ASm S'.length cSm)).setCell (p := ⟨gy, 4, none⟩) GEY.out (.slice AUm U'.length cUm))
        clear zy0 fy0 zy1 fy1 zy2 fy2 zy3 fy3 zy4 fy4
        clear HBY GYA HBn RYn GYn BCn GXn
        generalize (((((w17.setCell ⟨gy, 0, none⟩ (.slice AKm K'.length cKm)).setCell ⟨gy, 1, none⟩ (.slice AJm J'.length cJm)).setCell ⟨gy, 2, none⟩ (.slice ALm L'.length cLm)).setCell ⟨gy, 3, none⟩ (.slice ASm S'.length cSm)).setCell ⟨gy, 4, none⟩ (.slice AUm U'.length cUm)) = w18 at RYm GYm HBm ⊢
        have HBY := HBm
        have RY := RYm
        have GYA := GYm
        clear HBm RYm GYm
        have zy0 : w18.cell? ⟨gy, 0, none⟩ = some (.slice AKm K'.length cKm) := (blk_cell GYA.out 0).trans rfl
        have fy0 := blk_frozen GYA.out 0
        have zy1 : w18.cell? ⟨gy, 1, none⟩ = some (.slice AJm J'.length cJm) := (blk_cell GYA.out 1).trans rfl
        have fy1 := blk_frozen GYA.out 1
        have zy2 : w18.cell? ⟨gy, 2, none⟩ = some (.slice ALm L'.length cLm) := (blk_cell GYA.out 2).trans rfl
        have fy2 := blk_frozen GYA.out 2
        have zy3 : w18.cell? ⟨gy, 3, none⟩ = some (.slice ASm S'.length cSm) := (blk_cell GYA.out 3).trans rfl
        have fy3 := blk_frozen GYA.out 3
        have zy4 : w18.cell? ⟨gy, 4, none⟩ = some (.slice AUm U'.length cUm) := (blk_cell GYA.out 4).trans rfl
        have fy4 := blk_frozen GYA.out 4
        go_upto_region 21 with (first | ((with_reducible refine gate_dst (N := 69) rfl ?_); refine Kd.R_make Kd.bool w18.heap.size 4 rfl (N := 69) rfl 25 _ _ rfl ((K'.length : Int) + 1) rfl rfl Try.underlying25 (.bool false) 1 info4 rfl (by decide) (by omega) false (ok := fun _ => True) (okp := fun _ => False) rfl (fun _ h => h.elim) trivial (by omega) (by omega) (Below.refl _ _) (Nat.le_refl _) ?_; intro v19 w19 ho hb hg hown; rw [show ((K'.length : Int) + 1).toNat = K'.length + 1 by omega] at ho; have RM := Aside0.mk (RY.out.std hb (Kd.R_lower ho HBY.out.size) hown); have GM := Aside0.mk ((hb.block gy (blk_lt GYA.out)).trans GYA.out); have HM := Aside0.mk (HBY.out.trans (hb.mono HBY.out.size)); obtain ⟨AM, cM, eM⟩ := Kd.R_slice ho; subst eM; clear ho hb hg hown; have zp0 : w19.cell? ⟨gy, 0, none⟩ = some (.slice AKm K'.length cKm) := (blk_cell GM.out 0).trans rfl; have fp0 := blk_frozen GM.out 0; have zp1 : w19.cell? ⟨gy, 1, none⟩ = some (.slice AJm J'.length cJm) := (blk_cell GM.out 1).trans rfl; have fp1 := blk_frozen GM.out 1; have zp2 : w19.cell? ⟨gy, 2, none⟩ = some (.slice ALm L'.length cLm) := (blk_cell GM.out 2).trans rfl; have fp2 := blk_frozen GM.out 2; have zp3 : w19.cell? ⟨gy, 3, none⟩ = some (.slice ASm S'.length cSm) := (blk_cell GM.out 3).trans rfl; have fp3 := blk_frozen GM.out 3; have zp4 : w19.cell? ⟨gy, 4, none⟩ = some (.slice AUm U'.length cUm) := (blk_cell GM.out 4).trans rfl; have fp4 := blk_frozen GM.out 4))
        have HB20 := Aside0.mk (HM.out.setCell (p := ⟨gy, 3, none⟩) GEY.out (.slice AM (K'.length + 1) cM))
        have GY20 := Aside0.mk (blk_put GM.out 3 (.slice AM (K'.length + 1) cM) rfl)
        have BY20 := Aside0.mk (RM.out.far GM.out (by decide) 3 (.slice AM (K'.length + 1) cM)).blk
        clear zp0 fp0 zp1 fp1 zp2 fp2 zp3 fp3 zp4 fp4
        clear zy0 fy0 zy1 fy1 zy2 fy2 zy3 fy3 zy4 fy4
        clear RM GM HM RY GYA HBY
        generalize (World.setCell _ ⟨gy, 3, none⟩ (.slice AM (K'.length + 1) cM)) = w20 at HB20 GY20 BY20 ⊢
        have BC20 := Aside0.mk (BC.out.below HB20.out)
        have GX20 := Aside0.mk ((HB20.out.block gx (blk_lt GX4.out)).trans GX4.out)
        have zx0 : w20.cell? ⟨gx, 0, none⟩ = some (.slice AK' K'.length cK') := (blk_cell GX20.out 0).trans rfl
        have fx0 := blk_frozen GX20.out 0
        have zx1 : w20.cell? ⟨gx, 1, none⟩ = some (.slice AJ' J'.length cJ') := (blk_cell GX20.out 1).trans rfl
        have fx1 := blk_frozen GX20.out 1
        have zx2 : w20.cell? ⟨gx, 2, none⟩ = some (.slice AL' L'.length cL') := (blk_cell GX20.out 2).trans rfl
        have fx2 := blk_frozen GX20.out 2
        have zx3 : w20.cell? ⟨gx, 3, none⟩ = some (.slice AS' S'.length cS') := (blk_cell GX20.out 3).trans rfl
        have fx3 := blk_frozen GX20.out 3
        have zx4 : w20.cell? ⟨gx, 4, none⟩ = some (.slice AU' U'.length cU') := (blk_cell GX20.out 4).trans rfl
        have fx4 := blk_frozen GX20.out 4
        go_upto_region 22 with (first | (go_at_call 18; refine (few_blk BC20.out HC2.out).mono ?_; rintro e w21 ⟨AKz, cKz, AJz, cJz, ALz, cLz, ASz, cSz, AUz, cUz, rfl, hrz, hb⟩; have HBZ := Aside0.mk hb; have RZ := Aside0.mk hrz; clear hb hrz; clear zx0 fx0 zx1 fx1 zx2 fx2 zx3 fx3 zx4 fx4) | ((with_reducible refine gate_dst (N := 9) rfl ?_); refine box_event ?hg9 (N := 9) ?hd9 (cs := #[.slice none 0 0, .slice none 0 0, .slice none 0 0, .slice none 0 0, .slice none 0 0]) (t := 27) ?hr9 ?_; (case hd9 => rfl); (case hg9 => rfl); (case hr9 => first | (go_simp; done) | (go_simp; rfl)); intro gz gzE w22 gzH hb; have zq0 : w22.cell? ⟨gz, 0, none⟩ = some (.slice none 0 0) := (blk_cell gzH 0).trans rfl; have fq0 := blk_frozen gzH 0; have zq1 : w22.cell? ⟨gz, 1, none⟩ = some (.slice none 0 0) := (blk_cell gzH 1).trans rfl; have fq1 := blk_frozen gzH 1; have zq2 : w22.cell? ⟨gz, 2, none⟩ = some (.slice none 0 0) := (blk_cell gzH 2).trans rfl; have fq2 := blk_frozen gzH 2; have zq3 : w22.cell? ⟨gz, 3, none⟩ = some (.slice none 0 0) := (blk_cell gzH 3).trans rfl; have fq3 := blk_frozen gzH 3; have zq4 : w22.cell? ⟨gz, 4, none⟩ = some (.slice none 0 0) := (blk_cell gzH 4).trans rfl; have fq4 := blk_frozen gzH 4; have HBX := Aside0.mk hb; have GEQ := Aside0.mk (Nat.le_of_eq gzE.symm); have GZF := Aside0.mk gzH; clear hb gzE gzH))
        have hge : w20.heap.size ≤ gz := Nat.le_trans HBZ.out.size GEQ.out
        have GEZ := Aside0.mk hge
        clear hge
        have hb := (((((HBX.out.setCell (p := ⟨gz, 0, none⟩) GEQ.out (.slice AKz K'.length cKz)).setCell (p := ⟨gz, 1, none⟩) GEQ.out (.slice AJz J'.length cJz)).setCell (p := ⟨gz, 2, none⟩) GEQ.out (.slice ALz L'.length cLz)).setCell (p := ⟨gz, 3, none⟩) GEQ.out (.slice ASz S'.length cSz)).setCell (p := ⟨gz, 4, none⟩) GEQ.out (.slice AUz U'.length cUz))
        have HBZ2 := Aside0.mk (HBZ.out.trans (hb.mono HBZ.out.size))
        have RZ2 := Aside0.mk (RZ.out.below hb)
        have GZ2 := Aside0.mk (blk_put (blk_put (blk_put (blk_put (blk_put GZF.out 0 (.slice AKz K'.length cKz) rfl) 1 (.slice AJz J'.length cJz) rfl) 2 (.slice ALz L'.length cLz) rfl) 3 (.slice ASz S'.length cSz) rfl) 4 (.slice AUz U'.length cUz) rfl)
        clear hb HBZ RZ GZF HBX GEQ zq0 fq0 zq1 fq1 zq2 fq2 zq3 fq3 zq4 fq4
        generalize (((((w22.setCell ⟨gz, 0, none⟩ (.slice AKz K'.length cKz)).setCell ⟨gz, 1, none⟩ (.slice AJz J'.length cJz)).setCell ⟨gz, 2, none⟩ (.slice ALz L'.length cLz)).setCell ⟨gz, 3, none⟩ (.slice ASz S'.length cSz)).setCell ⟨gz, 4, none⟩ (.slice AUz U'.length cUz)) = w23 at HBZ2 RZ2 GZ2 ⊢
        obtain ⟨gk, rfl, hgk, hzk, hfk, hset⟩ := RZ2.out.first hk0
        have zz0 : w23.cell? ⟨gz, 0, none⟩ = some (.slice (some ⟨gk, 0, none⟩) K'.length cKz) := (blk_cell GZ2.out 0).trans rfl
        have fz0 := blk_frozen GZ2.out 0
        have zz1 : w23.cell? ⟨gz, 1, none⟩ = some (.slice AJz J'.length cJz) := (blk_cell GZ2.out 1).trans rfl
        have fz1 := blk_frozen GZ2.out 1
        have zz2 : w23.cell? ⟨gz, 2, none⟩ = some (.slice ALz L'.length cLz) := (blk_cell GZ2.out 2).trans rfl
        have fz2 := blk_frozen GZ2.out 2
        have zz3 : w23.cell? ⟨gz, 3, none⟩ = some (.slice ASz S'.length cSz) := (blk_cell GZ2.out 3).trans rfl
        have fz3 := blk_frozen GZ2.out 3
        have zz4 : w23.cell? ⟨gz, 4, none⟩ = some (.slice AUz U'.length cUz) := (blk_cell GZ2.out 4).trans rfl
        have fz4 := blk_frozen GZ2.out 4
        have hne : gz ≠ gk := fun e => by subst e; obtain ⟨cs, hcs⟩ := Kd.R_typed RZ2.out.rK gz (by simp [Value.ownBlock]); rw [GZ2.out] at hcs; injection hcs with hcs; injection hcs with _ hcs; exact absurd hcs (by decide)
        have HSET := Aside0.mk (hset ⟨#[0]⟩)
        clear hset
        have hz0 : (0 : Int) < (K'.length : Int) := by omega
        go_upto_region 24 with (fail)
        have hs := HSET.out
        rw [show K'.length = (K'.set 0 (⟨(K'.getD 0 z56).f0, (K'.getD 0 z56).f1, ⟨#[0]⟩⟩ : S56)).length from List.length_set.symm] at hs
        have BZ := Aside0.mk hs.blk
        clear hs
        have GZ3 := Aside0.mk ((Below.heap_setCell w23 ⟨gk, 2, none⟩ (.string ⟨#[0]⟩) gz hne).trans GZ2.out)
        have hgk' : w20.heap.size ≤ gk := hgk
        have HBZ3 := Aside0.mk (HBZ2.out.setCell (p := ⟨gk, 2, none⟩) hgk' (.string ⟨#[0]⟩))
        clear zz0 fz0 zz1 fz1 zz2 fz2 zz3 fz3 zz4 fz4
        clear hzk hfk hgk hgk' hne HSET RZ2 GZ2 HBZ2
        generalize (w23.setCell ⟨gk, 2, none⟩ (.string ⟨#[0]⟩)) = w24 at BZ GZ3 HBZ3 ⊢
        have BY24 := Aside0.mk (BY20.out.below HBZ3.out)
        have GY24 := Aside0.mk ((HBZ3.out.block gy (blk_lt GY20.out)).trans GY20.out)
        have zy0 : w24.cell? ⟨gy, 0, none⟩ = some (.slice AKm K'.length cKm) := (blk_cell GY24.out 0).trans rfl
        have fy0 := blk_frozen GY24.out 0
        have zy1 : w24.cell? ⟨gy, 1, none⟩ = some (.slice AJm J'.length cJm) := (blk_cell GY24.out 1).trans rfl
        have fy1 := blk_frozen GY24.out 1
        have zy2 : w24.cell? ⟨gy, 2, none⟩ = some (.slice ALm L'.length cLm) := (blk_cell GY24.out 2).trans rfl
        have fy2 := blk_frozen GY24.out 2
        have zy3 : w24.cell? ⟨gy, 3, none⟩ = some (.slice AM (K'.length + 1) cM) := (blk_cell GY24.out 3).trans rfl
        have fy3 := blk_frozen GY24.out 3
        have zy4 : w24.cell? ⟨gy, 4, none⟩ = some (.slice AUm U'.length cUm) := (blk_cell GY24.out 4).trans rfl
        have fy4 := blk_frozen GY24.out 4
        have HF3 := Aside0.mk HP.out.r3
        have HF4 := Aside0.mk HP.out.r4
        have bel20 := Aside0.mk (BEL4.out.trans (HB20.out.mono BEL4.out.size))
        go_wp2_with fail
        have hl1 : (List.replicate (K'.length + 1) false).length = K'.length + 1 := by simp
        have hc1 := right_blk 2000 BY24.out HF3.out
        rw [hl1] at hc1
        with_reducible refine hc1.mono ?_
        clear hc1 hl1
        rintro e w25 ⟨rfl, hb⟩
        have B25 := Aside0.mk hb
        have BZ25 := Aside0.mk (BZ.out.below hb)
        have GZ25 := Aside0.mk ((hb.block gz (blk_lt GZ3.out)).trans GZ3.out)
        clear hb
        have zz0 : w25.cell? ⟨gz, 0, none⟩ = some (.slice (some ⟨gk, 0, none⟩) K'.length cKz) := (blk_cell GZ25.out 0).trans rfl
        have fz0 := blk_frozen GZ25.out 0
        have zz1 : w25.cell? ⟨gz, 1, none⟩ = some (.slice AJz J'.length cJz) := (blk_cell GZ25.out 1).trans rfl
        have fz1 := blk_frozen GZ25.out 1
        have zz2 : w25.cell? ⟨gz, 2, none⟩ = some (.slice ALz L'.length cLz) := (blk_cell GZ25.out 2).trans rfl
        have fz2 := blk_frozen GZ25.out 2
        have zz3 : w25.cell? ⟨gz, 3, none⟩ = some (.slice ASz S'.length cSz) := (blk_cell GZ25.out 3).trans rfl
        have fz3 := blk_frozen GZ25.out 3
        have zz4 : w25.cell? ⟨gz, 4, none⟩ = some (.slice AUz U'.length cUz) := (blk_cell GZ25.out 4).trans rfl
        have fz4 := blk_frozen GZ25.out 4
        have hls : (K'.set 0 ⟨(K'.getD 0 z56).f0, (K'.getD 0 z56).f1, ⟨#[0]⟩⟩).length = K'.length := List.length_set
        have hrz := right_blk 2000 BZ25.out HF4.out
        rw [hls] at hrz
        have HRZ := Aside0.mk hrz
        clear hrz hls
        go_wp2_with fail
        with_reducible refine HRZ.out.mono ?_
        rintro e w26 ⟨rfl, hb⟩
        have B26 := Aside0.mk hb
        clear hb
        go_wp2_with fail
        go_ret
        exact ⟨rfl, bel20.out.trans ((HBZ3.out.trans ((B25.out.trans (B26.out.mono B25.out.size)).mono HBZ3.out.size)).mono bel20.out.size)⟩
end Go.Proofs.Ytdcgclhmfflheaa.PQ
