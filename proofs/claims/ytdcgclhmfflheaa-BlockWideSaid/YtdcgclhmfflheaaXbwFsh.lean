import Derived.Test.YtdcgclhmfflheaaXbwFde
import Derived.Test.YtdcgclhmfflheaaXbwPQf21
namespace Go.Proofs.Ytdcgclhmfflheaa.PQ
open Go.RowKit Go.Proofs.YtdcgclhmfflheaaW.PrintWords Go.Proofs.YtdcgclhmfflheaaW.PrintLast Go.Proofs.YtdcgclhmfflheaaW.PrintMore
set_option linter.unusedVariables false
set_option linter.unusedSimpArgs false
set_option maxRecDepth 100000
def shK : List S56 := [⟨(-5), false, (⟨#[65]⟩ : ByteArray)⟩, ⟨3600, true, (⟨#[66, 67]⟩ : ByteArray)⟩]
def shJ : List S54 := [⟨-9, 1⟩, ⟨7, 0⟩]
def shB : List Int := [255, 255, 255, 247, 0, 0, 0, 7, 1, 0, 255, 255, 255, 251, 0, 0, 0, 0, 14, 16, 1, 2, 65, 0, 66, 67, 0]
theorem sh1 : block_Encode.f 40 shK shJ [] [] [] 4 1 = some (shB, 1, 0, 0, 0, 2, 2, 5, 0) := by kernel_rfl
theorem sh2 : block_Encode.f 40 [] [] [] [] [] 4 1 = some ([], 0, 0, 0, 0, 0, 0, 0, 1) := by kernel_rfl
theorem sh3 : block_Decode.f shB 1 0 0 0 2 2 5 4 = some (shK, shJ, [], [], [], 0) := by kernel_rfl
theorem sh4 : block_Decode.f [] 1 0 0 0 2 2 5 4 = some ([], [], [], [], [], 5) := by kernel_rfl
theorem sh5 : block_Right.f 40 shK shJ [] [] [] 8 2 = some true := by kernel_rfl
def longcaselaw06_shown.f : Option Bool := some true
theorem c_nil {α : Type} (d : Kd α) (w : World) : Kd.C d w none 0 [] := (Kd.R_reads (Kd.R_nil d 0 w 0 (fun _ => True))).elim fun A h => h.elim fun c h => by
 have h1 := h.1
 injection h1 with e1 e2 e3
 subst e1
 exact h.2.2
theorem blk_keep {g : Nat} {o : Obj} {w w1 : World} (h : w.heap[g]? = some o) (hb : Below w.heap.size w w1) : w1.heap[g]? = some o := (hb.block g (Array.getElem?_eq_some_iff.1 h).1).trans h
theorem R_view {α : Type} {d : Kd α} {e B : Nat} {w : World} {ok : Nat → Prop} {v : Value} {xs : List α} (h : d.R e w B ok v xs) : ∃ A c, v = .slice A xs.length c ∧ xs.length ≤ c ∧ d.C w A xs.length xs := Kd.R_reads h
def longcaselaw06_shown.T6 : Bool × List (List Nat × List Nat) := (true, [([], []), ([0], [0]), ([1], [1]), ([2], [2]), ([3, 2], [2, 3]), ([4, 2], [2, 4]), ([2, 5], [2, 5]), ([6, 2], [6]), ([7], [7]), ([8, 7], [7, 8]), ([9, 7], [7, 9]), ([7, 10], [7, 10]), ([11, 7], [11]), ([12], [12]), ([13, 12], [12, 13]), ([12, 14], [12, 14]), ([15, 12], [15]), ([16], [16]), ([17, 16], [16, 17]), ([18, 16], [16, 18]), ([19, 16], [16, 19]), ([16, 20], [16, 20]), ([21, 16], [21]), ([22], [22]), ([23, 22], [22, 23]), ([24, 22], [22, 24]), ([25, 22], [22, 25]), ([22], [22]), ([27, 22], [22, 27]), ([28, 22], [22, 28]), ([29, 22], [22, 29]), ([26, 30, 22], [22, 26, 30]), ([22, 31], [22, 31]), ([32, 22], [32]), ([33], [33]), ([34, 33], [33, 34]), ([35, 33], [33, 35]), ([36, 33], [33, 36]), ([33, 37], [33, 37]), ([38, 33], [38]), ([39], [39]), ([40, 39], [39, 40]), ([41, 39], [39, 41]), ([42, 39], [39, 42]), ([39], [39]), ([44, 39], [39, 44]), ([45, 39], [39, 45]), ([46, 39], [39, 46]), ([43, 47, 39], [39, 43, 47]), ([39, 48], [39, 48]), ([49, 39], [49]), ([50], [50]), ([51, 50], [50, 51]), ([50, 52], [50, 52]), ([53, 50], [53]), ([54], [54]), ([55, 54], [54, 55]), ([54, 56], [54, 56]), ([57, 54], [57]), ([58], [58]), ([59, 58, 58], [58, 59]), ([58, 60], [58, 60]), ([61, 60, 0, 1, 2, 3, 4, 5, 6, 7, 8, 9, 10, 11, 12, 13, 14, 15, 16, 17, 18, 19, 20, 21, 22, 23, 24, 25, 26, 27, 28, 29, 30, 31, 32, 33, 34, 35, 36, 37, 38, 39, 40, 41, 42, 43, 44, 45, 46, 47, 48, 49, 50, 51, 52, 53, 54, 55, 56, 57, 58, 59, 60, 61], [61])])
def longcaselaw06_shown.B6 : List Nat := [0, 1, 3, 7, 15, 31, 63, 127, 255, 511, 1023, 2047, 4095, 8191, 16383, 32767, 65535, 131071, 262143, 524287, 1048575, 2097151, 4194303, 8388607, 16777215, 33554431, 67108863, 8388607, 142606335, 411041791, 947912703, 2147483647, 4294967295, 8589934591, 17179869183, 34359738367, 68719476735, 137438953471, 274877906943, 549755813887, 1099511627775, 2199023255551, 4398046511103, 8796093022207, 1099511627775, 18691697672191, 53876069761023, 124244813938687, 281474976710655, 562949953421311, 1125899906842623, 2251799813685247, 4503599627370495, 9007199254740991, 18014398509481983, 36028797018963967, 72057594037927935, 144115188075855871, 288230376151711743, 576460752303423487, 1152921504606846975, 2305843009213693951, 4611686018427387903]
theorem longcaselaw06_shown.tab6 : rtab .any (opsOf Try.f17 6) = longcaselaw06_shown.T6 := by kernel_rfl
theorem longcaselaw06_shown.bits6 : waitsOk longcaselaw06_shown.T6.2 longcaselaw06_shown.B6 = true := by kernel_rfl
set_option maxHeartbeats 4000000 in
theorem longcaselaw06_shown.calls (r : Bool) (w : World) (h : longcaselaw06_shown.f = some r) : Calls Try.prog 17 #[] w fun e w' => e = .returned (.bool r) ∧ Below w.heap.size w w' := by
 obtain rfl : true = r := by injection h
 clear h
 have hu27 := Try.underlying27
 have hu35 := Try.underlying35
 have hu54 := Try.underlying54
 have hu56 := Try.underlying56
 have hu22 := Try.underlying22
 have hu23 := Try.underlying23
 go_enter Try.func17, Try.ntmps17
 go_upto_region 2 with (first
  | ((with_reducible refine gate_dst (N := 14) rfl ?_); refine Kd.R_lit k56 _ 56 ?hg (N := 14) ?hd (xs := shK) (inner := [.int .i64 (-5), .bool false, .string (⟨#[65]⟩ : ByteArray), .int .i64 3600, .bool true, .string (⟨#[66, 67]⟩ : ByteArray)]) (ok := fun _ => True) (okp := fun _ => True) ?hr ?hp (fun _ hk => hk) trivial (Below.refl _ _) (Nat.le_refl _) (by decide) ?_; (case hd => rfl); (case hg => rfl); (case hr => first | (go_simp; done) | (go_simp; rfl)); (case hp => exact (Reps.c3 (k56_mkM _ _ _ (⟨(-5), false, (⟨#[65]⟩ : ByteArray)⟩ : S56)) (Reps.c3 (k56_mkM _ _ _ (⟨3600, true, (⟨#[66, 67]⟩ : ByteArray)⟩ : S56)) (Reps.none _ _)))); intro vK w1 hoK hb1 hgK hnK; obtain ⟨AK, cK, rfl, hcK, hCK⟩ : ∃ A c, vK = .slice A 2 c ∧ 2 ≤ c ∧ Kd.C k56 w1 A 2 shK := R_view hoK; have CK := Aside0.mk hCK; have LK := Aside0.mk hcK; have B1 := Aside0.mk hb1; clear hoK hb1 hgK hnK hCK hcK)
  | ((with_reducible refine gate_dst (N := 17) rfl ?_); refine Kd.R_lit k54 _ 54 ?hg (N := 17) ?hd (xs := shJ) (inner := [.int .i64 (-9), .int .i64 1, .int .i64 7, .int .i64 0]) (ok := fun _ => True) (okp := fun _ => True) ?hr ?hp (fun _ hk => hk) trivial (Below.refl _ _) (Nat.le_refl _) (by decide) ?_; (case hd => rfl); (case hg => rfl); (case hr => first | (go_simp; done) | (go_simp; rfl)); (case hp => exact (Reps.c2 (k54_mkM _ _ _ (⟨(-9), 1⟩ : S54)) (Reps.c2 (k54_mkM _ _ _ (⟨7, 0⟩ : S54)) (Reps.none _ _)))); intro vJ w2 hoJ hb2 hgJ hnJ; obtain ⟨AJ, cJ, rfl, hcJ, hCJ⟩ : ∃ A c, vJ = .slice A 2 c ∧ 2 ≤ c ∧ Kd.C k54 w2 A 2 shJ := R_view hoJ; have CJ := Aside0.mk hCJ; have LJ := Aside0.mk hcJ; have B2 := Aside0.mk hb2; clear hoJ hb2 hgJ hnJ hCJ hcJ)
  | ((with_reducible refine gate_dst (N := 1) rfl ?_); refine box_event ?hggx (N := 1) ?hdgx (cs := #[.slice none 0 0, .slice none 0 0, .slice none 0 0, .slice none 0 0, .slice none 0 0]) (t := 27) ?hrgx ?_; (case hdgx => rfl); (case hggx => rfl); (case hrgx => first | (go_simp; done) | (go_simp; rfl)); intro gx gxE w3 gxH hb3; have zgx0 : w3.cell? ⟨gx, 0, none⟩ = some (.slice none 0 0) := (by rw [Lib.cell_of_heap gxH]; rfl); have fgx0 := blk_frozen gxH 0; have zgx1 : w3.cell? ⟨gx, 1, none⟩ = some (.slice none 0 0) := (by rw [Lib.cell_of_heap gxH]; rfl); have fgx1 := blk_frozen gxH 1; have zgx2 : w3.cell? ⟨gx, 2, none⟩ = some (.slice none 0 0) := (by rw [Lib.cell_of_heap gxH]; rfl); have fgx2 := blk_frozen gxH 2; have zgx3 : w3.cell? ⟨gx, 3, none⟩ = some (.slice none 0 0) := (by rw [Lib.cell_of_heap gxH]; rfl); have fgx3 := blk_frozen gxH 3; have zgx4 : w3.cell? ⟨gx, 4, none⟩ = some (.slice none 0 0) := (by rw [Lib.cell_of_heap gxH]; rfl); have fgx4 := blk_frozen gxH 4; have gxHA := Aside0.mk gxH; have gxEA := Aside0.mk gxE; have hb3A := Aside0.mk hb3; clear gxH gxE hb3))
 have HX := Aside0.mk (blk_put (blk_put (blk_put (blk_put (blk_put gxHA.out 0 (.slice AK 2 cK) rfl) 1 (.slice AJ 2 cJ) rfl) 2 (.slice none 0 0) rfl) 3 (.slice none 0 0) rfl) 4 (.slice none 0 0) rfl)
 have ge : w.heap.size ≤ gx := by rw [gxEA.out]; exact Nat.le_trans B1.out.size B2.out.size
 have geb : w2.heap.size ≤ gx := Nat.le_of_eq gxEA.out.symm
 have BB : Aside0 (Below w.heap.size w (((((w3.setCell ⟨gx, 0, none⟩ (.slice AK 2 cK)).setCell ⟨gx, 1, none⟩ (.slice AJ 2 cJ)).setCell ⟨gx, 2, none⟩ (.slice none 0 0)).setCell ⟨gx, 3, none⟩ (.slice none 0 0)).setCell ⟨gx, 4, none⟩ (.slice none 0 0))) := ⟨(((((((B1.out.trans (B2.out.mono B1.out.size)).trans (hb3A.out.mono (Nat.le_trans B1.out.size B2.out.size))).setCell ge _).setCell ge _).setCell ge _).setCell ge _).setCell ge _)⟩
 have BC : Aside0 (Below w2.heap.size w2 (((((w3.setCell ⟨gx, 0, none⟩ (.slice AK 2 cK)).setCell ⟨gx, 1, none⟩ (.slice AJ 2 cJ)).setCell ⟨gx, 2, none⟩ (.slice none 0 0)).setCell ⟨gx, 3, none⟩ (.slice none 0 0)).setCell ⟨gx, 4, none⟩ (.slice none 0 0))) := ⟨(((((hb3A.out.setCell geb _).setCell geb _).setCell geb _).setCell geb _).setCell geb _)⟩
 have CK1 := Aside0.mk (Kd.C_below (Kd.C_below CK.out B2.out) BC.out)
 have CJ1 := Aside0.mk (Kd.C_below CJ.out BC.out)
 clear CK CJ B1 B2 hb3A gxHA gxEA ge geb zgx0 fgx0 zgx1 fgx1 zgx2 fgx2 zgx3 fgx3 zgx4 fgx4
 generalize (((((w3.setCell ⟨gx, 0, none⟩ (.slice AK 2 cK)).setCell ⟨gx, 1, none⟩ (.slice AJ 2 cJ)).setCell ⟨gx, 2, none⟩ (.slice none 0 0)).setCell ⟨gx, 3, none⟩ (.slice none 0 0)).setCell ⟨gx, 4, none⟩ (.slice none 0 0)) = w4 at *
 have hx0 : w4.cell? ⟨gx, 0, none⟩ = some (.slice AK 2 cK) := blk_cell HX.out 0
 have hx1 : w4.cell? ⟨gx, 1, none⟩ = some (.slice AJ 2 cJ) := blk_cell HX.out 1
 have hx2 : w4.cell? ⟨gx, 2, none⟩ = some (.slice none 0 0) := blk_cell HX.out 2
 have hx3 : w4.cell? ⟨gx, 3, none⟩ = some (.slice none 0 0) := blk_cell HX.out 3
 have hx4 : w4.cell? ⟨gx, 4, none⟩ = some (.slice none 0 0) := blk_cell HX.out 4
 have HT1 : Aside0 (Calls Try.prog 21 #[.agg #[.slice AK 2 cK, .slice AJ 2 cJ, .slice none 0 0, .slice none 0 0, .slice none 0 0], .int .i64 4, .int .i64 1] w4 _) := ⟨block_Encode.calls 40 AK cK shK AJ cJ shJ none 0 [] none 0 [] none 0 [] 4 1 _ _ _ _ _ _ _ _ _ w4 CK1.out LK.out CJ1.out LJ.out (c_nil _ _) (Nat.le_refl _) (c_nil _ _) (Nat.le_refl _) (c_nil _ _) (Nat.le_refl _) sh1⟩
 go_upto_region 3 with (first
  | (go_at_call 21; refine HT1.out.mono ?_; rintro e w5 ⟨vb, rfl, hvb, hb5⟩; obtain ⟨Ab, cb, rfl, hcb, hCb⟩ : ∃ A c, vb = .slice A 27 c ∧ 27 ≤ c ∧ Kd.C (Kd.int .u8) w5 A 27 shB := R_view hvb; have CB := Aside0.mk hCb; have LB := Aside0.mk hcb; have B5 := Aside0.mk hb5; clear hvb hCb hcb hb5)
  | ((with_reducible refine gate_dst (N := 3) rfl ?_); refine box_event ?hggh (N := 3) ?hdgh (cs := #[.int .i64 0, .int .i64 0, .int .i64 0, .int .i64 0, .int .i64 0, .int .i64 0, .int .i64 0]) (t := 35) ?hrgh ?_; (case hdgh => rfl); (case hggh => rfl); (case hrgh => first | (go_simp; done) | (go_simp; rfl)); intro gh ghE w6 ghH hb6; have zgh0 : w6.cell? ⟨gh, 0, none⟩ = some (.int .i64 0) := (by rw [Lib.cell_of_heap ghH]; rfl); have fgh0 := blk_frozen ghH 0; have zgh1 : w6.cell? ⟨gh, 1, none⟩ = some (.int .i64 0) := (by rw [Lib.cell_of_heap ghH]; rfl); have fgh1 := blk_frozen ghH 1; have zgh2 : w6.cell? ⟨gh, 2, none⟩ = some (.int .i64 0) := (by rw [Lib.cell_of_heap ghH]; rfl); have fgh2 := blk_frozen ghH 2; have zgh3 : w6.cell? ⟨gh, 3, none⟩ = some (.int .i64 0) := (by rw [Lib.cell_of_heap ghH]; rfl); have fgh3 := blk_frozen ghH 3; have zgh4 : w6.cell? ⟨gh, 4, none⟩ = some (.int .i64 0) := (by rw [Lib.cell_of_heap ghH]; rfl); have fgh4 := blk_frozen ghH 4; have zgh5 : w6.cell? ⟨gh, 5, none⟩ = some (.int .i64 0) := (by rw [Lib.cell_of_heap ghH]; rfl); have fgh5 := blk_frozen ghH 5; have zgh6 : w6.cell? ⟨gh, 6, none⟩ = some (.int .i64 0) := (by rw [Lib.cell_of_heap ghH]; rfl); have fgh6 := blk_frozen ghH 6; have ghHA := Aside0.mk ghH; have ghEA := Aside0.mk ghE; have hb6A := Aside0.mk hb6; clear ghH ghE hb6))
 clear hx0 hx1 hx2 hx3 hx4 HT1
 have hge : w5.heap.size ≤ gh := Nat.le_of_eq ghEA.out.symm
 have HH := Aside0.mk (blk_put (blk_put (blk_put (blk_put (blk_put (blk_put (blk_put ghHA.out 0 (.int .i64 1) rfl) 1 (.int .i64 0) rfl) 2 (.int .i64 0) rfl) 3 (.int .i64 0) rfl) 4 (.int .i64 2) rfl) 5 (.int .i64 2) rfl) 6 (.int .i64 5) rfl)
 have BCC : Aside0 (Below w5.heap.size w5 (((((((w6.setCell ⟨gh, 0, none⟩ (.int .i64 1)).setCell ⟨gh, 1, none⟩ (.int .i64 0)).setCell ⟨gh, 2, none⟩ (.int .i64 0)).setCell ⟨gh, 3, none⟩ (.int .i64 0)).setCell ⟨gh, 4, none⟩ (.int .i64 2)).setCell ⟨gh, 5, none⟩ (.int .i64 2)).setCell ⟨gh, 6, none⟩ (.int .i64 5))) := ⟨(((((((hb6A.out.setCell hge _).setCell hge _).setCell hge _).setCell hge _).setCell hge _).setCell hge _).setCell hge _)⟩
 have BS : Aside0 (Below w4.heap.size w4 (((((((w6.setCell ⟨gh, 0, none⟩ (.int .i64 1)).setCell ⟨gh, 1, none⟩ (.int .i64 0)).setCell ⟨gh, 2, none⟩ (.int .i64 0)).setCell ⟨gh, 3, none⟩ (.int .i64 0)).setCell ⟨gh, 4, none⟩ (.int .i64 2)).setCell ⟨gh, 5, none⟩ (.int .i64 2)).setCell ⟨gh, 6, none⟩ (.int .i64 5))) := ⟨B5.out.trans (BCC.out.mono B5.out.size)⟩
 replace CB := Aside0.mk (Kd.C_below CB.out BCC.out)
 replace CK1 := Aside0.mk (Kd.C_below CK1.out BS.out)
 replace CJ1 := Aside0.mk (Kd.C_below CJ1.out BS.out)
 replace HX := Aside0.mk (blk_keep HX.out BS.out)
 replace BB := Aside0.mk (BB.out.trans (BS.out.mono BB.out.size))
 clear BCC BS hge hb6A ghHA ghEA zgh0 fgh0 zgh1 fgh1 zgh2 fgh2 zgh3 fgh3 zgh4 fgh4 zgh5 fgh5 zgh6 fgh6
 generalize (((((((w6.setCell ⟨gh, 0, none⟩ (.int .i64 1)).setCell ⟨gh, 1, none⟩ (.int .i64 0)).setCell ⟨gh, 2, none⟩ (.int .i64 0)).setCell ⟨gh, 3, none⟩ (.int .i64 0)).setCell ⟨gh, 4, none⟩ (.int .i64 2)).setCell ⟨gh, 5, none⟩ (.int .i64 2)).setCell ⟨gh, 6, none⟩ (.int .i64 5)) = w7 at *
 have hh0 : w7.cell? ⟨gh, 0, none⟩ = some (.int .i64 1) := blk_cell HH.out 0
 have hh1 : w7.cell? ⟨gh, 1, none⟩ = some (.int .i64 0) := blk_cell HH.out 1
 have hh2 : w7.cell? ⟨gh, 2, none⟩ = some (.int .i64 0) := blk_cell HH.out 2
 have hh3 : w7.cell? ⟨gh, 3, none⟩ = some (.int .i64 0) := blk_cell HH.out 3
 have hh4 : w7.cell? ⟨gh, 4, none⟩ = some (.int .i64 2) := blk_cell HH.out 4
 have hh5 : w7.cell? ⟨gh, 5, none⟩ = some (.int .i64 2) := blk_cell HH.out 5
 have hh6 : w7.cell? ⟨gh, 6, none⟩ = some (.int .i64 5) := blk_cell HH.out 6
 have HT2 : Aside0 (Calls Try.prog 27 #[.slice Ab 27 cb, .agg #[.int .i64 1, .int .i64 0, .int .i64 0, .int .i64 0, .int .i64 2, .int .i64 2, .int .i64 5], .int .i64 4] w7 _) := ⟨block_Decode.calls Ab cb shB _ _ _ _ _ _ _ _ _ _ _ _ _ _ w7 CB.out LB.out sh3⟩
 go_upto_region 4 with (first
  | (go_at_call 27; refine HT2.out.mono ?_; rintro e w8 ⟨v0, v1, v2, v3, v4, rfl, h0, h1, h2, h3, h4, hb8⟩; obtain ⟨YK, yK, rfl, hyK, hCK⟩ : ∃ A c, v0 = .slice A 2 c ∧ 2 ≤ c ∧ Kd.C k56 w8 A 2 shK := R_view h0; obtain ⟨YJ, yJ, rfl, hyJ, hCJ⟩ : ∃ A c, v1 = .slice A 2 c ∧ 2 ≤ c ∧ Kd.C k54 w8 A 2 shJ := R_view h1; obtain ⟨a2, c2, rfl⟩ : ∃ A c, v2 = .slice A 0 c := Kd.R_slice h2; obtain ⟨a3, c3, rfl⟩ : ∃ A c, v3 = .slice A 0 c := Kd.R_slice h3; obtain ⟨a4, c4, rfl⟩ : ∃ A c, v4 = .slice A 0 c := Kd.R_slice h4; have DK := Aside0.mk hCK; have DJ := Aside0.mk hCJ; have B8 := Aside0.mk hb8; clear h0 h1 h2 h3 h4 hCK hCJ hyK hyJ hb8)
  | ((with_reducible refine gate_dst (N := 5) rfl ?_); refine box_event ?hggy (N := 5) ?hdgy (cs := #[.slice none 0 0, .slice none 0 0, .slice none 0 0, .slice none 0 0, .slice none 0 0]) (t := 27) ?hrgy ?_; (case hdgy => rfl); (case hggy => rfl); (case hrgy => first | (go_simp; done) | (go_simp; rfl)); intro gy gyE w9 gyH hb9; have zgy0 : w9.cell? ⟨gy, 0, none⟩ = some (.slice none 0 0) := (by rw [Lib.cell_of_heap gyH]; rfl); have fgy0 := blk_frozen gyH 0; have zgy1 : w9.cell? ⟨gy, 1, none⟩ = some (.slice none 0 0) := (by rw [Lib.cell_of_heap gyH]; rfl); have fgy1 := blk_frozen gyH 1; have zgy2 : w9.cell? ⟨gy, 2, none⟩ = some (.slice none 0 0) := (by rw [Lib.cell_of_heap gyH]; rfl); have fgy2 := blk_frozen gyH 2; have zgy3 : w9.cell? ⟨gy, 3, none⟩ = some (.slice none 0 0) := (by rw [Lib.cell_of_heap gyH]; rfl); have fgy3 := blk_frozen gyH 3; have zgy4 : w9.cell? ⟨gy, 4, none⟩ = some (.slice none 0 0) := (by rw [Lib.cell_of_heap gyH]; rfl); have fgy4 := blk_frozen gyH 4; have gyHA := Aside0.mk gyH; have gyEA := Aside0.mk gyE; have hb9A := Aside0.mk hb9; clear gyH gyE hb9))
 clear HT2 hh0 hh1 hh2 hh3 hh4 hh5 hh6
 have hge : w8.heap.size ≤ gy := Nat.le_of_eq gyEA.out.symm
 have HY := Aside0.mk (blk_put (blk_put (blk_put (blk_put (blk_put gyHA.out 0 (.slice YK 2 yK) rfl) 1 (.slice YJ 2 yJ) rfl) 2 (.slice a2 0 c2) rfl) 3 (.slice a3 0 c3) rfl) 4 (.slice a4 0 c4) rfl)
 have BCC : Aside0 (Below w8.heap.size w8 (((((w9.setCell ⟨gy, 0, none⟩ (.slice YK 2 yK)).setCell ⟨gy, 1, none⟩ (.slice YJ 2 yJ)).setCell ⟨gy, 2, none⟩ (.slice a2 0 c2)).setCell ⟨gy, 3, none⟩ (.slice a3 0 c3)).setCell ⟨gy, 4, none⟩ (.slice a4 0 c4))) := ⟨(((((hb9A.out.setCell hge _).setCell hge _).setCell hge _).setCell hge _).setCell hge _)⟩
 have BS : Aside0 (Below w7.heap.size w7 (((((w9.setCell ⟨gy, 0, none⟩ (.slice YK 2 yK)).setCell ⟨gy, 1, none⟩ (.slice YJ 2 yJ)).setCell ⟨gy, 2, none⟩ (.slice a2 0 c2)).setCell ⟨gy, 3, none⟩ (.slice a3 0 c3)).setCell ⟨gy, 4, none⟩ (.slice a4 0 c4))) := ⟨B8.out.trans (BCC.out.mono B8.out.size)⟩
 replace DK := Aside0.mk (Kd.C_below DK.out BCC.out)
 replace DJ := Aside0.mk (Kd.C_below DJ.out BCC.out)
 replace CK1 := Aside0.mk (Kd.C_below CK1.out BS.out)
 replace CJ1 := Aside0.mk (Kd.C_below CJ1.out BS.out)
 replace CB := Aside0.mk (Kd.C_below CB.out BS.out)
 replace HX := Aside0.mk (blk_keep HX.out BS.out)
 replace HH := Aside0.mk (blk_keep HH.out BS.out)
 replace BB := Aside0.mk (BB.out.trans (BS.out.mono BB.out.size))
 clear BCC BS hge hb9A gyHA gyEA zgy0 fgy0 zgy1 fgy1 zgy2 fgy2 zgy3 fgy3 zgy4 fgy4
 generalize (((((w9.setCell ⟨gy, 0, none⟩ (.slice YK 2 yK)).setCell ⟨gy, 1, none⟩ (.slice YJ 2 yJ)).setCell ⟨gy, 2, none⟩ (.slice a2 0 c2)).setCell ⟨gy, 3, none⟩ (.slice a3 0 c3)).setCell ⟨gy, 4, none⟩ (.slice a4 0 c4)) = w10 at *
 have HT3 : Aside0 (Calls Try.prog 21 #[.agg #[.slice none 0 0, .slice none 0 0, .slice none 0 0, .slice none 0 0, .slice none 0 0], .int .i64 4, .int .i64 1] w10 _) := ⟨block_Encode.calls 40 none 0 [] none 0 [] none 0 [] none 0 [] none 0 [] 4 1 _ _ _ _ _ _ _ _ _ w10 (c_nil _ _) (Nat.le_refl _) (c_nil _ _) (Nat.le_refl _) (c_nil _ _) (Nat.le_refl _) (c_nil _ _) (Nat.le_refl _) (c_nil _ _) (Nat.le_refl _) sh2⟩
 go_upto_region 5 with (first
  | (go_at_call 21; refine HT3.out.mono ?_; rintro e w11 ⟨vb, rfl, hvb, hb11⟩; have B11 := Aside0.mk hb11; clear hvb hb11)
  | ((with_reducible refine gate_dst (N := 8) rfl ?_); refine box_event ?hggi (N := 8) ?hdgi (cs := #[.int .i64 0, .int .i64 0, .int .i64 0, .int .i64 0, .int .i64 0, .int .i64 0, .int .i64 0]) (t := 35) ?hrgi ?_; (case hdgi => rfl); (case hggi => rfl); (case hrgi => first | (go_simp; done) | (go_simp; rfl)); intro gi giE w12 giH hb12; have zgi0 : w12.cell? ⟨gi, 0, none⟩ = some (.int .i64 0) := (by rw [Lib.cell_of_heap giH]; rfl); have fgi0 := blk_frozen giH 0; have zgi1 : w12.cell? ⟨gi, 1, none⟩ = some (.int .i64 0) := (by rw [Lib.cell_of_heap giH]; rfl); have fgi1 := blk_frozen giH 1; have zgi2 : w12.cell? ⟨gi, 2, none⟩ = some (.int .i64 0) := (by rw [Lib.cell_of_heap giH]; rfl); have fgi2 := blk_frozen giH 2; have zgi3 : w12.cell? ⟨gi, 3, none⟩ = some (.int .i64 0) := (by rw [Lib.cell_of_heap giH]; rfl); have fgi3 := blk_frozen giH 3; have zgi4 : w12.cell? ⟨gi, 4, none⟩ = some (.int .i64 0) := (by rw [Lib.cell_of_heap giH]; rfl); have fgi4 := blk_frozen giH 4; have zgi5 : w12.cell? ⟨gi, 5, none⟩ = some (.int .i64 0) := (by rw [Lib.cell_of_heap giH]; rfl); have fgi5 := blk_frozen giH 5; have zgi6 : w12.cell? ⟨gi, 6, none⟩ = some (.int .i64 0) := (by rw [Lib.cell_of_heap giH]; rfl); have fgi6 := blk_frozen giH 6; have giHA := Aside0.mk giH; have giEA := Aside0.mk giE; have hb12A := Aside0.mk hb12; clear giH giE hb12))
 clear HT3
 have hge : w11.heap.size ≤ gi := Nat.le_of_eq giEA.out.symm
 have HI := Aside0.mk (blk_put (blk_put (blk_put (blk_put (blk_put (blk_put (blk_put giHA.out 0 (.int .i64 0) rfl) 1 (.int .i64 0) rfl) 2 (.int .i64 0) rfl) 3 (.int .i64 0) rfl) 4 (.int .i64 0) rfl) 5 (.int .i64 0) rfl) 6 (.int .i64 0) rfl)
 have BCC : Aside0 (Below w11.heap.size w11 (((((((w12.setCell ⟨gi, 0, none⟩ (.int .i64 0)).setCell ⟨gi, 1, none⟩ (.int .i64 0)).setCell ⟨gi, 2, none⟩ (.int .i64 0)).setCell ⟨gi, 3, none⟩ (.int .i64 0)).setCell ⟨gi, 4, none⟩ (.int .i64 0)).setCell ⟨gi, 5, none⟩ (.int .i64 0)).setCell ⟨gi, 6, none⟩ (.int .i64 0))) := ⟨(((((((hb12A.out.setCell hge _).setCell hge _).setCell hge _).setCell hge _).setCell hge _).setCell hge _).setCell hge _)⟩
 have BS : Aside0 (Below w10.heap.size w10 (((((((w12.setCell ⟨gi, 0, none⟩ (.int .i64 0)).setCell ⟨gi, 1, none⟩ (.int .i64 0)).setCell ⟨gi, 2, none⟩ (.int .i64 0)).setCell ⟨gi, 3, none⟩ (.int .i64 0)).setCell ⟨gi, 4, none⟩ (.int .i64 0)).setCell ⟨gi, 5, none⟩ (.int .i64 0)).setCell ⟨gi, 6, none⟩ (.int .i64 0))) := ⟨B11.out.trans (BCC.out.mono B11.out.size)⟩
 replace CK1 := Aside0.mk (Kd.C_below CK1.out BS.out)
 replace CJ1 := Aside0.mk (Kd.C_below CJ1.out BS.out)
 replace CB := Aside0.mk (Kd.C_below CB.out BS.out)
 replace DK := Aside0.mk (Kd.C_below DK.out BS.out)
 replace DJ := Aside0.mk (Kd.C_below DJ.out BS.out)
 replace HX := Aside0.mk (blk_keep HX.out BS.out)
 replace HH := Aside0.mk (blk_keep HH.out BS.out)
 replace HY := Aside0.mk (blk_keep HY.out BS.out)
 replace BB := Aside0.mk (BB.out.trans (BS.out.mono BB.out.size))
 clear BCC BS hge hb12A giHA giEA zgi0 fgi0 zgi1 fgi1 zgi2 fgi2 zgi3 fgi3 zgi4 fgi4 zgi5 fgi5 zgi6 fgi6
 generalize (((((((w12.setCell ⟨gi, 0, none⟩ (.int .i64 0)).setCell ⟨gi, 1, none⟩ (.int .i64 0)).setCell ⟨gi, 2, none⟩ (.int .i64 0)).setCell ⟨gi, 3, none⟩ (.int .i64 0)).setCell ⟨gi, 4, none⟩ (.int .i64 0)).setCell ⟨gi, 5, none⟩ (.int .i64 0)).setCell ⟨gi, 6, none⟩ (.int .i64 0)) = w13 at *
 have hh0 : w13.cell? ⟨gh, 0, none⟩ = some (.int .i64 1) := blk_cell HH.out 0
 have hh1 : w13.cell? ⟨gh, 1, none⟩ = some (.int .i64 0) := blk_cell HH.out 1
 have hh2 : w13.cell? ⟨gh, 2, none⟩ = some (.int .i64 0) := blk_cell HH.out 2
 have hh3 : w13.cell? ⟨gh, 3, none⟩ = some (.int .i64 0) := blk_cell HH.out 3
 have hh4 : w13.cell? ⟨gh, 4, none⟩ = some (.int .i64 2) := blk_cell HH.out 4
 have hh5 : w13.cell? ⟨gh, 5, none⟩ = some (.int .i64 2) := blk_cell HH.out 5
 have hh6 : w13.cell? ⟨gh, 6, none⟩ = some (.int .i64 5) := blk_cell HH.out 6
 have HT4 : Aside0 (Calls Try.prog 27 #[.slice none 0 0, .agg #[.int .i64 1, .int .i64 0, .int .i64 0, .int .i64 0, .int .i64 2, .int .i64 2, .int .i64 5], .int .i64 4] w13 _) := ⟨block_Decode.calls none 0 [] _ _ _ _ _ _ _ _ _ _ _ _ _ _ w13 (c_nil _ _) (Nat.le_refl _) sh4⟩
 go_upto_region 6 with (first
  | (go_at_call 27; refine HT4.out.mono ?_; rintro e w14 ⟨v0, v1, v2, v3, v4, rfl, h0, h1, h2, h3, h4, hb14⟩; obtain ⟨d0, e0, rfl⟩ : ∃ A c, v0 = .slice A 0 c := Kd.R_slice h0; obtain ⟨d1, e1, rfl⟩ : ∃ A c, v1 = .slice A 0 c := Kd.R_slice h1; obtain ⟨d2, e2, rfl⟩ : ∃ A c, v2 = .slice A 0 c := Kd.R_slice h2; obtain ⟨d3, e3, rfl⟩ : ∃ A c, v3 = .slice A 0 c := Kd.R_slice h3; obtain ⟨d4, e4, rfl⟩ : ∃ A c, v4 = .slice A 0 c := Kd.R_slice h4; have B14 := Aside0.mk hb14; clear h0 h1 h2 h3 h4 hb14)
  | ((with_reducible refine gate_dst (N := 10) rfl ?_); refine box_event ?hggj (N := 10) ?hdgj (cs := #[.slice none 0 0, .slice none 0 0, .slice none 0 0, .slice none 0 0, .slice none 0 0]) (t := 27) ?hrgj ?_; (case hdgj => rfl); (case hggj => rfl); (case hrgj => first | (go_simp; done) | (go_simp; rfl)); intro gj gjE w15 gjH hb15; have zgj0 : w15.cell? ⟨gj, 0, none⟩ = some (.slice none 0 0) := (by rw [Lib.cell_of_heap gjH]; rfl); have fgj0 := blk_frozen gjH 0; have zgj1 : w15.cell? ⟨gj, 1, none⟩ = some (.slice none 0 0) := (by rw [Lib.cell_of_heap gjH]; rfl); have fgj1 := blk_frozen gjH 1; have zgj2 : w15.cell? ⟨gj, 2, none⟩ = some (.slice none 0 0) := (by rw [Lib.cell_of_heap gjH]; rfl); have fgj2 := blk_frozen gjH 2; have zgj3 : w15.cell? ⟨gj, 3, none⟩ = some (.slice none 0 0) := (by rw [Lib.cell_of_heap gjH]; rfl); have fgj3 := blk_frozen gjH 3; have zgj4 : w15.cell? ⟨gj, 4, none⟩ = some (.slice none 0 0) := (by rw [Lib.cell_of_heap gjH]; rfl); have fgj4 := blk_frozen gjH 4; have gjHA := Aside0.mk gjH; have gjEA := Aside0.mk gjE; have hb15A := Aside0.mk hb15; clear gjH gjE hb15))
 clear HT4 hh0 hh1 hh2 hh3 hh4 hh5 hh6
 have hge : w14.heap.size ≤ gj := Nat.le_of_eq gjEA.out.symm
 have HJ := Aside0.mk (blk_put (blk_put (blk_put (blk_put (blk_put gjHA.out 0 (.slice d0 0 e0) rfl) 1 (.slice d1 0 e1) rfl) 2 (.slice d2 0 e2) rfl) 3 (.slice d3 0 e3) rfl) 4 (.slice d4 0 e4) rfl)
 have BCC : Aside0 (Below w14.heap.size w14 (((((w15.setCell ⟨gj, 0, none⟩ (.slice d0 0 e0)).setCell ⟨gj, 1, none⟩ (.slice d1 0 e1)).setCell ⟨gj, 2, none⟩ (.slice d2 0 e2)).setCell ⟨gj, 3, none⟩ (.slice d3 0 e3)).setCell ⟨gj, 4, none⟩ (.slice d4 0 e4))) := ⟨(((((hb15A.out.setCell hge _).setCell hge _).setCell hge _).setCell hge _).setCell hge _)⟩
 have BS : Aside0 (Below w13.heap.size w13 (((((w15.setCell ⟨gj, 0, none⟩ (.slice d0 0 e0)).setCell ⟨gj, 1, none⟩ (.slice d1 0 e1)).setCell ⟨gj, 2, none⟩ (.slice d2 0 e2)).setCell ⟨gj, 3, none⟩ (.slice d3 0 e3)).setCell ⟨gj, 4, none⟩ (.slice d4 0 e4))) := ⟨B14.out.trans (BCC.out.mono B14.out.size)⟩
 replace CK1 := Aside0.mk (Kd.C_below CK1.out BS.out)
 replace CJ1 := Aside0.mk (Kd.C_below CJ1.out BS.out)
 replace CB := Aside0.mk (Kd.C_below CB.out BS.out)
 replace DK := Aside0.mk (Kd.C_below DK.out BS.out)
 replace DJ := Aside0.mk (Kd.C_below DJ.out BS.out)
 replace HX := Aside0.mk (blk_keep HX.out BS.out)
 replace HH := Aside0.mk (blk_keep HH.out BS.out)
 replace HY := Aside0.mk (blk_keep HY.out BS.out)
 replace HI := Aside0.mk (blk_keep HI.out BS.out)
 replace BB := Aside0.mk (BB.out.trans (BS.out.mono BB.out.size))
 clear BCC BS hge hb15A gjHA gjEA zgj0 fgj0 zgj1 fgj1 zgj2 fgj2 zgj3 fgj3 zgj4 fgj4
 generalize (((((w15.setCell ⟨gj, 0, none⟩ (.slice d0 0 e0)).setCell ⟨gj, 1, none⟩ (.slice d1 0 e1)).setCell ⟨gj, 2, none⟩ (.slice d2 0 e2)).setCell ⟨gj, 3, none⟩ (.slice d3 0 e3)).setCell ⟨gj, 4, none⟩ (.slice d4 0 e4)) = w16 at *
 obtain ⟨E, hE⟩ : ∃ E, E = rd_T56 shK 1 := ⟨_, rfl⟩
 obtain ⟨G, hG⟩ : ∃ G, G = rd_T54 shJ 0 := ⟨_, rfl⟩
 obtain ⟨aXK, eaXK, p0, p1, p2⟩ := at_T56 CK1.out 1 (by decide) (by decide)
 subst eaXK
 rw [← hE] at p0 p1 p2
 have px0 : w16.cell? ⟨aXK.block, aXK.off + 3, none⟩ = some (.int .i64 E.f0) := by first | exact p0 | (rw [show ((0 : Int).toNat * 3) = 0 from rfl, Addr.add_zero'] at p0; exact p0) | (simp only [show (1 : Int).toNat = 1 from rfl, Nat.reduceMul, Nat.reduceEqDiff, Go.Addr.add, ↓reduceIte] at p0; exact p0)
 have px1 : w16.cell? ⟨aXK.block, aXK.off + 3 + 1, none⟩ = some (.bool E.f1) := by first | exact p1 | (rw [show ((0 : Int).toNat * 3) = 0 from rfl, Addr.add_zero'] at p1; exact p1) | (simp only [show (1 : Int).toNat = 1 from rfl, Nat.reduceMul, Nat.reduceEqDiff, Go.Addr.add, ↓reduceIte] at p1; exact p1)
 have px2 : w16.cell? ⟨aXK.block, aXK.off + 3 + 2, none⟩ = some (.string E.f2) := by first | exact p2 | (rw [show ((0 : Int).toNat * 3) = 0 from rfl, Addr.add_zero'] at p2; exact p2) | (simp only [show (1 : Int).toNat = 1 from rfl, Nat.reduceMul, Nat.reduceEqDiff, Go.Addr.add, ↓reduceIte] at p2; exact p2)
 obtain ⟨aYK, eaYK, q0, q1, q2⟩ := at_T56 DK.out 1 (by decide) (by decide)
 subst eaYK
 rw [← hE] at q0 q1 q2
 have qx0 : w16.cell? ⟨aYK.block, aYK.off + 3, none⟩ = some (.int .i64 E.f0) := by first | exact q0 | (rw [show ((0 : Int).toNat * 3) = 0 from rfl, Addr.add_zero'] at q0; exact q0) | (simp only [show (1 : Int).toNat = 1 from rfl, Nat.reduceMul, Nat.reduceEqDiff, Go.Addr.add, ↓reduceIte] at q0; exact q0)
 have qx1 : w16.cell? ⟨aYK.block, aYK.off + 3 + 1, none⟩ = some (.bool E.f1) := by first | exact q1 | (rw [show ((0 : Int).toNat * 3) = 0 from rfl, Addr.add_zero'] at q1; exact q1) | (simp only [show (1 : Int).toNat = 1 from rfl, Nat.reduceMul, Nat.reduceEqDiff, Go.Addr.add, ↓reduceIte] at q1; exact q1)
 have qx2 : w16.cell? ⟨aYK.block, aYK.off + 3 + 2, none⟩ = some (.string E.f2) := by first | exact q2 | (rw [show ((0 : Int).toNat * 3) = 0 from rfl, Addr.add_zero'] at q2; exact q2) | (simp only [show (1 : Int).toNat = 1 from rfl, Nat.reduceMul, Nat.reduceEqDiff, Go.Addr.add, ↓reduceIte] at q2; exact q2)
 obtain ⟨aXJ, eaXJ, r0, r1⟩ := at_T54 CJ1.out 0 (by decide) (by decide)
 subst eaXJ
 rw [← hG] at r0 r1
 have rx0 : w16.cell? aXJ = some (.int .i64 G.f0) := by first | exact r0 | (rw [show ((0 : Int).toNat * 2) = 0 from rfl, Addr.add_zero'] at r0; exact r0) | (simp only [show (1 : Int).toNat = 1 from rfl, Nat.reduceMul, Nat.reduceEqDiff, Go.Addr.add, ↓reduceIte] at r0; exact r0)
 have rx1 : w16.cell? ⟨aXJ.block, aXJ.off + 1, none⟩ = some (.int .i64 G.f1) := by first | exact r1 | (rw [show ((0 : Int).toNat * 2) = 0 from rfl, Addr.add_zero'] at r1; exact r1) | (simp only [show (1 : Int).toNat = 1 from rfl, Nat.reduceMul, Nat.reduceEqDiff, Go.Addr.add, ↓reduceIte] at r1; exact r1)
 obtain ⟨aYJ, eaYJ, s0, s1⟩ := at_T54 DJ.out 0 (by decide) (by decide)
 subst eaYJ
 rw [← hG] at s0 s1
 have sx0 : w16.cell? aYJ = some (.int .i64 G.f0) := by first | exact s0 | (rw [show ((0 : Int).toNat * 2) = 0 from rfl, Addr.add_zero'] at s0; exact s0) | (simp only [show (1 : Int).toNat = 1 from rfl, Nat.reduceMul, Nat.reduceEqDiff, Go.Addr.add, ↓reduceIte] at s0; exact s0)
 have sx1 : w16.cell? ⟨aYJ.block, aYJ.off + 1, none⟩ = some (.int .i64 G.f1) := by first | exact s1 | (rw [show ((0 : Int).toNat * 2) = 0 from rfl, Addr.add_zero'] at s1; exact s1) | (simp only [show (1 : Int).toNat = 1 from rfl, Nat.reduceMul, Nat.reduceEqDiff, Go.Addr.add, ↓reduceIte] at s1; exact s1)
 have HT5 : Aside0 (Calls Try.prog 22 #[.agg #[.slice (some aXK) 2 cK, .slice (some aXJ) 2 cJ, .slice none 0 0, .slice none 0 0, .slice none 0 0], .int .i64 8, .int .i64 2] w16.drew _) := ⟨block_Right.calls 40 (some aXK) cK shK (some aXJ) cJ shJ none 0 [] none 0 [] none 0 [] 8 2 true w16.drew (Kd.C_below CK1.out ((Below.refl _ _).drew)) LK.out (Kd.C_below CJ1.out ((Below.refl _ _).drew)) LJ.out (c_nil _ _) (Nat.le_refl _) (c_nil _ _) (Nat.le_refl _) (c_nil _ _) (Nat.le_refl _) sh5⟩
 have BD : Aside0 (Below w16.heap.size w16 w16.drew) := ⟨(Below.refl _ _).drew⟩
 clear hE hG CK1 CJ1 DK DJ
 refine start_ (n := 63) (S := fun w' => w'.cell? ⟨gh, 0, none⟩ = some (.int .i64 1) ∧ w'.cell? ⟨gh, 1, none⟩ = some (.int .i64 0) ∧ w'.cell? ⟨gh, 2, none⟩ = some (.int .i64 0) ∧ w'.cell? ⟨gh, 3, none⟩ = some (.int .i64 0) ∧ w'.cell? ⟨gh, 4, none⟩ = some (.int .i64 2) ∧ w'.cell? ⟨gh, 5, none⟩ = some (.int .i64 2) ∧ w'.cell? ⟨gh, 6, none⟩ = some (.int .i64 5) ∧ w'.cell? ⟨aXK.block, aXK.off + 3, none⟩ = some (.int .i64 E.f0) ∧ w'.cell? ⟨aXK.block, aXK.off + 3 + 1, none⟩ = some (.bool E.f1) ∧ w'.cell? ⟨aXK.block, aXK.off + 3 + 2, none⟩ = some (.string E.f2) ∧ w'.cell? ⟨aYK.block, aYK.off + 3, none⟩ = some (.int .i64 E.f0) ∧ w'.cell? ⟨aYK.block, aYK.off + 3 + 1, none⟩ = some (.bool E.f1) ∧ w'.cell? ⟨aYK.block, aYK.off + 3 + 2, none⟩ = some (.string E.f2) ∧ w'.cell? aXJ = some (.int .i64 G.f0) ∧ w'.cell? ⟨aXJ.block, aXJ.off + 1, none⟩ = some (.int .i64 G.f1) ∧ w'.cell? aYJ = some (.int .i64 G.f0) ∧ w'.cell? ⟨aYJ.block, aYJ.off + 1, none⟩ = some (.int .i64 G.f1) ∧ w'.cell? ⟨gx, 0, none⟩ = some (.slice (some aXK) 2 cK) ∧ w'.cell? ⟨gx, 1, none⟩ = some (.slice (some aXJ) 2 cJ) ∧ w'.cell? ⟨gx, 2, none⟩ = some (.slice none 0 0) ∧ w'.cell? ⟨gx, 3, none⟩ = some (.slice none 0 0) ∧ w'.cell? ⟨gx, 4, none⟩ = some (.slice none 0 0) ∧ w'.cell? ⟨gy, 0, none⟩ = some (.slice (some aYK) 2 yK) ∧ w'.cell? ⟨gy, 1, none⟩ = some (.slice (some aYJ) 2 yJ)) (ds := [60]) #[false, false, false, false, false, false, false, false, false, false, false, false, false, false, false, false, false, false, false, false, false, false, false, false, false, false, false, false, false, false, false, false, false, false, false, false, false, false, false, false, false, false, false, false, false, false, false, false, false, false, false, false, false, false, false, false, false, false, false, false, false, false, false] (by kernel_rfl) rfl rfl ⟨blk_cell HH.out 0, blk_cell HH.out 1, blk_cell HH.out 2, blk_cell HH.out 3, blk_cell HH.out 4, blk_cell HH.out 5, blk_cell HH.out 6, px0, px1, px2, qx0, qx1, qx2, rx0, rx1, sx0, sx1, blk_cell HX.out 0, blk_cell HX.out 1, blk_cell HX.out 2, blk_cell HX.out 3, blk_cell HX.out 4, blk_cell HY.out 0, blk_cell HY.out 1⟩ (fun hHeld => ?_); refine with_tabW longcaselaw06_shown.tab6 longcaselaw06_shown.bits6 (fun HT_ HW_ => ?_)
 generalize w16.drew = wd at HT5 BD hHeld ⊢
 refine pure_ (i := 0) (N := some 42) (v := ?_) (a' := ?_) #[true, false, false, false, false, false, false, false, false, false, false, false, false, false, false, false, false, false, false, false, false, false, false, false, false, false, false, false, false, false, false, false, false, false, false, false, false, false, false, false, false, false, false, false, false, false, false, false, false, false, false, false, false, false, false, false, false, false, false, false, false, false, false] rfl rfl (any_of HT_.out (by kernel_rfl)) (fun _ _ _ h => h) (Or.inl ⟨by rfl, ?_⟩) ?_ ?_
 rotate_left
 ·
  intro w'
  go_simp
  with_reducible rfl
 rotate_left
 ·
  simp only [Act.put, List.setIfInBounds_toArray, List.set_cons_zero, List.set_cons_succ, i64_w, i32_w]
  rfl
 refine pure_ (i := 1) (N := some 43) (v := ?_) (a' := ?_) #[true, true, false, false, false, false, false, false, false, false, false, false, false, false, false, false, false, false, false, false, false, false, false, false, false, false, false, false, false, false, false, false, false, false, false, false, false, false, false, false, false, false, false, false, false, false, false, false, false, false, false, false, false, false, false, false, false, false, false, false, false, false, false] rfl rfl (any_of HT_.out (by kernel_rfl)) (fun _ _ _ h => h) (Or.inl ⟨by rfl, ?_⟩) ?_ ?_
 rotate_left
 ·
  intro w'
  go_simp
  with_reducible rfl
 rotate_left
 ·
  simp only [Act.put, List.setIfInBounds_toArray, List.set_cons_zero, List.set_cons_succ, i64_w, i32_w]
  rfl
 refine pure_ (i := 2) (N := some 44) (v := ?_) (a' := ?_) #[true, true, true, false, false, false, false, false, false, false, false, false, false, false, false, false, false, false, false, false, false, false, false, false, false, false, false, false, false, false, false, false, false, false, false, false, false, false, false, false, false, false, false, false, false, false, false, false, false, false, false, false, false, false, false, false, false, false, false, false, false, false, false] rfl rfl (any_of HT_.out (by kernel_rfl)) (fun _ _ _ h => h) (Or.inl ⟨by rfl, ?_⟩) ?_ ?_
 rotate_left
 ·
  intro w'
  go_simp
  with_reducible rfl
 rotate_left
 ·
  simp only [Act.put, List.setIfInBounds_toArray, List.set_cons_zero, List.set_cons_succ, i64_w, i32_w]
  rfl
 refine pure_ (i := 3) (N := some 45) (v := ?_) (a' := ?_) #[true, true, true, true, false, false, false, false, false, false, false, false, false, false, false, false, false, false, false, false, false, false, false, false, false, false, false, false, false, false, false, false, false, false, false, false, false, false, false, false, false, false, false, false, false, false, false, false, false, false, false, false, false, false, false, false, false, false, false, false, false, false, false] rfl rfl (any_of HT_.out (by kernel_rfl)) (fun _ _ _ h => h) (Or.inl ⟨by rfl, ?_⟩) ?_ ?_
 rotate_left
 ·
  intro w'
  go_simp
  with_reducible rfl
 rotate_left
 ·
  simp only [Act.put, List.setIfInBounds_toArray, List.set_cons_zero, List.set_cons_succ, i64_w, i32_w]
  rfl
 refine pure_ (i := 4) (N := some 46) (v := ?_) (a' := ?_) #[true, true, true, true, true, false, false, false, false, false, false, false, false, false, false, false, false, false, false, false, false, false, false, false, false, false, false, false, false, false, false, false, false, false, false, false, false, false, false, false, false, false, false, false, false, false, false, false, false, false, false, false, false, false, false, false, false, false, false, false, false, false, false] rfl rfl (any_of HT_.out (by kernel_rfl)) (fun _ _ _ h => h) (Or.inl ⟨by rfl, ?_⟩) ?_ ?_
 rotate_left
 ·
  intro w'
  go_simp
  with_reducible rfl
 rotate_left
 ·
  simp only [Act.put, List.setIfInBounds_toArray, List.set_cons_zero, List.set_cons_succ, i64_w, i32_w]
  rfl
 refine pure_ (i := 5) (N := some 47) (v := ?_) (a' := ?_) #[true, true, true, true, true, true, false, false, false, false, false, false, false, false, false, false, false, false, false, false, false, false, false, false, false, false, false, false, false, false, false, false, false, false, false, false, false, false, false, false, false, false, false, false, false, false, false, false, false, false, false, false, false, false, false, false, false, false, false, false, false, false, false] rfl rfl (any_of HT_.out (by kernel_rfl)) (fun _ _ _ h => h) (Or.inl ⟨by rfl, ?_⟩) ?_ ?_
 rotate_left
 ·
  intro w'
  go_simp
  with_reducible rfl
 rotate_left
 ·
  simp only [Act.put, List.setIfInBounds_toArray, List.set_cons_zero, List.set_cons_succ, i64_w, i32_w]
  rfl
 refine pure_ (i := 6) (N := some 48) (v := ?_) (a' := ?_) #[true, true, true, true, true, true, true, false, false, false, false, false, false, false, false, false, false, false, false, false, false, false, false, false, false, false, false, false, false, false, false, false, false, false, false, false, false, false, false, false, false, false, false, false, false, false, false, false, false, false, false, false, false, false, false, false, false, false, false, false, false, false, false] rfl rfl (any_of HT_.out (by kernel_rfl)) (fun _ _ _ h => h) (Or.inl ⟨by rfl, ?_⟩) ?_ ?_
 rotate_left
 ·
  intro w'
  go_simp
  with_reducible rfl
 rotate_left
 ·
  simp only [Act.put, List.setIfInBounds_toArray, List.set_cons_zero, List.set_cons_succ, i64_w, i32_w]
  rfl
 refine pure_ (i := 7) (N := some 49) (v := ?_) (a' := ?_) #[true, true, true, true, true, true, true, true, false, false, false, false, false, false, false, false, false, false, false, false, false, false, false, false, false, false, false, false, false, false, false, false, false, false, false, false, false, false, false, false, false, false, false, false, false, false, false, false, false, false, false, false, false, false, false, false, false, false, false, false, false, false, false] rfl rfl (any_of HT_.out (by kernel_rfl)) (fun _ _ _ h => h) (Or.inl ⟨by rfl, ?_⟩) ?_ ?_
 rotate_left
 ·
  intro w'
  go_simp
  with_reducible rfl
 rotate_left
 ·
  simp only [Act.put, List.setIfInBounds_toArray, List.set_cons_zero, List.set_cons_succ, i64_w, i32_w]
  rfl
 refine pure_ (i := 8) (N := some 50) (v := ?_) (a' := ?_) #[true, true, true, true, true, true, true, true, true, false, false, false, false, false, false, false, false, false, false, false, false, false, false, false, false, false, false, false, false, false, false, false, false, false, false, false, false, false, false, false, false, false, false, false, false, false, false, false, false, false, false, false, false, false, false, false, false, false, false, false, false, false, false] rfl rfl (any_of HT_.out (by kernel_rfl)) (fun _ _ _ h => h) (Or.inl ⟨by rfl, ?_⟩) ?_ ?_
 rotate_left
 ·
  intro w'
  go_simp
  with_reducible rfl
 rotate_left
 ·
  simp only [Act.put, List.setIfInBounds_toArray, List.set_cons_zero, List.set_cons_succ, i64_w, i32_w]
  rfl
 refine take_ (i := 9) (N := some 51) (v := ?_) (a' := ?_) #[true, true, true, true, true, true, true, true, true, true, false, false, false, false, false, false, false, false, false, false, false, false, false, false, false, false, false, false, false, false, false, false, false, false, false, false, false, false, false, false, false, false, false, false, false, false, false, false, false, false, false, false, false, false, false, false, false, false, false, false, false, false, false] rfl rfl (take_ofW HT_.out HW_.out (by kernel_rfl)) (fun _ _ _ h => h) (Or.inl ⟨by rfl, ?_⟩) hHeld ?_ ?_
 rotate_left
 ·
  rintro w' ⟨s0, s1, s2, s3, s4, s5, s6, s7, s8, s9, s10, s11, s12, s13, s14, s15, s16, s17, s18, s19, s20, s21, s22, s23⟩
  go_simp
  with_reducible rfl
 rotate_left
 ·
  simp only [Act.put, List.setIfInBounds_toArray, List.set_cons_zero, List.set_cons_succ, i64_w, i32_w]
  rfl
 refine pure_ (i := 10) (N := some 52) (v := ?_) (a' := ?_) #[true, true, true, true, true, true, true, true, true, true, true, false, false, false, false, false, false, false, false, false, false, false, false, false, false, false, false, false, false, false, false, false, false, false, false, false, false, false, false, false, false, false, false, false, false, false, false, false, false, false, false, false, false, false, false, false, false, false, false, false, false, false, false] rfl rfl (any_of HT_.out (by kernel_rfl)) (fun _ _ _ h => h) (Or.inl ⟨by rfl, ?_⟩) ?_ ?_
 rotate_left
 ·
  intro w'
  go_simp
  with_reducible rfl
 rotate_left
 ·
  simp only [Act.put, List.setIfInBounds_toArray, List.set_cons_zero, List.set_cons_succ, i64_w, i32_w]
  rfl
 refine pure_ (i := 11) (N := some 53) (v := ?_) (a' := ?_) #[true, true, true, true, true, true, true, true, true, true, true, true, false, false, false, false, false, false, false, false, false, false, false, false, false, false, false, false, false, false, false, false, false, false, false, false, false, false, false, false, false, false, false, false, false, false, false, false, false, false, false, false, false, false, false, false, false, false, false, false, false, false, false] rfl rfl (any_of HT_.out (by kernel_rfl)) (fun _ _ _ h => h) (Or.inl ⟨by rfl, ?_⟩) ?_ ?_
 rotate_left
 ·
  intro w'
  go_simp
  with_reducible rfl
 rotate_left
 ·
  simp only [Act.put, List.setIfInBounds_toArray, List.set_cons_zero, List.set_cons_succ, i64_w, i32_w]
  rfl
 refine pure_ (i := 12) (N := some 54) (v := ?_) (a' := ?_) #[true, true, true, true, true, true, true, true, true, true, true, true, true, false, false, false, false, false, false, false, false, false, false, false, false, false, false, false, false, false, false, false, false, false, false, false, false, false, false, false, false, false, false, false, false, false, false, false, false, false, false, false, false, false, false, false, false, false, false, false, false, false, false] rfl rfl (any_of HT_.out (by kernel_rfl)) (fun _ _ _ h => h) (Or.inl ⟨by rfl, ?_⟩) ?_ ?_
 rotate_left
 ·
  intro w'
  go_simp
  with_reducible rfl
 rotate_left
 ·
  simp only [Act.put, List.setIfInBounds_toArray, List.set_cons_zero, List.set_cons_succ, i64_w, i32_w]
  rfl
 refine pure_ (i := 13) (N := some 55) (v := ?_) (a' := ?_) #[true, true, true, true, true, true, true, true, true, true, true, true, true, true, false, false, false, false, false, false, false, false, false, false, false, false, false, false, false, false, false, false, false, false, false, false, false, false, false, false, false, false, false, false, false, false, false, false, false, false, false, false, false, false, false, false, false, false, false, false, false, false, false] rfl rfl (any_of HT_.out (by kernel_rfl)) (fun _ _ _ h => h) (Or.inl ⟨by rfl, ?_⟩) ?_ ?_
 rotate_left
 ·
  intro w'
  go_simp
  with_reducible rfl
 rotate_left
 ·
  simp only [Act.put, List.setIfInBounds_toArray, List.set_cons_zero, List.set_cons_succ, i64_w, i32_w]
  rfl
 refine pure_ (i := 14) (N := some 56) (v := ?_) (a' := ?_) #[true, true, true, true, true, true, true, true, true, true, true, true, true, true, true, false, false, false, false, false, false, false, false, false, false, false, false, false, false, false, false, false, false, false, false, false, false, false, false, false, false, false, false, false, false, false, false, false, false, false, false, false, false, false, false, false, false, false, false, false, false, false, false] rfl rfl (any_of HT_.out (by kernel_rfl)) (fun _ _ _ h => h) (Or.inl ⟨by rfl, ?_⟩) ?_ ?_
 rotate_left
 ·
  intro w'
  go_simp
  with_reducible rfl
 rotate_left
 ·
  simp only [Act.put, List.setIfInBounds_toArray, List.set_cons_zero, List.set_cons_succ, i64_w, i32_w]
  rfl
 refine pure_ (i := 15) (N := some 57) (v := ?_) (a' := ?_) #[true, true, true, true, true, true, true, true, true, true, true, true, true, true, true, true, false, false, false, false, false, false, false, false, false, false, false, false, false, false, false, false, false, false, false, false, false, false, false, false, false, false, false, false, false, false, false, false, false, false, false, false, false, false, false, false, false, false, false, false, false, false, false] rfl rfl (any_of HT_.out (by kernel_rfl)) (fun _ _ _ h => h) (Or.inl ⟨by rfl, ?_⟩) ?_ ?_
 rotate_left
 ·
  intro w'
  go_simp
  with_reducible rfl
 rotate_left
 ·
  simp only [Act.put, List.setIfInBounds_toArray, List.set_cons_zero, List.set_cons_succ, i64_w, i32_w]
  rfl
 refine pure_ (i := 16) (N := some 58) (v := ?_) (a' := ?_) #[true, true, true, true, true, true, true, true, true, true, true, true, true, true, true, true, true, false, false, false, false, false, false, false, false, false, false, false, false, false, false, false, false, false, false, false, false, false, false, false, false, false, false, false, false, false, false, false, false, false, false, false, false, false, false, false, false, false, false, false, false, false, false] rfl rfl (any_of HT_.out (by kernel_rfl)) (fun _ _ _ h => h) (Or.inl ⟨by rfl, ?_⟩) ?_ ?_
 rotate_left
 ·
  intro w'
  go_simp
  with_reducible rfl
 rotate_left
 ·
  simp only [Act.put, List.setIfInBounds_toArray, List.set_cons_zero, List.set_cons_succ, i64_w, i32_w]
  rfl
 refine pure_ (i := 17) (N := some 59) (v := ?_) (a' := ?_) #[true, true, true, true, true, true, true, true, true, true, true, true, true, true, true, true, true, true, false, false, false, false, false, false, false, false, false, false, false, false, false, false, false, false, false, false, false, false, false, false, false, false, false, false, false, false, false, false, false, false, false, false, false, false, false, false, false, false, false, false, false, false, false] rfl rfl (any_of HT_.out (by kernel_rfl)) (fun _ _ _ h => h) (Or.inl ⟨by rfl, ?_⟩) ?_ ?_
 rotate_left
 ·
  intro w'
  go_simp
  with_reducible rfl
 rotate_left
 ·
  simp only [Act.put, List.setIfInBounds_toArray, List.set_cons_zero, List.set_cons_succ, i64_w, i32_w]
  rfl
 refine take_ (i := 18) (N := some 60) (v := ?_) (a' := ?_) #[true, true, true, true, true, true, true, true, true, true, true, true, true, true, true, true, true, true, true, false, false, false, false, false, false, false, false, false, false, false, false, false, false, false, false, false, false, false, false, false, false, false, false, false, false, false, false, false, false, false, false, false, false, false, false, false, false, false, false, false, false, false, false] rfl rfl (take_ofW HT_.out HW_.out (by kernel_rfl)) (fun _ _ _ h => h) (Or.inl ⟨by rfl, ?_⟩) hHeld ?_ ?_
 rotate_left
 ·
  rintro w' ⟨s0, s1, s2, s3, s4, s5, s6, s7, s8, s9, s10, s11, s12, s13, s14, s15, s16, s17, s18, s19, s20, s21, s22, s23⟩
  go_simp
  with_reducible rfl
 rotate_left
 ·
  simp only [Act.put, List.setIfInBounds_toArray, List.set_cons_zero, List.set_cons_succ, i64_w, i32_w]
  rfl
 refine pure_ (i := 19) (N := some 61) (v := ?_) (a' := ?_) #[true, true, true, true, true, true, true, true, true, true, true, true, true, true, true, true, true, true, true, true, false, false, false, false, false, false, false, false, false, false, false, false, false, false, false, false, false, false, false, false, false, false, false, false, false, false, false, false, false, false, false, false, false, false, false, false, false, false, false, false, false, false, false] rfl rfl (any_of HT_.out (by kernel_rfl)) (fun _ _ _ h => h) (Or.inl ⟨by rfl, ?_⟩) ?_ ?_
 rotate_left
 ·
  intro w'
  go_simp
  with_reducible rfl
 rotate_left
 ·
  simp only [Act.put, List.setIfInBounds_toArray, List.set_cons_zero, List.set_cons_succ, i64_w, i32_w]
  rfl
 refine pure_ (i := 20) (N := some 62) (v := ?_) (a' := ?_) #[true, true, true, true, true, true, true, true, true, true, true, true, true, true, true, true, true, true, true, true, true, false, false, false, false, false, false, false, false, false, false, false, false, false, false, false, false, false, false, false, false, false, false, false, false, false, false, false, false, false, false, false, false, false, false, false, false, false, false, false, false, false, false] rfl rfl (any_of HT_.out (by kernel_rfl)) (fun _ _ _ h => h) (Or.inl ⟨by rfl, ?_⟩) ?_ ?_
 rotate_left
 ·
  intro w'
  go_simp
  with_reducible rfl
 rotate_left
 ·
  simp only [Act.put, List.setIfInBounds_toArray, List.set_cons_zero, List.set_cons_succ, i64_w, i32_w]
  rfl
 refine pure_ (i := 21) (N := some 63) (v := ?_) (a' := ?_) #[true, true, true, true, true, true, true, true, true, true, true, true, true, true, true, true, true, true, true, true, true, true, false, false, false, false, false, false, false, false, false, false, false, false, false, false, false, false, false, false, false, false, false, false, false, false, false, false, false, false, false, false, false, false, false, false, false, false, false, false, false, false, false] rfl rfl (any_of HT_.out (by kernel_rfl)) (fun _ _ _ h => h) (Or.inl ⟨by rfl, ?_⟩) ?_ ?_
 rotate_left
 ·
  intro w'
  go_simp
  with_reducible rfl
 rotate_left
 ·
  simp only [Act.put, List.setIfInBounds_toArray, List.set_cons_zero, List.set_cons_succ, i64_w, i32_w]
  rfl
 refine pure_ (i := 22) (N := some 64) (v := ?_) (a' := ?_) #[true, true, true, true, true, true, true, true, true, true, true, true, true, true, true, true, true, true, true, true, true, true, true, false, false, false, false, false, false, false, false, false, false, false, false, false, false, false, false, false, false, false, false, false, false, false, false, false, false, false, false, false, false, false, false, false, false, false, false, false, false, false, false] rfl rfl (any_of HT_.out (by kernel_rfl)) (fun _ _ _ h => h) (Or.inl ⟨by rfl, ?_⟩) ?_ ?_
 rotate_left
 ·
  intro w'
  go_simp
  with_reducible rfl
 rotate_left
 ·
  simp only [Act.put, List.setIfInBounds_toArray, List.set_cons_zero, List.set_cons_succ, i64_w, i32_w]
  rfl
 refine pure_ (i := 23) (N := some 65) (v := ?_) (a' := ?_) #[true, true, true, true, true, true, true, true, true, true, true, true, true, true, true, true, true, true, true, true, true, true, true, true, false, false, false, false, false, false, false, false, false, false, false, false, false, false, false, false, false, false, false, false, false, false, false, false, false, false, false, false, false, false, false, false, false, false, false, false, false, false, false] rfl rfl (any_of HT_.out (by kernel_rfl)) (fun _ _ _ h => h) (Or.inl ⟨by rfl, ?_⟩) ?_ ?_
 rotate_left
 ·
  intro w'
  go_simp
  with_reducible rfl
 rotate_left
 ·
  simp only [Act.put, List.setIfInBounds_toArray, List.set_cons_zero, List.set_cons_succ, i64_w, i32_w]
  rfl
 refine pure_ (i := 27) (N := some 69) (v := ?_) (a' := ?_) #[true, true, true, true, true, true, true, true, true, true, true, true, true, true, true, true, true, true, true, true, true, true, true, true, false, false, false, true, false, false, false, false, false, false, false, false, false, false, false, false, false, false, false, false, false, false, false, false, false, false, false, false, false, false, false, false, false, false, false, false, false, false, false] rfl rfl (any_of HT_.out (by kernel_rfl)) (fun _ _ _ h => h) (Or.inl ⟨by rfl, ?_⟩) ?_ ?_
 rotate_left
 ·
  intro w'
  go_simp
  with_reducible rfl
 rotate_left
 ·
  simp only [Act.put, List.setIfInBounds_toArray, List.set_cons_zero, List.set_cons_succ, i64_w, i32_w]
  rfl
 refine take_ (i := 24) (N := some 66) (v := ?_) (a' := ?_) #[true, true, true, true, true, true, true, true, true, true, true, true, true, true, true, true, true, true, true, true, true, true, true, true, true, false, false, true, false, false, false, false, false, false, false, false, false, false, false, false, false, false, false, false, false, false, false, false, false, false, false, false, false, false, false, false, false, false, false, false, false, false, false] rfl rfl (take_ofW HT_.out HW_.out (by kernel_rfl)) (fun _ _ _ h => h) (Or.inl ⟨by rfl, ?_⟩) hHeld ?_ ?_
 rotate_left
 ·
  rintro w' ⟨s0, s1, s2, s3, s4, s5, s6, s7, s8, s9, s10, s11, s12, s13, s14, s15, s16, s17, s18, s19, s20, s21, s22, s23⟩
  go_simp
  with_reducible rfl
 rotate_left
 ·
  simp only [Act.put, List.setIfInBounds_toArray, List.set_cons_zero, List.set_cons_succ, i64_w, i32_w]
  rfl
 refine pure_ (i := 25) (N := some 67) (v := ?_) (a' := ?_) #[true, true, true, true, true, true, true, true, true, true, true, true, true, true, true, true, true, true, true, true, true, true, true, true, true, true, false, true, false, false, false, false, false, false, false, false, false, false, false, false, false, false, false, false, false, false, false, false, false, false, false, false, false, false, false, false, false, false, false, false, false, false, false] rfl rfl (any_of HT_.out (by kernel_rfl)) (fun _ _ _ h => h) (Or.inl ⟨by rfl, ?_⟩) ?_ ?_
 rotate_left
 ·
  intro w'
  go_simp
  with_reducible rfl
 rotate_left
 ·
  simp only [Act.put, List.setIfInBounds_toArray, List.set_cons_zero, List.set_cons_succ, i64_w, i32_w]
  rfl
 refine take_ (i := 26) (N := some 68) (v := ?_) (a' := ?_) #[true, true, true, true, true, true, true, true, true, true, true, true, true, true, true, true, true, true, true, true, true, true, true, true, true, true, true, true, false, false, false, false, false, false, false, false, false, false, false, false, false, false, false, false, false, false, false, false, false, false, false, false, false, false, false, false, false, false, false, false, false, false, false] rfl rfl (take_ofW HT_.out HW_.out (by kernel_rfl)) (fun _ _ _ h => h) (Or.inl ⟨by rfl, ?_⟩) hHeld ?_ ?_
 rotate_left
 ·
  rintro w' ⟨s0, s1, s2, s3, s4, s5, s6, s7, s8, s9, s10, s11, s12, s13, s14, s15, s16, s17, s18, s19, s20, s21, s22, s23⟩
  go_simp
  with_reducible rfl
 rotate_left
 ·
  simp only [Act.put, List.setIfInBounds_toArray, List.set_cons_zero, List.set_cons_succ, i64_w, i32_w]
  rfl
 refine take_ (i := 28) (N := some 70) (v := ?_) (a' := ?_) #[true, true, true, true, true, true, true, true, true, true, true, true, true, true, true, true, true, true, true, true, true, true, true, true, true, true, true, true, true, false, false, false, false, false, false, false, false, false, false, false, false, false, false, false, false, false, false, false, false, false, false, false, false, false, false, false, false, false, false, false, false, false, false] rfl rfl (take_ofW HT_.out HW_.out (by kernel_rfl)) (fun _ _ _ h => h) (Or.inl ⟨by rfl, ?_⟩) hHeld ?_ ?_
 rotate_left
 ·
  rintro w' ⟨s0, s1, s2, s3, s4, s5, s6, s7, s8, s9, s10, s11, s12, s13, s14, s15, s16, s17, s18, s19, s20, s21, s22, s23⟩
  go_simp
  with_reducible rfl
 rotate_left
 ·
  simp only [Act.put, List.setIfInBounds_toArray, List.set_cons_zero, List.set_cons_succ, i64_w, i32_w]
  rfl
 refine pure_ (i := 29) (N := some 71) (v := ?_) (a' := ?_) #[true, true, true, true, true, true, true, true, true, true, true, true, true, true, true, true, true, true, true, true, true, true, true, true, true, true, true, true, true, true, false, false, false, false, false, false, false, false, false, false, false, false, false, false, false, false, false, false, false, false, false, false, false, false, false, false, false, false, false, false, false, false, false] rfl rfl (any_of HT_.out (by kernel_rfl)) (fun _ _ _ h => h) (Or.inl ⟨by rfl, ?_⟩) ?_ ?_
 rotate_left
 ·
  intro w'
  go_simp
  with_reducible rfl
 rotate_left
 ·
  simp only [Act.put, List.setIfInBounds_toArray, List.set_cons_zero, List.set_cons_succ, i64_w, i32_w]
  rfl
 refine take_ (i := 30) (N := some 72) (v := ?_) (a' := ?_) #[true, true, true, true, true, true, true, true, true, true, true, true, true, true, true, true, true, true, true, true, true, true, true, true, true, true, true, true, true, true, true, false, false, false, false, false, false, false, false, false, false, false, false, false, false, false, false, false, false, false, false, false, false, false, false, false, false, false, false, false, false, false, false] rfl rfl (take_ofW HT_.out HW_.out (by kernel_rfl)) (fun _ _ _ h => h) (Or.inl ⟨by rfl, ?_⟩) hHeld ?_ ?_
 rotate_left
 ·
  rintro w' ⟨s0, s1, s2, s3, s4, s5, s6, s7, s8, s9, s10, s11, s12, s13, s14, s15, s16, s17, s18, s19, s20, s21, s22, s23⟩
  go_simp
  with_reducible rfl
 rotate_left
 ·
  simp only [Act.put, List.setIfInBounds_toArray, List.set_cons_zero, List.set_cons_succ, i64_w, i32_w]
  rfl
 refine pure_ (i := 31) (N := some 73) (v := ?_) (a' := ?_) #[true, true, true, true, true, true, true, true, true, true, true, true, true, true, true, true, true, true, true, true, true, true, true, true, true, true, true, true, true, true, true, true, false, false, false, false, false, false, false, false, false, false, false, false, false, false, false, false, false, false, false, false, false, false, false, false, false, false, false, false, false, false, false] rfl rfl (any_of HT_.out (by kernel_rfl)) (fun _ _ _ h => h) (Or.inl ⟨by rfl, ?_⟩) ?_ ?_
 rotate_left
 ·
  intro w'
  go_simp
  with_reducible rfl
 rotate_left
 ·
  simp only [Act.put, List.setIfInBounds_toArray, List.set_cons_zero, List.set_cons_succ, i64_w, i32_w]
  rfl
 refine pure_ (i := 32) (N := some 74) (v := ?_) (a' := ?_) #[true, true, true, true, true, true, true, true, true, true, true, true, true, true, true, true, true, true, true, true, true, true, true, true, true, true, true, true, true, true, true, true, true, false, false, false, false, false, false, false, false, false, false, false, false, false, false, false, false, false, false, false, false, false, false, false, false, false, false, false, false, false, false] rfl rfl (any_of HT_.out (by kernel_rfl)) (fun _ _ _ h => h) (Or.inl ⟨by rfl, ?_⟩) ?_ ?_
 rotate_left
 ·
  intro w'
  go_simp
  with_reducible rfl
 rotate_left
 ·
  simp only [Act.put, List.setIfInBounds_toArray, List.set_cons_zero, List.set_cons_succ, i64_w, i32_w]
  rfl
 refine pure_ (i := 33) (N := some 75) (v := ?_) (a' := ?_) #[true, true, true, true, true, true, true, true, true, true, true, true, true, true, true, true, true, true, true, true, true, true, true, true, true, true, true, true, true, true, true, true, true, true, false, false, false, false, false, false, false, false, false, false, false, false, false, false, false, false, false, false, false, false, false, false, false, false, false, false, false, false, false] rfl rfl (any_of HT_.out (by kernel_rfl)) (fun _ _ _ h => h) (Or.inl ⟨by rfl, ?_⟩) ?_ ?_
 rotate_left
 ·
  intro w'
  go_simp
  with_reducible rfl
 rotate_left
 ·
  simp only [Act.put, List.setIfInBounds_toArray, List.set_cons_zero, List.set_cons_succ, i64_w, i32_w]
  rfl
 refine pure_ (i := 34) (N := some 76) (v := ?_) (a' := ?_) #[true, true, true, true, true, true, true, true, true, true, true, true, true, true, true, true, true, true, true, true, true, true, true, true, true, true, true, true, true, true, true, true, true, true, true, false, false, false, false, false, false, false, false, false, false, false, false, false, false, false, false, false, false, false, false, false, false, false, false, false, false, false, false] rfl rfl (any_of HT_.out (by kernel_rfl)) (fun _ _ _ h => h) (Or.inl ⟨by rfl, ?_⟩) ?_ ?_
 rotate_left
 ·
  intro w'
  go_simp
  with_reducible rfl
 rotate_left
 ·
  simp only [Act.put, List.setIfInBounds_toArray, List.set_cons_zero, List.set_cons_succ, i64_w, i32_w]
  rfl
 refine take_ (i := 35) (N := some 77) (v := ?_) (a' := ?_) #[true, true, true, true, true, true, true, true, true, true, true, true, true, true, true, true, true, true, true, true, true, true, true, true, true, true, true, true, true, true, true, true, true, true, true, true, false, false, false, false, false, false, false, false, false, false, false, false, false, false, false, false, false, false, false, false, false, false, false, false, false, false, false] rfl rfl (take_ofW HT_.out HW_.out (by kernel_rfl)) (fun _ _ _ h => h) (Or.inl ⟨by rfl, ?_⟩) hHeld ?_ ?_
 rotate_left
 ·
  rintro w' ⟨s0, s1, s2, s3, s4, s5, s6, s7, s8, s9, s10, s11, s12, s13, s14, s15, s16, s17, s18, s19, s20, s21, s22, s23⟩
  go_simp
  with_reducible rfl
 rotate_left
 ·
  simp only [Act.put, List.setIfInBounds_toArray, List.set_cons_zero, List.set_cons_succ, i64_w, i32_w]
  rfl
 refine pure_ (i := 36) (N := some 78) (v := ?_) (a' := ?_) #[true, true, true, true, true, true, true, true, true, true, true, true, true, true, true, true, true, true, true, true, true, true, true, true, true, true, true, true, true, true, true, true, true, true, true, true, true, false, false, false, false, false, false, false, false, false, false, false, false, false, false, false, false, false, false, false, false, false, false, false, false, false, false] rfl rfl (any_of HT_.out (by kernel_rfl)) (fun _ _ _ h => h) (Or.inl ⟨by rfl, ?_⟩) ?_ ?_
 rotate_left
 ·
  intro w'
  go_simp
  with_reducible rfl
 rotate_left
 ·
  simp only [Act.put, List.setIfInBounds_toArray, List.set_cons_zero, List.set_cons_succ, i64_w, i32_w]
  rfl
 refine pure_ (i := 37) (N := some 79) (v := ?_) (a' := ?_) #[true, true, true, true, true, true, true, true, true, true, true, true, true, true, true, true, true, true, true, true, true, true, true, true, true, true, true, true, true, true, true, true, true, true, true, true, true, true, false, false, false, false, false, false, false, false, false, false, false, false, false, false, false, false, false, false, false, false, false, false, false, false, false] rfl rfl (any_of HT_.out (by kernel_rfl)) (fun _ _ _ h => h) (Or.inl ⟨by rfl, ?_⟩) ?_ ?_
 rotate_left
 ·
  intro w'
  go_simp
  with_reducible rfl
 rotate_left
 ·
  simp only [Act.put, List.setIfInBounds_toArray, List.set_cons_zero, List.set_cons_succ, i64_w, i32_w]
  rfl
 refine pure_ (i := 38) (N := some 80) (v := ?_) (a' := ?_) #[true, true, true, true, true, true, true, true, true, true, true, true, true, true, true, true, true, true, true, true, true, true, true, true, true, true, true, true, true, true, true, true, true, true, true, true, true, true, true, false, false, false, false, false, false, false, false, false, false, false, false, false, false, false, false, false, false, false, false, false, false, false, false] rfl rfl (any_of HT_.out (by kernel_rfl)) (fun _ _ _ h => h) (Or.inl ⟨by rfl, ?_⟩) ?_ ?_
 rotate_left
 ·
  intro w'
  go_simp
  with_reducible rfl
 rotate_left
 ·
  simp only [Act.put, List.setIfInBounds_toArray, List.set_cons_zero, List.set_cons_succ, i64_w, i32_w]
  rfl
 refine pure_ (i := 39) (N := some 81) (v := ?_) (a' := ?_) #[true, true, true, true, true, true, true, true, true, true, true, true, true, true, true, true, true, true, true, true, true, true, true, true, true, true, true, true, true, true, true, true, true, true, true, true, true, true, true, true, false, false, false, false, false, false, false, false, false, false, false, false, false, false, false, false, false, false, false, false, false, false, false] rfl rfl (any_of HT_.out (by kernel_rfl)) (fun _ _ _ h => h) (Or.inl ⟨by rfl, ?_⟩) ?_ ?_
 rotate_left
 ·
  intro w'
  go_simp
  with_reducible rfl
 rotate_left
 ·
  simp only [Act.put, List.setIfInBounds_toArray, List.set_cons_zero, List.set_cons_succ, i64_w, i32_w]
  rfl
 refine pure_ (i := 40) (N := some 82) (v := ?_) (a' := ?_) #[true, true, true, true, true, true, true, true, true, true, true, true, true, true, true, true, true, true, true, true, true, true, true, true, true, true, true, true, true, true, true, true, true, true, true, true, true, true, true, true, true, false, false, false, false, false, false, false, false, false, false, false, false, false, false, false, false, false, false, false, false, false, false] rfl rfl (any_of HT_.out (by kernel_rfl)) (fun _ _ _ h => h) (Or.inl ⟨by rfl, ?_⟩) ?_ ?_
 rotate_left
 ·
  intro w'
  go_simp
  with_reducible rfl
 rotate_left
 ·
  simp only [Act.put, List.setIfInBounds_toArray, List.set_cons_zero, List.set_cons_succ, i64_w, i32_w]
  rfl
 refine pure_ (i := 44) (N := some 86) (v := ?_) (a' := ?_) #[true, true, true, true, true, true, true, true, true, true, true, true, true, true, true, true, true, true, true, true, true, true, true, true, true, true, true, true, true, true, true, true, true, true, true, true, true, true, true, true, true, false, false, false, true, false, false, false, false, false, false, false, false, false, false, false, false, false, false, false, false, false, false] rfl rfl (any_of HT_.out (by kernel_rfl)) (fun _ _ _ h => h) (Or.inl ⟨by rfl, ?_⟩) ?_ ?_
 rotate_left
 ·
  intro w'
  go_simp
  with_reducible rfl
 rotate_left
 ·
  simp only [Act.put, List.setIfInBounds_toArray, List.set_cons_zero, List.set_cons_succ, i64_w, i32_w]
  rfl
 refine take_ (i := 41) (N := some 83) (v := ?_) (a' := ?_) #[true, true, true, true, true, true, true, true, true, true, true, true, true, true, true, true, true, true, true, true, true, true, true, true, true, true, true, true, true, true, true, true, true, true, true, true, true, true, true, true, true, true, false, false, true, false, false, false, false, false, false, false, false, false, false, false, false, false, false, false, false, false, false] rfl rfl (take_ofW HT_.out HW_.out (by kernel_rfl)) (fun _ _ _ h => h) (Or.inl ⟨by rfl, ?_⟩) hHeld ?_ ?_
 rotate_left
 ·
  rintro w' ⟨s0, s1, s2, s3, s4, s5, s6, s7, s8, s9, s10, s11, s12, s13, s14, s15, s16, s17, s18, s19, s20, s21, s22, s23⟩
  go_simp
  with_reducible rfl
 rotate_left
 ·
  simp only [Act.put, List.setIfInBounds_toArray, List.set_cons_zero, List.set_cons_succ, i64_w, i32_w]
  rfl
 refine pure_ (i := 42) (N := some 84) (v := ?_) (a' := ?_) #[true, true, true, true, true, true, true, true, true, true, true, true, true, true, true, true, true, true, true, true, true, true, true, true, true, true, true, true, true, true, true, true, true, true, true, true, true, true, true, true, true, true, true, false, true, false, false, false, false, false, false, false, false, false, false, false, false, false, false, false, false, false, false] rfl rfl (any_of HT_.out (by kernel_rfl)) (fun _ _ _ h => h) (Or.inl ⟨by rfl, ?_⟩) ?_ ?_
 rotate_left
 ·
  intro w'
  go_simp
  with_reducible rfl
 rotate_left
 ·
  simp only [Act.put, List.setIfInBounds_toArray, List.set_cons_zero, List.set_cons_succ, i64_w, i32_w]
  rfl
 refine take_ (i := 43) (N := some 85) (v := ?_) (a' := ?_) #[true, true, true, true, true, true, true, true, true, true, true, true, true, true, true, true, true, true, true, true, true, true, true, true, true, true, true, true, true, true, true, true, true, true, true, true, true, true, true, true, true, true, true, true, true, false, false, false, false, false, false, false, false, false, false, false, false, false, false, false, false, false, false] rfl rfl (take_ofW HT_.out HW_.out (by kernel_rfl)) (fun _ _ _ h => h) (Or.inl ⟨by rfl, ?_⟩) hHeld ?_ ?_
 rotate_left
 ·
  rintro w' ⟨s0, s1, s2, s3, s4, s5, s6, s7, s8, s9, s10, s11, s12, s13, s14, s15, s16, s17, s18, s19, s20, s21, s22, s23⟩
  go_simp
  with_reducible rfl
 rotate_left
 ·
  simp only [Act.put, List.setIfInBounds_toArray, List.set_cons_zero, List.set_cons_succ, i64_w, i32_w]
  rfl
 refine take_ (i := 45) (N := some 87) (v := ?_) (a' := ?_) #[true, true, true, true, true, true, true, true, true, true, true, true, true, true, true, true, true, true, true, true, true, true, true, true, true, true, true, true, true, true, true, true, true, true, true, true, true, true, true, true, true, true, true, true, true, true, false, false, false, false, false, false, false, false, false, false, false, false, false, false, false, false, false] rfl rfl (take_ofW HT_.out HW_.out (by kernel_rfl)) (fun _ _ _ h => h) (Or.inl ⟨by rfl, ?_⟩) hHeld ?_ ?_
 rotate_left
 ·
  rintro w' ⟨s0, s1, s2, s3, s4, s5, s6, s7, s8, s9, s10, s11, s12, s13, s14, s15, s16, s17, s18, s19, s20, s21, s22, s23⟩
  go_simp
  with_reducible rfl
 rotate_left
 ·
  simp only [Act.put, List.setIfInBounds_toArray, List.set_cons_zero, List.set_cons_succ, i64_w, i32_w]
  rfl
 refine pure_ (i := 46) (N := some 88) (v := ?_) (a' := ?_) #[true, true, true, true, true, true, true, true, true, true, true, true, true, true, true, true, true, true, true, true, true, true, true, true, true, true, true, true, true, true, true, true, true, true, true, true, true, true, true, true, true, true, true, true, true, true, true, false, false, false, false, false, false, false, false, false, false, false, false, false, false, false, false] rfl rfl (any_of HT_.out (by kernel_rfl)) (fun _ _ _ h => h) (Or.inl ⟨by rfl, ?_⟩) ?_ ?_
 rotate_left
 ·
  intro w'
  go_simp
  with_reducible rfl
 rotate_left
 ·
  simp only [Act.put, List.setIfInBounds_toArray, List.set_cons_zero, List.set_cons_succ, i64_w, i32_w]
  rfl
 refine take_ (i := 47) (N := some 89) (v := ?_) (a' := ?_) #[true, true, true, true, true, true, true, true, true, true, true, true, true, true, true, true, true, true, true, true, true, true, true, true, true, true, true, true, true, true, true, true, true, true, true, true, true, true, true, true, true, true, true, true, true, true, true, true, false, false, false, false, false, false, false, false, false, false, false, false, false, false, false] rfl rfl (take_ofW HT_.out HW_.out (by kernel_rfl)) (fun _ _ _ h => h) (Or.inl ⟨by rfl, ?_⟩) hHeld ?_ ?_
 rotate_left
 ·
  rintro w' ⟨s0, s1, s2, s3, s4, s5, s6, s7, s8, s9, s10, s11, s12, s13, s14, s15, s16, s17, s18, s19, s20, s21, s22, s23⟩
  go_simp
  with_reducible rfl
 rotate_left
 ·
  simp only [Act.put, List.setIfInBounds_toArray, List.set_cons_zero, List.set_cons_succ, i64_w, i32_w]
  rfl
 refine pure_ (i := 48) (N := some 90) (v := ?_) (a' := ?_) #[true, true, true, true, true, true, true, true, true, true, true, true, true, true, true, true, true, true, true, true, true, true, true, true, true, true, true, true, true, true, true, true, true, true, true, true, true, true, true, true, true, true, true, true, true, true, true, true, true, false, false, false, false, false, false, false, false, false, false, false, false, false, false] rfl rfl (any_of HT_.out (by kernel_rfl)) (fun _ _ _ h => h) (Or.inl ⟨by rfl, ?_⟩) ?_ ?_
 rotate_left
 ·
  intro w'
  go_simp
  with_reducible rfl
 rotate_left
 ·
  simp only [Act.put, List.setIfInBounds_toArray, List.set_cons_zero, List.set_cons_succ, i64_w, i32_w]
  rfl
 refine pure_ (i := 49) (N := some 91) (v := ?_) (a' := ?_) #[true, true, true, true, true, true, true, true, true, true, true, true, true, true, true, true, true, true, true, true, true, true, true, true, true, true, true, true, true, true, true, true, true, true, true, true, true, true, true, true, true, true, true, true, true, true, true, true, true, true, false, false, false, false, false, false, false, false, false, false, false, false, false] rfl rfl (any_of HT_.out (by kernel_rfl)) (fun _ _ _ h => h) (Or.inl ⟨by rfl, ?_⟩) ?_ ?_
 rotate_left
 ·
  intro w'
  go_simp
  with_reducible rfl
 rotate_left
 ·
  simp only [Act.put, List.setIfInBounds_toArray, List.set_cons_zero, List.set_cons_succ, i64_w, i32_w]
  rfl
 refine pure_ (i := 50) (N := some 92) (v := ?_) (a' := ?_) #[true, true, true, true, true, true, true, true, true, true, true, true, true, true, true, true, true, true, true, true, true, true, true, true, true, true, true, true, true, true, true, true, true, true, true, true, true, true, true, true, true, true, true, true, true, true, true, true, true, true, true, false, false, false, false, false, false, false, false, false, false, false, false] rfl rfl (any_of HT_.out (by kernel_rfl)) (fun _ _ _ h => h) (Or.inl ⟨by rfl, ?_⟩) ?_ ?_
 rotate_left
 ·
  intro w'
  go_simp
  with_reducible rfl
 rotate_left
 ·
  simp only [Act.put, List.setIfInBounds_toArray, List.set_cons_zero, List.set_cons_succ, i64_w, i32_w]
  rfl
 refine pure_ (i := 51) (N := some 93) (v := ?_) (a' := ?_) #[true, true, true, true, true, true, true, true, true, true, true, true, true, true, true, true, true, true, true, true, true, true, true, true, true, true, true, true, true, true, true, true, true, true, true, true, true, true, true, true, true, true, true, true, true, true, true, true, true, true, true, true, false, false, false, false, false, false, false, false, false, false, false] rfl rfl (any_of HT_.out (by kernel_rfl)) (fun _ _ _ h => h) (Or.inl ⟨by rfl, ?_⟩) ?_ ?_
 rotate_left
 ·
  intro w'
  go_simp
  with_reducible rfl
 rotate_left
 ·
  simp only [Act.put, List.setIfInBounds_toArray, List.set_cons_zero, List.set_cons_succ, i64_w, i32_w]
  rfl
 refine pure_ (i := 52) (N := some 94) (v := ?_) (a' := ?_) #[true, true, true, true, true, true, true, true, true, true, true, true, true, true, true, true, true, true, true, true, true, true, true, true, true, true, true, true, true, true, true, true, true, true, true, true, true, true, true, true, true, true, true, true, true, true, true, true, true, true, true, true, true, false, false, false, false, false, false, false, false, false, false] rfl rfl (any_of HT_.out (by kernel_rfl)) (fun _ _ _ h => h) (Or.inl ⟨by rfl, ?_⟩) ?_ ?_
 rotate_left
 ·
  intro w'
  go_simp
  with_reducible rfl
 rotate_left
 ·
  simp only [Act.put, List.setIfInBounds_toArray, List.set_cons_zero, List.set_cons_succ, i64_w, i32_w]
  rfl
 refine pure_ (i := 53) (N := some 95) (v := ?_) (a' := ?_) #[true, true, true, true, true, true, true, true, true, true, true, true, true, true, true, true, true, true, true, true, true, true, true, true, true, true, true, true, true, true, true, true, true, true, true, true, true, true, true, true, true, true, true, true, true, true, true, true, true, true, true, true, true, true, false, false, false, false, false, false, false, false, false] rfl rfl (any_of HT_.out (by kernel_rfl)) (fun _ _ _ h => h) (Or.inl ⟨by rfl, ?_⟩) ?_ ?_
 rotate_left
 ·
  intro w'
  go_simp
  with_reducible rfl
 rotate_left
 ·
  simp only [Act.put, List.setIfInBounds_toArray, List.set_cons_zero, List.set_cons_succ, i64_w, i32_w]
  rfl
 refine pure_ (i := 54) (N := some 96) (v := ?_) (a' := ?_) #[true, true, true, true, true, true, true, true, true, true, true, true, true, true, true, true, true, true, true, true, true, true, true, true, true, true, true, true, true, true, true, true, true, true, true, true, true, true, true, true, true, true, true, true, true, true, true, true, true, true, true, true, true, true, true, false, false, false, false, false, false, false, false] rfl rfl (any_of HT_.out (by kernel_rfl)) (fun _ _ _ h => h) (Or.inl ⟨by rfl, ?_⟩) ?_ ?_
 rotate_left
 ·
  intro w'
  go_simp
  with_reducible rfl
 rotate_left
 ·
  simp only [Act.put, List.setIfInBounds_toArray, List.set_cons_zero, List.set_cons_succ, i64_w, i32_w]
  rfl
 refine pure_ (i := 55) (N := some 97) (v := ?_) (a' := ?_) #[true, true, true, true, true, true, true, true, true, true, true, true, true, true, true, true, true, true, true, true, true, true, true, true, true, true, true, true, true, true, true, true, true, true, true, true, true, true, true, true, true, true, true, true, true, true, true, true, true, true, true, true, true, true, true, true, false, false, false, false, false, false, false] rfl rfl (any_of HT_.out (by kernel_rfl)) (fun _ _ _ h => h) (Or.inl ⟨by rfl, ?_⟩) ?_ ?_
 rotate_left
 ·
  intro w'
  go_simp
  with_reducible rfl
 rotate_left
 ·
  simp only [Act.put, List.setIfInBounds_toArray, List.set_cons_zero, List.set_cons_succ, i64_w, i32_w]
  rfl
 refine pure_ (i := 56) (N := some 98) (v := ?_) (a' := ?_) #[true, true, true, true, true, true, true, true, true, true, true, true, true, true, true, true, true, true, true, true, true, true, true, true, true, true, true, true, true, true, true, true, true, true, true, true, true, true, true, true, true, true, true, true, true, true, true, true, true, true, true, true, true, true, true, true, true, false, false, false, false, false, false] rfl rfl (any_of HT_.out (by kernel_rfl)) (fun _ _ _ h => h) (Or.inl ⟨by rfl, ?_⟩) ?_ ?_
 rotate_left
 ·
  intro w'
  go_simp
  with_reducible rfl
 rotate_left
 ·
  simp only [Act.put, List.setIfInBounds_toArray, List.set_cons_zero, List.set_cons_succ, i64_w, i32_w]
  rfl
 refine pure_ (i := 57) (N := some 99) (v := ?_) (a' := ?_) #[true, true, true, true, true, true, true, true, true, true, true, true, true, true, true, true, true, true, true, true, true, true, true, true, true, true, true, true, true, true, true, true, true, true, true, true, true, true, true, true, true, true, true, true, true, true, true, true, true, true, true, true, true, true, true, true, true, true, false, false, false, false, false] rfl rfl (any_of HT_.out (by kernel_rfl)) (fun _ _ _ h => h) (Or.inl ⟨by rfl, ?_⟩) ?_ ?_
 rotate_left
 ·
  intro w'
  go_simp
  with_reducible rfl
 rotate_left
 ·
  simp only [Act.put, List.setIfInBounds_toArray, List.set_cons_zero, List.set_cons_succ, i64_w, i32_w]
  rfl
 refine pure_ (i := 58) (N := some 100) (v := ?_) (a' := ?_) #[true, true, true, true, true, true, true, true, true, true, true, true, true, true, true, true, true, true, true, true, true, true, true, true, true, true, true, true, true, true, true, true, true, true, true, true, true, true, true, true, true, true, true, true, true, true, true, true, true, true, true, true, true, true, true, true, true, true, true, false, false, false, false] rfl rfl (any_of HT_.out (by kernel_rfl)) (fun _ _ _ h => h) (Or.inl ⟨by rfl, ?_⟩) ?_ ?_
 rotate_left
 ·
  intro w'
  go_simp
  with_reducible rfl
 rotate_left
 ·
  simp only [Act.put, List.setIfInBounds_toArray, List.set_cons_zero, List.set_cons_succ, i64_w, i32_w]
  rfl
 refine take_ (i := 59) (N := some 101) (v := ?_) (a' := ?_) #[true, true, true, true, true, true, true, true, true, true, true, true, true, true, true, true, true, true, true, true, true, true, true, true, true, true, true, true, true, true, true, true, true, true, true, true, true, true, true, true, true, true, true, true, true, true, true, true, true, true, true, true, true, true, true, true, true, true, true, true, false, false, false] rfl rfl (take_ofW HT_.out HW_.out (by kernel_rfl)) (fun _ _ _ h => h) (Or.inl ⟨by rfl, ?_⟩) hHeld ?_ ?_
 rotate_left
 ·
  rintro w' ⟨s0, s1, s2, s3, s4, s5, s6, s7, s8, s9, s10, s11, s12, s13, s14, s15, s16, s17, s18, s19, s20, s21, s22, s23⟩
  go_simp
  with_reducible rfl
 rotate_left
 ·
  simp only [Act.put, List.setIfInBounds_toArray, List.set_cons_zero, List.set_cons_succ, i64_w, i32_w]
  rfl
 refine last_ (i := 60) (N := some 102) #[true, true, true, true, true, true, true, true, true, true, true, true, true, true, true, true, true, true, true, true, true, true, true, true, true, true, true, true, true, true, true, true, true, true, true, true, true, true, true, true, true, true, true, true, true, true, true, true, true, true, true, true, true, true, true, true, true, true, true, true, true, false, false] rfl rfl (one_of HT_.out (by kernel_rfl)) (by decide) (fun K hK => ?_)
 refine goes_ Try.func22 (by kernel_rfl) rfl #[.agg #[.slice (some aXK) 2 cK, .slice (some aXJ) 2 cJ, .slice none 0 0, .slice none 0 0, .slice none 0 0], .int .i64 8, .int .i64 2] (by rfl) rfl rfl (by simp only [List.map_toArray, List.map_cons, List.map_nil]; rfl) ?_
 with_reducible refine (HT5.out).mono ?_
 rintro e w17 ⟨rfl, hb17⟩
 refine ⟨_, rfl, ?_⟩
 have B17 := Aside0.mk hb17
 clear hb17
 refine hK.out _ _ ?_
 clear hK K
 refine norm_ (a' := ?_) ?_ ?_
 rotate_left
 ·
  show Act.put _ (some 102) _ = _
  simp only [Act.put, List.setIfInBounds_toArray, List.set_cons_zero, List.set_cons_succ, i64_w, i32_w]
  rfl
 refine pure_ (i := 61) (N := some 103) (v := ?_) (a' := ?_) #[true, true, true, true, true, true, true, true, true, true, true, true, true, true, true, true, true, true, true, true, true, true, true, true, true, true, true, true, true, true, true, true, true, true, true, true, true, true, true, true, true, true, true, true, true, true, true, true, true, true, true, true, true, true, true, true, true, true, true, true, true, true, false] rfl rfl (any_of HT_.out (by kernel_rfl)) (fun _ _ _ h => h) (Or.inl ⟨by rfl, ?_⟩) ?_ ?_
 rotate_left
 ·
  intro w'
  go_simp
  with_reducible rfl
 rotate_left
 ·
  simp only [Act.put, List.setIfInBounds_toArray, List.set_cons_zero, List.set_cons_succ, i64_w, i32_w]
  rfl
 refine pure_ (i := 62) (N := some 0) (v := ?_) (a' := ?_) #[true, true, true, true, true, true, true, true, true, true, true, true, true, true, true, true, true, true, true, true, true, true, true, true, true, true, true, true, true, true, true, true, true, true, true, true, true, true, true, true, true, true, true, true, true, true, true, true, true, true, true, true, true, true, true, true, true, true, true, true, true, true, true] rfl rfl (any_of HT_.out (by kernel_rfl)) (fun _ _ _ h => h) (Or.inl ⟨by rfl, ?_⟩) ?_ ?_
 rotate_left
 ·
  intro w'
  go_simp
  with_reducible rfl
 rotate_left
 ·
  simp only [Act.put, List.setIfInBounds_toArray, List.set_cons_zero, List.set_cons_succ, i64_w, i32_w]
  rfl
 refine done_ (done_of HT_.out (by kernel_rfl)) ?_
 go_wp2_with fail
 go_ret
 have B18 := BB.out.trans ((BD.out.trans (B17.out.mono BD.out.size)).mono BB.out.size)
 exact ⟨rfl, B18⟩
end Go.Proofs.Ytdcgclhmfflheaa.PQ
