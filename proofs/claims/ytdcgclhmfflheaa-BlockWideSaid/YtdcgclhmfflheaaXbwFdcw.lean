import Derived.Test.YtdcgclhmfflheaaXbwFdin
namespace Go.Proofs.Ytdcgclhmfflheaa.PQ
open Go.RowKit Go.Proofs.YtdcgclhmfflheaaW.PrintWords Go.Proofs.YtdcgclhmfflheaaW.PrintLast Go.Proofs.YtdcgclhmfflheaaW.PrintMore
set_option linter.unusedVariables false
set_option linter.unusedSimpArgs false
theorem map_range_succ {α : Type} (f : Nat → α) (k : Nat) : (List.range (k + 1)).map f = (List.range k).map f ++ [f k] := by rw [List.range_succ, List.map_append]; rfl
theorem map_range_set {α : Type} (f g : Nat → α) (n k : Nat) (x : α) (hx : k < n → x = g k) (h : ∀ i, i < n → i ≠ k → f i = g i) : ((List.range n).map f).set k x = (List.range n).map g := by
 apply List.ext_getElem (by simp)
 intro i h1 h2
 simp at h1 h2
 rw [List.getElem_set]
 split
 ·
  rename_i e; subst e; simp [hx h2]
 ·
  rename_i e; simp [h i h2 (Ne.symm e)]
theorem drop_four {l : List Int} {k : Nat} (h : k < l.length) : l.drop k = l.getD k 0 :: l.drop (k + 1) := by
 rw [List.drop_eq_getElem_cons h]; simp [h]
def DecEnd (p : DParts) (r : Option Bool) (w : World) (e : Ending) (w' : World) : Prop :=
 (p.ok = true ∧ r = some true → DecPost p.kinds p.jumps p.leaps p.std p.ut 0 w e w') ∧ (¬(p.ok = true ∧ r = some true) → DecPost [] [] [] [] [] 4 w e w')
theorem all_both {α : Type} (l : List α) (f g : α → Bool) : (l.all f && l.all g) = l.all fun x => f x && g x := by
 induction l with
 | nil => rfl
 | cons a l ih => rw [List.all_cons, List.all_cons, List.all_cons, ← ih]; cases f a <;> cases g a <;> simp
theorem byte_w {m : List Int} {k : Nat} {c : Int} (h : bytesOk m) (hk : k < m.length) (hc : c = m.getD k 0) : wrap64 c = c := by
 have h1 := h c (by rw [hc, List.getD_eq_getElem?_getD, List.getElem?_eq_getElem hk]; exact List.getElem_mem hk)
 unfold wrap64
 omega
set_option maxHeartbeats 4000000 in
set_option maxRecDepth 100000 in
theorem dec_main (A0 : Option Addr) (c0 : Nat) (l0 : List Int) (ver : Int) (ut std leap time type char sz : Nat) (hsz : sz = 4 ∨ sz = 8) (w : World) (hr0 : Kd.C (Kd.int .u8) w A0 l0.length l0) (hc0 : l0.length ≤ c0)
  (r : Option Bool) (hright : header_Right.f ver ut std leap time type char = some true) (hlen : l0.length ≥ time * (sz + 1) + type * 6 + char + leap * (sz + 4) + std + ut) (hok : bytesOk l0) (p : DParts) (hp : p = dparts (l0.take (time * (sz + 1) + type * 6 + char + leap * (sz + 4) + std + ut)) ut std leap time type char sz)
  (hr : p.ok = true → block_Right.f 40000 p.kinds p.jumps p.leaps p.std p.ut sz ver = r) (hr2 : p.ok = true → r ≠ none) :
  Calls Try.prog 27 #[.slice A0 l0.length c0, .agg #[.int .i64 ver, .int .i64 ut, .int .i64 std, .int .i64 leap, .int .i64 time, .int .i64 type, .int .i64 char], .int .i64 sz] w
   (DecEnd p r w) := by
 have HD := Aside0.mk (hdr_bd hright)
 have HRIGHT := Aside0.mk hright
 have HR0 := Aside0.mk hr0
 have HSZ := Aside0.mk hsz
 have HOK := Aside0.mk hok
 have HP := Aside0.mk hp
 have HR := Aside0.mk hr
 have HR2 := Aside0.mk hr2
 have hb4 : ((sz : Int) != 4) = true ∨ ((sz : Int) != 4) = false := by cases ((sz : Int) != 4) <;> simp
 have hb8 : ((sz : Int) != 4) = true → ((sz : Int) != 8) = false := by rcases hsz with rfl | rfl <;> simp
 clear hsz hright hr0 hok hp hr hr2
 have hu27 := Try.underlying27
 have hu35 := Try.underlying35
 obtain ⟨n, hn⟩ : ∃ n, n = time * (sz + 1) + type * 6 + char + leap * (sz + 4) + std + ut := ⟨_, rfl⟩
 rw [← hn] at hlen HP
 have HBODY : Aside0 (header_Body.f ver ut std leap time type char sz = some (n : Int)) := ⟨by rw [body_eq HD.out (sz := (sz : Int)) (by have := HSZ.out; omega), hn]; congr 1⟩
 have HN := Aside0.mk hn
 clear hn
 obtain ⟨i0, hi0, _, hszi, _⟩ := info_parts info5
 obtain ⟨hc1, hA1, hL1⟩ := print_take_of (P := Try.prog) (Value.int .u8) 0 33 5 .i64 Try.underlying33 hi0 hszi A0 c0 l0 n (by omega) (by omega) hc0
 have HC1 : Aside0 (Kd.C (Kd.int .u8) w A0 (l0.take n).length (l0.take n)) := ⟨Kd.C_of_reads (h1 := fun _ => rfl) (hA1 _ (Kd.reads_of_C HR0.out))⟩
 have HL1 : Aside0 ((l0.take n).length ≤ c0) := ⟨hL1⟩
 have HLE : Aside0 ((l0.take n).length = n) := ⟨by rw [List.length_take]; omega⟩
 rw [Int.toNat_natCast] at hc1
 have hlt : decide ((l0.length : Int) < (n : Int)) = false := by simp; omega
 clear hi0 hszi hA1 hL1
 go_enter Try.func27, Try.ntmps27
 go_upto_region 1 with (first
  | ((with_reducible refine gate_dst (N := 4) rfl ?_); refine box_event ?hg (N := 4) ?hd (cs := #[.int .i64 ver, .int .i64 ut, .int .i64 std, .int .i64 leap, .int .i64 time, .int .i64 type, .int .i64 char]) (t := 35) ?hr ?_; (case hd => rfl); (case hg => rfl); (case hr => first | (go_simp; done) | (go_simp; rfl)); intro gh hgh w1 hbox hb1; have HGH := Aside0.mk hgh; have HBOX := Aside0.mk hbox; have HB1 := Aside0.mk hb1; clear hgh hbox hb1)
  | ((with_reducible refine gate_dst (N := 6) rfl ?_); refine box_event ?hg2 (N := 6) ?hd2 (cs := #[.slice none 0 0, .slice none 0 0, .slice none 0 0, .slice none 0 0, .slice none 0 0]) (t := 27) ?hr2 ?_; (case hd2 => rfl); (case hg2 => rfl); (case hr2 => first | (go_simp; done) | (go_simp; rfl)); intro gx hgx w2 hbox2 hb2; have HGX := Aside0.mk hgx; have HBOX2 := Aside0.mk hbox2; have HB2 := Aside0.mk hb2; clear hgx hbox2 hb2))
 have hhw2 : w2.heap[gh]? = some (.cells #[.int .i64 ver, .int .i64 ut, .int .i64 std, .int .i64 leap, .int .i64 time, .int .i64 type, .int .i64 char] 35 (0, 0)) := (HB2.out.block gh (Array.getElem?_eq_some_iff.1 HBOX.out).1).trans HBOX.out
 have HH2 := Aside0.mk hhw2
 go_cut [26] (fun v26 wc => v26 = .bool false ∧ Aside0 (Below w2.heap.size w2 wc))
 case first =>
  have cz0 : w2.cell? ⟨gh, 0, none⟩ = some (.int .i64 ver) := by rw [Lib.cell_of_heap hhw2]; rfl
  have cz1 : w2.cell? ⟨gh, 1, none⟩ = some (.int .i64 ut) := by rw [Lib.cell_of_heap hhw2]; rfl
  have cz2 : w2.cell? ⟨gh, 2, none⟩ = some (.int .i64 std) := by rw [Lib.cell_of_heap hhw2]; rfl
  have cz3 : w2.cell? ⟨gh, 3, none⟩ = some (.int .i64 leap) := by rw [Lib.cell_of_heap hhw2]; rfl
  have cz4 : w2.cell? ⟨gh, 4, none⟩ = some (.int .i64 time) := by rw [Lib.cell_of_heap hhw2]; rfl
  have cz5 : w2.cell? ⟨gh, 5, none⟩ = some (.int .i64 type) := by rw [Lib.cell_of_heap hhw2]; rfl
  have cz6 : w2.cell? ⟨gh, 6, none⟩ = some (.int .i64 char) := by rw [Lib.cell_of_heap hhw2]; rfl
  rcases hb4 with h4 | h4
  ·
   have h8 := hb8 h4
   clear hb8 hhw2
   go_wp2_with (go_at_call 25; refine (header_Right.calls ver ut std leap time type char true _ HRIGHT.out).mono ?_; rintro e w3 ⟨rfl, hd3⟩)
   go_meet
   case rel => exact ⟨rfl, ⟨hd3⟩⟩
  ·
   clear hb8 hhw2
   go_wp2_with (go_at_call 25; refine (header_Right.calls ver ut std leap time type char true _ HRIGHT.out).mono ?_; rintro e w3 ⟨rfl, hd3⟩)
   go_meet
   case rel => exact ⟨rfl, ⟨hd3⟩⟩
 case rest =>
  obtain ⟨rfl, HDC⟩ := hcut
  clear hb4 hb8 hhw2
  have hhc : wc.heap[gh]? = some (.cells #[.int .i64 ver, .int .i64 ut, .int .i64 std, .int .i64 leap, .int .i64 time, .int .i64 type, .int .i64 char] 35 (0, 0)) := (HDC.out.block gh (Array.getElem?_eq_some_iff.1 HH2.out).1).trans HH2.out
  have HHC := Aside0.mk hhc
  have cz0 : wc.cell? ⟨gh, 0, none⟩ = some (.int .i64 ver) := by rw [Lib.cell_of_heap hhc]; rfl
  have cz1 : wc.cell? ⟨gh, 1, none⟩ = some (.int .i64 ut) := by rw [Lib.cell_of_heap hhc]; rfl
  have cz2 : wc.cell? ⟨gh, 2, none⟩ = some (.int .i64 std) := by rw [Lib.cell_of_heap hhc]; rfl
  have cz3 : wc.cell? ⟨gh, 3, none⟩ = some (.int .i64 leap) := by rw [Lib.cell_of_heap hhc]; rfl
  have cz4 : wc.cell? ⟨gh, 4, none⟩ = some (.int .i64 time) := by rw [Lib.cell_of_heap hhc]; rfl
  have cz5 : wc.cell? ⟨gh, 5, none⟩ = some (.int .i64 type) := by rw [Lib.cell_of_heap hhc]; rfl
  have cz6 : wc.cell? ⟨gh, 6, none⟩ = some (.int .i64 char) := by rw [Lib.cell_of_heap hhc]; rfl
  clear hhc
  go_upto_region 7 with (first
   | (go_at_call 26; refine (header_Body.calls ver ut std leap time type char sz n _ HBODY.out).mono ?_; rintro e w3 ⟨rfl, hd3⟩; have HD3 := Aside0.mk hd3; clear hd3)
   | ((with_reducible refine gate_dst (N := 40) rfl ?_); refine box_event ?hg (N := 40) ?hd (cs := #[.slice A0 n c0, .bool true]) (t := 101) ?hr ?_; (case hd => rfl); (case hg => rfl); (case hr => first | (go_simp; done) | (go_simp; rfl)); intro g hg w4 hbox hb4; have HG := Aside0.mk hg; have HBOX4 := Aside0.mk hbox; have HB4 := Aside0.mk hb4; clear hg hbox hb4))
  obtain ⟨b, hb⟩ : ∃ b, b = l0.take n := ⟨_, rfl⟩
  rw [← hb] at HP HC1 HL1 HLE
  have HOKB : Aside0 (bytesOk b) := ⟨by rw [hb]; exact bytesOk_take HOK.out n⟩
  obtain ⟨hd, hhd⟩ : ∃ hd : Array Value, hd = #[.int .i64 ver, .int .i64 ut, .int .i64 std, .int .i64 leap, .int .i64 time, .int .i64 type, .int .i64 char] := ⟨_, rfl⟩
  have HHD := Aside0.mk hhd
  have HFI : Aside0 (DFix w gh gx g w4.heap.size ∧ DInv w w4 gh gx g w4.heap.size hd #[.slice none 0 0, .slice none 0 0, .slice none 0 0, .slice none 0 0, .slice none 0 0] (.slice none 0 0) (.slice none 0 0) (.slice none 0 0) (.slice none 0 0) (.slice none 0 0) (.slice none 0 0) [] [] [] [] [] [] b true) := by
   have e1 := HGH.out
   have e2 := HGX.out
   have e3 := HG.out
   have b1 := HB1.out
   have b2 := HB2.out
   have bc := HDC.out
   have b3 := HD3.out
   have b4 := HB4.out
   have l1 : gh < w1.heap.size := (Array.getElem?_eq_some_iff.1 HBOX.out).1
   have l2 : gx < w2.heap.size := (Array.getElem?_eq_some_iff.1 HBOX2.out).1
   have l4 : g < w4.heap.size := (Array.getElem?_eq_some_iff.1 HBOX4.out).1
   have s1 := b1.size
   have s2 := b2.size
   have sc := bc.size
   have s3 := b3.size
   have s4 := b4.size
   have bl : Below w.heap.size w w3 := ((b1.trans (b2.mono s1)).trans (bc.mono (by omega))).trans (b3.mono (by omega))
   refine ⟨⟨by omega, by omega, by omega, by omega, by omega, by omega, by omega, by omega, by omega⟩, ?_⟩
   refine ⟨?_, ?_, ⟨A0, c0, ?_, ?_, HL1.out⟩, ⟨Kd.R_nil _ _ _ _ _, Kd.R_nil _ _ _ _ _, Kd.R_nil _ _ _ _ _, Kd.R_nil _ _ _ _ _, Kd.R_nil _ _ _ _ _, Kd.R_nil _ _ _ _ _⟩, Nat.le_refl _, bl.trans (b4.mono (by omega))⟩
   ·
    rw [hhd]; exact (b4.block gh (by omega)).trans ((b3.block gh (by omega)).trans HHC.out)
   ·
    exact (b4.block gx (by omega)).trans ((b3.block gx (by omega)).trans ((bc.block gx (by omega)).trans HBOX2.out))
   ·
    rw [HLE.out]; exact HBOX4.out
   ·
    exact HC1.out
  have HF := Aside0.mk HFI.out.1
  have HI := Aside0.mk HFI.out.2
  obtain ⟨B2, hB2⟩ : ∃ B2, B2 = w4.heap.size := ⟨_, rfl⟩
  rw [← hB2] at HF HI
  have z4 : w4.cell? ⟨gh, 4, none⟩ = some (.int .i64 time) := (HI.out.hc 4).trans (by rw [HHD.out]; rfl)
  clear HFI HBOX4 HB4 HBOX2 HB2 HBOX HB1 HHC HH2 HD3 HDC HG HGX HGH HC1 HL1 hB2 hb hlt cz0 cz1 cz2 cz3 cz4 cz5 cz6 hc1 hlen hhd
  have hti : time ≤ 5000 := by have := HD.out.ti1; omega
  have hty1 : 1 ≤ type := by have := HD.out.ty0; omega
  have hty2 : type ≤ 256 := by have := HD.out.ty1; omega
  have hle : leap ≤ 5000 := by have := HD.out.le1; omega
  obtain ⟨J0, hJ0⟩ : ∃ J0 : Nat → S54, J0 = fun i => ⟨numI ((b.drop (sz * i)).take sz), 0⟩ := ⟨_, rfl⟩
  have HJ0 := Aside0.mk hJ0
  clear hJ0
  go_wp2_with fail
  go_loopw [43] (fun i wr => ∃ k : Nat, k ≤ time ∧ i = .int .i64 k ∧ ∃ vJ, Aside0 (DInv w wr gh gx g B2 hd #[.slice none 0 0, vJ, .slice none 0 0, .slice none 0 0, .slice none 0 0] (.slice none 0 0) vJ (.slice none 0 0) (.slice none 0 0) (.slice none 0 0) (.slice none 0 0) [] ((List.range k).map J0) [] [] [] [] (b.drop (sz * k)) true)) (fun i _ => time - (intOf i).toNat)
  case atStart => exact ⟨0, Nat.zero_le _, rfl, _, ⟨by rw [Nat.mul_zero, List.drop_zero]; exact HI.out⟩⟩
  case round =>
   clear HI z4
   obtain ⟨k, hk, rfl, vJ, HI⟩ := hrel
   by_cases hlt : k < time
   ·
    have HD1 := Aside0.mk (HI.out.drew HF.out)
    have hroom : sz * k + sz ≤ n := by rcases HSZ.out with rfl | rfl <;> (have := HN.out; omega)
    have HT := Aside0.mk (rd_number w g (b.drop (sz * k)) true sz (numI ((b.drop (sz * k)).take sz)) wr.drew HD1.out.bel HF.out.r0 HD1.out.rd (by omega) (by rw [List.length_drop, HLE.out]; omega)
     (numF_ok HSZ.out (by rw [Int.toNat_natCast, List.length_take, List.length_drop, HLE.out]; omega) (fun x hx => HOKB.out x (List.mem_of_mem_drop (List.mem_of_mem_take hx)))))
    have hJl : ((List.range k).map J0).length = k := by simp
    have HJL := Aside0.mk hJl
    have hu54 := Try.underlying54
    have hu27' := Try.underlying27
    clear hJl hroom
    go_upto_region 9 with fail
    refine start_ (n := 10) (S := fun w' => w'.cell? ⟨gx, 1, none⟩ = some vJ) (ds := [9]) #[false, false, false, false, false, false, false, false, false, false] (by kernel_rfl) rfl rfl ((HD1.out.xc 1).trans rfl) (fun hHeld => ?_)
    refine pure_ (i := 0) (N := some 45) (v := ?_) (a' := ?_) #[true, false, false, false, false, false, false, false, false, false] rfl rfl (by kernel_rfl) (fun _ _ _ h => h) (Or.inl ⟨by rfl, ?_⟩) ?_ ?_
    rotate_left
    ·
     intro w'
     go_simp
     with_reducible rfl
    rotate_left
    ·
     simp only [Act.put, List.setIfInBounds_toArray, List.set_cons_zero, List.set_cons_succ, i64_w, i32_w]
     rfl
    refine pure_ (i := 2) (N := some 47) (v := ?_) (a' := ?_) #[true, false, true, false, false, false, false, false, false, false] rfl rfl (by kernel_rfl) (fun _ _ _ h => h) (Or.inl ⟨by rfl, ?_⟩) ?_ ?_
    rotate_left
    ·
     intro w'
     go_simp
     with_reducible rfl
    rotate_left
    ·
     simp only [Act.put, List.setIfInBounds_toArray, List.set_cons_zero, List.set_cons_succ, i64_w, i32_w]
     rfl
    refine pure_ (i := 3) (N := some 48) (v := ?_) (a' := ?_) #[true, false, true, true, false, false, false, false, false, false] rfl rfl (by kernel_rfl) (fun _ _ _ h => h) (Or.inl ⟨by rfl, ?_⟩) ?_ ?_
    rotate_left
    ·
     intro w'
     go_simp
     with_reducible rfl
    rotate_left
    ·
     simp only [Act.put, List.setIfInBounds_toArray, List.set_cons_zero, List.set_cons_succ, i64_w, i32_w]
     rfl
    refine take_ (i := 1) (N := some 46) (v := ?_) (a' := ?_) #[true, true, true, true, false, false, false, false, false, false] rfl rfl (by kernel_rfl) (fun _ _ _ h => h) (Or.inl ⟨by rfl, ?_⟩) hHeld ?_ ?_
    rotate_left
    ·
     intro w' s0
     go_simp
     with_reducible rfl
    rotate_left
    ·
     simp only [Act.put, List.setIfInBounds_toArray, List.set_cons_zero, List.set_cons_succ, i64_w, i32_w]
     rfl
    refine one_ (i := 4) (N := some 49) #[true, true, true, true, true, false, false, false, false, false] rfl rfl (by kernel_rfl) (by decide) (fun K hK => ?_)
    refine goes_ Try.func53 (by kernel_rfl) rfl #[.pointer (some ⟨g, 0, none⟩), .int .i64 sz] (by rfl) rfl rfl (by simp only [List.map_toArray, List.map_cons, List.map_nil]; rfl) ?_
    with_reducible refine (HT.out).mono ?_
    rintro e w1 ⟨rfl, hr1, ho1⟩
    refine ⟨_, rfl, ?_⟩
    have HD2 := Aside0.mk (HD1.out.only HF.out ho1 hr1)
    clear hr1 ho1
    refine hK.out _ _ ((HD2.out.xc 1).trans rfl) (fun hHeld => ?_)
    clear hK K
    refine norm_ (a' := ?_) ?_ ?_
    rotate_left
    ·
     show Act.put _ (some 49) _ = _
     simp only [Act.put, List.setIfInBounds_toArray, List.set_cons_zero, List.set_cons_succ, i64_w, i32_w]
     rfl
    refine pure_ (i := 5) (N := some 50) (v := ?_) (a' := ?_) #[true, true, true, true, true, true, false, false, false, false] rfl rfl (by kernel_rfl) (fun _ _ _ h => h) (Or.inl ⟨by rfl, ?_⟩) ?_ ?_
    rotate_left
    ·
     intro w'
     go_simp
     with_reducible rfl
    rotate_left
    ·
     simp only [Act.put, List.setIfInBounds_toArray, List.set_cons_zero, List.set_cons_succ, i64_w, i32_w]
     rfl
    refine one_ (i := 6) (N := some 51) #[true, true, true, true, true, true, true, false, false, false] rfl rfl (by kernel_rfl) (by decide) (fun K hK => ?_)
    refine value_ (w1 := ?_) (v := ?_) (by rfl) rfl ?_ ?_
    rotate_left 2
    ·
     go_simp
     constructor
     ·
      rfl
     ·
      rfl
    refine hK.out _ _ (((HD2.out.box HF.out _).xc 1).trans rfl) (fun hHeld => ?_)
    clear hK K
    refine norm_ (a' := ?_) ?_ ?_
    rotate_left
    ·
     show Act.put _ (some 51) _ = _
     simp only [Act.put, List.setIfInBounds_toArray, List.set_cons_zero, List.set_cons_succ, i64_w, i32_w]
     rfl
    refine one_ (i := 7) (N := some 52) #[true, true, true, true, true, true, true, true, false, false] rfl rfl (by kernel_rfl) (by decide) (fun K hK => ?_)
    refine Kd.R_append_step k54 (w0 := w1) B2 (by rfl) (.tmp 46) (.tmp 51) 23 54 (.agg #[(.int .i64 0), (.int .i64 0)]) 16 rfl Try.underlying23 info54 rfl (by decide) (by omega) vJ ((List.range k).map J0) (⟨numI ((b.drop (sz * k)).take sz), 0⟩ : S54) [.int .i64 (numI ((b.drop (sz * k)).take sz)), .int .i64 0] (fun _ => True) (fun _ => False) rfl rfl (k54_mkM _ _ _ _) (fun _ hk => hk.elim) (fun _ _ => trivial) HD2.out.row.rJ (Below.refl _ _) HD2.out.hB (by rw [HJL.out]; omega) ?_
    intro v2 w3 ho hb hg hat
    obtain ⟨Av, cv, rfl⟩ := Kd.R_slice ho
    have HD3 := Aside0.mk (HD2.out.grow HF.out (DGrow.of HD2.out.row.rJ hg (Below.refl _ _)) (HD2.out.bd HF.out hb) (by decide) (.inl ⟨by decide, rfl, rfl⟩) (.inr ho) (.inl ⟨by decide, rfl, rfl⟩) (.inl ⟨by decide, rfl, rfl⟩))
    have fz := HD3.out.xf 1
    clear ho hb hg hat
    refine hK.out _ _ ((HD3.out.xc 1).trans rfl) (fun hHeld => ?_)
    clear hK K
    refine norm_ (a' := ?_) ?_ ?_
    rotate_left
    ·
     show Act.put _ (some 52) _ = _
     simp only [Act.put, List.setIfInBounds_toArray, List.set_cons_zero, List.set_cons_succ, i64_w, i32_w]
     rfl
    refine pure_ (i := 8) (N := some 53) (v := ?_) (a' := ?_) #[true, true, true, true, true, true, true, true, true, false] rfl rfl (by kernel_rfl) (fun _ _ _ h => h) (Or.inl ⟨by rfl, ?_⟩) ?_ ?_
    rotate_left
    ·
     intro w'
     go_simp
     with_reducible rfl
    rotate_left
    ·
     simp only [Act.put, List.setIfInBounds_toArray, List.set_cons_zero, List.set_cons_succ, i64_w, i32_w]
     rfl
    refine last_ (i := 9) (N := none) #[true, true, true, true, true, true, true, true, true, true] rfl rfl (by kernel_rfl) (by decide) (fun K hK => ?_)
    refine skip_ (w1 := ?_) (by rfl) rfl ?_ ?_
    rotate_left
    ·
     go_simp
     rfl
    refine hK.out _ _ ?_
    clear hK K
    refine done_ (by kernel_rfl) ?_
    go_wp2_with fail
    go_roundw
    case rel =>
     have h := HD3.out.setx HF.out 1 (.slice Av (k + 1) cv) (by simp)
     have e1 : ((List.range k).map J0 ++ [(⟨numI ((b.drop (sz * k)).take sz), 0⟩ : S54)]).length = k + 1 := by simp
     rw [e1] at h
     have e2 : (List.range (k + 1)).map J0 = (List.range k).map J0 ++ [⟨numI ((b.drop (sz * k)).take sz), 0⟩] := by rw [map_range_succ, HJ0.out]
     have e3 : b.drop (sz * (k + 1)) = (b.drop (sz * k)).drop ((sz : Int)).toNat := by rw [Int.toNat_natCast, List.drop_drop, Nat.mul_succ]
     refine ⟨k + 1, by omega, by go_num, .slice Av (k + 1) cv, ⟨?_⟩⟩
     rw [e2, e3]
     exact h
    case measure => simp [intOf]; omega
   ·
    obtain rfl : time = k := by omega
    clear hlt hk
    obtain ⟨Aj, cj, rfl⟩ := Kd.R_slice HI.out.row.rJ
    obtain ⟨m, hm⟩ : ∃ m, m = b.drop (sz * time) := ⟨_, rfl⟩
    have hjl : ((List.range time).map J0).length = time := by simp
    rw [hjl, ← hm] at HI
    have HM := Aside0.mk hm
    have HML : Aside0 (time + type * 6 + char + leap * (sz + 4) + std + ut = m.length) := ⟨by rw [hm, List.length_drop, HLE.out, HN.out]; rcases HSZ.out with rfl | rfl <;> omega⟩
    have z1 : wr.cell? ⟨gx, 1, none⟩ = some (.slice Aj time cj) := (HI.out.xc 1).trans rfl
    obtain ⟨Jk, hJk⟩ : ∃ Jk : Nat → Nat → S54, Jk = fun k i => ⟨numI ((b.drop (sz * i)).take sz), if i < k then m.getD i 0 else 0⟩ := ⟨_, rfl⟩
    have HJK := Aside0.mk hJk
    have hst : J0 = Jk 0 := by rw [HJ0.out, hJk]; rfl
    rw [hst] at HI
    have HOKM : Aside0 (bytesOk m) := ⟨fun x hx => HOKB.out x (List.mem_of_mem_drop (hm ▸ hx))⟩
    clear hJk hst hm hjl HJ0
    go_wp2_with fail
    go_loopw [58] (fun i wr => ∃ k : Nat, k ≤ time ∧ i = .int .i64 k ∧ Aside0 (DInv w wr gh gx g B2 hd #[.slice none 0 0, .slice Aj time cj, .slice none 0 0, .slice none 0 0, .slice none 0 0] (.slice none 0 0) (.slice Aj time cj) (.slice none 0 0) (.slice none 0 0) (.slice none 0 0) (.slice none 0 0) [] ((List.range time).map (Jk k)) [] [] [] [] (m.drop k) true)) (fun i _ => time - (intOf i).toNat)
    case atStart => exact ⟨0, Nat.zero_le _, rfl, ⟨by rw [List.drop_zero]; exact HI.out⟩⟩
    case round =>
     clear HI z1
     obtain ⟨k, hk, rfl, HI⟩ := hrel
     by_cases hlt : k < time
     ·
      obtain ⟨gj, cj', hv⟩ := R_open HI.out.row.rJ (by decide) (by simp; omega)
      injection hv with hv1 hv2 hv3
      subst hv1
      clear hv2 hv3
      have HD1 := Aside0.mk (HI.out.drew HF.out)
      have hkm : k < m.length := by have := HML.out; omega
      have HMK := Aside0.mk (drop_four hkm)
      have hrd := HD1.out.rd
      rw [HMK.out] at hrd
      obtain ⟨c, hc⟩ : ∃ c, c = m.getD k 0 := ⟨_, rfl⟩
      rw [← hc] at hrd
      have HCV := Aside0.mk hc
      have HWC : Aside0 (wrap64 c = c) := ⟨byte_w (HOKM.out) hkm hc⟩
      obtain ⟨ad, cc, hcc, hx0, hT⟩ := rd_byte w g c (m.drop (k + 1)) true wr.drew hrd
      have HT := Aside0.mk hT
      have HX := Aside0.mk hx0
      have HBL := Aside0.mk (World.block_lt_of_cell? _ _ hx0)
      have hu23 := Try.underlying23
      have hu33 := Try.underlying33
      have hu54 := Try.underlying54
      clear hkm hrd hc hx0 hT
      go_upto_region 14 with fail
      refine start_ (n := 11) (S := fun w' => w'.cell? ⟨gx, 1, none⟩ = some (.slice (some ⟨gj, 0, none⟩) time cj) ∧ w'.cell? ad = some (.int .u8 c)) (ds := [10]) #[false, false, false, false, false, false, false, false, false, false, false] (by kernel_rfl) rfl rfl ⟨(HD1.out.xc 1).trans rfl, (HD1.out.bel.cell HBL.out).trans HX.out⟩ (fun hHeld => ?_)
      refine pure_ (i := 0) (N := some 61) (v := ?_) (a' := ?_) #[true, false, false, false, false, false, false, false, false, false, false] rfl rfl (by kernel_rfl) (fun _ _ _ h => h) (Or.inl ⟨by rfl, ?_⟩) ?_ ?_
      rotate_left
      ·
       intro w'
       go_simp
       with_reducible rfl
      rotate_left
      ·
       simp only [Act.put, List.setIfInBounds_toArray, List.set_cons_zero, List.set_cons_succ, i64_w, i32_w]
       rfl
      refine pure_ (i := 2) (N := some 63) (v := ?_) (a' := ?_) #[true, false, true, false, false, false, false, false, false, false, false] rfl rfl (by kernel_rfl) (fun _ _ _ h => h) (Or.inl ⟨by rfl, ?_⟩) ?_ ?_
      rotate_left
      ·
       intro w'
       go_simp
       with_reducible rfl
      rotate_left
      ·
       simp only [Act.put, List.setIfInBounds_toArray, List.set_cons_zero, List.set_cons_succ, i64_w, i32_w]
       rfl
      refine pure_ (i := 3) (N := some 64) (v := ?_) (a' := ?_) #[true, false, true, true, false, false, false, false, false, false, false] rfl rfl (by kernel_rfl) (fun _ _ _ h => h) (Or.inl ⟨by rfl, ?_⟩) ?_ ?_
      rotate_left
      ·
       intro w'
       go_simp
       with_reducible rfl
      rotate_left
      ·
       simp only [Act.put, List.setIfInBounds_toArray, List.set_cons_zero, List.set_cons_succ, i64_w, i32_w]
       rfl
      refine take_ (i := 1) (N := some 62) (v := ?_) (a' := ?_) #[true, true, true, true, false, false, false, false, false, false, false] rfl rfl (by kernel_rfl) (fun _ _ _ h => h) (Or.inl ⟨by rfl, ?_⟩) hHeld ?_ ?_
      rotate_left
      ·
       rintro w' ⟨s0, s1⟩
       go_simp
       with_reducible rfl
      rotate_left
      ·
       simp only [Act.put, List.setIfInBounds_toArray, List.set_cons_zero, List.set_cons_succ, i64_w, i32_w]
       rfl
      refine one_ (i := 4) (N := some 65) #[true, true, true, true, true, false, false, false, false, false, false] rfl rfl (by kernel_rfl) (by decide) (fun K hK => ?_)
      refine goes_ Try.func54 (by kernel_rfl) rfl #[.pointer (some ⟨g, 0, none⟩), .int .i64 1] (by rfl) rfl rfl (by simp only [List.map_toArray, List.map_cons, List.map_nil]; rfl) ?_
      with_reducible refine (HT.out).mono ?_
      rintro e w1 ⟨rfl, hr1, ho1⟩
      refine ⟨_, rfl, ?_⟩
      have HD2 := Aside0.mk (HD1.out.only HF.out ho1 hr1)
      obtain ⟨jc, jf⟩ := HD2.out.jcell k hlt
      clear hr1 ho1
      refine hK.out _ _ ⟨(HD2.out.xc 1).trans rfl, (HD2.out.bel.cell HBL.out).trans HX.out⟩ (fun hHeld => ?_)
      clear hK K
      refine norm_ (a' := ?_) ?_ ?_
      rotate_left
      ·
       show Act.put _ (some 65) _ = _
       simp only [Act.put, List.setIfInBounds_toArray, List.set_cons_zero, List.set_cons_succ, i64_w, i32_w]
       rfl
      refine pure_ (i := 5) (N := some 66) (v := ?_) (a' := ?_) #[true, true, true, true, true, true, false, false, false, false, false] rfl rfl (by kernel_rfl) (fun _ _ _ h => h) (Or.inl ⟨by rfl, ?_⟩) ?_ ?_
      rotate_left
      ·
       intro w'
       go_simp
       with_reducible rfl
      rotate_left
      ·
       simp only [Act.put, List.setIfInBounds_toArray, List.set_cons_zero, List.set_cons_succ, i64_w, i32_w]
       rfl
      refine take_ (i := 6) (N := some 67) (v := ?_) (a' := ?_) #[true, true, true, true, true, true, true, false, false, false, false] rfl rfl (by kernel_rfl) (fun _ _ _ h => h) (Or.inl ⟨by rfl, ?_⟩) hHeld ?_ ?_
      rotate_left
      ·
       rintro w' ⟨s0, s1⟩
       go_simp
       with_reducible rfl
      rotate_left
      ·
       simp only [Act.put, List.setIfInBounds_toArray, List.set_cons_zero, List.set_cons_succ, i64_w, i32_w]
       rfl
      refine pure_ (i := 7) (N := some 68) (v := ?_) (a' := ?_) #[true, true, true, true, true, true, true, true, false, false, false] rfl rfl (by kernel_rfl) (fun _ _ _ h => h) (Or.inl ⟨by rfl, ?_⟩) ?_ ?_
      rotate_left
      ·
       intro w'
       go_simp
       with_reducible rfl
      rotate_left
      ·
       simp only [Act.put, List.setIfInBounds_toArray, List.set_cons_zero, List.set_cons_succ, i64_w, i32_w]
       rfl
      refine pure_ (i := 8) (N := some 69) (v := ?_) (a' := ?_) #[true, true, true, true, true, true, true, true, true, false, false] rfl rfl (by kernel_rfl) (fun _ _ _ h => h) (Or.inl ⟨by rfl, ?_⟩) ?_ ?_
      rotate_left
      ·
       intro w'
       go_simp
       with_reducible rfl
      rotate_left
      ·
       simp only [Act.put, List.setIfInBounds_toArray, List.set_cons_zero, List.set_cons_succ, i64_w, i32_w]
       rfl
      refine pure_ (i := 9) (N := some 70) (v := ?_) (a' := ?_) #[true, true, true, true, true, true, true, true, true, true, false] rfl rfl (by kernel_rfl) (fun _ _ _ h => h) (Or.inl ⟨by rfl, ?_⟩) ?_ ?_
      rotate_left
      ·
       intro w'
       go_simp
       with_reducible rfl
      rotate_left
      ·
       simp only [Act.put, List.setIfInBounds_toArray, List.set_cons_zero, List.set_cons_succ, i64_w, i32_w]
       rfl
      refine last_ (i := 10) (N := none) #[true, true, true, true, true, true, true, true, true, true, true] rfl rfl (by kernel_rfl) (by decide) (fun K hK => ?_)
      refine skip_ (w1 := ?_) (by rfl) rfl ?_ ?_
      rotate_left
      ·
       go_simp
       rfl
      refine hK.out _ _ ?_
      clear hK K
      refine done_ (by kernel_rfl) ?_
      go_wp2_with fail
      go_roundw
      case rel =>
       refine ⟨k + 1, by omega, by go_num, ⟨?_⟩⟩
       have h := HD2.out.jset HF.out k hlt c
       have e : ((List.range time).map (Jk k)).set k ⟨(((List.range time).map (Jk k)).getD k z54).f0, c⟩ = (List.range time).map (Jk (k + 1)) := by
        refine map_range_set _ _ _ _ _ (fun _ => ?_) (fun i hi hne => ?_)
        ·
         have e0 : ((List.range time).map (Jk k)).getD k z54 = Jk k k := by simp [List.getD_eq_getElem?_getD, hlt]
         rw [e0, HJK.out, HCV.out]
         simp
        ·
         rw [HJK.out]
         have : (i < k) ↔ (i < k + 1) := by omega
         simp [this]
       rw [e] at h
       rw [HWC.out]
       exact h
      case measure => simp [intOf]; omega
     ·
      obtain rfl : time = k := by omega
      clear hlt hk
      obtain ⟨q, hq⟩ : ∃ q, q = m.drop time := ⟨_, rfl⟩
      rw [← hq] at HI
      have HQ := Aside0.mk hq
      have HQL : Aside0 (type * 6 + char + leap * (sz + 4) + std + ut = q.length) := ⟨by have := HML.out; rw [hq, List.length_drop]; omega⟩
      have HOKQ : Aside0 (bytesOk q) := ⟨fun x hx => HOKM.out x (List.mem_of_mem_drop (hq ▸ hx))⟩
      have HJE : Aside0 ((List.range time).map (Jk time) = (List.range time).map (dJump b m sz)) := ⟨by
       refine List.map_congr_left (fun i hi => ?_)
       have := List.mem_range.1 hi
       rw [HJK.out]
       simp [dJump, this]⟩
      rw [HJE.out] at HI
      obtain ⟨JL, hJL⟩ : ∃ JL, JL = (List.range time).map (dJump b m sz) := ⟨_, rfl⟩
      rw [← hJL] at HI
      have HJLE := Aside0.mk hJL
      clear hJL hq HJE
      have z5 : wr.cell? ⟨gh, 5, none⟩ = some (.int .i64 type) := (HI.out.hc 5).trans (by rw [HHD.out]; rfl)
      go_wp2_with fail
      go_loopw [11, 74] (fun vA i wr => ∃ k : Nat, k ≤ type ∧ i = .int .i64 k ∧ ∃ vK, Aside0 (DInv w wr gh gx g B2 hd #[vK, .slice Aj time cj, .slice none 0 0, .slice none 0 0, .slice none 0 0] vK (.slice Aj time cj) (.slice none 0 0) (.slice none 0 0) (.slice none 0 0) vA ((List.range k).map (dKind0 q)) JL [] [] [] ((List.range k).map fun i => q.getD (6 * i + 5) 0) (q.drop (6 * k)) ((List.range k).all fun i => decide (q.getD (6 * i + 4) 0 < 2)))) (fun _ i _ => type - (intOf i).toNat)
      case atStart => exact ⟨0, Nat.zero_le _, rfl, _, ⟨by rw [Nat.mul_zero, List.drop_zero]; exact HI.out⟩⟩
      case round =>
       clear HI z5
       obtain ⟨k, hk, rfl, vK, HI⟩ := hrel
       by_cases hlt : k < type
       ·
        have HD1 := Aside0.mk (HI.out.drew HF.out)
        obtain ⟨o, ho⟩ : ∃ o, o = ((List.range k).all fun i => decide (q.getD (6 * i + 4) 0 < 2)) := ⟨_, rfl⟩
        rw [← ho] at HD1
        have HO := Aside0.mk ho
        have hql : 6 * k + 6 ≤ q.length := by have := HQL.out; omega
        obtain ⟨c4, h4⟩ : ∃ c, c = q.getD (6 * k + 4) 0 := ⟨_, rfl⟩
        obtain ⟨c5, h5⟩ : ∃ c, c = q.getD (6 * k + 5) 0 := ⟨_, rfl⟩
        have HT := Aside0.mk (rd_number w g (q.drop (6 * k)) o 4 (numI ((q.drop (6 * k)).take 4)) wr.drew HD1.out.bel HF.out.r0 HD1.out.rd (by omega) (by rw [List.length_drop]; omega)
         (numF_ok (sz := 4) (.inl rfl) (by show ((q.drop (6 * k)).take 4).length = 4; rw [List.length_take, List.length_drop]; omega) (fun x hx => HOKQ.out x (List.mem_of_mem_drop (List.mem_of_mem_take hx)))))
        have e4 : (q.drop (6 * k)).drop ((4 : Int)).toNat = c4 :: q.drop (6 * k + 5) := by rw [show ((4 : Int)).toNat = 4 from rfl, List.drop_drop, drop_four (by omega), ← h4]
        have e5 : q.drop (6 * k + 5) = c5 :: q.drop (6 * (k + 1)) := by rw [drop_four (by omega), ← h5]; rfl
        have HE4 := Aside0.mk e4
        have HE5 := Aside0.mk e5
        have H4 := Aside0.mk h4
        have H5 := Aside0.mk h5
        have HW5 : Aside0 (wrap64 c5 = c5) := ⟨byte_w HOKQ.out (by omega) h5⟩
        have HKL : Aside0 (((List.range k).map (dKind0 q)).length = k) := ⟨by simp⟩
        have HAL : Aside0 (((List.range k).map fun i => q.getD (6 * i + 5) 0).length = k) := ⟨by simp⟩
        have hu56 := Try.underlying56
        clear ho hql h4 h5 e4 e5
        go_upto_region 19 with fail
        refine start_ (n := 11) (S := fun w' => w'.cell? ⟨gx, 0, none⟩ = some vK) (ds := [10]) #[false, false, false, false, false, false, false, false, false, false, false] (by kernel_rfl) rfl rfl ((HD1.out.xc 0).trans rfl) (fun hHeld => ?_)
        refine pure_ (i := 0) (N := some 76) (v := ?_) (a' := ?_) #[true, false, false, false, false, false, false, false, false, false, false] rfl rfl (by kernel_rfl) (fun _ _ _ h => h) (Or.inl ⟨by rfl, ?_⟩) ?_ ?_
        rotate_left
        ·
         intro w'
         go_simp
         with_reducible rfl
        rotate_left
        ·
         simp only [Act.put, List.setIfInBounds_toArray, List.set_cons_zero, List.set_cons_succ, i64_w, i32_w]
         rfl
        refine pure_ (i := 2) (N := some 78) (v := ?_) (a' := ?_) #[true, false, true, false, false, false, false, false, false, false, false] rfl rfl (by kernel_rfl) (fun _ _ _ h => h) (Or.inl ⟨by rfl, ?_⟩) ?_ ?_
        rotate_left
        ·
         intro w'
         go_simp
         with_reducible rfl
        rotate_left
        ·
         simp only [Act.put, List.setIfInBounds_toArray, List.set_cons_zero, List.set_cons_succ, i64_w, i32_w]
         rfl
        refine pure_ (i := 4) (N := some 80) (v := ?_) (a' := ?_) #[true, false, true, false, true, false, false, false, false, false, false] rfl rfl (by kernel_rfl) (fun _ _ _ h => h) (Or.inl ⟨by rfl, ?_⟩) ?_ ?_
        rotate_left
        ·
         intro w'
         go_simp
         with_reducible rfl
        rotate_left
        ·
         simp only [Act.put, List.setIfInBounds_toArray, List.set_cons_zero, List.set_cons_succ, i64_w, i32_w]
         rfl
        refine take_ (i := 1) (N := some 77) (v := ?_) (a' := ?_) #[true, true, true, false, true, false, false, false, false, false, false] rfl rfl (by kernel_rfl) (fun _ _ _ h => h) (Or.inl ⟨by rfl, ?_⟩) hHeld ?_ ?_
        rotate_left
        ·
         intro w' s0
         go_simp
         with_reducible rfl
        rotate_left
        ·
         simp only [Act.put, List.setIfInBounds_toArray, List.set_cons_zero, List.set_cons_succ, i64_w, i32_w]
         rfl
        refine one_ (i := 3) (N := some 79) #[true, true, true, true, true, false, false, false, false, false, false] rfl rfl (by kernel_rfl) (by decide) (fun K hK => ?_)
        refine goes_ Try.func53 (by kernel_rfl) rfl #[.pointer (some ⟨g, 0, none⟩), .int .i64 4] (by rfl) rfl rfl (by simp only [List.map_toArray, List.map_cons, List.map_nil]; rfl) ?_
        with_reducible refine (HT.out).mono ?_
        rintro e w1 ⟨rfl, hr1, ho1⟩
        refine ⟨_, rfl, ?_⟩
        have HD2 := Aside0.mk (HD1.out.only HF.out ho1 hr1)
        rw [HE4.out] at HD2
        have HT2 := Aside0.mk (rd_truth w g c4 (q.drop (6 * k + 5)) o w1 HD2.out.bel HF.out.r0 HD2.out.rd)
        clear hr1 ho1
        refine hK.out _ _ ((HD2.out.xc 0).trans rfl) (fun hHeld => ?_)
        clear hK K
        refine norm_ (a' := ?_) ?_ ?_
        rotate_left
        ·
         show Act.put _ (some 79) _ = _
         simp only [Act.put, List.setIfInBounds_toArray, List.set_cons_zero, List.set_cons_succ, i64_w, i32_w]
         rfl
        refine one_ (i := 5) (N := some 81) #[true, true, true, true, true, true, false, false, false, false, false] rfl rfl (by kernel_rfl) (by decide) (fun K hK => ?_)
        refine goes_ Try.func55 (by kernel_rfl) rfl #[.pointer (some ⟨g, 0, none⟩)] (by rfl) rfl rfl (by simp only [List.map_toArray, List.map_cons, List.map_nil]; rfl) ?_
        with_reducible refine (HT2.out).mono ?_
        rintro e w2 ⟨rfl, hr2, ho2⟩
        refine ⟨_, rfl, ?_⟩
        have HD3 := Aside0.mk (HD2.out.only HF.out ho2 hr2)
        clear hr2 ho2
        refine hK.out _ _ ((HD3.out.xc 0).trans rfl) (fun hHeld => ?_)
        clear hK K
        refine norm_ (a' := ?_) ?_ ?_
        rotate_left
        ·
         show Act.put _ (some 81) _ = _
         simp only [Act.put, List.setIfInBounds_toArray, List.set_cons_zero, List.set_cons_succ, i64_w, i32_w]
         rfl
        refine pure_ (i := 6) (N := some 82) (v := ?_) (a' := ?_) #[true, true, true, true, true, true, true, false, false, false, false] rfl rfl (by kernel_rfl) (fun _ _ _ h => h) (Or.inl ⟨by rfl, ?_⟩) ?_ ?_
        rotate_left
        ·
         intro w'
         go_simp
         with_reducible rfl
        rotate_left
        ·
         simp only [Act.put, List.setIfInBounds_toArray, List.set_cons_zero, List.set_cons_succ, i64_w, i32_w]
         rfl
        refine one_ (i := 7) (N := some 83) #[true, true, true, true, true, true, true, true, false, false, false] rfl rfl (by kernel_rfl) (by decide) (fun K hK => ?_)
        refine value_ (w1 := ?_) (v := ?_) (by rfl) rfl ?_ ?_
        rotate_left 2
        ·
         go_simp
         constructor
         ·
          rfl
         ·
          rfl
        refine hK.out _ _ (((HD3.out.box HF.out _).xc 0).trans rfl) (fun hHeld => ?_)
        clear hK K
        refine norm_ (a' := ?_) ?_ ?_
        rotate_left
        ·
         show Act.put _ (some 83) _ = _
         simp only [Act.put, List.setIfInBounds_toArray, List.set_cons_zero, List.set_cons_succ, i64_w, i32_w]
         rfl
        refine one_ (i := 8) (N := some 84) #[true, true, true, true, true, true, true, true, true, false, false] rfl rfl (by kernel_rfl) (by decide) (fun K hK => ?_)
        refine Kd.R_append_step k56 (w0 := w2) B2 (by rfl) (.tmp 77) (.tmp 83) 22 56 (.agg #[(.int .i64 0), (.bool false), (.string ⟨#[]⟩)]) 32 rfl Try.underlying22 info56 rfl (by decide) (by omega) vK ((List.range k).map (dKind0 q)) (⟨numI ((q.drop (6 * k)).take 4), c4 == 1, ⟨#[]⟩⟩ : S56) [.int .i64 (numI ((q.drop (6 * k)).take 4)), .bool (c4 == 1), .string ⟨#[]⟩] (fun _ => True) (fun _ => False) rfl rfl (k56_mkM _ _ _ _) (fun _ hk => hk.elim) (fun _ _ => trivial) HD3.out.row.rK (Below.refl _ _) HD3.out.hB (by rw [HKL.out]; omega) ?_
        intro v2 w3 ho hb hg hat
        obtain ⟨Av, cv, rfl⟩ := Kd.R_slice ho
        have HD4 := Aside0.mk (HD3.out.grow HF.out (DGrow.of HD3.out.row.rK hg (Below.refl _ _)) (HD3.out.bd HF.out hb) (by decide) (.inr ho) (.inl ⟨by decide, rfl, rfl⟩) (.inl ⟨by decide, rfl, rfl⟩) (.inl ⟨by decide, rfl, rfl⟩))
        have fz := HD4.out.xf 0
        clear ho hb hg hat
        refine hK.out _ _ ((HD4.out.xc 0).trans rfl) (fun hHeld => ?_)
        clear hK K
        refine norm_ (a' := ?_) ?_ ?_
        rotate_left
        ·
         show Act.put _ (some 84) _ = _
         simp only [Act.put, List.setIfInBounds_toArray, List.set_cons_zero, List.set_cons_succ, i64_w, i32_w]
         rfl
        refine pure_ (i := 9) (N := some 85) (v := ?_) (a' := ?_) #[true, true, true, true, true, true, true, true, true, true, false] rfl rfl (by kernel_rfl) (fun _ _ _ h => h) (Or.inl ⟨by rfl, ?_⟩) ?_ ?_
        rotate_left
        ·
         intro w'
         go_simp
         with_reducible rfl
        rotate_left
        ·
         simp only [Act.put, List.setIfInBounds_toArray, List.set_cons_zero, List.set_cons_succ, i64_w, i32_w]
         rfl
        refine last_ (i := 10) (N := none) #[true, true, true, true, true, true, true, true, true, true, true] rfl rfl (by kernel_rfl) (by decide) (fun K hK => ?_)
        refine skip_ (w1 := ?_) (by rfl) rfl ?_ ?_
        rotate_left
        ·
         go_simp
         rfl
        refine hK.out _ _ ?_
        clear hK K
        refine done_ (by kernel_rfl) ?_
        have h := HD4.out.setx HF.out 0 (.slice Av (k + 1) cv) (by simp)
        have e1 : ((List.range k).map (dKind0 q) ++ [(⟨numI ((q.drop (6 * k)).take 4), c4 == 1, ⟨#[]⟩⟩ : S56)]).length = k + 1 := by simp
        rw [e1, HE5.out] at h
        have HD5 := Aside0.mk h
        clear h e1 HD4 HD3 HD2 HD1 HT HT2 HI fz hHeld
        generalize w3.setCell ⟨gx, 0, none⟩ (.slice Av (k + 1) cv) = w5 at HD5 ⊢
        obtain ⟨ad, cc, hcc, hx0, hT⟩ := rd_byte w g c5 (q.drop (6 * (k + 1))) _ w5 HD5.out.rd
        have HT := Aside0.mk hT
        have HX := Aside0.mk hx0
        have HBL := Aside0.mk (World.block_lt_of_cell? _ _ hx0)
        have hu33 := Try.underlying33
        clear hx0 hT
        go_upto_region 21 with (first
         | (go_at_call 54; refine HT.out.mono ?_; rintro e w6 ⟨rfl, hr3, ho3⟩; have HD6 := Aside0.mk (HD5.out.only HF.out ho3 hr3); have hxw := ((HD6.out.bel.cell HBL.out).trans HX.out); clear hr3 ho3)
         | ((with_reducible refine gate_builtin (b := .append) (xs := #[.tmp 86, .tmp 92]) rfl ?_); at_builtin; refine Kd.R_append (Kd.int .i64) (w0 := w6) B2 rfl (.tmp 86) (.tmp 92) 82 3 (.int .i64 0) 8 rfl Try.underlying82 info3 rfl (by decide) (by omega) u11 ((List.range k).map fun i => q.getD (6 * i + 5) 0) (wrap64 c5) [.int .i64 (wrap64 c5)] (fun _ => True) (fun _ => False) rfl rfl rfl (fun _ hk => hk.elim) (fun _ _ => trivial) HD6.out.row.rA (Below.refl _ _) HD6.out.hB (by rw [HAL.out]; omega) ?_; intro v7 w7 ho hb hg hat; have HD7 := Aside0.mk (HD6.out.grow HF.out (DGrow.of HD6.out.row.rA hg (Below.refl _ _)) (HD6.out.bd HF.out hb) (by decide) (.inl ⟨by decide, rfl, rfl⟩) (.inl ⟨by decide, rfl, rfl⟩) (.inl ⟨by decide, rfl, rfl⟩) (.inr ho)); clear ho hb hg hat))
        go_wp2_with fail
        go_roundw
        case rel =>
         refine ⟨k + 1, by omega, by go_num, .slice Av (k + 1) cv, ⟨?_⟩⟩
         have h := HD7.out
         rw [HW5.out] at h
         have e2 : (List.range (k + 1)).map (dKind0 q) = (List.range k).map (dKind0 q) ++ [⟨numI ((q.drop (6 * k)).take 4), c4 == 1, ⟨#[]⟩⟩] := by rw [map_range_succ, H4.out]; rfl
         have e3 : ((List.range (k + 1)).map fun i => q.getD (6 * i + 5) 0) = ((List.range k).map fun i => q.getD (6 * i + 5) 0) ++ [c5] := by rw [map_range_succ, H5.out]
         have e4 : ((List.range (k + 1)).all fun i => decide (q.getD (6 * i + 4) 0 < 2)) = (o && decide (c4 < 2)) := by rw [List.range_succ, List.all_append, HO.out, H4.out]; simp
         rw [e2, e3, e4]
         exact h
        case measure => simp [intOf]; omega
       ·
        obtain rfl : type = k := by omega
        clear hlt hk
        obtain ⟨gk, ck, hvk⟩ := R_open HI.out.row.rK (by decide) (by simp; omega)
        obtain ⟨ga, ca, hva⟩ := R_open HI.out.row.rA (by decide) (by simp; omega)
        rw [List.length_map, List.length_range] at hvk hva
        subst hvk
        subst hva
        obtain ⟨nm, hnm⟩ : ∃ nm, nm = (q.drop (6 * type)).take char := ⟨_, rfl⟩
        obtain ⟨l4, hl4⟩ : ∃ l4, l4 = (q.drop (6 * type)).drop char := ⟨_, rfl⟩
        have hnl : nm.length = char := by have := HQL.out; rw [hnm, List.length_take, List.length_drop]; omega
        have HT : Aside0 (Calls Try.prog 54 #[.pointer (some ⟨g, 0, none⟩), .int .i64 char] wr (TakePost w g (q.drop (6 * type)) ((List.range type).all fun i => decide (q.getD (6 * i + 4) 0 < 2)) char wr)) :=
         ⟨rd_take w g (q.drop (6 * type)) _ char wr HI.out.rd (by omega) (by have := HQL.out; rw [List.length_drop]; omega)⟩
        have HNM := Aside0.mk hnm
        have HNL := Aside0.mk hnl
        have HL4 := Aside0.mk hl4
        have HL4L : Aside0 (leap * (sz + 4) + std + ut = l4.length) := ⟨by have := HQL.out; rw [hl4, List.length_drop, List.length_drop]; omega⟩
        have HOK4 : Aside0 (bytesOk l4) := ⟨fun x hx => HOKQ.out x (List.mem_of_mem_drop (List.mem_of_mem_drop (hl4 ▸ hx)))⟩
        have z6 : wr.cell? ⟨gh, 6, none⟩ = some (.int .i64 char) := (HI.out.hc 6).trans (by rw [HHD.out]; rfl)
        clear hnm hl4 hnl
        go_wp2_with (go_at_call 54; refine HT.out.mono ?_; rintro e w5 ⟨An, cn, rfl, hC, hcn, hr5, ho5⟩; rw [Int.toNat_natCast, ← HNM.out] at hC hcn ⊢; rw [Int.toNat_natCast, ← HL4.out] at hr5; have HC := Aside0.mk hC; have HCN := Aside0.mk hcn; have HD5 := Aside0.mk (HI.out.only HF.out ho5 hr5); clear hC hcn hr5 ho5)
        clear HT z6 HI
        obtain ⟨Kk, hKk⟩ : ∃ Kk : Nat → Nat → S56, Kk = fun k i => if i < k then dKind q nm i else dKind0 q i := ⟨_, rfl⟩
        have HKK := Aside0.mk hKk
        have hst : dKind0 q = Kk 0 := by rw [hKk]; rfl
        obtain ⟨o3, ho3⟩ : ∃ o3, o3 = ((List.range type).all fun i => decide (q.getD (6 * i + 4) 0 < 2)) := ⟨_, rfl⟩
        have HO3 := Aside0.mk ho3
        rw [← ho3] at HD5
        have HD6 : Aside0 (DInv w w5 gh gx g B2 hd #[.slice (some ⟨gk, 0, none⟩) type ck, .slice Aj time cj, .slice none 0 0, .slice none 0 0, .slice none 0 0] (.slice (some ⟨gk, 0, none⟩) type ck) (.slice Aj time cj) (.slice none 0 0) (.slice none 0 0) (.slice none 0 0) (.slice (some ⟨ga, 0, none⟩) type ca) ((List.range type).map (Kk 0)) JL [] [] [] ((List.range type).map fun i => q.getD (6 * i + 5) 0) l4 o3) := ⟨by rw [← hst]; exact HD5.out⟩
        clear HD5 hst hKk ho3
        go_loopw [101] (fun i wr => ∃ k : Nat, k ≤ type ∧ i = .int .i64 k ∧ Aside0 (DInv w wr gh gx g B2 hd #[.slice (some ⟨gk, 0, none⟩) type ck, .slice Aj time cj, .slice none 0 0, .slice none 0 0, .slice none 0 0] (.slice (some ⟨gk, 0, none⟩) type ck) (.slice Aj time cj) (.slice none 0 0) (.slice none 0 0) (.slice none 0 0) (.slice (some ⟨ga, 0, none⟩) type ca) ((List.range type).map (Kk k)) JL [] [] [] ((List.range type).map fun i => q.getD (6 * i + 5) 0) l4 (o3 && (List.range k).all fun i => (dName nm (q.getD (6 * i + 5) 0)).2))) (fun i _ => type - (intOf i).toNat)
        case atStart => exact ⟨0, Nat.zero_le _, rfl, ⟨by rw [List.range_zero, List.all_nil, Bool.and_true]; exact HD6.out⟩⟩
        case round =>
         clear HD6
         obtain ⟨k, hk, rfl, HI⟩ := hrel
         by_cases hlt : k < type
         ·
          obtain ⟨o, ho⟩ : ∃ o, o = (o3 && (List.range k).all fun i => (dName nm (q.getD (6 * i + 5) 0)).2) := ⟨_, rfl⟩
          rw [← ho] at HI
          have HO := Aside0.mk ho
          obtain ⟨c5, h5⟩ : ∃ c, c = q.getD (6 * k + 5) 0 := ⟨_, rfl⟩
          have H5 := Aside0.mk h5
          have ha := HI.out.acell k hlt
          rw [show (((List.range type).map fun i => q.getD (6 * i + 5) 0).getD k 0) = c5 by rw [h5]; simp [List.getD_eq_getElem?_getD, hlt]] at ha
          obtain ⟨r1, r2, hrr⟩ : ∃ r1 r2, dName nm c5 = (r1, r2) := ⟨_, _, rfl⟩
          have HRR := Aside0.mk hrr
          have HNF : Aside0 (octets_Name.f nm c5 = some (r1, r2)) := ⟨by rw [dName_f, hrr]⟩
          have HD1 := Aside0.mk (HI.out.drew HF.out)
          have hu22 := Try.underlying22
          have hu56 := Try.underlying56
          have hu82 := Try.underlying82
          clear ho h5 hrr
          go_upto_region 27 with fail
          refine start_ (n := 13) (S := fun w' => w'.cell? ⟨gx, 0, none⟩ = some (.slice (some ⟨gk, 0, none⟩) type ck)) (ds := [11]) #[false, false, false, false, false, false, false, false, false, false, false, false, false] (by kernel_rfl) rfl rfl ((HD1.out.xc 0).trans rfl) (fun hHeld => ?_)
          refine pure_ (i := 0) (N := some 107) (v := ?_) (a' := ?_) #[true, false, false, false, false, false, false, false, false, false, false, false, false] rfl rfl (by kernel_rfl) (fun _ _ _ h => h) (Or.inl ⟨by rfl, ?_⟩) ?_ ?_
          rotate_left
          ·
           intro w'
           go_simp
           with_reducible rfl
          rotate_left
          ·
           simp only [Act.put, List.setIfInBounds_toArray, List.set_cons_zero, List.set_cons_succ, i64_w, i32_w]
           rfl
          refine pure_ (i := 2) (N := some 109) (v := ?_) (a' := ?_) #[true, false, true, false, false, false, false, false, false, false, false, false, false] rfl rfl (by kernel_rfl) (fun _ _ _ h => h) (Or.inl ⟨by rfl, ?_⟩) ?_ ?_
          rotate_left
          ·
           intro w'
           go_simp
           with_reducible rfl
          rotate_left
          ·
           simp only [Act.put, List.setIfInBounds_toArray, List.set_cons_zero, List.set_cons_succ, i64_w, i32_w]
           rfl
          refine pure_ (i := 3) (N := some 110) (v := ?_) (a' := ?_) #[true, false, true, true, false, false, false, false, false, false, false, false, false] rfl rfl (by kernel_rfl) (fun _ _ _ h => h) (Or.inl ⟨by rfl, ?_⟩) ?_ ?_
          rotate_left
          ·
           intro w'
           go_simp
           with_reducible rfl
          rotate_left
          ·
           simp only [Act.put, List.setIfInBounds_toArray, List.set_cons_zero, List.set_cons_succ, i64_w, i32_w]
           rfl
          refine pure_ (i := 4) (N := some 111) (v := ?_) (a' := ?_) #[true, false, true, true, true, false, false, false, false, false, false, false, false] rfl rfl (by kernel_rfl) (fun _ _ _ h => h) (Or.inl ⟨by rfl, ?_⟩) ?_ ?_
          rotate_left
          ·
           intro w'
           go_simp
           with_reducible rfl
          rotate_left
          ·
           simp only [Act.put, List.setIfInBounds_toArray, List.set_cons_zero, List.set_cons_succ, i64_w, i32_w]
           rfl
          refine take_ (i := 1) (N := some 108) (v := ?_) (a' := ?_) #[true, true, true, true, true, false, false, false, false, false, false, false, false] rfl rfl (by kernel_rfl) (fun _ _ _ h => h) (Or.inl ⟨by rfl, ?_⟩) hHeld ?_ ?_
          rotate_left
          ·
           intro w' s0
           go_simp
           with_reducible rfl
          rotate_left
          ·
           simp only [Act.put, List.setIfInBounds_toArray, List.set_cons_zero, List.set_cons_succ, i64_w, i32_w]
           rfl
          refine one_ (i := 5) (N := some 112) #[true, true, true, true, true, true, false, false, false, false, false, false, false] rfl rfl (by kernel_rfl) (by decide) (fun K hK => ?_)
          refine goes_ Try.func56 (by kernel_rfl) rfl #[.slice An nm.length cn, .int .i64 c5] (by rfl) rfl rfl (by simp only [List.map_toArray, List.map_cons, List.map_nil]; rfl) ?_
          with_reducible refine ((octets_Name.calls An cn nm c5 r1 r2 _ (Kd.C_below HC.out HD1.out.bel) HCN.out HNF.out)).mono ?_
          rintro e w1 ⟨rfl, hb⟩
          refine ⟨_, rfl, ?_⟩
          have HD2 := Aside0.mk (HD1.out.below HF.out hb)
          obtain ⟨jc, jf⟩ := HD2.out.kcell k hlt
          clear hb
          refine hK.out _ _ ((HD2.out.xc 0).trans rfl) (fun hHeld => ?_)
          clear hK K
          refine norm_ (a' := ?_) ?_ ?_
          rotate_left
          ·
           show Act.put _ (some 112) _ = _
           simp only [Act.put, List.setIfInBounds_toArray, List.set_cons_zero, List.set_cons_succ, i64_w, i32_w]
           rfl
          refine pure_ (i := 6) (N := some 106) (v := ?_) (a' := ?_) #[true, true, true, true, true, true, true, false, false, false, false, false, false] rfl rfl (by kernel_rfl) (fun _ _ _ h => h) (Or.inl ⟨by rfl, ?_⟩) ?_ ?_
          rotate_left
          ·
           intro w'
           go_simp
           with_reducible rfl
          rotate_left
          ·
           simp only [Act.put, List.setIfInBounds_toArray, List.set_cons_zero, List.set_cons_succ, i64_w, i32_w]
           rfl
          refine pure_ (i := 7) (N := some 113) (v := ?_) (a' := ?_) #[true, true, true, true, true, true, true, true, false, false, false, false, false] rfl rfl (by kernel_rfl) (fun _ _ _ h => h) (Or.inl ⟨by rfl, ?_⟩) ?_ ?_
          rotate_left
          ·
           intro w'
           go_simp
           with_reducible rfl
          rotate_left
          ·
           simp only [Act.put, List.setIfInBounds_toArray, List.set_cons_zero, List.set_cons_succ, i64_w, i32_w]
           rfl
          refine pure_ (i := 8) (N := some 114) (v := ?_) (a' := ?_) #[true, true, true, true, true, true, true, true, true, false, false, false, false] rfl rfl (by kernel_rfl) (fun _ _ _ h => h) (Or.inl ⟨by rfl, ?_⟩) ?_ ?_
          rotate_left
          ·
           intro w'
           go_simp
           with_reducible rfl
          rotate_left
          ·
           simp only [Act.put, List.setIfInBounds_toArray, List.set_cons_zero, List.set_cons_succ, i64_w, i32_w]
           rfl
          refine pure_ (i := 9) (N := some 115) (v := ?_) (a' := ?_) #[true, true, true, true, true, true, true, true, true, true, false, false, false] rfl rfl (by kernel_rfl) (fun _ _ _ h => h) (Or.inl ⟨by rfl, ?_⟩) ?_ ?_
          rotate_left
          ·
           intro w'
           go_simp
           with_reducible rfl
          rotate_left
          ·
           simp only [Act.put, List.setIfInBounds_toArray, List.set_cons_zero, List.set_cons_succ, i64_w, i32_w]
           rfl
          refine pure_ (i := 10) (N := some 116) (v := ?_) (a' := ?_) #[true, true, true, true, true, true, true, true, true, true, true, false, false] rfl rfl (by kernel_rfl) (fun _ _ _ h => h) (Or.inl ⟨by rfl, ?_⟩) ?_ ?_
          rotate_left
          ·
           intro w'
           go_simp
           with_reducible rfl
          rotate_left
          ·
           simp only [Act.put, List.setIfInBounds_toArray, List.set_cons_zero, List.set_cons_succ, i64_w, i32_w]
           rfl
          refine last_ (i := 11) (N := none) #[true, true, true, true, true, true, true, true, true, true, true, true, false] rfl rfl (by kernel_rfl) (by decide) (fun K hK => ?_)
          refine skip_ (w1 := ?_) (by rfl) rfl ?_ ?_
          rotate_left
          ·
           go_simp
           rfl
          refine hK.out _ _ ?_
          clear hK K
          refine pure_ (i := 12) (N := some 15) (v := ?_) (a' := ?_) #[true, true, true, true, true, true, true, true, true, true, true, true, true] rfl rfl (by kernel_rfl) (fun _ _ _ h => h) (Or.inl ⟨by rfl, ?_⟩) ?_ ?_
          rotate_left
          ·
           intro w'
           go_simp
           with_reducible rfl
          rotate_left
          ·
           simp only [Act.put, List.setIfInBounds_toArray, List.set_cons_zero, List.set_cons_succ, i64_w, i32_w]
           rfl
          refine done_ (by kernel_rfl) ?_
          go_upto_region 28 with fail
          have HD3 := Aside0.mk (HD2.out.kset HF.out k hlt r1)
          clear HD2 HD1 HI ha jc jf hHeld
          generalize w1.setCell ⟨gk, k * 3 + 2, none⟩ (.string r1) = w2 at HD3 ⊢
          obtain ⟨A', c', hg', _, _⟩ := HD3.out.rd
          have zr : w2.cell? ⟨g, 1, none⟩ = some (.bool o) := blk_cell hg' 1
          have fr : w2.frozen? ⟨g, 1, none⟩ = false := blk_frozen hg' 1
          clear hg'
          have hrel : Aside0 (∃ k_1 : Nat, k_1 ≤ type ∧ Value.int IntKind.i64 ((k : Int) + 1) = Value.int IntKind.i64 k_1 ∧ Aside0 (DInv w (w2.setCell ⟨g, 1, none⟩ (.bool (o && r2))) gh gx g B2 hd #[.slice (some ⟨gk, 0, none⟩) type ck, .slice Aj time cj, .slice none 0 0, .slice none 0 0, .slice none 0 0] (.slice (some ⟨gk, 0, none⟩) type ck) (.slice Aj time cj) (.slice none 0 0) (.slice none 0 0) (.slice none 0 0) (.slice (some ⟨ga, 0, none⟩) type ca) ((List.range type).map (Kk k_1)) JL [] [] [] ((List.range type).map fun i => q.getD (6 * i + 5) 0) l4 (o3 && (List.range k_1).all fun i => (dName nm (q.getD (6 * i + 5) 0)).2))) := by
           refine ⟨k + 1, by omega, by go_num, ⟨?_⟩⟩
           have h := HD3.out.setr HF.out (o && r2)
           have e : ((List.range type).map (Kk k)).set k ⟨(((List.range type).map (Kk k)).getD k z56).f0, (((List.range type).map (Kk k)).getD k z56).f1, r1⟩ = (List.range type).map (Kk (k + 1)) := by
            refine map_range_set _ _ _ _ _ (fun _ => ?_) (fun i hi hne => ?_)
            ·
             have e0 : ((List.range type).map (Kk k)).getD k z56 = Kk k k := by simp [List.getD_eq_getElem?_getD, hlt]
             rw [e0, HKK.out]
             show (⟨(if k < k then dKind q nm k else dKind0 q k).f0, (if k < k then dKind q nm k else dKind0 q k).f1, r1⟩ : S56) = if k < k + 1 then dKind q nm k else dKind0 q k
             rw [if_pos (Nat.lt_succ_self k), if_neg (Nat.lt_irrefl k)]
             unfold dKind
             rw [← H5.out, HRR.out]
             rfl
            ·
             rw [HKK.out]
             have : (i < k) ↔ (i < k + 1) := by omega
             simp [this]
           have e2 : (o3 && (List.range (k + 1)).all fun i => (dName nm (q.getD (6 * i + 5) 0)).2) = (o && r2) := by
            rw [List.range_succ, List.all_append, HO.out]
            show (o3 && (_ && ((dName nm (q.getD (6 * k + 5) 0)).2 && true))) = _
            rw [← H5.out, HRR.out, Bool.and_true, Bool.and_assoc]
           rw [e] at h
           rw [e2]
           exact h
          clear HD3
          cases o with
          | false =>
           go_wp2_with fail
           go_roundw
           case rel => exact hrel.out
           case measure => simp [intOf]; omega
          | true =>
           go_wp2_with fail
           go_roundw
           case rel => exact hrel.out
           case measure => simp [intOf]; omega
         ·
          obtain rfl : type = k := by omega
          clear hlt hk
          have HKE : Aside0 ((List.range type).map (Kk type) = (List.range type).map (dKind q nm)) := ⟨by
           refine List.map_congr_left (fun i hi => ?_)
           have := List.mem_range.1 hi
           rw [HKK.out]
           simp [this]⟩
          rw [HKE.out] at HI
          obtain ⟨KL, hKL⟩ : ∃ KL, KL = (List.range type).map (dKind q nm) := ⟨_, rfl⟩
          obtain ⟨AL, hAL⟩ : ∃ AL, AL = ((List.range type).map fun i => q.getD (6 * i + 5) 0) := ⟨_, rfl⟩
          obtain ⟨o4, ho4⟩ : ∃ o4, o4 = (o3 && (List.range type).all fun i => (dName nm (q.getD (6 * i + 5) 0)).2) := ⟨_, rfl⟩
          rw [← hKL, ← hAL, ← ho4] at HI
          have HKLE := Aside0.mk hKL
          have HO4 := Aside0.mk ho4
          have z3 : wr.cell? ⟨gh, 3, none⟩ = some (.int .i64 leap) := (HI.out.hc 3).trans (by rw [HHD.out]; rfl)
          clear hKL hAL ho4 HKE
          generalize (Value.slice (some ⟨gk, 0, none⟩) type ck) = vK at HI
          generalize (Value.slice (some ⟨ga, 0, none⟩) type ca) = vA at HI
          generalize hvJ : (Value.slice Aj time cj) = vJ at HI
          have HVJ := Aside0.mk hvJ
          clear hvJ
          go_wp2_with fail
          go_loopw [130] (fun i wr => ∃ k : Nat, k ≤ leap ∧ i = .int .i64 k ∧ ∃ vL, Aside0 (DInv w wr gh gx g B2 hd #[vK, vJ, vL, .slice none 0 0, .slice none 0 0] vK vJ vL (.slice none 0 0) (.slice none 0 0) vA KL JL ((List.range k).map (dLeap l4 sz)) [] [] AL (l4.drop ((sz + 4) * k)) o4)) (fun i _ => leap - (intOf i).toNat)
          case atStart => exact ⟨0, Nat.zero_le _, rfl, _, ⟨by rw [Nat.mul_zero, List.drop_zero]; exact HI.out⟩⟩
          case round =>
           clear HI z3
           obtain ⟨k, hk, rfl, vL, HI⟩ := hrel
           by_cases hlt : k < leap
           ·
            have HD1 := Aside0.mk (HI.out.drew HF.out)
            have hroom : (sz + 4) * k + sz + 4 ≤ l4.length := by have := HL4L.out; rcases HSZ.out with rfl | rfl <;> omega
            have HT := Aside0.mk (rd_number w g (l4.drop ((sz + 4) * k)) o4 sz (numI ((l4.drop ((sz + 4) * k)).take sz)) wr.drew HD1.out.bel HF.out.r0 HD1.out.rd (by omega) (by rw [List.length_drop]; omega)
             (numF_ok HSZ.out (by rw [Int.toNat_natCast, List.length_take, List.length_drop]; omega) (fun x hx => HOK4.out x (List.mem_of_mem_drop (List.mem_of_mem_take hx)))))
            have e4 : (l4.drop ((sz + 4) * k)).drop ((sz : Int)).toNat = l4.drop ((sz + 4) * k + sz) := by rw [Int.toNat_natCast, List.drop_drop]
            have HE4 := Aside0.mk e4
            have HNU : Aside0 (numF ((l4.drop ((sz + 4) * k + sz)).take ((4 : Int)).toNat) 4 = some (numI ((l4.drop ((sz + 4) * k + sz)).take 4))) :=
             ⟨numF_ok (sz := 4) (.inl rfl) (by show ((l4.drop ((sz + 4) * k + sz)).take 4).length = 4; rw [List.length_take, List.length_drop]; omega) (fun x hx => HOK4.out x (List.mem_of_mem_drop (List.mem_of_mem_take hx)))⟩
            have HLEN : Aside0 ((4 : Int) ≤ (l4.drop ((sz + 4) * k + sz)).length) := ⟨by rw [List.length_drop]; omega⟩
            have HLL : Aside0 (((List.range k).map (dLeap l4 sz)).length = k) := ⟨by simp⟩
            have hu87 := Try.underlying87
            clear hroom e4
            go_upto_region 32 with fail
            refine start_ (n := 12) (S := fun w' => w'.cell? ⟨gx, 2, none⟩ = some vL) (ds := [11]) #[false, false, false, false, false, false, false, false, false, false, false, false] (by kernel_rfl) rfl rfl ((HD1.out.xc 2).trans rfl) (fun hHeld => ?_)
            refine pure_ (i := 0) (N := some 132) (v := ?_) (a' := ?_) #[true, false, false, false, false, false, false, false, false, false, false, false] rfl rfl (by kernel_rfl) (fun _ _ _ h => h) (Or.inl ⟨by rfl, ?_⟩) ?_ ?_
            rotate_left
            ·
             intro w'
             go_simp
             with_reducible rfl
            rotate_left
            ·
             simp only [Act.put, List.setIfInBounds_toArray, List.set_cons_zero, List.set_cons_succ, i64_w, i32_w]
             rfl
            refine pure_ (i := 2) (N := some 134) (v := ?_) (a' := ?_) #[true, false, true, false, false, false, false, false, false, false, false, false] rfl rfl (by kernel_rfl) (fun _ _ _ h => h) (Or.inl ⟨by rfl, ?_⟩) ?_ ?_
            rotate_left
            ·
             intro w'
             go_simp
             with_reducible rfl
            rotate_left
            ·
             simp only [Act.put, List.setIfInBounds_toArray, List.set_cons_zero, List.set_cons_succ, i64_w, i32_w]
             rfl
            refine pure_ (i := 3) (N := some 135) (v := ?_) (a' := ?_) #[true, false, true, true, false, false, false, false, false, false, false, false] rfl rfl (by kernel_rfl) (fun _ _ _ h => h) (Or.inl ⟨by rfl, ?_⟩) ?_ ?_
            rotate_left
            ·
             intro w'
             go_simp
             with_reducible rfl
            rotate_left
            ·
             simp only [Act.put, List.setIfInBounds_toArray, List.set_cons_zero, List.set_cons_succ, i64_w, i32_w]
             rfl
            refine pure_ (i := 5) (N := some 137) (v := ?_) (a' := ?_) #[true, false, true, true, false, true, false, false, false, false, false, false] rfl rfl (by kernel_rfl) (fun _ _ _ h => h) (Or.inl ⟨by rfl, ?_⟩) ?_ ?_
            rotate_left
            ·
             intro w'
             go_simp
             with_reducible rfl
            rotate_left
            ·
             simp only [Act.put, List.setIfInBounds_toArray, List.set_cons_zero, List.set_cons_succ, i64_w, i32_w]
             rfl
            refine take_ (i := 1) (N := some 133) (v := ?_) (a' := ?_) #[true, true, true, true, false, true, false, false, false, false, false, false] rfl rfl (by kernel_rfl) (fun _ _ _ h => h) (Or.inl ⟨by rfl, ?_⟩) hHeld ?_ ?_
            rotate_left
            ·
             intro w' s0
             go_simp
             with_reducible rfl
            rotate_left
            ·
             simp only [Act.put, List.setIfInBounds_toArray, List.set_cons_zero, List.set_cons_succ, i64_w, i32_w]
             rfl
            refine one_ (i := 4) (N := some 136) #[true, true, true, true, true, true, false, false, false, false, false, false] rfl rfl (by kernel_rfl) (by decide) (fun K hK => ?_)
            refine goes_ Try.func53 (by kernel_rfl) rfl #[.pointer (some ⟨g, 0, none⟩), .int .i64 sz] (by rfl) rfl rfl (by simp only [List.map_toArray, List.map_cons, List.map_nil]; rfl) ?_
            with_reducible refine (HT.out).mono ?_
            rintro e w1 ⟨rfl, hr1, ho1⟩
            refine ⟨_, rfl, ?_⟩
            have HD2 := Aside0.mk (HD1.out.only HF.out ho1 hr1)
            rw [HE4.out] at HD2
            have HT2 := Aside0.mk (rd_number w g (l4.drop ((sz + 4) * k + sz)) o4 4 _ w1 HD2.out.bel HF.out.r0 HD2.out.rd (by omega) HLEN.out HNU.out)
            clear hr1 ho1
            refine hK.out _ _ ((HD2.out.xc 2).trans rfl) (fun hHeld => ?_)
            clear hK K
            refine norm_ (a' := ?_) ?_ ?_
            rotate_left
            ·
             show Act.put _ (some 136) _ = _
             simp only [Act.put, List.setIfInBounds_toArray, List.set_cons_zero, List.set_cons_succ, i64_w, i32_w]
             rfl
            refine one_ (i := 6) (N := some 138) #[true, true, true, true, true, true, true, false, false, false, false, false] rfl rfl (by kernel_rfl) (by decide) (fun K hK => ?_)
            refine goes_ Try.func53 (by kernel_rfl) rfl #[.pointer (some ⟨g, 0, none⟩), .int .i64 4] (by rfl) rfl rfl (by simp only [List.map_toArray, List.map_cons, List.map_nil]; rfl) ?_
            with_reducible refine (HT2.out).mono ?_
            rintro e w2 ⟨rfl, hr2, ho2⟩
            refine ⟨_, rfl, ?_⟩
            have HD3 := Aside0.mk (HD2.out.only HF.out ho2 hr2)
            clear hr2 ho2
            refine hK.out _ _ ((HD3.out.xc 2).trans rfl) (fun hHeld => ?_)
            clear hK K
            refine norm_ (a' := ?_) ?_ ?_
            rotate_left
            ·
             show Act.put _ (some 138) _ = _
             simp only [Act.put, List.setIfInBounds_toArray, List.set_cons_zero, List.set_cons_succ, i64_w, i32_w]
             rfl
            refine pure_ (i := 7) (N := some 139) (v := ?_) (a' := ?_) #[true, true, true, true, true, true, true, true, false, false, false, false] rfl rfl (by kernel_rfl) (fun _ _ _ h => h) (Or.inl ⟨by rfl, ?_⟩) ?_ ?_
            rotate_left
            ·
             intro w'
             go_simp
             with_reducible rfl
            rotate_left
            ·
             simp only [Act.put, List.setIfInBounds_toArray, List.set_cons_zero, List.set_cons_succ, i64_w, i32_w]
             rfl
            refine one_ (i := 8) (N := some 140) #[true, true, true, true, true, true, true, true, true, false, false, false] rfl rfl (by kernel_rfl) (by decide) (fun K hK => ?_)
            refine value_ (w1 := ?_) (v := ?_) (by rfl) rfl ?_ ?_
            rotate_left 2
            ·
             go_simp
             constructor
             ·
              rfl
             ·
              rfl
            refine hK.out _ _ (((HD3.out.box HF.out _).xc 2).trans rfl) (fun hHeld => ?_)
            clear hK K
            refine norm_ (a' := ?_) ?_ ?_
            rotate_left
            ·
             show Act.put _ (some 140) _ = _
             simp only [Act.put, List.setIfInBounds_toArray, List.set_cons_zero, List.set_cons_succ, i64_w, i32_w]
             rfl
            refine one_ (i := 9) (N := some 141) #[true, true, true, true, true, true, true, true, true, true, false, false] rfl rfl (by kernel_rfl) (by decide) (fun K hK => ?_)
            refine Kd.R_append_step k87 (w0 := w2) B2 (by rfl) (.tmp 133) (.tmp 140) 24 87 (.agg #[(.int .i64 0), (.int .i64 0)]) 16 rfl Try.underlying24 info87 rfl (by decide) (by omega) vL ((List.range k).map (dLeap l4 sz)) (⟨numI ((l4.drop ((sz + 4) * k)).take sz), numI ((l4.drop ((sz + 4) * k + sz)).take 4)⟩ : S87) [.int .i64 (numI ((l4.drop ((sz + 4) * k)).take sz)), .int .i64 (numI ((l4.drop ((sz + 4) * k + sz)).take 4))] (fun _ => True) (fun _ => False) rfl rfl (k87_mkM _ _ _ _) (fun _ hk => hk.elim) (fun _ _ => trivial) HD3.out.row.rL (Below.refl _ _) HD3.out.hB (by rw [HLL.out]; omega) ?_
            intro v2 w3 ho hb hg hat
            obtain ⟨Av, cv, rfl⟩ := Kd.R_slice ho
            have HD4 := Aside0.mk (HD3.out.grow HF.out (DGrow.of HD3.out.row.rL hg (Below.refl _ _)) (HD3.out.bd HF.out hb) (by decide) (.inl ⟨by decide, rfl, rfl⟩) (.inl ⟨by decide, rfl, rfl⟩) (.inr ho) (.inl ⟨by decide, rfl, rfl⟩))
            have fz := HD4.out.xf 2
            clear ho hb hg hat
            refine hK.out _ _ ((HD4.out.xc 2).trans rfl) (fun hHeld => ?_)
            clear hK K
            refine norm_ (a' := ?_) ?_ ?_
            rotate_left
            ·
             show Act.put _ (some 141) _ = _
             simp only [Act.put, List.setIfInBounds_toArray, List.set_cons_zero, List.set_cons_succ, i64_w, i32_w]
             rfl
            refine pure_ (i := 10) (N := some 142) (v := ?_) (a' := ?_) #[true, true, true, true, true, true, true, true, true, true, true, false] rfl rfl (by kernel_rfl) (fun _ _ _ h => h) (Or.inl ⟨by rfl, ?_⟩) ?_ ?_
            rotate_left
            ·
             intro w'
             go_simp
             with_reducible rfl
            rotate_left
            ·
             simp only [Act.put, List.setIfInBounds_toArray, List.set_cons_zero, List.set_cons_succ, i64_w, i32_w]
             rfl
            refine last_ (i := 11) (N := none) #[true, true, true, true, true, true, true, true, true, true, true, true] rfl rfl (by kernel_rfl) (by decide) (fun K hK => ?_)
            refine skip_ (w1 := ?_) (by rfl) rfl ?_ ?_
            rotate_left
            ·
             go_simp
             rfl
            refine hK.out _ _ ?_
            clear hK K
            refine done_ (by kernel_rfl) ?_
            go_wp2_with fail
            go_roundw
            case rel =>
             have h := HD4.out.setx HF.out 2 (.slice Av (k + 1) cv) (by simp)
             have e1 : ((List.range k).map (dLeap l4 sz) ++ [(⟨numI ((l4.drop ((sz + 4) * k)).take sz), numI ((l4.drop ((sz + 4) * k + sz)).take 4)⟩ : S87)]).length = k + 1 := by simp
             rw [e1] at h
             have e2 : (List.range (k + 1)).map (dLeap l4 sz) = (List.range k).map (dLeap l4 sz) ++ [⟨numI ((l4.drop ((sz + 4) * k)).take sz), numI ((l4.drop ((sz + 4) * k + sz)).take 4)⟩] := by rw [map_range_succ]; rfl
             have e3 : l4.drop ((sz + 4) * (k + 1)) = (l4.drop ((sz + 4) * k + sz)).drop ((4 : Int)).toNat := by rw [show ((4 : Int)).toNat = 4 from rfl, List.drop_drop, Nat.mul_succ]; congr 1
             refine ⟨k + 1, by omega, by go_num, .slice Av (k + 1) cv, ⟨?_⟩⟩
             rw [e2, e3]
             exact h
            case measure => simp [intOf]; omega
           ·
            obtain rfl : leap = k := by omega
            clear hlt hk
            obtain ⟨LL, hLL⟩ : ∃ LL, LL = (List.range leap).map (dLeap l4 sz) := ⟨_, rfl⟩
            obtain ⟨l5, hl5⟩ : ∃ l5, l5 = l4.drop ((sz + 4) * leap) := ⟨_, rfl⟩
            obtain ⟨S1, hS1⟩ : ∃ S1 : List Bool, S1 = (l5.take std).map (· == 1) := ⟨_, rfl⟩
            obtain ⟨U1, hU1⟩ : ∃ U1 : List Bool, U1 = ((l5.drop std).take ut).map (· == 1) := ⟨_, rfl⟩
            obtain ⟨o5, ho5⟩ : ∃ o5, o5 = marksOk (l5.take std) o4 := ⟨_, rfl⟩
            obtain ⟨o6, ho6⟩ : ∃ o6, o6 = marksOk ((l5.drop std).take ut) o5 := ⟨_, rfl⟩
            rw [← hLL, ← hl5] at HI
            have hl5l : std + ut = l5.length := by have := HL4L.out; rw [hl5, List.length_drop]; rcases HSZ.out with rfl | rfl <;> omega
            have hsm : l5.length ≤ 140737488355328 := by have h1 := HD.out.u; have h2 := HD.out.s; omega
            have HT := Aside0.mk (rd_marks w g std l5 o4 wr HI.out.bel HF.out.r0 HI.out.rd (by omega) hsm)
            have HLLE := Aside0.mk hLL
            have HL5 := Aside0.mk hl5
            have HL5L := Aside0.mk hl5l
            have HSM := Aside0.mk hsm
            have HS1 := Aside0.mk hS1
            have HU1 := Aside0.mk hU1
            have HO5 := Aside0.mk ho5
            have HO6 := Aside0.mk ho6
            have z2 : wr.cell? ⟨gh, 2, none⟩ = some (.int .i64 std) := (HI.out.hc 2).trans (by rw [HHD.out]; rfl)
            clear hLL hl5 hS1 hU1 ho5 ho6 hl5l hsm
            go_upto_region 35 with (go_at_call 57; refine HT.out.mono ?_; rintro e w5 ⟨v, rfl, hv, hr, hg⟩; rw [← HS1.out] at hv; rw [← HO5.out] at hr; obtain ⟨As, cs, rfl⟩ := Kd.R_slice hv; have HD2 := Aside0.mk (HI.out.marksS HF.out hg hr hv); have zx : w5.cell? ⟨gx, 3, none⟩ = some (.slice none 0 0) := ((HD2.out.xc 3).trans rfl); have fx := HD2.out.xf 3; clear hv hr hg)
            have HD3 : Aside0 (DInv w (w5.setCell ⟨gx, 3, none⟩ (.slice As S1.length cs)) gh gx g B2 hd #[vK, vJ, vL, .slice As S1.length cs, .slice none 0 0] vK vJ vL (.slice As S1.length cs) (.slice none 0 0) vA KL JL LL S1 [] AL (l5.drop std) o5) := ⟨HD2.out.setx HF.out 3 (.slice As S1.length cs) (by simp)⟩
            clear HD2 HI HT z2 zx fx
            generalize w5.setCell ⟨gx, 3, none⟩ (.slice As S1.length cs) = w6 at HD3 ⊢
            have HT := Aside0.mk (rd_marks w g ut (l5.drop std) o5 w6 HD3.out.bel HF.out.r0 HD3.out.rd (by have := HL5L.out; rw [List.length_drop]; omega) (by have := HSM.out; rw [List.length_drop]; omega))
            have z1 : w6.cell? ⟨gh, 1, none⟩ = some (.int .i64 ut) := (HD3.out.hc 1).trans (by rw [HHD.out]; rfl)
            go_upto_region 36 with (go_at_call 57; refine HT.out.mono ?_; rintro e w7 ⟨v, rfl, hv, hr, hg⟩; rw [← HU1.out] at hv; rw [← HO6.out] at hr; obtain ⟨Au, cu, rfl⟩ := Kd.R_slice hv; have HD4 := Aside0.mk (HD3.out.marksU HF.out hg hr hv); have zx : w7.cell? ⟨gx, 4, none⟩ = some (.slice none 0 0) := ((HD4.out.xc 4).trans rfl); have fx := HD4.out.xf 4; clear hv hr hg)
            have HD5 : Aside0 (DInv w (w7.setCell ⟨gx, 4, none⟩ (.slice Au U1.length cu)) gh gx g B2 hd #[vK, vJ, vL, .slice As S1.length cs, .slice Au U1.length cu] vK vJ vL (.slice As S1.length cs) (.slice Au U1.length cu) vA KL JL LL S1 U1 AL ((l5.drop std).drop ut) o6) := ⟨HD4.out.setx HF.out 4 (.slice Au U1.length cu) (by simp)⟩
            clear HD4 HD3 HT z1 zx fx
            generalize w7.setCell ⟨gx, 4, none⟩ (.slice Au U1.length cu) = w8 at HD5 ⊢
            obtain ⟨AK, cK, rfl, hcK, hCK⟩ := Kd.R_reads HD5.out.row.rK
            obtain ⟨AJ, cJ, rfl, hcJ, hCJ⟩ := Kd.R_reads HD5.out.row.rJ
            obtain ⟨AL', cL, rfl, hcL, hCL⟩ := Kd.R_reads HD5.out.row.rL
            obtain ⟨As', cs', he, hcS, hCS⟩ := Kd.R_reads HD5.out.row.rS
            injection he with e1 _ e3
            subst e1
            subst e3
            obtain ⟨Au', cu', he, hcU, hCU⟩ := Kd.R_reads HD5.out.row.rU
            injection he with e1 _ e3
            subst e1
            subst e3
            have HPE : Aside0 (p.kinds = KL ∧ p.jumps = JL ∧ p.leaps = LL ∧ p.std = S1 ∧ p.ut = U1 ∧ p.ok = o6) := by
             refine ⟨?_⟩
             rw [HP.out, HKLE.out, HJLE.out, HLLE.out, HS1.out, HU1.out, HO6.out, HO5.out, HO4.out, HO3.out, HL5.out, HL4.out, HNM.out, HQ.out, HM.out]
             refine ⟨rfl, rfl, rfl, rfl, rfl, ?_⟩
             rw [all_both]
             rfl
            have z0 : w8.cell? ⟨gx, 0, none⟩ = some (.slice AK KL.length cK) := (HD5.out.xc 0).trans rfl
            have z1 : w8.cell? ⟨gx, 1, none⟩ = some (.slice AJ JL.length cJ) := (HD5.out.xc 1).trans rfl
            have z2 : w8.cell? ⟨gx, 2, none⟩ = some (.slice AL' LL.length cL) := (HD5.out.xc 2).trans rfl
            have z3 : w8.cell? ⟨gx, 3, none⟩ = some (.slice As S1.length cs) := (HD5.out.xc 3).trans rfl
            have z4 : w8.cell? ⟨gx, 4, none⟩ = some (.slice Au U1.length cu) := (HD5.out.xc 4).trans rfl
            have f0 := HD5.out.xf 0
            have f1 := HD5.out.xf 1
            have f2 := HD5.out.xf 2
            have f3 := HD5.out.xf 3
            have f4 := HD5.out.xf 4
            have y0 : w8.cell? ⟨gh, 0, none⟩ = some (.int .i64 ver) := (HD5.out.hc 0).trans (by rw [HHD.out]; rfl)
            obtain ⟨A', c', hg', _, _⟩ := HD5.out.rd
            have zr : w8.cell? ⟨g, 1, none⟩ = some (.bool o6) := blk_cell hg' 1
            clear hg'
            cases o6 with
            | false =>
             have HPO := Aside0.mk HPE.out.2.2.2.2.2
             clear hcK hCK hcJ hCJ hcL hCL hcS hCS hcU hCU
             go_wp2_with fail
             refine bodyPost_ret (v := .tuple #[.agg #[.slice none 0 0, .slice none 0 0, .slice none 0 0, .slice none 0 0, .slice none 0 0], .int .i64 4]) (by simp [results, Try.results27, go_sem, z0, z1, z2, z3, z4]) rfl ?_
             refine ⟨fun h => absurd (HPO.out.symm.trans h.1) (by decide), fun _ => ?_⟩
             refine DecPost.none_ ?_
             have hg := HF.out.x0
             exact (((((HD5.out.bel).setCell hg _).setCell hg _).setCell hg _).setCell hg _).setCell hg _
            | true =>
             have HPO := Aside0.mk HPE.out.2.2.2.2.2
             obtain ⟨rr, hrr⟩ := Option.ne_none_iff_exists'.1 (HR2.out HPO.out)
             have hcall := HR.out HPO.out
             rw [hrr, HPE.out.1, HPE.out.2.1, HPE.out.2.2.1, HPE.out.2.2.2.1, HPE.out.2.2.2.2.1] at hcall
             have HRC := Aside0.mk (block_Right.calls 40000 AK cK KL AJ cJ JL AL' cL LL As cs S1 Au cu U1 sz ver rr w8 hCK hcK hCJ hcJ hCL hcL hCS hcS hCU hcU hcall)
             have HRR := Aside0.mk hrr
             clear hrr hcall hcK hCK hcJ hCJ hcL hCL hcS hCS hcU hCU
             cases rr with
             | false =>
              go_wp2_with (go_at_call 22; refine HRC.out.mono ?_; rintro e w9 ⟨rfl, hb⟩; have HD6 := Aside0.mk (HD5.out.below HF.out hb); have zz0 : w9.cell? ⟨gx, 0, none⟩ = some (.slice AK KL.length cK) := ((HD6.out.xc 0).trans rfl); have zz1 : w9.cell? ⟨gx, 1, none⟩ = some (.slice AJ JL.length cJ) := ((HD6.out.xc 1).trans rfl); have zz2 : w9.cell? ⟨gx, 2, none⟩ = some (.slice AL' LL.length cL) := ((HD6.out.xc 2).trans rfl); have zz3 : w9.cell? ⟨gx, 3, none⟩ = some (.slice As S1.length cs) := ((HD6.out.xc 3).trans rfl); have zz4 : w9.cell? ⟨gx, 4, none⟩ = some (.slice Au U1.length cu) := ((HD6.out.xc 4).trans rfl); have ff0 := HD6.out.xf 0; have ff1 := HD6.out.xf 1; have ff2 := HD6.out.xf 2; have ff3 := HD6.out.xf 3; have ff4 := HD6.out.xf 4; clear hb)
              refine bodyPost_ret (v := .tuple #[.agg #[.slice none 0 0, .slice none 0 0, .slice none 0 0, .slice none 0 0, .slice none 0 0], .int .i64 4]) (by simp [results, Try.results27, go_sem, zz0, zz1, zz2, zz3, zz4]) rfl ?_
              refine ⟨fun h => absurd (HRR.out.symm.trans h.2) (by decide), fun _ => ?_⟩
              refine DecPost.none_ ?_
              have hg := HF.out.x0
              exact (((((HD6.out.bel).setCell hg _).setCell hg _).setCell hg _).setCell hg _).setCell hg _
             | true =>
              go_wp2_with (go_at_call 22; refine HRC.out.mono ?_; rintro e w9 ⟨rfl, hb⟩; have HD6 := Aside0.mk (HD5.out.below HF.out hb); have zz0 : w9.cell? ⟨gx, 0, none⟩ = some (.slice AK KL.length cK) := ((HD6.out.xc 0).trans rfl); have zz1 : w9.cell? ⟨gx, 1, none⟩ = some (.slice AJ JL.length cJ) := ((HD6.out.xc 1).trans rfl); have zz2 : w9.cell? ⟨gx, 2, none⟩ = some (.slice AL' LL.length cL) := ((HD6.out.xc 2).trans rfl); have zz3 : w9.cell? ⟨gx, 3, none⟩ = some (.slice As S1.length cs) := ((HD6.out.xc 3).trans rfl); have zz4 : w9.cell? ⟨gx, 4, none⟩ = some (.slice Au U1.length cu) := ((HD6.out.xc 4).trans rfl); have ff0 := HD6.out.xf 0; have ff1 := HD6.out.xf 1; have ff2 := HD6.out.xf 2; have ff3 := HD6.out.xf 3; have ff4 := HD6.out.xf 4; clear hb)
              refine bodyPost_ret (v := .tuple #[.agg #[.slice AK KL.length cK, .slice AJ JL.length cJ, .slice AL' LL.length cL, .slice As S1.length cs, .slice Au U1.length cu], .int .i64 0]) (by simp [results, Try.results27, go_sem, zz0, zz1, zz2, zz3, zz4]) rfl ?_
              refine ⟨fun _ => ?_, fun h => absurd ⟨HPO.out, HRR.out⟩ h⟩
              rw [HPE.out.1, HPE.out.2.1, HPE.out.2.2.1, HPE.out.2.2.2.1, HPE.out.2.2.2.2.1]
              have h := ((((HD6.out.setx HF.out 0 (.slice AK KL.length cK) (by simp)).setx HF.out 1 (.slice AJ JL.length cJ) (by simp)).setx HF.out 2 (.slice AL' LL.length cL) (by simp)).setx HF.out 3 (.slice As S1.length cs) (by simp)).setx HF.out 4 (.slice Au U1.length cu) (by simp)
              have hl : w.heap.size ≤ B2 := Nat.le_trans HF.out.h0 (Nat.le_of_lt HF.out.h1)
              exact ⟨_, _, _, _, _, rfl, Kd.R_lower h.row.rK hl, Kd.R_lower h.row.rJ hl, Kd.R_lower h.row.rL hl, Kd.R_lower h.row.rS hl, Kd.R_lower h.row.rU hl, h.bel⟩
end Go.Proofs.Ytdcgclhmfflheaa.PQ
