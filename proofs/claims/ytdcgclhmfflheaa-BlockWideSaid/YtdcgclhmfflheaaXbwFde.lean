import Derived.Test.YtdcgclhmfflheaaXbwFdcw
namespace Go.Proofs.Ytdcgclhmfflheaa.PQ
open Go.RowKit Go.Proofs.YtdcgclhmfflheaaW.PrintWords Go.Proofs.YtdcgclhmfflheaaW.PrintLast Go.Proofs.YtdcgclhmfflheaaW.PrintMore
set_option linter.unusedVariables false
set_option linter.unusedSimpArgs false
set_option maxHeartbeats 4000000 in
set_option maxRecDepth 100000 in
theorem dec_wrong (A0 : Option Addr) (c0 : Nat) (l0 : List Int) (ver ut std leap time type char a2 : Int) (w : World) (hsz : a2 = 4 ∨ a2 = 8) (hright : header_Right.f ver ut std leap time type char = some false) :
  Calls Try.prog 27 #[.slice A0 l0.length c0, .agg #[.int .i64 ver, .int .i64 ut, .int .i64 std, .int .i64 leap, .int .i64 time, .int .i64 type, .int .i64 char], .int .i64 a2] w (DecPost [] [] [] [] [] 1 w) := by
 have HRIGHT := Aside0.mk hright
 have hb4 : (a2 != 4) = true ∨ (a2 != 4) = false := by cases (a2 != 4) <;> simp
 have hb8 : (a2 != 4) = true → (a2 != 8) = false := by rcases hsz with rfl | rfl <;> simp
 clear hsz hright
 have hu27 := Try.underlying27
 have hu35 := Try.underlying35
 go_enter Try.func27, Try.ntmps27
 go_upto_region 1 with (first
  | ((with_reducible refine gate_dst (N := 4) rfl ?_); refine box_event ?hg (N := 4) ?hd (cs := #[.int .i64 ver, .int .i64 ut, .int .i64 std, .int .i64 leap, .int .i64 time, .int .i64 type, .int .i64 char]) (t := 35) ?hr ?_; (case hd => rfl); (case hg => rfl); (case hr => first | (go_simp; done) | (go_simp; rfl)); intro gh hgh w1 hbox hb1; have HGH := Aside0.mk hgh; have HBOX := Aside0.mk hbox; have HB1 := Aside0.mk hb1; clear hgh hbox hb1)
  | ((with_reducible refine gate_dst (N := 6) rfl ?_); refine box_event ?hg2 (N := 6) ?hd2 (cs := #[.slice none 0 0, .slice none 0 0, .slice none 0 0, .slice none 0 0, .slice none 0 0]) (t := 27) ?hr2 ?_; (case hd2 => rfl); (case hg2 => rfl); (case hr2 => first | (go_simp; done) | (go_simp; rfl)); intro gx hgx w2 hbox2 hb2; have HGX := Aside0.mk hgx; have HBOX2 := Aside0.mk hbox2; have HB2 := Aside0.mk hb2; clear hgx hbox2 hb2))
 have hhw2 : w2.heap[gh]? = some (.cells #[.int .i64 ver, .int .i64 ut, .int .i64 std, .int .i64 leap, .int .i64 time, .int .i64 type, .int .i64 char] 35 (0, 0)) := (HB2.out.block gh (Array.getElem?_eq_some_iff.1 HBOX.out).1).trans HBOX.out
 go_cut [26] (fun v26 wc => v26 = .bool true ∧ Aside0 (Below w2.heap.size w2 wc))
 case first =>
  have c0 : w2.cell? ⟨gh, 0, none⟩ = some (.int .i64 ver) := by rw [Lib.cell_of_heap hhw2]; rfl
  have c1 : w2.cell? ⟨gh, 1, none⟩ = some (.int .i64 ut) := by rw [Lib.cell_of_heap hhw2]; rfl
  have c2 : w2.cell? ⟨gh, 2, none⟩ = some (.int .i64 std) := by rw [Lib.cell_of_heap hhw2]; rfl
  have c3 : w2.cell? ⟨gh, 3, none⟩ = some (.int .i64 leap) := by rw [Lib.cell_of_heap hhw2]; rfl
  have c4 : w2.cell? ⟨gh, 4, none⟩ = some (.int .i64 time) := by rw [Lib.cell_of_heap hhw2]; rfl
  have c5 : w2.cell? ⟨gh, 5, none⟩ = some (.int .i64 type) := by rw [Lib.cell_of_heap hhw2]; rfl
  have c6 : w2.cell? ⟨gh, 6, none⟩ = some (.int .i64 char) := by rw [Lib.cell_of_heap hhw2]; rfl
  rcases hb4 with h4 | h4
  ·
   have h8 := hb8 h4
   clear hb8 hhw2
   go_wp2_with (go_at_call 25; refine (header_Right.calls ver ut std leap time type char false _ HRIGHT.out).mono ?_; rintro e w3 ⟨rfl, hd3⟩)
   go_meet
   case rel => exact ⟨rfl, ⟨hd3⟩⟩
  ·
   clear hb8 hhw2
   go_wp2_with (go_at_call 25; refine (header_Right.calls ver ut std leap time type char false _ HRIGHT.out).mono ?_; rintro e w3 ⟨rfl, hd3⟩)
   go_meet
   case rel => exact ⟨rfl, ⟨hd3⟩⟩
 case rest =>
  obtain ⟨rfl, HDC⟩ := hcut
  clear hb4 hb8 hhw2
  have hxc : wc.heap[gx]? = some (.cells #[.slice none 0 0, .slice none 0 0, .slice none 0 0, .slice none 0 0, .slice none 0 0] 27 (0, 0)) := (HDC.out.block gx (Array.getElem?_eq_some_iff.1 HBOX2.out).1).trans HBOX2.out
  have z0 : wc.cell? ⟨gx, 0, none⟩ = some (.slice none 0 0) := by rw [Lib.cell_of_heap hxc]; rfl
  have z1 : wc.cell? ⟨gx, 1, none⟩ = some (.slice none 0 0) := by rw [Lib.cell_of_heap hxc]; rfl
  have z2 : wc.cell? ⟨gx, 2, none⟩ = some (.slice none 0 0) := by rw [Lib.cell_of_heap hxc]; rfl
  have z3 : wc.cell? ⟨gx, 3, none⟩ = some (.slice none 0 0) := by rw [Lib.cell_of_heap hxc]; rfl
  have z4 : wc.cell? ⟨gx, 4, none⟩ = some (.slice none 0 0) := by rw [Lib.cell_of_heap hxc]; rfl
  have f0 := blk_frozen hxc 0
  have f1 := blk_frozen hxc 1
  have f2 := blk_frozen hxc 2
  have f3 := blk_frozen hxc 3
  have f4 := blk_frozen hxc 4
  clear hxc
  go_wp2_with fail
  refine bodyPost_ret (v := .tuple #[.agg #[.slice none 0 0, .slice none 0 0, .slice none 0 0, .slice none 0 0, .slice none 0 0], .int .i64 1]) (by simp [results, Try.results27, go_sem, z0, z1, z2, z3, z4]) rfl ?_
  refine DecPost.none_ ?_
  have s1 := HB1.out.size
  have s2 := HB2.out.size
  have hg : w.heap.size ≤ gx := by rw [HGX.out]; exact HB1.out.size
  exact (((((((HB1.out).trans (HB2.out.mono s1)).trans (HDC.out.mono (Nat.le_trans s1 s2))).setCell hg _).setCell hg _).setCell hg _).setCell hg _).setCell hg _
set_option maxHeartbeats 4000000 in
set_option maxRecDepth 100000 in
theorem dec_short (A0 : Option Addr) (c0 : Nat) (l0 : List Int) (ver ut std leap time type char a2 n : Int) (w : World) (hsz : a2 = 4 ∨ a2 = 8) (hright : header_Right.f ver ut std leap time type char = some true) (hbody : header_Body.f ver ut std leap time type char a2 = some n) (hlen : (l0.length : Int) < n) :
  Calls Try.prog 27 #[.slice A0 l0.length c0, .agg #[.int .i64 ver, .int .i64 ut, .int .i64 std, .int .i64 leap, .int .i64 time, .int .i64 type, .int .i64 char], .int .i64 a2] w (DecPost [] [] [] [] [] 5 w) := by
 have HRIGHT := Aside0.mk hright
 have HBODY := Aside0.mk hbody
 have hb4 : (a2 != 4) = true ∨ (a2 != 4) = false := by cases (a2 != 4) <;> simp
 have hb8 : (a2 != 4) = true → (a2 != 8) = false := by rcases hsz with rfl | rfl <;> simp
 have hld : decide ((l0.length : Int) < n) = true := by simp [hlen]
 clear hsz hright hbody
 have hu27 := Try.underlying27
 have hu35 := Try.underlying35
 go_enter Try.func27, Try.ntmps27
 go_upto_region 1 with (first
  | ((with_reducible refine gate_dst (N := 4) rfl ?_); refine box_event ?hg (N := 4) ?hd (cs := #[.int .i64 ver, .int .i64 ut, .int .i64 std, .int .i64 leap, .int .i64 time, .int .i64 type, .int .i64 char]) (t := 35) ?hr ?_; (case hd => rfl); (case hg => rfl); (case hr => first | (go_simp; done) | (go_simp; rfl)); intro gh hgh w1 hbox hb1; have HGH := Aside0.mk hgh; have HBOX := Aside0.mk hbox; have HB1 := Aside0.mk hb1; clear hgh hbox hb1)
  | ((with_reducible refine gate_dst (N := 6) rfl ?_); refine box_event ?hg2 (N := 6) ?hd2 (cs := #[.slice none 0 0, .slice none 0 0, .slice none 0 0, .slice none 0 0, .slice none 0 0]) (t := 27) ?hr2 ?_; (case hd2 => rfl); (case hg2 => rfl); (case hr2 => first | (go_simp; done) | (go_simp; rfl)); intro gx hgx w2 hbox2 hb2; have HGX := Aside0.mk hgx; have HBOX2 := Aside0.mk hbox2; have HB2 := Aside0.mk hb2; clear hgx hbox2 hb2))
 have hhw2 : w2.heap[gh]? = some (.cells #[.int .i64 ver, .int .i64 ut, .int .i64 std, .int .i64 leap, .int .i64 time, .int .i64 type, .int .i64 char] 35 (0, 0)) := (HB2.out.block gh (Array.getElem?_eq_some_iff.1 HBOX.out).1).trans HBOX.out
 have HH2 := Aside0.mk hhw2
 go_cut [26] (fun v26 wc => v26 = .bool false ∧ Aside0 (Below w2.heap.size w2 wc))
 case first =>
  have c0 : w2.cell? ⟨gh, 0, none⟩ = some (.int .i64 ver) := by rw [Lib.cell_of_heap hhw2]; rfl
  have c1 : w2.cell? ⟨gh, 1, none⟩ = some (.int .i64 ut) := by rw [Lib.cell_of_heap hhw2]; rfl
  have c2 : w2.cell? ⟨gh, 2, none⟩ = some (.int .i64 std) := by rw [Lib.cell_of_heap hhw2]; rfl
  have c3 : w2.cell? ⟨gh, 3, none⟩ = some (.int .i64 leap) := by rw [Lib.cell_of_heap hhw2]; rfl
  have c4 : w2.cell? ⟨gh, 4, none⟩ = some (.int .i64 time) := by rw [Lib.cell_of_heap hhw2]; rfl
  have c5 : w2.cell? ⟨gh, 5, none⟩ = some (.int .i64 type) := by rw [Lib.cell_of_heap hhw2]; rfl
  have c6 : w2.cell? ⟨gh, 6, none⟩ = some (.int .i64 char) := by rw [Lib.cell_of_heap hhw2]; rfl
  rcases hb4 with h4 | h4
  ·
   have h8 := hb8 h4
   clear hb8 hhw2
   go_wp2_with (go_at_call 25; refine (header_Right.calls ver ut std leap time type char true _ HRIGHT.out).mono ?_; rintro e w3 ⟨rfl, hd3⟩)
   go_meet
   case rel => exact ⟨rfl, ⟨hd3⟩⟩
  ·
   clear hb8 hhw2
   go_wp2_with (go_at_call 25; refine (header_Right.calls ver ut std leap time type char true _ HRIGHT.out).mono ?_; rintro e w3 ⟨rfl, hd3⟩)
   go_meet
   case rel => exact ⟨rfl, ⟨hd3⟩⟩
 case rest =>
  obtain ⟨rfl, HDC⟩ := hcut
  clear hb4 hb8 hhw2
  have hhc : wc.heap[gh]? = some (.cells #[.int .i64 ver, .int .i64 ut, .int .i64 std, .int .i64 leap, .int .i64 time, .int .i64 type, .int .i64 char] 35 (0, 0)) := (HDC.out.block gh (Array.getElem?_eq_some_iff.1 HH2.out).1).trans HH2.out
  have cz0 : wc.cell? ⟨gh, 0, none⟩ = some (.int .i64 ver) := by rw [Lib.cell_of_heap hhc]; rfl
  have cz1 : wc.cell? ⟨gh, 1, none⟩ = some (.int .i64 ut) := by rw [Lib.cell_of_heap hhc]; rfl
  have cz2 : wc.cell? ⟨gh, 2, none⟩ = some (.int .i64 std) := by rw [Lib.cell_of_heap hhc]; rfl
  have cz3 : wc.cell? ⟨gh, 3, none⟩ = some (.int .i64 leap) := by rw [Lib.cell_of_heap hhc]; rfl
  have cz4 : wc.cell? ⟨gh, 4, none⟩ = some (.int .i64 time) := by rw [Lib.cell_of_heap hhc]; rfl
  have cz5 : wc.cell? ⟨gh, 5, none⟩ = some (.int .i64 type) := by rw [Lib.cell_of_heap hhc]; rfl
  have cz6 : wc.cell? ⟨gh, 6, none⟩ = some (.int .i64 char) := by rw [Lib.cell_of_heap hhc]; rfl
  clear hhc
  have HXC := Aside0.mk ((HDC.out.block gx (Array.getElem?_eq_some_iff.1 HBOX2.out).1).trans HBOX2.out)
  go_upto_region 5 with (go_at_call 26; refine (header_Body.calls ver ut std leap time type char a2 n _ HBODY.out).mono ?_; rintro e w3 ⟨rfl, hd3⟩; have HD3 := Aside0.mk hd3; clear hd3)
  have hxc : w3.heap[gx]? = some (.cells #[.slice none 0 0, .slice none 0 0, .slice none 0 0, .slice none 0 0, .slice none 0 0] 27 (0, 0)) := (HD3.out.block gx (Array.getElem?_eq_some_iff.1 HXC.out).1).trans HXC.out
  have z0 : w3.cell? ⟨gx, 0, none⟩ = some (.slice none 0 0) := by rw [Lib.cell_of_heap hxc]; rfl
  have z1 : w3.cell? ⟨gx, 1, none⟩ = some (.slice none 0 0) := by rw [Lib.cell_of_heap hxc]; rfl
  have z2 : w3.cell? ⟨gx, 2, none⟩ = some (.slice none 0 0) := by rw [Lib.cell_of_heap hxc]; rfl
  have z3 : w3.cell? ⟨gx, 3, none⟩ = some (.slice none 0 0) := by rw [Lib.cell_of_heap hxc]; rfl
  have z4 : w3.cell? ⟨gx, 4, none⟩ = some (.slice none 0 0) := by rw [Lib.cell_of_heap hxc]; rfl
  have f0 := blk_frozen hxc 0
  have f1 := blk_frozen hxc 1
  have f2 := blk_frozen hxc 2
  have f3 := blk_frozen hxc 3
  have f4 := blk_frozen hxc 4
  clear hxc
  go_wp2_with fail
  refine bodyPost_ret (v := .tuple #[.agg #[.slice none 0 0, .slice none 0 0, .slice none 0 0, .slice none 0 0, .slice none 0 0], .int .i64 5]) (by simp [results, Try.results27, go_sem, z0, z1, z2, z3, z4]) rfl ?_
  refine DecPost.none_ ?_
  have s1 := HB1.out.size
  have s2 := HB2.out.size
  have sc := HDC.out.size
  have hg : w.heap.size ≤ gx := by rw [HGX.out]; exact HB1.out.size
  exact ((((((((HB1.out).trans (HB2.out.mono s1)).trans (HDC.out.mono (Nat.le_trans s1 s2))).trans (HD3.out.mono (Nat.le_trans s1 (Nat.le_trans s2 sc)))).setCell hg _).setCell hg _).setCell hg _).setCell hg _).setCell hg _
theorem block_Decode.calls (A0 : Option Addr) (c0 : Nat) (l0 : List Int) (a1_0 a1_1 a1_2 a1_3 a1_4 a1_5 a1_6 a2 : Int) (r1 : List S56) (r2 : List S54) (r3 : List S87) (r4 r5 : List Bool) (r6 : Int) (w : World) (hr0 : Kd.C (Kd.int .u8) w A0 l0.length l0) (hc0 : l0.length ≤ c0)
  (h : block_Decode.f l0 a1_0 a1_1 a1_2 a1_3 a1_4 a1_5 a1_6 a2 = some (r1, r2, r3, r4, r5, r6)) :
  Calls Try.prog 27 #[.slice A0 l0.length c0, .agg #[.int .i64 a1_0, .int .i64 a1_1, .int .i64 a1_2, .int .i64 a1_3, .int .i64 a1_4, .int .i64 a1_5, .int .i64 a1_6], .int .i64 a2] w (DecPost r1 r2 r3 r4 r5 r6 w) := by
 unfold block_Decode.f at h
 by_cases h48 : a2 ≠ 4 ∧ a2 ≠ 8
 ·
  rw [if_pos h48] at h
  injection h with h
  simp only [Prod.mk.injEq] at h
  obtain ⟨rfl, rfl, rfl, rfl, rfl, rfl⟩ := h
  exact dec_size A0 c0 l0 a1_0 a1_1 a1_2 a1_3 a1_4 a1_5 a1_6 a2 w h48.1 h48.2
 rw [if_neg h48] at h
 have hsz : a2 = 4 ∨ a2 = 8 := by omega
 obtain ⟨right, hr, h⟩ := Option.bind_eq_some_iff.1 h
 cases right with
 | false =>
  rw [if_pos rfl] at h
  injection h with h
  simp only [Prod.mk.injEq] at h
  obtain ⟨rfl, rfl, rfl, rfl, rfl, rfl⟩ := h
  exact dec_wrong A0 c0 l0 a1_0 a1_1 a1_2 a1_3 a1_4 a1_5 a1_6 a2 w hsz hr
 | true =>
  rw [if_neg (by decide)] at h
  obtain ⟨n, hn, h⟩ := Option.bind_eq_some_iff.1 h
  by_cases hlen : (l0.length : Int) < n
  ·
   rw [if_pos hlen] at h
   injection h with h
   simp only [Prod.mk.injEq] at h
   obtain ⟨rfl, rfl, rfl, rfl, rfl, rfl⟩ := h
   exact dec_short A0 c0 l0 a1_0 a1_1 a1_2 a1_3 a1_4 a1_5 a1_6 a2 n w hsz hr hn hlen
  rw [if_neg hlen] at h
  by_cases hb : bytesOk l0
  case neg => rw [if_neg hb] at h; exact absurd h (by simp)
  rw [if_pos hb] at h
  have hd := hdr_bd hr
  rw [body_eq hd hsz] at hn
  injection hn with hn
  obtain ⟨v0, v1, ty0, ty1, c0', c1', ti0, ti1, le0, le1, u, s⟩ := hd
  obtain ⟨ut, rfl⟩ := Int.eq_ofNat_of_zero_le (show 0 ≤ a1_1 by omega)
  obtain ⟨std, rfl⟩ := Int.eq_ofNat_of_zero_le (show 0 ≤ a1_2 by omega)
  obtain ⟨leap, rfl⟩ := Int.eq_ofNat_of_zero_le le0
  obtain ⟨time, rfl⟩ := Int.eq_ofNat_of_zero_le ti0
  obtain ⟨type, rfl⟩ := Int.eq_ofNat_of_zero_le (show 0 ≤ a1_5 by omega)
  obtain ⟨char, rfl⟩ := Int.eq_ofNat_of_zero_le (show 0 ≤ a1_6 by omega)
  obtain ⟨sz, rfl⟩ := Int.eq_ofNat_of_zero_le (show 0 ≤ a2 by omega)
  obtain ⟨N, hN⟩ : ∃ N, N = time * (sz + 1) + type * 6 + char + leap * (sz + 4) + std + ut := ⟨_, rfl⟩
  have hnN : n = (N : Int) := by rw [← hn, hN]; push_cast; rfl
  subst hnN
  simp only [Int.toNat_natCast] at h
  obtain ⟨p, hp⟩ : ∃ p, p = dparts (l0.take N) ut std leap time type char sz := ⟨_, rfl⟩
  rw [← hp] at h
  have hm := dec_main A0 c0 l0 a1_0 ut std leap time type char sz (by omega) w hr0 hc0 (block_Right.f 40000 p.kinds p.jumps p.leaps p.std p.ut sz a1_0) hr (by rw [← hN]; omega) hb p (by rw [← hN]; exact hp) (fun _ => rfl)
  cases hpo : p.ok with
  | false =>
   rw [if_pos hpo] at h
   injection h with h
   simp only [Prod.mk.injEq] at h
   obtain ⟨rfl, rfl, rfl, rfl, rfl, rfl⟩ := h
   exact (hm (fun h => absurd (hpo.symm.trans h) (by decide))).mono fun e w' hp => hp.2 (fun h => absurd (hpo.symm.trans h.1) (by decide))
  | true =>
   rw [if_neg (by rw [hpo]; decide)] at h
   obtain ⟨rr, hrr, h⟩ := Option.bind_eq_some_iff.1 h
   have hm := hm (fun _ => by rw [hrr]; simp)
   cases rr with
   | true =>
    rw [if_pos rfl] at h
    injection h with h
    simp only [Prod.mk.injEq] at h
    obtain ⟨rfl, rfl, rfl, rfl, rfl, rfl⟩ := h
    exact hm.mono fun e w' hp => hp.1 ⟨hpo, hrr⟩
   | false =>
    rw [if_neg (by decide)] at h
    injection h with h
    simp only [Prod.mk.injEq] at h
    obtain ⟨rfl, rfl, rfl, rfl, rfl, rfl⟩ := h
    exact hm.mono fun e w' hp => hp.2 (fun h => absurd (hrr.symm.trans h.2) (by decide))
end Go.Proofs.Ytdcgclhmfflheaa.PQ
