import Derived.Test.YtdcgclhmfflheaaXbwPQ0
import Derived.Test.YtdcgclhmfflheaaXbwPQf78
import Derived.WalkSpells
import Derived.Lib.Hide
import Derived.IntWalk
import Derived.RegionTactic
import Derived.Lib.Builder
namespace Go.Proofs.Ytdcgclhmfflheaa.PQ
open Go.RowKit Go.Proofs.YtdcgclhmfflheaaW.PrintWords Go.Proofs.YtdcgclhmfflheaaW.PrintLast Go.Proofs.YtdcgclhmfflheaaW.PrintMore
set_option linter.unusedVariables false
set_option linter.unusedSimpArgs false
def RdAt (w0 : World) (g : Nat) (l : List Int) (ok : Bool) (w : World) : Prop :=
 ∃ A c, w.heap[g]? = some (.cells #[.slice A l.length c, .bool ok] 101 (0, 0)) ∧ Kd.C (Kd.int .u8) w0 A l.length l ∧ l.length ≤ c
structure Only (g : Nat) (w w' : World) : Prop where
 bel : Below g w w'
 far : ∀ k, k ≠ g → w'.heap[k]? = w.heap[k]?
 size : w'.heap.size = w.heap.size
theorem Only.refl (g : Nat) (w : World) : Only g w w := ⟨Below.refl _ _, fun _ _ => rfl, rfl⟩
theorem Only.trans {g : Nat} {a b c : World} (h : Only g a b) (k : Only g b c) : Only g a c := ⟨h.bel.trans k.bel, fun i hi => (k.far i hi).trans (h.far i hi), k.size.trans h.size⟩
theorem Only.set (g : Nat) (w : World) (i : Nat) (u : Value) : Only g w (w.setCell ⟨g, i, none⟩ u) :=
 ⟨(Below.refl g w).setCell (p := ⟨g, i, none⟩) (Nat.le_refl _) _, fun k hk => Below.heap_setCell w _ _ k hk, by simp⟩
theorem Only.drew (g : Nat) (w : World) (n : Nat) : Only g w (w.drewN n) := ⟨pw_below_drewN (Below.refl _ _) _, fun k _ => by simp, by simp⟩
def TakePost (w0 : World) (g : Nat) (l : List Int) (ok : Bool) (n : Int) (w : World) (e : Ending) (w' : World) : Prop :=
 ∃ A c, e = .returned (.slice A (l.take n.toNat).length c) ∧ Kd.C (Kd.int .u8) w0 A (l.take n.toNat).length (l.take n.toNat) ∧ (l.take n.toNat).length ≤ c ∧ RdAt w0 g (l.drop n.toNat) ok w' ∧ Only g w w'
def TakeAt (w0 : World) (g : Nat) (A : Option Addr) (c : Nat) (l : List Int) (ok : Bool) (n : Int) (w : World) (e : Ending) (w' : World) : Prop :=
 e = .returned (.slice A (l.take n.toNat).length c) ∧ Kd.C (Kd.int .u8) w0 A (l.take n.toNat).length (l.take n.toNat) ∧ (l.take n.toNat).length ≤ c ∧ RdAt w0 g (l.drop n.toNat) ok w' ∧ Only g w w'
set_option maxHeartbeats 1000000 in
theorem rd_take_at (w0 : World) (g : Nat) (A : Option Addr) (c : Nat) (l : List Int) (ok : Bool) (n : Int) (w : World) (hg : w.heap[g]? = some (.cells #[.slice A l.length c, .bool ok] 101 (0, 0))) (hC : Kd.C (Kd.int .u8) w0 A l.length l) (hc : l.length ≤ c) (h0 : 0 ≤ n) (h1 : n ≤ l.length) :
  Calls Try.prog 54 #[.pointer (some ⟨g, 0, none⟩), .int .i64 n] w (TakeAt w0 g A c l ok n w) := by
 obtain ⟨i0, hi0, _, hsz, _⟩ := info_parts info5
 obtain ⟨hc1, hA1, hL1⟩ := print_take_of (P := Try.prog) (Value.int .u8) 0 33 5 .i64 Try.underlying33 hi0 hsz A c l n h0 h1 hc
 obtain ⟨A2, hc2, hA2, hL2⟩ := print_drop_of (P := Try.prog) (Value.int .u8) 0 33 5 .i64 Try.underlying33 hi0 hsz A c l n h0 h1 hc
 have c0 : w.cell? ⟨g, 0, none⟩ = some (.slice A l.length c) := by rw [Lib.cell_of_heap hg]; rfl
 have f0 : w.frozen? ⟨g, 0, none⟩ = false := by simp [World.frozen?, hg]
 have HFIN : Aside0 (TakeAt w0 g A c l ok n w (.returned (.slice A (l.take n.toNat).length c)) (w.setCell ⟨g, 0, none⟩ (.slice A2 (l.drop n.toNat).length (c - n.toNat)))) :=
  ⟨rfl, Kd.C_of_reads (h1 := fun _ => rfl) (hA1 _ (Kd.reads_of_C hC)), hL1, ⟨A2, _, blk_put hg 0 _ rfl, Kd.C_of_reads (h1 := fun _ => rfl) (hA2 _ (Kd.reads_of_C hC)), hL2⟩, Only.set _ _ _ _⟩
 generalize (l.take n.toNat).length = n1 at hc1 HFIN
 generalize (l.drop n.toNat).length = n2 at hc2 HFIN
 generalize hC2 : c - n.toNat = C2 at hc2 HFIN
 clear hi0 hsz hA1 hA2 hL1 hL2 hg hC hc hC2
 generalize l.length = L at *
 go_enter Try.func54, Try.ntmps54
 go_wp2
 go_ret
 exact HFIN.out
theorem rd_take (w0 : World) (g : Nat) (l : List Int) (ok : Bool) (n : Int) (w : World) (h : RdAt w0 g l ok w) (h0 : 0 ≤ n) (h1 : n ≤ l.length) :
  Calls Try.prog 54 #[.pointer (some ⟨g, 0, none⟩), .int .i64 n] w (TakePost w0 g l ok n w) := by
 obtain ⟨A, c, hg, hC, hc⟩ := h
 refine (rd_take_at w0 g A c l ok n w hg hC hc h0 h1).mono ?_
 rintro e w1 ⟨h2, h3, h4, h5, h6⟩
 exact ⟨A, c, h2, h3, h4, h5, h6⟩
structure Grew (g : Nat) (w w' : World) : Prop where
 bel : Below g w w'
 keep : KeepBut w w' g none
theorem Grew.refl (g : Nat) (w : World) : Grew g w w := ⟨Below.refl _ _, Nat.le_refl _, fun _ _ _ _ => rfl⟩
theorem Grew.trans {g : Nat} {a b c : World} (h : Grew g a b) (k : Grew g b c) : Grew g a c :=
 ⟨h.bel.trans k.bel, Nat.le_trans h.keep.1 k.keep.1, fun i hi hg hr => (k.keep.2 i (Nat.lt_of_lt_of_le hi h.keep.1) hg hr).trans (h.keep.2 i hi hg hr)⟩
theorem Grew.of {g : Nat} {a b : World} (h : Below a.heap.size a b) (hg : g ≤ a.heap.size) : Grew g a b := ⟨h.mono hg, h.size, fun i hi _ _ => h.block i hi⟩
theorem Only.grew {g : Nat} {a b : World} (h : Only g a b) : Grew g a b := ⟨h.bel, Nat.le_of_eq h.size.symm, fun i _ hg _ => h.far i hg⟩
theorem Grew.below {g B : Nat} {a b : World} (h : Grew g a b) (hB : B ≤ g) : Below B a b := h.bel.mono hB
theorem RdAt.move {w0 : World} {g : Nat} {l : List Int} {ok : Bool} {w w' : World} (h : RdAt w0 g l ok w) (hm : w'.heap[g]? = w.heap[g]?) : RdAt w0 g l ok w' := by
 obtain ⟨A, c, hg, hC, hc⟩ := h
 exact ⟨A, c, hm.trans hg, hC, hc⟩
theorem RdAt.lt {w0 : World} {g : Nat} {l : List Int} {ok : Bool} {w : World} (h : RdAt w0 g l ok w) : g < w.heap.size := by
 obtain ⟨A, c, hg, _⟩ := h
 exact (Array.getElem?_eq_some_iff.1 hg).1
def numF (l : List Int) (size : Int) : Option Int := (octets_Int.f l 0 size).map Prod.fst
def NumPost (w0 : World) (g : Nat) (l : List Int) (ok : Bool) (size : Int) (v : Int) (w : World) (e : Ending) (w' : World) : Prop :=
 e = .returned (.int .i64 v) ∧ RdAt w0 g (l.drop size.toNat) ok w' ∧ Only g w w'
set_option maxHeartbeats 1000000 in
theorem rd_number (w0 : World) (g : Nat) (l : List Int) (ok : Bool) (size v : Int) (w : World) (hb : Below w0.heap.size w0 w) (hgw : w0.heap.size ≤ g) (h : RdAt w0 g l ok w) (h0 : 0 ≤ size) (h1 : size ≤ l.length) (hv : numF (l.take size.toNat) size = some v) :
  Calls Try.prog 53 #[.pointer (some ⟨g, 0, none⟩), .int .i64 size] w (NumPost w0 g l ok size v w) := by
 obtain ⟨⟨r1, r2⟩, hv1, rfl⟩ := Option.map_eq_some_iff.1 hv
 have HV := Aside0.mk hv1
 have HT := Aside0.mk (rd_take w0 g l ok size w h h0 h1)
 have HB := Aside0.mk hb
 have HG := Aside0.mk hgw
 clear hv hv1 hb h h1 hgw
 go_enter Try.func53, Try.ntmps53
 go_wp2_with fail
 refine HT.out.mono ?_
 rintro e w1 ⟨A, c, rfl, hC, hc, hrd, ho⟩
 have hb1 : Below w0.heap.size w0 w1 := HB.out.trans (ho.bel.mono HG.out)
 have HI := Aside0.mk (octets_Int.calls A c (l.take size.toNat) 0 size r1 r2 w1 (Kd.C_below hC hb1) hc HV.out)
 have HP := Aside0.mk hrd
 have HO := Aside0.mk ho
 clear hC hc hrd ho hb1
 generalize (l.take size.toNat).length = n1 at HI ⊢
 go_wp2_with (go_at_call 78; refine HI.out.mono ?_; rintro e w2 ⟨rfl, ⟨nd, rfl⟩⟩)
 go_ret
 exact ⟨rfl, HP.out.move (by simp), HO.out.trans (Only.drew _ _ _)⟩
def TruthPost (w0 : World) (g : Nat) (c : Int) (l : List Int) (ok : Bool) (w : World) (e : Ending) (w' : World) : Prop :=
 e = .returned (.bool (c == 1)) ∧ RdAt w0 g l (ok && decide (c < 2)) w' ∧ Only g w w'
set_option maxHeartbeats 2000000 in
theorem rd_truth (w0 : World) (g : Nat) (c : Int) (l : List Int) (ok : Bool) (w : World) (hb : Below w0.heap.size w0 w) (hgw : w0.heap.size ≤ g) (h : RdAt w0 g (c :: l) ok w) :
  Calls Try.prog 55 #[.pointer (some ⟨g, 0, none⟩)] w (TruthPost w0 g c l ok w) := by
 have HT := Aside0.mk (rd_take w0 g (c :: l) ok 1 w h (by omega) (by simp; omega))
 have HB := Aside0.mk hb
 have HG := Aside0.mk hgw
 clear hb hgw h
 go_enter Try.func55, Try.ntmps55
 go_wp2_with fail
 refine HT.out.mono ?_
 rintro e w1 ⟨A, cc, rfl, hC, hc, hrd, ho⟩
 have hb1 : Below w0.heap.size w0 w1 := HB.out.trans (ho.bel.mono HG.out)
 have e1 : ((1 : Int)).toNat = 1 := rfl
 rw [e1] at hC hc hrd ⊢
 simp only [List.take_succ_cons, List.take_zero, List.drop_succ_cons, List.drop_zero] at hC hc hrd ⊢
 obtain ⟨ad, e, hx⟩ := (Kd.reads_of_C (enc := Value.int .u8) (h1 := fun _ => rfl) (d := (0 : Int)) (Kd.C_below hC hb1)).2.2 (by simp)
 subst e
 replace hx := hx 0 (by simp)
 simp only [List.getD_cons_zero] at hx
 rw [Addr.add_zero'] at hx
 obtain ⟨A2, c2, hg2, hC2, hc2⟩ := hrd
 have z1 : w1.cell? ⟨g, 1, none⟩ = some (.bool ok) := by rw [Lib.cell_of_heap hg2]; rfl
 have f1 : w1.frozen? ⟨g, 1, none⟩ = false := by simp [World.frozen?, hg2]
 have HP : Aside0 (RdAt w0 g l (ok && decide (c < 2)) (w1.setCell ⟨g, 1, none⟩ (.bool (ok && decide (c < 2))))) := ⟨⟨A2, c2, blk_put hg2 1 _ rfl, hC2, hc2⟩⟩
 have HO := Aside0.mk (ho.trans (Only.set g w1 1 (.bool (ok && decide (c < 2)))))
 clear hC hc hg2 hC2 hc2 ho hb1 e1
 cases ok with
 | false =>
  go_wp2
  go_ret
  exact ⟨rfl, HP.out, HO.out⟩
 | true =>
  go_wp2
  go_ret
  exact ⟨rfl, HP.out, HO.out⟩
def marksOk (l : List Int) (ok : Bool) : Bool := l.foldl (fun b c => b && decide (c < 2)) ok
def MarksPost (w0 : World) (g : Nat) (n : Nat) (l : List Int) (ok : Bool) (w : World) (e : Ending) (w' : World) : Prop :=
 ∃ v, e = .returned v ∧ Kd.R Kd.bool 4 w' w.heap.size (fun _ => True) v ((l.take n).map (· == 1)) ∧ RdAt w0 g (l.drop n) (marksOk (l.take n) ok) w' ∧ Grew g w w'
theorem take_succ_snoc (l : List Int) (k : Nat) (h : k < l.length) : l.take (k + 1) = l.take k ++ [l[k]] := List.take_succ_eq_append_getElem h
theorem marks_own {α : Type} {d : Kd α} {e : Nat} {w wr w1 : World} {g : Nat} {v : Value} {xs : List α} (h : Kd.R d e wr w.heap.size (fun _ => True) v xs) (hG : Grew g w wr) (hg : g < w.heap.size) (ho : Only g wr w1) : Kd.R d e w1 w.heap.size (fun _ => True) v xs :=
 Kd.R_mono (Kd.R_step (Kd.R_mono (Kd.R_bound h) (ok' := fun k => w.heap.size ≤ k) (fun k hk => hk.2.1)) (fun i hi1 hi2 => ho.far i (by omega))) (fun _ _ => trivial)
theorem Grew.own {g : Nat} {w w1 w2 : World} {row : Option Nat} (h : Grew g w w1) (hb : Below w.heap.size w1 w2) (hg : w1.grownBy w2 row) (hr : ∀ b, row = some b → w.heap.size ≤ b) (hgw : g ≤ w.heap.size) : Grew g w w2 :=
 ⟨h.bel.trans (hb.mono hgw), Nat.le_trans h.keep.1 hg.size, fun i hi hne hrow => (hg.block i (Nat.lt_of_lt_of_le hi h.keep.1) (by intro e; have := hr i e.symm; omega)).trans (h.keep.2 i hi hne hrow)⟩
set_option maxHeartbeats 2000000 in
set_option maxRecDepth 100000 in
theorem rd_marks (w0 : World) (g : Nat) (n : Nat) (l : List Int) (ok : Bool) (w : World) (hb : Below w0.heap.size w0 w) (hgw : w0.heap.size ≤ g) (h : RdAt w0 g l ok w) (hn : n ≤ l.length) (hl : l.length ≤ 140737488355328) :
  Calls Try.prog 57 #[.pointer (some ⟨g, 0, none⟩), .int .i64 n] w (MarksPost w0 g n l ok w) := by
 have HB := Aside0.mk hb
 have HG := Aside0.mk hgw
 have HR := Aside0.mk h
 clear hb hgw h
 go_enter Try.func57, Try.ntmps57
 go_wp2
 go_loopw [4, 6] (fun v i wr => ∃ k : Nat, k ≤ n ∧ i = .int .i64 k ∧ Aside0 (Kd.R Kd.bool 4 wr w.heap.size (fun _ => True) v ((l.take k).map (· == 1)) ∧ RdAt w0 g (l.drop k) (marksOk (l.take k) ok) wr ∧ Grew g w wr)) (fun _ i _ => n - (intOf i).toNat)
 case atStart => exact ⟨0, Nat.zero_le _, rfl, ⟨Kd.R_nil _ _ _ _ _, HR.out, Grew.refl _ _⟩⟩
 case round =>
  obtain ⟨k, hk, rfl, HI⟩ := hrel
  by_cases hlt : k < n
  ·
   have hkl : k < l.length := by omega
   have hd : l.drop k = l[k] :: l.drop (k + 1) := List.drop_eq_getElem_cons hkl
   have HD := Aside0.mk hd
   have HTK := Aside0.mk (take_succ_snoc l k hkl)
   have hrd := HI.out.2.1
   rw [hd] at hrd
   have hbw : Below w0.heap.size w0 wr := HB.out.trans (HI.out.2.2.below HG.out)
   have HT := Aside0.mk (rd_truth w0 g l[k] (l.drop (k + 1)) _ wr hbw HG.out hrd)
   have HLK : Aside0 ((List.map (fun x => x == 1) (l.take k)).length + 1 ≤ 140737488355328) := ⟨by rw [List.length_map, List.length_take]; omega⟩
   clear hd hrd hbw
   generalize l[k] = c at *
   go_wp2_with (first
    | (go_at_call 55; refine HT.out.mono ?_; rintro e w1 ⟨rfl, hr1, ho1⟩; have HR1 := Aside0.mk hr1; have HO1 := Aside0.mk ho1; clear hr1 ho1)
    | ((with_reducible refine gate_builtin (b := .append) (xs := #[.tmp 8, .tmp 11]) rfl ?_); at_builtin; refine Kd.R_append Kd.bool (w0 := w1) w.heap.size rfl (.tmp 8) (.tmp 11) 25 4 (.bool false) 1 rfl Try.underlying25 info4 rfl (by decide) (by omega) u4 (List.map (fun x => x == 1) (l.take k)) (c == 1) [.bool (c == 1)] (fun _ => True) (fun _ => False) rfl rfl ?aP (fun _ hk => hk.elim) ?aF ?aO ?aB ?aS ?aL ?_; (case aP => exact rfl); (case aF => exact (fun _ _ => trivial)); (case aO => exact marks_own HI.out.1 HI.out.2.2 HR.out.lt HO1.out); (case aB => exact Below.refl _ _); (case aS => exact Nat.le_trans HI.out.2.2.keep.1 (Nat.le_of_eq HO1.out.size.symm)); (case aL => have := HLK.out; omega); intro v2 w2 ho hb hg hat; have HO2 := Aside0.mk ho; have HG2 := Aside0.mk (Grew.own (HI.out.2.2.trans HO1.out.grew) hb hg (fun b hb' => own_base (Kd.own_of_R (marks_own HI.out.1 HI.out.2.2 HR.out.lt HO1.out)) b hb') (Nat.le_of_lt HR.out.lt)); have HR2 := Aside0.mk (HR1.out.move (hg.block g HR1.out.lt (by intro e; have h1 := own_base (Kd.own_of_R (marks_own HI.out.1 HI.out.2.2 HR.out.lt HO1.out)) g e.symm; have := HR.out.lt; omega))); clear ho hb hg hat))
   go_roundw
   case rel =>
    refine ⟨k + 1, by omega, by go_num, ⟨?_, ?_, HG2.out⟩⟩
    ·
     rw [HTK.out, List.map_append]; exact HO2.out
    ·
     rw [HTK.out]
     have e : marksOk (l.take k ++ [c]) ok = (marksOk (l.take k) ok && decide (c < 2)) := by simp [marksOk]
     rw [e]
     exact HR2.out
   case measure => simp [intOf]; omega
  ·
   obtain rfl : k = n := by omega
   go_wp2
   go_ret
   exact ⟨_, rfl, HI.out⟩
end Go.Proofs.Ytdcgclhmfflheaa.PQ
