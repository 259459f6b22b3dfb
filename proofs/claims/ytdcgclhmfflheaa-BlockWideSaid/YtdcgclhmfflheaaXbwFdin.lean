import Derived.Test.YtdcgclhmfflheaaXbwFdec
namespace Go.Proofs.Ytdcgclhmfflheaa.PQ
open Go.RowKit Go.Proofs.YtdcgclhmfflheaaW.PrintWords Go.Proofs.YtdcgclhmfflheaaW.PrintLast Go.Proofs.YtdcgclhmfflheaaW.PrintMore
set_option linter.unusedVariables false
set_option linter.unusedSimpArgs false
theorem R_ty {α : Type} {d : Kd α} {e B : Nat} {w w1 : World} {ok : Nat → Prop} {v : Value} {xs : List α} (h : d.R e w B ok v xs) (hE : d.E = [])
  (hm : ∀ k cells, ok k → B ≤ k → k < w.heap.size → w.heap[k]? = some (.cells cells e (0, 0)) → w1.heap[k]? = w.heap[k]?) : d.R e w1 B ok v xs := by
 refine Kd.R_mono (Kd.R_move (Kd.R_bound h) (fun k hk => ?_)) (fun _ hk => hk.1)
 obtain ⟨h1, h2, h3, q, hq, cells, hc⟩ := hk
 rw [hE] at hq
 simp at hq
 subst hq
 exact hm k cells h1 h2 h3 hc
structure DFix (w : World) (gh gx g B2 : Nat) : Prop where
 h0 : w.heap.size ≤ gh
 x0 : w.heap.size ≤ gx
 r0 : w.heap.size ≤ g
 h1 : gh < B2
 x1 : gx < B2
 r1 : g < B2
 hx : gh ≠ gx
 hr : gh ≠ g
 xr : gx ≠ g
structure DRow (wr : World) (B2 : Nat) (vK vJ vL vS vU vA : Value) (K : List S56) (J : List S54) (L : List S87) (S U : List Bool) (A : List Int) : Prop where
 rK : Kd.R k56 56 wr B2 (fun _ => True) vK K
 rJ : Kd.R k54 54 wr B2 (fun _ => True) vJ J
 rL : Kd.R k87 87 wr B2 (fun _ => True) vL L
 rS : Kd.R Kd.bool 4 wr B2 (fun k_ => some k_ ≠ vU.ownBlock) vS S
 rU : Kd.R Kd.bool 4 wr B2 (fun k_ => some k_ ≠ vS.ownBlock) vU U
 rA : Kd.R (Kd.int .i64) 3 wr B2 (fun _ => True) vA A
structure DInv (w wr : World) (gh gx g B2 : Nat) (hd cx : Array Value) (vK vJ vL vS vU vA : Value) (K : List S56) (J : List S54) (L : List S87) (S U : List Bool) (A : List Int) (l : List Int) (ok : Bool) : Prop where
 hh : wr.heap[gh]? = some (.cells hd 35 (0, 0))
 hx : wr.heap[gx]? = some (.cells cx 27 (0, 0))
 rd : RdAt w g l ok wr
 row : DRow wr B2 vK vJ vL vS vU vA K J L S U A
 hB : B2 ≤ wr.heap.size
 bel : Below w.heap.size w wr
section
variable {w wr w1 : World} {gh gx g B2 : Nat} {hd cx : Array Value} {vK vJ vL vS vU vA : Value} {K : List S56} {J : List S54} {L : List S87} {S U : List Bool} {A l l' : List Int} {ok ok' : Bool}
theorem DRow.step (h : DRow wr B2 vK vJ vL vS vU vA K J L S U A) (hk : ∀ k, B2 ≤ k → k < wr.heap.size → w1.heap[k]? = wr.heap[k]?) : DRow w1 B2 vK vJ vL vS vU vA K J L S U A :=
 ⟨R_ty h.rK rfl fun k _ _ h1 h2 _ => hk k h1 h2, R_ty h.rJ rfl fun k _ _ h1 h2 _ => hk k h1 h2, R_ty h.rL rfl fun k _ _ h1 h2 _ => hk k h1 h2, R_ty h.rS rfl fun k _ _ h1 h2 _ => hk k h1 h2, R_ty h.rU rfl fun k _ _ h1 h2 _ => hk k h1 h2, R_ty h.rA rfl fun k _ _ h1 h2 _ => hk k h1 h2⟩
theorem DInv.step (h : DInv w wr gh gx g B2 hd cx vK vJ vL vS vU vA K J L S U A l ok) (F : DFix w gh gx g B2) (hk : ∀ k, k ≠ g → k < wr.heap.size → w1.heap[k]? = wr.heap[k]?) (hs : wr.heap.size ≤ w1.heap.size)
  (hrd : RdAt w g l' ok' w1) (hb : Below w.heap.size w w1) : DInv w w1 gh gx g B2 hd cx vK vJ vL vS vU vA K J L S U A l' ok' := by
 have hB := h.hB
 have hF := F
 refine ⟨(hk gh F.hr (by have := F.h1; omega)).trans h.hh, (hk gx F.xr (by have := F.x1; omega)).trans h.hx, hrd, h.row.step (fun k h1 h2 => hk k (by have := F.r1; omega) h2), by omega, hb⟩
theorem DInv.only (h : DInv w wr gh gx g B2 hd cx vK vJ vL vS vU vA K J L S U A l ok) (F : DFix w gh gx g B2) (ho : Only g wr w1) (hrd : RdAt w g l' ok' w1) : DInv w w1 gh gx g B2 hd cx vK vJ vL vS vU vA K J L S U A l' ok' :=
 h.step F (fun k hk _ => ho.far k hk) (Nat.le_of_eq ho.size.symm) hrd (h.bel.trans (ho.bel.mono F.r0))
theorem DInv.grew (h : DInv w wr gh gx g B2 hd cx vK vJ vL vS vU vA K J L S U A l ok) (F : DFix w gh gx g B2) (ho : Grew g wr w1) (hrd : RdAt w g l' ok' w1) : DInv w w1 gh gx g B2 hd cx vK vJ vL vS vU vA K J L S U A l' ok' :=
 h.step F (fun k hk hlt => ho.keep.2 k hlt hk (by simp)) ho.keep.1 hrd (h.bel.trans (ho.bel.mono F.r0))
theorem DInv.below (h : DInv w wr gh gx g B2 hd cx vK vJ vL vS vU vA K J L S U A l ok) (F : DFix w gh gx g B2) (hb : Below wr.heap.size wr w1) : DInv w w1 gh gx g B2 hd cx vK vJ vL vS vU vA K J L S U A l ok :=
 h.step F (fun k _ hlt => hb.block k hlt) hb.size (h.rd.move (hb.block g h.rd.lt)) (h.bel.trans (hb.mono h.bel.size))
theorem DInv.drew (h : DInv w wr gh gx g B2 hd cx vK vJ vL vS vU vA K J L S U A l ok) (F : DFix w gh gx g B2) : DInv w wr.drew gh gx g B2 hd cx vK vJ vL vS vU vA K J L S U A l ok := h.below F ((Below.refl _ _).drew)
theorem DInv.setx (h : DInv w wr gh gx g B2 hd cx vK vJ vL vS vU vA K J L S U A l ok) (F : DFix w gh gx g B2) (j : Nat) (u : Value) (hj : j < cx.size) : DInv w (wr.setCell ⟨gx, j, none⟩ u) gh gx g B2 hd (cx.setIfInBounds j u) vK vJ vL vS vU vA K J L S U A l ok := by
 have hs : ∀ i, i ≠ gx → (wr.setCell ⟨gx, j, none⟩ u).heap[i]? = wr.heap[i]? := fun i hi => Below.heap_setCell wr _ _ i hi
 exact ⟨(hs gh F.hx).trans h.hh, blk_put h.hx j u rfl, h.rd.move (hs g (Ne.symm F.xr)), h.row.step (fun k h1 _ => hs k (by have := F.x1; omega)), by simpa using h.hB, h.bel.setCell F.x0 _⟩
theorem DInv.setr (h : DInv w wr gh gx g B2 hd cx vK vJ vL vS vU vA K J L S U A l ok) (F : DFix w gh gx g B2) (b : Bool) : DInv w (wr.setCell ⟨g, 1, none⟩ (.bool b)) gh gx g B2 hd cx vK vJ vL vS vU vA K J L S U A l b := by
 obtain ⟨A', c, hg, hC, hc⟩ := h.rd
 refine h.only F (Only.set g wr 1 (.bool b)) ⟨A', c, blk_put hg 1 _ rfl, hC, hc⟩
structure DGrow (wr w1 : World) (B2 e0 : Nat) : Prop where
 keep : ∀ k, k < wr.heap.size → (k < B2 ∨ ∃ cells t, wr.heap[k]? = some (.cells cells t (0, 0)) ∧ t ≠ e0) → w1.heap[k]? = wr.heap[k]?
 size : wr.heap.size ≤ w1.heap.size
theorem DGrow.of {α : Type} {d : Kd α} {e0 : Nat} {v : Value} {xs : List α} {wm : World} {okp : Nat → Prop} (hr : d.R e0 wm B2 okp v xs) (hg : wm.grownBy w1 v.ownBlock) (hm : Below wr.heap.size wr wm) : DGrow wr w1 B2 e0 := by
 refine ⟨fun k hk h => ?_, Nat.le_trans hm.size hg.size⟩
 have hkm := hm.block k hk
 refine (hg.block k (Nat.lt_of_lt_of_le hk hm.size) (fun he => ?_)).trans hkm
 rcases h with h | ⟨cells, t, hc, ht⟩
 ·
  have := Kd.R_base hr k he.symm
  omega
 ·
  obtain ⟨cells', hc'⟩ := Kd.R_typed hr k he.symm
  rw [hkm, hc] at hc'
  injection hc' with hc'
  injection hc' with _ hc'
  exact ht hc'
theorem DInv.grow {e0 : Nat} (h : DInv w wr gh gx g B2 hd cx vK vJ vL vS vU vA K J L S U A l ok) (F : DFix w gh gx g B2) (hg : DGrow wr w1 B2 e0) (hb : Below w.heap.size w w1) {vK1 vJ1 vL1 vA1 : Value} {K1 : List S56} {J1 : List S54} {L1 : List S87} {A1 : List Int}
  (h4 : e0 ≠ 4) (hK : (e0 ≠ 56 ∧ vK1 = vK ∧ K1 = K) ∨ Kd.R k56 56 w1 B2 (fun _ => True) vK1 K1) (hJ : (e0 ≠ 54 ∧ vJ1 = vJ ∧ J1 = J) ∨ Kd.R k54 54 w1 B2 (fun _ => True) vJ1 J1)
  (hL : (e0 ≠ 87 ∧ vL1 = vL ∧ L1 = L) ∨ Kd.R k87 87 w1 B2 (fun _ => True) vL1 L1) (hA : (e0 ≠ 3 ∧ vA1 = vA ∧ A1 = A) ∨ Kd.R (Kd.int .i64) 3 w1 B2 (fun _ => True) vA1 A1) :
  DInv w w1 gh gx g B2 hd cx vK1 vJ1 vL1 vS vU vA1 K1 J1 L1 S U A1 l ok := by
 have hB := h.hB
 have hlow : ∀ k, k < B2 → w1.heap[k]? = wr.heap[k]? := fun k hk => hg.keep k (by omega) (.inl hk)
 have hty : ∀ {e : Nat}, e0 ≠ e → ∀ k cells, k < wr.heap.size → wr.heap[k]? = some (.cells cells e (0, 0)) → w1.heap[k]? = wr.heap[k]? := fun he k cells hk hc => hg.keep k hk (.inr ⟨cells, _, hc, Ne.symm he⟩)
 refine ⟨(hlow gh F.h1).trans h.hh, (hlow gx F.x1).trans h.hx, h.rd.move (hlow g F.r1), ⟨?_, ?_, ?_, ?_, ?_, ?_⟩, Nat.le_trans hB hg.size, hb⟩
 ·
  rcases hK with ⟨he, rfl, rfl⟩ | hK
  ·
   exact R_ty h.row.rK rfl (fun k c _ _ h2 h3 => hty he k c h2 h3)
  ·
   exact hK
 ·
  rcases hJ with ⟨he, rfl, rfl⟩ | hJ
  ·
   exact R_ty h.row.rJ rfl (fun k c _ _ h2 h3 => hty he k c h2 h3)
  ·
   exact hJ
 ·
  rcases hL with ⟨he, rfl, rfl⟩ | hL
  ·
   exact R_ty h.row.rL rfl (fun k c _ _ h2 h3 => hty he k c h2 h3)
  ·
   exact hL
 ·
  exact R_ty h.row.rS rfl (fun k c _ _ h2 h3 => hty h4 k c h2 h3)
 ·
  exact R_ty h.row.rU rfl (fun k c _ _ h2 h3 => hty h4 k c h2 h3)
 ·
  rcases hA with ⟨he, rfl, rfl⟩ | hA
  ·
   exact R_ty h.row.rA rfl (fun k c _ _ h2 h3 => hty he k c h2 h3)
  ·
   exact hA
theorem DInv.xc (h : DInv w wr gh gx g B2 hd cx vK vJ vL vS vU vA K J L S U A l ok) (j : Nat) : wr.cell? ⟨gx, j, none⟩ = cx[j]? := blk_cell h.hx j
theorem DInv.xf (h : DInv w wr gh gx g B2 hd cx vK vJ vL vS vU vA K J L S U A l ok) (j : Nat) : wr.frozen? ⟨gx, j, none⟩ = false := blk_frozen h.hx j
theorem DInv.hc (h : DInv w wr gh gx g B2 hd cx vK vJ vL vS vU vA K J L S U A l ok) (j : Nat) : wr.cell? ⟨gh, j, none⟩ = hd[j]? := blk_cell h.hh j
theorem DInv.box (h : DInv w wr gh gx g B2 hd cx vK vJ vL vS vU vA K J L S U A l ok) (F : DFix w gh gx g B2) (o : Obj) : DInv w (wr.alloc o) gh gx g B2 hd cx vK vJ vL vS vU vA K J L S U A l ok := h.below F (below_alloc (Below.refl _ _) _)
theorem DInv.bd (h : DInv w wr gh gx g B2 hd cx vK vJ vL vS vU vA K J L S U A l ok) (F : DFix w gh gx g B2) (hb : Below B2 wr w1) : Below w.heap.size w w1 := h.bel.trans (hb.mono (Nat.le_trans F.h0 (Nat.le_of_lt F.h1)))
theorem R_open {α : Type} {d : Kd α} {e B : Nat} {w : World} {ok : Nat → Prop} {v : Value} {xs : List α} (h : d.R e w B ok v xs) (hs : 0 < d.sz) (hn : 0 < xs.length) : ∃ gb c, v = .slice (some ⟨gb, 0, none⟩) xs.length c := by
 obtain ⟨inner, ho⟩ := Kd.R_own h
 have hsl := (Kd.R_reads h)
 rcases ho.2 with ⟨rfl, h2⟩ | ⟨gb, cap, cur, rfl, _⟩
 ·
  obtain ⟨A, c, he, _⟩ := hsl
  injection he with h1 h2 h3
  omega
 ·
  exact ⟨gb, cap, rfl⟩
theorem DInv.jcell {gb n c : Nat} (h : DInv w wr gh gx g B2 hd cx vK (.slice (some ⟨gb, 0, none⟩) n c) vL vS vU vA K J L S U A l ok) (i : Nat) (hi : i < n) :
  wr.cell? ⟨gb, i * 2 + 1, none⟩ = some (.int .i64 (J.getD i z54).f1) ∧ wr.frozen? ⟨gb, i * 2 + 1, none⟩ = false := by
 obtain ⟨cs, h1, h2, h3, h4⟩ := Kd.R_elem h.row.rJ z54 (i : Int) (by omega) (by omega)
 rw [Int.toNat_natCast] at h2 h3 h4
 obtain rfl := k54_openM h2
 exact ⟨h3 1 _ rfl, h4 1⟩
theorem DInv.jset {gb n c : Nat} (h : DInv w wr gh gx g B2 hd cx vK (.slice (some ⟨gb, 0, none⟩) n c) vL vS vU vA K J L S U A l ok) (F : DFix w gh gx g B2) (i : Nat) (hi : i < n) (x : Int) :
  DInv w (wr.setCell ⟨gb, i * 2 + 1, none⟩ (.int .i64 x)) gh gx g B2 hd cx vK (.slice (some ⟨gb, 0, none⟩) n c) vL vS vU vA K (J.set i ⟨(J.getD i z54).f0, x⟩) L S U A l ok := by
 obtain ⟨cs, h1, h2, h3, h4⟩ := Kd.R_elem h.row.rJ z54 (i : Int) (by omega) (by omega)
 have ho := k54_openM h2
 obtain ⟨h5, h6⟩ := Kd.R_seg (okp := fun _ => False) h.row.rJ (i : Int) (by omega) (by omega) (c := cs) (seg := [.int .i64 x]) (j := 1) h1 h3 (Nat.le_refl _) (x' := ⟨(J.getD i z54).f0, x⟩)
  (by subst ho; exact k54_mkM _ _ _ _) (fun _ hk => hk.elim)
 rw [Int.toNat_natCast] at h5 h6
 have h7 := Kd.R_base h.row.rJ gb (by simp [Value.ownBlock])
 have hb : Below B2 wr (wr.setCell ⟨gb, i * 2 + 1, none⟩ (.int .i64 x)) := (Below.refl _ _).setCell h7 _
 exact h.grow F (e0 := 54) (DGrow.of h.row.rJ (by rw [show ((Value.slice (some ⟨gb, 0, none⟩) n c).ownBlock) = some gb by simp [Value.ownBlock]]; exact h6) (Below.refl _ _)) (h.bd F hb) (by decide) (.inl ⟨by decide, rfl, rfl⟩) (.inr h5) (.inl ⟨by decide, rfl, rfl⟩) (.inl ⟨by decide, rfl, rfl⟩)
theorem DInv.acell {gb n c : Nat} (h : DInv w wr gh gx g B2 hd cx vK vJ vL vS vU (.slice (some ⟨gb, 0, none⟩) n c) K J L S U A l ok) (i : Nat) (hi : i < n) :
  wr.cell? ⟨gb, i, none⟩ = some (.int .i64 (A.getD i 0)) := by
 obtain ⟨cs, h1, h2, h3, h4⟩ := Kd.R_elem h.row.rA (0 : Int) (i : Int) (by omega) (by omega)
 rw [Int.toNat_natCast] at h2 h3
 have h5 := h3 0 (.int .i64 (A.getD i 0)) (by rw [show cs = [Value.int .i64 (A.getD i 0)] from h2]; rfl)
 rw [show (Kd.int IntKind.i64).sz = 1 from rfl, Nat.mul_one, Nat.add_zero] at h5
 exact h5
theorem dName_f (nm : List Int) (a : Int) : octets_Name.f nm a = some ((dName nm a).1, (dName nm a).2) := by
 have : (octets_Name.f nm a).isSome = true := by unfold octets_Name.f; split <;> (try split) <;> rfl
 unfold dName
 obtain ⟨v, hv⟩ := Option.isSome_iff_exists.1 this
 rw [hv]; rfl
theorem DInv.kcell {gb n c : Nat} (h : DInv w wr gh gx g B2 hd cx (.slice (some ⟨gb, 0, none⟩) n c) vJ vL vS vU vA K J L S U A l ok) (i : Nat) (hi : i < n) :
  wr.cell? ⟨gb, i * 3 + 2, none⟩ = some (.string (K.getD i z56).f2) ∧ wr.frozen? ⟨gb, i * 3 + 2, none⟩ = false := by
 obtain ⟨cs, h1, h2, h3, h4⟩ := Kd.R_elem h.row.rK z56 (i : Int) (by omega) (by omega)
 rw [Int.toNat_natCast] at h2 h3 h4
 obtain rfl := k56_openM h2
 exact ⟨h3 2 _ rfl, h4 2⟩
theorem DInv.kset {gb n c : Nat} (h : DInv w wr gh gx g B2 hd cx (.slice (some ⟨gb, 0, none⟩) n c) vJ vL vS vU vA K J L S U A l ok) (F : DFix w gh gx g B2) (i : Nat) (hi : i < n) (x : ByteArray) :
  DInv w (wr.setCell ⟨gb, i * 3 + 2, none⟩ (.string x)) gh gx g B2 hd cx (.slice (some ⟨gb, 0, none⟩) n c) vJ vL vS vU vA (K.set i ⟨(K.getD i z56).f0, (K.getD i z56).f1, x⟩) J L S U A l ok := by
 obtain ⟨cs, h1, h2, h3, h4⟩ := Kd.R_elem h.row.rK z56 (i : Int) (by omega) (by omega)
 have ho := k56_openM h2
 obtain ⟨h5, h6⟩ := Kd.R_seg (okp := fun _ => False) h.row.rK (i : Int) (by omega) (by omega) (c := cs) (seg := [.string x]) (j := 2) h1 h3 (Nat.le_refl _) (x' := ⟨(K.getD i z56).f0, (K.getD i z56).f1, x⟩)
  (by subst ho; exact k56_mkM _ _ _ _) (fun _ hk => hk.elim)
 rw [Int.toNat_natCast] at h5 h6
 have h7 := Kd.R_base h.row.rK gb (by simp [Value.ownBlock])
 have hb : Below B2 wr (wr.setCell ⟨gb, i * 3 + 2, none⟩ (.string x)) := (Below.refl _ _).setCell h7 _
 exact h.grow F (e0 := 56) (DGrow.of h.row.rK (by rw [show ((Value.slice (some ⟨gb, 0, none⟩) n c).ownBlock) = some gb by simp [Value.ownBlock]]; exact h6) (Below.refl _ _)) (h.bd F hb) (by decide) (.inr h5) (.inl ⟨by decide, rfl, rfl⟩) (.inl ⟨by decide, rfl, rfl⟩) (.inl ⟨by decide, rfl, rfl⟩)
theorem DInv.marksS (h : DInv w wr gh gx g B2 hd cx vK vJ vL (.slice none 0 0) (.slice none 0 0) vA K J L [] [] A l ok) (F : DFix w gh gx g B2) {v : Value} {S1 : List Bool} (ho : Grew g wr w1) (hrd : RdAt w g l' ok' w1) (hS : Kd.R Kd.bool 4 w1 wr.heap.size (fun _ => True) v S1) :
  DInv w w1 gh gx g B2 hd cx vK vJ vL v (.slice none 0 0) vA K J L S1 [] A l' ok' := by
 have h1 := h.grew F ho hrd
 refine ⟨h1.hh, h1.hx, h1.rd, ⟨h1.row.rK, h1.row.rJ, h1.row.rL, ?_, Kd.R_nil _ _ _ _ _, h1.row.rA⟩, h1.hB, h1.bel⟩
 exact Kd.R_mono (Kd.R_lower hS h.hB) (fun k _ => by simp [Value.ownBlock])
theorem DInv.marksU (h : DInv w wr gh gx g B2 hd cx vK vJ vL vS (.slice none 0 0) vA K J L S [] A l ok) (F : DFix w gh gx g B2) {v : Value} {U1 : List Bool} (ho : Grew g wr w1) (hrd : RdAt w g l' ok' w1) (hU : Kd.R Kd.bool 4 w1 wr.heap.size (fun _ => True) v U1) :
  DInv w w1 gh gx g B2 hd cx vK vJ vL vS v vA K J L S U1 A l' ok' := by
 have h1 := h.grew F ho hrd
 refine ⟨h1.hh, h1.hx, h1.rd, ⟨h1.row.rK, h1.row.rJ, h1.row.rL, ?_, ?_, h1.row.rA⟩, h1.hB, h1.bel⟩
 ·
  have hb := Kd.R_base hU
  refine Kd.R_mono (Kd.R_move (Kd.R_bound h.row.rS) (fun k hk => ho.keep.2 k hk.2.2.1 (by have := F.r1; have := hk.2.1; omega) (by simp))) (fun k hk he => ?_)
  have := hb k he.symm
  have := hk.2.2.1
  omega
 ·
  refine Kd.R_lower (Kd.R_mono (Kd.R_bound hU) (fun k hk he => ?_)) h.hB
  have := Kd.R_lt h.row.rS k he.symm
  have := hk.2.1
  omega
end
def BytePost (w0 : World) (g : Nat) (ad : Addr) (cc : Nat) (l : List Int) (ok : Bool) (w : World) (e : Ending) (w' : World) : Prop :=
 e = .returned (.slice (some ad) 1 cc) ∧ RdAt w0 g l ok w' ∧ Only g w w'
theorem rd_byte (w0 : World) (g : Nat) (c : Int) (l : List Int) (ok : Bool) (w : World) (h : RdAt w0 g (c :: l) ok w) :
  ∃ ad cc, 1 ≤ cc ∧ w0.cell? ad = some (.int .u8 c) ∧ Calls Try.prog 54 #[.pointer (some ⟨g, 0, none⟩), .int .i64 1] w (BytePost w0 g ad cc l ok w) := by
 obtain ⟨A, cc, hg, hC, hc⟩ := h
 obtain ⟨ad, rfl, hx⟩ := (Kd.reads_of_C (enc := Value.int .u8) (h1 := fun _ => rfl) (d := (0 : Int)) hC).2.2 (by simp)
 have hx0 := hx 0 (by simp)
 simp only [List.getD_cons_zero] at hx0
 rw [Addr.add_zero'] at hx0
 refine ⟨ad, cc, by simp at hc; omega, hx0, (rd_take_at w0 g (some ad) cc (c :: l) ok 1 w hg hC hc (by omega) (by simp; omega)).mono ?_⟩
 rintro e w1 ⟨rfl, h3, h4, h5, h6⟩
 exact ⟨rfl, h5, h6⟩
theorem numF_ok {l : List Int} {sz : Nat} (hs : sz = 4 ∨ sz = 8) (hl : l.length = sz) (hb : bytesOk l) : numF l (sz : Int) = some (numI l) := by
 have e : numF l (sz : Int) = some ((numF l (sz : Int)).getD 0) := by
  unfold numF octets_Int.f octets_Uint.f
  have h1 : (1 : Int) ≤ (sz : Int) ∧ (sz : Int) ≤ 8 ∧ (0 : Int) ≤ 0 ∧ (0 : Int) ≤ (l.length : Int) - (sz : Int) := by omega
  rw [if_pos h1]
  have h2 : bytesOk ((l.take (0 + (sz : Int)).toNat).drop (0 : Int).toNat) := fun x hx => hb x (List.mem_of_mem_take (List.mem_of_mem_drop hx))
  rw [if_pos h2]
  rcases hs with rfl | rfl <;> simp [wrap64]
 rw [e]
 unfold numI
 rw [hl]
end Go.Proofs.Ytdcgclhmfflheaa.PQ
