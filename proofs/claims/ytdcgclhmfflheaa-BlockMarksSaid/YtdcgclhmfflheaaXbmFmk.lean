import Derived.Test.YtdcgclhmfflheaaXbmFdin
namespace Go.Proofs.Ytdcgclhmfflheaa.PQ
open Go.RowKit Go.Proofs.YtdcgclhmfflheaaW.PrintWords
set_option linter.unusedVariables false
set_option linter.unusedSimpArgs false
structure MkF (n B : Nat) (W0 w : World) (vK vS vU : Option Value) (g : Option Nat) : Prop where
  bel : Below W0.heap.size W0 w
  hB : B ≤ W0.heap.size
  K : ∀ v, vK = some v → Kd.R k56 56 w B (fun _ => True) v (List.replicate n z56)
  S : ∀ v, vS = some v → Kd.R Kd.bool 4 w B (fun _ => True) v (List.replicate n false)
  U : ∀ v, vU = some v → Kd.R Kd.bool 4 w B (fun _ => True) v (List.replicate n false)
  X : ∀ b, g = some b → B ≤ b ∧ w.heap[b]? = some (.cells #[.slice none 0 0, .slice none 0 0, .slice none 0 0, .slice none 0 0, .slice none 0 0] 27 (0, 0))
  SU : ∀ a b, vS = some a → vU = some b → ∀ k, a.ownBlock = some k → b.ownBlock ≠ some k
theorem MkF.none_ (n B : Nat) (w : World) (hB : B ≤ w.heap.size) : MkF n B w w none none none none :=
  ⟨Below.refl _ _, hB, fun _ h => (by cases h), fun _ h => (by cases h), fun _ h => (by cases h), fun _ h => (by cases h), fun _ _ h => (by cases h)⟩
theorem MkF.step {n B : Nat} {W0 w w1 : World} {vK vS vU : Option Value} {g : Option Nat} (h : MkF n B W0 w vK vS vU g) (hg : Below w.heap.size w w1) : MkF n B W0 w1 vK vS vU g :=
  ⟨h.bel.trans (hg.mono h.bel.size), h.hB, fun v hv => Kd.R_below (h.K v hv) hg, fun v hv => Kd.R_below (h.S v hv) hg, fun v hv => Kd.R_below (h.U v hv) hg,
    fun b hb => ⟨(h.X b hb).1, (hg.block b (Array.getElem?_eq_some_iff.1 (h.X b hb).2).1).trans (h.X b hb).2⟩, h.SU⟩
theorem MkF.addK {n B : Nat} {W0 w w1 : World} {vS vU : Option Value} {g : Option Nat} {v : Value} (h : MkF n B W0 w none vS vU g) (hg : Below w.heap.size w w1) (hR : Kd.R k56 56 w1 B (fun _ => True) v (List.replicate n z56)) : MkF n B W0 w1 (some v) vS vU g := by
  have h1 := h.step hg
  exact ⟨h1.bel, h1.hB, fun v' hv => (by injection hv with hv; subst hv; exact hR), h1.S, h1.U, h1.X, h1.SU⟩
theorem MkF.addS {n B : Nat} {W0 w w1 : World} {vK vU : Option Value} {g : Option Nat} {v : Value} (h : MkF n B W0 w vK none vU g) (hg : Below w.heap.size w w1) (hR : Kd.R Kd.bool 4 w1 B (fun _ => True) v (List.replicate n false)) (hn : ∃ b, v.ownBlock = some b ∧ w.heap.size ≤ b) : MkF n B W0 w1 vK (some v) vU g := by
  have h1 := h.step hg
  refine ⟨h1.bel, h1.hB, h1.K, fun v' hv => (by injection hv with hv; subst hv; exact hR), h1.U, h1.X, fun a b ha hb k hk he => ?_⟩
  injection ha with ha
  subst ha
  obtain ⟨b', hb', hle⟩ := hn
  rw [hb'] at hk
  injection hk with hk
  have := Kd.R_lt (h.U b hb) k he
  omega
theorem MkF.addU {n B : Nat} {W0 w w1 : World} {vK vS : Option Value} {g : Option Nat} {v : Value} (h : MkF n B W0 w vK vS none g) (hg : Below w.heap.size w w1) (hR : Kd.R Kd.bool 4 w1 B (fun _ => True) v (List.replicate n false)) (hn : ∃ b, v.ownBlock = some b ∧ w.heap.size ≤ b) : MkF n B W0 w1 vK vS (some v) g := by
  have h1 := h.step hg
  refine ⟨h1.bel, h1.hB, h1.K, h1.S, fun v' hv => (by injection hv with hv; subst hv; exact hR), h1.X, fun a b ha hb k hk he => ?_⟩
  injection hb with hb
  subst hb
  obtain ⟨b', hb', hle⟩ := hn
  rw [hb'] at he
  injection he with he
  have := Kd.R_lt (h.S a ha) k hk
  omega
theorem MkF.addX {n B : Nat} {W0 w : World} {vK vS vU : Option Value} (h : MkF n B W0 w vK vS vU none) :
    MkF n B W0 (w.alloc (.cells #[.slice none 0 0, .slice none 0 0, .slice none 0 0, .slice none 0 0, .slice none 0 0] 27)) vK vS vU (some w.heap.size) := by
  have h1 := h.step (below_alloc (Below.refl w.heap.size w) (.cells #[.slice none 0 0, .slice none 0 0, .slice none 0 0, .slice none 0 0, .slice none 0 0] 27))
  refine ⟨h1.bel, h1.hB, h1.K, h1.S, h1.U, fun b hb => ?_, h1.SU⟩
  injection hb with hb
  subst hb
  exact ⟨Nat.le_trans h.hB h.bel.size, blk_new w _⟩
structure MInv (n B : Nat) (w wr : World) (g0 : Nat) (vK vS vU : Value) (S U : List Bool) : Prop where
  bel : Below w.heap.size w wr
  hB : w.heap.size ≤ B
  X : wr.heap[g0]? = some (.cells #[vK, .slice none 0 0, .slice none 0 0, vS, vU] 27 (0, 0))
  gB : B ≤ g0
  K : Kd.R k56 56 wr B (fun _ => True) vK (List.replicate n z56)
  S : Kd.R Kd.bool 4 wr B (fun _ => True) vS S
  U : Kd.R Kd.bool 4 wr B (fun _ => True) vU U
  SU : ∀ k, vS.ownBlock = some k → vU.ownBlock ≠ some k
theorem R_set27 {α : Type} {d : Kd α} {e B : Nat} {w : World} {v : Value} {xs : List α} {g0 : Nat} {cs : Array Value} (h : d.R e w B (fun _ => True) v xs) (hE : d.E = []) (he : e ≠ 27) (hX : w.heap[g0]? = some (.cells cs 27 (0, 0))) (j : Nat) (u : Value) : d.R e (w.setCell ⟨g0, j, none⟩ u) B (fun _ => True) v xs :=
  R_ty h hE fun k cells _ _ _ hc => Below.heap_setCell w _ _ k (fun e' => by
    subst e'
    rw [hX] at hc
    injection hc with hc
    injection hc with _ hc
    exact he hc.symm)
theorem MkF.fin {n B : Nat} {w0 W0 w : World} {vK vS vU : Value} {g0 : Nat} (h : MkF n B W0 w (some vK) (some vS) (some vU) (some g0)) (hb : Below w0.heap.size w0 W0) (h0 : w0.heap.size ≤ B) :
    MInv n B w0 (((((w.setCell ⟨g0, 0, none⟩ vK).setCell ⟨g0, 1, none⟩ (.slice none 0 0)).setCell ⟨g0, 2, none⟩ (.slice none 0 0)).setCell ⟨g0, 3, none⟩ vS).setCell ⟨g0, 4, none⟩ vU) g0 vK vS vU (List.replicate n false) (List.replicate n false) := by
  obtain ⟨hg, hX⟩ := h.X _ rfl
  have h1 := blk_put hX 0 vK rfl
  have h2 := blk_put h1 1 (.slice none 0 0) rfl
  have h3 := blk_put h2 2 (.slice none 0 0) rfl
  have h4 := blk_put h3 3 vS rfl
  have h5 := blk_put h4 4 vU rfl
  have hge : w0.heap.size ≤ g0 := Nat.le_trans h0 hg
  refine ⟨(((((hb.trans (h.bel.mono hb.size)).setCell hge _).setCell hge _).setCell hge _).setCell hge _).setCell hge _, h0, h5, hg, ?_, ?_, ?_, h.SU _ _ rfl rfl⟩
  · exact R_set27 (R_set27 (R_set27 (R_set27 (R_set27 (h.K _ rfl) rfl (by decide) hX _ _) rfl (by decide) h1 _ _) rfl (by decide) h2 _ _) rfl (by decide) h3 _ _) rfl (by decide) h4 _ _
  · exact R_set27 (R_set27 (R_set27 (R_set27 (R_set27 (h.S _ rfl) rfl (by decide) hX _ _) rfl (by decide) h1 _ _) rfl (by decide) h2 _ _) rfl (by decide) h3 _ _) rfl (by decide) h4 _ _
  · exact R_set27 (R_set27 (R_set27 (R_set27 (R_set27 (h.U _ rfl) rfl (by decide) hX _ _) rfl (by decide) h1 _ _) rfl (by decide) h2 _ _) rfl (by decide) h3 _ _) rfl (by decide) h4 _ _
theorem MInv.below {n B : Nat} {w wr w1 : World} {g0 : Nat} {vK vS vU : Value} {S U : List Bool} (h : MInv n B w wr g0 vK vS vU S U) (hb : Below wr.heap.size wr w1) : MInv n B w w1 g0 vK vS vU S U :=
  ⟨h.bel.trans (hb.mono h.bel.size), h.hB, (hb.block g0 (Array.getElem?_eq_some_iff.1 h.X).1).trans h.X, h.gB, Kd.R_below h.K hb, Kd.R_below h.S hb, Kd.R_below h.U hb, h.SU⟩
theorem MInv.xc {n B : Nat} {w wr : World} {g0 : Nat} {vK vS vU : Value} {S U : List Bool} (h : MInv n B w wr g0 vK vS vU S U) (j : Nat) : wr.cell? ⟨g0, j, none⟩ = (#[vK, .slice none 0 0, .slice none 0 0, vS, vU] : Array Value)[j]? := blk_cell h.X j
theorem own_ok {α : Type} {enc : α → Value} {h1 : ∀ x : α, (enc x).oneCell' = true} {e B : Nat} {w : World} {ok : Nat → Prop} {v : Value} {xs : List α} (h : (Kd.scalar enc h1).R e w B ok v xs) : (Kd.scalar enc h1).R e w B (fun k => v.ownBlock = some k) v xs := by
  have ho := Kd.own_of_R h
  exact Kd.R_of_own ho (fun k hk => hk)
theorem MInv.setS {n B : Nat} {w wr : World} {g0 gs m c : Nat} {vK vU : Value} {S U : List Bool} (h : MInv n B w wr g0 vK (.slice (some ⟨gs, 0, none⟩) m c) vU S U) (i : Nat) (x : Bool) :
    MInv n B w (wr.setCell ⟨gs, i, none⟩ (.bool x)) g0 vK (.slice (some ⟨gs, 0, none⟩) m c) vU (S.set i x) U := by
  have hgs := Kd.R_base h.S gs (by simp [Value.ownBlock])
  obtain ⟨cs, hcs⟩ := Kd.R_typed h.S gs (by simp [Value.ownBlock])
  have hs : ∀ k, k ≠ gs → (wr.setCell ⟨gs, i, none⟩ (.bool x)).heap[k]? = wr.heap[k]? := fun k hk => Below.heap_setCell wr _ _ k hk
  have hty : ∀ k cells t, t ≠ 4 → wr.heap[k]? = some (.cells cells t (0, 0)) → k ≠ gs := by
    rintro k cells t ht hc rfl
    rw [hcs] at hc
    injection hc with hc
    injection hc with _ hc
    exact ht hc.symm
  have hp := Kd.R_putn h.S (i : Int) x
  rw [Int.toNat_natCast] at hp
  refine ⟨h.bel.setCell (Nat.le_trans h.hB hgs) _, h.hB, (hs g0 (hty g0 _ 27 (by decide) h.X)).trans h.X, h.gB, R_ty h.K rfl (fun k cells _ _ _ hc => hs k (hty k cells 56 (by decide) hc)), hp, ?_, h.SU⟩
  refine Kd.R_mono (Kd.R_step (Kd.R_mono (own_ok h.U) (ok' := fun k => k ≠ gs) (fun k hk he => ?_)) (fun k hk _ => hs k hk)) (fun _ _ => trivial)
  exact h.SU gs (by simp [Value.ownBlock]) (by rw [hk, he])
theorem MInv.setU {n B : Nat} {w wr : World} {g0 gu m c : Nat} {vK vS : Value} {S U : List Bool} (h : MInv n B w wr g0 vK vS (.slice (some ⟨gu, 0, none⟩) m c) S U) (i : Nat) (x : Bool) :
    MInv n B w (wr.setCell ⟨gu, i, none⟩ (.bool x)) g0 vK vS (.slice (some ⟨gu, 0, none⟩) m c) S (U.set i x) := by
  have hgs := Kd.R_base h.U gu (by simp [Value.ownBlock])
  obtain ⟨cs, hcs⟩ := Kd.R_typed h.U gu (by simp [Value.ownBlock])
  have hs : ∀ k, k ≠ gu → (wr.setCell ⟨gu, i, none⟩ (.bool x)).heap[k]? = wr.heap[k]? := fun k hk => Below.heap_setCell wr _ _ k hk
  have hty : ∀ k cells t, t ≠ 4 → wr.heap[k]? = some (.cells cells t (0, 0)) → k ≠ gu := by
    rintro k cells t ht hc rfl
    rw [hcs] at hc
    injection hc with hc
    injection hc with _ hc
    exact ht hc.symm
  have hp := Kd.R_putn h.U (i : Int) x
  rw [Int.toNat_natCast] at hp
  refine ⟨h.bel.setCell (Nat.le_trans h.hB hgs) _, h.hB, (hs g0 (hty g0 _ 27 (by decide) h.X)).trans h.X, h.gB, R_ty h.K rfl (fun k cells _ _ _ hc => hs k (hty k cells 56 (by decide) hc)), ?_, hp, h.SU⟩
  refine Kd.R_mono (Kd.R_step (Kd.R_mono (own_ok h.S) (ok' := fun k => k ≠ gu) (fun k hk he => ?_)) (fun k hk _ => hs k hk)) (fun _ _ => trivial)
  exact h.SU k hk (by rw [he]; simp [Value.ownBlock])
theorem bool_cell {B gb n c : Nat} {w : World} {ok : Nat → Prop} {xs : List Bool} (h : Kd.R Kd.bool 4 w B ok (.slice (some ⟨gb, 0, none⟩) n c) xs) (i : Nat) (hi : i < n) :
    w.cell? ⟨gb, i, none⟩ = some (.bool (xs.getD i false)) ∧ w.frozen? ⟨gb, i, none⟩ = false := by
  obtain ⟨cs, h1, h2, h3, h4⟩ := Kd.R_elem h false (i : Int) (by omega) (by omega)
  rw [Int.toNat_natCast] at h2 h3 h4
  have h5 := h3 0 (.bool (xs.getD i false)) (by rw [show cs = [Value.bool (xs.getD i false)] from h2]; rfl)
  have h6 := h4 0
  rw [show Kd.bool.sz = 1 from rfl, Nat.mul_one, Nat.add_zero] at h5 h6
  exact ⟨h5, h6⟩
theorem bool_read {w : World} {A : Option Addr} {xs : List Bool} (h : Kd.C Kd.bool w A xs.length xs) (i : Nat) (hi : i < xs.length) : ∃ ad, A = some ad ∧ w.cell? (ad.add i) = some (.bool (xs.getD i false)) := by
  obtain ⟨ad, rfl, hx⟩ := (Kd.reads_of_C (enc := Value.bool) (h1 := fun _ => rfl) (d := false) h).2.2 (by omega)
  exact ⟨ad, rfl, hx i hi⟩
end Go.Proofs.Ytdcgclhmfflheaa.PQ
