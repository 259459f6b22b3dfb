import Derived.Test.YtdcgclhmfflheaaXbwFdin
namespace Go.Proofs.Ytdcgclhmfflheaa.PQ
open Go.RowKit Go.Proofs.YtdcgclhmfflheaaW.PrintWords Go.Proofs.YtdcgclhmfflheaaW.PrintLast
set_option linter.unusedVariables false
set_option linter.unusedSimpArgs false
def T_ : Nat → Prop := fun _ => True
def Ch {α : Type} (d : Kd α) (e B : Nat) (w : World) (x y : Bool) (vl va : Value) (xs : List α) : Prop :=
 (x = true → y = false → d.R e w B (fun _ => True) vl []) ∧ (y = true → d.R e w B (fun _ => True) va xs)
def cur (y : Bool) (vl va : Value) : Value := if y = true then va else vl
section
variable {α : Type} {d : Kd α} {e e' B : Nat} {w w1 : World} {x y : Bool} {vl va v : Value} {xs : List α} {row : Option Nat}
theorem Ch.below (h : Ch d e B w x y vl va xs) (hb : Below w.heap.size w w1) : Ch d e B w1 x y vl va xs := ⟨fun a b => Kd.R_below (h.1 a b) hb, fun a => Kd.R_below (h.2 a) hb⟩
theorem Ch.over (h : Ch d e B w x y vl va xs) (hty : ∀ k, v.ownBlock = some k → ∃ cells, w.heap[k]? = some (.cells cells e' (0, 0))) (ht : ∀ q, q ∈ e :: d.E → q ≠ e') (hg : w.grownBy w1 v.ownBlock) : Ch d e B w1 x y vl va xs :=
 ⟨fun a b => Kd.R_over' (h.1 a b) hty ht hg, fun a => Kd.R_over' (h.2 a) hty ht hg⟩
end
theorem own_ok' {α : Type} {enc : α → Value} {h1 : ∀ x : α, (enc x).oneCell' = true} {e B : Nat} {w : World} {ok : Nat → Prop} {v : Value} {xs : List α} (h : (Kd.scalar enc h1).R e w B ok v xs) : (Kd.scalar enc h1).R e w B (fun k => v.ownBlock = some k) v xs :=
 Kd.R_of_own (Kd.own_of_R h) (fun k hk => hk)
theorem Kd.R_row {α : Type} {enc : α → Value} {h1 : ∀ x : α, (enc x).oneCell' = true} {e B : Nat} {w w1 : World} {ok : Nat → Prop} {v : Value} {xs : List α} {row : Option Nat} (h : (Kd.scalar enc h1).R e w B ok v xs) (hr : ∀ k, v.ownBlock = some k → some k ≠ row) (hg : w.grownBy w1 row) : (Kd.scalar enc h1).R e w1 B (fun _ => True) v xs :=
 Kd.R_mono (Kd.R_move (Kd.R_bound (own_ok' h)) (fun k hk => hg.block k hk.2.2.1 (hr k hk.1))) (fun _ _ => trivial)
theorem Ch.row {e B : Nat} {w w1 : World} {x y : Bool} {vl va : Value} {xs : List Bool} {row : Option Nat} (h : Ch Kd.bool e B w x y vl va xs) (hr : x = true → ∀ k, (cur y vl va).ownBlock = some k → some k ≠ row) (hxy : y = true → x = true) (hg : w.grownBy w1 row) : Ch Kd.bool e B w1 x y vl va xs := by
 refine ⟨fun a b => Kd.R_row (h.1 a b) (fun k hk => hr a k ?_) hg, fun a => Kd.R_row (h.2 a) (fun k hk => hr (hxy a) k ?_) hg⟩
 ·
  unfold cur; rw [if_neg (by rw [b]; decide)]; exact hk
 ·
  unfold cur; rw [if_pos a]; exact hk
def zero5 : Array Value := #[.slice none 0 0, .slice none 0 0, .slice none 0 0, .slice none 0 0, .slice none 0 0]
theorem Ch.cur_lt {α : Type} {d : Kd α} {e B : Nat} {w : World} {x y : Bool} {vl va : Value} {xs : List α} (h : Ch d e B w x y vl va xs) (hx : x = true) (k : Nat) (hk : (cur y vl va).ownBlock = some k) : k < w.heap.size := by
 unfold cur at hk
 cases y with
 | true => rw [if_pos rfl] at hk; exact Kd.R_lt (h.2 rfl) k hk
 | false => rw [if_neg (by decide)] at hk; exact Kd.R_lt (h.1 hx rfl) k hk
structure FewI (W w : World) (K : List S56) (J : List S54) (L : List S87) (S U : List Bool) (b : Nat → Bool) (vK aK vJ aJ vL aL vS aS vU aU : Value) (gx : Nat) (m : Value) : Prop where
 bel : Below W.heap.size W w
 K : Ch k56 56 W.heap.size w (b 0) (b 8) vK aK K
 J : Ch k54 54 W.heap.size w (b 9) (b 17) vJ aJ J
 L : Ch k87 87 W.heap.size w (b 18) (b 26) vL aL L
 S : Ch Kd.bool 4 W.heap.size w (b 27) (b 35) vS aS S
 U : Ch Kd.bool 4 W.heap.size w (b 36) (b 44) vU aU U
 SU : b 27 = true → b 36 = true → ∀ k, (cur (b 35) vS aS).ownBlock = some k → (cur (b 44) vU aU).ownBlock ≠ some k
 oS : b 35 = true → b 27 = true
 oU : b 44 = true → b 36 = true
 X : b 46 = true → W.heap.size ≤ gx
 X0 : b 46 = true → b 47 = false → w.heap[gx]? = some (.cells zero5 27 (0, 0))
 X1 : b 47 = true → w.heap[gx]? = some (.cells #[aK, aJ, aL, aS, aU] 27 (0, 0))
 M : b 45 = true → m = .agg #[aK, aJ, aL, aS, aU]
section
variable {W w w1 : World} {K : List S56} {J : List S54} {L : List S87} {S U : List Bool} {b : Nat → Bool} {vK aK vJ aJ vL aL vS aS vU aU v : Value} {gx : Nat} {m : Value}
theorem FewI.none_ (W : World) (K : List S56) (J : List S54) (L : List S87) (S U : List Bool) : FewI W W K J L S U (fun _ => false) undef undef undef undef undef undef undef undef undef undef 0 undef := by
 refine ⟨Below.refl _ _, ?_, ?_, ?_, ?_, ?_, ?_, ?_, ?_, ?_, ?_, ?_, ?_⟩
 all_goals first | (intro h; exact absurd h (by decide)) | exact ⟨fun h => absurd h (by decide), fun h => absurd h (by decide)⟩
theorem FewI.skip (h : FewI W w K J L S U b vK aK vJ aJ vL aL vS aS vU aU gx m) (i : Nat) (hi : [0, 8, 9, 17, 18, 26, 27, 35, 36, 44, 45, 46, 47].contains i = false) : FewI W w K J L S U (up b i) vK aK vJ aJ vL aL vS aS vU aU gx m := by
 have hn : ∀ j, [0, 8, 9, 17, 18, 26, 27, 35, 36, 44, 45, 46, 47].contains j = true → up b i j = b j := fun j hj => up_ne (fun e => by rw [e, hi] at hj; cases hj)
 refine ⟨h.bel, ?_, ?_, ?_, ?_, ?_, ?_, ?_, ?_, ?_, ?_, ?_, ?_⟩
 ·
  rw [hn 0 rfl, hn 8 rfl]; exact h.K
 ·
  rw [hn 9 rfl, hn 17 rfl]; exact h.J
 ·
  rw [hn 18 rfl, hn 26 rfl]; exact h.L
 ·
  rw [hn 27 rfl, hn 35 rfl]; exact h.S
 ·
  rw [hn 36 rfl, hn 44 rfl]; exact h.U
 ·
  rw [hn 27 rfl, hn 35 rfl, hn 36 rfl, hn 44 rfl]; exact h.SU
 ·
  rw [hn 27 rfl, hn 35 rfl]; exact h.oS
 ·
  rw [hn 36 rfl, hn 44 rfl]; exact h.oU
 ·
  rw [hn 46 rfl]; exact h.X
 ·
  rw [hn 46 rfl, hn 47 rfl]; exact h.X0
 ·
  rw [hn 47 rfl]; exact h.X1
 ·
  rw [hn 45 rfl]; exact h.M
theorem FewI.x0 (h : FewI W w K J L S U b vK aK vJ aJ vL aL vS aS vU aU gx m) (hb : Below w.heap.size w w1) : b 46 = true → b 47 = false → w1.heap[gx]? = some (.cells zero5 27 (0, 0)) :=
 fun p q => (hb.block gx (blk_lt (h.X0 p q))).trans (h.X0 p q)
theorem FewI.x0' (h : FewI W w K J L S U b vK aK vJ aJ vL aL vS aS vU aU gx m) {e : Nat} (hty : ∀ k, v.ownBlock = some k → ∃ cells, w.heap[k]? = some (.cells cells e (0, 0))) (he : e ≠ 27) (hg : w.grownBy w1 v.ownBlock) : b 46 = true → b 47 = false → w1.heap[gx]? = some (.cells zero5 27 (0, 0)) := by
 intro p q
 refine blk_grown (h.X0 p q) hg (fun e' => ?_)
 obtain ⟨cs, hc⟩ := hty gx e'.symm
 rw [h.X0 p q] at hc
 injection hc with hc
 injection hc with _ hc
 exact he hc.symm
theorem FewI.litK (h : FewI W w K J L S U b vK aK vJ aJ vL aL vS aS vU aU gx m) (hb : Below w.heap.size w w1) (ho : Kd.R k56 56 w1 W.heap.size (fun _ => True) v []) (h8 : b 8 = false) (h45 : b 45 = false) (h47 : b 47 = false) : FewI W w1 K J L S U (up b 0) v aK vJ aJ vL aL vS aS vU aU gx m :=
 ⟨h.bel.trans (hb.mono h.bel.size), ⟨fun _ _ => ho, fun a => absurd (h8.symm.trans a) (by decide)⟩, h.J.below hb, h.L.below hb, h.S.below hb, h.U.below hb, h.SU, h.oS, h.oU, h.X, h.x0 hb, fun a => absurd (h47.symm.trans a) (by decide), fun a => absurd (h45.symm.trans a) (by decide)⟩
theorem FewI.litJ (h : FewI W w K J L S U b vK aK vJ aJ vL aL vS aS vU aU gx m) (hb : Below w.heap.size w w1) (ho : Kd.R k54 54 w1 W.heap.size (fun _ => True) v []) (h8 : b 17 = false) (h45 : b 45 = false) (h47 : b 47 = false) : FewI W w1 K J L S U (up b 9) vK aK v aJ vL aL vS aS vU aU gx m :=
 ⟨h.bel.trans (hb.mono h.bel.size), h.K.below hb, ⟨fun _ _ => ho, fun a => absurd (h8.symm.trans a) (by decide)⟩, h.L.below hb, h.S.below hb, h.U.below hb, h.SU, h.oS, h.oU, h.X, h.x0 hb, fun a => absurd (h47.symm.trans a) (by decide), fun a => absurd (h45.symm.trans a) (by decide)⟩
theorem FewI.litL (h : FewI W w K J L S U b vK aK vJ aJ vL aL vS aS vU aU gx m) (hb : Below w.heap.size w w1) (ho : Kd.R k87 87 w1 W.heap.size (fun _ => True) v []) (h8 : b 26 = false) (h45 : b 45 = false) (h47 : b 47 = false) : FewI W w1 K J L S U (up b 18) vK aK vJ aJ v aL vS aS vU aU gx m :=
 ⟨h.bel.trans (hb.mono h.bel.size), h.K.below hb, h.J.below hb, ⟨fun _ _ => ho, fun a => absurd (h8.symm.trans a) (by decide)⟩, h.S.below hb, h.U.below hb, h.SU, h.oS, h.oU, h.X, h.x0 hb, fun a => absurd (h47.symm.trans a) (by decide), fun a => absurd (h45.symm.trans a) (by decide)⟩
theorem FewI.litS (h : FewI W w K J L S U b vK aK vJ aJ vL aL vS aS vU aU gx m) (hb : Below w.heap.size w w1) (ho : Kd.R Kd.bool 4 w1 W.heap.size (fun _ => True) v []) (hn : ∃ k, v.ownBlock = some k ∧ w.heap.size ≤ k) (h8 : b 35 = false) (h45 : b 45 = false) (h47 : b 47 = false) : FewI W w1 K J L S U (up b 27) vK aK vJ aJ vL aL v aS vU aU gx m := by
 refine ⟨h.bel.trans (hb.mono h.bel.size), h.K.below hb, h.J.below hb, h.L.below hb, ⟨fun _ _ => ho, fun a => absurd (h8.symm.trans a) (by decide)⟩, h.U.below hb, fun _ hU k hk he => ?_, fun _ => rfl, h.oU, h.X, h.x0 hb, fun a => absurd (h47.symm.trans a) (by decide), fun a => absurd (h45.symm.trans a) (by decide)⟩
 have hk' : v.ownBlock = some k := by
  have : cur (up b 27 35) v aS = v := by show cur (b 35) v aS = v; unfold cur; rw [h8]; rfl
  rw [this] at hk; exact hk
 obtain ⟨k', hk2, hle⟩ := hn
 rw [hk2] at hk'
 injection hk' with hk'
 have := h.U.cur_lt hU k he
 omega
theorem FewI.litU (h : FewI W w K J L S U b vK aK vJ aJ vL aL vS aS vU aU gx m) (hb : Below w.heap.size w w1) (ho : Kd.R Kd.bool 4 w1 W.heap.size (fun _ => True) v []) (hn : ∃ k, v.ownBlock = some k ∧ w.heap.size ≤ k) (h8 : b 44 = false) (h45 : b 45 = false) (h47 : b 47 = false) : FewI W w1 K J L S U (up b 36) vK aK vJ aJ vL aL vS aS v aU gx m := by
 refine ⟨h.bel.trans (hb.mono h.bel.size), h.K.below hb, h.J.below hb, h.L.below hb, h.S.below hb, ⟨fun _ _ => ho, fun a => absurd (h8.symm.trans a) (by decide)⟩, fun hS _ k hk he => ?_, h.oS, fun _ => rfl, h.X, h.x0 hb, fun a => absurd (h47.symm.trans a) (by decide), fun a => absurd (h45.symm.trans a) (by decide)⟩
 have he' : v.ownBlock = some k := by
  have : cur (up b 36 44) v aU = v := by show cur (b 44) v aU = v; unfold cur; rw [h8]; rfl
  rw [this] at he; exact he
 obtain ⟨k', hk2, hle⟩ := hn
 rw [hk2] at he'
 injection he' with he'
 have := h.S.cur_lt hS k hk
 omega
theorem FewI.appK (h : FewI W w K J L S U b vK aK vJ aJ vL aL vS aS vU aU gx m) (h0 : b 0 = true) (h8 : b 8 = false) (hb : Below W.heap.size W w1) (hg : w.grownBy w1 vK.ownBlock) (ho : Kd.R k56 56 w1 W.heap.size (fun _ => True) v K) (h45 : b 45 = false) (h47 : b 47 = false) : FewI W w1 K J L S U (up b 8) vK v vJ aJ vL aL vS aS vU aU gx m := by
 have ht := Kd.R_typed (h.K.1 h0 h8)
 exact ⟨hb, ⟨fun _ a => (by cases a), fun _ => ho⟩, h.J.over ht (by decide) hg, h.L.over ht (by decide) hg, h.S.over ht (by decide) hg, h.U.over ht (by decide) hg, h.SU, h.oS, h.oU, h.X, h.x0' ht (by decide) hg, fun a => absurd (h47.symm.trans a) (by decide), fun a => absurd (h45.symm.trans a) (by decide)⟩
theorem FewI.appJ (h : FewI W w K J L S U b vK aK vJ aJ vL aL vS aS vU aU gx m) (h0 : b 9 = true) (h8 : b 17 = false) (hb : Below W.heap.size W w1) (hg : w.grownBy w1 vJ.ownBlock) (ho : Kd.R k54 54 w1 W.heap.size (fun _ => True) v J) (h45 : b 45 = false) (h47 : b 47 = false) : FewI W w1 K J L S U (up b 17) vK aK vJ v vL aL vS aS vU aU gx m := by
 have ht := Kd.R_typed (h.J.1 h0 h8)
 exact ⟨hb, h.K.over ht (by decide) hg, ⟨fun _ a => (by cases a), fun _ => ho⟩, h.L.over ht (by decide) hg, h.S.over ht (by decide) hg, h.U.over ht (by decide) hg, h.SU, h.oS, h.oU, h.X, h.x0' ht (by decide) hg, fun a => absurd (h47.symm.trans a) (by decide), fun a => absurd (h45.symm.trans a) (by decide)⟩
theorem FewI.appL (h : FewI W w K J L S U b vK aK vJ aJ vL aL vS aS vU aU gx m) (h0 : b 18 = true) (h8 : b 26 = false) (hb : Below W.heap.size W w1) (hg : w.grownBy w1 vL.ownBlock) (ho : Kd.R k87 87 w1 W.heap.size (fun _ => True) v L) (h45 : b 45 = false) (h47 : b 47 = false) : FewI W w1 K J L S U (up b 26) vK aK vJ aJ vL v vS aS vU aU gx m := by
 have ht := Kd.R_typed (h.L.1 h0 h8)
 exact ⟨hb, h.K.over ht (by decide) hg, h.J.over ht (by decide) hg, ⟨fun _ a => (by cases a), fun _ => ho⟩, h.S.over ht (by decide) hg, h.U.over ht (by decide) hg, h.SU, h.oS, h.oU, h.X, h.x0' ht (by decide) hg, fun a => absurd (h47.symm.trans a) (by decide), fun a => absurd (h45.symm.trans a) (by decide)⟩
theorem FewI.appS (h : FewI W w K J L S U b vK aK vJ aJ vL aL vS aS vU aU gx m) (h0 : b 27 = true) (h8 : b 35 = false) (hb : Below W.heap.size W w1) (hg : w.grownBy w1 vS.ownBlock) (hat : v.ownBlock = vS.ownBlock ∨ ∃ k, v.ownBlock = some k ∧ w.heap.size ≤ k) (ho : Kd.R Kd.bool 4 w1 W.heap.size (fun _ => True) v S) (h45 : b 45 = false) (h47 : b 47 = false) : FewI W w1 K J L S U (up b 35) vK aK vJ aJ vL aL vS v vU aU gx m := by
 have ht := Kd.R_typed (h.S.1 h0 h8)
 have hc : cur (b 35) vS aS = vS := by unfold cur; rw [h8]; rfl
 refine ⟨hb, h.K.over ht (by decide) hg, h.J.over ht (by decide) hg, h.L.over ht (by decide) hg, ⟨fun _ a => (by cases a), fun _ => ho⟩, h.U.row (fun hU k hk e => ?_) h.oU hg, fun _ hU k hk he => ?_, fun _ => h0, h.oU, h.X, h.x0' ht (by decide) hg, fun a => absurd (h47.symm.trans a) (by decide), fun a => absurd (h45.symm.trans a) (by decide)⟩
 ·
  exact h.SU h0 hU k (by rw [hc]; exact e.symm) hk
 ·
  have hk' : v.ownBlock = some k := hk
  rcases hat with hat | ⟨k', hk2, hle⟩
  ·
   exact h.SU h0 hU k (by rw [hc, ← hat]; exact hk') he
  ·
   rw [hk2] at hk'
   injection hk' with hk'
   have := h.U.cur_lt hU k he
   omega
theorem FewI.appU (h : FewI W w K J L S U b vK aK vJ aJ vL aL vS aS vU aU gx m) (h0 : b 36 = true) (h8 : b 44 = false) (hb : Below W.heap.size W w1) (hg : w.grownBy w1 vU.ownBlock) (hat : v.ownBlock = vU.ownBlock ∨ ∃ k, v.ownBlock = some k ∧ w.heap.size ≤ k) (ho : Kd.R Kd.bool 4 w1 W.heap.size (fun _ => True) v U) (h45 : b 45 = false) (h47 : b 47 = false) : FewI W w1 K J L S U (up b 44) vK aK vJ aJ vL aL vS aS vU v gx m := by
 have ht := Kd.R_typed (h.U.1 h0 h8)
 have hc : cur (b 44) vU aU = vU := by unfold cur; rw [h8]; rfl
 refine ⟨hb, h.K.over ht (by decide) hg, h.J.over ht (by decide) hg, h.L.over ht (by decide) hg, h.S.row (fun hS k hk e => ?_) h.oS hg, ⟨fun _ a => (by cases a), fun _ => ho⟩, fun hS _ k hk he => ?_, h.oS, fun _ => h0, h.X, h.x0' ht (by decide) hg, fun a => absurd (h47.symm.trans a) (by decide), fun a => absurd (h45.symm.trans a) (by decide)⟩
 ·
  exact h.SU hS h0 k hk (by rw [hc]; exact e.symm)
 ·
  have he' : v.ownBlock = some k := he
  rcases hat with hat | ⟨k', hk2, hle⟩
  ·
   exact h.SU hS h0 k hk (by rw [hc, ← hat]; exact he')
  ·
   rw [hk2] at he'
   injection he' with he'
   have := h.S.cur_lt hS k hk
   omega
theorem FewI.box (h : FewI W w K J L S U b vK aK vJ aJ vL aL vS aS vU aU gx m) (hb : Below w.heap.size w w1) {g : Nat} (hg : g = w.heap.size) (hx : w1.heap[g]? = some (.cells zero5 27 (0, 0))) (h47 : b 47 = false) : FewI W w1 K J L S U (up b 46) vK aK vJ aJ vL aL vS aS vU aU g m :=
 ⟨h.bel.trans (hb.mono h.bel.size), h.K.below hb, h.J.below hb, h.L.below hb, h.S.below hb, h.U.below hb, h.SU, h.oS, h.oU, fun _ => by rw [hg]; exact h.bel.size, fun _ _ => hx, fun a => absurd (h47.symm.trans a) (by decide), h.M⟩
theorem FewI.build (h : FewI W w K J L S U b vK aK vJ aJ vL aL vS aS vU aU gx m) : FewI W w K J L S U (up b 45) vK aK vJ aJ vL aL vS aS vU aU gx (.agg #[aK, aJ, aL, aS, aU]) :=
 ⟨h.bel, h.K, h.J, h.L, h.S, h.U, h.SU, h.oS, h.oU, h.X, h.X0, h.X1, fun _ => rfl⟩
theorem Ch.far {α : Type} {d : Kd α} {e B : Nat} {w : World} {vl va : Value} {xs : List α} (h : Ch d e B w true true vl va xs) (hE : d.E = []) (he : e ≠ 27) {g : Nat} {cs : Array Value} (hX : w.heap[g]? = some (.cells cs 27 (0, 0))) (j : Nat) (u : Value) : Ch d e B (w.setCell ⟨g, j, none⟩ u) true true vl va xs :=
 ⟨fun _ a => (by cases a), fun _ => R_ty (h.2 rfl) hE fun k cells _ _ _ hc => Below.heap_setCell w _ _ k (fun e' => by
  subst e'
  rw [hX] at hc
  injection hc with hc
  injection hc with _ hc
  exact he hc.symm)⟩
theorem FewI.store (h : FewI W w K J L S U b vK aK vJ aJ vL aL vS aS vU aU gx m) (hK : b 8 = true) (hJ : b 17 = true) (hL : b 26 = true) (hS : b 35 = true) (hU : b 44 = true) (h46 : b 46 = true) (h47 : b 47 = false)
  (hK0 : b 0 = true) (hJ0 : b 9 = true) (hL0 : b 18 = true) : FewI W (((((w.setCell ⟨gx, 0, none⟩ aK).setCell ⟨gx, 1, none⟩ aJ).setCell ⟨gx, 2, none⟩ aL).setCell ⟨gx, 3, none⟩ aS).setCell ⟨gx, 4, none⟩ aU) K J L S U (up b 47) vK aK vJ aJ vL aL vS aS vU aU gx m := by
 have hX := h.X0 h46 h47
 have h1 := blk_put hX 0 aK rfl
 have h2 := blk_put h1 1 aJ rfl
 have h3 := blk_put h2 2 aL rfl
 have h4 := blk_put h3 3 aS rfl
 have h5 := blk_put h4 4 aU rfl
 have hge := h.X h46
 have hS0 := h.oS hS
 have hU0 := h.oU hU
 have eK := h.K
 have eJ := h.J
 have eL := h.L
 have eS := h.S
 have eU := h.U
 rw [hK, hK0] at eK
 rw [hJ, hJ0] at eJ
 rw [hL, hL0] at eL
 rw [hS, hS0] at eS
 rw [hU, hU0] at eU
 refine ⟨((((h.bel.setCell hge _).setCell hge _).setCell hge _).setCell hge _).setCell hge _, ?_, ?_, ?_, ?_, ?_, h.SU, h.oS, h.oU, h.X, fun _ a => (by cases a), fun _ => h5, h.M⟩
 ·
  show Ch _ _ _ _ (b 0) (b 8) _ _ _; rw [hK, hK0]; exact ((((eK.far rfl (by decide) hX _ _).far rfl (by decide) h1 _ _).far rfl (by decide) h2 _ _).far rfl (by decide) h3 _ _).far rfl (by decide) h4 _ _
 ·
  show Ch _ _ _ _ (b 9) (b 17) _ _ _; rw [hJ, hJ0]; exact ((((eJ.far rfl (by decide) hX _ _).far rfl (by decide) h1 _ _).far rfl (by decide) h2 _ _).far rfl (by decide) h3 _ _).far rfl (by decide) h4 _ _
 ·
  show Ch _ _ _ _ (b 18) (b 26) _ _ _; rw [hL, hL0]; exact ((((eL.far rfl (by decide) hX _ _).far rfl (by decide) h1 _ _).far rfl (by decide) h2 _ _).far rfl (by decide) h3 _ _).far rfl (by decide) h4 _ _
 ·
  show Ch _ _ _ _ (b 27) (b 35) _ _ _; rw [hS, hS0]; exact ((((eS.far rfl (by decide) hX _ _).far rfl (by decide) h1 _ _).far rfl (by decide) h2 _ _).far rfl (by decide) h3 _ _).far rfl (by decide) h4 _ _
 ·
  show Ch _ _ _ _ (b 36) (b 44) _ _ _; rw [hU, hU0]; exact ((((eU.far rfl (by decide) hX _ _).far rfl (by decide) h1 _ _).far rfl (by decide) h2 _ _).far rfl (by decide) h3 _ _).far rfl (by decide) h4 _ _
end
def cutK (k : S56) : S56 := ⟨k.f0, k.f1, k.f2.extract 0 (min k.f2.size 60)⟩
theorem take_len {α : Type} {l t : List α} {n : Nat} (h : t = l.take n) : l.take t.length = t := by
 subst h
 rw [List.length_take]
 rcases Nat.lt_or_ge n l.length with h | h
 ·
  rw [Nat.min_eq_left (by omega)]
 ·
  rw [Nat.min_eq_right h, List.take_of_length_le (Nat.le_refl _), List.take_of_length_le h]
structure FewL (W w : World) (K : List S56) (J : List S54) (L : List S87) (S U : List Bool) (k gx : Nat) (vK vJ vL vS vU : Value) : Prop where
 bel : Below W.heap.size W w
 X : w.heap[gx]? = some (.cells #[vK, vJ, vL, vS, vU] 27 (0, 0))
 hx : W.heap.size ≤ gx
 K : Kd.R k56 56 w W.heap.size (fun _ => True) vK ((K.take k).map cutK ++ K.drop k)
 J : Kd.R k54 54 w W.heap.size (fun _ => True) vJ J
 L : Kd.R k87 87 w W.heap.size (fun _ => True) vL L
 S : Kd.R Kd.bool 4 w W.heap.size (fun _ => True) vS S
 U : Kd.R Kd.bool 4 w W.heap.size (fun _ => True) vU U
 SU : ∀ k, vS.ownBlock = some k → vU.ownBlock ≠ some k
section
variable {W w w1 : World} {K : List S56} {J : List S54} {L : List S87} {S U : List Bool} {k gx n : Nat} {vK vJ vL vS vU : Value}
theorem FewL.drew (h : FewL W w K J L S U k gx vK vJ vL vS vU) : FewL W w.drew K J L S U k gx vK vJ vL vS vU :=
 ⟨h.bel.drew, h.X, h.hx, Kd.R_below h.K (Below.refl _ _).drew, Kd.R_below h.J (Below.refl _ _).drew, Kd.R_below h.L (Below.refl _ _).drew, Kd.R_below h.S (Below.refl _ _).drew, Kd.R_below h.U (Below.refl _ _).drew, h.SU⟩
theorem cut_len (K : List S56) (k : Nat) (hk : k ≤ K.length) : ((K.take k).map cutK ++ K.drop k).length = K.length := by simp; omega
theorem FewL.form {A : Option Addr} {c : Nat} (h : FewL W w K J L S U k gx (.slice A K.length c) vJ vL vS vU) (hk : k < K.length) : ∃ gk ck, Value.slice A K.length c = .slice (some ⟨gk, 0, none⟩) K.length ck ∧ W.heap.size ≤ gk := by
 have hl := cut_len K k (Nat.le_of_lt hk)
 obtain ⟨g, c', e, h1, _⟩ := Kd.R_form h.K (by rw [hl]; omega)
 rw [hl] at e
 exact ⟨g, c', e, h1⟩
theorem cut_get (K : List S56) (k : Nat) (hk : k < K.length) : ((K.take k).map cutK ++ K.drop k).getD k z56 = K.getD k z56 := by
 have h1 : ((K.take k).map cutK).length = k := by simp; omega
 simp only [List.getD_eq_getElem?_getD]
 rw [List.getElem?_append_right (by omega), h1, Nat.sub_self, List.getElem?_drop, Nat.add_zero]
theorem cut_set (K : List S56) (k : Nat) (hk : k < K.length) : ((K.take k).map cutK ++ K.drop k).set k (cutK (K.getD k z56)) = (K.take (k + 1)).map cutK ++ K.drop (k + 1) := by
 have h1 : ((K.take k).map cutK).length = k := by simp; omega
 have h2 : K.drop k = K.getD k z56 :: K.drop (k + 1) := by
  rw [List.getD_eq_getElem?_getD, List.getElem?_eq_getElem hk, Option.getD_some]
  exact List.drop_eq_getElem_cons hk
 have h3 : K.take (k + 1) = K.take k ++ [K.getD k z56] := by
  rw [List.getD_eq_getElem?_getD, List.getElem?_eq_getElem hk, Option.getD_some]
  exact List.take_succ_eq_append_getElem hk
 rw [h2, List.set_append_right _ _ (by omega), h1, Nat.sub_self, List.set_cons_zero, h3, List.map_append]
 simp
theorem FewL.name {gk c : Nat} (h : FewL W w K J L S U k gx (.slice (some ⟨gk, 0, none⟩) K.length c) vJ vL vS vU) (hk : k < K.length) :
  w.cell? ⟨gk, k * 3 + 2, none⟩ = some (.string (K.getD k z56).f2) ∧ w.frozen? ⟨gk, k * 3 + 2, none⟩ = false ∧
   ∀ m, m = min (K.getD k z56).f2.size 60 → FewL W (w.drew.setCell ⟨gk, k * 3 + 2, none⟩ (.string ((K.getD k z56).f2.extract 0 m))) K J L S U (k + 1) gx (.slice (some ⟨gk, 0, none⟩) K.length c) vJ vL vS vU := by
 have hl := cut_len K k (Nat.le_of_lt hk)
 have hK := h.K
 obtain ⟨ce, h1, h2, h3, h4⟩ := Kd.R_elem hK z56 (k : Int) (by omega) (by omega)
 rw [Int.toNat_natCast, cut_get K k hk] at h2
 rw [Int.toNat_natCast] at h3 h4
 have h5 := k56_openM h2
 subst h5
 refine ⟨h3 2 _ rfl, h4 2, fun m hm => ?_⟩
 have hd := h.drew
 have hgk := Kd.R_base hd.K gk (by simp [Value.ownBlock])
 obtain ⟨cs, hcs⟩ := Kd.R_typed hd.K gk (by simp [Value.ownBlock])
 obtain ⟨hp, _⟩ := Kd.R_seg hd.K (k : Int) (by omega) (by omega) (seg := [.string ((K.getD k z56).f2.extract 0 m)]) (j := 2) h1 (by rw [Int.toNat_natCast]; exact h3) (show 3 ≤ 3 from by decide) (x' := cutK (K.getD k z56)) (by rw [hm]; exact k56_mkM _ _ _ (cutK (K.getD k z56))) (fun _ hk => hk)
 rw [Int.toNat_natCast, cut_set K k hk] at hp
 have hs : ∀ i, i ≠ gk → (w.drew.setCell ⟨gk, k * 3 + 2, none⟩ (.string ((K.getD k z56).f2.extract 0 m))).heap[i]? = w.drew.heap[i]? := fun i hi => Below.heap_setCell _ _ _ i hi
 have hty : ∀ (i : Nat) (cells : Array Value) (t : Nat), t ≠ 56 → w.drew.heap[i]? = some (.cells cells t (0, 0)) → i ≠ gk := by
  rintro i cells t ht hc rfl
  rw [hcs] at hc
  injection hc with hc
  injection hc with _ hc
  exact ht hc.symm
 exact ⟨hd.bel.setCell hgk _, (hs gx (hty gx _ 27 (by decide) hd.X)).trans hd.X, hd.hx, hp, R_ty hd.J rfl (fun i cells _ _ _ hc => hs i (hty i cells 54 (by decide) hc)), R_ty hd.L rfl (fun i cells _ _ _ hc => hs i (hty i cells 87 (by decide) hc)), R_ty hd.S rfl (fun i cells _ _ _ hc => hs i (hty i cells 4 (by decide) hc)), R_ty hd.U rfl (fun i cells _ _ _ hc => hs i (hty i cells 4 (by decide) hc)), hd.SU⟩
end
structure FewR (B : Nat) (w : World) (K : List S56) (J : List S54) (L : List S87) (S U : List Bool) (vK vJ vL vS vU : Value) : Prop where
 K : Kd.R k56 56 w B (fun _ => True) vK ((K.take 40).map cutK)
 J : Kd.R k54 54 w B (fun _ => True) vJ (J.take 100)
 L : Kd.R k87 87 w B (fun _ => True) vL (L.take 50)
 S : Kd.R Kd.bool 4 w B (fun _ => True) vS (S.take 40)
 U : Kd.R Kd.bool 4 w B (fun _ => True) vU (U.take 40)
 SU : ∀ k, vS.ownBlock = some k → vU.ownBlock ≠ some k
def FewPost (K : List S56) (J : List S54) (L : List S87) (S U : List Bool) (w : World) (e : Ending) (w' : World) : Prop :=
 ∃ vK vJ vL vS vU, e = .returned (.agg #[vK, vJ, vL, vS, vU]) ∧ FewR w.heap.size w' K J L S U vK vJ vL vS vU ∧ Below w.heap.size w w'
theorem FewR.far27 {B : Nat} {w : World} {K : List S56} {J : List S54} {L : List S87} {S U : List Bool} {vK vJ vL vS vU : Value} (h : FewR B w K J L S U vK vJ vL vS vU) {g t : Nat} {cs : Array Value} (hX : w.heap[g]? = some (.cells cs t (0, 0))) (ht : t ≠ 56 ∧ t ≠ 54 ∧ t ≠ 87 ∧ t ≠ 4) (j : Nat) (u : Value) : FewR B (w.setCell ⟨g, j, none⟩ u) K J L S U vK vJ vL vS vU := by
 have hh : ∀ q, q ≠ t → ∀ (k : Nat) (cells : Array Value), w.heap[k]? = some (.cells cells q (0, 0)) → (w.setCell ⟨g, j, none⟩ u).heap[k]? = w.heap[k]? := fun q hq k cells hc => Below.heap_setCell w _ _ k (fun e' => by
  subst e'
  rw [hX] at hc
  injection hc with hc
  injection hc with _ hc
  exact hq hc.symm)
 exact ⟨R_ty h.K rfl (fun k cells _ _ _ hc => hh 56 (Ne.symm ht.1) k cells hc), R_ty h.J rfl (fun k cells _ _ _ hc => hh 54 (Ne.symm ht.2.1) k cells hc), R_ty h.L rfl (fun k cells _ _ _ hc => hh 87 (Ne.symm ht.2.2.1) k cells hc), R_ty h.S rfl (fun k cells _ _ _ hc => hh 4 (Ne.symm ht.2.2.2) k cells hc), R_ty h.U rfl (fun k cells _ _ _ hc => hh 4 (Ne.symm ht.2.2.2) k cells hc), h.SU⟩
theorem FewL.rows {w0 W w : World} {K0 K : List S56} {J0 J : List S54} {L0 L : List S87} {S0 S U0 U : List Bool} {gx : Nat} {vK vJ vL vS vU : Value} (h : FewL W w K J L S U K.length gx vK vJ vL vS vU) (hW : w0.heap.size ≤ W.heap.size) (hK : K = K0.take 40) (hJ : J = J0.take 100) (hL : L = L0.take 50) (hS : S = S0.take 40) (hU : U = U0.take 40) : FewR w0.heap.size w K0 J0 L0 S0 U0 vK vJ vL vS vU := by
 have hk := h.K
 rw [List.take_length, List.drop_length, List.append_nil] at hk
 subst hK
 subst hJ
 subst hL
 subst hS
 subst hU
 exact ⟨Kd.R_lower hk hW, Kd.R_lower h.J hW, Kd.R_lower h.L hW, Kd.R_lower h.S hW, Kd.R_lower h.U hW, h.SU⟩
theorem FewL.fin {w0 W w : World} {K0 K : List S56} {J0 J : List S54} {L0 L : List S87} {S0 S U0 U : List Bool} {gx gr : Nat} {vK vJ vL vS vU : Value} (h : FewL W w K J L S U K.length gx vK vJ vL vS vU) (hW : Below w0.heap.size w0 W) (hK : K = K0.take 40) (hJ : J = J0.take 100) (hL : L = L0.take 50) (hS : S = S0.take 40) (hU : U = U0.take 40) (hgr : w0.heap.size ≤ gr) (hR : w.heap[gr]? = some (.cells zero5 27 (0, 0))) :
  FewPost K0 J0 L0 S0 U0 w0 (.returned (.agg #[vK, vJ, vL, vS, vU])) (((((w.setCell ⟨gr, 0, none⟩ vK).setCell ⟨gr, 1, none⟩ vJ).setCell ⟨gr, 2, none⟩ vL).setCell ⟨gr, 3, none⟩ vS).setCell ⟨gr, 4, none⟩ vU) := by
 have h1 := blk_put hR 0 vK rfl
 have h2 := blk_put h1 1 vJ rfl
 have h3 := blk_put h2 2 vL rfl
 have h4 := blk_put h3 3 vS rfl
 refine ⟨vK, vJ, vL, vS, vU, rfl, ?_, (((((hW.trans (h.bel.mono hW.size)).setCell hgr _).setCell hgr _).setCell hgr _).setCell hgr _).setCell hgr _⟩
 exact (((((h.rows hW.size hK hJ hL hS hU).far27 hR (by decide) 0 vK).far27 h1 (by decide) 1 vJ).far27 h2 (by decide) 2 vL).far27 h3 (by decide) 3 vS).far27 h4 (by decide) 4 vU
end Go.Proofs.Ytdcgclhmfflheaa.PQ
