import Derived.Test.YtdcgclhmfflheaaXbwPQ0
import Derived.Deep.Slices
import Derived.Deep.Fields
import Derived.ChangeSame
import Derived.Lib.SmallJoins
import Derived.ChangeOld
import Derived.Carry
import Derived.OpenShut
namespace Go.Proofs.Ytdcgclhmfflheaa.PQ
open Go.RowKit Go.Proofs.YtdcgclhmfflheaaW.PrintWords Go.ChangeShapes Go.WideShapes Go.Deep Go.Joins
set_option linter.unusedVariables false
set_option linter.unusedSimpArgs false
section
variable {H : Type} {enc : TypeId × Value → H} {P : Program} {w : World} {base : Nat} {spare : Nat → Bool} {held : Bool}
theorem agg_of {t : TypeId} {fs : Array Field} {r : Reach} {b0 : Nat} {v : Value} {d : DataW H} {p : List MemPlace} (hs : P.underlying t = some (.struct fs)) (hv : Value.okWide P w r b0 t v) (h : DataW.Trod enc P w base spare held t v d p) :
  ∃ (l : List Value) (fuel : Nat), v = .agg ⟨l⟩ ∧ DataW.trod enc P w base spare held fuel t l = some (d, p) := by
 obtain ⟨cs, rfl, hsz⟩ := okWide_struct hs hv
 obtain ⟨l⟩ := cs
 obtain ⟨fuel, hf⟩ := h
 exact ⟨l, fuel, rfl, hf⟩
theorem trod_fields2 {t : TypeId} {f0 f1 : Field} {fuel : Nat} {cs : List Value} {x : DataW H × List MemPlace} (hs : P.underlying t = some (.struct #[f0, f1])) (hone : oneCellFields P #[f0, f1] = true) (hC : P.cellsOf t = 2) (h : DataW.trod enc P w base spare held fuel t cs = some x) :
  ∃ (v0 v1 : Value) (y0 y1 : DataW H × List MemPlace) (n : Nat), cs = [v0, v1] ∧ DataW.trod enc P w base spare held n f0.type [v0] = some y0 ∧ DataW.trod enc P w base spare held n f1.type [v1] = some y1 := by
 obtain ⟨xs, n, _, hx, hcl, hlen, hg⟩ := DataW.trod_struct hs h
 rw [hC] at hcl
 obtain ⟨o0, k0⟩ := hone_of hone 0 f0 rfl
 obtain ⟨o1, k1⟩ := hone_of hone 1 f1 rfl
 match cs, hcl, xs, hlen with
 | [v0, v1], _, [y0, y1], _ =>
  exact ⟨v0, v1, y0, y1, n, rfl, by simpa [o0, k0] using hg 0 f0 rfl, by simpa [o1, k1] using hg 1 f1 rfl⟩
theorem trod_fields3 {t : TypeId} {f0 f1 f2 : Field} {fuel : Nat} {cs : List Value} {x : DataW H × List MemPlace} (hs : P.underlying t = some (.struct #[f0, f1, f2])) (hone : oneCellFields P #[f0, f1, f2] = true) (hC : P.cellsOf t = 3) (h : DataW.trod enc P w base spare held fuel t cs = some x) :
  ∃ (v0 v1 v2 : Value) (y0 y1 y2 : DataW H × List MemPlace) (n : Nat), cs = [v0, v1, v2] ∧ DataW.trod enc P w base spare held n f0.type [v0] = some y0 ∧ DataW.trod enc P w base spare held n f1.type [v1] = some y1 ∧ DataW.trod enc P w base spare held n f2.type [v2] = some y2 := by
 obtain ⟨xs, n, _, hx, hcl, hlen, hg⟩ := DataW.trod_struct hs h
 rw [hC] at hcl
 obtain ⟨o0, k0⟩ := hone_of hone 0 f0 rfl
 obtain ⟨o1, k1⟩ := hone_of hone 1 f1 rfl
 obtain ⟨o2, k2⟩ := hone_of hone 2 f2 rfl
 match cs, hcl, xs, hlen with
 | [v0, v1, v2], _, [y0, y1, y2], _ =>
  exact ⟨v0, v1, v2, y0, y1, y2, n, rfl, by simpa [o0, k0] using hg 0 f0 rfl, by simpa [o1, k1] using hg 1 f1 rfl, by simpa [o2, k2] using hg 2 f2 rfl⟩
theorem trod_fields5 {t : TypeId} {f0 f1 f2 f3 f4 : Field} {fuel : Nat} {cs : List Value} {x : DataW H × List MemPlace} (hs : P.underlying t = some (.struct #[f0, f1, f2, f3, f4])) (hone : oneCellFields P #[f0, f1, f2, f3, f4] = true) (hC : P.cellsOf t = 5) (h : DataW.trod enc P w base spare held fuel t cs = some x) :
  ∃ (v0 v1 v2 v3 v4 : Value) (y0 y1 y2 y3 y4 : DataW H × List MemPlace) (n : Nat), cs = [v0, v1, v2, v3, v4] ∧ DataW.trod enc P w base spare held n f0.type [v0] = some y0 ∧ DataW.trod enc P w base spare held n f1.type [v1] = some y1 ∧ DataW.trod enc P w base spare held n f2.type [v2] = some y2 ∧ DataW.trod enc P w base spare held n f3.type [v3] = some y3 ∧ DataW.trod enc P w base spare held n f4.type [v4] = some y4 := by
 obtain ⟨xs, n, _, hx, hcl, hlen, hg⟩ := DataW.trod_struct hs h
 rw [hC] at hcl
 obtain ⟨o0, k0⟩ := hone_of hone 0 f0 rfl
 obtain ⟨o1, k1⟩ := hone_of hone 1 f1 rfl
 obtain ⟨o2, k2⟩ := hone_of hone 2 f2 rfl
 obtain ⟨o3, k3⟩ := hone_of hone 3 f3 rfl
 obtain ⟨o4, k4⟩ := hone_of hone 4 f4 rfl
 match cs, hcl, xs, hlen with
 | [v0, v1, v2, v3, v4], _, [y0, y1, y2, y3, y4], _ =>
  exact ⟨v0, v1, v2, v3, v4, y0, y1, y2, y3, y4, n, rfl, by simpa [o0, k0] using hg 0 f0 rfl, by simpa [o1, k1] using hg 1 f1 rfl, by simpa [o2, k2] using hg 2 f2 rfl, by simpa [o3, k3] using hg 3 f3 rfl, by simpa [o4, k4] using hg 4 f4 rfl⟩
end
section
variable {H : Type} {enc : TypeId × Value → H} {w : World} {base : Nat} {spare : Nat → Bool} {held : Bool}
structure InC {α : Type} (d : Kd α) (Pr : α → Prop) (w : World) (A : Option Addr) (cap : Nat) (l : List α) : Prop where
 c : Kd.C d w A l.length l
 hc : l.length ≤ cap
 pr : ∀ x ∈ l, Pr x
 cm : cap ≤ maxLen
theorem open_C {α : Type} [Inhabited α] (d : Kd α) (Pr : α → Prop) {t e : TypeId} {fuel : Nat} {cs : List Value} {x : DataW H × List MemPlace} (ht : Try.prog.underlying t = some (.slice e)) (hC : Try.prog.cellsOf e = d.sz)
  (dec : ∀ (n : Nat) (cs : List Value) (y : DataW H × List MemPlace), cs.length = d.sz → DataW.trod enc Try.prog w base spare held n e cs = some y → ∃ x, d.K w x cs ∧ Pr x)
  (h : DataW.trod enc Try.prog w base spare held fuel t cs = some x) : ∃ A cap l, cs = [.slice A l.length cap] ∧ InC d Pr w A cap l := by
 rcases DataW.trod_slice ht h with ⟨rfl, _⟩ | ⟨a, len, cap, elems, rest, n, _, rfl, rfl, hb, hl, hm, hlen, hel, hsp, hns⟩
 ·
  exact ⟨none, 0, [], rfl, ⟨rfl, by simp, fun h => absurd h (Nat.lt_irrefl 0)⟩, Nat.le_refl _, fun _ h => (by cases h), Nat.zero_le _⟩
 ·
  have hex : ∀ i, ∃ x : α, i < len → ∃ c : List Value, c.length = d.sz ∧ d.K w x c ∧ Pr x ∧ ∀ j u, c[j]? = some u → w.cell? (a.add (i * d.sz + j)) = some u := by
   intro i
   by_cases hi : i < len
   ·
    have h1 := hel i hi
    rw [List.getElem?_eq_getElem (by omega), Option.bind_eq_some_iff] at h1
    obtain ⟨c, hc, hy⟩ := h1
    obtain ⟨_, hcl, hat⟩ := World.cells?_some hc
    rw [hC] at hcl
    obtain ⟨x, hx, hp⟩ := dec n c _ hcl hy
    refine ⟨x, fun _ => ⟨c, hcl, hx, hp, fun j u hu => ?_⟩⟩
    have hj : j < d.sz := by have := (List.getElem?_eq_some_iff.1 hu).1; omega
    have := hat j (by rw [hC]; exact hj)
    rw [hC, Go.Deep.add_add] at this
    rw [this, hu]
   ·
    exact ⟨default, fun h => absurd h hi⟩
  obtain ⟨f, hf⟩ : ∃ f : Nat → α, ∀ i, i < len → ∃ c : List Value, c.length = d.sz ∧ d.K w (f i) c ∧ Pr (f i) ∧ ∀ j u, c[j]? = some u → w.cell? (a.add (i * d.sz + j)) = some u := ⟨fun i => Classical.choose (hex i), fun i => Classical.choose_spec (hex i)⟩
  have hll : ((List.range len).map f).length = len := by simp
  refine ⟨some a, cap, (List.range len).map f, by rw [hll], ⟨rfl, ?_, fun _ => ⟨a, rfl, fun j p hj => ?_⟩⟩, by rw [hll]; exact hl, fun x hx => ?_, hm⟩
  ·
   rw [hll]; unfold maxLen at hm; omega
  ·
   rw [List.getElem?_map, Option.map_eq_some_iff] at hj
   obtain ⟨i, hi, rfl⟩ := hj
   have hi2 : i = j ∧ j < len := by
    have h3 := List.getElem?_eq_some_iff.1 hi
    obtain ⟨h4, h5⟩ := h3
    rw [List.getElem_range] at h5
    rw [List.length_range] at h4
    exact ⟨h5.symm, h4⟩
   obtain ⟨rfl, hlt⟩ := hi2
   obtain ⟨c, h1, h2, _, h3⟩ := hf i hlt
   exact ⟨c, h1, h2, h3⟩
  ·
   obtain ⟨i, hi, rfl⟩ := List.mem_map.1 hx
   obtain ⟨c, _, _, h3, _⟩ := hf i (List.mem_range.1 hi)
   exact h3
instance : Inhabited S56 := ⟨z56⟩
instance : Inhabited S54 := ⟨⟨0, 0⟩⟩
instance : Inhabited S87 := ⟨⟨0, 0⟩⟩
def i64ok (n : Int) : Prop := -9223372036854775808 ≤ n ∧ n ≤ 9223372036854775807
theorem i64ok_of {n : Int} (h : (Lit.int .i64 n).wf = true) : i64ok n := by exact bounds_i64 h
theorem open_bools' {t : TypeId} {fuel : Nat} {cs : List Value} {x : DataW H × List MemPlace} (ht : Try.prog.underlying t = some (.slice 4)) (h : DataW.trod enc Try.prog w base spare held fuel t cs = some x) :
  ∃ A cap l, cs = [.slice A l.length cap] ∧ InC Kd.bool (fun _ => True) w A cap l :=
 open_C Kd.bool _ ht (by kernel_rfl) (fun n cs y _ hy => by
  obtain ⟨m, rfl, _⟩ := DataW.trod_bool Try.underlying4 hy
  exact ⟨m, rfl, trivial⟩) h
def ok56 (k : S56) : Prop := i64ok k.f0 ∧ k.f2.size ≤ maxLen
def ok54 (k : S54) : Prop := i64ok k.f0 ∧ i64ok k.f1
def ok87 (k : S87) : Prop := i64ok k.f0 ∧ i64ok k.f1
theorem open_kinds {fuel : Nat} {cs : List Value} {x : DataW H × List MemPlace} (h : DataW.trod enc Try.prog w base spare held fuel 22 cs = some x) :
  ∃ A cap l, cs = [.slice A l.length cap] ∧ InC k56 ok56 w A cap l :=
 open_C k56 ok56 Try.underlying22 (by kernel_rfl) (fun n cs y hl hy => by
  obtain ⟨c0, c1, c2, y0, y1, y2, n', rfl, h0, h1, h2⟩ := trod_fields3 Try.underlying56 (by kernel_rfl) (by kernel_rfl) hy
  obtain ⟨m0, e0, _, w0⟩ := DataW.trod_int Try.underlying3 h0
  obtain ⟨m1, e1, _⟩ := DataW.trod_bool Try.underlying4 h1
  obtain ⟨m2, e2, _, w2⟩ := DataW.trod_string Try.underlying9 h2
  simp only [List.cons.injEq, and_true] at e0 e1 e2
  subst e0
  subst e1
  subst e2
  exact ⟨⟨m0, m1, m2⟩, k56_mk w _, i64ok_of w0, w2⟩) h
theorem open_jumps {fuel : Nat} {cs : List Value} {x : DataW H × List MemPlace} (h : DataW.trod enc Try.prog w base spare held fuel 23 cs = some x) :
  ∃ A cap l, cs = [.slice A l.length cap] ∧ InC k54 ok54 w A cap l :=
 open_C k54 ok54 Try.underlying23 (by kernel_rfl) (fun n cs y hl hy => by
  obtain ⟨c0, c1, y0, y1, n', rfl, h0, h1⟩ := trod_fields2 Try.underlying54 (by kernel_rfl) (by kernel_rfl) hy
  obtain ⟨m0, e0, _, w0⟩ := DataW.trod_int (k := .i64) (by kernel_rfl) h0
  obtain ⟨m1, e1, _, w1⟩ := DataW.trod_int (k := .i64) (by kernel_rfl) h1
  simp only [List.cons.injEq, and_true] at e0 e1
  subst e0
  subst e1
  exact ⟨⟨m0, m1⟩, k54_mk w _, i64ok_of w0, i64ok_of w1⟩) h
theorem open_leaps {fuel : Nat} {cs : List Value} {x : DataW H × List MemPlace} (h : DataW.trod enc Try.prog w base spare held fuel 24 cs = some x) :
  ∃ A cap l, cs = [.slice A l.length cap] ∧ InC k87 ok87 w A cap l :=
 open_C k87 ok87 Try.underlying24 (by kernel_rfl) (fun n cs y hl hy => by
  obtain ⟨c0, c1, y0, y1, n', rfl, h0, h1⟩ := trod_fields2 Try.underlying87 (by kernel_rfl) (by kernel_rfl) hy
  obtain ⟨m0, e0, _, w0⟩ := DataW.trod_int (k := .i64) (by kernel_rfl) h0
  obtain ⟨m1, e1, _, w1⟩ := DataW.trod_int (k := .i64) (by kernel_rfl) h1
  simp only [List.cons.injEq, and_true] at e0 e1
  subst e0
  subst e1
  exact ⟨⟨m0, m1⟩, k87_mk w _, i64ok_of w0, i64ok_of w1⟩) h
structure InB (w : World) (AK : Option Addr) (cK : Nat) (K : List S56) (AJ : Option Addr) (cJ : Nat) (J : List S54) (AL : Option Addr) (cL : Nat) (L : List S87) (AS : Option Addr) (cS : Nat) (S : List Bool) (AU : Option Addr) (cU : Nat) (U : List Bool) : Prop where
 K : InC k56 ok56 w AK cK K
 J : InC k54 ok54 w AJ cJ J
 L : InC k87 ok87 w AL cL L
 S : InC Kd.bool (fun _ => True) w AS cS S
 U : InC Kd.bool (fun _ => True) w AU cU U
theorem open_block_cs {fuel : Nat} {cs : List Value} {x : DataW H × List MemPlace} (h : DataW.trod enc Try.prog w base spare held fuel 27 cs = some x) :
  ∃ AK cK K AJ cJ J AL cL L AS cS S AU cU U, cs = [.slice AK (K : List S56).length cK, .slice AJ (J : List S54).length cJ, .slice AL (L : List S87).length cL, .slice AS (S : List Bool).length cS, .slice AU (U : List Bool).length cU] ∧ InB w AK cK K AJ cJ J AL cL L AS cS S AU cU U := by
 obtain ⟨c0, c1, c2, c3, c4, y0, y1, y2, y3, y4, n', rfl, h0, h1, h2, h3, h4⟩ := trod_fields5 Try.underlying27 (by kernel_rfl) (by kernel_rfl) h
 obtain ⟨AK, cK, K, e0, iK⟩ := open_kinds h0
 obtain ⟨AJ, cJ, J, e1, iJ⟩ := open_jumps h1
 obtain ⟨AL, cL, L, e2, iL⟩ := open_leaps h2
 obtain ⟨AS, cS, S, e3, iS⟩ := open_bools' Try.underlying25 h3
 obtain ⟨AU, cU, U, e4, iU⟩ := open_bools' Try.underlying25 h4
 simp only [List.cons.injEq, and_true] at e0 e1 e2 e3 e4
 subst e0
 subst e1
 subst e2
 subst e3
 subst e4
 exact ⟨AK, cK, K, AJ, cJ, J, AL, cL, L, AS, cS, S, AU, cU, U, rfl, iK, iJ, iL, iS, iU⟩
end
end Go.Proofs.Ytdcgclhmfflheaa.PQ
