import Derived.Test.YtdcgclhmfflheaaXbmPQ0
import Derived.Deep.Slices
import Derived.Deep.Fields
import Derived.ChangeSame
import Derived.Lib.SmallJoins
import Derived.ChangeOld
import Derived.Carry
import Derived.OpenShut
namespace Go.Proofs.Ytdcgclhmfflheaa.PQ
open Go.RowKit Go.Proofs.YtdcgclhmfflheaaW.PrintWords Go.ChangeShapes Go.WideShapes Go.Deep Go.Joins
set_option linter.unusedVariables false
set_option linter.unusedSimpArgs false
section
variable {H : Type} {enc : TypeId × Value → H} {w : World} {base : Nat} {spare : Nat → Bool} {held : Bool}
structure InC {α : Type} (d : Kd α) (Pr : α → Prop) (w : World) (A : Option Addr) (cap : Nat) (l : List α) : Prop where
  c : Kd.C d w A l.length l
  hc : l.length ≤ cap
  pr : ∀ x ∈ l, Pr x
  cm : cap ≤ maxLen
theorem open_C {α : Type} [Inhabited α] (d : Kd α) (Pr : α → Prop) {t e : TypeId} {fuel : Nat} {cs : List Value} {x : DataW H × List MemPlace} (ht : Try.prog.underlying t = some (.slice e)) (hC : Try.prog.cellsOf e = d.sz)
    (dec : ∀ (n : Nat) (cs : List Value) (y : DataW H × List MemPlace), cs.length = d.sz → DataW.trod enc Try.prog w base spare held n e cs = some y → ∃ x, d.K w x cs ∧ Pr x)
    (h : DataW.trod enc Try.prog w base spare held fuel t cs = some x) : ∃ A cap l, cs = [.slice A l.length cap] ∧ InC d Pr w A cap l := by
  rcases DataW.trod_slice ht h with ⟨rfl, _⟩ | ⟨a, len, cap, elems, rest, n, _, rfl, rfl, hb, hl, hm, hlen, hel, hsp, hns⟩
  · exact ⟨none, 0, [], rfl, ⟨rfl, by simp, fun h => absurd h (Nat.lt_irrefl 0)⟩, Nat.le_refl _, fun _ h => (by cases h), Nat.zero_le _⟩
  · have hex : ∀ i, ∃ x : α, i < len → ∃ c : List Value, c.length = d.sz ∧ d.K w x c ∧ Pr x ∧ ∀ j u, c[j]? = some u → w.cell? (a.add (i * d.sz + j)) = some u := by
      intro i
      by_cases hi : i < len
      · have h1 := hel i hi
        rw [List.getElem?_eq_getElem (by omega), Option.bind_eq_some_iff] at h1
        obtain ⟨c, hc, hy⟩ := h1
        obtain ⟨_, hcl, hat⟩ := World.cells?_some hc
        rw [hC] at hcl
        obtain ⟨x, hx, hp⟩ := dec n c _ hcl hy
        refine ⟨x, fun _ => ⟨c, hcl, hx, hp, fun j u hu => ?_⟩⟩
        have hj : j < d.sz := by have := (List.getElem?_eq_some_iff.1 hu).1; omega
        have := hat j (by rw [hC]; exact hj)
        rw [hC, Go.Deep.add_add] at this
        rw [this, hu]
      · exact ⟨default, fun h => absurd h hi⟩
    obtain ⟨f, hf⟩ : ∃ f : Nat → α, ∀ i, i < len → ∃ c : List Value, c.length = d.sz ∧ d.K w (f i) c ∧ Pr (f i) ∧ ∀ j u, c[j]? = some u → w.cell? (a.add (i * d.sz + j)) = some u := ⟨fun i => Classical.choose (hex i), fun i => Classical.choose_spec (hex i)⟩
    have hll : ((List.range len).map f).length = len := by simp
    refine ⟨some a, cap, (List.range len).map f, by rw [hll], ⟨rfl, ?_, fun _ => ⟨a, rfl, fun j p hj => ?_⟩⟩, by rw [hll]; exact hl, fun x hx => ?_, hm⟩
    · rw [hll]; unfold maxLen at hm; omega
    · rw [List.getElem?_map, Option.map_eq_some_iff] at hj
      obtain ⟨i, hi, rfl⟩ := hj
      have hi2 : i = j ∧ j < len := by
        have h3 := List.getElem?_eq_some_iff.1 hi
        obtain ⟨h4, h5⟩ := h3
        rw [List.getElem_range] at h5
        rw [List.length_range] at h4
        exact ⟨h5.symm, h4⟩
      obtain ⟨rfl, hlt⟩ := hi2
      obtain ⟨c, h1, h2, _, h3⟩ := hf i hlt
      exact ⟨c, h1, h2, h3⟩
    · obtain ⟨i, hi, rfl⟩ := List.mem_map.1 hx
      obtain ⟨c, _, _, h3, _⟩ := hf i (List.mem_range.1 hi)
      exact h3
instance : Inhabited S56 := ⟨z56⟩
instance : Inhabited S54 := ⟨⟨0, 0⟩⟩
instance : Inhabited S87 := ⟨⟨0, 0⟩⟩
theorem open_bools' {t : TypeId} {fuel : Nat} {cs : List Value} {x : DataW H × List MemPlace} (ht : Try.prog.underlying t = some (.slice 4)) (h : DataW.trod enc Try.prog w base spare held fuel t cs = some x) :
    ∃ A cap l, cs = [.slice A l.length cap] ∧ InC Kd.bool (fun _ => True) w A cap l :=
  open_C Kd.bool _ ht (by kernel_rfl) (fun n cs y _ hy => by
    obtain ⟨m, rfl, _⟩ := DataW.trod_bool Try.underlying4 hy
    exact ⟨m, rfl, trivial⟩) h
end
end Go.Proofs.Ytdcgclhmfflheaa.PQ
