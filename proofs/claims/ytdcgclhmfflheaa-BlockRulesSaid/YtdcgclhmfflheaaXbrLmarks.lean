import Derived.Test.YtdcgclhmfflheaaXbrLright
namespace Go.Proofs.Ytdcgclhmfflheaa.PQ
open Go.RowKit Go.Proofs.YtdcgclhmfflheaaW.PrintWords
set_option linter.unusedVariables false
set_option linter.unusedSimpArgs false
theorem all_on {α : Type} (l : List α) (f g : α → Bool) (h : ∀ x, x ∈ l → f x = g x) : l.all f = l.all g := by
  induction l with
  | nil => rfl
  | cons a l ih => rw [List.all_cons, List.all_cons, h a List.mem_cons_self, ih (fun x hx => h x (List.mem_cons_of_mem _ hx))]
end Go.Proofs.Ytdcgclhmfflheaa.PQ
