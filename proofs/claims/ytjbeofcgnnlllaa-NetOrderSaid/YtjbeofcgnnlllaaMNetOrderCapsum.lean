/- Plain lists and numbers, for the law NetOrder: no program and no memory. -/
import Derived.Test.YtjbeofcgnnlllaaPNetOrderx0
import Derived.Test.YtjbeofcgnnlllaaMNetOrderBase
set_option linter.unusedVariables false
namespace Go.Proofs.Ytjbeofcgnnlllaa.Pure
open Go.RowKit Go.Proofs.Ytjbeofcgnnlllaa.PNetOrder Go.Proofs.YtjbeofcgnnlllaaW.PrintWords Go.Proofs.YtjbeofcgnnlllaaW.PrintLast
theorem sumCap_le {l : List S28} (h : ∀ a ∈ l, a.f2 < 1000000) : sumCap l ≤ 1000000 * l.length := by
  induction l with
  | nil => simp [sumCap]
  | cons a l ih =>
    have h1 := ih (fun x hx => h x (List.mem_cons_of_mem _ hx))
    have h2 := h a List.mem_cons_self
    simp only [sumCap, List.length_cons]; omega
end Go.Proofs.Ytjbeofcgnnlllaa.Pure
