/- Plain lists and numbers, for the law FlowRoutes: no program and no memory. -/
import Derived.Test.YtbonhjjhohbggaaPFlowRoutesx0
import Derived.Test.YtbonhjjhohbggaaMFlowRoutesBase
set_option linter.unusedVariables false
namespace Go.Proofs.Ytbonhjjhohbggaa.Pure
open Go.RowKit Go.Proofs.Ytbonhjjhohbggaa.PFlowRoutes Go.Proofs.YtbonhjjhohbggaaW.PrintWords Go.Proofs.YtbonhjjhohbggaaW.PrintLast
theorem sumCap_le {l : List S38} (h : ∀ a ∈ l, a.f2 < 1000000) : sumCap l ≤ 1000000 * l.length := by
  induction l with
  | nil => simp [sumCap]
  | cons a l ih =>
    have h1 := ih (fun x hx => h x (List.mem_cons_of_mem _ hx))
    have h2 := h a List.mem_cons_self
    simp only [sumCap, List.length_cons]; omega
end Go.Proofs.Ytbonhjjhohbggaa.Pure
