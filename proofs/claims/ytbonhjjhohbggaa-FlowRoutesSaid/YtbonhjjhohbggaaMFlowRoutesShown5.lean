/- Plain lists and numbers, for the law FlowRoutes: no program and no memory. -/
import Derived.Test.YtbonhjjhohbggaaPFlowRoutesx0
import Derived.Test.YtbonhjjhohbggaaPFlowRoutesx7
import Derived.Test.YtbonhjjhohbggaaMFlowRoutesBase
import Derived.Test.YtbonhjjhohbggaaMFlowRoutesFlowmath
import Derived.Test.YtbonhjjhohbggaaMFlowRoutesFlowfun
import Derived.Test.YtbonhjjhohbggaaMFlowRoutesValue
set_option linter.unusedVariables false
namespace Go.Proofs.Ytbonhjjhohbggaa.Pure
open Go.RowKit Go.Proofs.Ytbonhjjhohbggaa.PFlowRoutes Go.Proofs.YtbonhjjhohbggaaW.PrintWords Go.Proofs.YtbonhjjhohbggaaW.PrintLast
theorem shown_ev : Ev (fun k => racewaylaw5_shown.f k) true := by
  have R : Right 2 1 2 [(⟨1, 2, 5⟩ : S38)] := ⟨by omega, by omega, by omega, by omega, by omega, by omega, by omega, by simp, fun a ha => by
    obtain rfl := List.mem_singleton.1 ha
    exact ⟨by decide, by decide, by decide, by decide, by decide⟩, by decide⟩
  have F : IsFlow 2 1 2 [(⟨1, 2, 5⟩ : S38)] [3] := ⟨⟨by decide, by decide, trivial⟩, fun v h1 h2 h3 h4 => by omega⟩
  unfold racewaylaw5_shown.f
  refine Ev.bind (value_flow R F) ?_
  exact Ev.congr (fun k => by simp [exc]) (Ev.now true)
end Go.Proofs.Ytbonhjjhohbggaa.Pure
