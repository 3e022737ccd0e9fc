/- Plain lists and numbers, for the law FlowRoutes: no program and no memory. -/
import Derived.Test.YtbonhjjhohbggaaPFlowRoutesx0
import Derived.Test.YtbonhjjhohbggaaPFlowRoutesx1
import Derived.Test.YtbonhjjhohbggaaPFlowRoutesx12
import Derived.Test.YtbonhjjhohbggaaMFlowRoutesBase
import Derived.Test.YtbonhjjhohbggaaMFlowRoutesFlowmath
import Derived.Test.YtbonhjjhohbggaaMFlowRoutesFlowfun
set_option linter.unusedVariables false
namespace Go.Proofs.Ytbonhjjhohbggaa.Pure
open Go.RowKit Go.Proofs.Ytbonhjjhohbggaa.PFlowRoutes Go.Proofs.YtbonhjjhohbggaaW.PrintWords Go.Proofs.YtbonhjjhohbggaaW.PrintLast
theorem excess_ev {n s t v : Int} {l : List S38} {f : List Int} (R : Right n s t l) (W : Within l f) (h1 : 1 ≤ v) (hn : v ≤ n) : Ev (fun k => flow_Excess.f k n s t l f v) (exc l f v, 0) := by
  obtain ⟨x, hx1, hx2, hx3⟩ := excesses_ev R W
  unfold flow_Excess.f
  refine Ev.bind (within_yes R W) ?_
  simp only [if_true]
  refine Ev.congr (f := fun k => (flow_excesses.f k n s t l f).bind fun x => if 0 ≤ v then if v < (x.length : Int) then some (rd x v, 0) else none else none) (fun k => by rw [if_neg (by omega), if_neg (by omega)]) ?_
  refine Ev.bind hx1 ?_
  refine Ev.congr (fun k => ?_) (Ev.now (exc l f v, 0))
  rw [if_pos (by omega), if_pos (by omega), hx3 v (by omega) hn]
end Go.Proofs.Ytbonhjjhohbggaa.Pure
