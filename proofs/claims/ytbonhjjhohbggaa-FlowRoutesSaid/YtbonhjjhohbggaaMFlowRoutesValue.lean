/- Plain lists and numbers, for the law FlowRoutes: no program and no memory. -/
import Derived.Test.YtbonhjjhohbggaaPFlowRoutesx0
import Derived.Test.YtbonhjjhohbggaaPFlowRoutesx5
import Derived.Test.YtbonhjjhohbggaaPFlowRoutesx6
import Derived.Test.YtbonhjjhohbggaaMFlowRoutesBase
import Derived.Test.YtbonhjjhohbggaaMFlowRoutesFlowmath
import Derived.Test.YtbonhjjhohbggaaMFlowRoutesFlowfun
set_option linter.unusedVariables false
namespace Go.Proofs.Ytbonhjjhohbggaa.Pure
open Go.RowKit Go.Proofs.Ytbonhjjhohbggaa.PFlowRoutes Go.Proofs.YtbonhjjhohbggaaW.PrintWords Go.Proofs.YtbonhjjhohbggaaW.PrintLast
theorem value_flow {n s t : Int} {l : List S38} {f : List Int} (R : Right n s t l) (F : IsFlow n s t l f) : Ev (fun k => flow_Value.f k n s t l f) (exc l f t, 0) := by
  obtain ⟨x, h1, h2, h3⟩ := excesses_ev R F.within
  have ht1 := R.t1
  have htn := R.tn
  unfold flow_Value.f
  refine Ev.bind (check_flow R F) ?_
  simp only [if_true]
  refine Ev.bind h1 ?_
  refine Ev.congr (fun k => ?_) (Ev.now (exc l f t, 0))
  rw [if_pos (by omega), if_pos (by omega), h3 t (by omega) htn]
theorem value_err {n s t c : Int} {l : List S38} {f : List Int} (hc : Ev (fun k => flow_Check.f k n s t l f) c) (h : c ≠ 0) : Ev (fun k => flow_Value.f k n s t l f) (0, c) := by
  unfold flow_Value.f
  refine Ev.bind hc ?_
  exact Ev.congr (fun k => if_neg h) (Ev.now _)
end Go.Proofs.Ytbonhjjhohbggaa.Pure
