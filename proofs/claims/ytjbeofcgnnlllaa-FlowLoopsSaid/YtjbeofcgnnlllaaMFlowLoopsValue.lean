/- Plain lists and numbers, for the law FlowLoops: no program and no memory. -/
import Derived.Test.YtjbeofcgnnlllaaPFlowLoopsx0
import Derived.Test.YtjbeofcgnnlllaaPFlowLoopsx5
import Derived.Test.YtjbeofcgnnlllaaPFlowLoopsx6
import Derived.Test.YtjbeofcgnnlllaaMFlowLoopsBase
import Derived.Test.YtjbeofcgnnlllaaMFlowLoopsFlowmath
import Derived.Test.YtjbeofcgnnlllaaMFlowLoopsFlowfun
set_option linter.unusedVariables false
namespace Go.Proofs.Ytjbeofcgnnlllaa.Pure
open Go.RowKit Go.Proofs.Ytjbeofcgnnlllaa.PFlowLoops Go.Proofs.YtjbeofcgnnlllaaW.PrintWords Go.Proofs.YtjbeofcgnnlllaaW.PrintLast
theorem value_flow {n s t : Int} {l : List S28} {f : List Int} (R : Right n s t l) (F : IsFlow n s t l f) : Ev (fun k => flow_Value.f k n s t l f) (exc l f t, 0) := by
  obtain ⟨x, h1, h2, h3⟩ := excesses_ev R F.within
  have ht1 := R.t1
  have htn := R.tn
  unfold flow_Value.f
  refine Ev.bind (check_flow R F) ?_
  simp only [if_true]
  refine Ev.bind h1 ?_
  refine Ev.congr (fun k => ?_) (Ev.now (exc l f t, 0))
  rw [if_pos (by omega), if_pos (by omega), h3 t (by omega) htn]
theorem value_err {n s t c : Int} {l : List S28} {f : List Int} (hc : Ev (fun k => flow_Check.f k n s t l f) c) (h : c ≠ 0) : Ev (fun k => flow_Value.f k n s t l f) (0, c) := by
  unfold flow_Value.f
  refine Ev.bind hc ?_
  exact Ev.congr (fun k => if_neg h) (Ev.now _)
end Go.Proofs.Ytjbeofcgnnlllaa.Pure
