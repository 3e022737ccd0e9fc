/- Plain lists and numbers, for the law FlowLoops: no program and no memory. -/
import Derived.Test.YtjbeofcgnnlllaaPFlowLoopsx0
import Derived.Test.YtjbeofcgnnlllaaPFlowLoopsx3
import Derived.Test.YtjbeofcgnnlllaaPFlowLoopsx12
import Derived.Test.YtjbeofcgnnlllaaMFlowLoopsBase
import Derived.Test.YtjbeofcgnnlllaaMFlowLoopsFlowmath
import Derived.Test.YtjbeofcgnnlllaaMFlowLoopsFlowfun
set_option linter.unusedVariables false
namespace Go.Proofs.Ytjbeofcgnnlllaa.Pure
open Go.RowKit Go.Proofs.Ytjbeofcgnnlllaa.PFlowLoops Go.Proofs.YtjbeofcgnnlllaaW.PrintWords Go.Proofs.YtjbeofcgnnlllaaW.PrintLast
theorem excess_ev {n s t v : Int} {l : List S28} {f : List Int} (R : Right n s t l) (W : Within l f) (h1 : 1 ≤ v) (hn : v ≤ n) : Ev (fun k => flow_Excess.f k n s t l f v) (exc l f v, 0) := by
  obtain ⟨x, hx1, hx2, hx3⟩ := excesses_ev R W
  unfold flow_Excess.f
  refine Ev.bind (within_yes R W) ?_
  simp only [if_true]
  refine Ev.congr (f := fun k => (flow_excesses.f k n s t l f).bind fun x => if 0 ≤ v then if v < (x.length : Int) then some (rd x v, 0) else none else none) (fun k => by rw [if_neg (by omega), if_neg (by omega)]) ?_
  refine Ev.bind hx1 ?_
  refine Ev.congr (fun k => ?_) (Ev.now (exc l f v, 0))
  rw [if_pos (by omega), if_pos (by omega), hx3 v (by omega) hn]
end Go.Proofs.Ytjbeofcgnnlllaa.Pure
