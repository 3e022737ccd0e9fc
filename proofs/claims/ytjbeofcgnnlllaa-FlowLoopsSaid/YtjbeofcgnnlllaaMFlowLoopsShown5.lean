/- Plain lists and numbers, for the law FlowLoops: no program and no memory. -/
import Derived.Test.YtjbeofcgnnlllaaPFlowLoopsx0
import Derived.Test.YtjbeofcgnnlllaaPFlowLoopsx7
import Derived.Test.YtjbeofcgnnlllaaMFlowLoopsBase
import Derived.Test.YtjbeofcgnnlllaaMFlowLoopsFlowmath
import Derived.Test.YtjbeofcgnnlllaaMFlowLoopsFlowfun
import Derived.Test.YtjbeofcgnnlllaaMFlowLoopsValue
set_option linter.unusedVariables false
namespace Go.Proofs.Ytjbeofcgnnlllaa.Pure
open Go.RowKit Go.Proofs.Ytjbeofcgnnlllaa.PFlowLoops Go.Proofs.YtjbeofcgnnlllaaW.PrintWords Go.Proofs.YtjbeofcgnnlllaaW.PrintLast
theorem shown_ev : Ev (fun k => racewaylaw5_shown.f k) true := by
  have R : Right 2 1 2 [(⟨1, 2, 5⟩ : S28)] := ⟨by omega, by omega, by omega, by omega, by omega, by omega, by omega, by simp, fun a ha => by
    obtain rfl := List.mem_singleton.1 ha
    exact ⟨by decide, by decide, by decide, by decide, by decide⟩, by decide⟩
  have F : IsFlow 2 1 2 [(⟨1, 2, 5⟩ : S28)] [3] := ⟨⟨by decide, by decide, trivial⟩, fun v h1 h2 h3 h4 => by omega⟩
  unfold racewaylaw5_shown.f
  refine Ev.bind (value_flow R F) ?_
  exact Ev.congr (fun k => by simp [exc]) (Ev.now true)
end Go.Proofs.Ytjbeofcgnnlllaa.Pure
