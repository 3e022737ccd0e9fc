/- Plain lists and numbers, for the law ResidualSteps: no program and no memory. -/
import Derived.Test.YtbppeffcikphcaaPResidualStepsx0
import Derived.Test.YtbppeffcikphcaaPResidualStepsx6
import Derived.Test.YtbppeffcikphcaaPResidualStepsx7
import Derived.Test.YtbppeffcikphcaaMResidualStepsBase
import Derived.Test.YtbppeffcikphcaaMResidualStepsFlowmath
import Derived.Test.YtbppeffcikphcaaMResidualStepsFlowfun
set_option linter.unusedVariables false
namespace Go.Proofs.Ytbppeffcikphcaa.Pure
open Go.RowKit Go.Proofs.Ytbppeffcikphcaa.PResidualSteps Go.Proofs.YtbppeffcikphcaaW.PrintWords Go.Proofs.YtbppeffcikphcaaW.PrintLast
theorem shown_ev : Ev (fun k => racewaylaw6_shown.f k) true := by
  have R : Right 2 1 2 [(⟨1, 2, 5⟩ : S49)] := ⟨by omega, by omega, by omega, by omega, by omega, by omega, by omega, by simp, fun a ha => by
    obtain rfl := List.mem_singleton.1 ha
    exact ⟨by decide, by decide, by decide, by decide, by decide⟩, by decide⟩
  have F : IsFlow 2 1 2 [(⟨1, 2, 5⟩ : S49)] [3] := ⟨⟨by decide, by decide, trivial⟩, fun v h1 h2 h3 h4 => by omega⟩
  unfold racewaylaw6_shown.f
  have hroom : Ev (fun k => residual_Room.f k 2 1 2 [(⟨1, 2, 5⟩ : S49)] [3]) ([2, 3], 0) := by
    unfold residual_Room.f
    refine Ev.bind (check_flow R F) ?_
    exact Ev.congr (fun k => by simp [roomOf, wrap64]) (Ev.now ([2, 3], 0))
  refine Ev.bind hroom ?_
  exact Ev.congr (fun k => by simp [rd]) (Ev.now true)
end Go.Proofs.Ytbppeffcikphcaa.Pure
