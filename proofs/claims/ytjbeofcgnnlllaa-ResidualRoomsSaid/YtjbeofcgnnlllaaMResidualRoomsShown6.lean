/- Plain lists and numbers, for the law ResidualRooms: no program and no memory. -/
import Derived.Test.YtjbeofcgnnlllaaPResidualRoomsx0
import Derived.Test.YtjbeofcgnnlllaaPResidualRoomsx6
import Derived.Test.YtjbeofcgnnlllaaPResidualRoomsx7
import Derived.Test.YtjbeofcgnnlllaaMResidualRoomsBase
import Derived.Test.YtjbeofcgnnlllaaMResidualRoomsFlowmath
import Derived.Test.YtjbeofcgnnlllaaMResidualRoomsFlowfun
set_option linter.unusedVariables false
namespace Go.Proofs.Ytjbeofcgnnlllaa.Pure
open Go.RowKit Go.Proofs.Ytjbeofcgnnlllaa.PResidualRooms Go.Proofs.YtjbeofcgnnlllaaW.PrintWords Go.Proofs.YtjbeofcgnnlllaaW.PrintLast
theorem shown_ev : Ev (fun k => racewaylaw6_shown.f k) true := by
  have R : Right 2 1 2 [(⟨1, 2, 5⟩ : S28)] := ⟨by omega, by omega, by omega, by omega, by omega, by omega, by omega, by simp, fun a ha => by
    obtain rfl := List.mem_singleton.1 ha
    exact ⟨by decide, by decide, by decide, by decide, by decide⟩, by decide⟩
  have F : IsFlow 2 1 2 [(⟨1, 2, 5⟩ : S28)] [3] := ⟨⟨by decide, by decide, trivial⟩, fun v h1 h2 h3 h4 => by omega⟩
  unfold racewaylaw6_shown.f
  have hroom : Ev (fun k => residual_Room.f k 2 1 2 [(⟨1, 2, 5⟩ : S28)] [3]) ([2, 3], 0) := by
    unfold residual_Room.f
    refine Ev.bind (check_flow R F) ?_
    exact Ev.congr (fun k => by simp [roomOf, wrap64]) (Ev.now ([2, 3], 0))
  refine Ev.bind hroom ?_
  exact Ev.congr (fun k => by simp [rd]) (Ev.now true)
end Go.Proofs.Ytjbeofcgnnlllaa.Pure
