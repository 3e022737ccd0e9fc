/- Plain lists and numbers, for the law NetTurns: no program and no memory. -/
import Derived.Test.YtjbeofcgnnlllaaPNetTurnsx3
import Derived.Test.YtjbeofcgnnlllaaPNetTurnsx5
import Derived.Test.YtjbeofcgnnlllaaPNetTurnsx6
import Derived.Test.YtjbeofcgnnlllaaPNetTurnsx7
import Derived.Test.YtjbeofcgnnlllaaMNetTurnsBase
set_option linter.unusedVariables false
namespace Go.Proofs.Ytjbeofcgnnlllaa.Pure
open Go.RowKit Go.Proofs.Ytjbeofcgnnlllaa.PNetTurns Go.Proofs.YtjbeofcgnnlllaaW.PrintWords Go.Proofs.YtjbeofcgnnlllaaW.PrintLast
theorem shown_true : racewaylaw3_shown.f = some true := by
  unfold racewaylaw3_shown.f
  simp [net_Check.f, chkArcs, net_Same.f, eqArcs]
end Go.Proofs.Ytjbeofcgnnlllaa.Pure
