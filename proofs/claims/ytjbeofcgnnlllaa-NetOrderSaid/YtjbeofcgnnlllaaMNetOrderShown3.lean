/- Plain lists and numbers, for the law NetOrder: no program and no memory. -/
import Derived.Test.YtjbeofcgnnlllaaPNetOrderx3
import Derived.Test.YtjbeofcgnnlllaaPNetOrderx5
import Derived.Test.YtjbeofcgnnlllaaPNetOrderx6
import Derived.Test.YtjbeofcgnnlllaaPNetOrderx7
import Derived.Test.YtjbeofcgnnlllaaMNetOrderBase
set_option linter.unusedVariables false
namespace Go.Proofs.Ytjbeofcgnnlllaa.Pure
open Go.RowKit Go.Proofs.Ytjbeofcgnnlllaa.PNetOrder Go.Proofs.YtjbeofcgnnlllaaW.PrintWords Go.Proofs.YtjbeofcgnnlllaaW.PrintLast
theorem shown_true : racewaylaw3_shown.f = some true := by
  unfold racewaylaw3_shown.f
  simp [net_Check.f, chkArcs, net_Same.f, eqArcs]
end Go.Proofs.Ytjbeofcgnnlllaa.Pure
