/- Plain lists and numbers, for the law NetSames: no program and no memory. -/
import Derived.Test.YtjbeofcgnnlllaaPNetSamesx3
import Derived.Test.YtjbeofcgnnlllaaPNetSamesx5
import Derived.Test.YtjbeofcgnnlllaaPNetSamesx6
import Derived.Test.YtjbeofcgnnlllaaPNetSamesx7
import Derived.Test.YtjbeofcgnnlllaaMNetSamesBase
set_option linter.unusedVariables false
namespace Go.Proofs.Ytjbeofcgnnlllaa.Pure
open Go.RowKit Go.Proofs.Ytjbeofcgnnlllaa.PNetSames Go.Proofs.YtjbeofcgnnlllaaW.PrintWords Go.Proofs.YtjbeofcgnnlllaaW.PrintLast
theorem shown_true : racewaylaw3_shown.f = some true := by
  unfold racewaylaw3_shown.f
  simp [net_Check.f, chkArcs, net_Same.f, eqArcs]
end Go.Proofs.Ytjbeofcgnnlllaa.Pure
