/- Plain lists and numbers, for the law NetDegrees: no program and no memory. -/
import Derived.Test.YtjbeofcgnnlllaaPNetDegreesx3
import Derived.Test.YtjbeofcgnnlllaaPNetDegreesx5
import Derived.Test.YtjbeofcgnnlllaaPNetDegreesx6
import Derived.Test.YtjbeofcgnnlllaaPNetDegreesx7
import Derived.Test.YtjbeofcgnnlllaaMNetDegreesBase
set_option linter.unusedVariables false
namespace Go.Proofs.Ytjbeofcgnnlllaa.Pure
open Go.RowKit Go.Proofs.Ytjbeofcgnnlllaa.PNetDegrees Go.Proofs.YtjbeofcgnnlllaaW.PrintWords Go.Proofs.YtjbeofcgnnlllaaW.PrintLast
theorem shown_true : racewaylaw3_shown.f = some true := by
  unfold racewaylaw3_shown.f
  simp [net_Check.f, chkArcs, net_Same.f, eqArcs]
end Go.Proofs.Ytjbeofcgnnlllaa.Pure
