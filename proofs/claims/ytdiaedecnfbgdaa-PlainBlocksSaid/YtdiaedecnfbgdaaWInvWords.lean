-- words printed by the kit's print, cut to what this claim names
import Derived.Test.YtdiaedecnfbgdaaWInv
import Derived.Test.YtdiaedecnfbgdaaWFootNe
namespace Go.Proofs.YtdiaedecnfbgdaaW.PrintWords
open Go.RowKit
end Go.Proofs.YtdiaedecnfbgdaaW.PrintWords
namespace Go.Proofs.YtdiaedecnfbgdaaW.PrintLast
section
variable {ops : Array Oper} {a : Act} {o og : Oper} {g : Nat} {t : Tmp} {u : Bool}
end
end Go.Proofs.YtdiaedecnfbgdaaW.PrintLast
