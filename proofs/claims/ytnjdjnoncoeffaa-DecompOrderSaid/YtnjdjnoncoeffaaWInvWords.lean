-- words printed by the kit's print, cut to what this claim names
import Derived.Test.YtnjdjnoncoeffaaWInv
import Derived.Test.YtnjdjnoncoeffaaWFootNe
namespace Go.Proofs.YtnjdjnoncoeffaaW.PrintWords
open Go.RowKit
end Go.Proofs.YtnjdjnoncoeffaaW.PrintWords
namespace Go.Proofs.YtnjdjnoncoeffaaW.PrintLast
section
variable {ops : Array Oper} {a : Act} {o og : Oper} {g : Nat} {t : Tmp} {u : Bool}
end
end Go.Proofs.YtnjdjnoncoeffaaW.PrintLast
