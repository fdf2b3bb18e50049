import Derived.Test.YtmgmdnmfalepkaaWInv
import Derived.Test.YtmgmdnmfalepkaaWFootNe
namespace Go.Proofs.YtmgmdnmfalepkaaW.PrintWords
open Go.RowKit
end Go.Proofs.YtmgmdnmfalepkaaW.PrintWords
namespace Go.Proofs.YtmgmdnmfalepkaaW.PrintLast
section
variable {ops : Array Oper} {a : Act} {o og : Oper} {g : Nat} {t : Tmp} {u : Bool}
end
end Go.Proofs.YtmgmdnmfalepkaaW.PrintLast
