import Derived.Test.YteodhffgnkdcfaaWInv
import Derived.Test.YteodhffgnkdcfaaWFootNe
namespace Go.Proofs.YteodhffgnkdcfaaW.PrintWords
open Go.RowKit
end Go.Proofs.YteodhffgnkdcfaaW.PrintWords
namespace Go.Proofs.YteodhffgnkdcfaaW.PrintLast
section
variable {ops : Array Oper} {a : Act} {o og : Oper} {g : Nat} {t : Tmp} {u : Bool}
end
end Go.Proofs.YteodhffgnkdcfaaW.PrintLast
