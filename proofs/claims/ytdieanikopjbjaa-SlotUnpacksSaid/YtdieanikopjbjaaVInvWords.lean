/- Words of the printer that this claim reaches. -/
import Derived.Test.YtdieanikopjbjaaVInv
import Derived.Test.YtdieanikopjbjaaVFootNe
namespace Go.Proofs.YtdieanikopjbjaaW.PrintWords
open Go.RowKit
end Go.Proofs.YtdieanikopjbjaaW.PrintWords
namespace Go.Proofs.YtdieanikopjbjaaW.PrintLast
section
variable {ops : Array Oper} {a : Act} {o og : Oper} {g : Nat} {t : Tmp} {u : Bool}
end
end Go.Proofs.YtdieanikopjbjaaW.PrintLast
