/- Words printed by the kit (print.sh), only those that the laws here name. -/
import Derived.Test.YtmeefdaanjaoaaaWInv
import Derived.Test.YtmeefdaanjaoaaaWFootNe
namespace Go.Proofs.YtmeefdaanjaoaaaW.PrintWords
open Go.RowKit
end Go.Proofs.YtmeefdaanjaoaaaW.PrintWords
namespace Go.Proofs.YtmeefdaanjaoaaaW.PrintLast
section
variable {ops : Array Oper} {a : Act} {o og : Oper} {g : Nat} {t : Tmp} {u : Bool}
end
end Go.Proofs.YtmeefdaanjaoaaaW.PrintLast
