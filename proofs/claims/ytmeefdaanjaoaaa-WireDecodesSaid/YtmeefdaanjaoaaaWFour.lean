/- Words printed by the kit (print.sh), only those that the laws here name. -/
import Derived.Test.YtmeefdaanjaoaaaWTab
namespace Go.Proofs.YtmeefdaanjaoaaaW.PrintLast
section
variable {P : Program} {ops : Array Oper} {Q : Exit → Act → World → Prop} {md : Region.Mode} {S : World → Prop} {ds : List Nat} {T : Bool × List (List Nat × List Nat)}
end
end Go.Proofs.YtmeefdaanjaoaaaW.PrintLast
