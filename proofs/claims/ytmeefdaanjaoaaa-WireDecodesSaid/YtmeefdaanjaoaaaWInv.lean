/- Words printed by the kit (print.sh), only those that the laws here name. -/
import Derived.Test.YtmeefdaanjaoaaaWTab
namespace Go.Proofs.YtmeefdaanjaoaaaW.PrintLast
section
variable {P : Program} {ops : Array Oper} {Q : Exit → Act → World → Prop} {md : Region.Mode} {T : Bool × List (List Nat × List Nat)} {B : List Nat} {O : List Nat} {b : Nat → Bool} {i j n : Nat}
end
end Go.Proofs.YtmeefdaanjaoaaaW.PrintLast
