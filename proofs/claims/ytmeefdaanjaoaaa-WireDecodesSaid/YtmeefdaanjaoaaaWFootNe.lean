/- Words printed by the kit (print.sh), only those that the laws here name. -/
import Derived.Test.YtmeefdaanjaoaaaWN
namespace Go.Proofs.YtmeefdaanjaoaaaW.PrintWords
open Go.RowKit
namespace Kd
section
variable {α : Type} {d : Kd α} {W : World} {g n : Nat} {S ok : Nat → Prop} {A : Option Addr} {ad : Addr} {xs : List α}
end
end Kd
end Go.Proofs.YtmeefdaanjaoaaaW.PrintWords
