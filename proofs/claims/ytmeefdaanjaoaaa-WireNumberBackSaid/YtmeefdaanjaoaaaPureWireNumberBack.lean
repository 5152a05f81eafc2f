/- The statement WireNumberBack: a number in parts is told there and back, with whatever stands ahead of it and behind it, at most 500 bytes each. For every input. -/
import Derived.Test.YtmeefdaanjaoaaaM36
import Derived.Test.YtmeefdaanjaoaaaYWireNumberBack
namespace Go.Proofs.Ytmeefdaanjaoaaa.Pure
open Go.RowKit Go.Proofs.Ytmeefdaanjaoaaa.M Go.Proofs.YtmeefdaanjaoaaaW.PrintWords Go.Proofs.YtmeefdaanjaoaaaW.PrintLast
theorem WireNumberBack : partitalaw15_WireNumberBack.Pure := fun n s t _ _ _ => Ev.rounds (Z.wireNumberBack n s t)
end Go.Proofs.Ytmeefdaanjaoaaa.Pure
