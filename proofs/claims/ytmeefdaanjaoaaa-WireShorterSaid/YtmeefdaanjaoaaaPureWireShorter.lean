/- The statement WireShorter: bytes that are messages', at most 500, are told as no more bytes than they were; each message is right. For every input. -/
import Derived.Test.YtmeefdaanjaoaaaM38
import Derived.Test.YtmeefdaanjaoaaaYWireShorter
namespace Go.Proofs.Ytmeefdaanjaoaaa.Pure
open Go.RowKit Go.Proofs.Ytmeefdaanjaoaaa.M Go.Proofs.YtmeefdaanjaoaaaW.PrintWords Go.Proofs.YtmeefdaanjaoaaaW.PrintLast
theorem WireShorter : partitalaw15_WireShorter.Pure := fun s _ => Ev.rounds (Z.wireShorter s)
end Go.Proofs.Ytmeefdaanjaoaaa.Pure
