/- The pure part of TurnsPlain: bars that say nothing are played once, in order, with signs that nothing leads to, too. -/
import Derived.Test.YtendmmagjjhfnaaYTurnsPlain
namespace Go.Proofs.Ytendmmagjjhfnaa.Pure
open Go.RowKit Go.Proofs.Ytendmmagjjhfnaa.M Go.Proofs.YtendmmagjjhfnaaW.PrintWords Go.Proofs.YtendmmagjjhfnaaW.PrintLast
theorem TurnsPlain : partitalaw10_TurnsPlain.Pure := Z.turnsPlain_pure
end Go.Proofs.Ytendmmagjjhfnaa.Pure
