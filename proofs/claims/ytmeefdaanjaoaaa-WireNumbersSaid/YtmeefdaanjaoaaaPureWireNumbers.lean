/- The pure part of the statement WireNumbers: any number in parts: the program answers as the document does. -/
import Derived.Test.YtmeefdaanjaoaaaB
import Derived.Test.YtmeefdaanjaoaaaZ8
import Derived.Test.YtmeefdaanjaoaaaM20
namespace Go.Proofs.Ytmeefdaanjaoaaa.Z
open Go.RowKit Go.Proofs.YtmeefdaanjaoaaaW.PrintWords Go.Proofs.YtmeefdaanjaoaaaW.PrintLast Go.Proofs.Ytmeefdaanjaoaaa.M
set_option linter.unusedVariables false
set_option linter.unusedSimpArgs false

theorem wireNumbers (n : Int) : Ev (fun k => partitalaw15_WireNumbers.f k n) true := by
  unfold partitalaw15_WireNumbers.f
  refine Ev.bind awake_ev ?_
  by_cases h : 0 ≤ n ∧ n ≤ 268435455
  · refine Ev.bind (Ev.eq (vlq_f h.1 h.2)) (Ev.bind (Ev.at 6 fun k hk => refVlq_f k hk h.1 h.2) (Ev.yes rfl (Ev.yes rfl (Ev.now true))))
  · refine Ev.bind (Ev.eq (vlq_out (by omega))) (Ev.bind (Ev.at 6 fun k hk => refVlq_out k hk (by omega)) (Ev.yes rfl (Ev.yes rfl (Ev.now true))))
end Go.Proofs.Ytmeefdaanjaoaaa.Z
namespace Go.Proofs.Ytmeefdaanjaoaaa.Pure
open Go.RowKit Go.Proofs.Ytmeefdaanjaoaaa.M Go.Proofs.YtmeefdaanjaoaaaW.PrintWords Go.Proofs.YtmeefdaanjaoaaaW.PrintLast
theorem WireNumbers : partitalaw15_WireNumbers.Pure := fun n _ => Ev.rounds (Z.wireNumbers n)
end Go.Proofs.Ytmeefdaanjaoaaa.Pure
