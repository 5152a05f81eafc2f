/- The pure part of the statement WireRights: whether any message of at most 300 bytes of Data is right: the program answers as the document does. -/
import Derived.Test.YtmeefdaanjaoaaaB
import Derived.Test.YtmeefdaanjaoaaaZ8
import Derived.Test.YtmeefdaanjaoaaaM24
namespace Go.Proofs.Ytmeefdaanjaoaaa.Z
open Go.RowKit Go.Proofs.YtmeefdaanjaoaaaW.PrintWords Go.Proofs.YtmeefdaanjaoaaaW.PrintLast Go.Proofs.Ytmeefdaanjaoaaa.M
set_option linter.unusedVariables false
set_option linter.unusedSimpArgs false

theorem wireRights (m : Msg) : Ev (fun k => partitalaw15_WireRights.f k m.f0 m.f1 m.f2 m.f3 m.f4 m.f5) true := by
  unfold partitalaw15_WireRights.f
  refine Ev.bind awake_ev ?_
  by_cases c : (m.f5.size : Int) > 300
  · exact Ev.yes c (Ev.now true)
  · refine Ev.no c (Ev.yes rfl ?_)
    exact Ev.bind (Ev.at 6 fun k hk => right_f m k hk) (Ev.bind (Ev.at 6 fun k hk => refRight_f m k hk) (by simp only [beq_self_eq_true]; exact Ev.now true))
end Go.Proofs.Ytmeefdaanjaoaaa.Z
