/- The pure part of the statement WireReads: the number in parts that stands at any place of any text of at most 500 bytes: the program answers as the document does. -/
import Derived.Test.YtmeefdaanjaoaaaB
import Derived.Test.YtmeefdaanjaoaaaZ8
import Derived.Test.YtmeefdaanjaoaaaM22
namespace Go.Proofs.Ytmeefdaanjaoaaa.Z
open Go.RowKit Go.Proofs.YtmeefdaanjaoaaaW.PrintWords Go.Proofs.YtmeefdaanjaoaaaW.PrintLast Go.Proofs.Ytmeefdaanjaoaaa.M
set_option linter.unusedVariables false
set_option linter.unusedSimpArgs false

theorem wireReads (s : ByteArray) (a : Int) : Ev (fun k => partitalaw15_WireReads.f k s a) true := by
  unfold partitalaw15_WireReads.f
  refine Ev.bind awake_ev ?_
  by_cases c : (s.size : Int) > 500
  · exact Ev.yes c (Ev.now true)
  · refine Ev.no c ?_
    by_cases h : 0 ≤ a ∧ a ≤ s.size
    · exact Ev.bind (Ev.at 7 fun k hk => readVlq_f s a k hk h.1 h.2 (by omega)) (Ev.bind (Ev.at 7 fun k hk => refReadVlq_f s a k hk h.1 h.2 (by omega)) (Ev.yes rfl (Ev.yes rfl (Ev.yes rfl (by simp only [beq_self_eq_true]; exact Ev.now true)))))
    · exact Ev.bind (Ev.at 7 fun k hk => readVlq_out s a k hk (by omega)) (Ev.bind (Ev.at 7 fun k hk => refReadVlq_out s a k hk (by omega)) (Ev.yes rfl (Ev.yes rfl (Ev.yes rfl (Ev.now true)))))
end Go.Proofs.Ytmeefdaanjaoaaa.Z
namespace Go.Proofs.Ytmeefdaanjaoaaa.Pure
open Go.RowKit Go.Proofs.Ytmeefdaanjaoaaa.M Go.Proofs.YtmeefdaanjaoaaaW.PrintWords Go.Proofs.YtmeefdaanjaoaaaW.PrintLast
theorem WireReads : partitalaw15_WireReads.Pure := fun s a _ _ => Ev.rounds (Z.wireReads s a)
end Go.Proofs.Ytmeefdaanjaoaaa.Pure
