/- The pure part of the statement WireEncodes: the bytes of any messages, at most 20 of at most 300 bytes of Data: the program answers as the document does. -/
import Derived.Test.YtmeefdaanjaoaaaB
import Derived.Test.YtmeefdaanjaoaaaZ8E
import Derived.Test.YtmeefdaanjaoaaaM28
namespace Go.Proofs.Ytmeefdaanjaoaaa.Z
open Go.RowKit Go.Proofs.YtmeefdaanjaoaaaW.PrintWords Go.Proofs.YtmeefdaanjaoaaaW.PrintLast Go.Proofs.Ytmeefdaanjaoaaa.M
set_option linter.unusedVariables false
set_option linter.unusedSimpArgs false

theorem wireEncodes (l : List Msg) : Ev (fun k => partitalaw15_WireEncodes.f k l) true := by
  unfold partitalaw15_WireEncodes.f
  refine Ev.bind awake_ev ?_
  obtain ⟨b, hb, hf⟩ := few_ev l
  refine Ev.bind hb ?_
  cases b with
  | false => exact Ev.no (by decide) (Ev.now true)
  | true =>
    refine Ev.yes rfl ?_
    have ht := (hf rfl).tot
    by_cases hr : Rights l
    · exact Ev.bind (encode_ok hr (by omega)) (Ev.bind (refEncode_ok hr (by omega)) (Ev.yes rfl (Ev.yes rfl (Ev.now true))))
    · exact Ev.bind (encode_err hr (by omega)) (Ev.bind (refEncode_err hr (by omega)) (Ev.yes rfl (Ev.yes rfl (Ev.now true))))
end Go.Proofs.Ytmeefdaanjaoaaa.Z
