/- The pure part of the statement WireBack: right messages, at most 20 of at most 300 bytes of Data, are told there and back. -/
import Derived.Test.YtmeefdaanjaoaaaB
import Derived.Test.YtmeefdaanjaoaaaM37
namespace Go.Proofs.Ytmeefdaanjaoaaa.Z
open Go.RowKit Go.Proofs.YtmeefdaanjaoaaaW.PrintWords Go.Proofs.YtmeefdaanjaoaaaW.PrintLast Go.Proofs.Ytmeefdaanjaoaaa.M
set_option linter.unusedVariables false
set_option linter.unusedSimpArgs false

theorem wireBack (l : List Msg) : Ev (fun k => partitalaw15_WireBack.f k l) true := by
  unfold partitalaw15_WireBack.f
  refine Ev.bind awake_ev ?_
  obtain ⟨b, hb, hf⟩ := few_ev l
  refine Ev.bind hb ?_
  cases b with
  | false => exact Ev.no (by decide) (Ev.now true)
  | true =>
    refine Ev.yes rfl ?_
    have ht := (hf rfl).tot
    have hlen := (hf rfl).1
    by_cases hr : Rights l
    · exact Ev.bind (encode_ok hr (by omega)) (Ev.bind (decode_enc hr (by omega)) (Ev.yes rfl (Ev.yes rfl (Ev.yes rfl (Ev.yes rfl (Ev.bind (same_self l (by omega)) (Ev.now true)))))))
    · refine Ev.bind (encode_err hr (by omega)) (Ev.bind (decode_ok (ms := []) (by rw [size_nil]; omega) (.nil 0)) (Ev.no (by decide) (Ev.yes rfl (Ev.yes nil_toList (Ev.now true)))))
end Go.Proofs.Ytmeefdaanjaoaaa.Z
