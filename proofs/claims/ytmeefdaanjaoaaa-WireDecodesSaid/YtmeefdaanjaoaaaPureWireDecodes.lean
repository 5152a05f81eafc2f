/- The pure part of the statement WireDecodes: the messages of any bytes, at most 500, or where, and what, is wrong: the program answers as the document does. -/
import Derived.Test.YtmeefdaanjaoaaaB
import Derived.Test.YtmeefdaanjaoaaaZ89
import Derived.Test.YtmeefdaanjaoaaaM35
namespace Go.Proofs.Ytmeefdaanjaoaaa.Z
open Go.RowKit Go.Proofs.YtmeefdaanjaoaaaW.PrintWords Go.Proofs.YtmeefdaanjaoaaaW.PrintLast Go.Proofs.Ytmeefdaanjaoaaa.M
set_option linter.unusedVariables false
set_option linter.unusedSimpArgs false

theorem wireDecodes (s : ByteArray) : Ev (fun k => partitalaw15_WireDecodes.f k s) true := by
  unfold partitalaw15_WireDecodes.f
  refine Ev.bind awake_ev ?_
  by_cases c : (s.size : Int) > 500
  · exact Ev.yes c (Ev.now true)
  · refine Ev.no c ?_
    have hbl := bytesOf_length s
    rcases dec_or_bad (bytesOf s).length 0 (bytesOf s) (.inl rfl) (bytesOf_bytes s) (Nat.le_refl _) with ⟨ms, hd⟩ | ⟨e, n, hd⟩
    · have hlen := (enc_dec (.inl rfl) (bytesOf_bytes s) hd).2.2
      exact Ev.bind (decode_ok (by omega) hd) (Ev.bind (rdecode_ok (by omega) hd) (Ev.yes rfl (Ev.bind (same_self ms (by omega)) (Ev.yes rfl (Ev.yes rfl (Ev.now true))))))
    · exact Ev.bind (decode_err (by omega) hd) (Ev.bind (rdecode_err (by omega) hd) (Ev.yes rfl (Ev.bind (same_self [] (by simp)) (Ev.yes rfl (Ev.yes rfl (by simp only [beq_self_eq_true]; exact Ev.now true))))))
end Go.Proofs.Ytmeefdaanjaoaaa.Z
namespace Go.Proofs.Ytmeefdaanjaoaaa.Pure
open Go.RowKit Go.Proofs.Ytmeefdaanjaoaaa.M Go.Proofs.YtmeefdaanjaoaaaW.PrintWords Go.Proofs.YtmeefdaanjaoaaaW.PrintLast
theorem WireDecodes : partitalaw15_WireDecodes.Pure := fun s _ => Ev.rounds (Z.wireDecodes s)
end Go.Proofs.Ytmeefdaanjaoaaa.Pure
