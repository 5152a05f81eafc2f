/- The pure part of the statement WireShorter: bytes that are messages', at most 500, are told as no more bytes than they were; each message is right. -/
import Derived.Test.YtmeefdaanjaoaaaB
import Derived.Test.YtmeefdaanjaoaaaM38
namespace Go.Proofs.Ytmeefdaanjaoaaa.Z
open Go.RowKit Go.Proofs.YtmeefdaanjaoaaaW.PrintWords Go.Proofs.YtmeefdaanjaoaaaW.PrintLast Go.Proofs.Ytmeefdaanjaoaaa.M
set_option linter.unusedVariables false
set_option linter.unusedSimpArgs false

theorem wireShorter (s : ByteArray) : Ev (fun k => partitalaw15_WireShorter.f k s) true := by
  unfold partitalaw15_WireShorter.f
  refine Ev.bind awake_ev ?_
  by_cases c : (s.size : Int) > 500
  · exact Ev.yes c (Ev.now true)
  · refine Ev.no c ?_
    have hbl := bytesOf_length s
    rcases dec_or_bad (bytesOf s).length 0 (bytesOf s) (.inl rfl) (bytesOf_bytes s) (Nat.le_refl _) with ⟨ms, hd⟩ | ⟨e, n, hd⟩
    · obtain ⟨hr, he, hlen⟩ := enc_dec (.inl rfl) (bytesOf_bytes s) hd
      refine Ev.bind (decode_ok (by omega) hd) (Ev.yes rfl ?_)
      have htot : tot ms ≤ 1000000000 := by
        have : ∀ l : List Msg, Rights l → tot l ≤ l.length * 100010 := by
          intro l hl
          induction l with
          | nil => simp [tot]
          | cons m l ih =>
            have h1 := hl.head.2.2.1
            have h2 := ih hl.tail
            simp only [tot, List.length_cons]
            omega
        have := this ms hr
        omega
      have loop : ∀ (j i : Nat), i + j = ms.length → Ev (fun k => partitalaw15_WireShorter.l0 k s true ms (i : Int)) true := by
        intro j
        induction j with
        | zero =>
          intro i hi
          refine Ev.step (fun k => rfl) ?_
          simp only [partitalaw15_WireShorter.l0, if_true]
          refine Ev.no (by omega) ?_
          refine Ev.bind (encode_ok hr htot) (Ev.bind (decode_enc hr htot) (Ev.yes rfl (Ev.yes rfl (Ev.yes ?_ (Ev.bind (same_self ms (by omega)) (Ev.now true))))))
          show ((strOfNums (enc 0 ms)).size : Int) ≤ (s.size : Int)
          rw [str_size]
          omega
        | succ j ih =>
          intro i hi
          have hri : Right (rd_T31 ms (i : Int)) := by
            have h1 := rd_drop ms i (by omega)
            exact hr _ (List.mem_of_mem_drop (by rw [h1]; simp))
          have e1 : wrap64 ((i : Int) + 1) = ((i + 1 : Nat) : Int) := by rw [w64 (by omega) (by omega)]; omega
          refine Ev.step (fun k => rfl) ?_
          simp only [partitalaw15_WireShorter.l0, if_true]
          refine Ev.yes (by omega) (Ev.yes (by omega) ?_)
          refine Ev.bind (Ev.ok (Ev.at 6 fun k hk => right_f _ k hk) (decide_eq_true hri)) (Ev.yes rfl ?_)
          rw [e1]
          exact ih (i + 1) (by omega)
      exact loop ms.length 0 (by omega)
    · have he : e ≠ 0 := bad_e hd
      exact Ev.bind (decode_err (by omega) hd) (Ev.no he (Ev.yes rfl (Ev.now true)))
end Go.Proofs.Ytmeefdaanjaoaaa.Z
namespace Go.Proofs.Ytmeefdaanjaoaaa.Pure
open Go.RowKit Go.Proofs.Ytmeefdaanjaoaaa.M Go.Proofs.YtmeefdaanjaoaaaW.PrintWords Go.Proofs.YtmeefdaanjaoaaaW.PrintLast
theorem WireShorter : partitalaw15_WireShorter.Pure := fun s _ => Ev.rounds (Z.wireShorter s)
end Go.Proofs.Ytmeefdaanjaoaaa.Pure
