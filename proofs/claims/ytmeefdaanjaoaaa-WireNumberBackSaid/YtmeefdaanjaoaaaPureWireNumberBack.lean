/- The pure part of the statement WireNumberBack: a number in parts is told there and back, with whatever stands ahead of it and behind it, at most 500 bytes each. -/
import Derived.Test.YtmeefdaanjaoaaaB
import Derived.Test.YtmeefdaanjaoaaaM36
namespace Go.Proofs.Ytmeefdaanjaoaaa.Z
open Go.RowKit Go.Proofs.YtmeefdaanjaoaaaW.PrintWords Go.Proofs.YtmeefdaanjaoaaaW.PrintLast Go.Proofs.Ytmeefdaanjaoaaa.M
set_option linter.unusedVariables false
set_option linter.unusedSimpArgs false

theorem wireNumberBack (n : Int) (s t : ByteArray) : Ev (fun k => partitalaw15_WireNumberBack.f k n s t) true := by
  unfold partitalaw15_WireNumberBack.f
  refine Ev.bind awake_ev ?_
  have key : ∀ b : Bool, (b = false → s.size ≤ 500 ∧ t.size ≤ 500) → Ev (fun k => partitalaw15_WireNumberBack.j0 k n s t true b) true := by
    intro b hb
    refine Ev.step (fun k => rfl) ?_
    simp only [partitalaw15_WireNumberBack.j0, if_true]
    cases b with
    | true => exact Ev.yes rfl (Ev.now true)
    | false =>
      obtain ⟨h1, h2⟩ := hb rfl
      refine Ev.no (by decide) ?_
      by_cases h : 0 ≤ n ∧ n ≤ 268435455
      · have hl := (num_len n).2
        have hsz := str_size (num n)
        refine Ev.bind (Ev.eq (vlq_f h.1 h.2)) (Ev.yes rfl (Ev.yes (by show s.size + (strOfNums (num n)).size ≤ _; omega) ?_))
        have hsz2 : (s ++ strOfNums (num n)).size = s.size + (num n).length := by rw [size_eq, bytesOf_append, List.length_append, bytesOf_length, bytesOf_str (num_bytes h.1)]
        refine Ev.yes (by show (s ++ strOfNums (num n)).size + t.size ≤ _; omega) ?_
        have hsz3 : (s ++ strOfNums (num n) ++ t).size = s.size + (num n).length + t.size := by rw [size_eq, bytesOf_append, List.length_append, bytesOf_length, bytesOf_length, hsz2]
        have hans : vlqAns (s ++ strOfNums (num n) ++ t) ((bytesOf (s ++ strOfNums (num n) ++ t)).drop ((s.size : Int)).toNat) 4 0 = (n, (s.size : Int) + (num n).length, 0) := by
          rw [bytesOf_append, bytesOf_append, bytesOf_str (num_bytes h.1), List.append_assoc, Int.toNat_natCast, ← bytesOf_length s, List.drop_left]
          unfold vlqAns
          rw [vlq_num h.1 h.2]
          dsimp only
          rw [bytesOf_length, bytesOf_length, hsz3]
          refine congrArg (fun x => (n, x, (0 : Int))) ?_
          omega
        refine Ev.bind (Ev.ok (Ev.at 7 fun k hk => readVlq_f (s ++ strOfNums (num n) ++ t) (s.size : Int) k hk (by omega) (by omega) (by omega)) hans) ?_
        refine Ev.yes rfl (Ev.yes rfl (Ev.yes ?_ ?_))
        · show (s.size : Int) + (num n).length = wrap64 ((s.size : Int) + ((strOfNums (num n)).size : Int))
          rw [hsz, w64 (by omega) (by omega)]
        · refine Ev.eq ?_
          rw [decide_eq_true]
          show ((strOfNums (num n)).size : Int) ≤ 4
          omega
      · refine Ev.bind (Ev.eq (vlq_out (by omega))) (Ev.no (by decide) (Ev.yes nil_toList ?_))
        by_cases c : n < 0
        · exact Ev.yes c (Ev.now true)
        · refine Ev.no c (Ev.eq ?_)
          rw [decide_eq_true]
          omega
  by_cases c : (s.size : Int) > 500
  · exact Ev.yes c (key true (fun h => by cases h))
  · refine Ev.no c (key _ (fun h => ?_))
    rw [decide_eq_false_iff_not] at h
    omega
end Go.Proofs.Ytmeefdaanjaoaaa.Z
namespace Go.Proofs.Ytmeefdaanjaoaaa.Pure
open Go.RowKit Go.Proofs.Ytmeefdaanjaoaaa.M Go.Proofs.YtmeefdaanjaoaaaW.PrintWords Go.Proofs.YtmeefdaanjaoaaaW.PrintLast
theorem WireNumberBack : partitalaw15_WireNumberBack.Pure := fun n s t _ _ _ => Ev.rounds (Z.wireNumberBack n s t)
end Go.Proofs.Ytmeefdaanjaoaaa.Pure
