/- The pure part of the statement WireCut: of bytes that are cut off all messages that are whole are right, and the place that is told is where the first one begins that isn't. -/
import Derived.Test.YtmeefdaanjaoaaaB
import Derived.Test.YtmeefdaanjaoaaaM40
namespace Go.Proofs.Ytmeefdaanjaoaaa.Z
open Go.RowKit Go.Proofs.YtmeefdaanjaoaaaW.PrintWords Go.Proofs.YtmeefdaanjaoaaaW.PrintLast Go.Proofs.Ytmeefdaanjaoaaa.M
set_option linter.unusedVariables false
set_option linter.unusedSimpArgs false

theorem wireCut (l : List Msg) (n : Int) (hn : 0 ≤ n) (hn2 : n ≤ 65535) : Ev (fun k => partitalaw15_WireCut.f k l n) true := by
  unfold partitalaw15_WireCut.f
  refine Ev.bind awake_ev ?_
  obtain ⟨b, hb, hf⟩ := few_ev l
  refine Ev.bind hb ?_
  cases b with
  | false => exact Ev.no (by decide) (Ev.now true)
  | true =>
    refine Ev.yes rfl ?_
    have ht := (hf rfl).tot
    have hlen := (hf rfl).1
    by_cases hr : Rights l
    · refine Ev.bind (encode_ok hr (by omega)) (Ev.yes rfl ?_)
      have he := enc_tot l 0
      have hs := str_size (enc 0 l)
      generalize hbq : (((strOfNums (enc 0 l)).size : Int) == 0) = bq
      refine Ev.step (fun k => rfl) ?_
      simp only [partitalaw15_WireCut.j0, if_true]
      cases bq with
      | true => exact Ev.yes rfl (Ev.now true)
      | false =>
        have hpos : ¬ ((strOfNums (enc 0 l)).size : Int) = 0 := by simpa using hbq
        have ew : wrap64 n = n := w64 (by omega) (by omega)
        have em : Int.tmod n ((strOfNums (enc 0 l)).size : Int) = n % ((strOfNums (enc 0 l)).size : Int) := Int.tmod_eq_emod_of_nonneg hn
        rw [ew, em]
        have k0 : 0 ≤ n % ((strOfNums (enc 0 l)).size : Int) := Int.emod_nonneg _ hpos
        have k1 : n % ((strOfNums (enc 0 l)).size : Int) < ((strOfNums (enc 0 l)).size : Int) := Int.emod_lt_of_pos _ (by omega)
        generalize hkk : n % ((strOfNums (enc 0 l)).size : Int) = kk at *
        obtain ⟨q, rfl⟩ : ∃ q : Nat, kk = (q : Int) := ⟨kk.toNat, by omega⟩
        refine Ev.no (by decide) (Ev.no hpos (Ev.yes k0 (Ev.yes (by omega) ?_)))
        have hby : ∀ i : Nat, bytesOf ((strOfNums (enc 0 l)).extract 0 i) = (enc 0 l).take i := by
          intro i
          rw [bytesOf_extract, enc_str_bytes hr, List.drop_zero, Nat.sub_zero]
        have hsz : ∀ i : Nat, ((strOfNums (enc 0 l)).extract 0 i).size = min i (enc 0 l).length := by
          intro i
          rw [size_eq, hby, List.length_take]
        obtain ⟨j, hj, hd⟩ := dec_cut hr (l := 0) q (by omega)
        have hlj : (l.take j).length = j := by rw [List.length_take]; omega
        rw [Int.toNat_natCast]
        rcases hd with hd | ⟨m, h1, h2, h3, h4⟩
        · refine Ev.bind (decode_ok (by rw [hsz]; omega) (by rw [hby]; exact hd)) (Ev.yes rfl ?_)
          dsimp only
          rw [hlj]
          refine Ev.yes (by omega) (Ev.yes (by omega) (Ev.yes (by omega) ?_))
          rw [Int.toNat_natCast]
          exact Ev.bind (same_self _ (by omega)) (Ev.now true)
        · refine Ev.bind (decode_err (by rw [hsz]; omega) (by rw [hby]; exact h3)) (Ev.no (show ¬ (152 : Int) = 0 by decide) ?_)
          have ea : (((strOfNums (enc 0 l)).extract 0 q).size : Int) - (m : Int) = ((q - m : Nat) : Int) := by rw [hsz]; omega
          dsimp only
          rw [ea]
          refine Ev.no (by omega) ?_
          refine Ev.step (fun k => rfl) ?_
          simp only [partitalaw15_WireCut.j1, if_true]
          refine Ev.no (by rw [decide_eq_true_eq]; omega) (Ev.yes (by omega) (Ev.yes (by omega) ?_))
          rw [Int.toNat_natCast]
          refine Ev.bind (decode_ok (by rw [hsz]; omega) (by rw [hby]; exact h4)) (Ev.yes rfl ?_)
          dsimp only
          rw [hlj]
          refine Ev.yes (by omega) (Ev.yes (by omega) (Ev.yes (by omega) ?_))
          rw [Int.toNat_natCast]
          exact Ev.bind (same_self _ (by omega)) (Ev.now true)
    · refine Ev.bind (encode_err hr (by omega)) (Ev.no (by decide) ?_)
      refine Ev.step (fun k => rfl) ?_
      simp only [partitalaw15_WireCut.j0, if_true]
      exact Ev.now true
end Go.Proofs.Ytmeefdaanjaoaaa.Z
