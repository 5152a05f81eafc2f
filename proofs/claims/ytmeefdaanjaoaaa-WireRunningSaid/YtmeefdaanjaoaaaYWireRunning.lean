/- The pure part of the statement WireRunning: of keys of one channel, down and up by a kind, but one byte of status stands ahead of all. -/
import Derived.Test.YtmeefdaanjaoaaaB
import Derived.Test.YtmeefdaanjaoaaaM41
namespace Go.Proofs.Ytmeefdaanjaoaaa.Z
open Go.RowKit Go.Proofs.YtmeefdaanjaoaaaW.PrintWords Go.Proofs.YtmeefdaanjaoaaaW.PrintLast Go.Proofs.Ytmeefdaanjaoaaa.M
set_option linter.unusedVariables false
set_option linter.unusedSimpArgs false

theorem plain_append : ∀ (a : List Msg) (m : Msg), plainLen (a ++ [m]) = plainLen a + ((num m.f0).length + 2)
  | [], m => by simp [plainLen]
  | x :: a, m => by
    rw [List.cons_append]
    simp only [plainLen]
    rw [plain_append a m]
    omega
theorem run_kind {kind : Int} (h1 : 0 ≤ kind) (h2 : kind ≤ 255) : wrap64 (8 + (Int.tmod (wrap64 kind) 4)) = 8 + kind % 4 := by
  rw [w64 (x := kind) (by omega) (by omega), Int.tmod_eq_emod_of_nonneg h1]
  exact w64 (by omega) (by omega)
theorem run_ch {ch : Int} (h3 : 0 ≤ ch) (h4 : ch ≤ 255) : Int.tmod (wrap64 ch) 16 = ch % 16 := by
  rw [w64 (x := ch) (by omega) (by omega), Int.tmod_eq_emod_of_nonneg h3]
theorem wireRunning (l : List Msg) (kind ch : Int) (h1 : 0 ≤ kind) (h2 : kind ≤ 255) (h3 : 0 ≤ ch) (h4 : ch ≤ 255) : Ev (fun k => partitalaw15_WireRunning.f k l kind ch) true := by
  unfold partitalaw15_WireRunning.f
  refine Ev.bind awake_ev ?_
  obtain ⟨b, hb, hf⟩ := few_ev l
  refine Ev.bind hb ?_
  cases b with
  | false => exact Ev.no (by decide) (Ev.now true)
  | true =>
    refine Ev.yes rfl ?_
    have hlen := (hf rfl).1
    have loop : ∀ (j i : Nat) (one : List Msg), i + j = l.length → one.length ≤ i → Rights one → (∀ m ∈ one, m.f1 = 8 + kind % 4 ∧ m.f2 = ch % 16 ∧ m.f5.size = 0) →
        Ev (fun k => partitalaw15_WireRunning.l0 k l kind ch true one ((plainLen one : Nat) : Int) (i : Int)) true := by
      intro j
      induction j with
      | zero =>
        intro i one hi ho hr hk
        refine Ev.step (fun k => rfl) ?_
        simp only [partitalaw15_WireRunning.l0, if_true]
        refine Ev.no (by omega) ?_
        have htot : tot one ≤ one.length * 10 := by
          clear hr ho
          induction one with
          | nil => simp [tot]
          | cons m ms ih =>
            have e1 := (hk m (by simp)).2.2
            have e2 := ih (fun x hx => hk x (by simp [hx]))
            simp only [tot, List.length_cons]
            omega
        refine Ev.bind (encode_ok hr (by omega)) (Ev.yes rfl ?_)
        by_cases h0 : one = []
        · subst h0
          refine Ev.yes rfl (Ev.yes ?_ (Ev.now true))
          exact nil_toList
        · have hl := List.length_pos_iff.2 h0
          refine Ev.no (by omega) (Ev.eq ?_)
          have e := enc_running0 (kind := 8 + kind % 4) (ch := ch % 16) (by omega) (by omega) hr (fun m hm => ⟨(hk m hm).1, (hk m hm).2.1⟩) h0
          have et := enc_tot one 0
          refine congrArg some ?_
          rw [beq_iff_eq]
          show ((strOfNums (enc 0 one)).size : Int) = _
          rw [str_size, e, w64 (by omega) (by omega)]
          omega
      | succ j ih =>
        intro i one hi ho hr hk
        have e1 : wrap64 ((i : Int) + 1) = ((i + 1 : Nat) : Int) := by rw [w64 (by omega) (by omega)]; omega
        refine Ev.step (fun k => rfl) ?_
        simp only [partitalaw15_WireRunning.l0, if_true]
        rw [run_kind h1 h2, run_ch h3 h4, e1]
        refine Ev.yes (by omega) (Ev.yes (by omega) ?_)
        generalize hm : rd_T31 l (i : Int) = x
        by_cases hx : Right ⟨x.f0, 8 + kind % 4, ch % 16, x.f3, x.f4, ⟨#[]⟩⟩
        · refine Ev.bind (Ev.ok (Ev.at 6 fun k hk => right_f ⟨x.f0, 8 + kind % 4, ch % 16, x.f3, x.f4, ⟨#[]⟩⟩ k hk) (decide_eq_true hx)) (Ev.yes rfl ?_)
          refine Ev.bind (Ev.eq (vlq_f hx.1 hx.2.1)) (Ev.yes (by omega) ?_)
          have hp := plain_append one ⟨x.f0, 8 + kind % 4, ch % 16, x.f3, x.f4, ⟨#[]⟩⟩
          have hn := (num_len x.f0).2
          have hb : plainLen one ≤ 6 * one.length := by
            clear hr ho hk hp
            induction one with
            | nil => simp [plainLen]
            | cons m ms ih =>
              have := (num_len m.f0).2
              simp only [plainLen, List.length_cons]
              omega
          have ew : wrap64 (wrap64 (((plainLen one : Nat) : Int) + ((strOfNums (num x.f0)).size : Int)) + 2) = ((plainLen (one ++ [⟨x.f0, 8 + kind % 4, ch % 16, x.f3, x.f4, ⟨#[]⟩⟩]) : Nat) : Int) := by
            rw [str_size, w64 (x := ((plainLen one : Nat) : Int) + (((num x.f0).length : Nat) : Int)) (by omega) (by omega), w64 (by omega) (by omega), hp]
            dsimp only
            omega
          dsimp only
          rw [ew]
          refine ih (i + 1) _ (by omega) (by rw [List.length_append, List.length_singleton]; omega) ?_ ?_
          · rw [rights_append]
            exact ⟨hr, Rights.cons hx Rights.nil⟩
          · intro m hm
            rcases List.mem_append.1 hm with hm | hm
            · exact hk m hm
            · rw [List.mem_singleton] at hm
              subst hm
              exact ⟨rfl, rfl, rfl⟩
        · refine Ev.bind (Ev.ok (Ev.at 6 fun k hk => right_f ⟨x.f0, 8 + kind % 4, ch % 16, x.f3, x.f4, ⟨#[]⟩⟩ k hk) (decide_eq_false hx)) (Ev.no (by decide) ?_)
          exact ih (i + 1) one (by omega) (by omega) hr hk
    exact loop l.length 0 [] (by omega) (by simp) Rights.nil (fun m hm => by cases hm)
end Go.Proofs.Ytmeefdaanjaoaaa.Z
