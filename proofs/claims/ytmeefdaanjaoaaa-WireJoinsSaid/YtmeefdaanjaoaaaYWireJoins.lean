/- The pure part of the statement WireJoins: messages behind others are told by their bytes behind the others', but for a status byte that is left out. -/
import Derived.Test.YtmeefdaanjaoaaaB
import Derived.Test.YtmeefdaanjaoaaaM39
namespace Go.Proofs.Ytmeefdaanjaoaaa.Z
open Go.RowKit Go.Proofs.YtmeefdaanjaoaaaW.PrintWords Go.Proofs.YtmeefdaanjaoaaaW.PrintLast Go.Proofs.Ytmeefdaanjaoaaa.M
set_option linter.unusedVariables false
set_option linter.unusedSimpArgs false

theorem joins_fin {X Y W y z w : Nat} (hall : X = y + w) (hy : Y = y) (hz : W = z) (hb : y + z ≤ 1000000) (hc : w = z ∨ w + 1 = z) :
    (if (X : Int) = wrap64 ((Y : Int) + (W : Int)) then some true else some ((X : Int) == wrap64 (wrap64 ((Y : Int) + (W : Int)) - 1))) = some true := by
  subst hall hy hz
  have e1 : wrap64 ((Y : Int) + (W : Int)) = (Y : Int) + W := w64 (by omega) (by omega)
  have e2 : wrap64 ((Y : Int) + (W : Int) - 1) = (Y : Int) + W - 1 := w64 (by omega) (by omega)
  rw [e1, e2]
  by_cases c : ((Y + w : Nat) : Int) = (Y : Int) + W
  · rw [if_pos c]
  · rw [if_neg c]
    refine congrArg some ?_
    rw [beq_iff_eq]
    omega
theorem wireJoins (a b : List Msg) : Ev (fun k => partitalaw15_WireJoins.f k a b) true := by
  unfold partitalaw15_WireJoins.f
  refine Ev.bind awake_ev ?_
  obtain ⟨fa, ha, hfa⟩ := few_ev a
  obtain ⟨fb, hb, hfb⟩ := few_ev b
  have key : ∀ x : Bool, (x = false → FewP a ∧ FewP b) → Ev (fun k => partitalaw15_WireJoins.j0 k a b true x) true := by
    intro x hx
    refine Ev.step (fun k => rfl) ?_
    simp only [partitalaw15_WireJoins.j0, if_true]
    cases x with
    | true => exact Ev.yes rfl (Ev.now true)
    | false =>
      obtain ⟨h1, h2⟩ := hx rfl
      have t1 := h1.tot
      have t2 := h2.tot
      have l1 := h1.1
      have l2 := h2.1
      have t3 := tot_append a b
      refine Ev.no (by decide) ?_
      have encs : ∀ l : List Msg, tot l ≤ 20000 → Ev (fun k => wire_Encode.f k l) (if Rights l then (strOfNums (enc 0 l), 0) else (⟨#[]⟩, 151)) := by
        intro l hl
        by_cases hr : Rights l
        · rw [if_pos hr]; exact encode_ok hr (by omega)
        · rw [if_neg hr]; exact encode_err hr (by omega)
      by_cases hr : Rights a ∧ Rights b
      · obtain ⟨ra, rb⟩ := hr
        have rab : Rights ([] ++ a ++ b) := by rw [List.nil_append]; exact rights_append.2 ⟨ra, rb⟩
        refine Ev.bind (encode_ok ra (by omega)) (Ev.bind (encode_ok rb (by omega)) (Ev.bind (Ev.now []) (Ev.yes (by simp; omega) (Ev.bind (Ev.now ([] ++ a)) (Ev.yes (by simp; omega) (Ev.bind (encode_ok rab (by rw [List.nil_append]; omega)) (Ev.yes rfl ?_)))))))
        refine Ev.step (fun k => rfl) ?_
        simp only [partitalaw15_WireJoins.j1, if_true]
        have ea := enc_tot a 0
        have eb := enc_tot b 0
        have sa := str_size (enc 0 a)
        have sb := str_size (enc 0 b)
        refine Ev.no (by decide) (Ev.yes (by omega) ?_)
        have hby : bytesOf (strOfNums (enc 0 a) ++ strOfNums (enc 0 b)) = enc 0 a ++ enc 0 b := by rw [bytesOf_append, enc_str_bytes ra, enc_str_bytes rb]
        have hsz : (strOfNums (enc 0 a) ++ strOfNums (enc 0 b)).size = (enc 0 a).length + (enc 0 b).length := by rw [size_eq, hby, List.length_append]
        have hd : Dec 0 (bytesOf (strOfNums (enc 0 a) ++ strOfNums (enc 0 b))) (a ++ b) := by
          rw [hby]
          exact dec_enc ra (.inl rfl) (dec_enc0 rb (.inr rfl))
        refine Ev.bind (decode_ok (by omega) hd) (Ev.yes rfl (Ev.bind (Ev.now []) (Ev.yes (by simp; omega) (Ev.bind (Ev.now ([] ++ a)) (Ev.yes (by simp; omega) ?_)))))
        rw [List.nil_append]
        refine Ev.bind (same_self (a ++ b) (by rw [List.length_append]; omega)) (Ev.yes rfl ?_)
        have hall : (strOfNums (enc 0 (a ++ b))).size = (enc 0 a).length + (enc (lastOf 0 a) b).length := by rw [str_size, enc_append, List.length_append]
        have hcase := enc_last rb (lastOf 0 a) (lastOf_ok ra (.inl rfl))
        exact Ev.eq (joins_fin hall sa sb (by omega) hcase)
      · have rab : ¬ Rights ([] ++ a ++ b) := by rw [List.nil_append, rights_append]; exact hr
        refine Ev.bind (encs a (by omega)) (Ev.bind (encs b (by omega)) (Ev.bind (Ev.now []) (Ev.yes (by simp; omega) (Ev.bind (Ev.now ([] ++ a)) (Ev.yes (by simp; omega) (Ev.bind (encode_err rab (by rw [List.nil_append]; omega)) ?_))))))
        have fin : ∀ x y, Ev (fun k => partitalaw15_WireJoins.j1 k a b true x y ⟨#[]⟩ 151 true) true := by
          intro x y
          refine Ev.step (fun k => rfl) ?_
          simp only [partitalaw15_WireJoins.j1, if_true]
          exact Ev.now true
        by_cases ra : Rights a
        · rw [if_pos ra]
          refine Ev.yes rfl ?_
          have rb : ¬ Rights b := fun rb => hr ⟨ra, rb⟩
          rw [if_neg rb]
          exact fin _ _
        · rw [if_neg ra]
          exact Ev.no (by decide) (fin _ _)
  refine Ev.bind ha ?_
  cases fa with
  | false => exact Ev.no (by decide) (key true (fun h => by cases h))
  | true =>
    refine Ev.yes rfl (Ev.bind hb (key _ (fun h => ?_)))
    have : fb = true := by cases fb; simp at h; rfl
    exact ⟨hfa rfl, hfb this⟩
end Go.Proofs.Ytmeefdaanjaoaaa.Z
