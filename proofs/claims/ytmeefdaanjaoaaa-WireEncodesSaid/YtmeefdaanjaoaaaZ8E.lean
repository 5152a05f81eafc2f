/- The document's own Encode answers as the plain model. -/
import Derived.Test.YtmeefdaanjaoaaaZ8
import Derived.Test.YtmeefdaanjaoaaaM27
namespace Go.Proofs.Ytmeefdaanjaoaaa.Z
open Go.RowKit Go.Proofs.YtmeefdaanjaoaaaW.PrintWords Go.Proofs.YtmeefdaanjaoaaaW.PrintLast Go.Proofs.Ytmeefdaanjaoaaa.M
set_option linter.unusedVariables false
set_option linter.unusedSimpArgs false

/-! ### Encode -/
theorem refStatus_f (m : Msg) (h : Right m) : partitaref15_status.f m.f0 m.f1 m.f2 m.f3 m.f4 m.f5 = some (if m.f1 = 16 then 255 else if m.f1 = 15 then m.f3 else 16 * m.f1 + m.f2) := by
  obtain ⟨f0, f1, f2, f3, f4, f5⟩ := m
  obtain ⟨h0, h1, h2, h⟩ := h
  dsimp only at h0 h1 h2 h ⊢
  unfold partitaref15_status.f
  rw [w64 (x := 16 * f1) (by omega) (by omega), w64 (by omega) (by omega)]
  split
  · rfl
  · split <;> rfl

/-- The status byte behind the messages ahead of place i. -/
def prevL (l : List Msg) (i : Nat) : Int := if i = 0 then 0 else nextL (rd_T31 l ((i : Int) - 1))
theorem prevL_succ (l : List Msg) (i : Nat) : prevL l (i + 1) = nextL (rd_T31 l (i : Int)) := by
  unfold prevL
  rw [if_neg (by omega), show ((i + 1 : Nat) : Int) - 1 = (i : Int) by omega]
theorem str1 (x : Int) : (strOfNums [x]).size = 1 := by rw [str_size]; rfl
theorem refEncode_step (k : Nat) (out : List Int) (l : List Msg) (i : Nat) (hi : i < l.length) (hk : 10 ≤ k) (hl : l.length ≤ 1000000000) (hr : Right (rd_T31 l (i : Int))) (hp : ∀ j, j < i → Right (rd_T31 l (j : Int)))
    (ho : out.length + (rd_T31 l (i : Int)).f5.size + 10 ≤ 2000000000) :
    partitaref15_Encode.l0 (k + 4) l (strOfNums out) (i : Int) = partitaref15_Encode.l0 k l (strOfNums (out ++ encOne (prevL l i) (rd_T31 l (i : Int)))) ((i + 1 : Nat) : Int) := by
  have e1 : wrap64 ((i : Int) + 1) = ((i + 1 : Nat) : Int) := by rw [w64 (by omega) (by omega)]; omega
  have em1 : wrap64 ((i : Int) - 1) = (i : Int) - 1 := w64 (by omega) (by omega)
  have hst := refStatus_f _ hr
  have hprev : 0 < i → Right (rd_T31 l ((i : Int) - 1)) := fun h0 => by
    have := hp (i - 1) (by omega)
    rwa [show ((i - 1 : Nat) : Int) = (i : Int) - 1 by omega] at this
  have hpst : 0 < i → partitaref15_status.f _ _ _ _ _ _ = _ := fun h0 => refStatus_f _ (hprev h0)
  have hrk := refRight_f (rd_T31 l (i : Int)) (k + 3) (by omega)
  generalize hm : rd_T31 l (i : Int) = m at *
  have hR := hr
  obtain ⟨f0, f1, f2, f3, f4, f5⟩ := m
  obtain ⟨h0, h1, h2, h⟩ := hr
  dsimp only at h0 h1 h2 h ho hst hrk ⊢
  have hn := (num_len f0).2
  have hn2 := (num_len f5.size).2
  have hbl := bytesOf_length f5
  have e3 : f3 % 256 = f3 := by omega
  have e4 : f4 % 256 = f4 := by omega
  have hjoin : ∀ a b : List Int, strOfNums a ++ strOfNums b = strOfNums (a ++ b) := fun a b => (str_append a b).symm
  -- what stands behind the status byte
  have hj2 : ∀ (k : Nat) (o : List Int), o.length + f5.size + 8 ≤ 3000000000 → partitaref15_Encode.j2 (k + 2) l (strOfNums o) (i : Int) (strOfNums (num f5.size)) f0 f1 f2 f3 f4 f5 =
      partitaref15_Encode.l0 k l (strOfNums (o ++ (if f1 = 15 then num f5.size ++ bytesOf f5 else if f1 = 16 then f3 :: (num f5.size ++ bytesOf f5) else f3 :: (if f1 = 12 ∨ f1 = 13 then [] else [f4])))) ((i + 1 : Nat) : Int) := by
    intro k o ho2
    simp only [partitaref15_Encode.j2, partitaref15_Encode.j3]
    rw [e3, e4, e1]
    by_cases c15 : f1 = 15
    · rw [if_pos c15, if_pos c15, if_pos (by omega), if_pos (by rw [str_size, str_size]; omega), hjoin, if_pos (by rw [str_size, List.length_append]; omega)]
      rw [show f5 = strOfNums (bytesOf f5) from (str_bytesOf f5).symm, hjoin, bytesOf_str (bytesOf_bytes f5), str_bytesOf]
      rw [List.append_assoc]
    · rw [if_neg c15, if_neg c15, Option.bind_some, if_pos (by rw [str_size, str1]; omega), hjoin]
      by_cases c16 : f1 = 16
      · rw [if_pos c16, if_pos (by omega), if_pos (by rw [str_size, str_size, List.length_append]; simp; omega), hjoin, if_pos (by rw [str_size, List.length_append, List.length_append]; simp; omega)]
        rw [show f5 = strOfNums (bytesOf f5) from (str_bytesOf f5).symm, hjoin, bytesOf_str (bytesOf_bytes f5), str_bytesOf]
        simp only [List.append_assoc, List.cons_append, List.nil_append]
      · rw [if_neg c16, if_neg (by omega)]
        by_cases c12 : f1 = 12 ∨ f1 = 13
        · rw [if_pos c12]
          by_cases d : f1 = 12
          · rw [if_pos d]
          · rw [if_neg d, if_pos (by omega)]
        · rw [if_neg c12, if_neg (by omega), if_neg (by omega), Option.bind_some, if_pos (by rw [str_size, str1, List.length_append]; simp; omega), hjoin]
          simp only [List.append_assoc, List.cons_append, List.nil_append]
  have hj1 : ∀ (b : Bool) (o : List Int), o.length + f5.size + 9 ≤ 2500000000 → partitaref15_Encode.j1 (k + 3) l (strOfNums o) (i : Int) (strOfNums (num f5.size)) b f0 f1 f2 f3 f4 f5 =
      partitaref15_Encode.l0 k l (strOfNums (o ++ ((if b = true then [if f1 = 16 then 255 else if f1 = 15 then f3 else 16 * f1 + f2] else []) ++ (if f1 = 15 then num f5.size ++ bytesOf f5 else if f1 = 16 then f3 :: (num f5.size ++ bytesOf f5) else f3 :: (if f1 = 12 ∨ f1 = 13 then [] else [f4]))))) ((i + 1 : Nat) : Int) := by
    intro b o ho2
    simp only [partitaref15_Encode.j1]
    have es : (if f1 = 16 then (255 : Int) else if f1 = 15 then f3 else 16 * f1 + f2) % 256 = (if f1 = 16 then 255 else if f1 = 15 then f3 else 16 * f1 + f2) := by
      split
      · rfl
      · split
        · exact e3
        · omega
    cases b with
    | true =>
      rw [if_pos rfl, if_pos rfl, hst, Option.bind_some, es, Option.bind_some, if_pos (by rw [str_size, str1]; omega), hjoin, hj2 k _ (by rw [List.length_append]; simp; omega), List.append_assoc]
    | false =>
      rw [if_neg (by decide), if_neg (by decide), hj2 k _ (by omega), List.nil_append]
  simp only [partitaref15_Encode.l0]
  rw [if_pos (by omega), if_pos (by omega), hm]
  dsimp only
  rw [hrk, decide_eq_true hR, Option.bind_some, if_pos rfl, refVlq_f _ (by omega) h0 h1, Option.bind_some, refVlq_f _ (by omega) (by omega) (by omega), Option.bind_some]
  dsimp only
  rw [if_pos (by rw [str_size, str_size]; omega), hjoin]
  have hone : ∀ b : Bool, ((b = true) ↔ (15 ≤ f1 ∨ 16 * f1 + f2 ≠ prevL l i)) → out ++ encOne (prevL l i) ⟨f0, f1, f2, f3, f4, f5⟩ = (out ++ num f0) ++ ((if b = true then [if f1 = 16 then 255 else if f1 = 15 then f3 else 16 * f1 + f2] else []) ++ (if f1 = 15 then num f5.size ++ bytesOf f5 else if f1 = 16 then f3 :: (num f5.size ++ bytesOf f5) else f3 :: (if f1 = 12 ∨ f1 = 13 then [] else [f4]))) := by
    intro b hb
    unfold encOne
    dsimp only
    by_cases c16 : f1 = 16
    · rw [if_pos c16, if_pos (hb.2 (.inl (by omega))), if_pos c16, if_neg (by omega), if_pos c16]
      simp only [List.append_assoc, List.cons_append, List.nil_append]
    · rw [if_neg c16]
      by_cases c15 : f1 = 15
      · rw [if_pos c15, if_pos (hb.2 (.inl (by omega))), if_neg c16, if_pos c15, if_pos c15]
        simp only [List.append_assoc, List.cons_append, List.nil_append]
      · rw [if_neg c15, if_neg c15, if_neg c16]
        by_cases c : 16 * f1 + f2 = prevL l i
        · rw [if_pos c, if_neg (show ¬ b = true from fun hh => by rcases hb.1 hh with x | x; omega; exact x c), if_neg c15, if_neg c16]
          simp only [List.append_assoc]
        · rw [if_neg c, if_pos (show b = true from hb.2 (.inr c)), if_neg c16, if_neg c15]
          simp only [List.append_assoc]
  by_cases c15 : f1 ≥ 15
  · rw [if_pos c15, hj1 true _ (by rw [List.length_append]; omega), hone true ⟨fun _ => .inl c15, fun _ => rfl⟩]
  · rw [if_neg c15]
    have hst2 : (if f1 = 16 then (255 : Int) else if f1 = 15 then f3 else 16 * f1 + f2) = 16 * f1 + f2 := by rw [if_neg (by omega), if_neg (by omega)]
    by_cases ci : (i : Int) = 0
    · rw [if_pos ci, hj1 true _ (by rw [List.length_append]; omega), hone true ⟨fun _ => .inr (by unfold prevL; rw [if_pos (by omega)]; omega), fun _ => rfl⟩]
    · rw [if_neg ci, em1, if_pos (by omega), if_pos (by omega)]
      have hpi := hprev (by omega)
      have hpe : prevL l i = nextL (rd_T31 l ((i : Int) - 1)) := by unfold prevL; rw [if_neg (by omega)]
      by_cases cp : (rd_T31 l ((i : Int) - 1)).f1 ≥ 15
      · rw [if_pos cp, hj1 true _ (by rw [List.length_append]; omega), hone true ⟨fun _ => .inr ?_, fun _ => rfl⟩]
        rw [hpe]
        obtain ⟨_, _, _, hh⟩ := hpi
        unfold nextL
        split
        · omega
        · rw [if_pos (by omega)]; omega
      · rw [if_neg cp, hpst (by omega), Option.bind_some, hst, Option.bind_some, hj1 _ _ (by rw [List.length_append]; omega), hone _ ?_]
        rw [bne_iff_ne, hst2, hpe]
        unfold nextL
        rw [if_neg (by omega), if_neg (by omega), if_neg (by omega), if_neg (by omega)]
        omega

theorem refEncode_l0 (l : List Msg) (hl : l.length ≤ 1000000000) : ∀ (j i : Nat) (out : List Int) (k : Nat), i + j = l.length → (∀ q, q < i → Right (rd_T31 l (q : Int))) → Rights (l.drop i) → out.length + tot (l.drop i) ≤ 1000000000 → 4 * j + 15 < k →
    partitaref15_Encode.l0 k l (strOfNums out) (i : Int) = some (strOfNums (out ++ enc (prevL l i) (l.drop i)), 0)
  | 0, i, out, k, hj, _, _, _, hk => by
    obtain ⟨k, rfl⟩ : ∃ m, k = m + 1 := ⟨k - 1, by omega⟩
    simp only [partitaref15_Encode.l0]
    rw [if_neg (by omega), List.drop_of_length_le (by omega), enc_nil, List.append_nil]
  | j + 1, i, out, k, hj, hq, hr, ho, hk => by
    obtain ⟨k, rfl⟩ : ∃ m, k = m + 4 := ⟨k - 4, by omega⟩
    have hi : i < l.length := by omega
    rw [rd_drop l i hi] at hr ho ⊢
    simp only [tot] at ho
    rw [refEncode_step k out l i hi (by omega) hl hr.head hq (by omega)]
    have hsz := encOne_size (prevL l i) (rd_T31 l (i : Int))
    have hq2 : ∀ q, q < i + 1 → Right (rd_T31 l (q : Int)) := fun q h => by
      by_cases c : q = i
      · rw [c]; exact hr.head
      · exact hq q (by omega)
    rw [refEncode_l0 l hl j (i + 1) _ k (by omega) hq2 hr.tail (by rw [List.length_append]; omega) (by omega), enc_cons, List.append_assoc, prevL_succ]
theorem refEncode_wrong (l : List Msg) (hl : l.length ≤ 1000000000) : ∀ (j i : Nat) (out : List Int) (k : Nat), i + j = l.length → (∀ q, q < i → Right (rd_T31 l (q : Int))) → ¬ Rights (l.drop i) → out.length + tot (l.drop i) ≤ 1000000000 → 4 * j + 15 < k →
    partitaref15_Encode.l0 k l (strOfNums out) (i : Int) = some (⟨#[]⟩, 151)
  | 0, i, out, k, hj, _, hr, _, hk => by
    rw [List.drop_of_length_le (by omega)] at hr
    exact absurd Rights.nil hr
  | j + 1, i, out, k, hj, hq, hr, ho, hk => by
    have hi : i < l.length := by omega
    rw [rd_drop l i hi] at hr ho
    simp only [tot] at ho
    by_cases h1 : Right (rd_T31 l (i : Int))
    · obtain ⟨k, rfl⟩ : ∃ m, k = m + 4 := ⟨k - 4, by omega⟩
      rw [refEncode_step k out l i hi (by omega) hl h1 hq (by omega)]
      have hsz := encOne_size (prevL l i) (rd_T31 l (i : Int))
      have hq2 : ∀ q, q < i + 1 → Right (rd_T31 l (q : Int)) := fun q h => by
        by_cases c : q = i
        · rw [c]; exact h1
        · exact hq q (by omega)
      exact refEncode_wrong l hl j (i + 1) _ k (by omega) hq2 (fun h2 => hr (Rights.cons h1 h2)) (by rw [List.length_append]; omega) (by omega)
    · obtain ⟨k, rfl⟩ : ∃ m, k = m + 1 := ⟨k - 1, by omega⟩
      simp only [partitaref15_Encode.l0]
      rw [if_pos (by omega), if_pos (by omega), refRight_f _ k (by omega), decide_eq_false h1, Option.bind_some, if_neg (by decide)]
theorem refEncode_ok {l : List Msg} (hr : Rights l) (ht : tot l ≤ 1000000000) : Ev (fun k => partitaref15_Encode.f k l) (strOfNums (enc 0 l), 0) :=
  ⟨4 * l.length + 16, fun k hk => by
    have h := refEncode_l0 l (tot_len ht) l.length 0 [] k (by omega) (fun q h => by omega) (by simpa using hr) (by simpa using ht) (by omega)
    show partitaref15_Encode.l0 k l (strOfNums []) (0 : Nat) = _
    rw [h]
    rfl⟩
theorem refEncode_err {l : List Msg} (hr : ¬ Rights l) (ht : tot l ≤ 1000000000) : Ev (fun k => partitaref15_Encode.f k l) (⟨#[]⟩, 151) :=
  ⟨4 * l.length + 16, fun k hk => by
    have h := refEncode_wrong l (tot_len ht) l.length 0 [] k (by omega) (fun q h => by omega) (by simpa using hr) (by simpa using ht) (by omega)
    show partitaref15_Encode.l0 k l (strOfNums []) (0 : Nat) = _
    exact h⟩
end Go.Proofs.Ytmeefdaanjaoaaa.Z
