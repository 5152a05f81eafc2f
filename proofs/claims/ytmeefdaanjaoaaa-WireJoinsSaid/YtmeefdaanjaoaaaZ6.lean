/- What the program's Encode answers: the bytes of the plain model, or that a message is wrong. -/
import Derived.Test.YtmeefdaanjaoaaaZ5
namespace Go.Proofs.Ytmeefdaanjaoaaa.Z
open Go.RowKit Go.Proofs.YtmeefdaanjaoaaaW.PrintWords Go.Proofs.YtmeefdaanjaoaaaW.PrintLast Go.Proofs.Ytmeefdaanjaoaaa.M
set_option linter.unusedVariables false

def tot : List Msg → Nat
  | [] => 0
  | m :: ms => m.f5.size + 10 + tot ms
theorem rd_drop (l : List Msg) (i : Nat) (h : i < l.length) : l.drop i = rd_T31 l (i : Int) :: l.drop (i + 1) := by
  rw [List.drop_eq_getElem_cons h]
  unfold rd_T31
  rw [Int.toNat_natCast, List.getD_eq_getElem?_getD, List.getElem?_eq_getElem h]
  rfl
theorem encode_step (k : Nat) (out : List Int) (last : Int) (l : List Msg) (i : Nat) (hi : i < l.length) (hk : 6 ≤ k) (hl : l.length ≤ 1000000000) (hr : Right (rd_T31 l (i : Int))) (ho : out.length + (rd_T31 l (i : Int)).f5.size + 10 ≤ 2000000000) :
    wire_Encode.l0 (k + 1) out last l (l.length : Int) (i : Int) = wire_Encode.l0 k (out ++ encOne last (rd_T31 l (i : Int))) (nextL (rd_T31 l (i : Int))) l (l.length : Int) ((i + 1 : Nat) : Int) := by
  simp only [wire_Encode.l0]
  have e1 : wrap64 ((i : Int) + 1) = ((i + 1 : Nat) : Int) := by rw [w64 (by omega) (by omega)]; omega
  rw [if_pos (by omega), if_pos (by omega), if_pos (by omega), right_f _ k hk, decide_eq_true hr, Option.bind_some, if_pos rfl, e1]
  generalize hm : rd_T31 l (i : Int) = m at *
  obtain ⟨f0, f1, f2, f3, f4, f5⟩ := m
  obtain ⟨h0, h1, h2, h⟩ := hr
  dsimp only at h0 h1 h2 h ho ⊢
  have hn := (num_len f0).2
  have hn2 := (num_len f5.size).2
  have hbl := bytesOf_length f5
  rw [number_f h0 h1, Option.bind_some, number_f (by omega) (by omega), if_pos (by omega), Option.bind_some]
  unfold encOne nextL
  dsimp only
  rcases h with ⟨k1, k2, k3, k4, k5, k6, k7, k8, k9, k10⟩ | ⟨rfl, rfl, rfl, kk⟩ | ⟨rfl, rfl, rfl, k1, k2⟩
  · have ew : wrap64 (wrap64 (16 * f1) + f2) = 16 * f1 + f2 := by rw [w64 (x := 16 * f1) (by omega) (by omega)]; exact w64 (by omega) (by omega)
    have e3 : f3 % 256 = f3 := by omega
    have e4 : f4 % 256 = f4 := by omega
    have e5 : (16 * f1 + f2) % 256 = 16 * f1 + f2 := by omega
    rw [if_neg (show ¬ f1 = 16 by omega), if_neg (show ¬ f1 = 15 by omega), if_neg (show ¬ f1 = 16 by omega), if_neg (show ¬ f1 = 15 by omega), if_neg (show ¬ f1 = 16 by omega), if_neg (show ¬ f1 = 15 by omega), ew, e3, e4, e5, one_f]
    simp only [Option.bind_some, decide_eq_true_eq, List.length_append, List.length_cons, List.length_nil]
    by_cases c1 : 16 * f1 + f2 = last
    · rw [if_pos c1, if_pos c1, if_pos (by omega)]
      by_cases c2 : f1 = 12 ∨ f1 = 13
      · rw [if_pos c2, if_pos c2]; simp only [List.append_assoc, List.nil_append]
      · rw [if_neg c2, if_neg c2, if_pos (by omega)]; simp only [List.append_assoc, List.nil_append, List.cons_append]
    · rw [if_neg c1, if_neg c1, if_pos (by omega), if_pos (by omega)]
      by_cases c2 : f1 = 12 ∨ f1 = 13
      · rw [if_pos c2, if_pos c2]; simp only [List.append_assoc, List.nil_append, List.cons_append]
      · rw [if_neg c2, if_neg c2, if_pos (by omega)]; simp only [List.append_assoc, List.nil_append, List.cons_append]
  · have e3 : f3 % 256 = f3 := by omega
    rw [if_neg (show ¬ (15 : Int) = 16 by decide), if_pos (show (15 : Int) = 15 from rfl), if_neg (show ¬ (15 : Int) = 16 by decide), if_pos (show (15 : Int) = 15 from rfl), if_neg (show ¬ (15 : Int) = 16 by decide), if_pos (show (15 : Int) = 15 from rfl), e3]
    simp only [Option.bind_some, List.length_append, List.length_cons, List.length_nil]
    rw [if_pos (by omega), if_pos (by omega), if_pos (by omega)]
    simp only [List.append_assoc, List.nil_append, List.cons_append]
  · have e3 : f3 % 256 = f3 := by omega
    rw [if_pos (show (16 : Int) = 16 from rfl), if_pos (show (16 : Int) = 16 from rfl), if_pos (show (16 : Int) = 16 from rfl), e3]
    simp only [Option.bind_some, List.length_append, List.length_cons, List.length_nil]
    rw [if_pos (by omega), if_pos (by omega), if_pos (by omega), if_pos (by omega)]
    simp only [List.append_assoc, List.nil_append, List.cons_append]
theorem encOne_size (l : Int) (m : Msg) : (encOne l m).length ≤ m.f5.size + 10 := by
  have a1 := (num_len m.f0).2
  have a2 := (num_len m.f5.size).2
  unfold encOne
  split
  · simp only [List.length_append, List.length_cons, bytesOf_length]; omega
  · split
    · simp only [List.length_append, List.length_cons, bytesOf_length]; omega
    · simp only [List.length_append, List.length_cons]
      split <;> split <;> simp <;> omega

theorem encode_l0 (l : List Msg) (hl : l.length ≤ 1000000000) : ∀ (j i : Nat) (out : List Int) (last : Int) (k : Nat), i + j = l.length → Rights (l.drop i) → out.length + tot (l.drop i) ≤ 1000000000 → j + 7 < k →
    wire_Encode.l0 k out last l (l.length : Int) (i : Int) = some (strOfNums (out ++ enc last (l.drop i)), 0)
  | 0, i, out, last, k, hj, _, _, hk => by
    obtain ⟨k, rfl⟩ : ∃ m, k = m + 1 := ⟨k - 1, by omega⟩
    simp only [wire_Encode.l0]
    rw [if_neg (by omega), List.drop_of_length_le (by omega), enc_nil, List.append_nil]
  | j + 1, i, out, last, k, hj, hr, ho, hk => by
    obtain ⟨k, rfl⟩ : ∃ m, k = m + 1 := ⟨k - 1, by omega⟩
    have hi : i < l.length := by omega
    rw [rd_drop l i hi] at hr ho ⊢
    simp only [tot] at ho
    rw [encode_step k out last l i hi (by omega) hl hr.head (by omega)]
    have hsz := encOne_size last (rd_T31 l (i : Int))
    rw [encode_l0 l hl j (i + 1) _ _ k (by omega) hr.tail (by rw [List.length_append]; omega) (by omega), enc_cons, List.append_assoc]
theorem encode_wrong (l : List Msg) (hl : l.length ≤ 1000000000) : ∀ (j i : Nat) (out : List Int) (last : Int) (k : Nat), i + j = l.length → ¬ Rights (l.drop i) → out.length + tot (l.drop i) ≤ 1000000000 → j + 7 < k →
    wire_Encode.l0 k out last l (l.length : Int) (i : Int) = some (⟨#[]⟩, 151)
  | 0, i, out, last, k, hj, hr, _, hk => by
    rw [List.drop_of_length_le (by omega)] at hr
    exact absurd Rights.nil hr
  | j + 1, i, out, last, k, hj, hr, ho, hk => by
    obtain ⟨k, rfl⟩ : ∃ m, k = m + 1 := ⟨k - 1, by omega⟩
    have hi : i < l.length := by omega
    rw [rd_drop l i hi] at hr ho
    simp only [tot] at ho
    by_cases h1 : Right (rd_T31 l (i : Int))
    · rw [encode_step k out last l i hi (by omega) hl h1 (by omega)]
      have hsz := encOne_size last (rd_T31 l (i : Int))
      exact encode_wrong l hl j (i + 1) _ _ k (by omega) (fun h2 => hr (Rights.cons h1 h2)) (by rw [List.length_append]; omega) (by omega)
    · simp only [wire_Encode.l0]
      rw [if_pos (by omega), if_pos (by omega), if_pos (by omega), right_f _ k (by omega), decide_eq_false h1, Option.bind_some, if_neg (by decide)]

theorem tot_len {l : List Msg} (h : tot l ≤ 1000000000) : l.length ≤ 1000000000 := by
  have : ∀ l : List Msg, l.length ≤ tot l := by
    intro l
    induction l with
    | nil => simp [tot]
    | cons m ms ih => simp only [tot, List.length_cons]; omega
  have := this l
  omega
theorem encode_ok {l : List Msg} (hr : Rights l) (ht : tot l ≤ 1000000000) : Ev (fun k => wire_Encode.f k l) (strOfNums (enc 0 l), 0) :=
  ⟨l.length + 8, fun k hk => by
    have h := encode_l0 l (tot_len ht) l.length 0 [] 0 k (by omega) (by simpa using hr) (by simpa using ht) (by omega)
    show wire_Encode.l0 k [] 0 l (l.length : Int) 0 = _
    simpa using h⟩
theorem encode_err {l : List Msg} (hr : ¬ Rights l) (ht : tot l ≤ 1000000000) : Ev (fun k => wire_Encode.f k l) (⟨#[]⟩, 151) :=
  ⟨l.length + 8, fun k hk => by
    have h := encode_wrong l (tot_len ht) l.length 0 [] 0 k (by omega) (by simpa using hr) (by simpa using ht) (by omega)
    show wire_Encode.l0 k [] 0 l (l.length : Int) 0 = _
    simpa using h⟩
theorem encOne_bytes {m : Msg} (hm : Right m) {l : Int} : Bytes (encOne l m) := by
  obtain ⟨f0, f1, f2, f3, f4, f5⟩ := m
  obtain ⟨h0, h1, h2, h⟩ := hm
  unfold encOne
  dsimp only at h0 h1 h2 h ⊢
  have a := num_bytes h0
  have b := num_bytes (n := f5.size) (by omega)
  have c := bytesOf_bytes f5
  split
  · exact a.append (Bytes.cons (by decide) (by decide) (Bytes.cons (by omega) (by omega) (b.append c)))
  · split
    · exact a.append (Bytes.cons (by omega) (by omega) (b.append c))
    · refine a.append (Bytes.append ?_ (Bytes.cons (by omega) (by omega) ?_))
      · split
        · exact Bytes.nil
        · exact Bytes.cons (by omega) (by omega) Bytes.nil
      · split
        · exact Bytes.nil
        · exact Bytes.cons (by omega) (by omega) Bytes.nil
theorem enc_bytes : ∀ {ms : List Msg} {l : Int}, Rights ms → Bytes (enc l ms)
  | [], _, _ => Bytes.nil
  | m :: ms, l, h => by
    rw [enc_cons]
    exact (encOne_bytes h.head).append (enc_bytes h.tail)
theorem enc_tot : ∀ (ms : List Msg) (l : Int), (enc l ms).length ≤ tot ms
  | [], _ => Nat.le_refl _
  | m :: ms, l => by
    have h1 := encOne_size l m
    have h2 := enc_tot ms (nextL m)
    rw [enc_cons, List.length_append]
    simp only [tot]
    omega
end Go.Proofs.Ytmeefdaanjaoaaa.Z
