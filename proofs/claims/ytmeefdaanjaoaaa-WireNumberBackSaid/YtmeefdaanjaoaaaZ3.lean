/- The laws of the plain model, of lists of messages: told there and back; no more bytes; bytes that are cut off; running status. -/
import Derived.Test.YtmeefdaanjaoaaaZ2
namespace Go.Proofs.Ytmeefdaanjaoaaa.Z
open Go.RowKit Go.Proofs.YtmeefdaanjaoaaaW.PrintWords Go.Proofs.Ytmeefdaanjaoaaa.M
set_option linter.unusedVariables false

def Rights (ms : List Msg) : Prop := ∀ m ∈ ms, Right m
theorem Rights.nil : Rights [] := by intro m h; cases h
theorem Rights.head {m : Msg} {ms : List Msg} (h : Rights (m :: ms)) : Right m := h m (by simp)
theorem Rights.tail {m : Msg} {ms : List Msg} (h : Rights (m :: ms)) : Rights ms := fun x hx => h x (by simp [hx])
theorem Rights.cons {m : Msg} {ms : List Msg} (h : Right m) (k : Rights ms) : Rights (m :: ms) := by
  intro x hx
  rcases List.mem_cons.1 hx with rfl | hx
  · exact h
  · exact k x hx
/-- The status byte behind messages. -/
def lastOf : Int → List Msg → Int
  | l, [] => l
  | _, m :: ms => lastOf (nextL m) ms
theorem lastOf_ok : ∀ {ms : List Msg} {l : Int}, Rights ms → LastOk l → LastOk (lastOf l ms)
  | [], _, _, h => h
  | m :: ms, _, hr, _ => lastOf_ok (ms := ms) (l := nextL m) hr.tail (nextL_ok hr.head)
theorem enc_nil (l : Int) : enc l [] = [] := rfl
theorem enc_cons (l : Int) (m : Msg) (ms : List Msg) : enc l (m :: ms) = encOne l m ++ enc (nextL m) ms := rfl
theorem enc_append : ∀ (l : Int) (a b : List Msg), enc l (a ++ b) = enc l a ++ enc (lastOf l a) b
  | _, [], _ => rfl
  | l, m :: a, b => by rw [List.cons_append, enc_cons, enc_cons, enc_append (nextL m) a b, List.append_assoc]; rfl
theorem encOne_len (l : Int) (m : Msg) : 1 ≤ (encOne l m).length := by
  unfold encOne
  have := (num_len m.f0).1
  split
  · simp only [List.length_append, List.length_cons]; omega
  · split
    · simp only [List.length_append, List.length_cons]; omega
    · simp only [List.length_append, List.length_cons]; omega
theorem enc_size : ∀ (l : Int) (ms : List Msg) (B : Nat), (∀ m ∈ ms, m.f5.size ≤ B) → (enc l ms).length ≤ ms.length * (B + 10)
  | _, [], _, _ => by rw [enc_nil]; simp
  | l, m :: ms, B, h => by
    have ih := enc_size (nextL m) ms B (fun x hx => h x (by simp [hx]))
    have hm := h m (by simp)
    have h1 : (encOne l m).length ≤ B + 10 := by
      have a1 := (num_len m.f0).2
      have a2 := (num_len m.f5.size).2
      unfold encOne
      split
      · simp only [List.length_append, List.length_cons, bytesOf_length]; omega
      · split
        · simp only [List.length_append, List.length_cons, bytesOf_length]; omega
        · simp only [List.length_append, List.length_cons]
          split <;> split <;> simp <;> omega
    rw [enc_cons, List.length_append, List.length_cons, Nat.add_mul]
    omega

theorem msg_nil (l : Int) : msg l [] = .error 152 := rfl
/-- There and back, whatever stands behind. -/
theorem dec_enc : ∀ {ms : List Msg} {l l' : Int} {r : List Int} {ns : List Msg}, Rights ms → (l' = l ∨ l' = 0) → Dec (lastOf l ms) r ns → Dec l (enc l' ms ++ r) (ms ++ ns)
  | [], _, _, _, _, _, _, h => h
  | m :: ms, l, l', r, ns, hr, hl, h => by
    rw [enc_cons, List.append_assoc, List.cons_append]
    exact .cons (msg_enc hr.head hl _) (dec_enc hr.tail (.inl rfl) h)
theorem dec_enc0 {ms : List Msg} {l l' : Int} (hr : Rights ms) (hl : l' = l ∨ l' = 0) : Dec l (enc l' ms) ms := by
  have h := dec_enc hr hl (.nil (lastOf l ms))
  rwa [List.append_nil, List.append_nil] at h
/-- What is read is right, and its own bytes are no more. -/
theorem enc_dec : ∀ {ms : List Msg} {l : Int} {r : List Int}, LastOk l → Bytes r → Dec l r ms → Rights ms ∧ (enc l ms).length ≤ r.length ∧ ms.length ≤ r.length
  | _, _, _, _, _, .nil _ => ⟨.nil, Nat.le_refl _, Nat.le_refl _⟩
  | _, _, _, hl, hb, .cons hm hd => by
    obtain ⟨h1, rfl, p, rfl, h2, h3⟩ := msg_ok hl hb hm
    obtain ⟨k1, k2, k3⟩ := enc_dec (nextL_ok h1) hb.right hd
    refine ⟨.cons h1 k1, ?_, ?_⟩
    · rw [enc_cons, List.length_append, List.length_append]; omega
    · rw [List.length_append, List.length_cons]; omega
/-- Whatever bytes: they are messages, or one is wrong. -/
theorem dec_or_bad : ∀ (n : Nat) (l : Int) (r : List Int), LastOk l → Bytes r → r.length ≤ n → (∃ ms, Dec l r ms) ∨ (∃ e k, Bad l r e k)
  | _, l, [], _, _, _ => .inl ⟨[], .nil l⟩
  | 0, l, c :: r, _, _, h => by simp at h
  | n + 1, l, c :: r, hl, hb, h => by
    cases hm : msg l (c :: r) with
    | error e => exact .inr ⟨e, _, .here (by simp) hm⟩
    | ok x =>
      obtain ⟨m, l', r'⟩ := x
      obtain ⟨h1, rfl, p, hp, h2, h3⟩ := msg_ok hl hb hm
      have hlen : (c :: r).length = p.length + r'.length := by rw [hp, List.length_append]
      have hb' : Bytes r' := by rw [hp] at hb; exact hb.right
      rcases dec_or_bad n (nextL m) r' (nextL_ok h1) hb' (by omega) with ⟨ms, hd⟩ | ⟨e, k, hd⟩
      · exact .inl ⟨_, .cons hm hd⟩
      · exact .inr ⟨e, k, .later hm hd⟩
theorem bad_len {l e : Int} {r : List Int} {k : Nat} (h : Bad l r e k) : LastOk l → Bytes r → 0 < k ∧ k ≤ r.length := by
  induction h with
  | here hne _ => exact fun _ _ => ⟨List.length_pos_iff.2 hne, Nat.le_refl _⟩
  | later hm _ ih =>
    intro hl hby
    obtain ⟨h1, rfl, p, rfl, h2, h3⟩ := msg_ok hl hby hm
    have := ih (nextL_ok h1) hby.right
    rw [List.length_append]
    omega
/-- A message that is cut off is short. -/
theorem msg_cut {m : Msg} (hm : Right m) (l : Int) (k : Nat) (hk : k < (encOne l m).length) : msg l ((encOne l m).take k) = .error 152 := by
  have he := msg_enc hm (l := l) (l' := l) (.inl rfl) []
  rw [List.append_nil] at he
  have hcat : (encOne l m).take k ++ (encOne l m).drop k = encOne l m := List.take_append_drop _ _
  cases hq : msg l ((encOne l m).take k) with
  | ok x =>
    obtain ⟨m', l', r'⟩ := x
    have h2 := msg_ext hq ((encOne l m).drop k)
    rw [hcat, he] at h2
    injection h2 with h2
    injection h2 with _ h2
    injection h2 with _ h2
    have h3 := congrArg List.length h2
    rw [List.length_append, List.length_drop] at h3
    simp at h3
    omega
  | error e =>
    by_cases h152 : e = 152
    · rw [h152]
    · have h2 := msg_err hq h152 ((encOne l m).drop k)
      rw [hcat, he] at h2
      cases h2
/-- Bytes that are cut off: the messages that are whole, and where the first one begins that isn't. -/
theorem dec_cut : ∀ {ms : List Msg} {l : Int}, Rights ms → ∀ k, k < (enc l ms).length → ∃ j, j < ms.length ∧
    (Dec l ((enc l ms).take k) (ms.take j) ∨ ∃ n, 0 < n ∧ n ≤ k ∧ Bad l ((enc l ms).take k) 152 n ∧ Dec l ((enc l ms).take (k - n)) (ms.take j))
  | [], _, _, k, hk => by simp [enc_nil] at hk
  | m :: ms, l, hr, k, hk => by
    rw [enc_cons] at hk ⊢
    by_cases h : k < (encOne l m).length
    · refine ⟨0, by simp, ?_⟩
      rw [List.take_append_of_le_length (by omega)]
      by_cases h0 : k = 0
      · subst h0
        left
        exact .nil l
      · right
        have hlen : ((encOne l m).take k).length = k := by rw [List.length_take]; omega
        have hb := Bad.here (l := l) (r := (encOne l m).take k) (by intro e; rw [e] at hlen; simp at hlen; omega) (msg_cut hr.head l k h)
        rw [hlen] at hb
        refine ⟨k, by omega, Nat.le_refl _, hb, ?_⟩
        rw [Nat.sub_self]
        exact .nil l
    · have hk2 : k - (encOne l m).length < (enc (nextL m) ms).length := by rw [List.length_append] at hk; omega
      obtain ⟨j, hj, hd⟩ := dec_cut hr.tail _ hk2
      have hone := fun r => msg_enc hr.head (l := l) (l' := l) (.inl rfl) r
      refine ⟨j + 1, by simp; omega, ?_⟩
      have htk : ∀ i, (encOne l m).length ≤ i → (encOne l m ++ enc (nextL m) ms).take i = encOne l m ++ (enc (nextL m) ms).take (i - (encOne l m).length) := by
        intro i hi
        rw [List.take_append, List.take_of_length_le hi]
      rw [htk k (by omega), List.take_succ_cons]
      rcases hd with hd | ⟨n, h1, h2, h3, h4⟩
      · left
        exact .cons (hone _) hd
      · right
        refine ⟨n, h1, by omega, .later (hone _) h3, ?_⟩
        rw [htk (k - n) (by omega)]
        have e : k - n - (encOne l m).length = k - (encOne l m).length - n := by omega
        rw [e]
        exact .cons (hone _) h4
theorem dec_fun : ∀ {l : Int} {r : List Int} {a b : List Msg}, Dec l r a → Dec l r b → a = b
  | _, _, _, _, .nil _, .nil _ => rfl
  | _, _, _, _, .nil _, .cons h _ => by rw [msg_nil] at h; cases h
  | _, _, _, _, .cons h _, .nil _ => by rw [msg_nil] at h; cases h
  | _, _, _, _, .cons h1 d1, .cons h2 d2 => by
    rw [h1] at h2
    injection h2 with h2
    injection h2 with e1 h2
    injection h2 with e2 e3
    subst e1 e2 e3
    rw [dec_fun d1 d2]
/-- But for a status byte that is left out the bytes of messages behind others are their own. -/
theorem enc_last {ms : List Msg} (hr : Rights ms) (l : Int) (hl : LastOk l) : (enc l ms).length = (enc 0 ms).length ∨ (enc l ms).length + 1 = (enc 0 ms).length := by
  cases ms with
  | nil => left; rfl
  | cons m ms =>
    rw [enc_cons, enc_cons, List.length_append, List.length_append]
    unfold encOne
    by_cases c1 : m.f1 = 16
    · rw [if_pos c1, if_pos c1]; left; rfl
    · by_cases c2 : m.f1 = 15
      · rw [if_neg c1, if_neg c1, if_pos c2, if_pos c2]; left; rfl
      · rw [if_neg c1, if_neg c1, if_neg c2, if_neg c2]
        have h8 : ¬ 16 * m.f1 + m.f2 = 0 := by
          obtain ⟨_, _, _, h⟩ := hr.head
          omega
        rw [if_neg h8]
        by_cases c3 : 16 * m.f1 + m.f2 = l
        · rw [if_pos c3]
          right
          simp only [List.length_append, List.length_nil, List.length_cons]
          omega
        · rw [if_neg c3]; left; rfl
/-- Keys of one kind and channel: one status byte ahead of all. -/
def plainLen : List Msg → Nat
  | [] => 0
  | m :: ms => (num m.f0).length + 2 + plainLen ms
theorem enc_running {kind ch : Int} (h1 : 8 ≤ kind) (h2 : kind ≤ 11) : ∀ {ms : List Msg}, Rights ms → (∀ m ∈ ms, m.f1 = kind ∧ m.f2 = ch) → (enc (16 * kind + ch) ms).length = plainLen ms
  | [], _, _ => rfl
  | m :: ms, hr, hk => by
    obtain ⟨e1, e2⟩ := hk m (by simp)
    have hn : nextL m = 16 * kind + ch := by
      unfold nextL
      rw [if_neg (by omega), if_neg (by omega), e1, e2]
    rw [enc_cons, hn, List.length_append, enc_running h1 h2 hr.tail (fun x hx => hk x (by simp [hx]))]
    unfold encOne
    rw [if_neg (by omega), if_neg (by omega), if_pos (by rw [e1, e2]), if_neg (by omega)]
    simp only [plainLen, List.length_append, List.length_cons, List.length_nil, List.nil_append]
theorem enc_running0 {kind ch : Int} (h1 : 8 ≤ kind) (h2 : kind ≤ 11) {ms : List Msg} (hr : Rights ms) (hk : ∀ m ∈ ms, m.f1 = kind ∧ m.f2 = ch) (hne : ms ≠ []) : (enc 0 ms).length = plainLen ms + 1 := by
  have h := enc_running h1 h2 hr hk
  cases ms with
  | nil => exact absurd rfl hne
  | cons m ms =>
    obtain ⟨e1, e2⟩ := hk m (by simp)
    have hch : 0 ≤ ch := by
      obtain ⟨_, _, _, hh⟩ := hr.head
      omega
    rw [enc_cons, List.length_append] at h ⊢
    unfold encOne at h ⊢
    rw [if_neg (by omega), if_neg (by omega), if_pos (by rw [e1, e2])] at h
    rw [if_neg (by omega), if_neg (by omega), if_neg (by omega)]
    simp only [List.length_append, List.length_cons, List.length_nil, List.nil_append] at h ⊢
    omega
end Go.Proofs.Ytmeefdaanjaoaaa.Z
