/- The laws of the plain model of chapter 15: there and back, no more bytes, messages behind others, bytes that are cut off. -/
import Derived.Test.YtmeefdaanjaoaaaZ1
namespace Go.Proofs.Ytmeefdaanjaoaaa.Z
open Go.RowKit Go.Proofs.YtmeefdaanjaoaaaW.PrintWords Go.Proofs.Ytmeefdaanjaoaaa.M
set_option linter.unusedVariables false

theorem low_lo {c : Int} {r : List Int} (h : c < 128) : low (c :: r) = .ok (c, r) := by rw [low, if_neg (by omega)]
theorem low_ok {a : Int} {r r' : List Int} (h : low r = .ok (a, r')) : r = a :: r' ∧ a < 128 := by
  cases r with
  | nil => cases h
  | cons c r =>
    by_cases hc : c ≥ 128
    · rw [low, if_pos hc] at h; cases h
    · rw [low, if_neg hc] at h
      injection h with h
      injection h with h1 h2
      subst h1 h2
      exact ⟨rfl, by omega⟩
theorem low_ext {a : Int} {r r' : List Int} (h : low r = .ok (a, r')) (t : List Int) : low (r ++ t) = .ok (a, r' ++ t) := by
  obtain ⟨rfl, hc⟩ := low_ok h
  rw [List.cons_append, low_lo hc]
theorem low_err {e : Int} {r : List Int} (h : low r = .error e) (h2 : e ≠ 152) (t : List Int) : low (r ++ t) = .error e := by
  cases r with
  | nil => rw [low] at h; injection h with h; exact absurd h.symm h2
  | cons c r =>
    by_cases hc : c ≥ 128
    · rw [low, if_pos hc] at h
      rw [List.cons_append, low, if_pos hc]; exact h
    · rw [low, if_neg hc] at h; cases h

theorem dat_num {n : Int} {bs r : List Int} (h1 : n ≤ 100000) (hn : n = bs.length) : dat (num n ++ (bs ++ r)) = .ok (bs, r) := by
  unfold dat
  rw [vlq_num (by omega) (by omega)]
  dsimp only
  rw [if_neg (by omega), if_neg (by rw [List.length_append]; omega)]
  have e : n.toNat = bs.length := by omega
  rw [e, List.take_left, List.drop_left]
theorem dat_ok {bs r r' : List Int} (hb : Bytes r) (h : dat r = .ok (bs, r')) : (bs.length : Int) ≤ 100000 ∧ Bytes bs ∧ ∃ p, r = p ++ (bs ++ r') ∧ (num bs.length).length ≤ p.length := by
  unfold dat at h
  cases hv : vlq 4 0 r with
  | error e => rw [hv] at h; cases h
  | ok x =>
    obtain ⟨n, r1⟩ := x
    rw [hv] at h
    dsimp only at h
    obtain ⟨h0, _, p, hp, hl⟩ := vlq4_ok hb hv
    by_cases c1 : n > 100000
    · rw [if_pos c1] at h; cases h
    · rw [if_neg c1] at h
      by_cases c2 : n > r1.length
      · rw [if_pos c2] at h; cases h
      · rw [if_neg c2] at h
        injection h with h
        injection h with e1 e2
        subst e1 e2
        have hb1 : Bytes r1 := by rw [hp] at hb; exact hb.right
        have hlen : ((r1.take n.toNat).length : Int) = n := by rw [List.length_take]; omega
        refine ⟨by omega, hb1.take _, p, by rw [List.take_append_drop]; exact hp, by rw [hlen]; exact hl⟩
theorem dat_ext {bs r r' : List Int} (h : dat r = .ok (bs, r')) (t : List Int) : dat (r ++ t) = .ok (bs, r' ++ t) := by
  unfold dat at h ⊢
  cases hv : vlq 4 0 r with
  | error e => rw [hv] at h; cases h
  | ok x =>
    obtain ⟨n, r1⟩ := x
    rw [hv] at h
    rw [vlq_ext hv t]
    dsimp only at h ⊢
    by_cases c1 : n > 100000
    · rw [if_pos c1] at h; cases h
    · rw [if_neg c1] at h ⊢
      by_cases c2 : n > r1.length
      · rw [if_pos c2] at h; cases h
      · rw [if_neg c2] at h
        rw [if_neg (by rw [List.length_append]; omega)]
        injection h with h
        injection h with e1 e2
        subst e1 e2
        rw [List.take_append_of_le_length (by omega), List.drop_append_of_le_length (by omega)]
theorem dat_err {e : Int} {r : List Int} (h : dat r = .error e) (h2 : e ≠ 152) (t : List Int) : dat (r ++ t) = .error e := by
  unfold dat at h ⊢
  cases hv : vlq 4 0 r with
  | error e' =>
    rw [hv] at h
    injection h with h
    subst h
    rw [vlq_err hv h2 t]
  | ok x =>
    obtain ⟨n, r1⟩ := x
    rw [hv] at h
    rw [vlq_ext hv t]
    dsimp only at h ⊢
    by_cases c1 : n > 100000
    · rw [if_pos c1] at h ⊢; exact h
    · rw [if_neg c1] at h
      by_cases c2 : n > r1.length
      · rw [if_pos c2] at h; injection h with h; exact absurd h.symm h2
      · rw [if_neg c2] at h; cases h

/-! ### a body -/
theorem body_255 (d : Int) (r : List Int) : body d 255 r = (match low r with
    | .error e => .error e
    | .ok (a, r1) => match dat r1 with
      | .error e => .error e
      | .ok (bs, r2) => .ok (⟨d, 16, 0, a, 0, strOfNums bs⟩, 0, r2)) := by rw [body, if_pos rfl]; rfl
theorem body_sys {c : Int} (h : c ≠ 255) (h2 : c ≥ 240) (d : Int) (r : List Int) : body d c r = (match dat r with
    | .error e => .error e
    | .ok (bs, r2) => .ok (⟨d, 15, 0, c, 0, strOfNums bs⟩, 0, r2)) := by rw [body, if_neg h, if_pos h2]; rfl
theorem body_key {c : Int} (h2 : c < 240) (d : Int) (r : List Int) : body d c r = (match low r with
    | .error e => .error e
    | .ok (a, r1) => if c / 16 = 12 ∨ c / 16 = 13 then .ok (⟨d, c / 16, c % 16, a, 0, ⟨#[]⟩⟩, c, r1) else
      match low r1 with
      | .error e => .error e
      | .ok (b, r2) => .ok (⟨d, c / 16, c % 16, a, b, ⟨#[]⟩⟩, c, r2)) := by rw [body, if_neg (by omega), if_neg (by omega)]; rfl

theorem body_ext {d c : Int} {r r' : List Int} {m : Msg} {l : Int} (h : body d c r = .ok (m, l, r')) (t : List Int) : body d c (r ++ t) = .ok (m, l, r' ++ t) := by
  by_cases c1 : c = 255
  · subst c1
    rw [body_255] at h ⊢
    cases hl : low r with
    | error e => rw [hl] at h; cases h
    | ok x =>
      obtain ⟨a, r1⟩ := x
      rw [hl] at h
      rw [low_ext hl t]
      dsimp only at h ⊢
      cases hd : dat r1 with
      | error e => rw [hd] at h; cases h
      | ok y =>
        obtain ⟨bs, r2⟩ := y
        rw [hd] at h
        rw [dat_ext hd t]
        dsimp only at h ⊢
        injection h with h; injection h with h1 h; injection h with h2 h3; subst h1 h2 h3; rfl
  · by_cases c2 : c ≥ 240
    · rw [body_sys c1 c2] at h ⊢
      cases hd : dat r with
      | error e => rw [hd] at h; cases h
      | ok y =>
        obtain ⟨bs, r2⟩ := y
        rw [hd] at h
        rw [dat_ext hd t]
        dsimp only at h ⊢
        injection h with h; injection h with h1 h; injection h with h2 h3; subst h1 h2 h3; rfl
    · rw [body_key (by omega)] at h ⊢
      cases hl : low r with
      | error e => rw [hl] at h; cases h
      | ok x =>
        obtain ⟨a, r1⟩ := x
        rw [hl] at h
        rw [low_ext hl t]
        dsimp only at h ⊢
        by_cases c3 : c / 16 = 12 ∨ c / 16 = 13
        · rw [if_pos c3] at h ⊢
          injection h with h; injection h with h1 h; injection h with h2 h3; subst h1 h2 h3; rfl
        · rw [if_neg c3] at h ⊢
          cases hl2 : low r1 with
          | error e => rw [hl2] at h; cases h
          | ok y =>
            obtain ⟨b, r2⟩ := y
            rw [hl2] at h
            rw [low_ext hl2 t]
            dsimp only at h ⊢
            injection h with h; injection h with h1 h; injection h with h2 h3; subst h1 h2 h3; rfl
theorem body_err {d c e : Int} {r : List Int} (h : body d c r = .error e) (he : e ≠ 152) (t : List Int) : body d c (r ++ t) = .error e := by
  by_cases c1 : c = 255
  · subst c1
    rw [body_255] at h ⊢
    cases hl : low r with
    | error e' =>
      rw [hl] at h; injection h with h; subst h
      rw [low_err hl he t]
    | ok x =>
      obtain ⟨a, r1⟩ := x
      rw [hl] at h
      rw [low_ext hl t]
      dsimp only at h ⊢
      cases hd : dat r1 with
      | error e' =>
        rw [hd] at h; injection h with h; subst h
        rw [dat_err hd he t]
      | ok y => obtain ⟨bs, r2⟩ := y; rw [hd] at h; cases h
  · by_cases c2 : c ≥ 240
    · rw [body_sys c1 c2] at h ⊢
      cases hd : dat r with
      | error e' =>
        rw [hd] at h; injection h with h; subst h
        rw [dat_err hd he t]
      | ok y => obtain ⟨bs, r2⟩ := y; rw [hd] at h; cases h
    · rw [body_key (by omega)] at h ⊢
      cases hl : low r with
      | error e' =>
        rw [hl] at h; injection h with h; subst h
        rw [low_err hl he t]
      | ok x =>
        obtain ⟨a, r1⟩ := x
        rw [hl] at h
        rw [low_ext hl t]
        dsimp only at h ⊢
        by_cases c3 : c / 16 = 12 ∨ c / 16 = 13
        · rw [if_pos c3] at h; cases h
        · rw [if_neg c3] at h ⊢
          cases hl2 : low r1 with
          | error e' =>
            rw [hl2] at h; injection h with h; subst h
            rw [low_err hl2 he t]
          | ok y => obtain ⟨b, r2⟩ := y; rw [hl2] at h; cases h

/-! ### a message -/
theorem msg_at {l d c : Int} {r r1 : List Int} (h : vlq 4 0 r = .ok (d, c :: r1)) : msg l r = (if c < 128 then (if l = 0 then .error 151 else body d l (c :: r1)) else if c > 240 ∧ c ≠ 247 ∧ c ≠ 255 then .error 151 else body d c r1) := by
  unfold msg; rw [h]
theorem msg_ext {l l' : Int} {r r' : List Int} {m : Msg} (h : msg l r = .ok (m, l', r')) (t : List Int) : msg l (r ++ t) = .ok (m, l', r' ++ t) := by
  cases hv : vlq 4 0 r with
  | error e => unfold msg at h; rw [hv] at h; cases h
  | ok x =>
    obtain ⟨d, r1⟩ := x
    cases r1 with
    | nil => unfold msg at h; rw [hv] at h; cases h
    | cons c r1 =>
      rw [msg_at hv] at h
      have hv2 := vlq_ext hv t
      rw [List.cons_append] at hv2
      rw [msg_at hv2]
      by_cases c1 : c < 128
      · rw [if_pos c1] at h ⊢
        by_cases c2 : l = 0
        · rw [if_pos c2] at h; cases h
        · rw [if_neg c2] at h ⊢
          exact body_ext h t
      · rw [if_neg c1] at h ⊢
        by_cases c2 : c > 240 ∧ c ≠ 247 ∧ c ≠ 255
        · rw [if_pos c2] at h; cases h
        · rw [if_neg c2] at h ⊢
          exact body_ext h t
theorem msg_err {l e : Int} {r : List Int} (h : msg l r = .error e) (he : e ≠ 152) (t : List Int) : msg l (r ++ t) = .error e := by
  cases hv : vlq 4 0 r with
  | error e' =>
    unfold msg at h ⊢; rw [hv] at h; injection h with h; subst h
    rw [vlq_err hv he t]
  | ok x =>
    obtain ⟨d, r1⟩ := x
    cases r1 with
    | nil => unfold msg at h; rw [hv] at h; injection h with h; exact absurd h.symm he
    | cons c r1 =>
      rw [msg_at hv] at h
      have hv2 := vlq_ext hv t
      rw [List.cons_append] at hv2
      rw [msg_at hv2]
      by_cases c1 : c < 128
      · rw [if_pos c1] at h ⊢
        by_cases c2 : l = 0
        · rw [if_pos c2] at h ⊢; exact h
        · rw [if_neg c2] at h ⊢
          exact body_err h he t
      · rw [if_neg c1] at h ⊢
        by_cases c2 : c > 240 ∧ c ≠ 247 ∧ c ≠ 255
        · rw [if_pos c2] at h ⊢; exact h
        · rw [if_neg c2] at h ⊢
          exact body_err h he t

/-- The bytes of a right message are read as it, behind its own status byte, or where none may be left out. -/
theorem msg_enc {m : Msg} (hm : Right m) {l l' : Int} (hl : l' = l ∨ l' = 0) (r : List Int) : msg l (encOne l' m ++ r) = .ok (m, nextL m, r) := by
  obtain ⟨f0, f1, f2, f3, f4, f5⟩ := m
  obtain ⟨h0, h1, h2, h⟩ := hm
  dsimp only at h0 h1 h2 h
  unfold encOne nextL
  dsimp only
  rcases h with ⟨k1, k2, k3, k4, k5, k6, k7, k8, k9, k10⟩ | ⟨rfl, rfl, rfl, k⟩ | ⟨rfl, rfl, rfl, k1, k2⟩
  · have hf5 := eq_nil_of_size k10
    subst hf5
    rw [if_neg (show ¬ f1 = 16 by omega), if_neg (show ¬ f1 = 15 by omega), if_neg (show ¬ f1 = 16 by omega), if_neg (show ¬ f1 = 15 by omega)]
    have hk : ∀ t, body f0 (16 * f1 + f2) ((f3 :: (if f1 = 12 ∨ f1 = 13 then [] else [f4])) ++ t) = .ok (⟨f0, f1, f2, f3, f4, ⟨#[]⟩⟩, 16 * f1 + f2, t) := by
      intro t
      have e1 : (16 * f1 + f2) / 16 = f1 := by omega
      have e2 : (16 * f1 + f2) % 16 = f2 := by omega
      rw [body_key (by omega), List.cons_append, low_lo (by omega)]
      dsimp only
      rw [e1, e2]
      by_cases c : f1 = 12 ∨ f1 = 13
      · rw [if_pos c, if_pos c]
        have := k9 c
        subst this
        rfl
      · rw [if_neg c, if_neg c, List.singleton_append, low_lo (by omega)]
    by_cases c : 16 * f1 + f2 = l'
    · have hl' : l' = l := by omega
      rw [if_pos c, List.nil_append, List.append_assoc]
      have hv := vlq_num h0 h1 ((f3 :: (if f1 = 12 ∨ f1 = 13 then [] else [f4])) ++ r)
      rw [List.cons_append] at hv
      rw [List.cons_append, msg_at hv, if_pos (by omega), if_neg (by omega), ← List.cons_append, ← hl', ← c]
      exact hk r
    · rw [if_neg c, List.append_assoc, List.append_assoc]
      rw [List.singleton_append]
      rw [msg_at (vlq_num h0 h1 _), if_neg (by omega), if_neg (by omega)]
      exact hk r
  · rw [if_neg (show ¬ (15 : Int) = 16 by decide), if_pos rfl, if_neg (show ¬ (15 : Int) = 16 by decide), if_pos rfl]
    rw [List.append_assoc, List.cons_append, List.append_assoc]
    rw [msg_at (vlq_num h0 h1 _), if_neg (by omega), if_neg (by omega), body_sys (by omega) (by omega)]
    rw [dat_num (by omega) (by rw [bytesOf_length])]
    dsimp only
    rw [str_bytesOf]
  · rw [if_pos rfl, if_pos rfl]
    rw [List.append_assoc, List.cons_append, List.cons_append, List.append_assoc]
    rw [msg_at (vlq_num h0 h1 _), if_neg (by omega), if_neg (by omega), body_255, low_lo (by omega)]
    dsimp only
    rw [dat_num (by omega) (by rw [bytesOf_length])]
    dsimp only
    rw [str_bytesOf]

/-- A status byte that may be left out, or none. -/
def LastOk (l : Int) : Prop := l = 0 ∨ 128 ≤ l ∧ l < 240
theorem nextL_ok {m : Msg} (hm : Right m) : LastOk (nextL m) := by
  obtain ⟨f0, f1, f2, f3, f4, f5⟩ := m
  obtain ⟨h0, h1, h2, h⟩ := hm
  unfold nextL LastOk
  dsimp only at h ⊢
  split
  · exact .inl rfl
  · split
    · exact .inl rfl
    · omega

theorem body_key_ok {d c : Int} {r r' : List Int} {m : Msg} {l' : Int} (hd0 : 0 ≤ d) (hd1 : d ≤ 268435455) (hb : Bytes r) (h1 : 128 ≤ c) (h2 : c < 240) (h : body d c r = .ok (m, l', r')) :
    Right m ∧ l' = nextL m ∧ m.f0 = d ∧ m.f1 ≠ 16 ∧ m.f1 ≠ 15 ∧ 16 * m.f1 + m.f2 = c ∧ ∃ p, r = p ++ r' ∧ p = m.f3 :: (if m.f1 = 12 ∨ m.f1 = 13 then [] else [m.f4]) := by
  rw [body_key h2] at h
  cases hl : low r with
  | error e => rw [hl] at h; cases h
  | ok x =>
    obtain ⟨a, r1⟩ := x
    rw [hl] at h
    dsimp only at h
    obtain ⟨rfl, ha⟩ := low_ok hl
    have ha0 := hb.head
    by_cases c3 : c / 16 = 12 ∨ c / 16 = 13
    · rw [if_pos c3] at h
      injection h with h; injection h with e1 h; injection h with e2 e3; subst e1 e2 e3
      refine ⟨⟨hd0, hd1, by show (⟨#[]⟩ : ByteArray).size ≤ 100000; rw [size_nil]; omega, .inl ?_⟩, ?_, rfl, ?_, ?_, ?_, [a], rfl, ?_⟩
      · exact ⟨by dsimp only; omega, by dsimp only; omega, by dsimp only; omega, by dsimp only; omega, by dsimp only; omega, by dsimp only; omega, by dsimp only; omega, by dsimp only; omega, fun _ => rfl, rfl⟩
      · unfold nextL; dsimp only; rw [if_neg (by omega), if_neg (by omega)]; omega
      · dsimp only; omega
      · dsimp only; omega
      · dsimp only; omega
      · dsimp only; rw [if_pos c3]
    · rw [if_neg c3] at h
      cases hl2 : low r1 with
      | error e => rw [hl2] at h; cases h
      | ok y =>
        obtain ⟨b, r2⟩ := y
        rw [hl2] at h
        dsimp only at h
        obtain ⟨rfl, hb2⟩ := low_ok hl2
        have hb0 := hb.tail.head
        injection h with h; injection h with e1 h; injection h with e2 e3; subst e1 e2 e3
        refine ⟨⟨hd0, hd1, by show (⟨#[]⟩ : ByteArray).size ≤ 100000; rw [size_nil]; omega, .inl ?_⟩, ?_, rfl, ?_, ?_, ?_, [a, b], rfl, ?_⟩
        · exact ⟨by dsimp only; omega, by dsimp only; omega, by dsimp only; omega, by dsimp only; omega, by dsimp only; omega, by dsimp only; omega, by dsimp only; omega, by dsimp only; omega, fun hh => absurd hh c3, rfl⟩
        · unfold nextL; dsimp only; rw [if_neg (by omega), if_neg (by omega)]; omega
        · dsimp only; omega
        · dsimp only; omega
        · dsimp only; omega
        · dsimp only; rw [if_neg c3]

/-- What is read is right; its own bytes are no more. -/
theorem msg_ok {l l' : Int} {r r' : List Int} {m : Msg} (hl : LastOk l) (hb : Bytes r) (h : msg l r = .ok (m, l', r')) :
    Right m ∧ l' = nextL m ∧ ∃ p, r = p ++ r' ∧ (encOne l m).length ≤ p.length ∧ 1 ≤ p.length := by
  cases hv : vlq 4 0 r with
  | error e => unfold msg at h; rw [hv] at h; cases h
  | ok x =>
    obtain ⟨d, r1⟩ := x
    cases r1 with
    | nil => unfold msg at h; rw [hv] at h; cases h
    | cons c r1 =>
      rw [msg_at hv] at h
      obtain ⟨hd0, hd1, p, rfl, hp⟩ := vlq4_ok hb hv
      have hnl := (num_len d).1
      have hb1 : Bytes (c :: r1) := hb.right
      have hc := hb1.head
      by_cases c1 : c < 128
      · rw [if_pos c1] at h
        by_cases c2 : l = 0
        · rw [if_pos c2] at h; cases h
        · rw [if_neg c2] at h
          have hl2 : 128 ≤ l ∧ l < 240 := by rcases hl with hl | hl <;> omega
          obtain ⟨hr, hn, hf0, hk1, hk2, hst, q, hq, hqe⟩ := body_key_ok hd0 hd1 hb1 hl2.1 hl2.2 h
          refine ⟨hr, hn, p ++ q, by rw [hq, List.append_assoc], ?_, by rw [List.length_append]; omega⟩
          unfold encOne
          rw [if_neg hk1, if_neg hk2, if_pos hst, hf0, hqe]
          simp only [List.length_append, List.nil_append]
          omega
      · rw [if_neg c1] at h
        by_cases c2 : c > 240 ∧ c ≠ 247 ∧ c ≠ 255
        · rw [if_pos c2] at h; cases h
        · rw [if_neg c2] at h
          by_cases c3 : c < 240
          · obtain ⟨hr, hn, hf0, hk1, hk2, hst, q, hq, hqe⟩ := body_key_ok hd0 hd1 hb1.tail (by omega) c3 h
            refine ⟨hr, hn, p ++ (c :: q), by rw [hq, List.append_assoc, List.cons_append], ?_, by rw [List.length_append]; simp only [List.length_cons]; omega⟩
            unfold encOne
            rw [if_neg hk1, if_neg hk2, hf0, hqe]
            simp only [List.length_append, List.length_cons]
            split <;> simp <;> omega
          · by_cases c4 : c = 255
            · subst c4
              rw [body_255] at h
              cases hlo : low r1 with
              | error e => rw [hlo] at h; cases h
              | ok x =>
                obtain ⟨a, r2⟩ := x
                rw [hlo] at h
                dsimp only at h
                obtain ⟨rfl, ha⟩ := low_ok hlo
                have ha0 := hb1.tail.head
                cases hda : dat r2 with
                | error e => rw [hda] at h; cases h
                | ok y =>
                  obtain ⟨bs, r3⟩ := y
                  rw [hda] at h
                  dsimp only at h
                  obtain ⟨hbl, hbb, q, rfl, hq⟩ := dat_ok hb1.tail.tail hda
                  injection h with h; injection h with e1 h; injection h with e2 e3; subst e1 e2 e3
                  refine ⟨⟨hd0, hd1, by show (strOfNums bs).size ≤ 100000; rw [str_size]; omega, .inr (.inr ⟨rfl, rfl, rfl, ha0.1, by show a ≤ 127; omega⟩)⟩, rfl, p ++ (255 :: a :: (q ++ bs)), by simp [List.append_assoc], ?_, by rw [List.length_append]; simp only [List.length_cons]; omega⟩
                  unfold encOne
                  rw [if_pos rfl, str_size, bytesOf_str hbb]
                  simp only [List.length_append, List.length_cons]
                  omega
            · rw [body_sys c4 (by omega)] at h
              cases hda : dat r1 with
              | error e => rw [hda] at h; cases h
              | ok y =>
                obtain ⟨bs, r3⟩ := y
                rw [hda] at h
                dsimp only at h
                obtain ⟨hbl, hbb, q, rfl, hq⟩ := dat_ok hb1.tail hda
                injection h with h; injection h with e1 h; injection h with e2 e3; subst e1 e2 e3
                refine ⟨⟨hd0, hd1, by show (strOfNums bs).size ≤ 100000; rw [str_size]; omega, .inr (.inl ⟨rfl, rfl, rfl, by show c = 240 ∨ c = 247; omega⟩)⟩, rfl, p ++ (c :: (q ++ bs)), by simp [List.append_assoc], ?_, by rw [List.length_append]; simp only [List.length_cons]; omega⟩
                unfold encOne
                rw [if_neg (by show ¬ (15 : Int) = 16; decide), if_pos rfl, str_size, bytesOf_str hbb]
                simp only [List.length_append, List.length_cons]
                omega
end Go.Proofs.Ytmeefdaanjaoaaa.Z
