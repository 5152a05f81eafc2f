/- The document's own functions of chapter 15 answer as the plain model: numbers in parts, whether a message is right.
The document's own Decode answers as the plain model. -/
import Derived.Test.YtmeefdaanjaoaaaB
import Derived.Test.YtmeefdaanjaoaaaM19
import Derived.Test.YtmeefdaanjaoaaaM21
import Derived.Test.YtmeefdaanjaoaaaM23
import Derived.Test.YtmeefdaanjaoaaaM34
namespace Go.Proofs.Ytmeefdaanjaoaaa.Z
open Go.RowKit Go.Proofs.YtmeefdaanjaoaaaW.PrintWords Go.Proofs.YtmeefdaanjaoaaaW.PrintLast Go.Proofs.Ytmeefdaanjaoaaa.M
set_option linter.unusedVariables false
set_option linter.unusedSimpArgs false

theorem rvq_stop (n : Int) (xs : List Int) (k : Nat) (hn : n < 128) : partitaref15_Vlq.l0 (k + 1) n xs = some (strOfNums xs, 0) := by
  simp only [partitaref15_Vlq.l0]
  rw [if_neg (by omega)]
theorem rvq_step (n : Int) (xs : List Int) (k : Nat) (hn : 128 ≤ n) (hn2 : n ≤ 268435455) (hx : xs.length ≤ 10) : partitaref15_Vlq.l0 (k + 1) n xs = partitaref15_Vlq.l0 k (n / 128) ((n / 128 % 128 + 128) :: xs) := by
  simp only [partitaref15_Vlq.l0]
  have e1 : Int.tdiv n 128 = n / 128 := Int.tdiv_eq_ediv_of_nonneg (by omega)
  have e2 : Int.tmod (n / 128) 128 = n / 128 % 128 := Int.tmod_eq_emod_of_nonneg (by omega)
  rw [if_pos (by omega), e1, w64 (x := n / 128) (by omega) (by omega), e2, w64 (by omega) (by omega), Option.bind_some, if_pos (by simp; omega)]
  have e3 : (128 + n / 128 % 128) % 256 = n / 128 % 128 + 128 := by omega
  rw [e3]
  rfl
theorem refVlq_f {n : Int} (k : Nat) (hk : 6 ≤ k) (h0 : 0 ≤ n) (h1 : n ≤ 268435455) : partitaref15_Vlq.f k n = some (strOfNums (num n), 0) := by
  obtain ⟨k, rfl⟩ : ∃ m, k = m + 6 := ⟨k - 6, by omega⟩
  unfold partitaref15_Vlq.f
  rw [if_neg (by omega)]
  simp only [partitaref15_Vlq.j0]
  have e0 : Int.tmod n 128 % 256 = n % 128 := by rw [Int.tmod_eq_emod_of_nonneg h0]; omega
  rw [if_neg (by rw [decide_eq_true_eq]; omega), e0]
  by_cases a : n < 128
  · rw [rvq_stop _ _ _ a, num1 h0 a]
    have : n % 128 = n := by omega
    rw [this]
  · rw [rvq_step _ _ _ (by omega) h1 (by simp)]
    by_cases b : n < 16384
    · rw [rvq_stop _ _ _ (by omega), num2 (by omega) b]
      have : n / 128 % 128 = n / 128 := by omega
      rw [this]
    · rw [rvq_step _ _ _ (by omega) (by omega) (by simp)]
      by_cases c : n < 2097152
      · rw [rvq_stop _ _ _ (by omega), num3 (by omega) c]
        have e : n / 128 / 128 % 128 = n / 16384 := by omega
        rw [e]
      · rw [rvq_step _ _ _ (by omega) (by omega) (by simp), rvq_stop _ _ _ (by omega), num4 (by omega) h1]
        have e : n / 128 / 128 % 128 = n / 16384 % 128 := by omega
        have e2 : n / 128 / 128 / 128 % 128 = n / 2097152 := by omega
        rw [e, e2]
theorem refVlq_out {n : Int} (k : Nat) (hk : 6 ≤ k) (h : n < 0 ∨ 268435455 < n) : partitaref15_Vlq.f k n = some (⟨#[]⟩, 150) := by
  obtain ⟨k, rfl⟩ : ∃ m, k = m + 6 := ⟨k - 6, by omega⟩
  unfold partitaref15_Vlq.f
  by_cases c : n < 0
  · rw [if_pos c]
    simp only [partitaref15_Vlq.j0]
    rfl
  · rw [if_neg c]
    simp only [partitaref15_Vlq.j0]
    rw [if_pos (by rw [decide_eq_true_eq]; omega)]

theorem rrv_l0 (s : ByteArray) (hs : s.size ≤ 140737488351232) : ∀ (j : Nat) (a n : Int) (k : Nat), j ≤ 4 → j < k → 0 ≤ n → n ≤ 268435455 → (n + 1) * 128 ^ j ≤ 268435456 → 0 ≤ a → a ≤ s.size →
    partitaref15_ReadVlq.l0 k s a n (4 - j) = some (vlqAns s ((bytesOf s).drop a.toNat) j n)
  | 0, a, n, k, _, hk, _, _, _, _, _ => by
    obtain ⟨k, rfl⟩ : ∃ m, k = m + 1 := ⟨k - 1, by omega⟩
    simp only [partitaref15_ReadVlq.l0]
    rw [if_neg (by omega)]
    rfl
  | j + 1, a, n, k, hj, hk, hn, hn2, hb, ha, hp => by
    obtain ⟨k, rfl⟩ : ∃ m, k = m + 1 := ⟨k - 1, by omega⟩
    simp only [partitaref15_ReadVlq.l0]
    rw [if_pos (by omega)]
    have hp2 : (1 : Int) ≤ 128 ^ j := by
      have : (0 : Int) < 128 ^ j := Int.pow_pos (by decide)
      omega
    have hb2 : (n + 1) * 128 ≤ 268435456 ∧ (n + 1) * 128 * 128 ^ j ≤ 268435456 := by
      rw [Int.pow_succ, Int.mul_comm (128 ^ j) 128, ← Int.mul_assoc] at hb
      refine ⟨?_, hb⟩
      have := Int.mul_le_mul_of_nonneg_left hp2 (show 0 ≤ (n + 1) * 128 by omega)
      omega
    by_cases c1 : a = (s.size : Int)
    · rw [if_pos c1]
      unfold vlqAns
      rw [drop_end s _ (by omega), vlq_nil]
    · have hr := bt_range s a
      have e2 : wrap64 (bt s a) = bt s a := w64 (by omega) (by omega)
      have e3 : wrap64 (128 * n) = 128 * n := w64 (by omega) (by omega)
      rw [if_neg c1, if_pos (by omega), if_pos (by omega), e2, e3]
      unfold vlqAns
      rw [drop_at s _ (by omega) (by omega)]
      generalize hc : bt s a = c at *
      by_cases c2 : c < 128
      · rw [if_pos c2, vlq_lo c2]
        rw [w64 (x := 128 * n + c) (by omega) (by omega), w64 (x := a + 1) (by omega) (by omega)]
        have hl := drop_len s (a + 1) (by omega) (by omega)
        dsimp only
        rw [hl]
        refine congrArg some ?_
        rw [show 128 * n + c = n * 128 + c by omega, show (s.size : Int) - (s.size - (a + 1)) = a + 1 by omega]
      · rw [if_neg c2, vlq_hi c2]
        rw [w64 (x := 128 * n + c) (by omega) (by omega), w64 (x := a + 1) (by omega) (by omega), w64 (x := 128 * n + c - 128) (by omega) (by omega), w64 (by omega) (by omega)]
        have hb3 : (n * 128 + (c - 128) + 1) * 128 ^ j ≤ 268435456 := by
          have := Int.mul_le_mul_of_nonneg_right (show n * 128 + (c - 128) + 1 ≤ (n + 1) * 128 by omega) (show (0 : Int) ≤ 128 ^ j by omega)
          omega
        have ih := rrv_l0 s hs j (a + 1) (n * 128 + (c - 128)) k (by omega) (by omega) (by omega) (by omega) hb3 (by omega) (by omega)
        have e5 : (4 - ((j + 1 : Nat) : Int)) + 1 = 4 - (j : Int) := by omega
        rw [e5, show 128 * n + c - 128 = n * 128 + (c - 128) by omega, ih]
        rfl
theorem refReadVlq_f (s : ByteArray) (a : Int) (k : Nat) (hk : 7 ≤ k) (h0 : 0 ≤ a) (h1 : a ≤ s.size) (hs : s.size ≤ 140737488351232) :
    partitaref15_ReadVlq.f k s a = some (vlqAns s ((bytesOf s).drop a.toNat) 4 0) := by
  unfold partitaref15_ReadVlq.f
  rw [if_neg (by omega)]
  obtain ⟨k, rfl⟩ : ∃ m, k = m + 1 := ⟨k - 1, by omega⟩
  simp only [partitaref15_ReadVlq.j0]
  rw [if_neg (by rw [decide_eq_true_eq]; omega)]
  have h := rrv_l0 s hs 4 a 0 k (by omega) (by omega) (by omega) (by omega) (by decide) h0 h1
  have e : (4 : Int) - ((4 : Nat) : Int) = 0 := by omega
  rw [e] at h
  exact h
theorem refReadVlq_out (s : ByteArray) (a : Int) (k : Nat) (hk : 7 ≤ k) (h : a < 0 ∨ (s.size : Int) < a) : partitaref15_ReadVlq.f k s a = some (0, 0, 2) := by
  unfold partitaref15_ReadVlq.f
  obtain ⟨k, rfl⟩ : ∃ m, k = m + 1 := ⟨k - 1, by omega⟩
  by_cases c : a < 0
  · rw [if_pos c]
    simp only [partitaref15_ReadVlq.j0]
    rfl
  · rw [if_neg c]
    simp only [partitaref15_ReadVlq.j0]
    rw [if_pos (by rw [decide_eq_true_eq]; omega)]

set_option maxHeartbeats 1000000 in
theorem refRight_f (m : Msg) (k : Nat) (hk : 6 ≤ k) : partitaref15_Right.f k m.f0 m.f1 m.f2 m.f3 m.f4 m.f5 = some (decide (Right m)) := by
  obtain ⟨f0, f1, f2, f3, f4, f5⟩ := m
  obtain ⟨k, rfl⟩ : ∃ q, k = q + 6 := ⟨k - 6, by omega⟩
  generalize hD : decide (Right ⟨f0, f1, f2, f3, f4, f5⟩) = D
  have hR : D = true ↔ (0 ≤ f0 ∧ f0 ≤ 268435455 ∧ f5.size ≤ 100000 ∧ ((8 ≤ f1 ∧ f1 ≤ 14 ∧ 0 ≤ f2 ∧ f2 ≤ 15 ∧ 0 ≤ f3 ∧ f3 ≤ 127 ∧ 0 ≤ f4 ∧ f4 ≤ 127 ∧ (f1 = 12 ∨ f1 = 13 → f4 = 0) ∧ f5.size = 0) ∨
   (f1 = 15 ∧ f2 = 0 ∧ f4 = 0 ∧ (f3 = 240 ∨ f3 = 247)) ∨ (f1 = 16 ∧ f2 = 0 ∧ f4 = 0 ∧ 0 ≤ f3 ∧ f3 ≤ 127))) := by
    rw [← hD, decide_eq_true_eq]; rfl
  clear hD
  simp only [partitaref15_Right.f, partitaref15_Right.j0, partitaref15_Right.j1, partitaref15_Right.j2, Option.bind_some, decide_eq_true_eq, beq_iff_eq, Bool.false_eq_true, if_false, if_true]
  repeat' (refine ite_to (fun _ => ?_) (fun _ => ?_))
  all_goals
    refine congrArg some ?_
    rw [Bool.eq_iff_iff, hR]
    simp only [decide_eq_true_eq, beq_iff_eq, bne_iff_ne, Bool.false_eq_true, false_iff, true_iff]
    omega

section
variable {s : ByteArray} {r : List Int} {last : Int} {k : Nat}

theorem vlqAns_err {e : Int} (h : vlq 4 0 r = .error e) : vlqAns s r 4 0 = (0, 0, e) := by unfold vlqAns; rw [h]
theorem vlqAns_ok {m : Int} {r' : List Int} (h : vlq 4 0 r = .ok (m, r')) : vlqAns s r 4 0 = (m, pos s r', 0) := by unfold vlqAns; rw [h]; rfl

theorem rlow_r (hs : s.size ≤ 140737488351232) (h : Suf s r) : partitaref15_low.f s (pos s r) = some (match low r with
    | .error e => (0, e)
    | .ok (a, _) => (a, 0)) := by
  unfold partitaref15_low.f
  cases r with
  | nil => rw [pos_nil, if_pos (by omega)]; rfl
  | cons c r =>
    have hp := pos_lt (s := s) (c := c) (r := r)
    have hp0 := pos_nonneg h
    have hc := h.bytes.head
    rw [if_neg (by omega), if_pos hp0, if_pos hp, bt_pos h]
    by_cases c1 : c ≥ 128
    · rw [if_pos c1, low, if_pos c1]
    · rw [if_neg c1, low, if_neg c1, w64 (by omega) (by omega)]
theorem rdata_r (hk : 7 ≤ k) (hs : s.size ≤ 140737488351232) (h : Suf s r) : partitaref15_data.f k s (pos s r) = some (match dat r with
    | .error e => (⟨#[]⟩, 0, e)
    | .ok (bs, r') => (strOfNums bs, pos s r', 0)) := by
  unfold partitaref15_data.f
  rw [refReadVlq_f s _ k hk (pos_nonneg h) (pos_le s r) hs, pos_drop h]
  unfold dat
  cases hv : vlq 4 0 r with
  | error e =>
    rw [vlqAns_err hv, Option.bind_some]
    dsimp only
    have he : e ≠ 0 := by rcases vlq_e hv with rfl | rfl <;> decide
    rw [if_neg he]
  | ok x =>
    obtain ⟨n, r1⟩ := x
    obtain ⟨h0, h1, _⟩ := vlq4_ok h.bytes hv
    have h2 := vlq_suf h hv
    have hp0 := pos_nonneg h2
    have hpl := pos_le s r1
    rw [vlqAns_ok hv, Option.bind_some]
    dsimp only
    rw [if_pos rfl]
    have hpe2 : pos s r1 = (s.size : Int) - r1.length := rfl
    by_cases c1 : n > 100000
    · rw [if_pos c1, if_pos c1]
    · rw [if_neg c1, if_neg c1, w64 (by omega) (by omega)]
      by_cases c2 : n > r1.length
      · rw [if_pos c2, if_pos (by omega)]
      · rw [if_neg c2, if_neg (by omega), if_pos (by omega), if_pos (by omega), if_pos (by omega)]
        dsimp only
        have e1 : s.extract (pos s r1).toNat (pos s r1 + n).toNat = strOfNums (r1.take n.toNat) := by
          apply bytesOf_inj
          rw [bytesOf_extract, pos_drop h2, bytesOf_str (h2.bytes.take _)]
          congr 1
          omega
        have e2 : pos s r1 + n = pos s (r1.drop n.toNat) := by
          unfold pos
          rw [List.length_drop]
          omega
        rw [e1, e2]

/-- What is told of a message. -/
def ToldR (x : Except Int (Msg × Int × List Int)) (s : ByteArray) (o : Option (Int × Int × Int × Int × Int × ByteArray × Int × Int × Int)) : Prop :=
  match x with
  | .error e => e ≠ 0 ∧ ∃ t, o = some t ∧ t.2.2.2.2.2.2.2.2 = e
  | .ok (m, l', r') => o = some (m.f0, m.f1, m.f2, m.f3, m.f4, m.f5, l', pos s r', 0)

theorem rj1_r {d c : Int} (hk : 8 ≤ k) (hs : s.size ≤ 140737488351232) (h : Suf s r) (h1 : 128 ≤ c) (h2 : c ≤ 255) : ToldR (body d c r) s (partitaref15_read.j1 k s (pos s r) c d 0 0 0 0 (⟨#[]⟩ : ByteArray)) := by
  obtain ⟨k, rfl⟩ : ∃ m, k = m + 1 := ⟨k - 1, by omega⟩
  have hp0 := pos_nonneg h
  have hpl := pos_le s r
  have hplus : ∀ {a : Int} {r1 : List Int}, low r = .ok (a, r1) → wrap64 (pos s r + 1) = pos s r1 := by
    intro a r1 hl
    obtain ⟨rfl, _⟩ := low_ok hl
    rw [w64 (by omega) (by omega), ← pos_cons]
  simp only [partitaref15_read.j1]
  by_cases c1 : c = 255
  · subst c1
    rw [if_neg (by decide), if_pos rfl, body_255]
    unfold partitaref15_long.f
    rw [if_pos rfl, rlow_r hs h, Option.bind_some]
    cases hl : low r with
    | error e =>
      dsimp only
      have he : e ≠ 0 := by rcases low_e hl with rfl | rfl <;> decide
      rw [if_neg he]
      exact ⟨he, _, rfl, rfl⟩
    | ok x =>
      obtain ⟨a, r1⟩ := x
      dsimp only
      rw [if_pos rfl, hplus hl, rdata_r (by omega) hs (low_suf h hl), Option.bind_some]
      cases hd : dat r1 with
      | error e => exact ⟨by rcases dat_e hd with rfl | rfl | rfl <;> decide, _, rfl, rfl⟩
      | ok y => obtain ⟨bs, r2⟩ := y; exact rfl
  · by_cases c2 : c ≥ 240
    · rw [if_neg (by omega), if_neg c1, body_sys c1 c2]
      unfold partitaref15_long.f
      rw [if_neg (by decide), rdata_r (by omega) hs h, Option.bind_some]
      cases hd : dat r with
      | error e => exact ⟨by rcases dat_e hd with rfl | rfl | rfl <;> decide, _, rfl, rfl⟩
      | ok y => obtain ⟨bs, r2⟩ := y; exact rfl
    · rw [if_pos (by omega), body_key (by omega)]
      have e1 : wrap64 (Int.tdiv c 16) = c / 16 := by rw [Int.tdiv_eq_ediv_of_nonneg (by omega)]; exact w64 (by omega) (by omega)
      have e2 : Int.tmod c 16 = c % 16 := Int.tmod_eq_emod_of_nonneg (by omega)
      unfold partitaref15_short.f
      rw [e1, e2, rlow_r hs h, Option.bind_some]
      cases hl : low r with
      | error e =>
        dsimp only
        have he : e ≠ 0 := by rcases low_e hl with rfl | rfl <;> decide
        rw [if_neg he]
        exact ⟨he, _, rfl, rfl⟩
      | ok x =>
        obtain ⟨a, r1⟩ := x
        dsimp only
        have h3 := low_suf h hl
        rw [if_pos rfl]
        by_cases c3 : c / 16 = 12 ∨ c / 16 = 13
        · rw [if_pos c3]
          by_cases c4 : c / 16 = 12
          · rw [if_pos c4, hplus hl]; exact rfl
          · rw [if_neg c4, if_pos (by omega), hplus hl]; exact rfl
        · rw [if_neg c3, if_neg (by omega), if_neg (by omega), hplus hl, rlow_r hs h3, Option.bind_some]
          cases hl2 : low r1 with
          | error e => exact ⟨by rcases low_e hl2 with rfl | rfl <;> decide, _, rfl, rfl⟩
          | ok y =>
            obtain ⟨b, r2⟩ := y
            have e3 : wrap64 (pos s r + 2) = pos s r2 := by
              obtain ⟨rfl, _⟩ := low_ok hl
              obtain ⟨rfl, _⟩ := low_ok hl2
              have q1 := pos_cons (s := s) (c := b) (r := r2)
              have q2 := pos_cons (s := s) (c := a) (r := b :: r2)
              rw [w64 (by omega) (by omega)]
              omega
            dsimp only
            rw [e3]
            exact rfl

theorem read_r (hk : 10 ≤ k) (hs : s.size ≤ 140737488351232) (h : Suf s r) (hl : LastOk last) : ToldR (msg last r) s (partitaref15_read.f k s (pos s r) last) := by
  unfold partitaref15_read.f
  rw [refReadVlq_f s _ k (by omega) (pos_nonneg h) (pos_le s r) hs, pos_drop h]
  cases hv : vlq 4 0 r with
  | error e =>
    have he : e ≠ 0 := by rcases vlq_e hv with rfl | rfl <;> decide
    unfold msg
    rw [vlqAns_err hv, hv, Option.bind_some]
    dsimp only
    rw [if_neg he]
    exact ⟨he, _, rfl, rfl⟩
  | ok x =>
    obtain ⟨d, r1⟩ := x
    have h2 := vlq_suf h hv
    rw [vlqAns_ok hv, Option.bind_some]
    dsimp only
    rw [if_pos rfl]
    cases r1 with
    | nil =>
      unfold msg
      rw [hv, pos_nil, if_pos rfl]
      exact ⟨by decide, _, rfl, rfl⟩
    | cons c r1 =>
      obtain ⟨k, rfl⟩ : ∃ m, k = m + 1 := ⟨k - 1, by omega⟩
      have hp := pos_lt (s := s) (c := c) (r := r1)
      have hp0 := pos_nonneg h2
      have hc := h2.bytes.head
      rw [msg_at hv, if_neg (show ¬ pos s (c :: r1) = (s.size : Int) by omega), if_pos hp0, if_pos hp, bt_pos h2, w64 (x := c) (by omega) (by omega)]
      by_cases c1 : c < 128
      · rw [if_pos c1, if_pos c1]
        by_cases c2 : last = 0
        · rw [if_pos c2, if_pos c2]
          simp only [partitaref15_read.j0]
          exact ⟨by decide, _, rfl, rfl⟩
        · rw [if_neg c2, if_neg c2, if_neg (by omega)]
          simp only [partitaref15_read.j0]
          rw [if_neg (by decide), if_pos c1]
          have hl2 : 128 ≤ last ∧ last < 240 := by rcases hl with hl | hl <;> omega
          exact rj1_r (by omega) hs h2 hl2.1 (by omega)
      · have hw : wrap64 (pos s (c :: r1) + 1) = pos s r1 := by rw [w64 (by omega) (by omega), ← pos_cons]
        rw [if_neg c1, if_neg c1]
        by_cases c2 : c > 240 ∧ c ≠ 247 ∧ c ≠ 255
        · rw [if_pos c2, if_pos c2.1, if_neg c2.2.1]
          simp only [partitaref15_read.j0]
          rw [if_pos (by rw [bne_iff_ne]; exact c2.2.2)]
          exact ⟨by decide, _, rfl, rfl⟩
        · rw [if_neg c2]
          have hgo : ToldR (body d c r1) s (partitaref15_read.j0 (k + 1) s last (pos s (c :: r1)) c false d 0 0 0 0 ⟨#[]⟩) := by
            simp only [partitaref15_read.j0]
            rw [if_neg (by decide), if_neg c1, hw]
            exact rj1_r (by omega) hs h2.tail (by omega) hc.2
          by_cases c3 : c > 240
          · rw [if_pos c3]
            by_cases c4 : c = 247
            · rw [if_pos c4]; exact hgo
            · rw [if_neg c4]
              have c5 : c = 255 := by omega
              have : (c != 255) = false := by rw [c5]; rfl
              rw [this]; exact hgo
          · rw [if_neg c3]; exact hgo
end

theorem rdecode_l0 {s : ByteArray} (hs : s.size ≤ 1000000000) : ∀ {l : Int} {r : List Int} {ms : List Msg}, Dec l r ms → LastOk l → Suf s r → ∀ (out : List Msg) (k : Nat), out.length + r.length ≤ 1000000000 → ms.length + 12 < k →
    partitaref15_Decode.l0 k s out (pos s r) l = some (out ++ ms, 0, 0)
  | l, _, _, .nil _, hl, h, out, k, _, hk => by
    obtain ⟨k, rfl⟩ : ∃ m, k = m + 1 := ⟨k - 1, by omega⟩
    simp only [partitaref15_Decode.l0]
    rw [pos_nil, if_neg (by omega), List.append_nil]
  | l, r, _, .cons (m := m) (ms := ms) (r' := r') (l' := l') hm hd, hl, h, out, k, ho, hk => by
    rw [List.length_cons] at hk
    obtain ⟨k, rfl⟩ : ∃ m, k = m + 1 := ⟨k - 1, by omega⟩
    have ht := read_r (k := k) (by omega) (by omega) h hl
    rw [hm] at ht
    have h2 : partitaref15_read.f k s (pos s r) l = some (m.f0, m.f1, m.f2, m.f3, m.f4, m.f5, l', pos s r', 0) := ht
    obtain ⟨k1, rfl, p, hp, k3, k4⟩ := msg_ok hl h.bytes hm
    have h1 : Suf s r' := by rw [hp] at h; exact h.of
    have hlen : r.length = p.length + r'.length := by rw [hp, List.length_append]
    have hlt : pos s r < s.size := by unfold pos; omega
    simp only [partitaref15_Decode.l0]
    rw [if_pos hlt, h2, Option.bind_some]
    dsimp only
    rw [if_pos rfl, if_pos (by omega)]
    have ih := rdecode_l0 hs hd (nextL_ok k1) h1 (out ++ [m]) k (by rw [List.length_append, List.length_singleton]; omega) (by omega)
    rw [List.append_assoc] at ih
    exact ih
theorem rdecode_bad {s : ByteArray} (hs : s.size ≤ 1000000000) {l e : Int} {r : List Int} {n : Nat} (hd : Bad l r e n) : LastOk l → Suf s r → ∀ (out : List Msg), out.length + r.length ≤ 1000000000 →
    ∃ K, ∀ k, K ≤ k → partitaref15_Decode.l0 k s out (pos s r) l = some ([], (s.size : Int) - (n : Int), e) := by
  induction hd with
  | @here l e r hne hm =>
    intro hl h out _
    refine ⟨12, fun k hk => ?_⟩
    obtain ⟨k, rfl⟩ : ∃ m, k = m + 1 := ⟨k - 1, by omega⟩
    have ht := read_r (k := k) (by omega) (by omega) h hl
    rw [hm] at ht
    obtain ⟨he, t, h1, h2⟩ := ht
    have hlt : pos s r < s.size := by
      have := List.length_pos_iff.2 hne
      unfold pos; omega
    simp only [partitaref15_Decode.l0]
    rw [if_pos hlt, h1, Option.bind_some, h2, if_neg he]
    rfl
  | @later l l' e r r' m n hm _ ih =>
    intro hl h out ho
    obtain ⟨k1, rfl, p, hp, k3, k4⟩ := msg_ok hl h.bytes hm
    have hlen : r.length = p.length + r'.length := by rw [hp, List.length_append]
    have hsuf : Suf s r' := by rw [hp] at h; exact h.of
    obtain ⟨K, hK⟩ := ih (nextL_ok k1) hsuf (out ++ [m]) (by rw [List.length_append, List.length_singleton]; omega)
    refine ⟨K + 12, fun k hk => ?_⟩
    obtain ⟨k, rfl⟩ : ∃ m, k = m + 1 := ⟨k - 1, by omega⟩
    have ht := read_r (k := k) (by omega) (by omega) h hl
    rw [hm] at ht
    have h2 : partitaref15_read.f k s (pos s r) l = some (m.f0, m.f1, m.f2, m.f3, m.f4, m.f5, nextL m, pos s r', 0) := ht
    have hlt : pos s r < s.size := by unfold pos; omega
    simp only [partitaref15_Decode.l0]
    rw [if_pos hlt, h2, Option.bind_some]
    dsimp only
    rw [if_pos rfl, if_pos (by omega)]
    exact hK k (by omega)
theorem rdecode_ok {s : ByteArray} (hs : s.size ≤ 1000000000) {ms : List Msg} (h : Dec 0 (bytesOf s) ms) : Ev (fun k => partitaref15_Decode.f k s) (ms, 0, 0) := by
  refine ⟨ms.length + 13, fun k hk => ?_⟩
  have h1 := rdecode_l0 hs h (.inl rfl) (Suf.all s) [] k (by rw [bytesOf_length]; simpa using hs) (by omega)
  rw [pos_all] at h1
  exact h1
theorem rdecode_err {s : ByteArray} (hs : s.size ≤ 1000000000) {e : Int} {n : Nat} (h : Bad 0 (bytesOf s) e n) : Ev (fun k => partitaref15_Decode.f k s) ([], (s.size : Int) - (n : Int), e) := by
  obtain ⟨K, hK⟩ := rdecode_bad hs h (.inl rfl) (Suf.all s) [] (by rw [bytesOf_length]; simpa using hs)
  refine ⟨K, fun k hk => ?_⟩
  have h1 := hK k hk
  rw [pos_all] at h1
  exact h1
end Go.Proofs.Ytmeefdaanjaoaaa.Z
