/- The document's own functions of chapter 15 answer as the plain model: numbers in parts, whether a message is right. -/
import Derived.Test.YtmeefdaanjaoaaaB
import Derived.Test.YtmeefdaanjaoaaaM19
import Derived.Test.YtmeefdaanjaoaaaM21
import Derived.Test.YtmeefdaanjaoaaaM23
namespace Go.Proofs.Ytmeefdaanjaoaaa.Z
open Go.RowKit Go.Proofs.YtmeefdaanjaoaaaW.PrintWords Go.Proofs.YtmeefdaanjaoaaaW.PrintLast Go.Proofs.Ytmeefdaanjaoaaa.M
set_option linter.unusedVariables false
set_option linter.unusedSimpArgs false

theorem rvq_stop (n : Int) (xs : List Int) (k : Nat) (hn : n < 128) : partitaref15_Vlq.l0 (k + 1) n xs = some (strOfNums xs, 0) := by
  simp only [partitaref15_Vlq.l0]
  rw [if_neg (by omega)]
theorem rvq_step (n : Int) (xs : List Int) (k : Nat) (hn : 128 ≤ n) (hn2 : n ≤ 268435455) (hx : xs.length ≤ 10) : partitaref15_Vlq.l0 (k + 1) n xs = partitaref15_Vlq.l0 k (n / 128) ((n / 128 % 128 + 128) :: xs) := by
  simp only [partitaref15_Vlq.l0]
  have e1 : Int.tdiv n 128 = n / 128 := Int.tdiv_eq_ediv_of_nonneg (by omega)
  have e2 : Int.tmod (n / 128) 128 = n / 128 % 128 := Int.tmod_eq_emod_of_nonneg (by omega)
  rw [if_pos (by omega), e1, w64 (x := n / 128) (by omega) (by omega), e2, w64 (by omega) (by omega), Option.bind_some, if_pos (by simp; omega)]
  have e3 : (128 + n / 128 % 128) % 256 = n / 128 % 128 + 128 := by omega
  rw [e3]
  rfl
theorem refVlq_f {n : Int} (k : Nat) (hk : 6 ≤ k) (h0 : 0 ≤ n) (h1 : n ≤ 268435455) : partitaref15_Vlq.f k n = some (strOfNums (num n), 0) := by
  obtain ⟨k, rfl⟩ : ∃ m, k = m + 6 := ⟨k - 6, by omega⟩
  unfold partitaref15_Vlq.f
  rw [if_neg (by omega)]
  simp only [partitaref15_Vlq.j0]
  have e0 : Int.tmod n 128 % 256 = n % 128 := by rw [Int.tmod_eq_emod_of_nonneg h0]; omega
  rw [if_neg (by rw [decide_eq_true_eq]; omega), e0]
  by_cases a : n < 128
  · rw [rvq_stop _ _ _ a, num1 h0 a]
    have : n % 128 = n := by omega
    rw [this]
  · rw [rvq_step _ _ _ (by omega) h1 (by simp)]
    by_cases b : n < 16384
    · rw [rvq_stop _ _ _ (by omega), num2 (by omega) b]
      have : n / 128 % 128 = n / 128 := by omega
      rw [this]
    · rw [rvq_step _ _ _ (by omega) (by omega) (by simp)]
      by_cases c : n < 2097152
      · rw [rvq_stop _ _ _ (by omega), num3 (by omega) c]
        have e : n / 128 / 128 % 128 = n / 16384 := by omega
        rw [e]
      · rw [rvq_step _ _ _ (by omega) (by omega) (by simp), rvq_stop _ _ _ (by omega), num4 (by omega) h1]
        have e : n / 128 / 128 % 128 = n / 16384 % 128 := by omega
        have e2 : n / 128 / 128 / 128 % 128 = n / 2097152 := by omega
        rw [e, e2]
theorem refVlq_out {n : Int} (k : Nat) (hk : 6 ≤ k) (h : n < 0 ∨ 268435455 < n) : partitaref15_Vlq.f k n = some (⟨#[]⟩, 150) := by
  obtain ⟨k, rfl⟩ : ∃ m, k = m + 6 := ⟨k - 6, by omega⟩
  unfold partitaref15_Vlq.f
  by_cases c : n < 0
  · rw [if_pos c]
    simp only [partitaref15_Vlq.j0]
    rfl
  · rw [if_neg c]
    simp only [partitaref15_Vlq.j0]
    rw [if_pos (by rw [decide_eq_true_eq]; omega)]

theorem rrv_l0 (s : ByteArray) (hs : s.size ≤ 140737488351232) : ∀ (j : Nat) (a n : Int) (k : Nat), j ≤ 4 → j < k → 0 ≤ n → n ≤ 268435455 → (n + 1) * 128 ^ j ≤ 268435456 → 0 ≤ a → a ≤ s.size →
    partitaref15_ReadVlq.l0 k s a n (4 - j) = some (vlqAns s ((bytesOf s).drop a.toNat) j n)
  | 0, a, n, k, _, hk, _, _, _, _, _ => by
    obtain ⟨k, rfl⟩ : ∃ m, k = m + 1 := ⟨k - 1, by omega⟩
    simp only [partitaref15_ReadVlq.l0]
    rw [if_neg (by omega)]
    rfl
  | j + 1, a, n, k, hj, hk, hn, hn2, hb, ha, hp => by
    obtain ⟨k, rfl⟩ : ∃ m, k = m + 1 := ⟨k - 1, by omega⟩
    simp only [partitaref15_ReadVlq.l0]
    rw [if_pos (by omega)]
    have hp2 : (1 : Int) ≤ 128 ^ j := by
      have : (0 : Int) < 128 ^ j := Int.pow_pos (by decide)
      omega
    have hb2 : (n + 1) * 128 ≤ 268435456 ∧ (n + 1) * 128 * 128 ^ j ≤ 268435456 := by
      rw [Int.pow_succ, Int.mul_comm (128 ^ j) 128, ← Int.mul_assoc] at hb
      refine ⟨?_, hb⟩
      have := Int.mul_le_mul_of_nonneg_left hp2 (show 0 ≤ (n + 1) * 128 by omega)
      omega
    by_cases c1 : a = (s.size : Int)
    · rw [if_pos c1]
      unfold vlqAns
      rw [drop_end s _ (by omega), vlq_nil]
    · have hr := bt_range s a
      have e2 : wrap64 (bt s a) = bt s a := w64 (by omega) (by omega)
      have e3 : wrap64 (128 * n) = 128 * n := w64 (by omega) (by omega)
      rw [if_neg c1, if_pos (by omega), if_pos (by omega), e2, e3]
      unfold vlqAns
      rw [drop_at s _ (by omega) (by omega)]
      generalize hc : bt s a = c at *
      by_cases c2 : c < 128
      · rw [if_pos c2, vlq_lo c2]
        rw [w64 (x := 128 * n + c) (by omega) (by omega), w64 (x := a + 1) (by omega) (by omega)]
        have hl := drop_len s (a + 1) (by omega) (by omega)
        dsimp only
        rw [hl]
        refine congrArg some ?_
        rw [show 128 * n + c = n * 128 + c by omega, show (s.size : Int) - (s.size - (a + 1)) = a + 1 by omega]
      · rw [if_neg c2, vlq_hi c2]
        rw [w64 (x := 128 * n + c) (by omega) (by omega), w64 (x := a + 1) (by omega) (by omega), w64 (x := 128 * n + c - 128) (by omega) (by omega), w64 (by omega) (by omega)]
        have hb3 : (n * 128 + (c - 128) + 1) * 128 ^ j ≤ 268435456 := by
          have := Int.mul_le_mul_of_nonneg_right (show n * 128 + (c - 128) + 1 ≤ (n + 1) * 128 by omega) (show (0 : Int) ≤ 128 ^ j by omega)
          omega
        have ih := rrv_l0 s hs j (a + 1) (n * 128 + (c - 128)) k (by omega) (by omega) (by omega) (by omega) hb3 (by omega) (by omega)
        have e5 : (4 - ((j + 1 : Nat) : Int)) + 1 = 4 - (j : Int) := by omega
        rw [e5, show 128 * n + c - 128 = n * 128 + (c - 128) by omega, ih]
        rfl
theorem refReadVlq_f (s : ByteArray) (a : Int) (k : Nat) (hk : 7 ≤ k) (h0 : 0 ≤ a) (h1 : a ≤ s.size) (hs : s.size ≤ 140737488351232) :
    partitaref15_ReadVlq.f k s a = some (vlqAns s ((bytesOf s).drop a.toNat) 4 0) := by
  unfold partitaref15_ReadVlq.f
  rw [if_neg (by omega)]
  obtain ⟨k, rfl⟩ : ∃ m, k = m + 1 := ⟨k - 1, by omega⟩
  simp only [partitaref15_ReadVlq.j0]
  rw [if_neg (by rw [decide_eq_true_eq]; omega)]
  have h := rrv_l0 s hs 4 a 0 k (by omega) (by omega) (by omega) (by omega) (by decide) h0 h1
  have e : (4 : Int) - ((4 : Nat) : Int) = 0 := by omega
  rw [e] at h
  exact h
theorem refReadVlq_out (s : ByteArray) (a : Int) (k : Nat) (hk : 7 ≤ k) (h : a < 0 ∨ (s.size : Int) < a) : partitaref15_ReadVlq.f k s a = some (0, 0, 2) := by
  unfold partitaref15_ReadVlq.f
  obtain ⟨k, rfl⟩ : ∃ m, k = m + 1 := ⟨k - 1, by omega⟩
  by_cases c : a < 0
  · rw [if_pos c]
    simp only [partitaref15_ReadVlq.j0]
    rfl
  · rw [if_neg c]
    simp only [partitaref15_ReadVlq.j0]
    rw [if_pos (by rw [decide_eq_true_eq]; omega)]

set_option maxHeartbeats 1000000 in
theorem refRight_f (m : Msg) (k : Nat) (hk : 6 ≤ k) : partitaref15_Right.f k m.f0 m.f1 m.f2 m.f3 m.f4 m.f5 = some (decide (Right m)) := by
  obtain ⟨f0, f1, f2, f3, f4, f5⟩ := m
  obtain ⟨k, rfl⟩ : ∃ q, k = q + 6 := ⟨k - 6, by omega⟩
  generalize hD : decide (Right ⟨f0, f1, f2, f3, f4, f5⟩) = D
  have hR : D = true ↔ (0 ≤ f0 ∧ f0 ≤ 268435455 ∧ f5.size ≤ 100000 ∧ ((8 ≤ f1 ∧ f1 ≤ 14 ∧ 0 ≤ f2 ∧ f2 ≤ 15 ∧ 0 ≤ f3 ∧ f3 ≤ 127 ∧ 0 ≤ f4 ∧ f4 ≤ 127 ∧ (f1 = 12 ∨ f1 = 13 → f4 = 0) ∧ f5.size = 0) ∨
   (f1 = 15 ∧ f2 = 0 ∧ f4 = 0 ∧ (f3 = 240 ∨ f3 = 247)) ∨ (f1 = 16 ∧ f2 = 0 ∧ f4 = 0 ∧ 0 ≤ f3 ∧ f3 ≤ 127))) := by
    rw [← hD, decide_eq_true_eq]; rfl
  clear hD
  simp only [partitaref15_Right.f, partitaref15_Right.j0, partitaref15_Right.j1, partitaref15_Right.j2, Option.bind_some, decide_eq_true_eq, beq_iff_eq, Bool.false_eq_true, if_false, if_true]
  repeat' (refine ite_to (fun _ => ?_) (fun _ => ?_))
  all_goals
    refine congrArg some ?_
    rw [Bool.eq_iff_iff, hR]
    simp only [decide_eq_true_eq, beq_iff_eq, bne_iff_ne, Bool.false_eq_true, false_iff, true_iff]
    omega
end Go.Proofs.Ytmeefdaanjaoaaa.Z
