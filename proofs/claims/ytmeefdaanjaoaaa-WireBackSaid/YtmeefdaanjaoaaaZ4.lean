/- The program's functions of package wire answer as the plain model: numbers in parts, whether a message is right, what is read of bytes. -/
import Derived.Test.YtmeefdaanjaoaaaZ3
import Derived.Test.YtmeefdaanjaoaaaM16
import Derived.Test.YtmeefdaanjaoaaaM9
namespace Go.Proofs.Ytmeefdaanjaoaaa.Z
open Go.RowKit Go.Proofs.YtmeefdaanjaoaaaW.PrintWords Go.Proofs.YtmeefdaanjaoaaaW.PrintLast Go.Proofs.Ytmeefdaanjaoaaa.M
set_option linter.unusedVariables false

theorem num_eq (n : Int) : wire_number.num n = num n := rfl
theorem number_f {n : Int} (h0 : 0 ≤ n) (h1 : n ≤ 268435455) : wire_number.f n = some (num n) := by
  unfold wire_number.f
  rw [if_pos h0, if_pos h1]
  rfl
theorem counts_f (n : Int) : wire_counts.f n = some (decide (0 ≤ n ∧ n ≤ 268435455)) := by
  unfold wire_counts.f
  by_cases h : n ≥ 0
  · rw [if_pos h]
    congr 1
    rw [Bool.eq_iff_iff, decide_eq_true_eq, decide_eq_true_eq]
    omega
  · rw [if_neg h]
    congr 1
    rw [Bool.eq_iff_iff, decide_eq_true_eq]
    constructor
    · intro h; cases h
    · omega

/-- What ReadVlq answers. -/
def vlqAns (s : ByteArray) (r : List Int) (j : Nat) (n : Int) : Int × Int × Int :=
  match vlq j n r with
  | .error e => (0, 0, e)
  | .ok (m, r') => (m, s.size - r'.length, 0)

theorem rv_l0 (s : ByteArray) (a : Int) (h0 : 0 ≤ a) (hs : s.size ≤ 140737488351232) : ∀ (j : Nat) (n : Int) (k : Nat), j ≤ 4 → j < k → 0 ≤ n → (n + 1) * 128 ^ j ≤ 268435456 → a + (4 - j) ≤ s.size →
    wire_ReadVlq.l0 k s a n (4 - j) = some (vlqAns s ((bytesOf s).drop (a + (4 - j)).toNat) j n)
  | 0, n, k, _, hk, _, _, _ => by
    obtain ⟨k, rfl⟩ : ∃ m, k = m + 1 := ⟨k - 1, by omega⟩
    simp only [wire_ReadVlq.l0]
    rw [if_neg (by omega)]
    rfl
  | j + 1, n, k, hj, hk, hn, hb, hp => by
    obtain ⟨k, rfl⟩ : ∃ m, k = m + 1 := ⟨k - 1, by omega⟩
    have e1 : wrap64 (a + (4 - ((j + 1 : Nat) : Int))) = a + (4 - ((j + 1 : Nat) : Int)) := w64 (by omega) (by omega)
    simp only [wire_ReadVlq.l0]
    rw [if_pos (by omega), e1]
    have hp2 : (1 : Int) ≤ 128 ^ j := by
      have : (0 : Int) < 128 ^ j := Int.pow_pos (by decide)
      omega
    have hb2 : n + 1 ≤ 268435456 ∧ (n + 1) * 128 * 128 ^ j ≤ 268435456 := by
      rw [Int.pow_succ, Int.mul_comm (128 ^ j) 128, ← Int.mul_assoc] at hb
      refine ⟨?_, hb⟩
      have := Int.mul_le_mul_of_nonneg_left hp2 (show 0 ≤ (n + 1) * 128 by omega)
      omega
    by_cases c1 : a + (4 - ((j + 1 : Nat) : Int)) ≥ (s.size : Int)
    · rw [if_pos c1]
      unfold vlqAns
      rw [drop_end s _ (by omega), vlq_nil]
    · have hr := bt_range s (a + (4 - ((j + 1 : Nat) : Int)))
      have e2 : wrap64 (bt s (a + (4 - ((j + 1 : Nat) : Int)))) = bt s (a + (4 - ((j + 1 : Nat) : Int))) := w64 (by omega) (by omega)
      have e3 : wrap64 (n * 128) = n * 128 := w64 (by omega) (by omega)
      rw [if_neg c1, if_pos (by omega), if_pos (by omega), e2, e3]
      unfold vlqAns
      rw [drop_at s _ (by omega) (by omega)]
      generalize hc : bt s (a + (4 - ((j + 1 : Nat) : Int))) = c at *
      by_cases c2 : c < 128
      · rw [if_pos c2, vlq_lo c2]
        have e4 : Int.tmod c 128 = c := by rw [Int.tmod_eq_emod_of_nonneg hr.1]; omega
        rw [e4, w64 (by omega) (by omega), w64 (by omega) (by omega)]
        have hl := drop_len s (a + (4 - ((j + 1 : Nat) : Int)) + 1) (by omega) (by omega)
        dsimp only
        rw [hl]
        congr 2
        congr 1
        omega
      · rw [if_neg c2, vlq_hi c2]
        have e4 : Int.tmod c 128 = c - 128 := by rw [Int.tmod_eq_emod_of_nonneg hr.1]; omega
        rw [e4, w64 (by omega) (by omega), w64 (by omega) (by omega)]
        have hb3 : (n * 128 + (c - 128) + 1) * 128 ^ j ≤ 268435456 := by
          have := Int.mul_le_mul_of_nonneg_right (show n * 128 + (c - 128) + 1 ≤ (n + 1) * 128 by omega) (show (0 : Int) ≤ 128 ^ j by omega)
          omega
        have ih := rv_l0 s a h0 hs j (n * 128 + (c - 128)) k (by omega) (by omega) (by omega) hb3 (by omega)
        have e5 : (4 - ((j + 1 : Nat) : Int)) + 1 = 4 - (j : Int) := by omega
        have e6 : a + (4 - ((j + 1 : Nat) : Int)) + 1 = a + (4 - (j : Int)) := by omega
        rw [e5, ih, e6]
        rfl

theorem readVlq_f (s : ByteArray) (a : Int) (k : Nat) (hk : 7 ≤ k) (h0 : 0 ≤ a) (h1 : a ≤ s.size) (hs : s.size ≤ 140737488351232) :
    wire_ReadVlq.f k s a = some (vlqAns s ((bytesOf s).drop a.toNat) 4 0) := by
  unfold wire_ReadVlq.f
  rw [if_neg (by omega)]
  obtain ⟨k, rfl⟩ : ∃ m, k = m + 1 := ⟨k - 1, by omega⟩
  simp only [wire_ReadVlq.j0]
  rw [if_neg (by rw [decide_eq_true_eq]; omega)]
  have h := rv_l0 s a h0 hs 4 0 k (by omega) (by omega) (by omega) (by decide) (by omega)
  have e : (4 : Int) - ((4 : Nat) : Int) = 0 := by omega
  rw [e, Int.add_zero] at h
  exact h
theorem readVlq_out (s : ByteArray) (a : Int) (k : Nat) (hk : 7 ≤ k) (h : a < 0 ∨ (s.size : Int) < a) : wire_ReadVlq.f k s a = some (0, 0, 2) := by
  unfold wire_ReadVlq.f
  obtain ⟨k, rfl⟩ : ∃ m, k = m + 1 := ⟨k - 1, by omega⟩
  by_cases c : a < 0
  · rw [if_pos c]
    simp only [wire_ReadVlq.j0]
    rfl
  · rw [if_neg c]
    simp only [wire_ReadVlq.j0]
    rw [if_pos (by rw [decide_eq_true_eq]; omega)]

/-! ### Right -/
theorem within_f (a b c : Int) : wire_within.f a b c = some (decide (b ≤ a ∧ a ≤ c)) := by
  unfold wire_within.f
  by_cases h : a ≥ b
  · rw [if_pos h]
    congr 1
    rw [Bool.eq_iff_iff, decide_eq_true_eq, decide_eq_true_eq]
    omega
  · rw [if_neg h]
    congr 1
    rw [Bool.eq_iff_iff, decide_eq_true_eq]
    constructor
    · intro h; cases h
    · omega
theorem one_f (a : Int) : wire_one.f a = some (decide (a = 12 ∨ a = 13)) := by
  unfold wire_one.f
  by_cases h : a = 12
  · rw [if_pos h]; simp [h]
  · rw [if_neg h]
    congr 1
    rw [Bool.eq_iff_iff, decide_eq_true_eq, beq_iff_eq]
    omega
theorem ite_to {α : Type} {p : Prop} [Decidable p] {a b c : α} (h1 : p → a = c) (h2 : ¬ p → b = c) : (if p then a else b) = c := by
  by_cases h : p
  · rw [if_pos h]; exact h1 h
  · rw [if_neg h]; exact h2 h
set_option maxHeartbeats 1000000 in
theorem right_f (m : Msg) (k : Nat) (hk : 6 ≤ k) : wire_Right.f k m.f0 m.f1 m.f2 m.f3 m.f4 m.f5 = some (decide (Right m)) := by
  obtain ⟨f0, f1, f2, f3, f4, f5⟩ := m
  obtain ⟨k, rfl⟩ : ∃ q, k = q + 6 := ⟨k - 6, by omega⟩
  have hd := toList_nil f5
  generalize hD : decide (Right ⟨f0, f1, f2, f3, f4, f5⟩) = D
  have hR : D = true ↔ (0 ≤ f0 ∧ f0 ≤ 268435455 ∧ f5.size ≤ 100000 ∧ ((8 ≤ f1 ∧ f1 ≤ 14 ∧ 0 ≤ f2 ∧ f2 ≤ 15 ∧ 0 ≤ f3 ∧ f3 ≤ 127 ∧ 0 ≤ f4 ∧ f4 ≤ 127 ∧ (f1 = 12 ∨ f1 = 13 → f4 = 0) ∧ f5.size = 0) ∨
   (f1 = 15 ∧ f2 = 0 ∧ f4 = 0 ∧ (f3 = 240 ∨ f3 = 247)) ∨ (f1 = 16 ∧ f2 = 0 ∧ f4 = 0 ∧ 0 ≤ f3 ∧ f3 ≤ 127))) := by
    rw [← hD, decide_eq_true_eq]; rfl
  clear hD
  simp only [wire_Right.f, wire_Right.j0, wire_Right.j1, wire_Right.j2, wire_Right.j3, wire_Right.j4, counts_f, within_f, Option.bind_some, decide_eq_true_eq, beq_iff_eq, hd, Bool.false_eq_true, if_false, if_true]
  repeat' (refine ite_to (fun _ => ?_) (fun _ => ?_))
  all_goals
    refine congrArg some ?_
    rw [Bool.eq_iff_iff, hR]
    simp only [decide_eq_true_eq, beq_iff_eq, Bool.false_eq_true, false_iff, true_iff]
    omega
end Go.Proofs.Ytmeefdaanjaoaaa.Z
