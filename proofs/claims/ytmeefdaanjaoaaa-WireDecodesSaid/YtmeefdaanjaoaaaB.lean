/- The program's functions of package wire answer as the plain model: numbers in parts, whether a message is right, what is read of bytes.
What the program's Decode answers: the messages of the plain model, or where, and what, is wrong.
What the program's Encode answers: the bytes of the plain model, or that a message is wrong.
The chapter's example, and the small functions that the statements of chapter 15 use: Same, Few.
What the statements of chapter 15 use besides. -/
import Derived.Test.YtmeefdaanjaoaaaA
import Derived.Test.YtmeefdaanjaoaaaM16
import Derived.Test.YtmeefdaanjaoaaaM9
import Derived.Test.YtmeefdaanjaoaaaM18
import Derived.Test.YtmeefdaanjaoaaaM25
import Derived.Test.YtmeefdaanjaoaaaM17
import Derived.KernelRfl
namespace Go.Proofs.Ytmeefdaanjaoaaa.Z
open Go.RowKit Go.Proofs.YtmeefdaanjaoaaaW.PrintWords Go.Proofs.YtmeefdaanjaoaaaW.PrintLast Go.Proofs.Ytmeefdaanjaoaaa.M
set_option linter.unusedVariables false
set_option linter.unusedSimpArgs false

theorem num_eq (n : Int) : wire_number.num n = num n := rfl
theorem number_f {n : Int} (h0 : 0 ≤ n) (h1 : n ≤ 268435455) : wire_number.f n = some (num n) := by
  unfold wire_number.f
  rw [if_pos h0, if_pos h1]
  rfl
theorem counts_f (n : Int) : wire_counts.f n = some (decide (0 ≤ n ∧ n ≤ 268435455)) := by
  unfold wire_counts.f
  by_cases h : n ≥ 0
  · rw [if_pos h]
    congr 1
    rw [Bool.eq_iff_iff, decide_eq_true_eq, decide_eq_true_eq]
    omega
  · rw [if_neg h]
    congr 1
    rw [Bool.eq_iff_iff, decide_eq_true_eq]
    constructor
    · intro h; cases h
    · omega

/-- What ReadVlq answers. -/
def vlqAns (s : ByteArray) (r : List Int) (j : Nat) (n : Int) : Int × Int × Int :=
  match vlq j n r with
  | .error e => (0, 0, e)
  | .ok (m, r') => (m, s.size - r'.length, 0)

theorem rv_l0 (s : ByteArray) (a : Int) (h0 : 0 ≤ a) (hs : s.size ≤ 140737488351232) : ∀ (j : Nat) (n : Int) (k : Nat), j ≤ 4 → j < k → 0 ≤ n → (n + 1) * 128 ^ j ≤ 268435456 → a + (4 - j) ≤ s.size →
    wire_ReadVlq.l0 k s a n (4 - j) = some (vlqAns s ((bytesOf s).drop (a + (4 - j)).toNat) j n)
  | 0, n, k, _, hk, _, _, _ => by
    obtain ⟨k, rfl⟩ : ∃ m, k = m + 1 := ⟨k - 1, by omega⟩
    simp only [wire_ReadVlq.l0]
    rw [if_neg (by omega)]
    rfl
  | j + 1, n, k, hj, hk, hn, hb, hp => by
    obtain ⟨k, rfl⟩ : ∃ m, k = m + 1 := ⟨k - 1, by omega⟩
    have e1 : wrap64 (a + (4 - ((j + 1 : Nat) : Int))) = a + (4 - ((j + 1 : Nat) : Int)) := w64 (by omega) (by omega)
    simp only [wire_ReadVlq.l0]
    rw [if_pos (by omega), e1]
    have hp2 : (1 : Int) ≤ 128 ^ j := by
      have : (0 : Int) < 128 ^ j := Int.pow_pos (by decide)
      omega
    have hb2 : n + 1 ≤ 268435456 ∧ (n + 1) * 128 * 128 ^ j ≤ 268435456 := by
      rw [Int.pow_succ, Int.mul_comm (128 ^ j) 128, ← Int.mul_assoc] at hb
      refine ⟨?_, hb⟩
      have := Int.mul_le_mul_of_nonneg_left hp2 (show 0 ≤ (n + 1) * 128 by omega)
      omega
    by_cases c1 : a + (4 - ((j + 1 : Nat) : Int)) ≥ (s.size : Int)
    · rw [if_pos c1]
      unfold vlqAns
      rw [drop_end s _ (by omega), vlq_nil]
    · have hr := bt_range s (a + (4 - ((j + 1 : Nat) : Int)))
      have e2 : wrap64 (bt s (a + (4 - ((j + 1 : Nat) : Int)))) = bt s (a + (4 - ((j + 1 : Nat) : Int))) := w64 (by omega) (by omega)
      have e3 : wrap64 (n * 128) = n * 128 := w64 (by omega) (by omega)
      rw [if_neg c1, if_pos (by omega), if_pos (by omega), e2, e3]
      unfold vlqAns
      rw [drop_at s _ (by omega) (by omega)]
      generalize hc : bt s (a + (4 - ((j + 1 : Nat) : Int))) = c at *
      by_cases c2 : c < 128
      · rw [if_pos c2, vlq_lo c2]
        have e4 : Int.tmod c 128 = c := by rw [Int.tmod_eq_emod_of_nonneg hr.1]; omega
        rw [e4, w64 (by omega) (by omega), w64 (by omega) (by omega)]
        have hl := drop_len s (a + (4 - ((j + 1 : Nat) : Int)) + 1) (by omega) (by omega)
        dsimp only
        rw [hl]
        congr 2
        congr 1
        omega
      · rw [if_neg c2, vlq_hi c2]
        have e4 : Int.tmod c 128 = c - 128 := by rw [Int.tmod_eq_emod_of_nonneg hr.1]; omega
        rw [e4, w64 (by omega) (by omega), w64 (by omega) (by omega)]
        have hb3 : (n * 128 + (c - 128) + 1) * 128 ^ j ≤ 268435456 := by
          have := Int.mul_le_mul_of_nonneg_right (show n * 128 + (c - 128) + 1 ≤ (n + 1) * 128 by omega) (show (0 : Int) ≤ 128 ^ j by omega)
          omega
        have ih := rv_l0 s a h0 hs j (n * 128 + (c - 128)) k (by omega) (by omega) (by omega) hb3 (by omega)
        have e5 : (4 - ((j + 1 : Nat) : Int)) + 1 = 4 - (j : Int) := by omega
        have e6 : a + (4 - ((j + 1 : Nat) : Int)) + 1 = a + (4 - (j : Int)) := by omega
        rw [e5, ih, e6]
        rfl

theorem readVlq_f (s : ByteArray) (a : Int) (k : Nat) (hk : 7 ≤ k) (h0 : 0 ≤ a) (h1 : a ≤ s.size) (hs : s.size ≤ 140737488351232) :
    wire_ReadVlq.f k s a = some (vlqAns s ((bytesOf s).drop a.toNat) 4 0) := by
  unfold wire_ReadVlq.f
  rw [if_neg (by omega)]
  obtain ⟨k, rfl⟩ : ∃ m, k = m + 1 := ⟨k - 1, by omega⟩
  simp only [wire_ReadVlq.j0]
  rw [if_neg (by rw [decide_eq_true_eq]; omega)]
  have h := rv_l0 s a h0 hs 4 0 k (by omega) (by omega) (by omega) (by decide) (by omega)
  have e : (4 : Int) - ((4 : Nat) : Int) = 0 := by omega
  rw [e, Int.add_zero] at h
  exact h
theorem readVlq_out (s : ByteArray) (a : Int) (k : Nat) (hk : 7 ≤ k) (h : a < 0 ∨ (s.size : Int) < a) : wire_ReadVlq.f k s a = some (0, 0, 2) := by
  unfold wire_ReadVlq.f
  obtain ⟨k, rfl⟩ : ∃ m, k = m + 1 := ⟨k - 1, by omega⟩
  by_cases c : a < 0
  · rw [if_pos c]
    simp only [wire_ReadVlq.j0]
    rfl
  · rw [if_neg c]
    simp only [wire_ReadVlq.j0]
    rw [if_pos (by rw [decide_eq_true_eq]; omega)]

/-! ### Right -/
theorem within_f (a b c : Int) : wire_within.f a b c = some (decide (b ≤ a ∧ a ≤ c)) := by
  unfold wire_within.f
  by_cases h : a ≥ b
  · rw [if_pos h]
    congr 1
    rw [Bool.eq_iff_iff, decide_eq_true_eq, decide_eq_true_eq]
    omega
  · rw [if_neg h]
    congr 1
    rw [Bool.eq_iff_iff, decide_eq_true_eq]
    constructor
    · intro h; cases h
    · omega
theorem one_f (a : Int) : wire_one.f a = some (decide (a = 12 ∨ a = 13)) := by
  unfold wire_one.f
  by_cases h : a = 12
  · rw [if_pos h]; simp [h]
  · rw [if_neg h]
    congr 1
    rw [Bool.eq_iff_iff, decide_eq_true_eq, beq_iff_eq]
    omega
theorem ite_to {α : Type} {p : Prop} [Decidable p] {a b c : α} (h1 : p → a = c) (h2 : ¬ p → b = c) : (if p then a else b) = c := by
  by_cases h : p
  · rw [if_pos h]; exact h1 h
  · rw [if_neg h]; exact h2 h
set_option maxHeartbeats 1000000 in
theorem right_f (m : Msg) (k : Nat) (hk : 6 ≤ k) : wire_Right.f k m.f0 m.f1 m.f2 m.f3 m.f4 m.f5 = some (decide (Right m)) := by
  obtain ⟨f0, f1, f2, f3, f4, f5⟩ := m
  obtain ⟨k, rfl⟩ : ∃ q, k = q + 6 := ⟨k - 6, by omega⟩
  have hd := toList_nil f5
  generalize hD : decide (Right ⟨f0, f1, f2, f3, f4, f5⟩) = D
  have hR : D = true ↔ (0 ≤ f0 ∧ f0 ≤ 268435455 ∧ f5.size ≤ 100000 ∧ ((8 ≤ f1 ∧ f1 ≤ 14 ∧ 0 ≤ f2 ∧ f2 ≤ 15 ∧ 0 ≤ f3 ∧ f3 ≤ 127 ∧ 0 ≤ f4 ∧ f4 ≤ 127 ∧ (f1 = 12 ∨ f1 = 13 → f4 = 0) ∧ f5.size = 0) ∨
   (f1 = 15 ∧ f2 = 0 ∧ f4 = 0 ∧ (f3 = 240 ∨ f3 = 247)) ∨ (f1 = 16 ∧ f2 = 0 ∧ f4 = 0 ∧ 0 ≤ f3 ∧ f3 ≤ 127))) := by
    rw [← hD, decide_eq_true_eq]; rfl
  clear hD
  simp only [wire_Right.f, wire_Right.j0, wire_Right.j1, wire_Right.j2, wire_Right.j3, wire_Right.j4, counts_f, within_f, Option.bind_some, decide_eq_true_eq, beq_iff_eq, hd, Bool.false_eq_true, if_false, if_true]
  repeat' (refine ite_to (fun _ => ?_) (fun _ => ?_))
  all_goals
    refine congrArg some ?_
    rw [Bool.eq_iff_iff, hR]
    simp only [decide_eq_true_eq, beq_iff_eq, Bool.false_eq_true, false_iff, true_iff]
    omega

/-- What is left of a string's bytes, and where it begins. -/
def Suf (s : ByteArray) (r : List Int) : Prop := ∃ p, bytesOf s = p ++ r
def pos (s : ByteArray) (r : List Int) : Int := s.size - r.length
theorem Suf.all (s : ByteArray) : Suf s (bytesOf s) := ⟨[], rfl⟩
theorem Suf.of {s : ByteArray} {p r : List Int} (h : Suf s (p ++ r)) : Suf s r := by
  obtain ⟨q, hq⟩ := h
  exact ⟨q ++ p, by rw [hq, List.append_assoc]⟩
theorem Suf.tail {s : ByteArray} {c : Int} {r : List Int} (h : Suf s (c :: r)) : Suf s r := Suf.of (p := [c]) h
theorem Suf.len {s : ByteArray} {r : List Int} (h : Suf s r) : (r.length : Int) ≤ s.size := by
  obtain ⟨p, hp⟩ := h
  have := congrArg List.length hp
  rw [bytesOf_length, List.length_append] at this
  omega
theorem Suf.bytes {s : ByteArray} {r : List Int} (h : Suf s r) : Bytes r := by
  obtain ⟨p, hp⟩ := h
  have := bytesOf_bytes s
  rw [hp] at this
  exact this.right
theorem pos_all (s : ByteArray) : pos s (bytesOf s) = 0 := by unfold pos; rw [bytesOf_length]; omega
theorem pos_nonneg {s : ByteArray} {r : List Int} (h : Suf s r) : 0 ≤ pos s r := by have := h.len; unfold pos; omega
theorem pos_le (s : ByteArray) (r : List Int) : pos s r ≤ s.size := by unfold pos; omega
theorem pos_drop {s : ByteArray} {r : List Int} (h : Suf s r) : (bytesOf s).drop (pos s r).toNat = r := by
  have hl := h.len
  obtain ⟨p, hp⟩ := h
  have := congrArg List.length hp
  rw [bytesOf_length, List.length_append] at this
  have e : (pos s r).toNat = p.length := by unfold pos; omega
  rw [e, hp, List.drop_left]
theorem pos_cons {s : ByteArray} {c : Int} {r : List Int} : pos s r = pos s (c :: r) + 1 := by unfold pos; rw [List.length_cons]; omega
theorem pos_lt {s : ByteArray} {c : Int} {r : List Int} : pos s (c :: r) < s.size := by unfold pos; rw [List.length_cons]; omega
theorem pos_nil (s : ByteArray) : pos s [] = s.size := by unfold pos; simp
theorem bt_pos {s : ByteArray} {c : Int} {r : List Int} (h : Suf s (c :: r)) : bt s (pos s (c :: r)) = c := by
  have h1 := drop_at s (pos s (c :: r)) (pos_nonneg h) pos_lt
  rw [pos_drop h] at h1
  injection h1 with h1 _
  exact h1.symm
theorem vlq_suf {i : Nat} {n m : Int} {s : ByteArray} {r r' : List Int} (h : Suf s r) (hv : vlq i n r = .ok (m, r')) : Suf s r' := by
  obtain ⟨p, rfl, _⟩ := vlq_ok h.bytes hv
  exact h.of
theorem dat_suf {bs r' : List Int} {s : ByteArray} {r : List Int} (h : Suf s r) (hv : dat r = .ok (bs, r')) : Suf s r' := by
  obtain ⟨_, _, p, rfl, _⟩ := dat_ok h.bytes hv
  exact h.of.of
theorem low_suf {a : Int} {r' : List Int} {s : ByteArray} {r : List Int} (h : Suf s r) (hv : low r = .ok (a, r')) : Suf s r' := by
  obtain ⟨rfl, _⟩ := low_ok hv
  exact h.tail

section
variable {s : ByteArray} {r : List Int} {last : Int} {k : Nat}

theorem fail0 (at_ e : Int) : wire_reader_fail.f s at_ last 0 e = some (s, at_, last, e) := by unfold wire_reader_fail.f; rw [if_pos rfl]

theorem number_r (hk : 7 ≤ k) (hs : s.size ≤ 140737488351232) (h : Suf s r) : wire_reader_number.f k s (pos s r) last 0 = some (match vlq 4 0 r with
    | .error e => (0, s, pos s r, last, e)
    | .ok (n, r') => (n, s, pos s r', last, 0)) := by
  unfold wire_reader_number.f
  rw [if_pos rfl, readVlq_f s _ k hk (pos_nonneg h) (pos_le s r) hs, pos_drop h]
  unfold vlqAns
  cases hv : vlq 4 0 r with
  | error e =>
    rw [Option.bind_some]
    dsimp only
    rcases vlq_e hv with rfl | rfl
    · rw [if_neg (by decide), fail0]; rfl
    · rw [if_neg (by decide), fail0]; rfl
  | ok x =>
    obtain ⟨n, r'⟩ := x
    rw [Option.bind_some]
    dsimp only
    rw [if_pos rfl]
    rfl
theorem number_e {e at_ : Int} (he : e ≠ 0) : wire_reader_number.f k s at_ last e = some (0, s, at_, last, e) := by
  unfold wire_reader_number.f
  rw [if_neg he]

theorem data_r (hs : s.size ≤ 140737488351232) (h : Suf s r) : wire_reader_data.f s (pos s r) last 0 = some (match low r with
    | .error e => (0, s, pos s r, last, e)
    | .ok (a, r') => (a, s, pos s r', last, 0)) := by
  unfold wire_reader_data.f
  rw [if_pos rfl]
  cases r with
  | nil => rw [pos_nil, if_pos (by omega), fail0]; rfl
  | cons c r =>
    have hp := pos_lt (s := s) (c := c) (r := r)
    have hp0 := pos_nonneg h
    have hc := h.bytes.head
    rw [if_neg (by omega), if_pos hp0, if_pos hp, bt_pos h, w64 (by omega) (by omega)]
    by_cases c1 : c ≥ 128
    · rw [if_pos c1, fail0, low, if_pos c1]; rfl
    · rw [if_neg c1, low, if_neg c1, w64 (by omega) (by omega), ← pos_cons]
theorem data_e {e at_ : Int} (he : e ≠ 0) : wire_reader_data.f s at_ last e = some (0, s, at_, last, e) := by
  unfold wire_reader_data.f
  rw [if_neg he]

theorem bytes_r (hk : 7 ≤ k) (hs : s.size ≤ 140737488351232) (h : Suf s r) : match dat r with
    | .error e => ∃ a, wire_reader_bytes.f k s (pos s r) last 0 = some (⟨#[]⟩, s, a, last, e)
    | .ok (bs, r') => wire_reader_bytes.f k s (pos s r) last 0 = some (strOfNums bs, s, pos s r', last, 0) := by
  unfold wire_reader_bytes.f
  rw [number_r hk hs h]
  unfold dat
  cases hv : vlq 4 0 r with
  | error e =>
    rw [Option.bind_some]
    dsimp only
    have he : e ≠ 0 := by rcases vlq_e hv with rfl | rfl <;> decide
    rw [if_neg he]
    exact ⟨_, rfl⟩
  | ok x =>
    obtain ⟨n, r1⟩ := x
    obtain ⟨h0, h1, _⟩ := vlq4_ok h.bytes hv
    have h2 := vlq_suf h hv
    have hp0 := pos_nonneg h2
    have hpl := pos_le s r1
    have hpe : pos s r1 = s.size - r1.length := rfl
    rw [Option.bind_some]
    dsimp only
    rw [if_pos rfl]
    by_cases c1 : n > 100000
    · rw [if_pos c1, if_pos c1, fail0]
      exact ⟨_, rfl⟩
    · rw [if_neg c1, if_neg c1, w64 (by omega) (by omega)]
      by_cases c2 : n > r1.length
      · rw [if_pos c2, if_pos (by omega), fail0]
        exact ⟨_, rfl⟩
      · rw [if_neg c2, if_neg (by omega), if_pos (by omega), if_pos (by omega), if_pos (by omega)]
        dsimp only
        have e1 : s.extract (pos s r1).toNat (pos s r1 + n).toNat = strOfNums (r1.take n.toNat) := by
          apply bytesOf_inj
          rw [bytesOf_extract, pos_drop h2, bytesOf_str (h2.bytes.take _)]
          congr 1
          omega
        have e2 : pos s r1 + n = pos s (r1.drop n.toNat) := by
          unfold pos
          rw [List.length_drop]
          omega
        rw [e1, e2]
theorem bytes_e {e at_ : Int} (he : e ≠ 0) : wire_reader_bytes.f k s at_ last e = some (⟨#[]⟩, s, at_, last, e) := by
  unfold wire_reader_bytes.f
  rw [number_e he, Option.bind_some]
  dsimp only
  rw [if_neg he]

theorem status_e {e at_ : Int} (he : e ≠ 0) : wire_reader_status.f s at_ last e = some (0, s, at_, last, e) := by
  unfold wire_reader_status.f
  rw [if_neg he]
theorem status_nil : wire_reader_status.f s (pos s []) last 0 = some (0, s, pos s [], last, 152) := by
  unfold wire_reader_status.f
  rw [if_pos rfl, pos_nil, if_pos (by omega), fail0]; rfl
theorem status_lo {c : Int} {r1 : List Int} (hs : s.size ≤ 140737488351232) (h : Suf s (c :: r1)) (hc : c < 128) :
    wire_reader_status.f s (pos s (c :: r1)) last 0 = if last = 0 then some (last, s, pos s (c :: r1), last, 151) else some (last, s, pos s (c :: r1), last, 0) := by
  have hp := pos_lt (s := s) (c := c) (r := r1)
  have hp0 := pos_nonneg h
  have hcb := h.bytes.head
  unfold wire_reader_status.f
  rw [if_pos rfl, if_neg (by omega), if_pos hp0, if_pos hp, bt_pos h, w64 (by omega) (by omega), if_pos hc, fail0]
  rfl
theorem status_hi {c : Int} {r1 : List Int} (hs : s.size ≤ 140737488351232) (h : Suf s (c :: r1)) (hc : ¬ c < 128) :
    wire_reader_status.f s (pos s (c :: r1)) last 0 = some (c, s, pos s r1, last, if c > 240 ∧ c ≠ 247 ∧ c ≠ 255 then 151 else 0) := by
  have hp := pos_lt (s := s) (c := c) (r := r1)
  have hp0 := pos_nonneg h
  have hcb := h.bytes.head
  unfold wire_reader_status.f
  rw [if_pos rfl, if_neg (by omega), if_pos hp0, if_pos hp, bt_pos h, w64 (by omega) (by omega), if_neg hc, fail0, w64 (by omega) (by omega), ← pos_cons]
  by_cases c1 : c > 240
  · rw [if_pos c1]
    by_cases c2 : c = 247
    · rw [if_pos c2, if_neg (by omega)]
    · rw [if_neg c2]
      by_cases c3 : c = 255
      · rw [if_pos c3, if_neg (by omega)]
      · rw [if_neg c3, if_pos ⟨c1, c2, c3⟩, Option.bind_some]
        dsimp only
        rw [w64 (by omega) (by omega), ← pos_cons]
  · rw [if_neg c1, if_neg (by omega)]

/-- What is behind the number and the status byte. -/
def rest (k : Nat) (d c : Int) (s : ByteArray) (a last e : Int) : Option (Int × Int × Int × Int × Int × ByteArray × ByteArray × Int × Int × Int) :=
  if c = 255 then ((wire_reader_data.f s a 0 e).bind fun bt216 => ((wire_reader_bytes.f k bt216.2.1 bt216.2.2.1 bt216.2.2.2.1 bt216.2.2.2.2).bind fun bt221 => (some (d, 16, 0, bt216.1, 0, bt221.1, bt221.2.1, bt221.2.2.1, bt221.2.2.2.1, bt221.2.2.2.2))))
  else (if c ≥ 240 then ((wire_reader_bytes.f k s a 0 e).bind fun bt226 => (some (d, 15, 0, c, 0, bt226.1, bt226.2.1, bt226.2.2.1, bt226.2.2.2.1, bt226.2.2.2.2)))
  else ((wire_reader_data.f s a c e).bind fun bt231 => ((wire_one.f (wrap64 (Int.tdiv c 16))).bind fun t236 => (if t236 = true then (some (d, wrap64 (Int.tdiv c 16), Int.tmod c 16, bt231.1, 0, (⟨#[]⟩ : ByteArray), bt231.2.1, bt231.2.2.1, bt231.2.2.2.1, bt231.2.2.2.2)) else ((wire_reader_data.f bt231.2.1 bt231.2.2.1 bt231.2.2.2.1 bt231.2.2.2.2).bind fun bt237 => (some (d, wrap64 (Int.tdiv c 16), Int.tmod c 16, bt231.1, bt237.1, (⟨#[]⟩ : ByteArray), bt237.2.1, bt237.2.2.1, bt237.2.2.2.1, bt237.2.2.2.2)))))))
theorem message_rest (a last e : Int) : wire_reader_message.f k s a last e = (wire_reader_number.f k s a last e).bind fun x => (wire_reader_status.f x.2.1 x.2.2.1 x.2.2.2.1 x.2.2.2.2).bind fun y => rest k x.1 y.1 y.2.1 y.2.2.1 y.2.2.2.1 y.2.2.2.2 := rfl

/-- Once something is wrong it stays so. -/
theorem rest_e {d c a e : Int} (he : e ≠ 0) : ∃ t, rest k d c s a last e = some t ∧ t.2.2.2.2.2.2.2.2.2 = e := by
  unfold rest
  rw [data_e he, data_e he, bytes_e he, one_f]
  simp only [Option.bind_some]
  rw [bytes_e he, data_e he]
  simp only [Option.bind_some]
  by_cases c1 : c = 255
  · rw [if_pos c1]; exact ⟨_, rfl, rfl⟩
  · rw [if_neg c1]
    by_cases c2 : c ≥ 240
    · rw [if_pos c2]; exact ⟨_, rfl, rfl⟩
    · rw [if_neg c2]
      split
      · exact ⟨_, rfl, rfl⟩
      · exact ⟨_, rfl, rfl⟩
theorem low_e {e : Int} (h : low r = .error e) : e = 151 ∨ e = 152 := by
  cases r with
  | nil => cases h; exact .inr rfl
  | cons c r =>
    by_cases c1 : c ≥ 128
    · rw [low, if_pos c1] at h; cases h; exact .inl rfl
    · rw [low, if_neg c1] at h; cases h
theorem dat_e {e : Int} (h : dat r = .error e) : e = 150 ∨ e = 151 ∨ e = 152 := by
  unfold dat at h
  cases hv : vlq 4 0 r with
  | error e' =>
    rw [hv] at h; injection h with h; subst h
    rcases vlq_e hv with rfl | rfl
    · exact .inl rfl
    · exact .inr (.inr rfl)
  | ok x =>
    obtain ⟨n, r1⟩ := x
    rw [hv] at h
    dsimp only at h
    by_cases c1 : n > 100000
    · rw [if_pos c1] at h; cases h; exact .inr (.inl rfl)
    · rw [if_neg c1] at h
      by_cases c2 : n > r1.length
      · rw [if_pos c2] at h; cases h; exact .inr (.inr rfl)
      · rw [if_neg c2] at h; cases h

/-- What is told of a message. -/
def Told (x : Except Int (Msg × Int × List Int)) (s : ByteArray) (o : Option (Int × Int × Int × Int × Int × ByteArray × ByteArray × Int × Int × Int)) : Prop :=
  match x with
  | .error e => e ≠ 0 ∧ ∃ t, o = some t ∧ t.2.2.2.2.2.2.2.2.2 = e
  | .ok (m, l', r') => Suf s r' ∧ o = some (m.f0, m.f1, m.f2, m.f3, m.f4, m.f5, s, pos s r', l', 0)

theorem rest_r {d c : Int} (hk : 7 ≤ k) (hs : s.size ≤ 140737488351232) (h : Suf s r) (h1 : 128 ≤ c) (h2 : c ≤ 255) : Told (body d c r) s (rest k d c s (pos s r) last 0) := by
  unfold rest
  by_cases c1 : c = 255
  · subst c1
    rw [if_pos rfl, body_255, data_r hs h, Option.bind_some]
    cases hl : low r with
    | error e =>
      dsimp only
      have he : e ≠ 0 := by rcases low_e hl with rfl | rfl <;> decide
      rw [bytes_e he]
      exact ⟨he, _, rfl, rfl⟩
    | ok x =>
      obtain ⟨a, r1⟩ := x
      dsimp only
      have hb := bytes_r (k := k) (last := 0) hk hs (low_suf h hl)
      cases hd : dat r1 with
      | error e =>
        rw [hd] at hb
        obtain ⟨q, hb⟩ := hb
        rw [hb]
        refine ⟨by rcases dat_e hd with rfl | rfl | rfl <;> decide, _, rfl, rfl⟩
      | ok y =>
        obtain ⟨bs, r2⟩ := y
        rw [hd] at hb
        dsimp only at hb
        rw [hb]
        exact ⟨dat_suf (low_suf h hl) hd, rfl⟩
  · rw [if_neg c1]
    by_cases c2 : c ≥ 240
    · rw [if_pos c2, body_sys c1 c2]
      have hb := bytes_r (k := k) (last := 0) hk hs h
      cases hd : dat r with
      | error e =>
        rw [hd] at hb
        obtain ⟨q, hb⟩ := hb
        rw [hb]
        refine ⟨by rcases dat_e hd with rfl | rfl | rfl <;> decide, _, rfl, rfl⟩
      | ok y =>
        obtain ⟨bs, r2⟩ := y
        rw [hd] at hb
        dsimp only at hb
        rw [hb]
        exact ⟨dat_suf h hd, rfl⟩
    · rw [if_neg c2, body_key (by omega), data_r hs h, Option.bind_some, one_f, Option.bind_some]
      have e1 : wrap64 (Int.tdiv c 16) = c / 16 := by rw [Int.tdiv_eq_ediv_of_nonneg (by omega)]; exact w64 (by omega) (by omega)
      have e2 : Int.tmod c 16 = c % 16 := Int.tmod_eq_emod_of_nonneg (by omega)
      rw [e1, e2]
      cases hl : low r with
      | error e =>
        dsimp only
        have he : e ≠ 0 := by rcases low_e hl with rfl | rfl <;> decide
        rw [data_e he]
        refine ⟨he, ?_⟩
        split
        · exact ⟨_, rfl, rfl⟩
        · exact ⟨_, rfl, rfl⟩
      | ok x =>
        obtain ⟨a, r1⟩ := x
        dsimp only
        have h3 := low_suf h hl
        by_cases c3 : c / 16 = 12 ∨ c / 16 = 13
        · rw [if_pos c3, if_pos (decide_eq_true c3)]
          exact ⟨h3, rfl⟩
        · rw [if_neg c3, if_neg (by rw [decide_eq_true_eq]; exact c3), data_r hs h3, Option.bind_some]
          cases hl2 : low r1 with
          | error e =>
            exact ⟨by rcases low_e hl2 with rfl | rfl <;> decide, _, rfl, rfl⟩
          | ok y =>
            obtain ⟨b, r2⟩ := y
            exact ⟨low_suf h3 hl2, rfl⟩

theorem message_r (hk : 7 ≤ k) (hs : s.size ≤ 140737488351232) (h : Suf s r) (hl : LastOk last) : Told (msg last r) s (wire_reader_message.f k s (pos s r) last 0) := by
  rw [message_rest, number_r hk hs h, Option.bind_some]
  cases hv : vlq 4 0 r with
  | error e =>
    have he : e ≠ 0 := by rcases vlq_e hv with rfl | rfl <;> decide
    unfold msg
    rw [hv]
    dsimp only
    rw [status_e he, Option.bind_some]
    exact ⟨he, rest_e he⟩
  | ok x =>
    obtain ⟨d, r1⟩ := x
    have h2 := vlq_suf h hv
    cases r1 with
    | nil =>
      unfold msg
      rw [hv]
      dsimp only
      rw [status_nil, Option.bind_some]
      exact ⟨by decide, rest_e (show (152 : Int) ≠ 0 by decide)⟩
    | cons c r1 =>
      rw [msg_at hv]
      dsimp only
      by_cases c1 : c < 128
      · rw [if_pos c1, status_lo hs h2 c1]
        by_cases c2 : last = 0
        · rw [if_pos c2, if_pos c2, Option.bind_some]
          exact ⟨by decide, rest_e (show (151 : Int) ≠ 0 by decide)⟩
        · rw [if_neg c2, if_neg c2, Option.bind_some]
          have hl2 : 128 ≤ last ∧ last < 240 := by rcases hl with hl | hl <;> omega
          exact rest_r hk hs h2 hl2.1 (by omega)
      · have hc := h2.bytes.head
        rw [if_neg c1, status_hi hs h2 c1, Option.bind_some]
        by_cases c2 : c > 240 ∧ c ≠ 247 ∧ c ≠ 255
        · rw [if_pos c2]
          dsimp only
          rw [if_pos c2]
          exact ⟨by decide, rest_e (by decide)⟩
        · rw [if_neg c2]
          dsimp only
          rw [if_neg c2]
          exact rest_r hk hs h2.tail (by omega) hc.2
end

/-! ### Decode -/
theorem decode_l0 {s : ByteArray} (hs : s.size ≤ 1000000000) : ∀ {l : Int} {r : List Int} {ms : List Msg}, Dec l r ms → LastOk l → Suf s r → ∀ (out : List Msg) (k : Nat), out.length + r.length ≤ 1000000000 → ms.length + 8 < k →
    wire_Decode.l0 k s out s (pos s r) l = some (out ++ ms, 0, 0)
  | l, _, _, .nil _, hl, h, out, k, _, hk => by
    obtain ⟨k, rfl⟩ : ∃ m, k = m + 1 := ⟨k - 1, by omega⟩
    simp only [wire_Decode.l0]
    rw [pos_nil, if_neg (by omega), List.append_nil]
  | l, r, _, .cons (m := m) (ms := ms) (r' := r') (l' := l') hm hd, hl, h, out, k, ho, hk => by
    rw [List.length_cons] at hk
    obtain ⟨k, rfl⟩ : ∃ m, k = m + 1 := ⟨k - 1, by omega⟩
    have ht := message_r (k := k) (by omega) (by omega) h hl
    rw [hm] at ht
    obtain ⟨h1, h2⟩ := ht
    obtain ⟨k1, rfl, p, hp, k3, k4⟩ := msg_ok hl h.bytes hm
    have hlen : r.length = p.length + r'.length := by rw [hp, List.length_append]
    have hlt : pos s r < s.size := by unfold pos; omega
    simp only [wire_Decode.l0]
    rw [if_pos hlt, h2, Option.bind_some]
    dsimp only
    rw [if_pos rfl, if_pos (by omega)]
    have ih := decode_l0 hs hd (nextL_ok k1) h1 (out ++ [m]) k (by rw [List.length_append, List.length_singleton]; omega) (by omega)
    rw [List.append_assoc] at ih
    exact ih
theorem decode_bad {s : ByteArray} (hs : s.size ≤ 1000000000) {l e : Int} {r : List Int} {n : Nat} (hd : Bad l r e n) : LastOk l → Suf s r → ∀ (out : List Msg), out.length + r.length ≤ 1000000000 →
    ∃ K, ∀ k, K ≤ k → wire_Decode.l0 k s out s (pos s r) l = some ([], (s.size : Int) - (n : Int), e) := by
  induction hd with
  | @here l e r hne hm =>
    intro hl h out _
    refine ⟨9, fun k hk => ?_⟩
    obtain ⟨k, rfl⟩ : ∃ m, k = m + 1 := ⟨k - 1, by omega⟩
    have ht := message_r (k := k) (by omega) (by omega) h hl
    rw [hm] at ht
    obtain ⟨he, t, h1, h2⟩ := ht
    have hlt : pos s r < s.size := by
      have := List.length_pos_iff.2 hne
      unfold pos; omega
    simp only [wire_Decode.l0]
    rw [if_pos hlt, h1, Option.bind_some, h2, if_neg he]
    rfl
  | @later l l' e r r' m n hm _ ih =>
    intro hl h out ho
    obtain ⟨k1, rfl, p, hp, k3, k4⟩ := msg_ok hl h.bytes hm
    have hlen : r.length = p.length + r'.length := by rw [hp, List.length_append]
    have hsuf : Suf s r' := by rw [hp] at h; exact h.of
    obtain ⟨K, hK⟩ := ih (nextL_ok k1) hsuf (out ++ [m]) (by rw [List.length_append, List.length_singleton]; omega)
    refine ⟨K + 9, fun k hk => ?_⟩
    obtain ⟨k, rfl⟩ : ∃ m, k = m + 1 := ⟨k - 1, by omega⟩
    have ht := message_r (k := k) (by omega) (by omega) h hl
    rw [hm] at ht
    obtain ⟨h1, h2⟩ := ht
    have hlt : pos s r < s.size := by unfold pos; omega
    simp only [wire_Decode.l0]
    rw [if_pos hlt, h2, Option.bind_some]
    dsimp only
    rw [if_pos rfl, if_pos (by omega)]
    exact hK k (by omega)

theorem decode_ok {s : ByteArray} (hs : s.size ≤ 1000000000) {ms : List Msg} (h : Dec 0 (bytesOf s) ms) : Ev (fun k => wire_Decode.f k s) (ms, 0, 0) := by
  refine ⟨ms.length + 9, fun k hk => ?_⟩
  have h1 := decode_l0 hs h (.inl rfl) (Suf.all s) [] k (by rw [bytesOf_length]; simpa using hs) (by omega)
  rw [pos_all] at h1
  exact h1
theorem decode_err {s : ByteArray} (hs : s.size ≤ 1000000000) {e : Int} {n : Nat} (h : Bad 0 (bytesOf s) e n) : Ev (fun k => wire_Decode.f k s) ([], (s.size : Int) - (n : Int), e) := by
  obtain ⟨K, hK⟩ := decode_bad hs h (.inl rfl) (Suf.all s) [] (by rw [bytesOf_length]; simpa using hs)
  refine ⟨K, fun k hk => ?_⟩
  have h1 := hK k hk
  rw [pos_all] at h1
  exact h1

def tot : List Msg → Nat
  | [] => 0
  | m :: ms => m.f5.size + 10 + tot ms
theorem rd_drop (l : List Msg) (i : Nat) (h : i < l.length) : l.drop i = rd_T31 l (i : Int) :: l.drop (i + 1) := by
  rw [List.drop_eq_getElem_cons h]
  unfold rd_T31
  rw [Int.toNat_natCast, List.getD_eq_getElem?_getD, List.getElem?_eq_getElem h]
  rfl
theorem encode_step (k : Nat) (out : List Int) (last : Int) (l : List Msg) (i : Nat) (hi : i < l.length) (hk : 6 ≤ k) (hl : l.length ≤ 1000000000) (hr : Right (rd_T31 l (i : Int))) (ho : out.length + (rd_T31 l (i : Int)).f5.size + 10 ≤ 2000000000) :
    wire_Encode.l0 (k + 1) out last l (l.length : Int) (i : Int) = wire_Encode.l0 k (out ++ encOne last (rd_T31 l (i : Int))) (nextL (rd_T31 l (i : Int))) l (l.length : Int) ((i + 1 : Nat) : Int) := by
  simp only [wire_Encode.l0]
  have e1 : wrap64 ((i : Int) + 1) = ((i + 1 : Nat) : Int) := by rw [w64 (by omega) (by omega)]; omega
  rw [if_pos (by omega), if_pos (by omega), if_pos (by omega), right_f _ k hk, decide_eq_true hr, Option.bind_some, if_pos rfl, e1]
  generalize hm : rd_T31 l (i : Int) = m at *
  obtain ⟨f0, f1, f2, f3, f4, f5⟩ := m
  obtain ⟨h0, h1, h2, h⟩ := hr
  dsimp only at h0 h1 h2 h ho ⊢
  have hn := (num_len f0).2
  have hn2 := (num_len f5.size).2
  have hbl := bytesOf_length f5
  rw [number_f h0 h1, Option.bind_some, number_f (by omega) (by omega), if_pos (by omega), Option.bind_some]
  unfold encOne nextL
  dsimp only
  rcases h with ⟨k1, k2, k3, k4, k5, k6, k7, k8, k9, k10⟩ | ⟨rfl, rfl, rfl, kk⟩ | ⟨rfl, rfl, rfl, k1, k2⟩
  · have ew : wrap64 (wrap64 (16 * f1) + f2) = 16 * f1 + f2 := by rw [w64 (x := 16 * f1) (by omega) (by omega)]; exact w64 (by omega) (by omega)
    have e3 : f3 % 256 = f3 := by omega
    have e4 : f4 % 256 = f4 := by omega
    have e5 : (16 * f1 + f2) % 256 = 16 * f1 + f2 := by omega
    rw [if_neg (show ¬ f1 = 16 by omega), if_neg (show ¬ f1 = 15 by omega), if_neg (show ¬ f1 = 16 by omega), if_neg (show ¬ f1 = 15 by omega), if_neg (show ¬ f1 = 16 by omega), if_neg (show ¬ f1 = 15 by omega), ew, e3, e4, e5, one_f]
    simp only [Option.bind_some, decide_eq_true_eq, List.length_append, List.length_cons, List.length_nil]
    by_cases c1 : 16 * f1 + f2 = last
    · rw [if_pos c1, if_pos c1, if_pos (by omega)]
      by_cases c2 : f1 = 12 ∨ f1 = 13
      · rw [if_pos c2, if_pos c2]; simp only [List.append_assoc, List.nil_append]
      · rw [if_neg c2, if_neg c2, if_pos (by omega)]; simp only [List.append_assoc, List.nil_append, List.cons_append]
    · rw [if_neg c1, if_neg c1, if_pos (by omega), if_pos (by omega)]
      by_cases c2 : f1 = 12 ∨ f1 = 13
      · rw [if_pos c2, if_pos c2]; simp only [List.append_assoc, List.nil_append, List.cons_append]
      · rw [if_neg c2, if_neg c2, if_pos (by omega)]; simp only [List.append_assoc, List.nil_append, List.cons_append]
  · have e3 : f3 % 256 = f3 := by omega
    rw [if_neg (show ¬ (15 : Int) = 16 by decide), if_pos (show (15 : Int) = 15 from rfl), if_neg (show ¬ (15 : Int) = 16 by decide), if_pos (show (15 : Int) = 15 from rfl), if_neg (show ¬ (15 : Int) = 16 by decide), if_pos (show (15 : Int) = 15 from rfl), e3]
    simp only [Option.bind_some, List.length_append, List.length_cons, List.length_nil]
    rw [if_pos (by omega), if_pos (by omega), if_pos (by omega)]
    simp only [List.append_assoc, List.nil_append, List.cons_append]
  · have e3 : f3 % 256 = f3 := by omega
    rw [if_pos (show (16 : Int) = 16 from rfl), if_pos (show (16 : Int) = 16 from rfl), if_pos (show (16 : Int) = 16 from rfl), e3]
    simp only [Option.bind_some, List.length_append, List.length_cons, List.length_nil]
    rw [if_pos (by omega), if_pos (by omega), if_pos (by omega), if_pos (by omega)]
    simp only [List.append_assoc, List.nil_append, List.cons_append]
theorem encOne_size (l : Int) (m : Msg) : (encOne l m).length ≤ m.f5.size + 10 := by
  have a1 := (num_len m.f0).2
  have a2 := (num_len m.f5.size).2
  unfold encOne
  split
  · simp only [List.length_append, List.length_cons, bytesOf_length]; omega
  · split
    · simp only [List.length_append, List.length_cons, bytesOf_length]; omega
    · simp only [List.length_append, List.length_cons]
      split <;> split <;> simp <;> omega

theorem encode_l0 (l : List Msg) (hl : l.length ≤ 1000000000) : ∀ (j i : Nat) (out : List Int) (last : Int) (k : Nat), i + j = l.length → Rights (l.drop i) → out.length + tot (l.drop i) ≤ 1000000000 → j + 7 < k →
    wire_Encode.l0 k out last l (l.length : Int) (i : Int) = some (strOfNums (out ++ enc last (l.drop i)), 0)
  | 0, i, out, last, k, hj, _, _, hk => by
    obtain ⟨k, rfl⟩ : ∃ m, k = m + 1 := ⟨k - 1, by omega⟩
    simp only [wire_Encode.l0]
    rw [if_neg (by omega), List.drop_of_length_le (by omega), enc_nil, List.append_nil]
  | j + 1, i, out, last, k, hj, hr, ho, hk => by
    obtain ⟨k, rfl⟩ : ∃ m, k = m + 1 := ⟨k - 1, by omega⟩
    have hi : i < l.length := by omega
    rw [rd_drop l i hi] at hr ho ⊢
    simp only [tot] at ho
    rw [encode_step k out last l i hi (by omega) hl hr.head (by omega)]
    have hsz := encOne_size last (rd_T31 l (i : Int))
    rw [encode_l0 l hl j (i + 1) _ _ k (by omega) hr.tail (by rw [List.length_append]; omega) (by omega), enc_cons, List.append_assoc]
theorem encode_wrong (l : List Msg) (hl : l.length ≤ 1000000000) : ∀ (j i : Nat) (out : List Int) (last : Int) (k : Nat), i + j = l.length → ¬ Rights (l.drop i) → out.length + tot (l.drop i) ≤ 1000000000 → j + 7 < k →
    wire_Encode.l0 k out last l (l.length : Int) (i : Int) = some (⟨#[]⟩, 151)
  | 0, i, out, last, k, hj, hr, _, hk => by
    rw [List.drop_of_length_le (by omega)] at hr
    exact absurd Rights.nil hr
  | j + 1, i, out, last, k, hj, hr, ho, hk => by
    obtain ⟨k, rfl⟩ : ∃ m, k = m + 1 := ⟨k - 1, by omega⟩
    have hi : i < l.length := by omega
    rw [rd_drop l i hi] at hr ho
    simp only [tot] at ho
    by_cases h1 : Right (rd_T31 l (i : Int))
    · rw [encode_step k out last l i hi (by omega) hl h1 (by omega)]
      have hsz := encOne_size last (rd_T31 l (i : Int))
      exact encode_wrong l hl j (i + 1) _ _ k (by omega) (fun h2 => hr (Rights.cons h1 h2)) (by rw [List.length_append]; omega) (by omega)
    · simp only [wire_Encode.l0]
      rw [if_pos (by omega), if_pos (by omega), if_pos (by omega), right_f _ k (by omega), decide_eq_false h1, Option.bind_some, if_neg (by decide)]

theorem tot_len {l : List Msg} (h : tot l ≤ 1000000000) : l.length ≤ 1000000000 := by
  have : ∀ l : List Msg, l.length ≤ tot l := by
    intro l
    induction l with
    | nil => simp [tot]
    | cons m ms ih => simp only [tot, List.length_cons]; omega
  have := this l
  omega
theorem encode_ok {l : List Msg} (hr : Rights l) (ht : tot l ≤ 1000000000) : Ev (fun k => wire_Encode.f k l) (strOfNums (enc 0 l), 0) :=
  ⟨l.length + 8, fun k hk => by
    have h := encode_l0 l (tot_len ht) l.length 0 [] 0 k (by omega) (by simpa using hr) (by simpa using ht) (by omega)
    show wire_Encode.l0 k [] 0 l (l.length : Int) 0 = _
    simpa using h⟩
theorem encode_err {l : List Msg} (hr : ¬ Rights l) (ht : tot l ≤ 1000000000) : Ev (fun k => wire_Encode.f k l) (⟨#[]⟩, 151) :=
  ⟨l.length + 8, fun k hk => by
    have h := encode_wrong l (tot_len ht) l.length 0 [] 0 k (by omega) (by simpa using hr) (by simpa using ht) (by omega)
    show wire_Encode.l0 k [] 0 l (l.length : Int) 0 = _
    simpa using h⟩
theorem encOne_bytes {m : Msg} (hm : Right m) {l : Int} : Bytes (encOne l m) := by
  obtain ⟨f0, f1, f2, f3, f4, f5⟩ := m
  obtain ⟨h0, h1, h2, h⟩ := hm
  unfold encOne
  dsimp only at h0 h1 h2 h ⊢
  have a := num_bytes h0
  have b := num_bytes (n := f5.size) (by omega)
  have c := bytesOf_bytes f5
  split
  · exact a.append (Bytes.cons (by decide) (by decide) (Bytes.cons (by omega) (by omega) (b.append c)))
  · split
    · exact a.append (Bytes.cons (by omega) (by omega) (b.append c))
    · refine a.append (Bytes.append ?_ (Bytes.cons (by omega) (by omega) ?_))
      · split
        · exact Bytes.nil
        · exact Bytes.cons (by omega) (by omega) Bytes.nil
      · split
        · exact Bytes.nil
        · exact Bytes.cons (by omega) (by omega) Bytes.nil
theorem enc_bytes : ∀ {ms : List Msg} {l : Int}, Rights ms → Bytes (enc l ms)
  | [], _, _ => Bytes.nil
  | m :: ms, l, h => by
    rw [enc_cons]
    exact (encOne_bytes h.head).append (enc_bytes h.tail)
theorem enc_tot : ∀ (ms : List Msg) (l : Int), (enc l ms).length ≤ tot ms
  | [], _ => Nat.le_refl _
  | m :: ms, l => by
    have h1 := encOne_size l m
    have h2 := enc_tot ms (nextL m)
    rw [enc_cons, List.length_append]
    simp only [tot]
    omega

theorem Ev.yes {α : Type} {c : Prop} [Decidable c] {a b : Nat → Option α} {r : α} (h : c) (k : Ev a r) : Ev (fun n => if c then a n else b n) r := by
  obtain ⟨K, hK⟩ := k
  exact ⟨K, fun n hn => by show (if c then a n else b n) = some r; rw [if_pos h]; exact hK n hn⟩
theorem Ev.no {α : Type} {c : Prop} [Decidable c] {a b : Nat → Option α} {r : α} (h : ¬ c) (k : Ev b r) : Ev (fun n => if c then a n else b n) r := by
  obtain ⟨K, hK⟩ := k
  exact ⟨K, fun n hn => by show (if c then a n else b n) = some r; rw [if_neg h]; exact hK n hn⟩
theorem Ev.eq {α : Type} {x : Option α} {r : α} (h : x = some r) : Ev (fun _ => x) r := ⟨0, fun _ _ => h⟩

theorem awake_f : partitalaw15_awake.f 30 = some true := by
  have h1 : wire_Encode.f 30 (([(⟨0, 9, 0, 60, 64, (⟨#[]⟩ : ByteArray)⟩ : Msg), (⟨128, 9, 0, 60, 64, (⟨#[]⟩ : ByteArray)⟩ : Msg)] : List (Msg))) = some ((⟨#[0, 144, 60, 64, 129, 0, 60, 64]⟩ : ByteArray), 0) := by kernel_rfl
  have h2 : wire_Decode.f 30 (⟨#[0, 144, 60, 64, 129, 0, 60, 64]⟩ : ByteArray) = some (([(⟨0, 9, 0, 60, 64, (⟨#[]⟩ : ByteArray)⟩ : Msg), (⟨128, 9, 0, 60, 64, (⟨#[]⟩ : ByteArray)⟩ : Msg)] : List (Msg)), 0, 0) := by kernel_rfl
  have h3 : wire_Vlq.f 128 = some ((⟨#[129, 0]⟩ : ByteArray), 0) := by kernel_rfl
  have h4 : wire_ReadVlq.f 30 (⟨#[129, 0]⟩ : ByteArray) 0 = some (128, 2, 0) := by kernel_rfl
  have h5 : wire_Decode.f 30 (⟨#[0, 144, 60]⟩ : ByteArray) = some ([], 0, 152) := by kernel_rfl
  have h7 : partitaref15_Same.f 30 (([(⟨0, 9, 0, 60, 64, (⟨#[]⟩ : ByteArray)⟩ : Msg), (⟨128, 9, 0, 60, 64, (⟨#[]⟩ : ByteArray)⟩ : Msg)] : List (Msg))) (([(⟨0, 9, 0, 60, 64, (⟨#[]⟩ : ByteArray)⟩ : Msg), (⟨128, 9, 0, 60, 64, (⟨#[]⟩ : ByteArray)⟩ : Msg)] : List (Msg))) = some true := by
    have e : ∀ s : ByteArray, (s.toList == s.toList) = true := fun s => by simp
    simp [partitaref15_Same.f, partitaref15_Same.l0, rd_T31, wrap64]
  have h8 : wire_Right.f 30 0 9 0 60 64 (⟨#[]⟩ : ByteArray) = some true := by rw [right_f ⟨0, 9, 0, 60, 64, ⟨#[]⟩⟩ 30 (by decide)]; rfl
  have h9 : wire_Right.f 30 0 0 0 0 0 (⟨#[]⟩ : ByteArray) = some false := by rw [right_f ⟨0, 0, 0, 0, 0, ⟨#[]⟩⟩ 30 (by decide)]; rfl
  unfold partitalaw15_awake.f
  rw [h1, Option.bind_some, h2, Option.bind_some, h3, Option.bind_some, h4, Option.bind_some, h5, Option.bind_some]
  rw [if_pos (by rw [Lib.toList_data]), if_pos rfl, h7, Option.bind_some, if_pos rfl, if_pos rfl, if_pos rfl, if_pos (by rw [Lib.toList_data]), if_pos rfl, if_pos rfl, if_pos rfl, if_pos rfl, if_pos rfl, if_pos rfl, h8, Option.bind_some, if_pos rfl, h9, Option.bind_some]
  rfl
theorem awake_ev : Ev (fun k => partitalaw15_awake.f k) true := Ev.of (fun k => partitalaw15_awake.mono k) awake_f

/-! ### Same -/
theorem same_l0 (l : List Msg) (hl : l.length ≤ 1000000000) : ∀ (j i k : Nat), i + j = l.length → j < k → partitaref15_Same.l0 k l l (i : Int) = some true
  | 0, i, k, hj, hk => by
    obtain ⟨k, rfl⟩ : ∃ m, k = m + 1 := ⟨k - 1, by omega⟩
    simp only [partitaref15_Same.l0]
    rw [if_neg (by omega)]
  | j + 1, i, k, hj, hk => by
    obtain ⟨k, rfl⟩ : ∃ m, k = m + 1 := ⟨k - 1, by omega⟩
    simp only [partitaref15_Same.l0]
    rw [if_pos (by omega), if_pos (by omega), if_pos (by omega)]
    have e1 : wrap64 ((i : Int) + 1) = ((i + 1 : Nat) : Int) := by rw [w64 (by omega) (by omega)]; omega
    rw [e1, if_neg (by simp)]
    exact same_l0 l hl j (i + 1) k (by omega) (by omega)
theorem same_self (l : List Msg) (hl : l.length ≤ 1000000000) : Ev (fun k => partitaref15_Same.f k l l) true :=
  ⟨l.length + 1, fun k hk => by
    show (if (l.length : Int) = (l.length : Int) then partitaref15_Same.l0 k l l 0 else some false) = some true
    rw [if_pos rfl]
    exact same_l0 l hl l.length 0 k (by omega) (by omega)⟩

/-! ### Few -/
def FewP (l : List Msg) : Prop := l.length ≤ 20 ∧ ∀ m ∈ l, m.f5.size ≤ 300
theorem few_l0 (l : List Msg) : ∀ (j i k : Nat), i + j = 21 → 2 * j + 2 ≤ k → (∀ m ∈ l.take i, m.f5.size ≤ 300) → ∃ b, partitaref15_Few.l0 k l (i : Int) = some b ∧ (b = true → FewP l)
  | 0, i, k, hj, hk, hm => by
    obtain ⟨k, rfl⟩ : ∃ m, k = m + 2 := ⟨k - 2, by omega⟩
    simp only [partitaref15_Few.l0, partitaref15_Few.j1]
    have hd : ¬ decide ((i : Int) < 21) = true := by rw [decide_eq_true_eq]; omega
    have he : (if (i : Int) < (l.length : Int) then (if decide ((i : Int) < 21) = true then (if 0 ≤ (i : Int) then (if (i : Int) < (l.length : Int) then (if ((rd_T31 l (i : Int)).f5.size : Int) > 300 then (some false) else (partitaref15_Few.l0 k l (wrap64 ((i : Int) + 1)))) else (none)) else (none)) else (some (decide ((l.length : Int) ≤ 20)))) else (if false = true then (if 0 ≤ (i : Int) then (if (i : Int) < (l.length : Int) then (if ((rd_T31 l (i : Int)).f5.size : Int) > 300 then (some false) else (partitaref15_Few.l0 k l (wrap64 ((i : Int) + 1)))) else (none)) else (none)) else (some (decide ((l.length : Int) ≤ 20))))) = some (decide ((l.length : Int) ≤ 20)) := by
      by_cases c1 : (i : Int) < (l.length : Int)
      · rw [if_pos c1, if_neg hd]
      · rw [if_neg c1]; rfl
    refine ⟨decide ((l.length : Int) ≤ 20), he, fun h => ?_⟩
    rw [decide_eq_true_eq] at h
    refine ⟨by omega, ?_⟩
    rwa [List.take_of_length_le (by omega)] at hm
  | j + 1, i, k, hj, hk, hm => by
    obtain ⟨k, rfl⟩ : ∃ m, k = m + 2 := ⟨k - 2, by omega⟩
    simp only [partitaref15_Few.l0, partitaref15_Few.j1]
    by_cases c1 : (i : Int) < (l.length : Int)
    · have hd : decide ((i : Int) < 21) = true := by rw [decide_eq_true_eq]; omega
      rw [if_pos c1, if_pos hd, if_pos (by omega), if_pos c1]
      by_cases c2 : ((rd_T31 l (i : Int)).f5.size : Int) > 300
      · rw [if_pos c2]; exact ⟨false, rfl, fun h => by cases h⟩
      · rw [if_neg c2]
        have e1 : wrap64 ((i : Int) + 1) = ((i + 1 : Nat) : Int) := by rw [w64 (by omega) (by omega)]; omega
        rw [e1]
        refine few_l0 l j (i + 1) k (by omega) (by omega) ?_
        intro m hm2
        rw [List.take_succ_eq_append_getElem (by omega)] at hm2
        rcases List.mem_append.1 hm2 with hm2 | hm2
        · exact hm m hm2
        · rw [List.mem_singleton] at hm2
          subst hm2
          unfold rd_T31 at c2
          rw [Int.toNat_natCast, List.getD_eq_getElem?_getD, List.getElem?_eq_getElem (by omega)] at c2
          simp only [Option.getD_some] at c2
          omega
    · rw [if_neg c1, if_neg (by decide)]
      refine ⟨decide ((l.length : Int) ≤ 20), rfl, fun h => ?_⟩
      rw [decide_eq_true_eq] at h
      refine ⟨by omega, ?_⟩
      rwa [List.take_of_length_le (by omega)] at hm
theorem few_ev (l : List Msg) : ∃ b, Ev (fun k => partitaref15_Few.f k l) b ∧ (b = true → FewP l) := by
  obtain ⟨b, hb, h⟩ := few_l0 l 21 0 44 (by omega) (by omega) (by intro m hm; simp at hm)
  exact ⟨b, Ev.of (fun k => partitaref15_Few.mono l k) hb, h⟩
theorem tot_few : ∀ {l : List Msg}, (∀ m ∈ l, m.f5.size ≤ 300) → tot l ≤ 310 * l.length
  | [], _ => Nat.le_refl _
  | m :: l, h => by
    have h1 := h m (by simp)
    have h2 := tot_few (l := l) (fun x hx => h x (by simp [hx]))
    simp only [tot, List.length_cons]
    omega
theorem FewP.tot {l : List Msg} (h : FewP l) : tot l ≤ 6200 := by
  have := tot_few h.2
  have := h.1
  omega
theorem tot_append : ∀ (a b : List Msg), tot (a ++ b) = tot a + tot b
  | [], b => by simp [Z.tot]
  | m :: a, b => by
    have := tot_append a b
    rw [List.cons_append]
    simp only [Z.tot]
    omega

theorem vlq_f {n : Int} (h0 : 0 ≤ n) (h1 : n ≤ 268435455) : wire_Vlq.f n = some (strOfNums (num n), 0) := by
  unfold wire_Vlq.f
  rw [counts_f, Option.bind_some, if_pos (decide_eq_true ⟨h0, h1⟩), number_f h0 h1, Option.bind_some]
theorem vlq_out {n : Int} (h : n < 0 ∨ 268435455 < n) : wire_Vlq.f n = some (⟨#[]⟩, 150) := by
  unfold wire_Vlq.f
  rw [counts_f, Option.bind_some, if_neg (by rw [decide_eq_true_eq]; omega)]
theorem Ev.at {α : Type} {g : Nat → Option α} {r : α} (K : Nat) (h : ∀ k, K ≤ k → g k = some r) : Ev g r := ⟨K, h⟩

theorem Ev.ok {α : Type} {g : Nat → Option α} {r r' : α} (h : Ev g r) (e : r = r') : Ev g r' := e ▸ h
theorem nil_toList : (⟨#[]⟩ : ByteArray).toList = ([] : List UInt8) := by rw [Lib.toList_data]

theorem enc_str_size {l : List Msg} (hr : Rights l) : (strOfNums (enc 0 l)).size = (enc 0 l).length := str_size _
theorem enc_str_bytes {l : List Msg} (hr : Rights l) : bytesOf (strOfNums (enc 0 l)) = enc 0 l := bytesOf_str (enc_bytes hr)
theorem decode_enc {l : List Msg} (hr : Rights l) (ht : tot l ≤ 1000000000) : Ev (fun k => wire_Decode.f k (strOfNums (enc 0 l))) (l, 0, 0) := by
  have h := enc_tot l 0
  have hs := str_size (enc 0 l)
  refine decode_ok (by omega) ?_
  rw [enc_str_bytes hr]
  exact dec_enc0 hr (.inl rfl)

theorem body_e {d c e : Int} {r : List Int} (h : body d c r = .error e) : e ≠ 0 := by
  by_cases c1 : c = 255
  · subst c1
    rw [body_255] at h
    cases hl : low r with
    | error e' => rw [hl] at h; injection h with h; subst h; rcases low_e hl with rfl | rfl <;> decide
    | ok x =>
      obtain ⟨a, r1⟩ := x
      rw [hl] at h
      dsimp only at h
      cases hd : dat r1 with
      | error e' => rw [hd] at h; injection h with h; subst h; rcases dat_e hd with rfl | rfl | rfl <;> decide
      | ok y => obtain ⟨bs, r2⟩ := y; rw [hd] at h; cases h
  · by_cases c2 : c ≥ 240
    · rw [body_sys c1 c2] at h
      cases hd : dat r with
      | error e' => rw [hd] at h; injection h with h; subst h; rcases dat_e hd with rfl | rfl | rfl <;> decide
      | ok y => obtain ⟨bs, r2⟩ := y; rw [hd] at h; cases h
    · rw [body_key (by omega)] at h
      cases hl : low r with
      | error e' => rw [hl] at h; injection h with h; subst h; rcases low_e hl with rfl | rfl <;> decide
      | ok x =>
        obtain ⟨a, r1⟩ := x
        rw [hl] at h
        dsimp only at h
        by_cases c3 : c / 16 = 12 ∨ c / 16 = 13
        · rw [if_pos c3] at h; cases h
        · rw [if_neg c3] at h
          cases hl2 : low r1 with
          | error e' => rw [hl2] at h; injection h with h; subst h; rcases low_e hl2 with rfl | rfl <;> decide
          | ok y => obtain ⟨b, r2⟩ := y; rw [hl2] at h; cases h
theorem msg_e {l e : Int} {r : List Int} (h : msg l r = .error e) : e ≠ 0 := by
  cases hv : vlq 4 0 r with
  | error e' => unfold msg at h; rw [hv] at h; injection h with h; subst h; rcases vlq_e hv with rfl | rfl <;> decide
  | ok x =>
    obtain ⟨d, r1⟩ := x
    cases r1 with
    | nil => unfold msg at h; rw [hv] at h; injection h with h; subst h; decide
    | cons c r1 =>
      rw [msg_at hv] at h
      by_cases c1 : c < 128
      · rw [if_pos c1] at h
        by_cases c2 : l = 0
        · rw [if_pos c2] at h; injection h with h; subst h; decide
        · rw [if_neg c2] at h; exact body_e h
      · rw [if_neg c1] at h
        by_cases c2 : c > 240 ∧ c ≠ 247 ∧ c ≠ 255
        · rw [if_pos c2] at h; injection h with h; subst h; decide
        · rw [if_neg c2] at h; exact body_e h
theorem bad_e {l e : Int} {r : List Int} {n : Nat} (h : Bad l r e n) : e ≠ 0 := by
  induction h with
  | here _ hm => exact msg_e hm
  | later _ _ ih => exact ih

instance (l : List Msg) : Decidable (Rights l) := by unfold Rights; infer_instance
theorem rights_append {a b : List Msg} : Rights (a ++ b) ↔ Rights a ∧ Rights b := by
  constructor
  · intro h
    exact ⟨fun m hm => h m (List.mem_append.2 (.inl hm)), fun m hm => h m (List.mem_append.2 (.inr hm))⟩
  · rintro ⟨h1, h2⟩ m hm
    rcases List.mem_append.1 hm with hm | hm
    · exact h1 m hm
    · exact h2 m hm
end Go.Proofs.Ytmeefdaanjaoaaa.Z
