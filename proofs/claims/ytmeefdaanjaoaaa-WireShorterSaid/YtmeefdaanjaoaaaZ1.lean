/- The plain model of chapter 15: numbers in parts, messages, their bytes, and what is read of bytes; the laws of the model. No program is walked here. -/
import Derived.Test.YtmeefdaanjaoaaaZ0
import Derived.Test.YtmeefdaanjaoaaaM0
namespace Go.Proofs.Ytmeefdaanjaoaaa.Z
open Go.RowKit Go.Proofs.YtmeefdaanjaoaaaW.PrintWords Go.Proofs.Ytmeefdaanjaoaaa.M
set_option linter.unusedVariables false

abbrev Msg := S31

/-! ### numbers in parts -/
def part (b n : Int) : List Int := if b ≤ n then [n / b % 128 + 128] else []
def num (n : Int) : List Int := part 2097152 n ++ part 16384 n ++ part 128 n ++ [n % 128]

def vlq : Nat → Int → List Int → Except Int (Int × List Int)
  | 0, _, _ => .error 150
  | _ + 1, _, [] => .error 152
  | i + 1, n, c :: r => if c < 128 then .ok (n * 128 + c, r) else vlq i (n * 128 + (c - 128)) r

theorem vlq_zero (n : Int) (r : List Int) : vlq 0 n r = .error 150 := rfl
theorem vlq_nil (i : Nat) (n : Int) : vlq (i + 1) n [] = .error 152 := rfl
theorem vlq_lo {i : Nat} {n c : Int} {r : List Int} (h : c < 128) : vlq (i + 1) n (c :: r) = .ok (n * 128 + c, r) := by rw [vlq, if_pos h]
theorem vlq_hi {i : Nat} {n c : Int} {r : List Int} (h : ¬ c < 128) : vlq (i + 1) n (c :: r) = vlq i (n * 128 + (c - 128)) r := by rw [vlq, if_neg h]

theorem num1 {n : Int} (h0 : 0 ≤ n) (h : n < 128) : num n = [n] := by
  unfold num part
  rw [if_neg (by omega), if_neg (by omega), if_neg (by omega)]
  simp only [List.nil_append]
  congr 1; omega
theorem num2 {n : Int} (h0 : 128 ≤ n) (h : n < 16384) : num n = [n / 128 + 128, n % 128] := by
  unfold num part
  rw [if_neg (by omega), if_neg (by omega), if_pos (by omega)]
  simp only [List.nil_append, List.cons_append]
  congr 1; omega
theorem num3 {n : Int} (h0 : 16384 ≤ n) (h : n < 2097152) : num n = [n / 16384 + 128, n / 128 % 128 + 128, n % 128] := by
  unfold num part
  rw [if_neg (by omega), if_pos (by omega), if_pos (by omega)]
  simp only [List.nil_append, List.cons_append]
  congr 1; omega
theorem num4 {n : Int} (h0 : 2097152 ≤ n) (h : n ≤ 268435455) : num n = [n / 2097152 + 128, n / 16384 % 128 + 128, n / 128 % 128 + 128, n % 128] := by
  unfold num part
  rw [if_pos (by omega), if_pos (by omega), if_pos (by omega)]
  simp only [List.nil_append, List.cons_append]
  congr 1; omega
theorem num_len (n : Int) : 1 ≤ (num n).length ∧ (num n).length ≤ 4 := by
  unfold num part
  split <;> split <;> split <;> simp
theorem num_bytes {n : Int} (h0 : 0 ≤ n) : Bytes (num n) := by
  unfold num part
  have h1 := Int.emod_nonneg (n / 2097152) (b := 128) (by decide)
  have h2 := Int.emod_lt_of_pos (n / 2097152) (b := 128) (by decide)
  have h3 := Int.emod_nonneg (n / 16384) (b := 128) (by decide)
  have h4 := Int.emod_lt_of_pos (n / 16384) (b := 128) (by decide)
  have h5 := Int.emod_nonneg (n / 128) (b := 128) (by decide)
  have h6 := Int.emod_lt_of_pos (n / 128) (b := 128) (by decide)
  have h7 := Int.emod_nonneg n (b := 128) (by decide)
  have h8 := Int.emod_lt_of_pos n (b := 128) (by decide)
  refine Bytes.append (Bytes.append (Bytes.append ?_ ?_) ?_) (Bytes.cons (by omega) (by omega) Bytes.nil)
  all_goals
    split
    · exact Bytes.cons (by omega) (by omega) Bytes.nil
    · exact Bytes.nil

theorem vlq_num {n : Int} (h0 : 0 ≤ n) (h1 : n ≤ 268435455) (r : List Int) : vlq 4 0 (num n ++ r) = .ok (n, r) := by
  by_cases a : n < 128
  · rw [num1 h0 a, List.singleton_append, vlq_lo a]
    congr 2; omega
  · by_cases b : n < 16384
    · rw [num2 (by omega) b]
      simp only [List.cons_append, List.nil_append]
      rw [vlq_hi (by omega), vlq_lo (by omega)]
      congr 2; omega
    · by_cases c : n < 2097152
      · rw [num3 (by omega) c]
        simp only [List.cons_append, List.nil_append]
        rw [vlq_hi (by omega), vlq_hi (by omega), vlq_lo (by omega)]
        congr 2; omega
      · rw [num4 (by omega) h1]
        simp only [List.cons_append, List.nil_append]
        rw [vlq_hi (by omega), vlq_hi (by omega), vlq_hi (by omega), vlq_lo (by omega)]
        congr 2; omega

/-- What is read of a number: at most four bytes, no fewer than it needs. -/
theorem vlq_ok : ∀ {i : Nat} {n m : Int} {r r' : List Int}, Bytes r → vlq i n r = .ok (m, r') → ∃ p : List Int, r = p ++ r' ∧ 1 ≤ p.length ∧ p.length ≤ i ∧ n * 128 ^ p.length ≤ m ∧ m < (n + 1) * 128 ^ p.length
  | 0, _, _, _, _, _, h => by cases h
  | i + 1, n, m, [], r', _, h => by cases h
  | i + 1, n, m, c :: r, r', hb, h => by
    have hc := hb.head
    by_cases hlt : c < 128
    · rw [vlq_lo hlt] at h
      injection h with h
      injection h with h1 h2
      subst h1 h2
      exact ⟨[c], rfl, by simp, by simp, by simp; omega, by simp; omega⟩
    · rw [vlq_hi hlt] at h
      obtain ⟨p, rfl, hp1, hp2, hlo, hhi⟩ := vlq_ok hb.tail h
      refine ⟨c :: p, rfl, by simp, by simp; omega, ?_, ?_⟩
      · rw [List.length_cons, Int.pow_succ]
        have hpos : (0 : Int) < 128 ^ p.length := Int.pow_pos (by decide)
        have := Int.mul_le_mul_of_nonneg_right (show n * 128 ≤ n * 128 + (c - 128) by omega) (Int.le_of_lt hpos)
        have e : n * (128 ^ p.length * 128) = n * 128 * 128 ^ p.length := by rw [Int.mul_comm (128 ^ p.length) 128, Int.mul_assoc]
        omega
      · rw [List.length_cons, Int.pow_succ]
        have hpos : (0 : Int) < 128 ^ p.length := Int.pow_pos (by decide)
        have := Int.mul_le_mul_of_nonneg_right (show n * 128 + (c - 128) + 1 ≤ (n + 1) * 128 by omega) (Int.le_of_lt hpos)
        have e : (n + 1) * (128 ^ p.length * 128) = (n + 1) * 128 * 128 ^ p.length := by rw [Int.mul_comm (128 ^ p.length) 128, Int.mul_assoc]
        omega
theorem vlq4_ok {m : Int} {r r' : List Int} (hb : Bytes r) (h : vlq 4 0 r = .ok (m, r')) : 0 ≤ m ∧ m ≤ 268435455 ∧ ∃ p : List Int, r = p ++ r' ∧ (num m).length ≤ p.length := by
  obtain ⟨p, rfl, h1, h2, h3, h4⟩ := vlq_ok hb h
  rw [Int.zero_mul] at h3
  rw [Int.zero_add, Int.one_mul] at h4
  have hl : p.length = 1 ∨ p.length = 2 ∨ p.length = 3 ∨ p.length = 4 := by omega
  rcases hl with e | e | e | e <;> rw [e] at h4 <;> simp at h4 <;> refine ⟨h3, by omega, p, rfl, ?_⟩
  · rw [num1 h3 (by omega), e]; simp
  · by_cases a : m < 128
    · rw [num1 h3 a, e]; simp
    · rw [num2 (by omega) (by omega), e]; simp
  · by_cases a : m < 128
    · rw [num1 h3 a, e]; simp
    · by_cases b : m < 16384
      · rw [num2 (by omega) b, e]; simp
      · rw [num3 (by omega) (by omega), e]; simp
  · rw [e]; exact (num_len m).2
/-- More bytes behind. -/
theorem vlq_ext : ∀ {i : Nat} {n m : Int} {r r' : List Int}, vlq i n r = .ok (m, r') → ∀ t, vlq i n (r ++ t) = .ok (m, r' ++ t)
  | 0, _, _, _, _, h, _ => by cases h
  | i + 1, n, m, [], r', h, _ => by cases h
  | i + 1, n, m, c :: r, r', h, t => by
    by_cases hlt : c < 128
    · rw [vlq_lo hlt] at h
      injection h with h
      injection h with h1 h2
      subst h1 h2
      rw [List.cons_append, vlq_lo hlt]
    · rw [vlq_hi hlt] at h
      rw [List.cons_append, vlq_hi hlt]
      exact vlq_ext h t
theorem vlq_err : ∀ {i : Nat} {n e : Int} {r : List Int}, vlq i n r = .error e → e ≠ 152 → ∀ t, vlq i n (r ++ t) = .error e
  | 0, _, _, _, h, _, _ => by cases h; rfl
  | i + 1, n, e, [], h, h2, _ => by
    rw [vlq_nil] at h
    injection h with h
    exact absurd h.symm h2
  | i + 1, n, e, c :: r, h, h2, t => by
    by_cases hlt : c < 128
    · rw [vlq_lo hlt] at h; cases h
    · rw [vlq_hi hlt] at h
      rw [List.cons_append, vlq_hi hlt]
      exact vlq_err h h2 t
theorem vlq_e : ∀ {i : Nat} {n e : Int} {r : List Int}, vlq i n r = .error e → e = 150 ∨ e = 152
  | 0, _, _, _, h => by cases h; exact .inl rfl
  | i + 1, n, e, [], h => by cases h; exact .inr rfl
  | i + 1, n, e, c :: r, h => by
    by_cases hlt : c < 128
    · rw [vlq_lo hlt] at h; cases h
    · rw [vlq_hi hlt] at h
      exact vlq_e h

/-! ### messages -/
def low : List Int → Except Int (Int × List Int)
  | [] => .error 152
  | c :: r => if c ≥ 128 then .error 151 else .ok (c, r)
def dat (r : List Int) : Except Int (List Int × List Int) :=
  match vlq 4 0 r with
  | .error e => .error e
  | .ok (n, r1) => if n > 100000 then .error 151 else if n > r1.length then .error 152 else .ok (r1.take n.toNat, r1.drop n.toNat)
def body (d c : Int) (r : List Int) : Except Int (Msg × Int × List Int) :=
  if c = 255 then
    match low r with
    | .error e => .error e
    | .ok (a, r1) => match dat r1 with
      | .error e => .error e
      | .ok (bs, r2) => .ok (⟨d, 16, 0, a, 0, strOfNums bs⟩, 0, r2)
  else if c ≥ 240 then
    match dat r with
    | .error e => .error e
    | .ok (bs, r2) => .ok (⟨d, 15, 0, c, 0, strOfNums bs⟩, 0, r2)
  else
    match low r with
    | .error e => .error e
    | .ok (a, r1) => if c / 16 = 12 ∨ c / 16 = 13 then .ok (⟨d, c / 16, c % 16, a, 0, ⟨#[]⟩⟩, c, r1) else
      match low r1 with
      | .error e => .error e
      | .ok (b, r2) => .ok (⟨d, c / 16, c % 16, a, b, ⟨#[]⟩⟩, c, r2)
def msg (last : Int) (r : List Int) : Except Int (Msg × Int × List Int) :=
  match vlq 4 0 r with
  | .error e => .error e
  | .ok (_, []) => .error 152
  | .ok (d, c :: r1) => if c < 128 then (if last = 0 then .error 151 else body d last (c :: r1)) else if c > 240 ∧ c ≠ 247 ∧ c ≠ 255 then .error 151 else body d c r1

/-- The messages of bytes. -/
inductive Dec : Int → List Int → List Msg → Prop
  | nil (l : Int) : Dec l [] []
  | cons {l l' : Int} {r r' : List Int} {m : Msg} {ms : List Msg} : msg l r = .ok (m, l', r') → Dec l' r' ms → Dec l r (m :: ms)
/-- Bytes of which a message is wrong: how, and how many bytes are left where it begins. -/
inductive Bad : Int → List Int → Int → Nat → Prop
  | here {l e : Int} {r : List Int} : r ≠ [] → msg l r = .error e → Bad l r e r.length
  | later {l l' e : Int} {r r' : List Int} {m : Msg} {n : Nat} : msg l r = .ok (m, l', r') → Bad l' r' e n → Bad l r e n

def Right (m : Msg) : Prop := 0 ≤ m.f0 ∧ m.f0 ≤ 268435455 ∧ m.f5.size ≤ 100000 ∧
  ((8 ≤ m.f1 ∧ m.f1 ≤ 14 ∧ 0 ≤ m.f2 ∧ m.f2 ≤ 15 ∧ 0 ≤ m.f3 ∧ m.f3 ≤ 127 ∧ 0 ≤ m.f4 ∧ m.f4 ≤ 127 ∧ (m.f1 = 12 ∨ m.f1 = 13 → m.f4 = 0) ∧ m.f5.size = 0) ∨
   (m.f1 = 15 ∧ m.f2 = 0 ∧ m.f4 = 0 ∧ (m.f3 = 240 ∨ m.f3 = 247)) ∨ (m.f1 = 16 ∧ m.f2 = 0 ∧ m.f4 = 0 ∧ 0 ≤ m.f3 ∧ m.f3 ≤ 127))
instance (m : Msg) : Decidable (Right m) := by unfold Right; infer_instance

def encOne (l : Int) (m : Msg) : List Int :=
  if m.f1 = 16 then num m.f0 ++ (255 :: m.f3 :: (num m.f5.size ++ bytesOf m.f5))
  else if m.f1 = 15 then num m.f0 ++ (m.f3 :: (num m.f5.size ++ bytesOf m.f5))
  else num m.f0 ++ ((if 16 * m.f1 + m.f2 = l then [] else [16 * m.f1 + m.f2]) ++ (m.f3 :: (if m.f1 = 12 ∨ m.f1 = 13 then [] else [m.f4])))
def nextL (m : Msg) : Int := if m.f1 = 16 then 0 else if m.f1 = 15 then 0 else 16 * m.f1 + m.f2
def enc : Int → List Msg → List Int
  | _, [] => []
  | l, m :: ms => encOne l m ++ enc (nextL m) ms
end Go.Proofs.Ytmeefdaanjaoaaa.Z
