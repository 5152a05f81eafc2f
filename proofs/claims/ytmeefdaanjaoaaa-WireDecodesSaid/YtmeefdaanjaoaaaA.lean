/- Plain lemmas on bytes: a string and the list of its bytes; numbers that do not wrap. No program.
The plain model of chapter 15: numbers in parts, messages, their bytes, and what is read of bytes; the laws of the model. No program is walked here.
The laws of the plain model of chapter 15: there and back, no more bytes, messages behind others, bytes that are cut off.
The laws of the plain model, of lists of messages: told there and back; no more bytes; bytes that are cut off; running status. -/
import Derived.Test.YtmeefdaanjaoaaaWWords
import Derived.Test.YtmeefdaanjaoaaaWTab
import Derived.Test.YtmeefdaanjaoaaaWMore
import Derived.Lib.Strings
import Derived.Lib.SmallJoins
import Derived.IntWalk
import Derived.Test.YtmeefdaanjaoaaaM0
namespace Go.Proofs.Ytmeefdaanjaoaaa.Z
open Go.RowKit Go.Proofs.YtmeefdaanjaoaaaW.PrintWords Go.Proofs.YtmeefdaanjaoaaaW.PrintLast Go.Proofs.Ytmeefdaanjaoaaa.M
set_option linter.unusedVariables false
set_option linter.unusedSimpArgs false

theorem w64 {x : Int} (h0 : -9223372036854775808 ≤ x) (h1 : x ≤ 9223372036854775807) : wrap64 x = x := IntWalk.wrap64_in x ⟨h0, h1⟩

/-- All numbers of a list are bytes. -/
def Bytes (xs : List Int) : Prop := ∀ x ∈ xs, 0 ≤ x ∧ x ≤ 255
theorem Bytes.nil : Bytes [] := by intro x h; cases h
theorem Bytes.cons {x : Int} {xs : List Int} (h0 : 0 ≤ x) (h1 : x ≤ 255) (h : Bytes xs) : Bytes (x :: xs) := by
  intro y hy
  rcases List.mem_cons.1 hy with rfl | hy
  · exact ⟨h0, h1⟩
  · exact h y hy
theorem Bytes.append {xs ys : List Int} (h : Bytes xs) (k : Bytes ys) : Bytes (xs ++ ys) := by
  intro y hy
  rcases List.mem_append.1 hy with hy | hy
  · exact h y hy
  · exact k y hy
theorem Bytes.head {x : Int} {xs : List Int} (h : Bytes (x :: xs)) : 0 ≤ x ∧ x ≤ 255 := h x (by simp)
theorem Bytes.tail {x : Int} {xs : List Int} (h : Bytes (x :: xs)) : Bytes xs := fun y hy => h y (by simp [hy])
theorem Bytes.left {xs ys : List Int} (h : Bytes (xs ++ ys)) : Bytes xs := fun y hy => h y (by simp [hy])
theorem Bytes.right {xs ys : List Int} (h : Bytes (xs ++ ys)) : Bytes ys := fun y hy => h y (by simp [hy])
theorem Bytes.drop {xs : List Int} (h : Bytes xs) (n : Nat) : Bytes (xs.drop n) := fun y hy => h y (List.mem_of_mem_drop hy)
theorem Bytes.take {xs : List Int} (h : Bytes xs) (n : Nat) : Bytes (xs.take n) := fun y hy => h y (List.mem_of_mem_take hy)
theorem bytesOf_bytes (s : ByteArray) : Bytes (bytesOf s) := by
  intro x hx
  unfold bytesOf at hx
  obtain ⟨b, _, rfl⟩ := List.mem_map.1 hx
  have := b.toNat_lt
  omega

theorem toNat_ofNat {x : Int} (h0 : 0 ≤ x) (h1 : x ≤ 255) : ((UInt8.ofNat x.toNat).toNat : Int) = x := by
  rw [UInt8.toNat_ofNat']
  have : x.toNat % 2 ^ 8 = x.toNat := Nat.mod_eq_of_lt (by omega)
  rw [this]
  omega
theorem bytesOf_str {xs : List Int} (h : Bytes xs) : bytesOf (strOfNums xs) = xs := by
  unfold bytesOf strOfNums
  simp only [List.map_map]
  induction xs with
  | nil => rfl
  | cons x xs ih =>
    have hx := h.head
    simp only [List.map_cons, Function.comp]
    rw [toNat_ofNat hx.1 hx.2]
    exact congrArg _ (ih h.tail)
theorem str_size (xs : List Int) : (strOfNums xs).size = xs.length := by
  unfold strOfNums
  simp [ByteArray.size]
theorem str_bytesOf (s : ByteArray) : strOfNums (bytesOf s) = s := by
  obtain ⟨⟨l⟩⟩ := s
  unfold strOfNums bytesOf
  simp only [List.map_map]
  congr 2
  induction l with
  | nil => rfl
  | cons x xs ih =>
    simp only [List.map_cons, Function.comp]
    rw [ih]
    congr 1
    simp
theorem bytesOf_inj {s t : ByteArray} (h : bytesOf s = bytesOf t) : s = t := by rw [← str_bytesOf s, h, str_bytesOf]
theorem toList_eq {s t : ByteArray} : s.toList = t.toList ↔ s = t := by
  constructor
  · intro h
    rw [Lib.toList_data, Lib.toList_data] at h
    exact Go.WideShapes.bytes_inj h
  · intro h; rw [h]
theorem bytesOf_append (s t : ByteArray) : bytesOf (s ++ t) = bytesOf s ++ bytesOf t := by
  unfold bytesOf
  rw [Go.Joins.data_append, List.map_append]
theorem bytesOf_extract (s : ByteArray) (i j : Nat) : bytesOf (s.extract i j) = ((bytesOf s).drop i).take (j - i) := by
  unfold bytesOf
  rw [Lib.extract_data, List.map_take, List.map_drop]
theorem size_eq (s : ByteArray) : s.size = (bytesOf s).length := (bytesOf_length s).symm
theorem bytesOf_nil : bytesOf (⟨#[]⟩ : ByteArray) = [] := rfl
theorem str_append (xs ys : List Int) : strOfNums (xs ++ ys) = strOfNums xs ++ strOfNums ys := by
  apply Go.WideShapes.bytes_inj
  rw [Go.Joins.data_append]
  unfold strOfNums
  simp
/-- What stands at a place. -/
theorem drop_at (s : ByteArray) (i : Int) (h0 : 0 ≤ i) (h1 : i < s.size) : (bytesOf s).drop i.toNat = bt s i :: (bytesOf s).drop (i + 1).toNat := by
  have hl : i.toNat < (bytesOf s).length := by rw [bytesOf_length]; omega
  rw [List.drop_eq_getElem_cons hl]
  have e : (i + 1).toNat = i.toNat + 1 := by omega
  rw [e, ← rd_bytesOf]
  unfold rd
  rw [List.getD_eq_getElem?_getD, List.getElem?_eq_getElem hl]
  rfl
theorem drop_end (s : ByteArray) (i : Int) (h1 : (s.size : Int) ≤ i) : (bytesOf s).drop i.toNat = [] := by
  apply List.drop_eq_nil_of_le
  rw [bytesOf_length]
  omega
theorem drop_len (s : ByteArray) (i : Int) (h0 : 0 ≤ i) (h1 : i ≤ s.size) : (((bytesOf s).drop i.toNat).length : Int) = s.size - i := by
  rw [List.length_drop, bytesOf_length]
  omega
theorem size_nil : (⟨#[]⟩ : ByteArray).size = 0 := rfl
theorem toList_nil (s : ByteArray) : s.toList = ([] : List UInt8) ↔ s.size = 0 := by
  rw [Lib.toList_data]
  constructor
  · intro h
    have e := data_length s
    rw [h] at e
    exact e.symm
  · intro h
    exact List.eq_nil_of_length_eq_zero ((data_length s).trans h)
theorem eq_nil_of_size {s : ByteArray} (h : s.size = 0) : s = (⟨#[]⟩ : ByteArray) := toList_eq.1 (((toList_nil s).2 h).trans ((toList_nil _).2 rfl).symm)

abbrev Msg := S31

/-! ### numbers in parts -/
def part (b n : Int) : List Int := if b ≤ n then [n / b % 128 + 128] else []
def num (n : Int) : List Int := part 2097152 n ++ part 16384 n ++ part 128 n ++ [n % 128]

def vlq : Nat → Int → List Int → Except Int (Int × List Int)
  | 0, _, _ => .error 150
  | _ + 1, _, [] => .error 152
  | i + 1, n, c :: r => if c < 128 then .ok (n * 128 + c, r) else vlq i (n * 128 + (c - 128)) r

theorem vlq_zero (n : Int) (r : List Int) : vlq 0 n r = .error 150 := rfl
theorem vlq_nil (i : Nat) (n : Int) : vlq (i + 1) n [] = .error 152 := rfl
theorem vlq_lo {i : Nat} {n c : Int} {r : List Int} (h : c < 128) : vlq (i + 1) n (c :: r) = .ok (n * 128 + c, r) := by rw [vlq, if_pos h]
theorem vlq_hi {i : Nat} {n c : Int} {r : List Int} (h : ¬ c < 128) : vlq (i + 1) n (c :: r) = vlq i (n * 128 + (c - 128)) r := by rw [vlq, if_neg h]

theorem num1 {n : Int} (h0 : 0 ≤ n) (h : n < 128) : num n = [n] := by
  unfold num part
  rw [if_neg (by omega), if_neg (by omega), if_neg (by omega)]
  simp only [List.nil_append]
  congr 1; omega
theorem num2 {n : Int} (h0 : 128 ≤ n) (h : n < 16384) : num n = [n / 128 + 128, n % 128] := by
  unfold num part
  rw [if_neg (by omega), if_neg (by omega), if_pos (by omega)]
  simp only [List.nil_append, List.cons_append]
  congr 1; omega
theorem num3 {n : Int} (h0 : 16384 ≤ n) (h : n < 2097152) : num n = [n / 16384 + 128, n / 128 % 128 + 128, n % 128] := by
  unfold num part
  rw [if_neg (by omega), if_pos (by omega), if_pos (by omega)]
  simp only [List.nil_append, List.cons_append]
  congr 1; omega
theorem num4 {n : Int} (h0 : 2097152 ≤ n) (h : n ≤ 268435455) : num n = [n / 2097152 + 128, n / 16384 % 128 + 128, n / 128 % 128 + 128, n % 128] := by
  unfold num part
  rw [if_pos (by omega), if_pos (by omega), if_pos (by omega)]
  simp only [List.nil_append, List.cons_append]
  congr 1; omega
theorem num_len (n : Int) : 1 ≤ (num n).length ∧ (num n).length ≤ 4 := by
  unfold num part
  split <;> split <;> split <;> simp
theorem num_bytes {n : Int} (h0 : 0 ≤ n) : Bytes (num n) := by
  unfold num part
  have h1 := Int.emod_nonneg (n / 2097152) (b := 128) (by decide)
  have h2 := Int.emod_lt_of_pos (n / 2097152) (b := 128) (by decide)
  have h3 := Int.emod_nonneg (n / 16384) (b := 128) (by decide)
  have h4 := Int.emod_lt_of_pos (n / 16384) (b := 128) (by decide)
  have h5 := Int.emod_nonneg (n / 128) (b := 128) (by decide)
  have h6 := Int.emod_lt_of_pos (n / 128) (b := 128) (by decide)
  have h7 := Int.emod_nonneg n (b := 128) (by decide)
  have h8 := Int.emod_lt_of_pos n (b := 128) (by decide)
  refine Bytes.append (Bytes.append (Bytes.append ?_ ?_) ?_) (Bytes.cons (by omega) (by omega) Bytes.nil)
  all_goals
    split
    · exact Bytes.cons (by omega) (by omega) Bytes.nil
    · exact Bytes.nil

theorem vlq_num {n : Int} (h0 : 0 ≤ n) (h1 : n ≤ 268435455) (r : List Int) : vlq 4 0 (num n ++ r) = .ok (n, r) := by
  by_cases a : n < 128
  · rw [num1 h0 a, List.singleton_append, vlq_lo a]
    congr 2; omega
  · by_cases b : n < 16384
    · rw [num2 (by omega) b]
      simp only [List.cons_append, List.nil_append]
      rw [vlq_hi (by omega), vlq_lo (by omega)]
      congr 2; omega
    · by_cases c : n < 2097152
      · rw [num3 (by omega) c]
        simp only [List.cons_append, List.nil_append]
        rw [vlq_hi (by omega), vlq_hi (by omega), vlq_lo (by omega)]
        congr 2; omega
      · rw [num4 (by omega) h1]
        simp only [List.cons_append, List.nil_append]
        rw [vlq_hi (by omega), vlq_hi (by omega), vlq_hi (by omega), vlq_lo (by omega)]
        congr 2; omega

/-- What is read of a number: at most four bytes, no fewer than it needs. -/
theorem vlq_ok : ∀ {i : Nat} {n m : Int} {r r' : List Int}, Bytes r → vlq i n r = .ok (m, r') → ∃ p : List Int, r = p ++ r' ∧ 1 ≤ p.length ∧ p.length ≤ i ∧ n * 128 ^ p.length ≤ m ∧ m < (n + 1) * 128 ^ p.length
  | 0, _, _, _, _, _, h => by cases h
  | i + 1, n, m, [], r', _, h => by cases h
  | i + 1, n, m, c :: r, r', hb, h => by
    have hc := hb.head
    by_cases hlt : c < 128
    · rw [vlq_lo hlt] at h
      injection h with h
      injection h with h1 h2
      subst h1 h2
      exact ⟨[c], rfl, by simp, by simp, by simp; omega, by simp; omega⟩
    · rw [vlq_hi hlt] at h
      obtain ⟨p, rfl, hp1, hp2, hlo, hhi⟩ := vlq_ok hb.tail h
      refine ⟨c :: p, rfl, by simp, by simp; omega, ?_, ?_⟩
      · rw [List.length_cons, Int.pow_succ]
        have hpos : (0 : Int) < 128 ^ p.length := Int.pow_pos (by decide)
        have := Int.mul_le_mul_of_nonneg_right (show n * 128 ≤ n * 128 + (c - 128) by omega) (Int.le_of_lt hpos)
        have e : n * (128 ^ p.length * 128) = n * 128 * 128 ^ p.length := by rw [Int.mul_comm (128 ^ p.length) 128, Int.mul_assoc]
        omega
      · rw [List.length_cons, Int.pow_succ]
        have hpos : (0 : Int) < 128 ^ p.length := Int.pow_pos (by decide)
        have := Int.mul_le_mul_of_nonneg_right (show n * 128 + (c - 128) + 1 ≤ (n + 1) * 128 by omega) (Int.le_of_lt hpos)
        have e : (n + 1) * (128 ^ p.length * 128) = (n + 1) * 128 * 128 ^ p.length := by rw [Int.mul_comm (128 ^ p.length) 128, Int.mul_assoc]
        omega
theorem vlq4_ok {m : Int} {r r' : List Int} (hb : Bytes r) (h : vlq 4 0 r = .ok (m, r')) : 0 ≤ m ∧ m ≤ 268435455 ∧ ∃ p : List Int, r = p ++ r' ∧ (num m).length ≤ p.length := by
  obtain ⟨p, rfl, h1, h2, h3, h4⟩ := vlq_ok hb h
  rw [Int.zero_mul] at h3
  rw [Int.zero_add, Int.one_mul] at h4
  have hl : p.length = 1 ∨ p.length = 2 ∨ p.length = 3 ∨ p.length = 4 := by omega
  rcases hl with e | e | e | e <;> rw [e] at h4 <;> simp at h4 <;> refine ⟨h3, by omega, p, rfl, ?_⟩
  · rw [num1 h3 (by omega), e]; simp
  · by_cases a : m < 128
    · rw [num1 h3 a, e]; simp
    · rw [num2 (by omega) (by omega), e]; simp
  · by_cases a : m < 128
    · rw [num1 h3 a, e]; simp
    · by_cases b : m < 16384
      · rw [num2 (by omega) b, e]; simp
      · rw [num3 (by omega) (by omega), e]; simp
  · rw [e]; exact (num_len m).2
/-- More bytes behind. -/
theorem vlq_ext : ∀ {i : Nat} {n m : Int} {r r' : List Int}, vlq i n r = .ok (m, r') → ∀ t, vlq i n (r ++ t) = .ok (m, r' ++ t)
  | 0, _, _, _, _, h, _ => by cases h
  | i + 1, n, m, [], r', h, _ => by cases h
  | i + 1, n, m, c :: r, r', h, t => by
    by_cases hlt : c < 128
    · rw [vlq_lo hlt] at h
      injection h with h
      injection h with h1 h2
      subst h1 h2
      rw [List.cons_append, vlq_lo hlt]
    · rw [vlq_hi hlt] at h
      rw [List.cons_append, vlq_hi hlt]
      exact vlq_ext h t
theorem vlq_err : ∀ {i : Nat} {n e : Int} {r : List Int}, vlq i n r = .error e → e ≠ 152 → ∀ t, vlq i n (r ++ t) = .error e
  | 0, _, _, _, h, _, _ => by cases h; rfl
  | i + 1, n, e, [], h, h2, _ => by
    rw [vlq_nil] at h
    injection h with h
    exact absurd h.symm h2
  | i + 1, n, e, c :: r, h, h2, t => by
    by_cases hlt : c < 128
    · rw [vlq_lo hlt] at h; cases h
    · rw [vlq_hi hlt] at h
      rw [List.cons_append, vlq_hi hlt]
      exact vlq_err h h2 t
theorem vlq_e : ∀ {i : Nat} {n e : Int} {r : List Int}, vlq i n r = .error e → e = 150 ∨ e = 152
  | 0, _, _, _, h => by cases h; exact .inl rfl
  | i + 1, n, e, [], h => by cases h; exact .inr rfl
  | i + 1, n, e, c :: r, h => by
    by_cases hlt : c < 128
    · rw [vlq_lo hlt] at h; cases h
    · rw [vlq_hi hlt] at h
      exact vlq_e h

/-! ### messages -/
def low : List Int → Except Int (Int × List Int)
  | [] => .error 152
  | c :: r => if c ≥ 128 then .error 151 else .ok (c, r)
def dat (r : List Int) : Except Int (List Int × List Int) :=
  match vlq 4 0 r with
  | .error e => .error e
  | .ok (n, r1) => if n > 100000 then .error 151 else if n > r1.length then .error 152 else .ok (r1.take n.toNat, r1.drop n.toNat)
def body (d c : Int) (r : List Int) : Except Int (Msg × Int × List Int) :=
  if c = 255 then
    match low r with
    | .error e => .error e
    | .ok (a, r1) => match dat r1 with
      | .error e => .error e
      | .ok (bs, r2) => .ok (⟨d, 16, 0, a, 0, strOfNums bs⟩, 0, r2)
  else if c ≥ 240 then
    match dat r with
    | .error e => .error e
    | .ok (bs, r2) => .ok (⟨d, 15, 0, c, 0, strOfNums bs⟩, 0, r2)
  else
    match low r with
    | .error e => .error e
    | .ok (a, r1) => if c / 16 = 12 ∨ c / 16 = 13 then .ok (⟨d, c / 16, c % 16, a, 0, ⟨#[]⟩⟩, c, r1) else
      match low r1 with
      | .error e => .error e
      | .ok (b, r2) => .ok (⟨d, c / 16, c % 16, a, b, ⟨#[]⟩⟩, c, r2)
def msg (last : Int) (r : List Int) : Except Int (Msg × Int × List Int) :=
  match vlq 4 0 r with
  | .error e => .error e
  | .ok (_, []) => .error 152
  | .ok (d, c :: r1) => if c < 128 then (if last = 0 then .error 151 else body d last (c :: r1)) else if c > 240 ∧ c ≠ 247 ∧ c ≠ 255 then .error 151 else body d c r1

/-- The messages of bytes. -/
inductive Dec : Int → List Int → List Msg → Prop
  | nil (l : Int) : Dec l [] []
  | cons {l l' : Int} {r r' : List Int} {m : Msg} {ms : List Msg} : msg l r = .ok (m, l', r') → Dec l' r' ms → Dec l r (m :: ms)
/-- Bytes of which a message is wrong: how, and how many bytes are left where it begins. -/
inductive Bad : Int → List Int → Int → Nat → Prop
  | here {l e : Int} {r : List Int} : r ≠ [] → msg l r = .error e → Bad l r e r.length
  | later {l l' e : Int} {r r' : List Int} {m : Msg} {n : Nat} : msg l r = .ok (m, l', r') → Bad l' r' e n → Bad l r e n

def Right (m : Msg) : Prop := 0 ≤ m.f0 ∧ m.f0 ≤ 268435455 ∧ m.f5.size ≤ 100000 ∧
  ((8 ≤ m.f1 ∧ m.f1 ≤ 14 ∧ 0 ≤ m.f2 ∧ m.f2 ≤ 15 ∧ 0 ≤ m.f3 ∧ m.f3 ≤ 127 ∧ 0 ≤ m.f4 ∧ m.f4 ≤ 127 ∧ (m.f1 = 12 ∨ m.f1 = 13 → m.f4 = 0) ∧ m.f5.size = 0) ∨
   (m.f1 = 15 ∧ m.f2 = 0 ∧ m.f4 = 0 ∧ (m.f3 = 240 ∨ m.f3 = 247)) ∨ (m.f1 = 16 ∧ m.f2 = 0 ∧ m.f4 = 0 ∧ 0 ≤ m.f3 ∧ m.f3 ≤ 127))
instance (m : Msg) : Decidable (Right m) := by unfold Right; infer_instance

def encOne (l : Int) (m : Msg) : List Int :=
  if m.f1 = 16 then num m.f0 ++ (255 :: m.f3 :: (num m.f5.size ++ bytesOf m.f5))
  else if m.f1 = 15 then num m.f0 ++ (m.f3 :: (num m.f5.size ++ bytesOf m.f5))
  else num m.f0 ++ ((if 16 * m.f1 + m.f2 = l then [] else [16 * m.f1 + m.f2]) ++ (m.f3 :: (if m.f1 = 12 ∨ m.f1 = 13 then [] else [m.f4])))
def nextL (m : Msg) : Int := if m.f1 = 16 then 0 else if m.f1 = 15 then 0 else 16 * m.f1 + m.f2
def enc : Int → List Msg → List Int
  | _, [] => []
  | l, m :: ms => encOne l m ++ enc (nextL m) ms

theorem low_lo {c : Int} {r : List Int} (h : c < 128) : low (c :: r) = .ok (c, r) := by rw [low, if_neg (by omega)]
theorem low_ok {a : Int} {r r' : List Int} (h : low r = .ok (a, r')) : r = a :: r' ∧ a < 128 := by
  cases r with
  | nil => cases h
  | cons c r =>
    by_cases hc : c ≥ 128
    · rw [low, if_pos hc] at h; cases h
    · rw [low, if_neg hc] at h
      injection h with h
      injection h with h1 h2
      subst h1 h2
      exact ⟨rfl, by omega⟩
theorem low_ext {a : Int} {r r' : List Int} (h : low r = .ok (a, r')) (t : List Int) : low (r ++ t) = .ok (a, r' ++ t) := by
  obtain ⟨rfl, hc⟩ := low_ok h
  rw [List.cons_append, low_lo hc]
theorem low_err {e : Int} {r : List Int} (h : low r = .error e) (h2 : e ≠ 152) (t : List Int) : low (r ++ t) = .error e := by
  cases r with
  | nil => rw [low] at h; injection h with h; exact absurd h.symm h2
  | cons c r =>
    by_cases hc : c ≥ 128
    · rw [low, if_pos hc] at h
      rw [List.cons_append, low, if_pos hc]; exact h
    · rw [low, if_neg hc] at h; cases h

theorem dat_num {n : Int} {bs r : List Int} (h1 : n ≤ 100000) (hn : n = bs.length) : dat (num n ++ (bs ++ r)) = .ok (bs, r) := by
  unfold dat
  rw [vlq_num (by omega) (by omega)]
  dsimp only
  rw [if_neg (by omega), if_neg (by rw [List.length_append]; omega)]
  have e : n.toNat = bs.length := by omega
  rw [e, List.take_left, List.drop_left]
theorem dat_ok {bs r r' : List Int} (hb : Bytes r) (h : dat r = .ok (bs, r')) : (bs.length : Int) ≤ 100000 ∧ Bytes bs ∧ ∃ p, r = p ++ (bs ++ r') ∧ (num bs.length).length ≤ p.length := by
  unfold dat at h
  cases hv : vlq 4 0 r with
  | error e => rw [hv] at h; cases h
  | ok x =>
    obtain ⟨n, r1⟩ := x
    rw [hv] at h
    dsimp only at h
    obtain ⟨h0, _, p, hp, hl⟩ := vlq4_ok hb hv
    by_cases c1 : n > 100000
    · rw [if_pos c1] at h; cases h
    · rw [if_neg c1] at h
      by_cases c2 : n > r1.length
      · rw [if_pos c2] at h; cases h
      · rw [if_neg c2] at h
        injection h with h
        injection h with e1 e2
        subst e1 e2
        have hb1 : Bytes r1 := by rw [hp] at hb; exact hb.right
        have hlen : ((r1.take n.toNat).length : Int) = n := by rw [List.length_take]; omega
        refine ⟨by omega, hb1.take _, p, by rw [List.take_append_drop]; exact hp, by rw [hlen]; exact hl⟩
theorem dat_ext {bs r r' : List Int} (h : dat r = .ok (bs, r')) (t : List Int) : dat (r ++ t) = .ok (bs, r' ++ t) := by
  unfold dat at h ⊢
  cases hv : vlq 4 0 r with
  | error e => rw [hv] at h; cases h
  | ok x =>
    obtain ⟨n, r1⟩ := x
    rw [hv] at h
    rw [vlq_ext hv t]
    dsimp only at h ⊢
    by_cases c1 : n > 100000
    · rw [if_pos c1] at h; cases h
    · rw [if_neg c1] at h ⊢
      by_cases c2 : n > r1.length
      · rw [if_pos c2] at h; cases h
      · rw [if_neg c2] at h
        rw [if_neg (by rw [List.length_append]; omega)]
        injection h with h
        injection h with e1 e2
        subst e1 e2
        rw [List.take_append_of_le_length (by omega), List.drop_append_of_le_length (by omega)]
theorem dat_err {e : Int} {r : List Int} (h : dat r = .error e) (h2 : e ≠ 152) (t : List Int) : dat (r ++ t) = .error e := by
  unfold dat at h ⊢
  cases hv : vlq 4 0 r with
  | error e' =>
    rw [hv] at h
    injection h with h
    subst h
    rw [vlq_err hv h2 t]
  | ok x =>
    obtain ⟨n, r1⟩ := x
    rw [hv] at h
    rw [vlq_ext hv t]
    dsimp only at h ⊢
    by_cases c1 : n > 100000
    · rw [if_pos c1] at h ⊢; exact h
    · rw [if_neg c1] at h
      by_cases c2 : n > r1.length
      · rw [if_pos c2] at h; injection h with h; exact absurd h.symm h2
      · rw [if_neg c2] at h; cases h

/-! ### a body -/
theorem body_255 (d : Int) (r : List Int) : body d 255 r = (match low r with
    | .error e => .error e
    | .ok (a, r1) => match dat r1 with
      | .error e => .error e
      | .ok (bs, r2) => .ok (⟨d, 16, 0, a, 0, strOfNums bs⟩, 0, r2)) := by (unfold body; rw [if_pos rfl]) <;> rfl
theorem body_sys {c : Int} (h : c ≠ 255) (h2 : c ≥ 240) (d : Int) (r : List Int) : body d c r = (match dat r with
    | .error e => .error e
    | .ok (bs, r2) => .ok (⟨d, 15, 0, c, 0, strOfNums bs⟩, 0, r2)) := by (unfold body; rw [if_neg h, if_pos h2]) <;> rfl
theorem body_key {c : Int} (h2 : c < 240) (d : Int) (r : List Int) : body d c r = (match low r with
    | .error e => .error e
    | .ok (a, r1) => if c / 16 = 12 ∨ c / 16 = 13 then .ok (⟨d, c / 16, c % 16, a, 0, ⟨#[]⟩⟩, c, r1) else
      match low r1 with
      | .error e => .error e
      | .ok (b, r2) => .ok (⟨d, c / 16, c % 16, a, b, ⟨#[]⟩⟩, c, r2)) := by (unfold body; rw [if_neg (by omega), if_neg (by omega)]) <;> rfl

theorem body_ext {d c : Int} {r r' : List Int} {m : Msg} {l : Int} (h : body d c r = .ok (m, l, r')) (t : List Int) : body d c (r ++ t) = .ok (m, l, r' ++ t) := by
  by_cases c1 : c = 255
  · subst c1
    rw [body_255] at h ⊢
    cases hl : low r with
    | error e => rw [hl] at h; cases h
    | ok x =>
      obtain ⟨a, r1⟩ := x
      rw [hl] at h
      rw [low_ext hl t]
      dsimp only at h ⊢
      cases hd : dat r1 with
      | error e => rw [hd] at h; cases h
      | ok y =>
        obtain ⟨bs, r2⟩ := y
        rw [hd] at h
        rw [dat_ext hd t]
        dsimp only at h ⊢
        injection h with h; injection h with h1 h; injection h with h2 h3; subst h1 h2 h3; rfl
  · by_cases c2 : c ≥ 240
    · rw [body_sys c1 c2] at h ⊢
      cases hd : dat r with
      | error e => rw [hd] at h; cases h
      | ok y =>
        obtain ⟨bs, r2⟩ := y
        rw [hd] at h
        rw [dat_ext hd t]
        dsimp only at h ⊢
        injection h with h; injection h with h1 h; injection h with h2 h3; subst h1 h2 h3; rfl
    · rw [body_key (by omega)] at h ⊢
      cases hl : low r with
      | error e => rw [hl] at h; cases h
      | ok x =>
        obtain ⟨a, r1⟩ := x
        rw [hl] at h
        rw [low_ext hl t]
        dsimp only at h ⊢
        by_cases c3 : c / 16 = 12 ∨ c / 16 = 13
        · rw [if_pos c3] at h ⊢
          injection h with h; injection h with h1 h; injection h with h2 h3; subst h1 h2 h3; rfl
        · rw [if_neg c3] at h ⊢
          cases hl2 : low r1 with
          | error e => rw [hl2] at h; cases h
          | ok y =>
            obtain ⟨b, r2⟩ := y
            rw [hl2] at h
            rw [low_ext hl2 t]
            dsimp only at h ⊢
            injection h with h; injection h with h1 h; injection h with h2 h3; subst h1 h2 h3; rfl
theorem body_err {d c e : Int} {r : List Int} (h : body d c r = .error e) (he : e ≠ 152) (t : List Int) : body d c (r ++ t) = .error e := by
  by_cases c1 : c = 255
  · subst c1
    rw [body_255] at h ⊢
    cases hl : low r with
    | error e' =>
      rw [hl] at h; injection h with h; subst h
      rw [low_err hl he t]
    | ok x =>
      obtain ⟨a, r1⟩ := x
      rw [hl] at h
      rw [low_ext hl t]
      dsimp only at h ⊢
      cases hd : dat r1 with
      | error e' =>
        rw [hd] at h; injection h with h; subst h
        rw [dat_err hd he t]
      | ok y => obtain ⟨bs, r2⟩ := y; rw [hd] at h; cases h
  · by_cases c2 : c ≥ 240
    · rw [body_sys c1 c2] at h ⊢
      cases hd : dat r with
      | error e' =>
        rw [hd] at h; injection h with h; subst h
        rw [dat_err hd he t]
      | ok y => obtain ⟨bs, r2⟩ := y; rw [hd] at h; cases h
    · rw [body_key (by omega)] at h ⊢
      cases hl : low r with
      | error e' =>
        rw [hl] at h; injection h with h; subst h
        rw [low_err hl he t]
      | ok x =>
        obtain ⟨a, r1⟩ := x
        rw [hl] at h
        rw [low_ext hl t]
        dsimp only at h ⊢
        by_cases c3 : c / 16 = 12 ∨ c / 16 = 13
        · rw [if_pos c3] at h; cases h
        · rw [if_neg c3] at h ⊢
          cases hl2 : low r1 with
          | error e' =>
            rw [hl2] at h; injection h with h; subst h
            rw [low_err hl2 he t]
          | ok y => obtain ⟨b, r2⟩ := y; rw [hl2] at h; cases h

/-! ### a message -/
theorem msg_at {l d c : Int} {r r1 : List Int} (h : vlq 4 0 r = .ok (d, c :: r1)) : msg l r = (if c < 128 then (if l = 0 then .error 151 else body d l (c :: r1)) else if c > 240 ∧ c ≠ 247 ∧ c ≠ 255 then .error 151 else body d c r1) := by
  unfold msg; rw [h]
theorem msg_ext {l l' : Int} {r r' : List Int} {m : Msg} (h : msg l r = .ok (m, l', r')) (t : List Int) : msg l (r ++ t) = .ok (m, l', r' ++ t) := by
  cases hv : vlq 4 0 r with
  | error e => unfold msg at h; rw [hv] at h; cases h
  | ok x =>
    obtain ⟨d, r1⟩ := x
    cases r1 with
    | nil => unfold msg at h; rw [hv] at h; cases h
    | cons c r1 =>
      rw [msg_at hv] at h
      have hv2 := vlq_ext hv t
      rw [List.cons_append] at hv2
      rw [msg_at hv2]
      by_cases c1 : c < 128
      · rw [if_pos c1] at h ⊢
        by_cases c2 : l = 0
        · rw [if_pos c2] at h; cases h
        · rw [if_neg c2] at h ⊢
          exact body_ext h t
      · rw [if_neg c1] at h ⊢
        by_cases c2 : c > 240 ∧ c ≠ 247 ∧ c ≠ 255
        · rw [if_pos c2] at h; cases h
        · rw [if_neg c2] at h ⊢
          exact body_ext h t
theorem msg_err {l e : Int} {r : List Int} (h : msg l r = .error e) (he : e ≠ 152) (t : List Int) : msg l (r ++ t) = .error e := by
  cases hv : vlq 4 0 r with
  | error e' =>
    unfold msg at h ⊢; rw [hv] at h; injection h with h; subst h
    rw [vlq_err hv he t]
  | ok x =>
    obtain ⟨d, r1⟩ := x
    cases r1 with
    | nil => unfold msg at h; rw [hv] at h; injection h with h; exact absurd h.symm he
    | cons c r1 =>
      rw [msg_at hv] at h
      have hv2 := vlq_ext hv t
      rw [List.cons_append] at hv2
      rw [msg_at hv2]
      by_cases c1 : c < 128
      · rw [if_pos c1] at h ⊢
        by_cases c2 : l = 0
        · rw [if_pos c2] at h ⊢; exact h
        · rw [if_neg c2] at h ⊢
          exact body_err h he t
      · rw [if_neg c1] at h ⊢
        by_cases c2 : c > 240 ∧ c ≠ 247 ∧ c ≠ 255
        · rw [if_pos c2] at h ⊢; exact h
        · rw [if_neg c2] at h ⊢
          exact body_err h he t

/-- The bytes of a right message are read as it, behind its own status byte, or where none may be left out. -/
theorem msg_enc {m : Msg} (hm : Right m) {l l' : Int} (hl : l' = l ∨ l' = 0) (r : List Int) : msg l (encOne l' m ++ r) = .ok (m, nextL m, r) := by
  obtain ⟨f0, f1, f2, f3, f4, f5⟩ := m
  obtain ⟨h0, h1, h2, h⟩ := hm
  dsimp only at h0 h1 h2 h
  unfold encOne nextL
  dsimp only
  rcases h with ⟨k1, k2, k3, k4, k5, k6, k7, k8, k9, k10⟩ | ⟨rfl, rfl, rfl, k⟩ | ⟨rfl, rfl, rfl, k1, k2⟩
  · have hf5 := eq_nil_of_size k10
    subst hf5
    rw [if_neg (show ¬ f1 = 16 by omega), if_neg (show ¬ f1 = 15 by omega), if_neg (show ¬ f1 = 16 by omega), if_neg (show ¬ f1 = 15 by omega)]
    have hk : ∀ t, body f0 (16 * f1 + f2) ((f3 :: (if f1 = 12 ∨ f1 = 13 then [] else [f4])) ++ t) = .ok (⟨f0, f1, f2, f3, f4, ⟨#[]⟩⟩, 16 * f1 + f2, t) := by
      intro t
      have e1 : (16 * f1 + f2) / 16 = f1 := by omega
      have e2 : (16 * f1 + f2) % 16 = f2 := by omega
      rw [body_key (by omega), List.cons_append, low_lo (by omega)]
      dsimp only
      rw [e1, e2]
      by_cases c : f1 = 12 ∨ f1 = 13
      · rw [if_pos c, if_pos c]
        have := k9 c
        subst this
        rfl
      · rw [if_neg c, if_neg c, List.singleton_append, low_lo (by omega)]
    by_cases c : 16 * f1 + f2 = l'
    · have hl' : l' = l := by omega
      rw [if_pos c, List.nil_append, List.append_assoc]
      have hv := vlq_num h0 h1 ((f3 :: (if f1 = 12 ∨ f1 = 13 then [] else [f4])) ++ r)
      rw [List.cons_append] at hv
      rw [List.cons_append, msg_at hv, if_pos (by omega), if_neg (by omega), ← List.cons_append, ← hl', ← c]
      exact hk r
    · rw [if_neg c, List.append_assoc, List.append_assoc]
      rw [List.singleton_append]
      rw [msg_at (vlq_num h0 h1 _), if_neg (by omega), if_neg (by omega)]
      exact hk r
  · rw [if_neg (show ¬ (15 : Int) = 16 by decide), if_pos rfl, if_neg (show ¬ (15 : Int) = 16 by decide), if_pos rfl]
    rw [List.append_assoc, List.cons_append, List.append_assoc]
    rw [msg_at (vlq_num h0 h1 _), if_neg (by omega), if_neg (by omega), body_sys (by omega) (by omega)]
    rw [dat_num (by omega) (by rw [bytesOf_length])]
    dsimp only
    rw [str_bytesOf]
  · rw [if_pos rfl, if_pos rfl]
    rw [List.append_assoc, List.cons_append, List.cons_append, List.append_assoc]
    rw [msg_at (vlq_num h0 h1 _), if_neg (by omega), if_neg (by omega), body_255, low_lo (by omega)]
    dsimp only
    rw [dat_num (by omega) (by rw [bytesOf_length])]
    dsimp only
    rw [str_bytesOf]

/-- A status byte that may be left out, or none. -/
def LastOk (l : Int) : Prop := l = 0 ∨ 128 ≤ l ∧ l < 240
theorem nextL_ok {m : Msg} (hm : Right m) : LastOk (nextL m) := by
  obtain ⟨f0, f1, f2, f3, f4, f5⟩ := m
  obtain ⟨h0, h1, h2, h⟩ := hm
  unfold nextL LastOk
  dsimp only at h ⊢
  split
  · exact .inl rfl
  · split
    · exact .inl rfl
    · omega

theorem body_key_ok {d c : Int} {r r' : List Int} {m : Msg} {l' : Int} (hd0 : 0 ≤ d) (hd1 : d ≤ 268435455) (hb : Bytes r) (h1 : 128 ≤ c) (h2 : c < 240) (h : body d c r = .ok (m, l', r')) :
    Right m ∧ l' = nextL m ∧ m.f0 = d ∧ m.f1 ≠ 16 ∧ m.f1 ≠ 15 ∧ 16 * m.f1 + m.f2 = c ∧ ∃ p, r = p ++ r' ∧ p = m.f3 :: (if m.f1 = 12 ∨ m.f1 = 13 then [] else [m.f4]) := by
  rw [body_key h2] at h
  cases hl : low r with
  | error e => rw [hl] at h; cases h
  | ok x =>
    obtain ⟨a, r1⟩ := x
    rw [hl] at h
    dsimp only at h
    obtain ⟨rfl, ha⟩ := low_ok hl
    have ha0 := hb.head
    by_cases c3 : c / 16 = 12 ∨ c / 16 = 13
    · rw [if_pos c3] at h
      injection h with h; injection h with e1 h; injection h with e2 e3; subst e1 e2 e3
      refine ⟨⟨hd0, hd1, by show (⟨#[]⟩ : ByteArray).size ≤ 100000; rw [size_nil]; omega, .inl ?_⟩, ?_, rfl, ?_, ?_, ?_, [a], rfl, ?_⟩
      · exact ⟨by dsimp only; omega, by dsimp only; omega, by dsimp only; omega, by dsimp only; omega, by dsimp only; omega, by dsimp only; omega, by dsimp only; omega, by dsimp only; omega, fun _ => rfl, rfl⟩
      · unfold nextL; dsimp only; rw [if_neg (by omega), if_neg (by omega)]; omega
      · dsimp only; omega
      · dsimp only; omega
      · dsimp only; omega
      · dsimp only; rw [if_pos c3]
    · rw [if_neg c3] at h
      cases hl2 : low r1 with
      | error e => rw [hl2] at h; cases h
      | ok y =>
        obtain ⟨b, r2⟩ := y
        rw [hl2] at h
        dsimp only at h
        obtain ⟨rfl, hb2⟩ := low_ok hl2
        have hb0 := hb.tail.head
        injection h with h; injection h with e1 h; injection h with e2 e3; subst e1 e2 e3
        refine ⟨⟨hd0, hd1, by show (⟨#[]⟩ : ByteArray).size ≤ 100000; rw [size_nil]; omega, .inl ?_⟩, ?_, rfl, ?_, ?_, ?_, [a, b], rfl, ?_⟩
        · exact ⟨by dsimp only; omega, by dsimp only; omega, by dsimp only; omega, by dsimp only; omega, by dsimp only; omega, by dsimp only; omega, by dsimp only; omega, by dsimp only; omega, fun hh => absurd hh c3, rfl⟩
        · unfold nextL; dsimp only; rw [if_neg (by omega), if_neg (by omega)]; omega
        · dsimp only; omega
        · dsimp only; omega
        · dsimp only; omega
        · dsimp only; rw [if_neg c3]

/-- What is read is right; its own bytes are no more. -/
theorem msg_ok {l l' : Int} {r r' : List Int} {m : Msg} (hl : LastOk l) (hb : Bytes r) (h : msg l r = .ok (m, l', r')) :
    Right m ∧ l' = nextL m ∧ ∃ p, r = p ++ r' ∧ (encOne l m).length ≤ p.length ∧ 1 ≤ p.length := by
  cases hv : vlq 4 0 r with
  | error e => unfold msg at h; rw [hv] at h; cases h
  | ok x =>
    obtain ⟨d, r1⟩ := x
    cases r1 with
    | nil => unfold msg at h; rw [hv] at h; cases h
    | cons c r1 =>
      rw [msg_at hv] at h
      obtain ⟨hd0, hd1, p, rfl, hp⟩ := vlq4_ok hb hv
      have hnl := (num_len d).1
      have hb1 : Bytes (c :: r1) := hb.right
      have hc := hb1.head
      by_cases c1 : c < 128
      · rw [if_pos c1] at h
        by_cases c2 : l = 0
        · rw [if_pos c2] at h; cases h
        · rw [if_neg c2] at h
          have hl2 : 128 ≤ l ∧ l < 240 := by rcases hl with hl | hl <;> omega
          obtain ⟨hr, hn, hf0, hk1, hk2, hst, q, hq, hqe⟩ := body_key_ok hd0 hd1 hb1 hl2.1 hl2.2 h
          refine ⟨hr, hn, p ++ q, by rw [hq, List.append_assoc], ?_, by rw [List.length_append]; omega⟩
          unfold encOne
          rw [if_neg hk1, if_neg hk2, if_pos hst, hf0, hqe]
          simp only [List.length_append, List.nil_append]
          omega
      · rw [if_neg c1] at h
        by_cases c2 : c > 240 ∧ c ≠ 247 ∧ c ≠ 255
        · rw [if_pos c2] at h; cases h
        · rw [if_neg c2] at h
          by_cases c3 : c < 240
          · obtain ⟨hr, hn, hf0, hk1, hk2, hst, q, hq, hqe⟩ := body_key_ok hd0 hd1 hb1.tail (by omega) c3 h
            refine ⟨hr, hn, p ++ (c :: q), by rw [hq, List.append_assoc, List.cons_append], ?_, by rw [List.length_append]; simp only [List.length_cons]; omega⟩
            unfold encOne
            rw [if_neg hk1, if_neg hk2, hf0, hqe]
            simp only [List.length_append, List.length_cons]
            split <;> simp <;> omega
          · by_cases c4 : c = 255
            · subst c4
              rw [body_255] at h
              cases hlo : low r1 with
              | error e => rw [hlo] at h; cases h
              | ok x =>
                obtain ⟨a, r2⟩ := x
                rw [hlo] at h
                dsimp only at h
                obtain ⟨rfl, ha⟩ := low_ok hlo
                have ha0 := hb1.tail.head
                cases hda : dat r2 with
                | error e => rw [hda] at h; cases h
                | ok y =>
                  obtain ⟨bs, r3⟩ := y
                  rw [hda] at h
                  dsimp only at h
                  obtain ⟨hbl, hbb, q, rfl, hq⟩ := dat_ok hb1.tail.tail hda
                  injection h with h; injection h with e1 h; injection h with e2 e3; subst e1 e2 e3
                  refine ⟨⟨hd0, hd1, by show (strOfNums bs).size ≤ 100000; rw [str_size]; omega, .inr (.inr ⟨rfl, rfl, rfl, ha0.1, by show a ≤ 127; omega⟩)⟩, rfl, p ++ (255 :: a :: (q ++ bs)), by simp [List.append_assoc], ?_, by rw [List.length_append]; simp only [List.length_cons]; omega⟩
                  unfold encOne
                  rw [if_pos rfl, str_size, bytesOf_str hbb]
                  simp only [List.length_append, List.length_cons]
                  omega
            · rw [body_sys c4 (by omega)] at h
              cases hda : dat r1 with
              | error e => rw [hda] at h; cases h
              | ok y =>
                obtain ⟨bs, r3⟩ := y
                rw [hda] at h
                dsimp only at h
                obtain ⟨hbl, hbb, q, rfl, hq⟩ := dat_ok hb1.tail hda
                injection h with h; injection h with e1 h; injection h with e2 e3; subst e1 e2 e3
                refine ⟨⟨hd0, hd1, by show (strOfNums bs).size ≤ 100000; rw [str_size]; omega, .inr (.inl ⟨rfl, rfl, rfl, by show c = 240 ∨ c = 247; omega⟩)⟩, rfl, p ++ (c :: (q ++ bs)), by simp [List.append_assoc], ?_, by rw [List.length_append]; simp only [List.length_cons]; omega⟩
                unfold encOne
                rw [if_neg (by show ¬ (15 : Int) = 16; decide), if_pos rfl, str_size, bytesOf_str hbb]
                simp only [List.length_append, List.length_cons]
                omega

def Rights (ms : List Msg) : Prop := ∀ m ∈ ms, Right m
theorem Rights.nil : Rights [] := by intro m h; cases h
theorem Rights.head {m : Msg} {ms : List Msg} (h : Rights (m :: ms)) : Right m := h m (by simp)
theorem Rights.tail {m : Msg} {ms : List Msg} (h : Rights (m :: ms)) : Rights ms := fun x hx => h x (by simp [hx])
theorem Rights.cons {m : Msg} {ms : List Msg} (h : Right m) (k : Rights ms) : Rights (m :: ms) := by
  intro x hx
  rcases List.mem_cons.1 hx with rfl | hx
  · exact h
  · exact k x hx
/-- The status byte behind messages. -/
def lastOf : Int → List Msg → Int
  | l, [] => l
  | _, m :: ms => lastOf (nextL m) ms
theorem lastOf_ok : ∀ {ms : List Msg} {l : Int}, Rights ms → LastOk l → LastOk (lastOf l ms)
  | [], _, _, h => h
  | m :: ms, _, hr, _ => lastOf_ok (ms := ms) (l := nextL m) hr.tail (nextL_ok hr.head)
theorem enc_nil (l : Int) : enc l [] = [] := rfl
theorem enc_cons (l : Int) (m : Msg) (ms : List Msg) : enc l (m :: ms) = encOne l m ++ enc (nextL m) ms := rfl
theorem enc_append : ∀ (l : Int) (a b : List Msg), enc l (a ++ b) = enc l a ++ enc (lastOf l a) b
  | _, [], _ => rfl
  | l, m :: a, b => by rw [List.cons_append, enc_cons, enc_cons, enc_append (nextL m) a b, List.append_assoc]; rfl
theorem encOne_len (l : Int) (m : Msg) : 1 ≤ (encOne l m).length := by
  unfold encOne
  have := (num_len m.f0).1
  split
  · simp only [List.length_append, List.length_cons]; omega
  · split
    · simp only [List.length_append, List.length_cons]; omega
    · simp only [List.length_append, List.length_cons]; omega
theorem enc_size : ∀ (l : Int) (ms : List Msg) (B : Nat), (∀ m ∈ ms, m.f5.size ≤ B) → (enc l ms).length ≤ ms.length * (B + 10)
  | _, [], _, _ => by rw [enc_nil]; simp
  | l, m :: ms, B, h => by
    have ih := enc_size (nextL m) ms B (fun x hx => h x (by simp [hx]))
    have hm := h m (by simp)
    have h1 : (encOne l m).length ≤ B + 10 := by
      have a1 := (num_len m.f0).2
      have a2 := (num_len m.f5.size).2
      unfold encOne
      split
      · simp only [List.length_append, List.length_cons, bytesOf_length]; omega
      · split
        · simp only [List.length_append, List.length_cons, bytesOf_length]; omega
        · simp only [List.length_append, List.length_cons]
          split <;> split <;> simp <;> omega
    rw [enc_cons, List.length_append, List.length_cons, Nat.add_mul]
    omega

theorem msg_nil (l : Int) : msg l [] = .error 152 := rfl
/-- There and back, whatever stands behind. -/
theorem dec_enc : ∀ {ms : List Msg} {l l' : Int} {r : List Int} {ns : List Msg}, Rights ms → (l' = l ∨ l' = 0) → Dec (lastOf l ms) r ns → Dec l (enc l' ms ++ r) (ms ++ ns)
  | [], _, _, _, _, _, _, h => h
  | m :: ms, l, l', r, ns, hr, hl, h => by
    rw [enc_cons, List.append_assoc, List.cons_append]
    exact .cons (msg_enc hr.head hl _) (dec_enc hr.tail (.inl rfl) h)
theorem dec_enc0 {ms : List Msg} {l l' : Int} (hr : Rights ms) (hl : l' = l ∨ l' = 0) : Dec l (enc l' ms) ms := by
  have h := dec_enc hr hl (.nil (lastOf l ms))
  rwa [List.append_nil, List.append_nil] at h
/-- What is read is right, and its own bytes are no more. -/
theorem enc_dec : ∀ {ms : List Msg} {l : Int} {r : List Int}, LastOk l → Bytes r → Dec l r ms → Rights ms ∧ (enc l ms).length ≤ r.length ∧ ms.length ≤ r.length
  | _, _, _, _, _, .nil _ => ⟨.nil, Nat.le_refl _, Nat.le_refl _⟩
  | _, _, _, hl, hb, .cons hm hd => by
    obtain ⟨h1, rfl, p, rfl, h2, h3⟩ := msg_ok hl hb hm
    obtain ⟨k1, k2, k3⟩ := enc_dec (nextL_ok h1) hb.right hd
    refine ⟨.cons h1 k1, ?_, ?_⟩
    · rw [enc_cons, List.length_append, List.length_append]; omega
    · rw [List.length_append, List.length_cons]; omega
/-- Whatever bytes: they are messages, or one is wrong. -/
theorem dec_or_bad : ∀ (n : Nat) (l : Int) (r : List Int), LastOk l → Bytes r → r.length ≤ n → (∃ ms, Dec l r ms) ∨ (∃ e k, Bad l r e k)
  | _, l, [], _, _, _ => .inl ⟨[], .nil l⟩
  | 0, l, c :: r, _, _, h => by simp at h
  | n + 1, l, c :: r, hl, hb, h => by
    cases hm : msg l (c :: r) with
    | error e => exact .inr ⟨e, _, .here (by simp) hm⟩
    | ok x =>
      obtain ⟨m, l', r'⟩ := x
      obtain ⟨h1, rfl, p, hp, h2, h3⟩ := msg_ok hl hb hm
      have hlen : (c :: r).length = p.length + r'.length := by rw [hp, List.length_append]
      have hb' : Bytes r' := by rw [hp] at hb; exact hb.right
      rcases dec_or_bad n (nextL m) r' (nextL_ok h1) hb' (by omega) with ⟨ms, hd⟩ | ⟨e, k, hd⟩
      · exact .inl ⟨_, .cons hm hd⟩
      · exact .inr ⟨e, k, .later hm hd⟩
theorem bad_len {l e : Int} {r : List Int} {k : Nat} (h : Bad l r e k) : LastOk l → Bytes r → 0 < k ∧ k ≤ r.length := by
  induction h with
  | here hne _ => exact fun _ _ => ⟨List.length_pos_iff.2 hne, Nat.le_refl _⟩
  | later hm _ ih =>
    intro hl hby
    obtain ⟨h1, rfl, p, rfl, h2, h3⟩ := msg_ok hl hby hm
    have := ih (nextL_ok h1) hby.right
    rw [List.length_append]
    omega
/-- A message that is cut off is short. -/
theorem msg_cut {m : Msg} (hm : Right m) (l : Int) (k : Nat) (hk : k < (encOne l m).length) : msg l ((encOne l m).take k) = .error 152 := by
  have he := msg_enc hm (l := l) (l' := l) (.inl rfl) []
  rw [List.append_nil] at he
  have hcat : (encOne l m).take k ++ (encOne l m).drop k = encOne l m := List.take_append_drop _ _
  cases hq : msg l ((encOne l m).take k) with
  | ok x =>
    obtain ⟨m', l', r'⟩ := x
    have h2 := msg_ext hq ((encOne l m).drop k)
    rw [hcat, he] at h2
    injection h2 with h2
    injection h2 with _ h2
    injection h2 with _ h2
    have h3 := congrArg List.length h2
    rw [List.length_append, List.length_drop] at h3
    simp at h3
    omega
  | error e =>
    by_cases h152 : e = 152
    · rw [h152]
    · have h2 := msg_err hq h152 ((encOne l m).drop k)
      rw [hcat, he] at h2
      cases h2
/-- Bytes that are cut off: the messages that are whole, and where the first one begins that isn't. -/
theorem dec_cut : ∀ {ms : List Msg} {l : Int}, Rights ms → ∀ k, k < (enc l ms).length → ∃ j, j < ms.length ∧
    (Dec l ((enc l ms).take k) (ms.take j) ∨ ∃ n, 0 < n ∧ n ≤ k ∧ Bad l ((enc l ms).take k) 152 n ∧ Dec l ((enc l ms).take (k - n)) (ms.take j))
  | [], _, _, k, hk => by simp [enc_nil] at hk
  | m :: ms, l, hr, k, hk => by
    rw [enc_cons] at hk ⊢
    by_cases h : k < (encOne l m).length
    · refine ⟨0, by simp, ?_⟩
      rw [List.take_append_of_le_length (by omega)]
      by_cases h0 : k = 0
      · subst h0
        left
        exact .nil l
      · right
        have hlen : ((encOne l m).take k).length = k := by rw [List.length_take]; omega
        have hb := Bad.here (l := l) (r := (encOne l m).take k) (by intro e; rw [e] at hlen; simp at hlen; omega) (msg_cut hr.head l k h)
        rw [hlen] at hb
        refine ⟨k, by omega, Nat.le_refl _, hb, ?_⟩
        rw [Nat.sub_self]
        exact .nil l
    · have hk2 : k - (encOne l m).length < (enc (nextL m) ms).length := by rw [List.length_append] at hk; omega
      obtain ⟨j, hj, hd⟩ := dec_cut hr.tail _ hk2
      have hone := fun r => msg_enc hr.head (l := l) (l' := l) (.inl rfl) r
      refine ⟨j + 1, by simp; omega, ?_⟩
      have htk : ∀ i, (encOne l m).length ≤ i → (encOne l m ++ enc (nextL m) ms).take i = encOne l m ++ (enc (nextL m) ms).take (i - (encOne l m).length) := by
        intro i hi
        rw [List.take_append, List.take_of_length_le hi]
      rw [htk k (by omega), List.take_succ_cons]
      rcases hd with hd | ⟨n, h1, h2, h3, h4⟩
      · left
        exact .cons (hone _) hd
      · right
        refine ⟨n, h1, by omega, .later (hone _) h3, ?_⟩
        rw [htk (k - n) (by omega)]
        have e : k - n - (encOne l m).length = k - (encOne l m).length - n := by omega
        rw [e]
        exact .cons (hone _) h4
theorem dec_fun : ∀ {l : Int} {r : List Int} {a b : List Msg}, Dec l r a → Dec l r b → a = b
  | _, _, _, _, .nil _, .nil _ => rfl
  | _, _, _, _, .nil _, .cons h _ => by rw [msg_nil] at h; cases h
  | _, _, _, _, .cons h _, .nil _ => by rw [msg_nil] at h; cases h
  | _, _, _, _, .cons h1 d1, .cons h2 d2 => by
    rw [h1] at h2
    injection h2 with h2
    injection h2 with e1 h2
    injection h2 with e2 e3
    subst e1 e2 e3
    rw [dec_fun d1 d2]
/-- But for a status byte that is left out the bytes of messages behind others are their own. -/
theorem enc_last {ms : List Msg} (hr : Rights ms) (l : Int) (hl : LastOk l) : (enc l ms).length = (enc 0 ms).length ∨ (enc l ms).length + 1 = (enc 0 ms).length := by
  cases ms with
  | nil => left; rfl
  | cons m ms =>
    rw [enc_cons, enc_cons, List.length_append, List.length_append]
    unfold encOne
    by_cases c1 : m.f1 = 16
    · rw [if_pos c1, if_pos c1]; left; rfl
    · by_cases c2 : m.f1 = 15
      · rw [if_neg c1, if_neg c1, if_pos c2, if_pos c2]; left; rfl
      · rw [if_neg c1, if_neg c1, if_neg c2, if_neg c2]
        have h8 : ¬ 16 * m.f1 + m.f2 = 0 := by
          obtain ⟨_, _, _, h⟩ := hr.head
          omega
        rw [if_neg h8]
        by_cases c3 : 16 * m.f1 + m.f2 = l
        · rw [if_pos c3]
          right
          simp only [List.length_append, List.length_nil, List.length_cons]
          omega
        · rw [if_neg c3]; left; rfl
/-- Keys of one kind and channel: one status byte ahead of all. -/
def plainLen : List Msg → Nat
  | [] => 0
  | m :: ms => (num m.f0).length + 2 + plainLen ms
theorem enc_running {kind ch : Int} (h1 : 8 ≤ kind) (h2 : kind ≤ 11) : ∀ {ms : List Msg}, Rights ms → (∀ m ∈ ms, m.f1 = kind ∧ m.f2 = ch) → (enc (16 * kind + ch) ms).length = plainLen ms
  | [], _, _ => rfl
  | m :: ms, hr, hk => by
    obtain ⟨e1, e2⟩ := hk m (by simp)
    have hn : nextL m = 16 * kind + ch := by
      unfold nextL
      rw [if_neg (by omega), if_neg (by omega), e1, e2]
    rw [enc_cons, hn, List.length_append, enc_running h1 h2 hr.tail (fun x hx => hk x (by simp [hx]))]
    unfold encOne
    rw [if_neg (by omega), if_neg (by omega), if_pos (by rw [e1, e2]), if_neg (by omega)]
    simp only [plainLen, List.length_append, List.length_cons, List.length_nil, List.nil_append]
theorem enc_running0 {kind ch : Int} (h1 : 8 ≤ kind) (h2 : kind ≤ 11) {ms : List Msg} (hr : Rights ms) (hk : ∀ m ∈ ms, m.f1 = kind ∧ m.f2 = ch) (hne : ms ≠ []) : (enc 0 ms).length = plainLen ms + 1 := by
  have h := enc_running h1 h2 hr hk
  cases ms with
  | nil => exact absurd rfl hne
  | cons m ms =>
    obtain ⟨e1, e2⟩ := hk m (by simp)
    have hch : 0 ≤ ch := by
      obtain ⟨_, _, _, hh⟩ := hr.head
      omega
    rw [enc_cons, List.length_append] at h ⊢
    unfold encOne at h ⊢
    rw [if_neg (by omega), if_neg (by omega), if_pos (by rw [e1, e2])] at h
    rw [if_neg (by omega), if_neg (by omega), if_neg (by omega)]
    simp only [List.length_append, List.length_cons, List.length_nil, List.nil_append] at h ⊢
    omega
end Go.Proofs.Ytmeefdaanjaoaaa.Z
